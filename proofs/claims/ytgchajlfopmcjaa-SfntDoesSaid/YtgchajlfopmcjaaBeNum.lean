/- Plain numbers: bytes as one big-endian number, and the bit laws that a walk over such code wants. No condition. -/
import Derived.Laws.BitsLemmas
import Derived.Lib.ConvBytes
import Derived.RowKit
namespace Go.Proofs.Ytgchajlfopmcjaa.BN
open Go.RowKit
set_option linter.unusedVariables false

def be (l : List UInt8) : Int := l.foldl (fun v c => v * 256 + (c.toNat : Int)) 0
theorem be_snoc (l : List UInt8) (c : UInt8) : be (l ++ [c]) = be l * 256 + (c.toNat : Int) := by unfold be; rw [List.foldl_append]; rfl
theorem be_nil : be [] = 0 := rfl
theorem be_fold (l : List UInt8) : ∀ (v N : Int), 0 ≤ v → v < N → 0 ≤ l.foldl (fun v c => v * 256 + (c.toNat : Int)) v ∧ l.foldl (fun v c => v * 256 + (c.toNat : Int)) v < N * 256 ^ l.length := by
  induction l with
  | nil => intro v N h0 h1; simp; omega
  | cons c l ih =>
    intro v N h0 h1
    have hc := c.toNat_lt
    obtain ⟨a, b⟩ := ih (v * 256 + (c.toNat : Int)) (N * 256) (by omega) (by omega)
    refine ⟨a, ?_⟩
    rw [List.foldl_cons, List.length_cons, Int.pow_succ', ← Int.mul_assoc]
    exact b
theorem be_bound (l : List UInt8) : 0 ≤ be l ∧ be l < 256 ^ l.length := by
  have := be_fold l 0 1 (by omega) (by omega)
  rwa [Int.one_mul] at this
theorem be_small (l : List UInt8) (h : l.length ≤ 4) : 0 ≤ be l ∧ be l < 4294967296 := by
  obtain ⟨h0, h1⟩ := be_bound l
  refine ⟨h0, ?_⟩
  have : l.length = 0 ∨ l.length = 1 ∨ l.length = 2 ∨ l.length = 3 ∨ l.length = 4 := by omega
  rcases this with e | e | e | e | e <;> rw [e] at h1 <;> omega
theorem be_small3 (l : List UInt8) (h : l.length ≤ 3) : 0 ≤ be l ∧ be l < 16777216 := by
  obtain ⟨h0, h1⟩ := be_bound l
  refine ⟨h0, ?_⟩
  have : l.length = 0 ∨ l.length = 1 ∨ l.length = 2 ∨ l.length = 3 := by omega
  rcases this with e | e | e | e <;> rw [e] at h1 <;> omega
def bytesl (s : ByteArray) : List UInt8 := s.data.toList
theorem bytesl_length (s : ByteArray) : (bytesl s).length = s.size := rfl
theorem bytesl_take (s : ByteArray) (k : Nat) (h : k < s.size) : (bytesl s).take (k + 1) = (bytesl s).take k ++ [s[k]] := by
  unfold bytesl
  rw [List.take_succ_eq_append_getElem (by simpa using h)]; rfl
theorem or_join (x c : Int) (h0 : 0 ≤ x) (h1 : x < 16777216) (c0 : 0 ≤ c) (c1 : c < 256) : bits .or .i64 (x * 256) c = x * 256 + c :=
  bits_join .i64 62 (by decide) (fun n h0 h1 => by rw [IntKind.wrap_i64]; omega) 8 (x * 256) c (by omega) (by omega) (by omega) c0 (by omega) (by omega)
theorem getD_byte (s : ByteArray) (k : Nat) (h : k < s.size) : s.data[k]?.getD 0 = s[k] := by
  rw [Array.getElem?_eq_getElem h]; rfl
/-- What 'take' reads: m bytes, of a size n. -/
def takeV (s : ByteArray) (m : Nat) (n : Int) : Int :=
  if n < 0 ∧ 2 ^ (8 * m - 1) ≤ be ((bytesl s).take m) then be ((bytesl s).take m) - 2 ^ (8 * m) else be ((bytesl s).take m)
theorem takeV_neg (s : ByteArray) (m : Nat) (n : Int) (hn : n < 0) (h : 2 ^ (8 * m - 1) ≤ be ((bytesl s).take m)) : takeV s m n = be ((bytesl s).take m) - 2 ^ (8 * m) := if_pos ⟨hn, h⟩
theorem takeV_pos (s : ByteArray) (m : Nat) (n : Int) (h : ¬ (n < 0 ∧ 2 ^ (8 * m - 1) ≤ be ((bytesl s).take m))) : takeV s m n = be ((bytesl s).take m) := if_neg h
theorem frozen_bytesWorld {w : World} {g : Nat} (e : TypeId) (s : ByteArray) (hg : g < w.heap.size) (j : Nat) : (Lib.bytesWorld w e s).frozen? ⟨g, j, none⟩ = w.frozen? ⟨g, j, none⟩ := by
  simp only [World.frozen?, Lib.bytesWorld_at_old w e s g hg]
theorem wrap_byte (c : UInt8) : wrap64 ((c.toNat : Nat) : Int) = (c.toNat : Int) := by have := c.toNat_lt; unfold wrap64; omega
theorem or_byte (l : List UInt8) (c : UInt8) (h : l.length ≤ 3) : bits .or .i64 (be l * 256) (wrap64 ((c.toNat : Nat) : Int)) = be (l ++ [c]) := by
  have hb := be_small3 l h
  have := c.toNat_lt
  rw [wrap_byte, be_snoc, or_join _ _ hb.1 hb.2 (by omega) (by omega)]
end Go.Proofs.Ytgchajlfopmcjaa.BN
