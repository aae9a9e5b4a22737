/- A font and a head that come in: their values written out, of a font its constants with what they read as. -/
import Derived.Test.YticfflihniifaaaPx0
import Derived.Test.YticfflihniifaaaFontK
import Derived.ProofKit
import Derived.OpenShut
import Derived.ChangeOld
namespace Go.Proofs.Yticfflihniifaaa.P
open Go.RowKit Go.ChangeShapes Go.WideShapes Go.Proofs.YticfflihniifaaaW.PrintWords Go.Proofs.YticfflihniifaaaW.PrintLast Go.Proofs.YticfflihniifaaaW.PrintMore
set_option linter.unusedVariables false
set_option linter.unusedSimpArgs false
theorem array17 {α : Type} {cs : Array α} (h : cs.size = 17) : ∃ c0 c1 c2 c3 c4 c5 c6 c7 c8 c9 c10 c11 c12 c13 c14 c15 c16, cs = #[c0, c1, c2, c3, c4, c5, c6, c7, c8, c9, c10, c11, c12, c13, c14, c15, c16] := by
  obtain ⟨l⟩ := cs
  match l, h with
  | [c0, c1, c2, c3, c4, c5, c6, c7, c8, c9, c10, c11, c12, c13, c14, c15, c16], _ => exact ⟨c0, c1, c2, c3, c4, c5, c6, c7, c8, c9, c10, c11, c12, c13, c14, c15, c16, rfl⟩
theorem trod_bool' {H : Type} {enc : TypeId × Value → H} {P : Program} {w : World} {base : Nat} {spare : Nat → Bool} {held : Bool} {t : TypeId} {fuel : Nat} {cs : List Value} {x : DataW H × List MemPlace} (ht : P.underlying t = some .bool) (h : DataW.trod enc P w base spare held fuel t cs = some x) : ∃ b, cs = [.bool b] := by
  cases fuel with
  | zero => simp [DataW.trod] at h
  | succ n =>
    unfold DataW.trod at h
    rw [ht] at h
    split at h <;> simp_all
/-- A field's cells read at its type. -/
theorem trod_field {H : Type} {enc : TypeId × Value → H} {P : Program} {w : World} {base : Nat} {spare : Nat → Bool} {held : Bool} {t : TypeId} {fs : Array Field} {fuel : Nat} {cs : List Value} {x : DataW H × List MemPlace} (ht : P.underlying t = some (.struct fs)) (h : DataW.trod enc P w base spare held fuel t cs = some x)
    (i : Nat) (tt : TypeId) (o n : Nat) (hf : (fs[i]?).map (fun f => (f.type, f.offset)) = some (tt, o)) (hn : P.cellsOf tt = n) : ∃ m y, DataW.trod enc P w base spare held m tt ((cs.drop o).take n) = some y := by
  obtain ⟨xs, m, _, _, _, hxl, hff⟩ := DataW.trod_struct ht h
  obtain ⟨f, he, hp⟩ := Option.map_eq_some_iff.1 hf
  simp only [Prod.mk.injEq] at hp
  obtain ⟨rfl, rfl⟩ := hp
  have hi : i < xs.length := by
    rw [hxl]
    exact (Array.getElem?_eq_some_iff.1 he).1
  have := hff i f he
  rw [hn, List.getElem?_eq_getElem hi] at this
  exact ⟨m, _, this⟩
theorem font_open {H : Type} {enc : TypeId × Value → H} {W : World} {base b0 : Nat} {held : Bool} {v : Value} {d : DataW H} {p : List MemPlace} (hv : Value.okWide Try.prog W .any b0 36 v) (h : DataW.Trod enc Try.prog W base (fun _ => true) held 36 v d p) :
    ∃ (a0 a1 a2 a3 a4 : Int) (a5 : Bool) (v6 v7 v8 v10 v11 v12 v13 v14 v15 v16 : Value) (A : Option Addr) (cp : Nat) (l : List Int), v = .agg #[.int .i64 a0, .int .i64 a1, .int .i64 a2, .int .i64 a3, .int .i64 a4, .bool a5, v6, v7, v8, .slice A l.length cp, v10, v11, v12, v13, v14, v15, v16] ∧ Kd.C (Kd.int .i64) W A l.length l ∧ l.length ≤ cp := by
  obtain ⟨cs, rfl, hsz⟩ := okWide_struct Try.underlying36 hv
  obtain ⟨c0, c1, c2, c3, c4, c5, c6, c7, c8, c9, c10, c11, c12, c13, c14, c15, c16, rfl⟩ := array17 (hsz.trans (show Try.prog.cellsOf 36 = 17 by kernel_rfl))
  obtain ⟨fuel, hf⟩ := h
  obtain ⟨m0, y0, k0⟩ := trod_field Try.underlying36 hf 0 23 0 6 rfl (by kernel_rfl)
  obtain ⟨m4, y4, k4⟩ := trod_field Try.underlying36 hf 4 34 9 8 rfl (by kernel_rfl)
  simp only [Value.cells, List.drop, List.take] at k0 k4
  obtain ⟨_, _, u0⟩ := trod_field Try.underlying23 k0 0 3 0 1 rfl (by kernel_rfl)
  obtain ⟨a0, e0, _, _⟩ := DataW.trod_int Try.underlying3 u0
  obtain ⟨_, _, u1⟩ := trod_field Try.underlying23 k0 1 3 1 1 rfl (by kernel_rfl)
  obtain ⟨a1, e1, _, _⟩ := DataW.trod_int Try.underlying3 u1
  obtain ⟨_, _, u2⟩ := trod_field Try.underlying23 k0 2 3 2 1 rfl (by kernel_rfl)
  obtain ⟨a2, e2, _, _⟩ := DataW.trod_int Try.underlying3 u2
  obtain ⟨_, _, u3⟩ := trod_field Try.underlying23 k0 3 3 3 1 rfl (by kernel_rfl)
  obtain ⟨a3, e3, _, _⟩ := DataW.trod_int Try.underlying3 u3
  obtain ⟨_, _, u4⟩ := trod_field Try.underlying23 k0 4 3 4 1 rfl (by kernel_rfl)
  obtain ⟨a4, e4, _, _⟩ := DataW.trod_int Try.underlying3 u4
  obtain ⟨_, _, u5⟩ := trod_field Try.underlying23 k0 5 4 5 1 rfl (by kernel_rfl)
  obtain ⟨a5, e5⟩ := trod_bool' Try.underlying4 u5
  obtain ⟨_, _, u9⟩ := trod_field Try.underlying34 k4 0 27 0 1 rfl (by kernel_rfl)
  simp only [List.drop, List.take] at e0 e1 e2 e3 e4 e5 u9
  simp only [List.cons.injEq, and_true] at e0 e1 e2 e3 e4 e5
  subst e0 e1 e2 e3 e4 e5
  have hrow : ∃ (A : Option Addr) (cp : Nat) (l : List Int), c9 = .slice A l.length cp ∧ Kd.C (Kd.int .i64) W A l.length l ∧ l.length ≤ cp := by
    rcases open_ints Try.underlying27 Try.underlying3 (by kernel_rfl) u9 with ⟨hcs, _⟩ | ⟨x, ln, cp, zs, hcs, _, hl, hm, hz, _, hcell, hwz⟩
    · simp only [List.cons.injEq, and_true] at hcs
      subst hcs
      exact ⟨none, 0, [], rfl, Kd.C_nil _ _, Nat.le_refl _⟩
    · simp only [List.cons.injEq, and_true] at hcs
      subst hcs
      obtain ⟨l0, rfl, hr0, _, _, hc0⟩ := ReadsInt.ofRowC (w := W) (a := some x) (len := ln) (cap := cp) (zs := zs) (.inr ⟨x, rfl, hl, hm, by simpa using hz, hcell, hwz⟩)
      exact ⟨some x, cp, l0, rfl, Kd.C_of_reads (d := (0 : Int)) (h1 := fun _ => rfl) hr0, hc0⟩
  obtain ⟨A, cp, l, rfl, hC, hle⟩ := hrow
  exact ⟨a0, a1, a2, a3, a4, a5, c6, c7, c8, c10, c11, c12, c13, c14, c15, c16, A, cp, l, rfl, hC, hle⟩
end Go.Proofs.Yticfflihniifaaa.P
