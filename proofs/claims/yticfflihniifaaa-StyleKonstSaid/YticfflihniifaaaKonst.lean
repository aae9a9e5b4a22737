/- konst's sizes, Get and Put, walked. Conditions: the sizes of what came in. -/
import Derived.Test.YticfflihniifaaaKonstRow
import Derived.Test.YticfflihniifaaaBinPut
import Derived.Test.YticfflihniifaaaPutSpec
import Derived.Deep.RegionWith
import Derived.Deep.RegionLaw
import Derived.Deep.RegionHeld3
import Derived.Deep.AppendLies
import Derived.RegionTactic
import Derived.ChangeAlike
import Derived.Tactics2
namespace Go.Proofs.Yticfflihniifaaa.P
open Go.RowKit Go.Proofs.YticfflihniifaaaW.PrintWords Go.Proofs.YticfflihniifaaaW.PrintLast Go.Proofs.YticfflihniifaaaW.PrintMore Go.Proofs.Yticfflihniifaaa.BN
set_option maxRecDepth 100000
set_option linter.unusedVariables false
set_option linter.unusedSimpArgs false
theorem R_of_own {w : World} {base : Nat} {v : Value} {e : Nat} {xs : List Int} (h : w.ownsRow base e 1 v xs.length (nums .i64 xs)) : Kd.R (Kd.int .i64) e w base (fun _ => True) v xs := by
  refine ⟨fun _ _ => trivial, nums .i64 xs, h, by simp [nums, Kd.int, Kd.scalar], fun j p hj => ?_⟩
  have hlt := (List.getElem?_eq_some_iff.1 hj).1
  show ((nums .i64 xs).drop (j * 1)).take 1 = [Value.int .i64 p]
  have hq : (nums .i64 xs)[j]? = some (Value.int .i64 p) := by simp [nums, hj]
  rw [Nat.mul_one, List.drop_eq_getElem_cons (by simpa [nums] using hlt)]
  have := (List.getElem?_eq_some_iff.1 hq).2
  simp [this]

def posK : Nat → Nat
  | 0 => 0
  | k + 1 => posK k + 1 + (moreK k).toNat
def sizesUpTo : Nat → List Int
  | 0 => []
  | k + 1 => sizesUpTo k ++ [sizeK k] ++ (if moreK k then [2] else [])
def spreadUpTo (l : List Int) : Nat → List Int
  | 0 => []
  | k + 1 => spreadUpTo l k ++ [rd l (k : Int)] ++ (if moreK k then [0] else [])
def picksUpTo (all : List Int) : Nat → List Int
  | 0 => []
  | k + 1 => picksUpTo all k ++ [rd all (posK k : Int)]
theorem sizesUpTo_length : ∀ k, (sizesUpTo k).length = posK k
  | 0 => rfl
  | k + 1 => by
    simp only [sizesUpTo, posK, List.length_append, sizesUpTo_length k]
    cases moreK k <;> rfl
theorem spreadUpTo_length (l : List Int) : ∀ k, (spreadUpTo l k).length = posK k
  | 0 => rfl
  | k + 1 => by
    simp only [spreadUpTo, posK, List.length_append, spreadUpTo_length l k]
    cases moreK k <;> rfl
theorem posK_le : ∀ k, posK k ≤ 2 * k
  | 0 => by simp [posK]
  | k + 1 => by
    have := posK_le k
    have h : (moreK k).toNat ≤ 1 := by cases moreK k <;> decide
    simp only [posK]; omega
theorem heap_alloc_set (w : World) (a : Addr) (v : Value) (o : Obj) : ((w.setCell a v).alloc o).heap[w.heap.size]? = some o := by
  have := heap_alloc_new (w.setCell a v) o
  rwa [show (w.setCell a v).heap.size = w.heap.size by simp [World.setCell]] at this
/-- A variable of the call's own that holds a row of the call's own. -/
structure GW (L base : Nat) (w0 : World) (A : Option Addr) (c n : Nat) (acc : List Int) (w : World) : Prop where
  len : acc.length = n
  var : w.heap[L]? = some (.cells #[.slice A n c] 27 (0, 0))
  own : w.ownsRow base 3 1 (.slice A n c) n (nums .i64 acc)
  bel : Below base w0 w
  le : base ≤ L
def GV (L base : Nat) (w0 : World) (acc : List Int) (w : World) : Prop := ∃ A c n, GW L base w0 A c n acc w
theorem GV.start (w : World) : GV w.heap.size w.heap.size w [] (w.alloc (.cells #[.slice none 0 0] 27)) :=
  ⟨none, 0, 0, rfl, heap_alloc_new w _, own_nil _ _ _ _, below_alloc (Below.refl _ _) _, Nat.le_refl _⟩
/-- Behind an append and a store. -/
theorem GW.grown {L base : Nat} {w0 w w1 : World} {acc : List Int} {A A1 : Option Addr} {c c1 n : Nat} {x : Int} (h : GW L base w0 A c n acc w)
    (hown1 : w1.ownsRow base 3 1 (.slice A1 (n + 1) c1) (n + 1) (nums .i64 acc ++ [.int .i64 x])) (hg : (w.alloc (.cells #[.int .i64 x] 3)).grownBy w1 (Value.slice A n c).ownBlock) :
    w1.heap[L]? = some (.cells #[.slice A n c] 27 (0, 0)) ∧ GW L base w0 A1 c1 (n + 1) (acc ++ [x]) (w1.setCell ⟨L, 0, none⟩ (.slice A1 (n + 1) c1)) := by
  obtain ⟨hl, hL, hown, hB, hb⟩ := h
  have hlt := blk_lt hL
  have hL1 : w1.heap[L]? = some (.cells #[.slice A n c] 27 (0, 0)) :=
    (hg.block L (by simp; omega) (own_ne hown hL (by decide))).trans ((Below.heap_alloc _ _ _ hlt).trans hL)
  refine ⟨hL1, by rw [List.length_append, hl]; rfl, one_setCell hL1, ?_, ?_, hb⟩
  · rw [nums_append]
    exact own_setCell hown1 (own_ne hown1 hL1 (by decide)) _
  · exact ((hB.alloc (by omega) _).grown hg (by simp; omega) (fun j hj => own_base hown j hj)).setCell hb _
set_option maxHeartbeats 1000000 in
theorem sizes1_any (L base : Nat) (w0 : World) (acc : List Int) (k s : Int) (more : Bool) (w : World) (h : GV L base w0 acc w) (hl : acc.length ≤ 1000) :
    Calls Try.prog 62 #[.int .i64 k, .int .i64 s, .bool more, .pointer (some ⟨L, 0, none⟩)] w fun e w' => e = .returned (.tuple #[]) ∧ GV L base w0 (acc ++ [s] ++ (if more then [2] else [])) w' := by
  obtain ⟨i0, hi0, hz0, hz1, hz2⟩ := info_parts info3
  obtain ⟨A, c, n, hw⟩ := h
  have hn : n ≤ 1000 := by rw [← hw.len]; exact hl
  have cL := cell_of_one hw.var
  have fL := free_of_one hw.var
  have hlt := blk_lt hw.var
  have hb := hw.le
  have H := Lib.hid hw
  clear hw hl
  cases more
  · go_enter Try.func62, Try.ntmps62
    go_wp2_with (at_builtin; refine wpList_append_own _ rfl _ _ 27 rfl base 3 i0 (.int .i64 0) 1 8 Try.underlying27 hi0 hz0 hz1 hz2 rfl (by decide) (.slice A n c) n (nums .i64 acc) rfl (H.out.own.alloc _) ⟨_, 0, none⟩ 1 1 [.int .i64 s] rfl rfl (World.news_of_block (cs := #[.int .i64 s]) (t := 3) (fr := (0, 0)) (by first | exact heap_alloc_new _ _ | exact heap_alloc_set _ _ _ _)) (by simp [Value.oneCell']) (by unfold maxLen; omega) (by omega) (by simp; omega) ?_; intro v1 w1 hown1 hg1 _; obtain ⟨A1, c1, rfl⟩ := own_slice hown1; have HH1 := Lib.hid (H.out.grown hown1 hg1); clear hown1 hg1; have cL1 := cell_of_one HH1.out.1; have fL1 := free_of_one HH1.out.1; have lt1 := blk_lt HH1.out.1)
    go_end0
    exact ⟨rfl, _, _, _, by simpa using HH1.out.2⟩
  · go_enter Try.func62, Try.ntmps62
    go_wp2_with (first | (at_builtin; refine wpList_append_own _ rfl _ _ 27 rfl base 3 i0 (.int .i64 0) 1 8 Try.underlying27 hi0 hz0 hz1 hz2 rfl (by decide) (.slice A n c) n (nums .i64 acc) rfl (H.out.own.alloc _) ⟨_, 0, none⟩ 1 1 [.int .i64 s] rfl rfl (World.news_of_block (cs := #[.int .i64 s]) (t := 3) (fr := (0, 0)) (by first | exact heap_alloc_new _ _ | exact heap_alloc_set _ _ _ _)) (by simp [Value.oneCell']) (by unfold maxLen; omega) (by omega) (by simp; omega) ?_; intro v1 w1 hown1 hg1 _; obtain ⟨A1, c1, rfl⟩ := own_slice hown1; have HH1 := Lib.hid (H.out.grown hown1 hg1); clear hown1 hg1; have cL1 := cell_of_one HH1.out.1; have fL1 := free_of_one HH1.out.1; have lt1 := blk_lt HH1.out.1) | (have HJ := Lib.hid HH1.out.2; (at_builtin; refine wpList_append_own _ rfl _ _ 27 rfl base 3 i0 (.int .i64 0) 1 8 Try.underlying27 hi0 hz0 hz1 hz2 rfl (by decide) (.slice A1 (n + 1) c1) (n + 1) (nums .i64 (acc ++ [s])) rfl (HJ.out.own.alloc _) ⟨_, 0, none⟩ 1 1 [.int .i64 2] rfl rfl (World.news_of_block (cs := #[.int .i64 2]) (t := 3) (fr := (0, 0)) (by first | exact heap_alloc_new _ _ | exact heap_alloc_set _ _ _ _)) (by simp [Value.oneCell']) (by unfold maxLen; omega) (by omega) (by simp; omega) ?_; intro v2 w2 hown2 hg2 _; obtain ⟨A2, c2, rfl⟩ := own_slice hown2; have HH2 := Lib.hid (HJ.out.grown hown2 hg2); clear hown2 hg2; have cL2 := cell_of_one HH2.out.1; have fL2 := free_of_one HH2.out.1; have lt2 := blk_lt HH2.out.1)))
    go_end0
    exact ⟨rfl, _, _, _, by simpa using HH2.out.2⟩

def konst_sizes.f : Option (List Int) := some (sizesUpTo 56)
theorem posK_small (k : Nat) (h : k ≤ 56) : posK k ≤ 1000 := by have := posK_le k; omega
theorem konst_sizes.calls (r : List Int) (w : World) (h : konst_sizes.f = some r) :
    Calls Try.prog 44 #[] w fun e w' => ∃ v0_ : Value, e = .returned v0_ ∧ Kd.R (Kd.int .i64) 3 w' w.heap.size (fun _ => True) v0_ r ∧ Below w.heap.size w w' := by
  obtain rfl : sizesUpTo 56 = r := Option.some.inj h
  have hmf : ∀ (fn : Fn) (first cap : Array Value) (w : World), (Instr.makeFunc fn first cap).run Try.prog w = .ok (.func fn first cap) w := fun _ _ _ _ => rfl
  clear h
  go_enter Try.func44, Try.ntmps44
  go_wp2_with fail
  refine (row_sizes ⟨w.heap.size, 0, none⟩ (fun k W => GV w.heap.size w.heap.size w (sizesUpTo k) W) (fun k hk W hW => sizes1_any w.heap.size w.heap.size w (sizesUpTo k) k (sizeK k) (moreK k) W hW (by rw [sizesUpTo_length]; exact posK_small k (by omega))) _ (GV.start w)).mono ?_
  rintro e w1 ⟨rfl, A, c, n, hw⟩
  have cL := cell_of_one hw.var
  have H := Lib.hid hw
  clear hw
  go_wp2_with fail
  go_ret
  refine ⟨_, rfl, ?_, H.out.bel⟩
  have := H.out.own
  rw [← H.out.len] at this ⊢
  exact R_of_own this
theorem GW.drew {L base : Nat} {w0 : World} {A : Option Addr} {c n : Nat} {acc : List Int} {w : World} (h : GW L base w0 A c n acc w) : GW L base w0 A c n acc w.drew := ⟨h.len, h.var, h.own, below_drew h.bel, h.le⟩
theorem posK_le106 : ∀ k, k < 56 → posK k ≤ 106 := by decide
theorem sizes_len : (sizesUpTo 56).length = 107 := by rw [sizesUpTo_length]; decide
theorem picksUpTo_length (all : List Int) : ∀ k, (picksUpTo all k).length = k
  | 0 => rfl
  | k + 1 => by rw [picksUpTo, List.length_append, picksUpTo_length all k]; rfl
theorem R_form {w : World} {base : Nat} {v : Value} {xs : List Int} (h : Kd.R (Kd.int .i64) 3 w base (fun _ => True) v xs) (hp : 0 < xs.length) :
    ∃ g cap, v = .slice (some ⟨g, 0, none⟩) xs.length cap ∧ xs.length ≤ cap ∧ cap ≤ 9223372036854775807 ∧ g < w.heap.size ∧ ∀ j, j < xs.length → w.cell? ⟨g, j, none⟩ = some (.int .i64 (rd xs (j : Int))) := by
  obtain ⟨inner, hl, ho⟩ := Kd.R_own h
  obtain ⟨A, c, hv, hle, hC⟩ := Kd.R_reads h
  rcases ho with ⟨rfl, h0⟩ | ⟨g, cap, cur, rfl, hb, hg, hc1, hc2, _⟩
  · omega
  · injection hv with e1 _ e3
    subst e1
    subst e3
    unfold maxLen at hc2
    refine ⟨g, cap, rfl, hc1, hc2, blk_lt hg, fun j hj => ?_⟩
    obtain ⟨ad, ead, hcell⟩ := Kd.at_int hC (j : Int) (by omega) (by omega)
    injection ead with ead
    subst ead
    rw [Int.toNat_natCast, add_plain] at hcell
    exact hcell
end Go.Proofs.Yticfflihniifaaa.P
