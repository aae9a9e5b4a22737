/- konst's sizes, Get and Put, walked. Conditions: the sizes of what came in. -/
import Derived.Test.YtgleffjeaognfaaKonstRow
import Derived.Test.YtgleffjeaognfaaGetSpec
import Derived.Test.YtgleffjeaognfaaBinPut
import Derived.Test.YtgleffjeaognfaaPutSpec
namespace Go.Proofs.Ytgleffjeaognfaa.P
open Go.RowKit Go.Proofs.YtgleffjeaognfaaW.PrintWords Go.Proofs.YtgleffjeaognfaaW.PrintLast Go.Proofs.YtgleffjeaognfaaW.PrintMore Go.Proofs.Ytgleffjeaognfaa.BN
set_option linter.unusedVariables false
set_option linter.unusedSimpArgs false
def posK : Nat → Nat
  | 0 => 0
  | k + 1 => posK k + 1 + (moreK k).toNat
def sizesUpTo : Nat → List Int
  | 0 => []
  | k + 1 => sizesUpTo k ++ [sizeK k] ++ (if moreK k then [2] else [])
def spreadUpTo (l : List Int) : Nat → List Int
  | 0 => []
  | k + 1 => spreadUpTo l k ++ [rd l (k : Int)] ++ (if moreK k then [0] else [])
def picksUpTo (all : List Int) : Nat → List Int
  | 0 => []
  | k + 1 => picksUpTo all k ++ [rd all (posK k : Int)]
theorem sizesUpTo_length : ∀ k, (sizesUpTo k).length = posK k
  | 0 => rfl
  | k + 1 => by
    simp only [sizesUpTo, posK, List.length_append, sizesUpTo_length k]
    cases moreK k <;> rfl
theorem spreadUpTo_length (l : List Int) : ∀ k, (spreadUpTo l k).length = posK k
  | 0 => rfl
  | k + 1 => by
    simp only [spreadUpTo, posK, List.length_append, spreadUpTo_length l k]
    cases moreK k <;> rfl
theorem posK_le : ∀ k, posK k ≤ 2 * k
  | 0 => by simp [posK]
  | k + 1 => by
    have := posK_le k
    have h : (moreK k).toNat ≤ 1 := by cases moreK k <;> decide
    simp only [posK]; omega
theorem heap_alloc_set (w : World) (a : Addr) (v : Value) (o : Obj) : ((w.setCell a v).alloc o).heap[w.heap.size]? = some o := by
  have := heap_alloc_new (w.setCell a v) o
  rwa [show (w.setCell a v).heap.size = w.heap.size by simp [World.setCell]] at this
/-- A variable of the call's own that holds a row of the call's own. -/
structure GW (L base : Nat) (w0 : World) (A : Option Addr) (c n : Nat) (acc : List Int) (w : World) : Prop where
  len : acc.length = n
  var : w.heap[L]? = some (.cells #[.slice A n c] 22 (0, 0))
  own : w.ownsRow base 3 1 (.slice A n c) n (nums .i64 acc)
  bel : Below base w0 w
  le : base ≤ L
def GV (L base : Nat) (w0 : World) (acc : List Int) (w : World) : Prop := ∃ A c n, GW L base w0 A c n acc w
theorem GV.start (w : World) : GV w.heap.size w.heap.size w [] (w.alloc (.cells #[.slice none 0 0] 22)) :=
  ⟨none, 0, 0, rfl, heap_alloc_new w _, own_nil _ _ _ _, below_alloc (Below.refl _ _) _, Nat.le_refl _⟩
/-- Behind an append and a store. -/
theorem GW.grown {L base : Nat} {w0 w w1 : World} {acc : List Int} {A A1 : Option Addr} {c c1 n : Nat} {x : Int} (h : GW L base w0 A c n acc w)
    (hown1 : w1.ownsRow base 3 1 (.slice A1 (n + 1) c1) (n + 1) (nums .i64 acc ++ [.int .i64 x])) (hg : (w.alloc (.cells #[.int .i64 x] 3)).grownBy w1 (Value.slice A n c).ownBlock) :
    w1.heap[L]? = some (.cells #[.slice A n c] 22 (0, 0)) ∧ GW L base w0 A1 c1 (n + 1) (acc ++ [x]) (w1.setCell ⟨L, 0, none⟩ (.slice A1 (n + 1) c1)) := by
  obtain ⟨hl, hL, hown, hB, hb⟩ := h
  have hlt := blk_lt hL
  have hL1 : w1.heap[L]? = some (.cells #[.slice A n c] 22 (0, 0)) :=
    (hg.block L (by simp; omega) (own_ne hown hL (by decide))).trans ((Below.heap_alloc _ _ _ hlt).trans hL)
  refine ⟨hL1, by rw [List.length_append, hl]; rfl, one_setCell hL1, ?_, ?_, hb⟩
  · rw [nums_append]
    exact own_setCell hown1 (own_ne hown1 hL1 (by decide)) _
  · exact ((hB.alloc (by omega) _).grown hg (by simp; omega) (fun j hj => own_base hown j hj)).setCell hb _
set_option maxHeartbeats 1000000 in
theorem sizes1_any (L base : Nat) (w0 : World) (acc : List Int) (k s : Int) (more : Bool) (w : World) (h : GV L base w0 acc w) (hl : acc.length ≤ 1000) :
    Calls Try.prog 37 #[.int .i64 k, .int .i64 s, .bool more, .pointer (some ⟨L, 0, none⟩)] w fun e w' => e = .returned (.tuple #[]) ∧ GV L base w0 (acc ++ [s] ++ (if more then [2] else [])) w' := by
  obtain ⟨i0, hi0, hz0, hz1, hz2⟩ := info_parts info3
  obtain ⟨A, c, n, hw⟩ := h
  have hn : n ≤ 1000 := by rw [← hw.len]; exact hl
  have cL := cell_of_one hw.var
  have fL := free_of_one hw.var
  have hlt := blk_lt hw.var
  have hb := hw.le
  have H := Lib.hid hw
  clear hw hl
  cases more
  · go_enter Try.func37, Try.ntmps37
    go_wp2_with (at_builtin; refine wpList_append_own _ rfl _ _ 22 rfl base 3 i0 (.int .i64 0) 1 8 Try.underlying22 hi0 hz0 hz1 hz2 rfl (by decide) (.slice A n c) n (nums .i64 acc) rfl (H.out.own.alloc _) ⟨_, 0, none⟩ 1 1 [.int .i64 s] rfl rfl (World.news_of_block (cs := #[.int .i64 s]) (t := 3) (fr := (0, 0)) (by first | exact heap_alloc_new _ _ | exact heap_alloc_set _ _ _ _)) (by simp [Value.oneCell']) (by unfold maxLen; omega) (by omega) (by simp; omega) ?_; intro v1 w1 hown1 hg1 _; obtain ⟨A1, c1, rfl⟩ := own_slice hown1; have HH1 := Lib.hid (H.out.grown hown1 hg1); clear hown1 hg1; have cL1 := cell_of_one HH1.out.1; have fL1 := free_of_one HH1.out.1; have lt1 := blk_lt HH1.out.1)
    go_end0
    exact ⟨rfl, _, _, _, by simpa using HH1.out.2⟩
  · go_enter Try.func37, Try.ntmps37
    go_wp2_with (first | (at_builtin; refine wpList_append_own _ rfl _ _ 22 rfl base 3 i0 (.int .i64 0) 1 8 Try.underlying22 hi0 hz0 hz1 hz2 rfl (by decide) (.slice A n c) n (nums .i64 acc) rfl (H.out.own.alloc _) ⟨_, 0, none⟩ 1 1 [.int .i64 s] rfl rfl (World.news_of_block (cs := #[.int .i64 s]) (t := 3) (fr := (0, 0)) (by first | exact heap_alloc_new _ _ | exact heap_alloc_set _ _ _ _)) (by simp [Value.oneCell']) (by unfold maxLen; omega) (by omega) (by simp; omega) ?_; intro v1 w1 hown1 hg1 _; obtain ⟨A1, c1, rfl⟩ := own_slice hown1; have HH1 := Lib.hid (H.out.grown hown1 hg1); clear hown1 hg1; have cL1 := cell_of_one HH1.out.1; have fL1 := free_of_one HH1.out.1; have lt1 := blk_lt HH1.out.1) | (have HJ := Lib.hid HH1.out.2; (at_builtin; refine wpList_append_own _ rfl _ _ 22 rfl base 3 i0 (.int .i64 0) 1 8 Try.underlying22 hi0 hz0 hz1 hz2 rfl (by decide) (.slice A1 (n + 1) c1) (n + 1) (nums .i64 (acc ++ [s])) rfl (HJ.out.own.alloc _) ⟨_, 0, none⟩ 1 1 [.int .i64 2] rfl rfl (World.news_of_block (cs := #[.int .i64 2]) (t := 3) (fr := (0, 0)) (by first | exact heap_alloc_new _ _ | exact heap_alloc_set _ _ _ _)) (by simp [Value.oneCell']) (by unfold maxLen; omega) (by omega) (by simp; omega) ?_; intro v2 w2 hown2 hg2 _; obtain ⟨A2, c2, rfl⟩ := own_slice hown2; have HH2 := Lib.hid (HJ.out.grown hown2 hg2); clear hown2 hg2; have cL2 := cell_of_one HH2.out.1; have fL2 := free_of_one HH2.out.1; have lt2 := blk_lt HH2.out.1)))
    go_end0
    exact ⟨rfl, _, _, _, by simpa using HH2.out.2⟩

def konst_sizes.f : Option (List Int) := some (sizesUpTo 56)
theorem posK_small (k : Nat) (h : k ≤ 56) : posK k ≤ 1000 := by have := posK_le k; omega
theorem konst_sizes.calls (r : List Int) (w : World) (h : konst_sizes.f = some r) :
    Calls Try.prog 21 #[] w fun e w' => ∃ v0_ : Value, e = .returned v0_ ∧ Kd.R (Kd.int .i64) 3 w' w.heap.size (fun _ => True) v0_ r ∧ Below w.heap.size w w' := by
  obtain rfl : sizesUpTo 56 = r := Option.some.inj h
  have hmf : ∀ (fn : Fn) (first cap : Array Value) (w : World), (Instr.makeFunc fn first cap).run Try.prog w = .ok (.func fn first cap) w := fun _ _ _ _ => rfl
  clear h
  go_enter Try.func21, Try.ntmps21
  go_wp2_with fail
  refine (row_sizes ⟨w.heap.size, 0, none⟩ (fun k W => GV w.heap.size w.heap.size w (sizesUpTo k) W) (fun k hk W hW => sizes1_any w.heap.size w.heap.size w (sizesUpTo k) k (sizeK k) (moreK k) W hW (by rw [sizesUpTo_length]; exact posK_small k (by omega))) _ (GV.start w)).mono ?_
  rintro e w1 ⟨rfl, A, c, n, hw⟩
  have cL := cell_of_one hw.var
  have H := Lib.hid hw
  clear hw
  go_wp2_with fail
  go_ret
  refine ⟨_, rfl, ?_, H.out.bel⟩
  have := H.out.own
  rw [← H.out.len] at this ⊢
  exact R_of_own this
/-- A row of n numbers in a block below V that is read from place p on, by a variable V. -/
def RVar (V g p n cap : Nat) (w : World) : Prop := w.heap[V]? = some (.cells #[.slice (some ⟨g, p, none⟩) (n - p) (cap - p)] 22 (0, 0))
structure RCells (V g n : Nat) (w0 : World) (all : List Int) : Prop where
  at_ : ∀ j, j < n → w0.cell? ⟨g, j, none⟩ = some (.int .i64 (rd all (j : Int)))
  low : g < V
theorem GW.grownV {L V : Nat} {w0 w w1 : World} {acc all : List Int} {A A1 : Option Addr} {c c1 m g p n cap : Nat} {x : Int} (h : GW L V w0 A c m acc w) (hV : RVar V g p n cap w) (hc : RCells V g n w0 all ∧ p < n ∧ V ≠ L)
    (hown1 : w1.ownsRow V 3 1 (.slice A1 (m + 1) c1) (m + 1) (nums .i64 acc ++ [.int .i64 x])) (hg : (w.alloc (.cells #[.int .i64 x] 3)).grownBy w1 (Value.slice A m c).ownBlock) :
    (w1.cell? ⟨L, 0, none⟩ = some (.slice A m c) ∧ w1.cell? ⟨V, 0, none⟩ = some (.slice (some ⟨g, p, none⟩) (n - p) (cap - p)) ∧ w1.cell? ⟨g, p, none⟩ = some (.int .i64 (rd all (p : Int)))) ∧ (w1.frozen? ⟨L, 0, none⟩ = false ∧ w1.frozen? ⟨V, 0, none⟩ = false) ∧
      GW L V w0 A1 c1 (m + 1) (acc ++ [x]) (w1.setCell ⟨L, 0, none⟩ (.slice A1 (m + 1) c1)) ∧ RVar V g p n cap (w1.setCell ⟨L, 0, none⟩ (.slice A1 (m + 1) c1)) := by
  obtain ⟨hL1, hG⟩ := h.grown hown1 hg
  have hV1 : w1.heap[V]? = some (.cells #[.slice (some ⟨g, p, none⟩) (n - p) (cap - p)] 22 (0, 0)) :=
    (hg.block V (by have := blk_lt hV; simp; omega) (own_ne h.own hV (by decide))).trans ((Below.heap_alloc _ _ _ (blk_lt hV)).trans hV)
  have hB1 : Below V w0 w1 := (h.bel.alloc (by have := blk_lt hV; omega) _).grown hg (by have := blk_lt hV; simp; omega) (fun j hj => own_base h.own j hj)
  refine ⟨⟨cell_of_one hL1, cell_of_one hV1, ?_⟩, ⟨free_of_one hL1, free_of_one hV1⟩, hG, (Below.heap_setCell _ _ _ _ hc.2.2).trans hV1⟩
  rw [hB1.cell hc.1.low]; exact hc.1.at_ p hc.2.1
theorem GW.drew {L base : Nat} {w0 : World} {A : Option Addr} {c n : Nat} {acc : List Int} {w : World} (h : GW L base w0 A c n acc w) : GW L base w0 A c n acc w.drew := ⟨h.len, h.var, h.own, below_drew h.bel, h.le⟩
/-- The variable V goes on; what is owned stays. -/
theorem GW.moveV {L V : Nat} {w0 w : World} {acc : List Int} {A : Option Addr} {c m : Nat} {v u : Value} (h : GW L V w0 A c m acc w) (hV : w.heap[V]? = some (.cells #[v] 22 (0, 0))) (hne : V ≠ L) :
    GW L V w0 A c m acc (w.setCell ⟨V, 0, none⟩ u) ∧ (w.setCell ⟨V, 0, none⟩ u).heap[V]? = some (.cells #[u] 22 (0, 0)) :=
  ⟨⟨h.len, (Below.heap_setCell _ _ _ _ (Ne.symm hne)).trans h.var, own_setCell h.own (own_ne h.own hV (by decide)) _, h.bel.setCell (Nat.le_refl _) _, h.le⟩, one_setCell hV⟩
set_option maxHeartbeats 1600000 in
theorem get1_any (L V g p n cap : Nat) (w0 : World) (acc all : List Int) (k s : Int) (more : Bool) (w : World) (h : ∃ A c m, GW L V w0 A c m acc w) (hV : RVar V g p n cap w) (hC : RCells V g n w0 all) (hl : acc.length ≤ 1000)
    (hp : p + 1 + more.toNat < n) (hn : n ≤ cap) (hcap : cap ≤ 9223372036854775807) (hne : V ≠ L) :
    Calls Try.prog 23 #[.int .i64 k, .int .i64 s, .bool more, .pointer (some ⟨L, 0, none⟩), .pointer (some ⟨V, 0, none⟩)] w fun e w' => e = .returned (.tuple #[]) ∧ (∃ A c m, GW L V w0 A c m (acc ++ [rd all (p : Int)]) w') ∧ RVar V g (p + 1 + more.toNat) n cap w' := by
  obtain ⟨i0, hi0, hz0, hz1, hz2⟩ := info_parts info3
  obtain ⟨A, c, m, hw⟩ := h
  have hm : m ≤ 1000 := by rw [← hw.len]; exact hl
  have cL := cell_of_one hw.var
  have fL := free_of_one hw.var
  have ltL := blk_lt hw.var
  have cV := cell_of_one hV
  have fV := free_of_one hV
  have ltV := blk_lt hV
  have lowG := hC.low
  have hb := hw.le
  have ltG : g < w.heap.size := by omega
  have cG : w.cell? ⟨g, p, none⟩ = some (.int .i64 (rd all (p : Int))) := by rw [hw.bel.cell lowG]; exact hC.at_ p (by omega)
  have HW := Lib.hid hw
  have HV := Lib.hid hV
  have HC := Lib.hid (⟨hC, by omega, hne⟩ : RCells V g n w0 all ∧ p < n ∧ V ≠ L)
  clear hw hV hC hl
  have z2 : 0 < n - p := by omega
  have z1 : 1 ≤ n - p := by omega
  have z3 : n - p ≤ cap - p := by omega
  cases more
  · simp only [Bool.toNat_false, Nat.add_zero] at hp ⊢
    go_enter Try.func23, Try.ntmps23
    go_wp2_with fail
    have HWd := Lib.hid HW.out.drew
    have HVd := Lib.hid (show RVar V g p n cap w.drew from HV.out)
    refine start_ (n := 7) (S := fun w' => w'.cell? ⟨L, 0, none⟩ = some (.slice A m c) ∧ w'.cell? ⟨V, 0, none⟩ = some (.slice (some ⟨g, p, none⟩) (n - p) (cap - p)) ∧ w'.cell? ⟨g, p, none⟩ = some (.int .i64 (rd all (p : Int)))) (ds := [6]) #[false, false, false, false, false, false, false] (by kernel_rfl) rfl rfl ⟨cL, cV, cG⟩ (fun hHeld => ?_)
    generalize w.drew = wd at HWd HVd hHeld ⊢
    have ltLd := blk_lt HWd.out.var
    have ltVd := blk_lt HVd.out
    have ltGd : g < wd.heap.size := by omega
    refine take_ (i := 0) (N := some 8) (v := ?_) (a' := ?_) #[true, false, false, false, false, false, false] rfl rfl (by kernel_rfl) (fun _ _ _ h => h) (Or.inl ⟨by rfl, ?_⟩) hHeld ?_ ?_
    rotate_left
    · rintro w' ⟨s0, s1, s2⟩
      go_simp
      with_reducible rfl
    rotate_left
    · simp only [Act.put, List.setIfInBounds_toArray, List.set_cons_zero, List.set_cons_succ]
      rfl
    refine take_ (i := 1) (N := some 9) (v := ?_) (a' := ?_) #[true, true, false, false, false, false, false] rfl rfl (by kernel_rfl) (fun _ _ _ h => h) (Or.inl ⟨by rfl, ?_⟩) hHeld ?_ ?_
    rotate_left
    · rintro w' ⟨s0, s1, s2⟩
      go_simp
      with_reducible rfl
    rotate_left
    · simp only [Act.put, List.setIfInBounds_toArray, List.set_cons_zero, List.set_cons_succ]
      rfl
    refine pure_ (i := 2) (N := some 10) (v := ?_) (a' := ?_) #[true, true, true, false, false, false, false] rfl rfl (by kernel_rfl) (fun _ _ _ h => h) (Or.inl ⟨by rfl, ?_⟩) ?_ ?_
    rotate_left
    · intro w'
      go_simp
      with_reducible rfl
    rotate_left
    · simp only [Act.put, List.setIfInBounds_toArray, List.set_cons_zero, List.set_cons_succ]
      rfl
    refine take_ (i := 3) (N := some 11) (v := ?_) (a' := ?_) #[true, true, true, true, false, false, false] rfl rfl (by kernel_rfl) (fun _ _ _ h => h) (Or.inl ⟨by rfl, ?_⟩) hHeld ?_ ?_
    rotate_left
    · rintro w' ⟨s0, s1, s2⟩
      go_simp
      with_reducible rfl
    rotate_left
    · simp only [Act.put, List.setIfInBounds_toArray, List.set_cons_zero, List.set_cons_succ]
      rfl
    refine one_ (i := 4) (N := some 12) #[true, true, true, true, true, false, false] rfl rfl (by kernel_rfl) (by decide) (fun K hK => ?_)
    go_simp
    refine hK.out _ _ ?_ (fun hHeld => ?_)
    · exact ⟨by rw [Below.cell (below_alloc (Below.refl wd.heap.size wd) _) ltLd]; exact hHeld.1, by rw [Below.cell (below_alloc (Below.refl wd.heap.size wd) _) ltVd]; exact hHeld.2.1, by rw [Below.cell (below_alloc (Below.refl wd.heap.size wd) _) ltGd]; exact hHeld.2.2⟩
    clear hK K
    refine one_ (i := 5) (N := some 13) #[true, true, true, true, true, true, false] rfl rfl (by kernel_rfl) (by decide) (fun K hK => ?_)
    refine step_append_lies _ rfl (.tmp 8) (.tmp 12) 22 rfl V 3 i0 _ 1 8 Try.underlying22 hi0 hz0 hz1 hz2 rfl (by omega) (.slice A m c) m (nums .i64 acc) rfl (HWd.out.own.alloc _) ⟨wd.heap.size, 0, none⟩ 1 1 [.int .i64 (rd all (p : Int))] rfl rfl (World.news_of_block (cs := #[.int .i64 (rd all (p : Int))]) (t := 3) (fr := (0, 0)) (heap_alloc_new wd _)) (by simp [Value.oneCell']) (by omega) (by unfold maxLen; omega) (by omega) (by simp; omega) (wd.heap.size + 1) (by simp) ?_
    intro gg c1 w1 hown1 hgrow hat hlt1
    have HH := Lib.hid (GW.grownV HWd.out HVd.out HC.out hown1 hgrow)
    clear hown1 hgrow hat hlt1
    refine hK.out _ _ HH.out.1 (fun hHeld => ?_)
    clear hK K
    have cL1 := HH.out.1.1
    have cV1 := HH.out.1.2.1
    have fL1 := HH.out.2.1.1
    have fV1 := HH.out.2.1.2
    refine norm_ (a' := ?_) ?_ ?_
    rotate_left
    · simp only [Act.put, List.setIfInBounds_toArray, List.set_cons_zero, List.set_cons_succ]
      rfl
    refine last_ (i := 6) (N := none) #[true, true, true, true, true, true, true] rfl rfl (by kernel_rfl) (by decide) (fun K hK => ?_)
    go_simp
    refine hK.out _ _ ?_
    clear hK K
    refine done_ (by kernel_rfl) ?_
    go_wp2_with fail
    go_end0
    obtain ⟨h1, h2⟩ := HH.out.2.2.1.moveV (u := .slice (some ⟨g, p + 1, none⟩) (n - p - 1) (cap - p - 1)) HH.out.2.2.2 hne
    exact ⟨rfl, ⟨_, _, _, h1⟩, h2⟩
  · simp only [Bool.toNat_true] at hp ⊢
    have z4 : 1 ≤ n - p - 1 := by omega
    have z5 : n - p - 1 ≤ cap - p - 1 := by omega
    go_enter Try.func23, Try.ntmps23
    go_wp2_with fail
    have HWd := Lib.hid HW.out.drew
    have HVd := Lib.hid (show RVar V g p n cap w.drew from HV.out)
    refine start_ (n := 7) (S := fun w' => w'.cell? ⟨L, 0, none⟩ = some (.slice A m c) ∧ w'.cell? ⟨V, 0, none⟩ = some (.slice (some ⟨g, p, none⟩) (n - p) (cap - p)) ∧ w'.cell? ⟨g, p, none⟩ = some (.int .i64 (rd all (p : Int)))) (ds := [6]) #[false, false, false, false, false, false, false] (by kernel_rfl) rfl rfl ⟨cL, cV, cG⟩ (fun hHeld => ?_)
    generalize w.drew = wd at HWd HVd hHeld ⊢
    have ltLd := blk_lt HWd.out.var
    have ltVd := blk_lt HVd.out
    have ltGd : g < wd.heap.size := by omega
    refine take_ (i := 0) (N := some 8) (v := ?_) (a' := ?_) #[true, false, false, false, false, false, false] rfl rfl (by kernel_rfl) (fun _ _ _ h => h) (Or.inl ⟨by rfl, ?_⟩) hHeld ?_ ?_
    rotate_left
    · rintro w' ⟨s0, s1, s2⟩
      go_simp
      with_reducible rfl
    rotate_left
    · simp only [Act.put, List.setIfInBounds_toArray, List.set_cons_zero, List.set_cons_succ]
      rfl
    refine take_ (i := 1) (N := some 9) (v := ?_) (a' := ?_) #[true, true, false, false, false, false, false] rfl rfl (by kernel_rfl) (fun _ _ _ h => h) (Or.inl ⟨by rfl, ?_⟩) hHeld ?_ ?_
    rotate_left
    · rintro w' ⟨s0, s1, s2⟩
      go_simp
      with_reducible rfl
    rotate_left
    · simp only [Act.put, List.setIfInBounds_toArray, List.set_cons_zero, List.set_cons_succ]
      rfl
    refine pure_ (i := 2) (N := some 10) (v := ?_) (a' := ?_) #[true, true, true, false, false, false, false] rfl rfl (by kernel_rfl) (fun _ _ _ h => h) (Or.inl ⟨by rfl, ?_⟩) ?_ ?_
    rotate_left
    · intro w'
      go_simp
      with_reducible rfl
    rotate_left
    · simp only [Act.put, List.setIfInBounds_toArray, List.set_cons_zero, List.set_cons_succ]
      rfl
    refine take_ (i := 3) (N := some 11) (v := ?_) (a' := ?_) #[true, true, true, true, false, false, false] rfl rfl (by kernel_rfl) (fun _ _ _ h => h) (Or.inl ⟨by rfl, ?_⟩) hHeld ?_ ?_
    rotate_left
    · rintro w' ⟨s0, s1, s2⟩
      go_simp
      with_reducible rfl
    rotate_left
    · simp only [Act.put, List.setIfInBounds_toArray, List.set_cons_zero, List.set_cons_succ]
      rfl
    refine one_ (i := 4) (N := some 12) #[true, true, true, true, true, false, false] rfl rfl (by kernel_rfl) (by decide) (fun K hK => ?_)
    go_simp
    refine hK.out _ _ ?_ (fun hHeld => ?_)
    · exact ⟨by rw [Below.cell (below_alloc (Below.refl wd.heap.size wd) _) ltLd]; exact hHeld.1, by rw [Below.cell (below_alloc (Below.refl wd.heap.size wd) _) ltVd]; exact hHeld.2.1, by rw [Below.cell (below_alloc (Below.refl wd.heap.size wd) _) ltGd]; exact hHeld.2.2⟩
    clear hK K
    refine one_ (i := 5) (N := some 13) #[true, true, true, true, true, true, false] rfl rfl (by kernel_rfl) (by decide) (fun K hK => ?_)
    refine step_append_lies _ rfl (.tmp 8) (.tmp 12) 22 rfl V 3 i0 _ 1 8 Try.underlying22 hi0 hz0 hz1 hz2 rfl (by omega) (.slice A m c) m (nums .i64 acc) rfl (HWd.out.own.alloc _) ⟨wd.heap.size, 0, none⟩ 1 1 [.int .i64 (rd all (p : Int))] rfl rfl (World.news_of_block (cs := #[.int .i64 (rd all (p : Int))]) (t := 3) (fr := (0, 0)) (heap_alloc_new wd _)) (by simp [Value.oneCell']) (by omega) (by unfold maxLen; omega) (by omega) (by simp; omega) (wd.heap.size + 1) (by simp) ?_
    intro gg c1 w1 hown1 hgrow hat hlt1
    have HH := Lib.hid (GW.grownV HWd.out HVd.out HC.out hown1 hgrow)
    clear hown1 hgrow hat hlt1
    refine hK.out _ _ HH.out.1 (fun hHeld => ?_)
    clear hK K
    have cL1 := HH.out.1.1
    have cV1 := HH.out.1.2.1
    have fL1 := HH.out.2.1.1
    have fV1 := HH.out.2.1.2
    refine norm_ (a' := ?_) ?_ ?_
    rotate_left
    · simp only [Act.put, List.setIfInBounds_toArray, List.set_cons_zero, List.set_cons_succ]
      rfl
    refine last_ (i := 6) (N := none) #[true, true, true, true, true, true, true] rfl rfl (by kernel_rfl) (by decide) (fun K hK => ?_)
    go_simp
    refine hK.out _ _ ?_
    clear hK K
    refine done_ (by kernel_rfl) ?_
    go_wp2_with fail
    go_end0
    obtain ⟨h1, h2⟩ := HH.out.2.2.1.moveV (u := .slice (some ⟨g, p + 1, none⟩) (n - p - 1) (cap - p - 1)) HH.out.2.2.2 hne
    obtain ⟨h3, h4⟩ := h1.moveV (u := .slice (some ⟨g, p + 1 + 1, none⟩) (n - p - 1 - 1) (cap - p - 1 - 1)) h2 hne
    exact ⟨rfl, ⟨_, _, _, h3⟩, h4⟩
set_option maxHeartbeats 1600000 in
theorem get1_last (L V g p n cap : Nat) (w0 : World) (acc all : List Int) (k s : Int) (w : World) (h : ∃ A c m, GW L V w0 A c m acc w) (hV : RVar V g p n cap w) (hC : RCells V g n w0 all) (hl : acc.length ≤ 1000)
    (hp : p + 1 = n) (hn : n ≤ cap) (hcap : cap ≤ 9223372036854775807) (hne : V ≠ L) :
    Calls Try.prog 23 #[.int .i64 k, .int .i64 s, .bool false, .pointer (some ⟨L, 0, none⟩), .pointer (some ⟨V, 0, none⟩)] w fun e w' => e = .returned (.tuple #[]) ∧ (∃ A c m, GW L V w0 A c m (acc ++ [rd all (p : Int)]) w') := by
  obtain ⟨i0, hi0, hz0, hz1, hz2⟩ := info_parts info3
  obtain ⟨A, c, m, hw⟩ := h
  have hm : m ≤ 1000 := by rw [← hw.len]; exact hl
  have cL := cell_of_one hw.var
  have fL := free_of_one hw.var
  have ltL := blk_lt hw.var
  have cV := cell_of_one hV
  have fV := free_of_one hV
  have ltV := blk_lt hV
  have lowG := hC.low
  have hb := hw.le
  have ltG : g < w.heap.size := by omega
  have cG : w.cell? ⟨g, p, none⟩ = some (.int .i64 (rd all (p : Int))) := by rw [hw.bel.cell lowG]; exact hC.at_ p (by omega)
  have HW := Lib.hid hw
  have HV := Lib.hid hV
  have HC := Lib.hid (⟨hC, by omega, hne⟩ : RCells V g n w0 all ∧ p < n ∧ V ≠ L)
  clear hw hV hC hl
  have z2 : 0 < n - p := by omega
  have z1 : 1 ≤ n - p := by omega
  have z3 : n - p ≤ cap - p := by omega
  by_cases hcp : cap - p = 1
  · have z6 : n - p = 1 := by omega
    have HCP := Lib.hid hcp
    have HNP := Lib.hid z6
    clear hcp z6
    go_enter Try.func23, Try.ntmps23
    go_wp2_with fail
    have HWd := Lib.hid HW.out.drew
    have HVd := Lib.hid (show RVar V g p n cap w.drew from HV.out)
    refine start_ (n := 7) (S := fun w' => w'.cell? ⟨L, 0, none⟩ = some (.slice A m c) ∧ w'.cell? ⟨V, 0, none⟩ = some (.slice (some ⟨g, p, none⟩) (n - p) (cap - p)) ∧ w'.cell? ⟨g, p, none⟩ = some (.int .i64 (rd all (p : Int)))) (ds := [6]) #[false, false, false, false, false, false, false] (by kernel_rfl) rfl rfl ⟨cL, cV, cG⟩ (fun hHeld => ?_)
    generalize w.drew = wd at HWd HVd hHeld ⊢
    have ltLd := blk_lt HWd.out.var
    have ltVd := blk_lt HVd.out
    have ltGd : g < wd.heap.size := by omega
    refine take_ (i := 0) (N := some 8) (v := ?_) (a' := ?_) #[true, false, false, false, false, false, false] rfl rfl (by kernel_rfl) (fun _ _ _ h => h) (Or.inl ⟨by rfl, ?_⟩) hHeld ?_ ?_
    rotate_left
    · rintro w' ⟨s0, s1, s2⟩
      go_simp
      with_reducible rfl
    rotate_left
    · simp only [Act.put, List.setIfInBounds_toArray, List.set_cons_zero, List.set_cons_succ]
      rfl
    refine take_ (i := 1) (N := some 9) (v := ?_) (a' := ?_) #[true, true, false, false, false, false, false] rfl rfl (by kernel_rfl) (fun _ _ _ h => h) (Or.inl ⟨by rfl, ?_⟩) hHeld ?_ ?_
    rotate_left
    · rintro w' ⟨s0, s1, s2⟩
      go_simp
      with_reducible rfl
    rotate_left
    · simp only [Act.put, List.setIfInBounds_toArray, List.set_cons_zero, List.set_cons_succ]
      rfl
    refine pure_ (i := 2) (N := some 10) (v := ?_) (a' := ?_) #[true, true, true, false, false, false, false] rfl rfl (by kernel_rfl) (fun _ _ _ h => h) (Or.inl ⟨by rfl, ?_⟩) ?_ ?_
    rotate_left
    · intro w'
      go_simp
      with_reducible rfl
    rotate_left
    · simp only [Act.put, List.setIfInBounds_toArray, List.set_cons_zero, List.set_cons_succ]
      rfl
    refine take_ (i := 3) (N := some 11) (v := ?_) (a' := ?_) #[true, true, true, true, false, false, false] rfl rfl (by kernel_rfl) (fun _ _ _ h => h) (Or.inl ⟨by rfl, ?_⟩) hHeld ?_ ?_
    rotate_left
    · rintro w' ⟨s0, s1, s2⟩
      go_simp
      with_reducible rfl
    rotate_left
    · simp only [Act.put, List.setIfInBounds_toArray, List.set_cons_zero, List.set_cons_succ]
      rfl
    refine one_ (i := 4) (N := some 12) #[true, true, true, true, true, false, false] rfl rfl (by kernel_rfl) (by decide) (fun K hK => ?_)
    go_simp
    refine hK.out _ _ ?_ (fun hHeld => ?_)
    · exact ⟨by rw [Below.cell (below_alloc (Below.refl wd.heap.size wd) _) ltLd]; exact hHeld.1, by rw [Below.cell (below_alloc (Below.refl wd.heap.size wd) _) ltVd]; exact hHeld.2.1, by rw [Below.cell (below_alloc (Below.refl wd.heap.size wd) _) ltGd]; exact hHeld.2.2⟩
    clear hK K
    refine one_ (i := 5) (N := some 13) #[true, true, true, true, true, true, false] rfl rfl (by kernel_rfl) (by decide) (fun K hK => ?_)
    refine step_append_lies _ rfl (.tmp 8) (.tmp 12) 22 rfl V 3 i0 _ 1 8 Try.underlying22 hi0 hz0 hz1 hz2 rfl (by omega) (.slice A m c) m (nums .i64 acc) rfl (HWd.out.own.alloc _) ⟨wd.heap.size, 0, none⟩ 1 1 [.int .i64 (rd all (p : Int))] rfl rfl (World.news_of_block (cs := #[.int .i64 (rd all (p : Int))]) (t := 3) (fr := (0, 0)) (heap_alloc_new wd _)) (by simp [Value.oneCell']) (by omega) (by unfold maxLen; omega) (by omega) (by simp; omega) (wd.heap.size + 1) (by simp) ?_
    intro gg c1 w1 hown1 hgrow hat hlt1
    have HH := Lib.hid (GW.grownV HWd.out HVd.out HC.out hown1 hgrow)
    clear hown1 hgrow hat hlt1
    refine hK.out _ _ HH.out.1 (fun hHeld => ?_)
    clear hK K
    have cL1 := HH.out.1.1
    have cV1 := HH.out.1.2.1
    have fL1 := HH.out.2.1.1
    have fV1 := HH.out.2.1.2
    refine norm_ (a' := ?_) ?_ ?_
    rotate_left
    · simp only [Act.put, List.setIfInBounds_toArray, List.set_cons_zero, List.set_cons_succ]
      rfl
    refine last_ (i := 6) (N := none) #[true, true, true, true, true, true, true] rfl rfl (by kernel_rfl) (by decide) (fun K hK => ?_)
    go_simp
    refine hK.out _ _ ?_
    clear hK K
    refine done_ (by kernel_rfl) ?_
    go_wp2_with fail
    go_end0
    exact ⟨rfl, _, _, _, (HH.out.2.2.1.moveV HH.out.2.2.2 hne).1⟩
  · have z7 : 2 ≤ cap - p := by omega
    go_enter Try.func23, Try.ntmps23
    go_wp2_with fail
    have HWd := Lib.hid HW.out.drew
    have HVd := Lib.hid (show RVar V g p n cap w.drew from HV.out)
    refine start_ (n := 7) (S := fun w' => w'.cell? ⟨L, 0, none⟩ = some (.slice A m c) ∧ w'.cell? ⟨V, 0, none⟩ = some (.slice (some ⟨g, p, none⟩) (n - p) (cap - p)) ∧ w'.cell? ⟨g, p, none⟩ = some (.int .i64 (rd all (p : Int)))) (ds := [6]) #[false, false, false, false, false, false, false] (by kernel_rfl) rfl rfl ⟨cL, cV, cG⟩ (fun hHeld => ?_)
    generalize w.drew = wd at HWd HVd hHeld ⊢
    have ltLd := blk_lt HWd.out.var
    have ltVd := blk_lt HVd.out
    have ltGd : g < wd.heap.size := by omega
    refine take_ (i := 0) (N := some 8) (v := ?_) (a' := ?_) #[true, false, false, false, false, false, false] rfl rfl (by kernel_rfl) (fun _ _ _ h => h) (Or.inl ⟨by rfl, ?_⟩) hHeld ?_ ?_
    rotate_left
    · rintro w' ⟨s0, s1, s2⟩
      go_simp
      with_reducible rfl
    rotate_left
    · simp only [Act.put, List.setIfInBounds_toArray, List.set_cons_zero, List.set_cons_succ]
      rfl
    refine take_ (i := 1) (N := some 9) (v := ?_) (a' := ?_) #[true, true, false, false, false, false, false] rfl rfl (by kernel_rfl) (fun _ _ _ h => h) (Or.inl ⟨by rfl, ?_⟩) hHeld ?_ ?_
    rotate_left
    · rintro w' ⟨s0, s1, s2⟩
      go_simp
      with_reducible rfl
    rotate_left
    · simp only [Act.put, List.setIfInBounds_toArray, List.set_cons_zero, List.set_cons_succ]
      rfl
    refine pure_ (i := 2) (N := some 10) (v := ?_) (a' := ?_) #[true, true, true, false, false, false, false] rfl rfl (by kernel_rfl) (fun _ _ _ h => h) (Or.inl ⟨by rfl, ?_⟩) ?_ ?_
    rotate_left
    · intro w'
      go_simp
      with_reducible rfl
    rotate_left
    · simp only [Act.put, List.setIfInBounds_toArray, List.set_cons_zero, List.set_cons_succ]
      rfl
    refine take_ (i := 3) (N := some 11) (v := ?_) (a' := ?_) #[true, true, true, true, false, false, false] rfl rfl (by kernel_rfl) (fun _ _ _ h => h) (Or.inl ⟨by rfl, ?_⟩) hHeld ?_ ?_
    rotate_left
    · rintro w' ⟨s0, s1, s2⟩
      go_simp
      with_reducible rfl
    rotate_left
    · simp only [Act.put, List.setIfInBounds_toArray, List.set_cons_zero, List.set_cons_succ]
      rfl
    refine one_ (i := 4) (N := some 12) #[true, true, true, true, true, false, false] rfl rfl (by kernel_rfl) (by decide) (fun K hK => ?_)
    go_simp
    refine hK.out _ _ ?_ (fun hHeld => ?_)
    · exact ⟨by rw [Below.cell (below_alloc (Below.refl wd.heap.size wd) _) ltLd]; exact hHeld.1, by rw [Below.cell (below_alloc (Below.refl wd.heap.size wd) _) ltVd]; exact hHeld.2.1, by rw [Below.cell (below_alloc (Below.refl wd.heap.size wd) _) ltGd]; exact hHeld.2.2⟩
    clear hK K
    refine one_ (i := 5) (N := some 13) #[true, true, true, true, true, true, false] rfl rfl (by kernel_rfl) (by decide) (fun K hK => ?_)
    refine step_append_lies _ rfl (.tmp 8) (.tmp 12) 22 rfl V 3 i0 _ 1 8 Try.underlying22 hi0 hz0 hz1 hz2 rfl (by omega) (.slice A m c) m (nums .i64 acc) rfl (HWd.out.own.alloc _) ⟨wd.heap.size, 0, none⟩ 1 1 [.int .i64 (rd all (p : Int))] rfl rfl (World.news_of_block (cs := #[.int .i64 (rd all (p : Int))]) (t := 3) (fr := (0, 0)) (heap_alloc_new wd _)) (by simp [Value.oneCell']) (by omega) (by unfold maxLen; omega) (by omega) (by simp; omega) (wd.heap.size + 1) (by simp) ?_
    intro gg c1 w1 hown1 hgrow hat hlt1
    have HH := Lib.hid (GW.grownV HWd.out HVd.out HC.out hown1 hgrow)
    clear hown1 hgrow hat hlt1
    refine hK.out _ _ HH.out.1 (fun hHeld => ?_)
    clear hK K
    have cL1 := HH.out.1.1
    have cV1 := HH.out.1.2.1
    have fL1 := HH.out.2.1.1
    have fV1 := HH.out.2.1.2
    refine norm_ (a' := ?_) ?_ ?_
    rotate_left
    · simp only [Act.put, List.setIfInBounds_toArray, List.set_cons_zero, List.set_cons_succ]
      rfl
    refine last_ (i := 6) (N := none) #[true, true, true, true, true, true, true] rfl rfl (by kernel_rfl) (by decide) (fun K hK => ?_)
    go_simp
    refine hK.out _ _ ?_
    clear hK K
    refine done_ (by kernel_rfl) ?_
    go_wp2_with fail
    go_end0
    exact ⟨rfl, _, _, _, (HH.out.2.2.1.moveV HH.out.2.2.2 hne).1⟩
theorem posK_le106 : ∀ k, k < 56 → posK k ≤ 106 := by decide
theorem sizes_len : (sizesUpTo 56).length = 107 := by rw [sizesUpTo_length]; decide
theorem picksUpTo_length (all : List Int) : ∀ k, (picksUpTo all k).length = k
  | 0 => rfl
  | k + 1 => by rw [picksUpTo, List.length_append, picksUpTo_length all k]; rfl
/-- What konst.Get answers. -/
def kgspec (s : ByteArray) (a : Int) : List Int × Int :=
  if (gspec s a (sizesUpTo 56)).2 = 0 then (picksUpTo (gspec s a (sizesUpTo 56)).1 56, 0) else ([], (gspec s a (sizesUpTo 56)).2)
def konst_Get.f (s : ByteArray) (a : Int) : Option (List Int × Int) := if s.size ≤ 140737488351232 then some (kgspec s a) else none
theorem gspec_ok (s : ByteArray) (a : Int) (l : List Int) (h : (gspec s a l).2 = 0) : (gspec s a l).1.length = l.length := by
  unfold gspec at h ⊢
  by_cases h1 : a < 0 ∨ rightB l = false
  · rw [if_pos h1] at h; exact absurd h (by decide)
  · rw [if_neg h1] at h ⊢
    by_cases h2 : a > s.size
    · rw [if_pos h2] at h; exact absurd h (by decide)
    · rw [if_neg h2] at h ⊢
      by_cases h3 : tot l ≤ s.size - a.toNat
      · rw [if_pos h3]; exact vals_length _ _
      · rw [if_neg h3] at h; exact absurd h (by decide)
theorem R_form {w : World} {base : Nat} {v : Value} {xs : List Int} (h : Kd.R (Kd.int .i64) 3 w base (fun _ => True) v xs) (hp : 0 < xs.length) :
    ∃ g cap, v = .slice (some ⟨g, 0, none⟩) xs.length cap ∧ xs.length ≤ cap ∧ cap ≤ 9223372036854775807 ∧ g < w.heap.size ∧ ∀ j, j < xs.length → w.cell? ⟨g, j, none⟩ = some (.int .i64 (rd xs (j : Int))) := by
  obtain ⟨inner, hl, ho⟩ := Kd.R_own h
  obtain ⟨A, c, hv, hle, hC⟩ := Kd.R_reads h
  rcases ho with ⟨rfl, h0⟩ | ⟨g, cap, cur, rfl, hb, hg, hc1, hc2, _⟩
  · omega
  · injection hv with e1 _ e3
    subst e1
    subst e3
    unfold maxLen at hc2
    refine ⟨g, cap, rfl, hc1, hc2, blk_lt hg, fun j hj => ?_⟩
    obtain ⟨ad, ead, hcell⟩ := Kd.at_int hC (j : Int) (by omega) (by omega)
    injection ead with ead
    subst ead
    rw [Int.toNat_natCast, add_plain] at hcell
    exact hcell
/-- What stands at each constant. -/
def GetK (L V g cap : Nat) (w0 : World) (all : List Int) (k : Nat) (w : World) : Prop := (∃ A c m, GW L V w0 A c m (picksUpTo all k) w) ∧ (k < 56 → RVar V g (posK k) 107 cap w)
theorem getK_step (L V g cap : Nat) (w0 : World) (all : List Int) (hC : RCells V g 107 w0 all) (hn : 107 ≤ cap) (hcap : cap ≤ 9223372036854775807) (hne : V ≠ L) (k : Nat) (hk : k < 56) (w : World) (h : GetK L V g cap w0 all k w) :
    Calls Try.prog 23 #[.int .i64 k, .int .i64 (sizeK k), .bool (moreK k), .pointer (some ⟨L, 0, none⟩), .pointer (some ⟨V, 0, none⟩)] w fun e w' => e = .returned (.tuple #[]) ∧ GetK L V g cap w0 all (k + 1) w' := by
  have hl : (picksUpTo all k).length ≤ 1000 := by rw [picksUpTo_length]; omega
  by_cases h55 : k < 55
  · have hp : posK k + 1 + (moreK k).toNat < 107 := by have := posK_le106 (k + 1) (by omega); simp only [posK] at this; omega
    refine (get1_any L V g (posK k) 107 cap w0 (picksUpTo all k) all k (sizeK k) (moreK k) w h.1 (h.2 hk) hC hl hp hn hcap hne).mono ?_
    rintro e w' ⟨rfl, h1, h2⟩
    exact ⟨rfl, h1, fun _ => h2⟩
  · obtain rfl : k = 55 := by omega
    refine (get1_last L V g (posK 55) 107 cap w0 (picksUpTo all 55) all 55 (sizeK 55) w h.1 (h.2 hk) hC hl (by decide) hn hcap hne).mono ?_
    rintro e w' ⟨rfl, h1⟩
    exact ⟨rfl, h1, fun hh => absurd hh (by decide)⟩
set_option maxHeartbeats 1000000 in
theorem konst_Get.calls (a0 : ByteArray) (a1 : Int) (r1 : List Int) (r2 : Int) (w : World) (h : konst_Get.f a0 a1 = some (r1, r2)) :
    Calls Try.prog 8 #[.string a0, .int .i64 a1] w fun e w' => ∃ v0_ : Value, e = .returned (.tuple #[v0_, .int .i64 r2]) ∧ Kd.R (Kd.int .i64) 3 w' w.heap.size (fun _ => True) v0_ r1 ∧ Below w.heap.size w w' := by
  have hmf : ∀ (fn : Fn) (first cap : Array Value) (w : World), (Instr.makeFunc fn first cap).run Try.prog w = .ok (.func fn first cap) w := fun _ _ _ _ => rfl
  unfold konst_Get.f at h
  by_cases hs : a0.size ≤ 140737488351232
  case neg => rw [if_neg hs] at h; exact absurd h (by simp)
  rw [if_pos hs] at h
  have hr := Option.some.inj h
  have HR := Lib.hid hr
  clear h hr
  have hlen := sizes_len
  have hgs := get_spec a0 a1 (sizesUpTo 56) hs (by rw [hlen]; decide)
  have HGS := Lib.hid hgs
  clear hgs hlen
  go_enter Try.func8, Try.ntmps8
  go_wp2_with fail
  refine (konst_sizes.calls _ _ rfl).mono ?_
  rintro e w1 ⟨v0, rfl, hv0, hb0⟩
  obtain ⟨A, c, rfl, hle, hC⟩ := Kd.R_reads hv0
  have HC := Lib.hid hC
  have HLE := Lib.hid hle
  have HB0 := Lib.hid hb0
  clear hv0 hC hle hb0
  go_wp2_with fail
  obtain ⟨G1, G2, hG⟩ : ∃ G1 G2, gspec a0 a1 (sizesUpTo 56) = (G1, G2) := ⟨_, _, rfl⟩
  have hGl : G2 = 0 → G1.length = 107 := fun hz => by have := gspec_ok a0 a1 (sizesUpTo 56) (by rw [hG]; exact hz); rw [hG, sizes_len] at this; exact this
  have hrr : (r1, r2) = (if G2 = 0 then (picksUpTo G1 56, 0) else ([], G2)) := by rw [← HR.out]; unfold kgspec; rw [hG]
  have hcl := bin_Get.calls a0 a1 A c (sizesUpTo 56) G1 G2 w1 HC.out HLE.out (by rw [HGS.out, hG])
  have HRR := Lib.hid hrr
  have HGL := Lib.hid hGl
  have HCL := Lib.hid hcl
  clear hG hGl hrr hcl
  refine HCL.out.mono ?_
  rintro e w2 ⟨v1, rfl, hv1, hb1⟩
  by_cases hz : G2 = 0
  · subst hz
    have hl := HGL.out rfl
    have hq := HRR.out
    rw [if_pos rfl] at hq
    have hq1 : r1 = picksUpTo G1 56 := congrArg Prod.fst hq
    have hq2 : r2 = 0 := congrArg Prod.snd hq
    clear hq
    generalize hPK : picksUpTo G1 56 = PK at hq1
    subst hq1
    subst hq2
    have HPK := Lib.hid hPK
    clear hPK
    obtain ⟨g, cap, rfl, hc1, hc2, hg, hcell⟩ := R_form hv1 (by omega)
    rw [hl] at hc1 hcell ⊢
    have HB1 := Lib.hid (below_then HB0.out HB0.out.size hb1)
    have HRC := Lib.hid (⟨hcell, hg⟩ : RCells w2.heap.size g 107 w2 G1)
    clear hv1 hb1 hcell hl HGL HRR HCL
    go_wp2_with fail
    have hst : GetK (w2.heap.size + 1) w2.heap.size g cap w2 G1 0 ((w2.alloc (.cells #[.slice (some ⟨g, 0, none⟩) 107 cap] 22)).alloc (.cells #[.slice none 0 0] 22)) := by
      refine ⟨⟨none, 0, 0, rfl, ?_, own_nil _ _ _ _, ((Below.refl _ _).alloc (Nat.le_refl _) _).alloc (by simp) _, by omega⟩, fun _ => ?_⟩
      · have := heap_alloc_new (w2.alloc (.cells #[.slice (some ⟨g, 0, none⟩) 107 cap] 22)) (.cells #[.slice none 0 0] 22)
        simpa using this
      · refine (Below.heap_alloc _ _ _ (by simp)).trans ?_
        exact heap_alloc_new w2 _
    refine (row_get ⟨w2.heap.size + 1, 0, none⟩ ⟨w2.heap.size, 0, none⟩ (GetK (w2.heap.size + 1) w2.heap.size g cap w2 G1) (fun k hk W hW => getK_step _ _ _ _ _ _ HRC.out hc1 hc2 (by omega) k hk W hW) _ hst).mono ?_
    rintro e w3 ⟨rfl, ⟨A3, c3, m3, hw3⟩, _⟩
    have cL3 := cell_of_one hw3.var
    have H3 := Lib.hid hw3
    clear hw3 hst
    go_wp2_with fail
    go_ret2
    refine ⟨_, rfl, ?_, HB1.out.trans (H3.out.bel.mono HB1.out.size)⟩
    have ho := H3.out.own
    have hlen3 := H3.out.len
    rw [HPK.out] at ho hlen3
    subst hlen3
    exact Kd.R_lower (R_of_own ho) HB1.out.size
  · have hq := HRR.out
    rw [if_neg hz] at hq
    obtain ⟨rfl, rfl⟩ : r1 = [] ∧ r2 = G2 := ⟨congrArg Prod.fst hq, congrArg Prod.snd hq⟩
    clear hq
    obtain ⟨A1, c1, rfl⟩ := Kd.R_slice hv1
    have HB1 := Lib.hid (below_then HB0.out HB0.out.size hb1)
    have hz1 : (r2 == 0) = false := by simpa using hz
    have hz2 : (r2 != 0) = true := by simpa using hz
    clear hv1 hb1 hz HRR HGL HCL
    go_wp2_with fail
    go_ret2
    exact ⟨_, rfl, Kd.R_nil _ _ _ _ _, below_alloc HB1.out _⟩
end Go.Proofs.Ytgleffjeaognfaa.P
