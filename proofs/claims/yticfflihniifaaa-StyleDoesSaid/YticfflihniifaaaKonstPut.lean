/- konst.Put's closure, and Put, walked. Conditions: the sizes of what came in. -/
import Derived.Test.YticfflihniifaaaKonst
namespace Go.Proofs.Yticfflihniifaaa.P
open Go.RowKit Go.Proofs.YticfflihniifaaaW.PrintWords Go.Proofs.YticfflihniifaaaW.PrintLast Go.Proofs.YticfflihniifaaaW.PrintMore Go.Proofs.Yticfflihniifaaa.BN
set_option maxRecDepth 100000
set_option linter.unusedVariables false
set_option linter.unusedSimpArgs false
theorem GW.grownP {L V base : Nat} {w0 w w1 : World} {acc : List Int} {A A1 : Option Addr} {c c1 m c0 : Nat} {ad : Addr} {k : Nat} {x u : Int} (h : GW L base w0 A c m acc w) (lowV : V < base) (lowG : (ad.add k).block < base) (hc : w0.cell? ⟨V, 0, none⟩ = some (.slice (some ad) 56 c0) ∧ w0.cell? (ad.add k) = some (.int .i64 u))
    (hown1 : w1.ownsRow base 3 1 (.slice A1 (m + 1) c1) (m + 1) (nums .i64 acc ++ [.int .i64 x])) (hg : (w.alloc (.cells #[.int .i64 x] 3)).grownBy w1 (Value.slice A m c).ownBlock) :
    (w1.cell? ⟨L, 0, none⟩ = some (.slice A m c) ∧ w1.cell? ⟨V, 0, none⟩ = some (.slice (some ad) 56 c0) ∧ w1.cell? (ad.add k) = some (.int .i64 u)) ∧ w1.frozen? ⟨L, 0, none⟩ = false ∧
      GW L base w0 A1 c1 (m + 1) (acc ++ [x]) (w1.setCell ⟨L, 0, none⟩ (.slice A1 (m + 1) c1)) ∧ L < w1.heap.size := by
  obtain ⟨hL1, hG⟩ := h.grown hown1 hg
  have hB1 : Below base w0 w1 := (h.bel.alloc (by have := blk_lt h.var; have := h.le; omega) _).grown hg (by have := blk_lt h.var; have := h.le; simp; omega) (fun j hj => own_base h.own j hj)
  exact ⟨⟨cell_of_one hL1, (hB1.cell lowV).trans hc.1, (hB1.cell lowG).trans hc.2⟩, free_of_one hL1, hG, blk_lt hL1⟩
set_option maxHeartbeats 1600000 in
theorem put1_any (L V base c0 : Nat) (ad : Addr) (w0 : World) (acc l : List Int) (k : Nat) (s : Int) (more : Bool) (w : World) (h : ∃ A c m, GW L base w0 A c m acc w) (hc : w0.cell? ⟨V, 0, none⟩ = some (.slice (some ad) 56 c0) ∧ w0.cell? (ad.add k) = some (.int .i64 (rd l (k : Int)))) (lowV : V < base) (lowG : (ad.add k).block < base)
    (hl : acc.length ≤ 1000) (hk : k < 56) :
    Calls Try.prog 42 #[.int .i64 k, .int .i64 s, .bool more, .pointer (some ⟨L, 0, none⟩), .pointer (some ⟨V, 0, none⟩)] w fun e w' => e = .returned (.tuple #[]) ∧ (∃ A c m, GW L base w0 A c m (acc ++ [rd l (k : Int)] ++ (if more then [0] else [])) w') := by
  obtain ⟨i0, hi0, hz0, hz1, hz2⟩ := info_parts info3
  obtain ⟨A, c, m, hw⟩ := h
  have hm : m ≤ 1000 := by rw [← hw.len]; exact hl
  have cL := cell_of_one hw.var
  have fL := free_of_one hw.var
  have ltL := blk_lt hw.var
  have hb := hw.le
  have cV := (hw.bel.cell (p := ⟨V, 0, none⟩) lowV).trans hc.1
  have cG := (hw.bel.cell lowG).trans hc.2
  have k0 : (0 : Int) ≤ (k : Int) := by omega
  have k1 : (k : Int) < 56 := by omega
  have HW := Lib.hid hw
  have HC := Lib.hid hc
  clear hw hc hl
  cases more
  · skip
    go_enter Try.func42, Try.ntmps42
    go_wp2_with fail
    have HWd := Lib.hid HW.out.drew
    refine start_ (n := 8) (S := fun w' => w'.cell? ⟨L, 0, none⟩ = some (.slice A m c) ∧ w'.cell? ⟨V, 0, none⟩ = some (.slice (some ad) 56 c0) ∧ w'.cell? (ad.add k) = some (.int .i64 (rd l (k : Int)))) (ds := [7]) #[false, false, false, false, false, false, false, false] (by kernel_rfl) rfl rfl ⟨cL, cV, cG⟩ (fun hHeld => ?_)
    generalize w.drew = wd at HWd hHeld ⊢
    have ltLd := blk_lt HWd.out.var
    have ltVd : V < wd.heap.size := by omega
    have ltGd : (ad.add k).block < wd.heap.size := by omega
    refine take_ (i := 0) (N := some 8) (v := ?_) (a' := ?_) #[true, false, false, false, false, false, false, false] rfl rfl (by kernel_rfl) (fun _ _ _ h => h) (Or.inl ⟨by rfl, ?_⟩) hHeld ?_ ?_
    rotate_left
    · rintro w' ⟨s0, s1, s2⟩
      go_simp
      with_reducible rfl
    rotate_left
    · simp only [Act.put, List.setIfInBounds_toArray, List.set_cons_zero, List.set_cons_succ]
      rfl
    refine take_ (i := 1) (N := some 9) (v := ?_) (a' := ?_) #[true, true, false, false, false, false, false, false] rfl rfl (by kernel_rfl) (fun _ _ _ h => h) (Or.inl ⟨by rfl, ?_⟩) hHeld ?_ ?_
    rotate_left
    · rintro w' ⟨s0, s1, s2⟩
      go_simp
      with_reducible rfl
    rotate_left
    · simp only [Act.put, List.setIfInBounds_toArray, List.set_cons_zero, List.set_cons_succ]
      rfl
    refine pure_ (i := 2) (N := some 10) (v := ?_) (a' := ?_) #[true, true, true, false, false, false, false, false] rfl rfl (by kernel_rfl) (fun _ _ _ h => h) (Or.inl ⟨by rfl, ?_⟩) ?_ ?_
    rotate_left
    · intro w'
      go_simp
      with_reducible rfl
    rotate_left
    · simp only [Act.put, List.setIfInBounds_toArray, List.set_cons_zero, List.set_cons_succ]
      rfl
    refine pure_ (i := 3) (N := some 11) (v := ?_) (a' := ?_) #[true, true, true, true, false, false, false, false] rfl rfl (by kernel_rfl) (fun _ _ _ h => h) (Or.inl ⟨by rfl, ?_⟩) ?_ ?_
    rotate_left
    · intro w'
      go_simp
      with_reducible rfl
    rotate_left
    · simp only [Act.put, List.setIfInBounds_toArray, List.set_cons_zero, List.set_cons_succ]
      rfl
    refine take_ (i := 4) (N := some 12) (v := ?_) (a' := ?_) #[true, true, true, true, true, false, false, false] rfl rfl (by kernel_rfl) (fun _ _ _ h => h) (Or.inl ⟨by rfl, ?_⟩) hHeld ?_ ?_
    rotate_left
    · rintro w' ⟨s0, s1, s2⟩
      go_simp
      with_reducible rfl
    rotate_left
    · simp only [Act.put, List.setIfInBounds_toArray, List.set_cons_zero, List.set_cons_succ]
      rfl
    refine one_ (i := 5) (N := some 13) #[true, true, true, true, true, true, false, false] rfl rfl (by kernel_rfl) (by decide) (fun K hK => ?_)
    go_simp
    refine hK.out _ _ ?_ (fun hHeld => ?_)
    · exact ⟨by rw [Below.cell (below_alloc (Below.refl wd.heap.size wd) _) ltLd]; exact hHeld.1, by rw [Below.cell (below_alloc (Below.refl wd.heap.size wd) _) ltVd]; exact hHeld.2.1, by rw [Below.cell (below_alloc (Below.refl wd.heap.size wd) _) ltGd]; exact hHeld.2.2⟩
    clear hK K
    refine one_ (i := 6) (N := some 14) #[true, true, true, true, true, true, true, false] rfl rfl (by kernel_rfl) (by decide) (fun K hK => ?_)
    refine step_append_lies _ rfl (.tmp 8) (.tmp 13) 27 rfl base 3 i0 _ 1 8 Try.underlying27 hi0 hz0 hz1 hz2 rfl (by omega) (.slice A m c) m (nums .i64 acc) rfl (HWd.out.own.alloc _) ⟨wd.heap.size, 0, none⟩ 1 1 [.int .i64 (rd l (k : Int))] rfl rfl (World.news_of_block (cs := #[.int .i64 (rd l (k : Int))]) (t := 3) (fr := (0, 0)) (heap_alloc_new wd _)) (by simp [Value.oneCell']) (by omega) (by unfold maxLen; omega) (by omega) (by simp; omega) (wd.heap.size + 1) (by simp) ?_
    intro gg c1 w1 hown1 hgrow hat hlt1
    have HH := Lib.hid (GW.grownP HWd.out lowV lowG HC.out hown1 hgrow)
    clear hown1 hgrow hat hlt1
    refine hK.out _ _ HH.out.1 (fun hHeld => ?_)
    clear hK K
    have cL1 := HH.out.1.1
    have fL1 := HH.out.2.1
    have lt1 := HH.out.2.2.2
    refine norm_ (a' := ?_) ?_ ?_
    rotate_left
    · simp only [Act.put, List.setIfInBounds_toArray, List.set_cons_zero, List.set_cons_succ]
      rfl
    refine last_ (i := 7) (N := none) #[true, true, true, true, true, true, true, true] rfl rfl (by kernel_rfl) (by decide) (fun K hK => ?_)
    go_simp
    refine hK.out _ _ ?_
    clear hK K
    refine done_ (by kernel_rfl) ?_
    go_wp2_with fail
    go_end0
    exact ⟨rfl, _, _, _, by simpa using HH.out.2.2.1⟩
  · skip
    go_enter Try.func42, Try.ntmps42
    go_wp2_with fail
    have HWd := Lib.hid HW.out.drew
    refine start_ (n := 8) (S := fun w' => w'.cell? ⟨L, 0, none⟩ = some (.slice A m c) ∧ w'.cell? ⟨V, 0, none⟩ = some (.slice (some ad) 56 c0) ∧ w'.cell? (ad.add k) = some (.int .i64 (rd l (k : Int)))) (ds := [7]) #[false, false, false, false, false, false, false, false] (by kernel_rfl) rfl rfl ⟨cL, cV, cG⟩ (fun hHeld => ?_)
    generalize w.drew = wd at HWd hHeld ⊢
    have ltLd := blk_lt HWd.out.var
    have ltVd : V < wd.heap.size := by omega
    have ltGd : (ad.add k).block < wd.heap.size := by omega
    refine take_ (i := 0) (N := some 8) (v := ?_) (a' := ?_) #[true, false, false, false, false, false, false, false] rfl rfl (by kernel_rfl) (fun _ _ _ h => h) (Or.inl ⟨by rfl, ?_⟩) hHeld ?_ ?_
    rotate_left
    · rintro w' ⟨s0, s1, s2⟩
      go_simp
      with_reducible rfl
    rotate_left
    · simp only [Act.put, List.setIfInBounds_toArray, List.set_cons_zero, List.set_cons_succ]
      rfl
    refine take_ (i := 1) (N := some 9) (v := ?_) (a' := ?_) #[true, true, false, false, false, false, false, false] rfl rfl (by kernel_rfl) (fun _ _ _ h => h) (Or.inl ⟨by rfl, ?_⟩) hHeld ?_ ?_
    rotate_left
    · rintro w' ⟨s0, s1, s2⟩
      go_simp
      with_reducible rfl
    rotate_left
    · simp only [Act.put, List.setIfInBounds_toArray, List.set_cons_zero, List.set_cons_succ]
      rfl
    refine pure_ (i := 2) (N := some 10) (v := ?_) (a' := ?_) #[true, true, true, false, false, false, false, false] rfl rfl (by kernel_rfl) (fun _ _ _ h => h) (Or.inl ⟨by rfl, ?_⟩) ?_ ?_
    rotate_left
    · intro w'
      go_simp
      with_reducible rfl
    rotate_left
    · simp only [Act.put, List.setIfInBounds_toArray, List.set_cons_zero, List.set_cons_succ]
      rfl
    refine pure_ (i := 3) (N := some 11) (v := ?_) (a' := ?_) #[true, true, true, true, false, false, false, false] rfl rfl (by kernel_rfl) (fun _ _ _ h => h) (Or.inl ⟨by rfl, ?_⟩) ?_ ?_
    rotate_left
    · intro w'
      go_simp
      with_reducible rfl
    rotate_left
    · simp only [Act.put, List.setIfInBounds_toArray, List.set_cons_zero, List.set_cons_succ]
      rfl
    refine take_ (i := 4) (N := some 12) (v := ?_) (a' := ?_) #[true, true, true, true, true, false, false, false] rfl rfl (by kernel_rfl) (fun _ _ _ h => h) (Or.inl ⟨by rfl, ?_⟩) hHeld ?_ ?_
    rotate_left
    · rintro w' ⟨s0, s1, s2⟩
      go_simp
      with_reducible rfl
    rotate_left
    · simp only [Act.put, List.setIfInBounds_toArray, List.set_cons_zero, List.set_cons_succ]
      rfl
    refine one_ (i := 5) (N := some 13) #[true, true, true, true, true, true, false, false] rfl rfl (by kernel_rfl) (by decide) (fun K hK => ?_)
    go_simp
    refine hK.out _ _ ?_ (fun hHeld => ?_)
    · exact ⟨by rw [Below.cell (below_alloc (Below.refl wd.heap.size wd) _) ltLd]; exact hHeld.1, by rw [Below.cell (below_alloc (Below.refl wd.heap.size wd) _) ltVd]; exact hHeld.2.1, by rw [Below.cell (below_alloc (Below.refl wd.heap.size wd) _) ltGd]; exact hHeld.2.2⟩
    clear hK K
    refine one_ (i := 6) (N := some 14) #[true, true, true, true, true, true, true, false] rfl rfl (by kernel_rfl) (by decide) (fun K hK => ?_)
    refine step_append_lies _ rfl (.tmp 8) (.tmp 13) 27 rfl base 3 i0 _ 1 8 Try.underlying27 hi0 hz0 hz1 hz2 rfl (by omega) (.slice A m c) m (nums .i64 acc) rfl (HWd.out.own.alloc _) ⟨wd.heap.size, 0, none⟩ 1 1 [.int .i64 (rd l (k : Int))] rfl rfl (World.news_of_block (cs := #[.int .i64 (rd l (k : Int))]) (t := 3) (fr := (0, 0)) (heap_alloc_new wd _)) (by simp [Value.oneCell']) (by omega) (by unfold maxLen; omega) (by omega) (by simp; omega) (wd.heap.size + 1) (by simp) ?_
    intro gg c1 w1 hown1 hgrow hat hlt1
    have HH := Lib.hid (GW.grownP HWd.out lowV lowG HC.out hown1 hgrow)
    clear hown1 hgrow hat hlt1
    refine hK.out _ _ HH.out.1 (fun hHeld => ?_)
    clear hK K
    have cL1 := HH.out.1.1
    have fL1 := HH.out.2.1
    have lt1 := HH.out.2.2.2
    refine norm_ (a' := ?_) ?_ ?_
    rotate_left
    · simp only [Act.put, List.setIfInBounds_toArray, List.set_cons_zero, List.set_cons_succ]
      rfl
    refine last_ (i := 7) (N := none) #[true, true, true, true, true, true, true, true] rfl rfl (by kernel_rfl) (by decide) (fun K hK => ?_)
    go_simp
    refine hK.out _ _ ?_
    clear hK K
    refine done_ (by kernel_rfl) ?_
    have HJ := Lib.hid HH.out.2.2.1
    go_wp2_with (at_builtin; refine wpList_append_own _ rfl _ _ 27 rfl base 3 i0 (.int .i64 0) 1 8 Try.underlying27 hi0 hz0 hz1 hz2 rfl (by decide) (.slice (some ⟨gg, 0, none⟩) (m + 1) c1) (m + 1) (nums .i64 (acc ++ [rd l (k : Int)])) rfl (HJ.out.own.alloc _) ⟨_, 0, none⟩ 1 1 [.int .i64 0] rfl rfl (World.news_of_block (cs := #[.int .i64 0]) (t := 3) (fr := (0, 0)) (by first | exact heap_alloc_new _ _ | exact heap_alloc_set _ _ _ _)) (by simp [Value.oneCell']) (by unfold maxLen; omega) (by omega) (by simp; omega) ?_; intro v2 w2 hown2 hg2 _; obtain ⟨A2, c2, rfl⟩ := own_slice hown2; have HH2 := Lib.hid (HJ.out.grown hown2 hg2); clear hown2 hg2; have cL2 := cell_of_one HH2.out.1; have fL2 := free_of_one HH2.out.1)
    go_end0
    exact ⟨rfl, _, _, _, by simpa using HH2.out.2⟩
/-- What konst.Put answers. -/
def kpspec (l : List Int) : ByteArray × Int :=
  if l.length = 56 then (if (pspec (sizesUpTo 56) (spreadUpTo l 56)).2 = 0 then ((pspec (sizesUpTo 56) (spreadUpTo l 56)).1, 0) else (⟨#[]⟩, 1)) else (⟨#[]⟩, 1)
def konst_Put.f (l : List Int) : Option (ByteArray × Int) := if l.length ≤ 1000000000 then some (kpspec l) else none
theorem spread_len (l : List Int) : (spreadUpTo l 56).length = 107 := by rw [spreadUpTo_length]; decide
theorem kput_long (A0 : Option Addr) (c0 : Nat) (l0 : List Int) (w : World) (hl : l0.length ≤ 1000000000) (h : ¬ l0.length = 56) :
    Calls Try.prog 28 #[.slice A0 l0.length c0] w fun e w' => e = .returned (.tuple #[.string ⟨#[]⟩, .int .i64 1]) ∧ Below w.heap.size w w' := by
  have h1 : ((l0.length : Int) == 56) = false := by simp; omega
  have h2 : ((l0.length : Int) != 56) = true := by simp; omega
  go_enter Try.func28, Try.ntmps28
  go_wp2_with fail
  go_ret2
  exact ⟨rfl, below_alloc (Below.refl _ _) _⟩
theorem pair_ex {α β : Type} (x : α × β) : ∃ a b, x = (a, b) := ⟨x.1, x.2, rfl⟩
theorem kput_len (l : List Int) (h : l.length = 56) : kpspec l = (if (pspec (sizesUpTo 56) (spreadUpTo l 56)).2 = 0 then ((pspec (sizesUpTo 56) (spreadUpTo l 56)).1, 0) else (⟨#[]⟩, 1)) := if_pos h
set_option maxHeartbeats 1600000 in
theorem kput_56 (ad : Addr) (c0 : Nat) (l0 : List Int) (w : World) (hx : ∀ k : Nat, k < 56 → w.cell? (ad.add k) = some (.int .i64 (rd l0 (k : Int)))) (P1 : ByteArray) (P2 : Int) (hP : pspec (sizesUpTo 56) (spreadUpTo l0 56) = (P1, P2)) (r : ByteArray × Int) (hr : (if P2 = 0 then (P1, 0) else (⟨#[]⟩, 1)) = r) :
    Calls Try.prog 28 #[.slice (some ad) 56 c0] w fun e w' => e = .returned (.tuple #[.string r.1, .int .i64 r.2]) ∧ Below w.heap.size w w' := by
  have hmf : ∀ (fn : Fn) (first cap : Array Value) (w : World), (Instr.makeFunc fn first cap).run Try.prog w = .ok (.func fn first cap) w := fun _ _ _ _ => rfl
  have hput : bin_Put.f (sizesUpTo 56) (spreadUpTo l0 56) = some (P1, P2) := by rw [put_spec _ _ (by rw [sizes_len]; decide) (by rw [spread_len]; decide), hP]
  have HX := Lib.hid hx
  have HPUT := Lib.hid hput
  have HR := Lib.hid hr
  clear hx hput hP hr
  go_enter Try.func28, Try.ntmps28
  go_wp2_with fail
  have hst : ∃ A c m, GW (w.heap.size + 1) (w.heap.size + 1) (w.alloc (.cells #[.slice (some ad) 56 c0] 27)) A c m (spreadUpTo l0 0) ((w.alloc (.cells #[.slice (some ad) 56 c0] 27)).alloc (.cells #[.slice none 0 0] 27)) := by
    refine ⟨none, 0, 0, rfl, ?_, own_nil _ _ _ _, (Below.refl _ _).alloc (by simp) _, Nat.le_refl _⟩
    have := heap_alloc_new (w.alloc (.cells #[.slice (some ad) 56 c0] 27)) (.cells #[.slice none 0 0] 27)
    simpa using this
  have hstep : ∀ k, k < 56 → ∀ W, (∃ A c m, GW (w.heap.size + 1) (w.heap.size + 1) (w.alloc (.cells #[.slice (some ad) 56 c0] 27)) A c m (spreadUpTo l0 k) W) →
      Calls Try.prog 42 #[.int .i64 k, .int .i64 (sizeK k), .bool (moreK k), .pointer (some ⟨w.heap.size + 1, 0, none⟩), .pointer (some ⟨w.heap.size, 0, none⟩)] W fun e w' => e = .returned (.tuple #[]) ∧ (∃ A c m, GW (w.heap.size + 1) (w.heap.size + 1) (w.alloc (.cells #[.slice (some ad) 56 c0] 27)) A c m (spreadUpTo l0 (k + 1)) w') := by
    intro k hk W hW
    have hlt := World.block_lt_of_cell? w _ (HX.out k hk)
    refine put1_any (w.heap.size + 1) w.heap.size (w.heap.size + 1) c0 ad _ (spreadUpTo l0 k) l0 k (sizeK k) (moreK k) W hW ⟨?_, ?_⟩ (by omega) (by omega) (by rw [spreadUpTo_length]; exact posK_small k (by omega)) hk
    · exact cell_of_one (heap_alloc_new w _)
    · rw [Below.cell (below_alloc (Below.refl w.heap.size w) _) hlt]; exact HX.out k hk
  refine (row_put ⟨w.heap.size + 1, 0, none⟩ ⟨w.heap.size, 0, none⟩ (fun k W => ∃ A c m, GW (w.heap.size + 1) (w.heap.size + 1) (w.alloc (.cells #[.slice (some ad) 56 c0] 27)) A c m (spreadUpTo l0 k) W) hstep _ hst).mono ?_
  rintro e w1 ⟨rfl, A, c, m, hw1⟩
  have cL1 := cell_of_one hw1.var
  have hB1 : Below w.heap.size w w1 := ((Below.refl w.heap.size w).alloc (Nat.le_refl _) _).trans (hw1.bel.mono (by omega))
  obtain ⟨LL, hLL⟩ : ∃ LL, LL = spreadUpTo l0 56 := ⟨_, rfl⟩
  have hown := hw1.own
  have hlen := hw1.len
  rw [← hLL] at hown hlen
  subst hlen
  obtain ⟨A', c', he, hle, hC⟩ := Kd.R_reads (R_of_own hown)
  injection he with e1 _ e3
  subst e1
  subst e3
  have HC1 := Lib.hid hC
  have HLE := Lib.hid hle
  have HB1 := Lib.hid hB1
  have HLL := Lib.hid hLL
  have HP2 := Lib.hid (show bin_Put.f (sizesUpTo 56) LL = some (P1, P2) by rw [hLL]; exact HPUT.out)
  have lt1 := blk_lt hw1.var
  clear hw1 hB1 hLL hown hC hle hst hstep HPUT
  go_wp2_with fail
  go_region_held3 (fun w' => w'.cell? ⟨w.heap.size + 1, 0, none⟩ = some (.slice A LL.length c)) (go_keep)
    (first
      | (go_at_call 44; refine (konst_sizes.calls _ _ rfl).mono ?_; rintro e w2 ⟨v2, rfl, hv2, hb2⟩; obtain ⟨A2, c2, rfl, hle2, hC2⟩ := Kd.R_reads hv2; have HC2 := Lib.hid hC2; have HLE2 := Lib.hid hle2; have hbb : Below w1.heap.size w1 w2 := ⟨hb2.os, hb2.tape, hb2.output, hb2.size, hb2.block⟩; have cL2 := (hbb.cell (p := ⟨w.heap.size + 1, 0, none⟩) lt1).trans cL1; have HB2 := Lib.hid hbb; clear hv2 hb2 hC2 hle2 hbb)
      | (go_at_call 43; refine (bin_Put.calls A2 c2 (sizesUpTo 56) A c LL P1 P2 _ HC2.out HLE2.out (Kd.C_below HC1.out HB2.out) HLE.out HP2.out).mono ?_; rintro e w3 ⟨rfl, hb3⟩; have cL3 := (hb3.cell (p := ⟨w.heap.size + 1, 0, none⟩) (Nat.lt_of_lt_of_le lt1 HB2.out.size)).trans cL2; have HB3 := Lib.hid hb3; clear hb3))
  by_cases hz : P2 = 0
  · subst hz
    have hrr : r = (P1, 0) := by have := HR.out; rw [if_pos rfl] at this; exact this.symm
    subst hrr
    clear HR
    go_wp2_with fail
    go_ret2
    exact ⟨rfl, HB1.out.trans ((HB2.out.mono HB1.out.size).trans (HB3.out.mono (Nat.le_trans HB1.out.size HB2.out.size)))⟩
  · have hrr : r = (⟨#[]⟩, 1) := by have := HR.out; rw [if_neg hz] at this; exact this.symm
    subst hrr
    clear HR
    have hz1 : (P2 == 0) = false := by simpa using hz
    have hz2 : (P2 != 0) = true := by simpa using hz
    clear hz
    go_wp2_with fail
    go_ret2
    exact ⟨rfl, HB1.out.trans ((HB2.out.mono HB1.out.size).trans (HB3.out.mono (Nat.le_trans HB1.out.size HB2.out.size)))⟩
theorem konst_Put.calls (A0 : Option Addr) (c0 : Nat) (l0 : List Int) (r1 : ByteArray) (r2 : Int) (w : World) (hr0 : Kd.C (Kd.int .i64) w A0 l0.length l0) (hc0 : l0.length ≤ c0) (h : konst_Put.f l0 = some (r1, r2)) :
    Calls Try.prog 28 #[.slice A0 l0.length c0] w fun e w' => e = .returned (.tuple #[.string r1, .int .i64 r2]) ∧ Below w.heap.size w w' := by
  unfold konst_Put.f at h
  by_cases hb : l0.length ≤ 1000000000
  · rw [if_pos hb] at h
    have h1 := Option.some.inj h
    by_cases h56 : l0.length = 56
    · have hat : ∀ k : Nat, k < 56 → ∃ ad, A0 = some ad ∧ w.cell? (ad.add k) = some (.int .i64 (rd l0 (k : Int))) := fun k hk => by
        have := Kd.at_int hr0 (k : Int) (by omega) (by omega)
        rwa [Int.toNat_natCast] at this
      obtain ⟨ad, rfl, _⟩ := hat 0 (by decide)
      rw [h56]
      have hx : ∀ k : Nat, k < 56 → w.cell? (ad.add k) = some (.int .i64 (rd l0 (k : Int))) := fun k hk => by
        obtain ⟨ad', e, hx⟩ := hat k hk
        injection e with e
        subst e
        exact hx
      clear hat
      have h2 := (kput_len l0 h56).symm.trans h1
      generalize hP : pspec (sizesUpTo 56) (spreadUpTo l0 56) = P at h2
      obtain ⟨P1, P2⟩ := P
      have h3 : (if P2 = 0 then (P1, (0 : Int)) else (⟨#[]⟩, 1)) = (r1, r2) := h2
      exact kput_56 ad c0 l0 w hx P1 P2 hP (r1, r2) h3
    · obtain ⟨rfl, rfl⟩ : r1 = ⟨#[]⟩ ∧ r2 = 1 := by
        unfold kpspec at h1; rw [if_neg h56] at h1
        exact ⟨(congrArg Prod.fst h1).symm, (congrArg Prod.snd h1).symm⟩
      exact kput_long A0 c0 l0 w hb h56
  · rw [if_neg hb] at h
    exact absurd h (by simp)
end Go.Proofs.Yticfflihniifaaa.P
