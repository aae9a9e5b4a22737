/- sfnt.Get, walked: a file's tables. Condition: a text that is no longer than a machine holds. -/
import Derived.Test.YtgchajlfopmcjaaSfRead
namespace Go.Proofs.Ytgchajlfopmcjaa.P
open Go.Shelf Go.RowKit Go.Proofs.YtgchajlfopmcjaaW.PrintWords Go.Proofs.YtgchajlfopmcjaaW.PrintLast Go.Proofs.YtgchajlfopmcjaaW.PrintMore Go.Proofs.Ytgchajlfopmcjaa.BN
set_option linter.unusedVariables false
set_option linter.unusedSimpArgs false
set_option maxRecDepth 100000
def encT (x : S33) : List Value := [.string x.f0, .string x.f1]
def cellsT (l : List S33) : List Value := l.flatMap encT
theorem cellsT_len (l : List S33) : (cellsT l).length = l.length * 2 := by
  induction l with
  | nil => rfl
  | cons x l ih => rw [cellsT, List.flatMap_cons, List.length_append]; rw [cellsT] at ih; rw [ih, List.length_cons]; show 2 + _ = _; omega
theorem cellsT_reps (R : S33 → List Value → Prop) (hR : ∀ x, R x (encT x)) : ∀ l : List S33, Reps R 2 l (cellsT l)
  | [] => Reps.none _ _
  | x :: l => by
    obtain ⟨h1, h2⟩ := cellsT_reps R hR l
    refine ⟨cellsT_len _, fun j p hj => ?_⟩
    cases j with
    | zero =>
      have : x = p := by simpa using hj
      subst this
      exact hR x
    | succ j =>
      have := h2 j p (by simpa using hj)
      have e : (cellsT (x :: l)).drop ((j + 1) * 2) = (cellsT l).drop (j * 2) := by
        rw [show (j + 1) * 2 = j * 2 + 1 + 1 by omega]; rfl
      rw [e]
      exact this
theorem own_R {w : World} {base : Nat} {v : Value} {l : List S33} (h : w.ownsRow base 33 2 v l.length (cellsT l)) : Kd.R k33 33 w base (fun _ => True) v l :=
  ⟨fun _ _ => trivial, cellsT l, h, cellsT_reps _ (fun x => k33_mkM w base _ x) l⟩
theorem info33' : (Try.prog.info? 33).map (fun i => (i.zero, i.size, i.bytes)) = some (some (.agg #[.string ⟨#[]⟩, .string ⟨#[]⟩]), 2, 32) := by kernel_rfl
/-- The first record that is wrong. -/
def firstE (e : Nat → Int) : Nat → Int
  | 0 => 0
  | n + 1 => if firstE e n ≠ 0 then firstE e n else e n
def errsTo (s : ByteArray) (many n : Nat) : Int := firstE (errR s many) n
def tabsTo (s : ByteArray) (many n : Nat) : List S33 := (List.range n).map (tabR s many)
theorem tabsTo_succ (s : ByteArray) (many n : Nat) : tabsTo s many (n + 1) = tabsTo s many n ++ [tabR s many n] := by unfold tabsTo; rw [List.range_succ, List.map_append]; rfl
theorem tabsTo_length (s : ByteArray) (many n : Nat) : (tabsTo s many n).length = n := by unfold tabsTo; simp
theorem firstE_stop (e : Nat → Int) : ∀ (n k : Nat), k < n → firstE e k = 0 → e k ≠ 0 → firstE e n = e k
  | 0, k, h, _, _ => absurd h (Nat.not_lt_zero _)
  | n + 1, k, h, h0, h1 => by
    rw [firstE]
    by_cases q : k = n
    · subst q; rw [if_neg (by rw [h0]; simp)]
    · have := firstE_stop e n k (by omega) h0 h1
      rw [if_pos (by rw [this]; exact h1), this]
theorem firstE_go (e : Nat → Int) (n : Nat) (h0 : firstE e n = 0) (h1 : e n = 0) : firstE e (n + 1) = 0 := by
  rw [firstE, if_neg (by rw [h0]; simp), h1]
theorem errsTo_stop (s : ByteArray) (many n k : Nat) (h : k < n) (h0 : errsTo s many k = 0) (h1 : errR s many k ≠ 0) : errsTo s many n = errR s many k := firstE_stop _ n k h h0 h1
theorem errsTo_go (s : ByteArray) (many n : Nat) (h0 : errsTo s many n = 0) (h1 : errR s many n = 0) : errsTo s many (n + 1) = 0 := firstE_go _ n h0 h1
def getS (s : ByteArray) : Int × List S33 × Int :=
  if (frontS s).2.2 ≠ 0 then (0, [], (frontS s).2.2)
  else if errsTo s (frontS s).2.1.toNat (frontS s).2.1.toNat ≠ 0 then (0, [], errsTo s (frontS s).2.1.toNat (frontS s).2.1.toNat)
  else if meetB (recsE s (frontS s).2.1.toNat) then (0, [], 5) else ((frontS s).1, tabsTo s (frontS s).2.1.toNat (frontS s).2.1.toNat, 0)
theorem front_ok (s : ByteArray) (h : (frontS s).2.2 = 0) : s.size ≤ 16777216 ∧ ∃ m : Nat, (frontS s).2.1 = m ∧ m ≤ 64 ∧ 12 + 16 * m ≤ s.size := by
  unfold frontS at h ⊢
  have h2 := nm2_small s 4
  split at h
  · exact absurd h (by decide)
  split at h
  · exact absurd h (by decide)
  split at h
  · exact absurd h (by decide)
  split at h
  · exact absurd h (by decide)
  split at h
  · exact absurd h (by decide)
  rename_i a b c d e
  rw [if_neg a, if_neg b, if_neg c, if_neg d, if_neg e]
  exact ⟨by omega, (nm2 s 4).toNat, by simp; omega, by omega, by omega⟩
theorem recs_small (s : ByteArray) (n : Nat) : ∀ x ∈ recsE s n, smallE x := by
  intro x hx
  unfold recsE at hx
  rw [List.mem_map] at hx
  obtain ⟨i, _, rfl⟩ := hx
  exact recE_small s i
/-- What is known at a round's head. -/
structure GetAt (s : ByteArray) (many : Nat) (w wr : World) (v : Value) (k : Nat) : Prop where
  file : FileAt w.heap.size wr w.heap.size s (recsE s k)
  own : wr.ownsRow w.heap.size 33 2 v k (cellsT (tabsTo s many k))
  below : Below w.heap.size w wr
  noErr : errsTo s many k = 0
theorem file_grown {B g : Nat} {W W2 : World} {s : ByteArray} {l : List E85} {row : Option Nat} (h : FileAt B W g s l) (hg : W.grownBy W2 row) (hr : ∀ k, row = some k → ∃ cells fr, W.heap[k]? = some (.cells cells 33 fr)) : FileAt B W2 g s l := by
  obtain ⟨hB, v, hb, ho⟩ := h
  have ne : ∀ k cells T fr, W.heap[k]? = some (Obj.cells cells T fr) → T ≠ 33 → some k ≠ row := fun k cells T fr hk hT e => by
    obtain ⟨c2, f2, h3⟩ := hr k e.symm
    rw [hk] at h3
    cases h3
    exact hT rfl
  refine ⟨hB, v, (hg.block g (blk_lt hb) (ne g _ _ _ hb (by decide))).trans hb, own_move ho fun k hk => ?_⟩
  obtain ⟨cells, hc⟩ := own_typed ho k hk
  exact hg.block k (blk_lt hc) (ne k _ _ _ hc (by decide))
theorem file_below {B g : Nat} {W W2 : World} {s : ByteArray} {l : List E85} (h : FileAt B W g s l) (hb : Below W.heap.size W W2) : FileAt B W2 g s l :=
  file_grown h (grown_of_below hb none) (fun k hk => by cases hk)
theorem own_kept {B : Nat} {W W2 : World} {v : Value} {n : Nat} {xs : List Value} (h : W.ownsRow B 33 2 v n xs) (hk : KeptT W W2) : W2.ownsRow B 33 2 v n xs :=
  own_move h fun k hk2 => by
    obtain ⟨cells, hc⟩ := own_typed h k hk2
    exact hk.2 k cells _ _ hc (by decide) (by decide)
theorem GetAt.next {s : ByteArray} {many k : Nat} {w wr w1 w2 : World} {v : Value} {gg cap : Nat} {o1 o2 : Obj} (h : GetAt s many w wr v k) (hf : FileAt w.heap.size w1 w.heap.size s (recsE s (k + 1))) (hb : Below w.heap.size wr w1) (hs : wr.heap.size ≤ w1.heap.size) (hk : KeptT wr w1) (he : errR s many k = 0)
    (ho : w2.ownsRow w.heap.size 33 2 (.slice (some ⟨gg, 0, none⟩) (k + 1) cap) (k + 1) (cellsT (tabsTo s many k) ++ encT (tabR s many k))) (hg : ((w1.alloc o1).alloc o2).grownBy w2 v.ownBlock) : GetAt s many w w2 (.slice (some ⟨gg, 0, none⟩) (k + 1) cap) (k + 1) := by
  have hA : Below w1.heap.size w1 ((w1.alloc o1).alloc o2) := below_alloc (below_alloc (Below.refl _ _) _) _
  have hbase : w.heap.size ≤ w1.heap.size := Nat.le_trans h.below.size hs
  have ho1 := own_kept h.own hk
  refine { file := file_grown (file_below hf hA) hg (fun k hk => ?_), own := ?_, below := ?_, noErr := errsTo_go _ _ _ h.noErr he }
  · obtain ⟨cells, hc⟩ := own_typed ho1 k hk
    exact ⟨cells, (0, 0), (hA.block k (blk_lt hc)).trans hc⟩
  · rw [tabsTo_succ, cellsT, List.flatMap_append]
    simpa [cellsT] using ho
  · exact Below.grown ((h.below.trans hb).trans (hA.mono hbase)) hg (by simp; omega) (fun k hk => own_base ho1 k hk)
set_option maxHeartbeats 8000000 in
theorem sfnt_Get_walk (s : ByteArray) (w : World) (hs : s.size ≤ 140737488351232) :
    Calls Try.prog 9 #[.string s] w fun e w' => ∃ v, e = .returned (.tuple #[.int .i64 (getS s).1, v, .int .i64 (getS s).2.2]) ∧ w'.ownsRow w.heap.size 33 2 v (getS s).2.1.length (cellsT (getS s).2.1) ∧ Below w.heap.size w w' := by
  have hF := Lib.hid (front_calls s w.heap.size (w.alloc (.cells #[.string s, .slice none 0 0] 49)) (by simp) hs)
  have hgs : getS s = if (frontS s).2.2 ≠ 0 then (0, [], (frontS s).2.2) else if errsTo s (frontS s).2.1.toNat (frontS s).2.1.toNat ≠ 0 then (0, [], errsTo s (frontS s).2.1.toNat (frontS s).2.1.toNat) else if meetB (recsE s (frontS s).2.1.toNat) then (0, [], 5) else ((frontS s).1, tabsTo s (frontS s).2.1.toNat (frontS s).2.1.toNat, 0) := rfl
  by_cases he : (frontS s).2.2 = 0
  · obtain ⟨hsz, m, hm, hm64, hfit⟩ := front_ok s he
    rw [if_neg (by simp [he]), hm, Int.toNat_natCast] at hgs
    rw [he, hm] at hF
    generalize (frontS s).1 = vv at hF hgs
    clear he hm
    have HGS := Lib.hid hgs
    clear hgs
    obtain ⟨i0, hi0, hz0, hz1, hz2⟩ := info_parts info33'
    go_enter Try.func9, Try.ntmps9
    go_wp2_with fail
    refine hF.out.mono ?_
    rintro e w1 ⟨rfl, hb1⟩
    go_wp2_with fail
    go_loopg [9, 25] (m + 1) (fun gk v9 v25 wr => ∃ (x : Int) (k : Nat), v25 = .int .i64 x ∧ Hid (x = (k : Int)) ∧ Hid (k ≤ m ∧ m + 1 - k ≤ gk) ∧ Hid (GetAt s m w wr v9 k))
    case atStart =>
      have hblk := (hb1.block w.heap.size (by simp)).trans (heap_alloc_new w _)
      exact ⟨0, 0, rfl, Lib.hid rfl, Lib.hid ⟨by omega, by omega⟩, Lib.hid { file := ⟨Nat.le_refl _, _, hblk, own_nil _ _ _ _⟩, own := own_nil _ _ _ _, below := ((Below.refl w.heap.size w).alloc (Nat.le_refl _) _).trans (hb1.mono (by simp)), noErr := rfl }⟩
    case round =>
      obtain ⟨x, k, rfl, HXK, HT, HGA⟩ := hrel
      by_cases hlt : k < m
      · have hltz : x < (m : Int) := by have := HXK.out; omega
        have HRD := Lib.hid (read_calls w.heap.size w.heap.size s k m wr HGA.out.file HGA.out.below.size hsz hlt hm64 hfit)
        go_wp2_with fail
        refine HRD.out.mono ?_
        rintro e w2 ⟨rfl, hf2, hb2, hk2⟩
        have HF2 := Lib.hid hf2
        have HB2 := Lib.hid hb2
        have HK2 := Lib.hid hk2
        clear hf2 hb2 hk2
        have hos := own_kept HGA.out.own HK2.out
        obtain ⟨A, c, rfl⟩ := own_slice hos
        obtain ⟨er, her⟩ : ∃ er, errR s m k = er := ⟨_, rfl⟩
        obtain ⟨tb, htb⟩ : ∃ tb, tabR s m k = tb := ⟨_, rfl⟩
        rw [her, htb]
        have HER := Lib.hid her
        have HTB := Lib.hid htb
        have HOS := Lib.hid hos
        clear her htb hos
        by_cases hz : er = 0
        · have hq1 : (er != 0) = false := by rw [hz]; rfl
          have hq2 : (er == 0) = true := by rw [hz]; rfl
          have HE0 : Hid (errR s m k = 0) := Lib.hid (HER.out.trans hz)
          clear hz
          have hxw : IntKind.i64.wrap (x + 1) = x + 1 := by rw [i64_w, wrap64_small (by have := HXK.out; omega) (by have := HXK.out; omega)]
          have hbs : w.heap.size ≤ w2.heap.size := Nat.le_trans HGA.out.below.size HB2.out.size
          have hk1 : k + 1 ≤ 9223372036854775807 := by omega
          go_wp2_with (at_builtin; refine wpList_append_lies _ rfl (.tmp 36) (.tmp 38) 22 rfl w.heap.size 33 i0 (.agg #[.string ⟨#[]⟩, .string ⟨#[]⟩]) 2 32 Try.underlying22 hi0 hz0 hz1 hz2 rfl (by omega) (.slice A k c) k (cellsT (tabsTo s m k)) rfl ((HOS.out.alloc _).alloc _) ⟨w2.heap.size + 1, 0, none⟩ 1 1 (encT tb) rfl rfl ?hnews ?h1 (by omega) (by unfold maxLen; omega) (by omega) (by simp; omega) (w2.heap.size + 1 + 1) (by simp) ?_)
          case hnews => exact World.news_of_block (cs := #[.string tb.f0, .string tb.f1]) (t := 33) (fr := (0, 0)) (by
            have := heap_alloc_new (w2.alloc (.cells #[.string tb.f0, .string tb.f1] 33)) (.cells #[.string tb.f0, .string tb.f1] 33)
            simpa using this)
          case h1 =>
            intro u hu
            simp [encT] at hu
            rcases hu with rfl | rfl <;> rfl
          intro gg cap w3 hown hgrow hat hlt3
          have HN := Lib.hid (GetAt.next HGA.out HF2.out HB2.out HB2.out.size HK2.out HE0.out (by rw [HTB.out]; exact hown) hgrow)
          clear hown hgrow hat
          go_wp2
          go_roundg (m - k)
          case measure => have := HT.out; omega
          case rel => exact ⟨x + 1, k + 1, rfl, Lib.hid (by have := HXK.out; omega), Lib.hid ⟨by omega, by omega⟩, HN⟩
        · have hq1 : (er != 0) = true := by simpa using hz
          have hq2 : (er == 0) = false := by simpa using hz
          have hG : getS s = (0, [], er) := by
            rw [HGS.out, errsTo_stop s m m k hlt HGA.out.noErr (by rw [HER.out]; exact hz), HER.out, if_pos hz]
          have HG := Lib.hid hG
          clear hz hG
          go_wp2
          go_ret3
          rw [HG.out]
          exact ⟨_, rfl, own_nil _ _ _ _, (HGA.out.below.trans HB2.out).alloc (Nat.le_trans HGA.out.below.size HB2.out.size) _⟩
      · have hkm : k = m := by have := HT.out; omega
        have hltz : ¬ x < (m : Int) := by have := HXK.out; omega
        have HMT := Lib.hid (meet_calls w.heap.size w.heap.size s (recsE s k) wr HGA.out.file (by rw [recsE_length]; omega) (recs_small s k))
        obtain ⟨A, c, rfl⟩ := own_slice HGA.out.own
        have hG : getS s = if meetB (recsE s k) then (0, [], 5) else (vv, tabsTo s m m, 0) := by
          have h0 := HGA.out.noErr
          rw [hkm] at h0
          rw [HGS.out, h0, hkm, if_neg (by simp)]
        have HKM := Lib.hid hkm
        generalize meetB (recsE s k) = mb at HMT hG
        clear hkm
        cases mb with
        | true =>
          have HG : Hid (getS s = (0, [], 5)) := Lib.hid (hG.trans (if_pos rfl))
          clear hG
          go_wp2_with (go_at_call 23; refine HMT.out.mono ?_; rintro e w2 ⟨rfl, hb2⟩)
          go_ret3
          rw [HG.out]
          exact ⟨_, rfl, own_nil _ _ _ _, HGA.out.below.trans (hb2.mono HGA.out.below.size)⟩
        | false =>
          have HG : Hid (getS s = (vv, tabsTo s m m, 0)) := Lib.hid (hG.trans (if_neg (by decide)))
          clear hG
          go_wp2_with (go_at_call 23; refine HMT.out.mono ?_; rintro e w2 ⟨rfl, hb2⟩)
          go_ret3
          rw [HG.out]
          refine ⟨_, rfl, ?_, HGA.out.below.trans (hb2.mono HGA.out.below.size)⟩
          have ho := pw_own_below HGA.out.own hb2
          have e := HKM.out
          rw [tabsTo_length]
          show w2.ownsRow w.heap.size 33 2 (.slice A k c) m (cellsT (tabsTo s m m))
          rw [← e]
          rw [← e] at ho
          exact ho
  · have hF2 : Hid (getS s = (0, [], (frontS s).2.2)) := Lib.hid (hgs.trans (if_pos he))
    generalize (frontS s).1 = f1 at hF
    generalize (frontS s).2.1 = f2 at hF
    generalize (frontS s).2.2 = fe at hF he hF2
    have hq1 : (fe != 0) = true := by simpa using he
    have hq2 : (fe == 0) = false := by simpa using he
    clear hgs he
    go_enter Try.func9, Try.ntmps9
    go_wp2_with (go_at_call 21; refine hF.out.mono ?_; rintro e w1 ⟨rfl, hb1⟩)
    go_ret3
    rw [hF2.out]
    exact ⟨_, rfl, own_nil _ _ _ _, ((Below.refl w.heap.size w).alloc (Nat.le_refl _) _).trans (hb1.mono (by simp))⟩
def sfnt_Get.f (s : ByteArray) : Option (Int × List S33 × Int) := if s.size ≤ 140737488351232 then some (getS s) else none
theorem sfnt_Get.calls (a0 : ByteArray) (r1 : Int) (r2 : List S33) (r3 : Int) (w : World) (h : sfnt_Get.f a0 = some (r1, r2, r3)) :
    Calls Try.prog 9 #[.string a0] w fun e w' => ∃ v0_ : Value, e = .returned (.tuple #[.int .i64 r1, v0_, .int .i64 r3]) ∧ Kd.R k33 33 w' w.heap.size (fun _ => True) v0_ r2 ∧ Below w.heap.size w w' := by
  unfold sfnt_Get.f at h
  by_cases hs : a0.size ≤ 140737488351232
  · rw [if_pos hs] at h
    have hg : getS a0 = (r1, r2, r3) := by simpa using h
    refine (sfnt_Get_walk a0 w hs).mono ?_
    rintro e w' ⟨v, he, ho, hb⟩
    rw [hg] at he ho
    exact ⟨v, he, own_R ho, hb⟩
  · rw [if_neg hs] at h
    exact absurd h (by simp)
end Go.Proofs.Ytgchajlfopmcjaa.P
