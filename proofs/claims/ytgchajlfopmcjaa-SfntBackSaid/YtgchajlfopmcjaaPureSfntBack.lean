/- Layer 4: what is put is got; each table is found by its tag; a file without its last byte, if that is a table's, is none. No condition but the statement's own. -/
import Derived.Test.YtgchajlfopmcjaaPutGet
import Derived.Test.YtgchajlfopmcjaaPx2
import Derived.Test.YtgchajlfopmcjaaPx10
namespace Go.Proofs.Ytgchajlfopmcjaa.P
open Go.Shelf Go.RowKit Go.Proofs.YtgchajlfopmcjaaW.PrintWords Go.Proofs.YtgchajlfopmcjaaW.PrintLast Go.Proofs.YtgchajlfopmcjaaW.PrintMore Go.Proofs.Ytgchajlfopmcjaa.BN
set_option linter.unusedVariables false
set_option linter.unusedSimpArgs false
theorem rd_at (l : List S33) (i : Nat) : rd_T33 l (i : Int) = tabAt l i := by unfold rd_T33 tabAt; rw [Int.toNat_natCast]
theorem tabAt_get (l : List S33) (j : Nat) (h : j < l.length) : tabAt l j = l[j] := by unfold tabAt; rw [List.getD_eq_getElem?_getD, List.getElem?_eq_getElem h]; rfl
def fewT (l : List S33) : Prop := l.length ≤ 70 ∧ ∀ x ∈ l, x.f1.size ≤ 2000 ∧ x.f0.size ≤ 20
theorem few_small (l : List S33) (hl : l.length < 4611686018427387904) : ∃ b, Ev (fun k => vinculumref04_Few.f k l) b ∧ (b = true → fewT l) := by
  have key : ∀ (d i : Nat), i ≤ l.length → l.length - i = d → (∀ j, j < i → (tabAt l j).f1.size ≤ 2000 ∧ (tabAt l j).f0.size ≤ 20) → ∃ b, Ev (fun k => vinculumref04_Few.l0 k l (i : Int)) b ∧ (b = true → fewT l) := by
    intro d
    induction d with
    | zero =>
      intro i hi hd hall
      refine ⟨decide ((l.length : Int) ≤ 70), ?_, fun hb => ⟨by have := of_decide_eq_true hb; omega, fun x hx => ?_⟩⟩
      · refine Ev.step (f := fun k => vinculumref04_Few.j1 k l (i : Int) false) (fun k => by rw [vinculumref04_Few.l0, if_neg (by omega)]) ?_
        exact Ev.step (f := fun k => some (decide ((l.length : Int) ≤ 70))) (fun k => by rw [vinculumref04_Few.j1, if_neg (by decide)]) (Ev.now _)
      · obtain ⟨j, hj, rfl⟩ := List.getElem_of_mem hx
        have := hall j (by omega)
        rw [tabAt_get l j hj] at this
        exact this
    | succ d ih =>
      intro i hi hd hall
      by_cases h70 : l.length ≤ 70
      · have start : ∀ r, Ev (fun k => vinculumref04_Few.j1 k l (i : Int) true) r → Ev (fun k => vinculumref04_Few.l0 k l (i : Int)) r := fun r hr =>
          Ev.step (f := fun k => vinculumref04_Few.j1 k l (i : Int) true) (fun k => by rw [vinculumref04_Few.l0, if_pos (by omega), decide_eq_true (show ((l.length : Int) ≤ 70) by omega)]) hr
        by_cases h1 : (tabAt l i).f1.size > 2000
        · refine ⟨false, start _ (Ev.step (f := fun k => some false) (fun k => ?_) (Ev.now _)), fun h => by cases h⟩
          rw [vinculumref04_Few.j1, if_pos rfl, if_pos (by omega), if_pos (by omega), rd_at, if_pos (by omega)]
        · by_cases h2 : (tabAt l i).f0.size > 20
          · refine ⟨false, start _ (Ev.step (f := fun k => some false) (fun k => ?_) (Ev.now _)), fun h => by cases h⟩
            rw [vinculumref04_Few.j1, if_pos rfl, if_pos (by omega), if_pos (by omega), rd_at, if_neg (by omega), if_pos (by omega)]
          · obtain ⟨b, hb, hb2⟩ := ih (i + 1) (by omega) (by omega) (fun j hj => by
              rcases Nat.lt_or_ge j i with h | h
              · exact hall j h
              · rw [show j = i by omega]; omega)
            refine ⟨b, start _ (Ev.step (f := fun k => vinculumref04_Few.l0 k l ((i + 1 : Nat) : Int)) (fun k => ?_) hb), hb2⟩
            rw [vinculumref04_Few.j1, if_pos rfl, if_pos (by omega), if_pos (by omega), rd_at, if_neg (by omega), if_neg (by omega), wrap_succ i (by omega)]
      · refine ⟨false, ?_, fun h => by cases h⟩
        refine Ev.step (f := fun k => vinculumref04_Few.j1 k l (i : Int) false) (fun k => by rw [vinculumref04_Few.l0, if_pos (by omega), decide_eq_false (show ¬ ((l.length : Int) ≤ 70) by omega)]) ?_
        exact Ev.step (f := fun k => some false) (fun k => by rw [vinculumref04_Few.j1, if_neg (by decide), decide_eq_false (show ¬ ((l.length : Int) ≤ 70) by omega)]) (Ev.now _)
  exact key l.length 0 (by omega) (by omega) (fun j hj => absurd hj (Nat.not_lt_zero _))
theorem few_ev (l : List S33) : ∃ b, Ev (fun k => vinculumref04_Few.f k l) b ∧ (b = true → fewT l) := by
  by_cases h : l.length < 4611686018427387904
  · exact few_small l h
  · refine ⟨false, ?_, fun h => by cases h⟩
    refine Ev.step (f := fun k => vinculumref04_Few.j1 k l 0 false) (fun k => by show vinculumref04_Few.l0 (k + 1) l 0 = _; rw [vinculumref04_Few.l0, if_pos (by omega), decide_eq_false (show ¬ ((l.length : Int) ≤ 70) by omega)]) ?_
    exact Ev.step (f := fun k => some false) (fun k => by rw [vinculumref04_Few.j1, if_neg (by decide), decide_eq_false (show ¬ ((l.length : Int) ≤ 70) by omega)]) (Ev.now _)
theorem few_put {l : List S33} (v : Int) (h : fewT l) : sfnt_Put.f v l = some (putS v l) := by
  unfold sfnt_Put.f
  rw [if_pos ⟨by have := h.1; omega, fun x hx => by have := h.2 x hx; omega⟩]
theorem few_total {v : Int} {l : List S33} (h : fewT l) : verB v = true → rightT l = true → ∃ s, putS v l = (s, 0) := fun h1 h2 => by
  have hz := sizeTo_bound l 2000 (fun x hx => (h.2 x hx).1) l.length (Nat.le_refl _)
  have hz2 : l.length * (2000 + 3) ≤ 70 * 2003 := Nat.mul_le_mul_right _ h.1
  have := h.1
  exact ⟨_, by unfold putS; rw [if_neg (by rw [h1, h2]; simp), if_neg (by omega)]⟩
theorem get_f (s : ByteArray) (h : s.size ≤ 140737488351232) : sfnt_Get.f s = some (getS s) := by unfold sfnt_Get.f; rw [if_pos h]
/-! ### found by its tag -/
theorem tags_lt (l : List S33) (h : rightT l = true) (j : Nat) : ∀ i, j < i → i < l.length → (tabAt l j).f0.toList < (tabAt l i).f0.toList
  | 0, h1, _ => absurd h1 (Nat.not_lt_zero _)
  | i + 1, h1, h2 => by
    have hr : rightAt l (i + 1) = true := by
      unfold rightT rightTo at h
      rw [Bool.and_eq_true, List.all_eq_true] at h
      exact h.1 (i + 1) (List.mem_range.2 h2)
    unfold rightAt at hr
    rw [Bool.and_eq_true, Bool.or_eq_true] at hr
    have hs : (tabAt l i).f0.toList < (tabAt l (i + 1)).f0.toList := by
      rcases hr.2 with hq | hq
      · have := of_decide_eq_true hq; omega
      · have hq2 : Op.bytesLess (tabAt l i).f0.toList (tabAt l (i + 1)).f0.toList = true := hq
        rw [bytesLess_eq] at hq2
        exact of_decide_eq_true hq2
    by_cases e : j = i
    · subst e; exact hs
    · exact List.lt_trans (tags_lt l h j i (by omega) (by omega)) hs
theorem find_own (l : List S33) (h : rightT l = true) (i : Nat) (hi : i < l.length) : findT l (tabAt l i).f0 = ((tabAt l i).f1, true) := by
  have hI : findI (tabAt l i).f0 l 0 = (i : Int) := by
    rw [findI_hit (tabAt l i).f0 l i 0 hi (fun j hj => ?_) (by unfold hitT tabAt; simp)]
    · simp
    · have := tags_lt l h j i hj hi
      unfold hitT
      rw [beq_eq_false_iff_ne]
      intro e
      change (tabAt l j).f0.toList = (tabAt l i).f0.toList at e
      rw [e] at this
      exact List.lt_irrefl _ this
  unfold findT
  rw [hI, if_neg (by omega), rd_at]
/-! ### without its last byte -/
theorem short_get {v : Int} {l : List S33} {s : ByteArray} (h : putS v l = (s, 0)) (hn : 0 < l.length) (h0 : 0 < (tabAt l (l.length - 1)).f1.size) (h4 : (tabAt l (l.length - 1)).f1.size % 4 = 0) : (getS (s.extract 0 (s.size - 1))).2.2 = 4 := by
  obtain ⟨hf, hz, hb⟩ := put_file h
  have hup : upN (tabAt l (l.length - 1)).f1.size = (tabAt l (l.length - 1)).f1.size := by unfold upN; omega
  have hst : sizeTo l l.length = sizeTo l (l.length - 1) + (tabAt l (l.length - 1)).f1.size := by
    have : sizeTo l (l.length - 1 + 1) = sizeTo l (l.length - 1) + upN (tabAt l (l.length - 1)).f1.size := rfl
    rw [hup, show l.length - 1 + 1 = l.length by omega] at this
    exact this
  have hlow := sizeTo_low l (l.length - 1)
  have hes : (s.extract 0 (s.size - 1)).size = s.size - 1 := by rw [ByteArray.size_extract]; omega
  have hsz := hf.size
  have F : FileOf v l (s.extract 0 (s.size - 1)) (s.size - 1) := {
    ver := hf.ver, right := hf.right, size := by omega, len := by omega
    bytes := by
      rw [bytesl_extract, List.drop_zero, List.take_take, Nat.min_self, hb]
    recs := by omega }
  have herr : errsTo (s.extract 0 (s.size - 1)) l.length l.length = 4 := by
    have h1 : errR (s.extract 0 (s.size - 1)) l.length (l.length - 1) = 4 := by
      have hg := F.good (l.length - 1) (by omega) (fun j hj => by
        have hm := sizeTo_mono l l.length j (by omega)
        have hj2 := size_next l j l.length (by omega)
        omega)
      have hr := F.rec_eq (l.length - 1) (by omega) (by omega) (by omega)
      unfold errR
      rw [hg, hr]
      simp only
      rw [if_neg (by decide), if_pos (by omega)]
    rw [errsTo_stop _ _ _ (l.length - 1) (by omega) (firstE_all _ _ (fun i hi => (F.ok i (by omega) (by
      have := size_next l i (l.length - 1) hi; omega)).1)) (by rw [h1]; decide), h1]
  unfold getS
  rw [F.head]
  simp only [Int.toNat_natCast]
  rw [if_neg (by simp), herr, if_pos (by decide)]
theorem put_fail {v e : Int} {l : List S33} {s : ByteArray} (h : putS v l = (s, e)) (he : e ≠ 0) : s = ⟨#[]⟩ := by
  unfold putS at h
  split at h
  · cases h; rfl
  split at h
  · cases h; rfl
  · cases h; exact absurd rfl he
theorem SfntBack_pure (a0 : Int) (l1 : List S33) : ∃ k, vinculumlaw04_SfntBack.f k a0 l1 = some true := by
  refine Ev.rounds (g := fun k => vinculumlaw04_SfntBack.f k a0 l1) ?_
  unfold vinculumlaw04_SfntBack.f
  obtain ⟨b, hb, hb2⟩ := few_ev l1
  refine Ev.bind hb ?_
  cases b with
  | false => simp only [Bool.false_eq_true, if_false]; exact Ev.now _
  | true =>
    have hfew := hb2 rfl
    simp only [if_true, few_put a0 hfew, Option.bind_some]
    obtain ⟨s, e, hs⟩ : ∃ s e, putS a0 l1 = (s, e) := ⟨_, _, rfl⟩
    rw [hs]
    simp only
    by_cases he : e = 0
    · subst he
      obtain ⟨hf, hz, hbs⟩ := put_file hs
      have hg := put_get hs
      have h4 : (s.size : Int) % 4 = 0 := by have := sizeTo_mod l1 l1.length; rw [← hz] at this; omega
      simp only [if_true, get_f s (by have := hf.size; omega), Option.bind_some, hg]
      refine Ev.bind (same_refl l1 (by have := hfew.1; omega)) ?_
      simp only [if_true]
      rw [h4, show ((0 : Int) != 0) = false from rfl]
      refine Ev.step (f := fun k => vinculumlaw04_SfntBack.l0 k l1 s l1 ((0 : Nat) : Int)) (fun k => by rw [vinculumlaw04_SfntBack.j0, if_neg (by decide)]; rfl) ?_
      have last : ∀ b, (b = false → 0 < l1.length ∧ 0 < (tabAt l1 (l1.length - 1)).f1.size ∧ (tabAt l1 (l1.length - 1)).f1.size % 4 = 0) → Ev (fun k => vinculumlaw04_SfntBack.j2 k s b) true := by
        intro b hb
        cases b with
        | true =>
          refine Ev.step (f := fun k => (vinculumlaw04_filed.f k).bind fun t215 => some t215) (fun k => by rw [vinculumlaw04_SfntBack.j2, if_pos rfl]) ?_
          exact Ev.bind filed_ev (Ev.now _)
        | false =>
          obtain ⟨q1, q2, q3⟩ := hb rfl
          have hs12 := hf.recs
          have hsz := hf.size
          have hw : wrap64 ((s.size : Int) - 1) = ((s.size - 1 : Nat) : Int) := by rw [wrap64_small (by omega) (by omega)]; omega
          refine Ev.step (f := fun k => (vinculumlaw04_filed.f k).bind fun t221 => if t221 = true then some ((getS (s.extract 0 (s.size - 1))).2.2 == 4) else some false) (fun k => by
            rw [vinculumlaw04_SfntBack.j2, if_neg (by decide), hw, if_pos (by omega), if_pos (by omega), Int.toNat_natCast, get_f _ (by rw [ByteArray.size_extract]; omega)]; rfl) ?_
          refine Ev.bind filed_ev ?_
          rw [short_get hs q1 q2 q3]
          simp only [if_true]
          exact Ev.now _
      have key : ∀ (d i : Nat), i ≤ l1.length → l1.length - i = d → Ev (fun k => vinculumlaw04_SfntBack.l0 k l1 s l1 (i : Int)) true := by
        intro d
        induction d with
        | zero =>
          intro i hi hd
          have hn := hfew.1
          by_cases h0 : l1.length = 0
          · refine Ev.step (f := fun k => vinculumlaw04_SfntBack.j2 k s true) (fun k => by rw [vinculumlaw04_SfntBack.l0, if_neg (by omega), if_pos (by omega)]) (last true (fun h => by cases h))
          · have hw : wrap64 ((l1.length : Int) - 1) = ((l1.length - 1 : Nat) : Int) := by rw [wrap64_small (by omega) (by omega)]; omega
            by_cases h1 : (tabAt l1 (l1.length - 1)).f1.size = 0
            · exact Ev.step (f := fun k => vinculumlaw04_SfntBack.j2 k s true) (fun k => by
                rw [vinculumlaw04_SfntBack.l0, if_neg (by omega), if_neg (by omega), hw, if_pos (by omega), if_pos (by omega), rd_at, if_pos (by omega)]) (last true (fun h => by cases h))
            · refine Ev.step (f := fun k => vinculumlaw04_SfntBack.j2 k s (((tabAt l1 (l1.length - 1)).f1.size : Int) % 4 != 0)) (fun k => by
                rw [vinculumlaw04_SfntBack.l0, if_neg (by omega), if_neg (by omega), hw, if_pos (by omega), if_pos (by omega), rd_at, if_neg (by omega)]) (last _ (fun h => ?_))
              have : ((tabAt l1 (l1.length - 1)).f1.size : Int) % 4 = 0 := by simpa using h
              omega
        | succ d ih =>
          intro i hi hd
          have hn := hfew.1
          refine Ev.step (f := fun k => vinculumlaw04_SfntBack.l0 k l1 s l1 ((i + 1 : Nat) : Int)) (fun k => ?_) (ih (i + 1) (by omega) (by omega))
          have hfd : sfnt_Find.f l1 (tabAt l1 i).f0 = some ((tabAt l1 i).f1, true) := by unfold sfnt_Find.f; rw [if_pos (by have := hfew.1; omega), find_own l1 hf.right i (by omega)]
          rw [vinculumlaw04_SfntBack.l0, if_pos (by omega), if_pos (by omega), rd_at, hfd]
          simp only [Option.bind_some, if_true]
          rw [wrap_succ i (by omega)]
      exact key l1.length 0 (by omega) (by omega)
    · simp only [if_neg he]
      refine Ev.bind filed_ev ?_
      simp only [if_true]
      rw [put_fail hs he, show ((⟨#[]⟩ : ByteArray).toList == ([] : List UInt8)) = true by decide +kernel]
      exact Ev.now _
theorem sfntBack_law (a0 : Int) (A1 : Option Addr) (c1 : Nat) (l1 : List S33) (w : World) (hr1 : Kd.C k33 w A1 l1.length l1) (hc1 : l1.length ≤ c1) :
    Calls Try.prog 4 #[.int .i64 a0, .slice A1 l1.length c1] w fun e w' => e = .returned (.bool true) ∧ Below w.heap.size w w' := by
  obtain ⟨k, hk⟩ := SfntBack_pure a0 l1
  exact vinculumlaw04_SfntBack.calls k a0 A1 c1 l1 true w hr1 hc1 hk
end Go.Proofs.Ytgchajlfopmcjaa.P
