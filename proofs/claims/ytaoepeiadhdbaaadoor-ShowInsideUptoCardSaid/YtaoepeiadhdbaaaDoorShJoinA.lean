/- Joined and held lists. -/
import Derived.Test.YtaoepeiadhdbaaaDoorShListA
import Derived.Test.YtaoepeiadhdbaaaDoorShShownA
import Derived.Laws.AppendOwn
import Derived.Laws.AppendOwnNone
namespace Go.Proofs.YtaoepeiadhdbaaaDoor.ND
open Go.Shelf Go.Sort Go.Proofs.YtaoepeiadhdbaaaDoor.P Go.RowKit Go.Proofs.YtaoepeiadhdbaaaDoorW.PrintWords Go.Proofs.YtaoepeiadhdbaaaDoorW.PrintLast Go.Proofs.YtaoepeiadhdbaaaDoorW.PrintMore
set_option linter.unusedVariables false
set_option linter.unusedSimpArgs false
/-- A row of cells, eleven for each noad. -/
def RowL {α : Type} (K : α → List Value → Prop) : List α → List Value → Prop
  | [], ns => ns = []
  | x :: l, ns => ∃ cs rest, ns = cs ++ rest ∧ cs.length = 11 ∧ K x cs ∧ RowL K l rest
theorem RowL.len {α : Type} {K : α → List Value → Prop} : ∀ {l : List α} {ns : List Value}, RowL K l ns → ns.length = l.length * 11
  | [], ns, h => by rw [show ns = [] from h]; rfl
  | x :: l, ns, ⟨cs, rest, e, h1, _, h2⟩ => by rw [e, List.length_append, h1, h2.len, List.length_cons]; omega
theorem RowL.app {α : Type} {K : α → List Value → Prop} : ∀ {l m : List α} {a b : List Value}, RowL K l a → RowL K m b → RowL K (l ++ m) (a ++ b)
  | [], m, a, b, h, h' => by rw [show a = [] from h]; exact h'
  | x :: l, m, a, b, ⟨cs, rest, e, h1, h2, h3⟩, h' => ⟨cs, rest ++ b, by rw [e, List.append_assoc], h1, h2, h3.app h'⟩
theorem RowL.at {α : Type} {K : α → List Value → Prop} : ∀ {l : List α} {ns : List Value}, RowL K l ns → ∀ j x, l[j]? = some x → ∃ cs, cs.length = 11 ∧ K x cs ∧ ∀ i u, cs[i]? = some u → ns[j * 11 + i]? = some u
  | [], ns, h, j, x, hj => by simp at hj
  | y :: l, ns, ⟨cs, rest, e, h1, h2, h3⟩, 0, x, hj => by
    obtain rfl : y = x := by simpa using hj
    refine ⟨cs, h1, h2, fun i u hu => ?_⟩
    rw [e, Nat.zero_mul, Nat.zero_add, List.getElem?_append_left (List.getElem?_eq_some_iff.1 hu).1]
    exact hu
  | y :: l, ns, ⟨cs, rest, e, h1, h2, h3⟩, j + 1, x, hj => by
    obtain ⟨cs', g1, g2, g3⟩ := h3.at j x (by simpa using hj)
    refine ⟨cs', g1, g2, fun i u hu => ?_⟩
    rw [e, List.getElem?_append_right (by rw [h1]; omega), h1, show (j + 1) * 11 + i - 11 = j * 11 + i by omega]
    exact g3 i u hu
theorem row_of {α : Type} {K : α → List Value → Prop} {w : World} {ad : Addr} : ∀ (l : List α) (off : Nat), (∀ j x, l[j]? = some x → ∃ cs, cs.length = 11 ∧ K x cs ∧ ∀ i u, cs[i]? = some u → w.cell? (ad.add (off + (j * 11 + i))) = some u) →
    ∃ ns, RowL K l ns ∧ ∀ j u, ns[j]? = some u → w.cell? (ad.add (off + j)) = some u
  | [], off, h => ⟨[], rfl, fun j u hu => by simp at hu⟩
  | x :: l, off, h => by
    obtain ⟨cs, h1, h2, h3⟩ := h 0 x rfl
    obtain ⟨ns, g1, g2⟩ := row_of l (off + 11) (fun j y hj => by
      obtain ⟨cs', q1, q2, q3⟩ := h (j + 1) y (by simpa using hj)
      exact ⟨cs', q1, q2, fun i u hu => by have := q3 i u hu; rw [show off + 11 + (j * 11 + i) = off + ((j + 1) * 11 + i) by omega]; exact this⟩)
    refine ⟨cs ++ ns, ⟨cs, ns, rfl, h1, h2, g1⟩, fun j u hu => ?_⟩
    by_cases hj : j < 11
    · rw [List.getElem?_append_left (by omega)] at hu
      have := h3 j u hu
      rw [Nat.zero_mul, Nat.zero_add] at this
      exact this
    · rw [List.getElem?_append_right (by omega), h1] at hu
      have := g2 (j - 11) u hu
      rw [show off + 11 + (j - 11) = off + j by omega] at this
      exact this
theorem row_some {α : Type} {K : α → List Value → Prop} {w : World} {ad : Addr} {c : Nat} {l : List α} (h : rdS K 11 w (.slice (some ad) l.length c) l) : ∃ ns, RowL K l ns ∧ ∀ j u, ns[j]? = some u → w.cell? (ad.add j) = some u := by
  obtain ⟨A, c', e, hl, h1, h2, h3⟩ := h
  injection e with e1 e2 e3
  subst e1 e3
  by_cases h0 : l.length = 0
  · have : l = [] := List.length_eq_zero_iff.1 h0
    subst this
    exact ⟨[], rfl, fun j u hu => by simp at hu⟩
  · obtain ⟨ad', ea, hr⟩ := h3 (by omega)
    obtain rfl := Option.some.inj ea
    obtain ⟨ns, g1, g2⟩ := row_of (K := K) (w := w) (ad := ad) l 0 (fun j x hj => by
      obtain ⟨cs, q1, q2, q3⟩ := hr j x hj
      exact ⟨cs, q1, q2, fun i u hu => by rw [Nat.zero_add]; exact q3 i u hu⟩)
    exact ⟨ns, g1, fun j u hu => by have := g2 j u hu; rwa [Nat.zero_add] at this⟩
theorem row_one {α : Type} {K : World → α → List Value → Prop} {w : World} : ∀ {l : List (Nz α)} {ns : List Value}, RowL (rdZ K w) l ns → ∀ u ∈ ns, u.oneCell' = true
  | [], ns, h, u, hu => by rw [show ns = [] from h] at hu; cases hu
  | x :: l, ns, ⟨cs, rest, e, h1, h2, h3⟩, u, hu => by
    rw [e] at hu
    rcases List.mem_append.1 hu with hu | hu
    · obtain ⟨_, _, _, _, _, vp, vr, vu, vb, rfl, p1, p2, p3, p4⟩ := h2
      obtain ⟨A1, c1, rfl⟩ := slice_is p1
      obtain ⟨A2, c2, rfl⟩ := slice_is p2
      obtain ⟨A3, c3, rfl⟩ := slice_is p3
      obtain ⟨A4, c4, rfl⟩ := slice_is p4
      simp only [List.mem_cons, List.not_mem_nil, or_false] at hu
      rcases hu with rfl | rfl | rfl | rfl | rfl | rfl | rfl | rfl | rfl | rfl | rfl <;> rfl
    · exact row_one h3 u hu
theorem row_nil {α : Type} {K : α → List Value → Prop} {l : List α} {w : World} {v : Value} (h : rdS K 11 w v l) (hv : v = .slice none 0 0) : l = [] := by
  obtain ⟨A, c, e, _⟩ := h
  rw [hv] at e
  injection e with _ e2 _
  exact List.length_eq_zero_iff.1 e2.symm
/-- A row that the call owns, read as noads. -/
theorem own_reads {α : Type} {K : α → List Value → Prop} {W : World} {base : Nat} {v : Value} {l : List α} {ns : List Value} (h : W.ownsRow base 33 11 v l.length ns) (hr : RowL K l ns) : rdS K 11 W v l := by
  rcases h.2 with ⟨rfl, h0⟩ | ⟨g, cap, cur, rfl, hbg, hg, hnc, hcm, hcs, htake⟩
  · have : l = [] := List.length_eq_zero_iff.1 h0
    subst this
    exact rd_nil _ _ _
  · have hmx : maxLen ≤ 9223372036854775807 := by decide
    refine ⟨some ⟨g, 0, none⟩, cap, rfl, hnc, rfl, by omega, fun _ => ⟨_, rfl, fun j p hj => ?_⟩⟩
    obtain ⟨cs, h1, h2, h3⟩ := hr.at j p hj
    refine ⟨cs, h1, h2, fun i u hu => ?_⟩
    have h4 := h3 i u hu
    rw [← htake] at h4
    rw [add_new]
    refine (Joins.cell_of_block hg _).trans ?_
    have h5 : j * 11 + i < l.length * 11 := by
      have hj2 := (List.getElem?_eq_some_iff.1 hj).1
      have hi2 := (List.getElem?_eq_some_iff.1 hu).1
      omega
    rw [List.getElem?_take_of_lt h5] at h4
    simpa using h4
end Go.Proofs.YtaoepeiadhdbaaaDoor.ND
namespace Go.Proofs.YtaoepeiadhdbaaaDoor.ND
open Go.Shelf Go.Sort Go.Proofs.YtaoepeiadhdbaaaDoor.P Go.RowKit Go.Proofs.YtaoepeiadhdbaaaDoorW.PrintWords Go.Proofs.YtaoepeiadhdbaaaDoorW.PrintLast Go.Proofs.YtaoepeiadhdbaaaDoorW.PrintMore
set_option linter.unusedVariables false
set_option linter.unusedSimpArgs false
def gpZ {α : Type} (l : List α) : Nz α := ⟨1, 0, 0, 0, 0, [l], [], false, false, [], []⟩
def frZ {α : Type} (l : List α) : Nz α := ⟨2, 0, 0, 0, 0, [l, []], [], false, false, [], []⟩
def sbZ {α : Type} (l : List α) : Nz α := ⟨0, 0, 120, 0, 0, [], [], false, true, [], l⟩
def gpN (k : Nat) (l : List (Nn k)) : List (Nn (k + 1)) := [(gpZ l : Nz (Nn k))]
def frN (k : Nat) (l : List (Nn k)) : List (Nn (k + 1)) := [(frZ l : Nz (Nn k))]
def sbN (k : Nat) (l : List (Nn k)) : List (Nn (k + 1)) := [(sbZ l : Nz (Nn k))]
theorem sdep_nil (k : Nat) : sdep k [] = 0 := by cases k <;> rfl
theorem scnt_nil (k : Nat) : scnt k [] = 0 := by cases k <;> rfl
theorem srt_nil (k : Nat) : srt k [] = true := by cases k <;> rfl
theorem stx_nil (k : Nat) : stx k [] = [] := by cases k <;> rfl
/-- One noad that holds a list, and stands a level higher. -/
structure Holds (k : Nat) (l : List (Nn k)) (y : List (Nn (k + 1))) (a b : List UInt8) : Prop where
  dep : sdep (k + 1) y = 1 + sdep k l
  cnt : scnt (k + 1) y = 1 + scnt k l
  rt : srt (k + 1) y = srt k l
  tx : stx (k + 1) y = a ++ stx k l ++ b
  wt : wtL (k + 1) y ≤ 3 + wtL k l
theorem holds_group (k : Nat) (l : List (Nn k)) : Holds k l (gpN k l) [123] [125] := by
  refine ⟨?_, ?_, ?_, ?_, ?_⟩
  · show max 0 (max 1 (1 + sdep k l)) = _
    omega
  · show 1 + sumL (cntY (scnt k)) [gpZ l] = _
    rw [sumL_cons, sumL_nil]
    show 1 + ((0 + (scnt k [] + scnt k [])) + sumL (scnt k) [l] + 0) = _
    rw [sumL_cons, sumL_nil, scnt_nil]
    omega
  · show (rightZ (srt k) (gpZ l) && true) = _
    unfold rightZ badB leftB
    simp only [gpZ, srt_nil]
    cases h : srt k l <;> simp [ownB, rCls, rRune, rN, rLim, rPl, rRl, limB, h]
  · show itemL (stx k) (gpZ l) ++ [] = _
    simp [itemL, gpZ, limW, nucL, bracesL]
  · show sumL (wtZ (wtN k)) [gpZ l] ≤ _
    rw [sumL_cons, sumL_nil]
    show 1 + 0 + sumL (fun p => 1 + sumL (wtN k) p) [l] + sumL (wtN k) [] + sumL (wtN k) [] + 0 ≤ 3 + sumL (wtN k) l
    simp only [sumL_cons, sumL_nil]
    omega
theorem holds_frac (k : Nat) (l : List (Nn k)) : Holds k l (frN k l) [92, 97, 116, 111, 112, 123] [125, 123, 125] := by
  refine ⟨?_, ?_, ?_, ?_, ?_⟩
  · show max 0 (max (max 1 (1 + sdep k l)) (1 + sdep k [])) = _
    rw [sdep_nil]
    omega
  · show 1 + sumL (cntY (scnt k)) [frZ l] = _
    rw [sumL_cons, sumL_nil]
    show 1 + ((0 + (scnt k [] + scnt k [])) + sumL (scnt k) [l, []] + 0) = _
    rw [sumL_cons, sumL_cons, sumL_nil, scnt_nil]
    omega
  · show (rightZ (srt k) (frZ l) && true) = _
    unfold rightZ badB leftB
    simp only [frZ, srt_nil]
    cases h : srt k l <;> simp [ownB, rCls, rRune, rN, rLim, rPl, rRl, limB, h, srt_nil]
  · show itemL (stx k) (frZ l) ++ [] = _
    simp [itemL, frZ, limW, nucL, bracesL, stx_nil]
  · show sumL (wtZ (wtN k)) [frZ l] ≤ _
    rw [sumL_cons, sumL_nil]
    show 1 + 0 + sumL (fun p => 1 + sumL (wtN k) p) [l, []] + sumL (wtN k) [] + sumL (wtN k) [] + 0 ≤ 3 + sumL (wtN k) l
    simp only [sumL_cons, sumL_nil]
    omega
theorem x_right : (runeB 120 && ((0 : Int) == clsR 120)) = true := by decide +kernel
theorem x_quote : quoteL 120 = [120] := by decide +kernel
theorem holds_sub (k : Nat) (l : List (Nn k)) : Holds k l (sbN k l) [120, 95, 123] [125] := by
  refine ⟨?_, ?_, ?_, ?_, ?_⟩
  · show max 0 (max 1 (1 + sdep k l)) = _
    omega
  · show 1 + sumL (cntY (scnt k)) [sbZ l] = _
    rw [sumL_cons, sumL_nil]
    show 1 + ((0 + (scnt k [] + scnt k l)) + sumL (scnt k) [] + 0) = _
    rw [sumL_nil, scnt_nil]
    omega
  · show (rightZ (srt k) (sbZ l) && true) = _
    have hx := x_right
    simp only [Bool.and_eq_true] at hx
    unfold rightZ badB leftB
    simp only [sbZ, srt_nil]
    cases h : srt k l <;> simp [ownB, rCls, rRune, rN, rLim, rPl, rRl, limB, h, hx.1, hx.2]
  · show itemL (stx k) (sbZ l) ++ [] = _
    simp [itemL, sbZ, limW, nucL, bracesL, x_quote]
  · show sumL (wtZ (wtN k)) [sbZ l] ≤ _
    rw [sumL_cons, sumL_nil]
    show 1 + 0 + sumL (fun p => 1 + sumL (wtN k) p) [] + sumL (wtN k) [] + sumL (wtN k) l + 0 ≤ 3 + sumL (wtN k) l
    simp only [sumL_cons, sumL_nil]
    omega
theorem chk_vals (k : Nat) (l : List (Nn k)) : chkR k l = 8 ∨ chkR k l = 7 ∨ chkR k l = 0 ∨ chkR k l = 5 := by
  unfold chkR
  split
  · exact .inl rfl
  · split
    · exact .inr (.inl rfl)
    · split
      · exact .inr (.inr (.inl rfl))
      · exact .inr (.inr (.inr rfl))
theorem Holds.bad {k : Nat} {l : List (Nn k)} {y : List (Nn (k + 1))} {a b : List UInt8} (h : Holds k l y a b) (he : (textR k l).2 ≠ 0) : (textR (k + 1) y).2 ≠ 0 := by
  intro h0
  refine he ((text_zero k l).2 ?_)
  obtain ⟨h1, h2⟩ := (text_zero (k + 1) y).1 h0
  obtain ⟨h3, h4, h5⟩ := (chk_zero (k + 1) y).1 h1
  rw [h.dep] at h3
  rw [h.cnt] at h4
  rw [h.rt] at h5
  rw [h.tx, List.length_append, List.length_append] at h2
  exact ⟨(chk_zero k l).2 ⟨by omega, by omega, h5⟩, by omega⟩
theorem Holds.ok {k : Nat} {l : List (Nn k)} {y : List (Nn (k + 1))} {a b : List UInt8} (h : Holds k l y a b) (he : (textR k l).2 = 0) :
    ((textR (k + 1) y).2 = 8 ∧ 64 < 1 + sdep k l) ∨ (textR (k + 1) y).2 = 7 ∧ 1 + sdep k l ≤ 64 ∨ (textR (k + 1) y).2 = 0 ∧ 1 + sdep k l ≤ 64 ∧ (textR (k + 1) y).1 = a ++ (textR k l).1 ++ b := by
  have ht := text_of k l he
  obtain ⟨h1, h2⟩ := (text_zero k l).1 he
  obtain ⟨h3, h4, h5⟩ := (chk_zero k l).1 h1
  rw [ht]
  have hc : chkR (k + 1) y = if 64 < 1 + sdep k l then 8 else if 65535 < 1 + scnt k l then 7 else 0 := by
    unfold chkR
    rw [h.dep, h.cnt, h.rt, h5]
    rfl
  unfold textR
  rw [hc, h.tx]
  by_cases d1 : 64 < 1 + sdep k l
  · left
    rw [if_pos d1]
    exact ⟨rfl, d1⟩
  · right
    rw [if_neg d1]
    by_cases d2 : 65535 < 1 + scnt k l
    · rw [if_pos d2]
      exact .inl ⟨rfl, by omega⟩
    · rw [if_neg d2, if_neg (by simp)]
      by_cases d3 : 65536 < (a ++ stx k l ++ b).length
      · rw [if_pos d3]
        exact .inl ⟨rfl, by omega⟩
      · rw [if_neg d3]
        exact .inr ⟨rfl, by omega, rfl⟩
/-- The law, told of three codes and texts. -/
theorem inside_bad (k : Nat) (l : List (Nn k)) (he : (textR k l).2 ≠ 0) : (textR (k + 1) (gpN k l)).2 ≠ 0 ∧ (textR (k + 1) (frN k l)).2 ≠ 0 ∧ (textR (k + 1) (sbN k l)).2 ≠ 0 :=
  ⟨(holds_group k l).bad he, (holds_frac k l).bad he, (holds_sub k l).bad he⟩
theorem inside_ok (k : Nat) (l : List (Nn k)) (he : (textR k l).2 = 0) :
    (textR (k + 1) (gpN k l)).2 = 8 ∨ (textR (k + 1) (gpN k l)).2 = 7 ∨
    ((textR (k + 1) (gpN k l)).2 = 0 ∧ (textR (k + 1) (frN k l)).2 = 7) ∨
    ((textR (k + 1) (gpN k l)).2 = 0 ∧ (textR (k + 1) (frN k l)).2 = 0 ∧ (textR (k + 1) (sbN k l)).2 = 7) ∨
    ((textR (k + 1) (gpN k l)).2 = 0 ∧ (textR (k + 1) (frN k l)).2 = 0 ∧ (textR (k + 1) (sbN k l)).2 = 0 ∧
      (textR (k + 1) (gpN k l)).1 = [123] ++ (textR k l).1 ++ [125] ∧ (textR (k + 1) (frN k l)).1 = [92, 97, 116, 111, 112, 123] ++ (textR k l).1 ++ [125, 123, 125] ∧ (textR (k + 1) (sbN k l)).1 = [120, 95, 123] ++ (textR k l).1 ++ [125]) := by
  rcases (holds_group k l).ok he with ⟨a1, a2⟩ | ⟨a1, a2⟩ | ⟨a1, a2, a3⟩
  · exact .inl a1
  · exact .inr (.inl a1)
  · rcases (holds_frac k l).ok he with ⟨b1, b2⟩ | ⟨b1, b2⟩ | ⟨b1, b2, b3⟩
    · omega
    · exact .inr (.inr (.inl ⟨a1, b1⟩))
    · rcases (holds_sub k l).ok he with ⟨c1, c2⟩ | ⟨c1, c2⟩ | ⟨c1, c2, c3⟩
      · omega
      · exact .inr (.inr (.inr (.inl ⟨a1, b1, c1⟩)))
      · exact .inr (.inr (.inr (.inr ⟨a1, b1, c1, a3, b3, c3⟩)))
theorem two (w : World) (A B : Obj) : ((w.alloc A).alloc B).heap[w.heap.size]? = some A ∧ ((w.alloc A).alloc B).heap[w.heap.size + 1]? = some B ∧ Below w.heap.size w ((w.alloc A).alloc B) := by
  have hB := (Below.refl w.heap.size w).alloc (Nat.le_refl _) A
  have e1 : (w.alloc A).heap.size = w.heap.size + 1 := by simp
  have hB2 := (Below.refl (w.alloc A).heap.size (w.alloc A)).alloc (Nat.le_refl _) B
  refine ⟨(hB2.block _ (by omega)).trans (heap_alloc_new w A), ?_, hB.trans (hB2.mono (by omega))⟩
  have := heap_alloc_new (w.alloc A) B
  rwa [e1] at this
theorem part_read {k : Nat} {l : List (Nn k)} {v : Value} {W : World} {b : Nat} (hr : rdL k W v l) (h : W.heap[b]? = some (.cells #[v] 22 (0, 0))) :
    rdS (fun (l : List (Nn k)) cs => ∃ v, cs = [v] ∧ rdS (rdN k W) 11 W v l) 1 W (.slice (some ⟨b, 0, none⟩) 1 1) [l] := rd_new _ 1 W b _ _ _ _ 1 rfl (by simp) h (fun j p hj => by
    match j, hj with
    | 0, hj =>
      obtain rfl := Option.some.inj hj
      exact ⟨_, rfl, ⟨_, rfl, hr⟩, fun i u hu => by
        match i, hu with
        | 0, hu => exact hu⟩)
theorem part_read2 {k : Nat} {l : List (Nn k)} {v : Value} {W : World} {b : Nat} (hr : rdL k W v l) (h : W.heap[b]? = some (.cells #[v, .slice none 0 0] 22 (0, 0))) :
    rdS (fun (l : List (Nn k)) cs => ∃ v, cs = [v] ∧ rdS (rdN k W) 11 W v l) 1 W (.slice (some ⟨b, 0, none⟩) 2 2) [l, []] := rd_new _ 1 W b _ _ _ _ 2 rfl (by simp) h (fun j p hj => by
    match j, hj with
    | 0, hj =>
      obtain rfl := Option.some.inj hj
      exact ⟨_, rfl, ⟨_, rfl, hr⟩, fun i u hu => by
        match i, hu with
        | 0, hu => exact hu⟩
    | 1, hj =>
      obtain rfl := Option.some.inj hj
      exact ⟨_, rfl, ⟨_, rfl, rd_nil _ _ _⟩, fun i u hu => by
        match i, hu with
        | 0, hu => exact hu⟩)
theorem hold_text {k : Nat} (hk : k + 1 ≤ 1500000) {l : List (Nn k)} {y : List (Nn (k + 1))} {a b : List UInt8} (h : Holds k l y a b) (hw : wtL k l ≤ 1900000) {W W' : World} {v : Value} (hT : LexTabs W') (hr : rdL (k + 1) W' v y) (hb : Below W.heap.size W W') :
    Calls Tryd.prog 6 #[v] W' fun e w' => e = .returned (.tuple #[.string ⟨(textR (k + 1) y).1.toArray⟩, .int .i64 (textR (k + 1) y).2]) ∧ Below W.heap.size W w' :=
  (text_all (k + 1) hk y v W' hT hr (by have := h.wt; omega)).mono fun e w' g => ⟨g.1, hb.trans (g.2.mono hb.size)⟩
theorem group_text (k : Nat) (hk : k + 1 ≤ 1500000) (l : List (Nn k)) (v : Value) (W : World) (hT : LexTabs W) (hr : rdL k W v l) (hw : wtL k l ≤ 1900000) :
    Calls Tryd.prog 6 #[.slice (some ⟨W.heap.size + 1, 0, none⟩) 1 1] ((W.alloc (.cells #[v] 22)).alloc (.cells #[.int .i64 1, .int .i64 0, .int .i64 0, .int .i64 0, .int .i64 0, .slice (some ⟨W.heap.size, 0, none⟩) 1 1, .slice none 0 0, .bool false, .bool false, .slice none 0 0, .slice none 0 0] 33))
      fun e w' => e = .returned (.tuple #[.string ⟨(textR (k + 1) (gpN k l)).1.toArray⟩, .int .i64 (textR (k + 1) (gpN k l)).2]) ∧ Below W.heap.size W w' := by
  obtain ⟨t1, t2, t3⟩ := two W (.cells #[v] 22) (.cells #[.int .i64 1, .int .i64 0, .int .i64 0, .int .i64 0, .int .i64 0, .slice (some ⟨W.heap.size, 0, none⟩) 1 1, .slice none 0 0, .bool false, .bool false, .slice none 0 0, .slice none 0 0] 33)
  have hr' := rdL_below hr t3
  refine hold_text hk (holds_group k l) hw (hT.below t3) ?_ t3
  exact one_read (rdN (k + 1)) _ _ [.int .i64 1, .int .i64 0, .int .i64 0, .int .i64 0, .int .i64 0, .slice (some ⟨W.heap.size, 0, none⟩) 1 1, .slice none 0 0, .bool false, .bool false, .slice none 0 0, .slice none 0 0] _ rfl
    ⟨inI_small _ (by constructor <;> simp [gpZ, frZ, sbZ]), inI_small _ (by constructor <;> simp [gpZ, frZ, sbZ]), inI_small _ (by constructor <;> simp [gpZ, frZ, sbZ]), inI_small _ (by constructor <;> simp [gpZ, frZ, sbZ]), inI_small _ (by constructor <;> simp [gpZ, frZ, sbZ]), _, _, _, _, rfl, part_read hr' t1, rd_nil _ _ _, rd_nil _ _ _, rd_nil _ _ _⟩ t2
theorem frac_text (k : Nat) (hk : k + 1 ≤ 1500000) (l : List (Nn k)) (v : Value) (W : World) (hT : LexTabs W) (hr : rdL k W v l) (hw : wtL k l ≤ 1900000) :
    Calls Tryd.prog 6 #[.slice (some ⟨W.heap.size + 1, 0, none⟩) 1 1] ((W.alloc (.cells #[v, .slice none 0 0] 22)).alloc (.cells #[.int .i64 2, .int .i64 0, .int .i64 0, .int .i64 0, .int .i64 0, .slice (some ⟨W.heap.size, 0, none⟩) 2 2, .slice none 0 0, .bool false, .bool false, .slice none 0 0, .slice none 0 0] 33))
      fun e w' => e = .returned (.tuple #[.string ⟨(textR (k + 1) (frN k l)).1.toArray⟩, .int .i64 (textR (k + 1) (frN k l)).2]) ∧ Below W.heap.size W w' := by
  obtain ⟨t1, t2, t3⟩ := two W (.cells #[v, .slice none 0 0] 22) (.cells #[.int .i64 2, .int .i64 0, .int .i64 0, .int .i64 0, .int .i64 0, .slice (some ⟨W.heap.size, 0, none⟩) 2 2, .slice none 0 0, .bool false, .bool false, .slice none 0 0, .slice none 0 0] 33)
  have hr' := rdL_below hr t3
  refine hold_text hk (holds_frac k l) hw (hT.below t3) ?_ t3
  exact one_read (rdN (k + 1)) _ _ [.int .i64 2, .int .i64 0, .int .i64 0, .int .i64 0, .int .i64 0, .slice (some ⟨W.heap.size, 0, none⟩) 2 2, .slice none 0 0, .bool false, .bool false, .slice none 0 0, .slice none 0 0] _ rfl
    ⟨inI_small _ (by constructor <;> simp [gpZ, frZ, sbZ]), inI_small _ (by constructor <;> simp [gpZ, frZ, sbZ]), inI_small _ (by constructor <;> simp [gpZ, frZ, sbZ]), inI_small _ (by constructor <;> simp [gpZ, frZ, sbZ]), inI_small _ (by constructor <;> simp [gpZ, frZ, sbZ]), _, _, _, _, rfl, part_read2 hr' t1, rd_nil _ _ _, rd_nil _ _ _, rd_nil _ _ _⟩ t2
theorem sub_text (k : Nat) (hk : k + 1 ≤ 1500000) (l : List (Nn k)) (v : Value) (W : World) (hT : LexTabs W) (hr : rdL k W v l) (hw : wtL k l ≤ 1900000) :
    Calls Tryd.prog 6 #[.slice (some ⟨W.heap.size, 0, none⟩) 1 1] (W.alloc (.cells #[.int .i64 0, .int .i64 0, .int .i64 120, .int .i64 0, .int .i64 0, .slice none 0 0, .slice none 0 0, .bool false, .bool true, .slice none 0 0, v] 33))
      fun e w' => e = .returned (.tuple #[.string ⟨(textR (k + 1) (sbN k l)).1.toArray⟩, .int .i64 (textR (k + 1) (sbN k l)).2]) ∧ Below W.heap.size W w' := by
  have t2 := heap_alloc_new W (.cells #[.int .i64 0, .int .i64 0, .int .i64 120, .int .i64 0, .int .i64 0, .slice none 0 0, .slice none 0 0, .bool false, .bool true, .slice none 0 0, v] 33)
  have t3 := (Below.refl W.heap.size W).alloc (Nat.le_refl _) (.cells #[.int .i64 0, .int .i64 0, .int .i64 120, .int .i64 0, .int .i64 0, .slice none 0 0, .slice none 0 0, .bool false, .bool true, .slice none 0 0, v] 33)
  have hr' := rdL_below hr t3
  refine hold_text hk (holds_sub k l) hw (hT.below t3) ?_ t3
  exact one_read (rdN (k + 1)) _ _ [.int .i64 0, .int .i64 0, .int .i64 120, .int .i64 0, .int .i64 0, .slice none 0 0, .slice none 0 0, .bool false, .bool true, .slice none 0 0, v] _ rfl
    ⟨inI_small _ (by constructor <;> simp [gpZ, frZ, sbZ]), inI_small _ (by constructor <;> simp [gpZ, frZ, sbZ]), inI_small _ (by constructor <;> simp [gpZ, frZ, sbZ]), inI_small _ (by constructor <;> simp [gpZ, frZ, sbZ]), inI_small _ (by constructor <;> simp [gpZ, frZ, sbZ]), _, _, _, _, rfl, rd_nil _ _ _, rd_nil _ _ _, rd_nil _ _ _, hr'⟩ t2
end Go.Proofs.YtaoepeiadhdbaaaDoor.ND
