/- The closed example of layer 4's statements, and what sfnt.Put writes, sfnt.Get reads: the bytes of a file, place by place. No condition but the tables' sizes. -/
import Derived.Test.YtgchajlfopmcjaaPx8
import Derived.Test.YtgchajlfopmcjaaSfPut
import Derived.Test.YtgchajlfopmcjaaPx4
import Derived.Test.YtgchajlfopmcjaaSfGet
namespace Go.Proofs.Ytgchajlfopmcjaa.P
open Go.RowKit Go.Proofs.YtgchajlfopmcjaaW.PrintWords Go.Proofs.YtgchajlfopmcjaaW.PrintLast Go.Proofs.Ytgchajlfopmcjaa.BN
theorem filed_ev : Ev (fun k => vinculumlaw04_filed.f k) true := Ev.of (fun k => vinculumlaw04_filed.mono k) (k := 12) (by decide +kernel)
end Go.Proofs.Ytgchajlfopmcjaa.P
namespace Go.Proofs.Ytgchajlfopmcjaa.P
open Go.Shelf Go.RowKit Go.Proofs.YtgchajlfopmcjaaW.PrintWords Go.Proofs.YtgchajlfopmcjaaW.PrintLast Go.Proofs.YtgchajlfopmcjaaW.PrintMore Go.Proofs.Ytgchajlfopmcjaa.BN
set_option linter.unusedVariables false
set_option linter.unusedSimpArgs false
theorem bytesl_mk (l : List UInt8) : bytesl (⟨l.toArray⟩ : ByteArray) = l := by unfold bytesl; simp
theorem bytesl_ext {a b : ByteArray} (h : bytesl a = bytesl b) : a = b := by
  apply ByteArray.ext
  apply Array.toList_inj.1
  exact h
def recB (l : List S33) (k : Nat) : List UInt8 := bytesl (tabAt l k).f0 ++ (putB (tabSum (tabAt l k).f0 (tabAt l k).f1) 4 ++ (putB (sizeTo l k : Int) 4 ++ putB ((tabAt l k).f1.size : Int) 4))
def recsB (l : List S33) : Nat → List UInt8
  | 0 => []
  | k + 1 => recsB l k ++ recB l k
def headB (v : Int) (n : Nat) : List UInt8 := putAll [4, 2, 2, 2, 2] ([v, (n : Int)] ++ searchS n)
theorem recN_bytes (l : List S33) (k : Nat) : bytesl (recN l k) = putB (tabSum (tabAt l k).f0 (tabAt l k).f1) 4 ++ (putB (sizeTo l k : Int) 4 ++ putB ((tabAt l k).f1.size : Int) 4) := by
  unfold recN
  rw [bytesl_mk]
  simp [putAll]
theorem recs_bytes (v : Int) (l : List S33) : ∀ k, bytesl (recsTo v l k) = headB v l.length ++ recsB l k
  | 0 => by rw [recsTo, recsB, List.append_nil]; unfold headN headB; rw [bytesl_mk]
  | k + 1 => by rw [recsTo, bytesl_app, bytesl_app, recs_bytes v l k, recN_bytes, recsB, List.append_assoc]; rfl
theorem file_bytes (v : Int) (l : List S33) : bytesl (recsTo v l l.length ++ ⟨(restTo l l.length).toArray⟩) = headB v l.length ++ (recsB l l.length ++ restTo l l.length) := by
  rw [bytesl_app, bytesl_mk (restTo l l.length), recs_bytes, List.append_assoc]
theorem headB_length (v : Int) (n : Nat) : (headB v n).length = 12 := by
  have h : ∃ a b c, searchS n = [a, b, c] := by unfold searchS; split <;> exact ⟨_, _, _, rfl⟩
  obtain ⟨a, b, c, h⟩ := h
  unfold headB
  rw [h]
  simp [putAll, putB_length]
theorem recB_length (l : List S33) (k : Nat) (h : (tabAt l k).f0.size = 4) : (recB l k).length = 16 := by
  unfold recB
  rw [List.length_append, List.length_append, List.length_append, putB_length, putB_length, putB_length, bytesl_length, h]
theorem recsB_length (l : List S33) (ht : ∀ x ∈ l, x.f0.size = 4) : ∀ k, k ≤ l.length → (recsB l k).length = 16 * k
  | 0, _ => rfl
  | k + 1, h => by
    rw [recsB, List.length_append, recsB_length l ht k (by omega), recB_length l k (ht _ (rd_mem l k (by omega)))]
    omega
theorem recsB_split (l : List S33) (i : Nat) : ∀ n, i < n → ∃ T, recsB l n = recsB l i ++ (recB l i ++ T)
  | 0, h => absurd h (Nat.not_lt_zero _)
  | n + 1, h => by
    by_cases e : i = n
    · subst e; exact ⟨[], by rw [recsB, List.append_nil]⟩
    · obtain ⟨T, hT⟩ := recsB_split l i n (by omega)
      exact ⟨T ++ recB l n, by rw [recsB, hT]; simp [List.append_assoc]⟩
theorem restTo_split (l : List S33) (i : Nat) : ∀ n, i < n → ∃ T, restTo l n = restTo l i ++ (bytesl (padT (tabAt l i).f1) ++ T)
  | 0, h => absurd h (Nat.not_lt_zero _)
  | n + 1, h => by
    by_cases e : i = n
    · subst e; exact ⟨[], by rw [restTo, List.append_nil]⟩
    · obtain ⟨T, hT⟩ := restTo_split l i n (by omega)
      exact ⟨T ++ bytesl (padT (tabAt l n).f1), by rw [restTo, hT]; simp [List.append_assoc]⟩
/-- A file of these tables, in which whatever stands behind the place 'at least' may be gone: the bytes at its front. -/
structure FileOf (v : Int) (l : List S33) (s : ByteArray) (N : Nat) : Prop where
  ver : verB v = true
  right : rightT l = true
  size : s.size ≤ 16777216
  len : N ≤ s.size
  bytes : (bytesl s).take N = (headB v l.length ++ (recsB l l.length ++ restTo l l.length)).take N
  recs : 12 + 16 * l.length ≤ N
theorem FileOf.drop {v : Int} {l : List S33} {s : ByteArray} {N : Nat} (h : FileOf v l s N) (a m : Nat) (ham : a + m ≤ N) : ((bytesl s).drop a).take m = ((headB v l.length ++ (recsB l l.length ++ restTo l l.length)).drop a).take m := by
  have e : ∀ L : List UInt8, (L.drop a).take m = ((L.take N).drop a).take m := fun L => by
    rw [List.drop_take, List.take_take, Nat.min_eq_left (by omega)]
  rw [e (bytesl s), h.bytes, ← e]
theorem drop_left' (A B : List UInt8) (n : Nat) (h : A.length = n) : (A ++ B).drop n = B := by subst h; exact List.drop_left
theorem take_left' (A B : List UInt8) (n : Nat) (h : A.length = n) : (A ++ B).take n = A := by subst h; exact List.take_left
theorem FileOf.four {v : Int} {l : List S33} {s : ByteArray} {N : Nat} (h : FileOf v l s N) (i : Nat) (hi : i < l.length) (j : Nat) (hj : j + 4 ≤ 16) : ((bytesl s).drop (12 + 16 * i + j)).take 4 = ((recB l i).drop j).take 4 := by
  obtain ⟨hn, ht⟩ := right_facts l h.right
  rw [h.drop _ _ (by have := h.recs; omega)]
  obtain ⟨T, hT⟩ := recsB_split l i l.length hi
  have h1 : (headB v l.length ++ (recsB l l.length ++ restTo l l.length)) = (headB v l.length ++ recsB l i) ++ (recB l i ++ (T ++ restTo l l.length)) := by rw [hT]; simp [List.append_assoc]
  rw [h1, ← List.drop_drop, drop_left' _ _ (12 + 16 * i) (by rw [List.length_append, headB_length, recsB_length l ht i (by omega)]), List.drop_append_of_le_length (by rw [recB_length l i (ht _ (rd_mem l i hi))]; omega), List.take_append_of_le_length (by rw [List.length_drop, recB_length l i (ht _ (rd_mem l i hi))]; omega)]
theorem be_val (x : Int) (h : 0 ≤ x ∧ x < 4294967296) : be (putB x 4) = x := by
  rw [be_putB]
  exact Int.emod_eq_of_lt h.1 h.2
theorem tab_small (t d : ByteArray) : 0 ≤ tabSum t d ∧ tabSum t d < 4294967296 := by unfold tabSum; omega
theorem cut_bytes (s : ByteArray) (a b : Nat) : bytesl (s.extract a b) = ((bytesl s).drop a).take (b - a) := by
  rw [bytesl_extract, List.drop_take]
theorem FileOf.rec_eq {v : Int} {l : List S33} {s : ByteArray} {N : Nat} (h : FileOf v l s N) (i : Nat) (hi : i < l.length) (hz : sizeTo l i ≤ 16777216) (hd : (tabAt l i).f1.size ≤ 16777216) :
    recE s i = ⟨⟨(sizeTo l i : Int), ((tabAt l i).f1.size : Int)⟩, (tabAt l i).f0, tabSum (tabAt l i).f0 (tabAt l i).f1⟩ := by
  obtain ⟨hn, ht⟩ := right_facts l h.right
  have ht4 := ht _ (rd_mem l i hi)
  change (tabAt l i).f0.size = 4 at ht4
  have r0 := h.four i hi 0 (by omega)
  have r1 := h.four i hi 4 (by omega)
  have r2 := h.four i hi 8 (by omega)
  have r3 := h.four i hi 12 (by omega)
  have hbl : (bytesl (tabAt l i).f0).length = 4 := by rw [bytesl_length, ht4]
  have e0 : ((recB l i).drop 0).take 4 = bytesl (tabAt l i).f0 := by
    rw [List.drop_zero]; unfold recB; rw [take_left' _ _ 4 hbl]
  have e1 : ((recB l i).drop 4).take 4 = putB (tabSum (tabAt l i).f0 (tabAt l i).f1) 4 := by
    unfold recB; rw [drop_left' _ _ 4 hbl, take_left' _ _ 4 (putB_length _ _)]
  have e2 : ((recB l i).drop 8).take 4 = putB (sizeTo l i : Int) 4 := by
    unfold recB; rw [show 8 = 4 + 4 from rfl, ← List.drop_drop, drop_left' _ _ 4 hbl, drop_left' _ _ 4 (putB_length _ _), take_left' _ _ 4 (putB_length _ _)]
  have e3 : ((recB l i).drop 12).take 4 = putB ((tabAt l i).f1.size : Int) 4 := by
    unfold recB; rw [show 12 = 4 + (4 + 4) from rfl, ← List.drop_drop, drop_left' _ _ 4 hbl, ← List.drop_drop, drop_left' _ _ 4 (putB_length _ _), drop_left' _ _ 4 (putB_length _ _), List.take_of_length_le (by rw [putB_length]; omega)]
  rw [e0] at r0
  rw [e1] at r1
  rw [e2] at r2
  rw [e3] at r3
  unfold recE
  have n1 : nm s (12 + 16 * i + 4) = tabSum (tabAt l i).f0 (tabAt l i).f1 := by unfold nm; rw [r1]; exact be_val _ (tab_small _ _)
  have n2 : nm s (12 + 16 * i + 8) = (sizeTo l i : Int) := by unfold nm; rw [r2]; exact be_val _ (by omega)
  have n3 : nm s (12 + 16 * i + 12) = ((tabAt l i).f1.size : Int) := by unfold nm; rw [r3]; exact be_val _ (by omega)
  have n0 : s.extract (12 + 16 * i) (12 + 16 * i + 4) = (tabAt l i).f0 := bytesl_ext (by rw [cut_bytes, show 12 + 16 * i + 4 - (12 + 16 * i) = 4 by omega]; exact r0)
  rw [n0, n1, n2, n3]
theorem recE_tag {v : Int} {l : List S33} {s : ByteArray} {N : Nat} (h : FileOf v l s N) (i : Nat) (hi : i < l.length) (hz : sizeTo l i ≤ 16777216) (hd : (tabAt l i).f1.size ≤ 16777216) : (recE s i).f1 = (tabAt l i).f0 := by rw [h.rec_eq i hi hz hd]
theorem FileOf.head {v : Int} {l : List S33} {s : ByteArray} {N : Nat} (h : FileOf v l s N) : frontS s = (v, (l.length : Int), 0) := by
  obtain ⟨hn, ht⟩ := right_facts l h.right
  have hs := search_length l.length
  obtain ⟨a, b, c, hsr⟩ : ∃ a b c, searchS l.length = [a, b, c] := by unfold searchS; split <;> exact ⟨_, _, _, rfl⟩
  have hv2 : v = 65536 ∨ v = 1330926671 := by
    have := h.ver
    unfold verB at this
    simpa using this
  have hH : headB v l.length = putB v 4 ++ (putB (l.length : Int) 2 ++ (putB a 2 ++ (putB b 2 ++ putB c 2))) := by unfold headB; rw [hsr]; simp [putAll]
  have n0 : nm s 0 = v := by
    unfold nm
    rw [h.drop 0 4 (by have := h.recs; omega), List.drop_zero, hH, List.append_assoc, take_left' _ _ 4 (putB_length _ _)]
    exact be_val _ (by rcases hv2 with rfl | rfl <;> decide)
  have n4 : nm2 s 4 = (l.length : Int) := by
    unfold nm2
    rw [h.drop 4 2 (by have := h.recs; omega), hH, List.append_assoc, drop_left' _ _ 4 (putB_length _ _), List.append_assoc, take_left' _ _ 2 (putB_length _ _), be_putB]
    exact Int.emod_eq_of_lt (by omega) (by omega)
  unfold frontS
  have h1 := h.size
  have h2 := h.len
  have h3 := h.recs
  rw [n0, n4, if_neg (by omega), if_neg (by omega), if_neg (by rw [h.ver]; decide), if_neg (by omega), if_neg (by omega)]
theorem FileOf.data {v : Int} {l : List S33} {s : ByteArray} {N : Nat} (h : FileOf v l s N) (i : Nat) (hi : i < l.length) (hf : sizeTo l i + (tabAt l i).f1.size ≤ N) : s.extract (sizeTo l i) (sizeTo l i + (tabAt l i).f1.size) = (tabAt l i).f1 := by
  obtain ⟨hn, ht⟩ := right_facts l h.right
  refine bytesl_ext ?_
  rw [cut_bytes, show sizeTo l i + (tabAt l i).f1.size - sizeTo l i = (tabAt l i).f1.size by omega, h.drop _ _ hf]
  obtain ⟨T, hT⟩ := restTo_split l i l.length hi
  have hl : (headB v l.length ++ (recsB l l.length ++ restTo l i)).length = sizeTo l i := by
    rw [List.length_append, List.length_append, headB_length, recsB_length l ht l.length (Nat.le_refl _), ← restTo_length l i]
    omega
  have h1 : (headB v l.length ++ (recsB l l.length ++ restTo l l.length)) = (headB v l.length ++ (recsB l l.length ++ restTo l i)) ++ (bytesl (tabAt l i).f1 ++ (bytesl (noughts ((4 - (tabAt l i).f1.size % 4) % 4)) ++ T)) := by
    rw [hT]
    unfold padT
    rw [bytesl_app]
    simp [List.append_assoc]
  rw [h1, drop_left' _ _ _ hl, take_left' _ _ _ (bytesl_length _)]
theorem sizeTo_mod (l : List S33) : ∀ k, sizeTo l k % 4 = 0
  | 0 => by rw [sizeTo]; omega
  | k + 1 => by rw [sizeTo]; have := sizeTo_mod l k; unfold upN; omega
theorem sizeTo_low (l : List S33) (k : Nat) : 12 + 16 * l.length ≤ sizeTo l k := by rw [← restTo_length l k]; omega
theorem FileOf.good {v : Int} {l : List S33} {s : ByteArray} {N : Nat} (h : FileOf v l s N) (i : Nat) (hi : i < l.length) (hz : ∀ j, j ≤ i → sizeTo l j ≤ 16777216 ∧ (tabAt l j).f1.size ≤ 16777216) : badR s l.length i = false := by
  have hr := h.rec_eq i hi (hz i (Nat.le_refl _)).1 (hz i (Nat.le_refl _)).2
  have hra : rightAt l i = true := by
    have := h.right
    unfold rightT rightTo at this
    rw [Bool.and_eq_true, List.all_eq_true] at this
    exact this.1 i (List.mem_range.2 hi)
  unfold rightAt at hra
  rw [Bool.and_eq_true] at hra
  obtain ⟨ha, hb⟩ := hra
  unfold badR
  rw [hr]
  simp only
  have hm := sizeTo_mod l i
  have hl := sizeTo_low l i
  have ht : tagB (tabAt l i).f0 = true := ha
  rw [ht, decide_eq_false (show ¬ ((sizeTo l i : Int) % 4 ≠ 0) by omega), decide_eq_false (show ¬ (sizeTo l i : Int) < 12 + 16 * (l.length : Int) by omega)]
  by_cases h0 : i = 0
  · subst h0; rfl
  · rw [recE_tag h (i - 1) (by omega) (hz (i - 1) (by omega)).1 (hz (i - 1) (by omega)).2]
    have hb2 : Op.bytesLess (tabAt l (i - 1)).f0.toList (tabAt l i).f0.toList = true := by
      rw [Bool.or_eq_true, decide_eq_true_eq] at hb
      exact hb.resolve_left h0
    rw [hb2]
    simp
theorem size_next (l : List S33) (i j : Nat) (h : i < j) : sizeTo l i + (tabAt l i).f1.size ≤ sizeTo l j := by
  have h1 := sizeTo_mono l j (i + 1) h
  have h2 := upN_ge (tabAt l i).f1.size
  rw [sizeTo] at h1
  omega
theorem FileOf.ok {v : Int} {l : List S33} {s : ByteArray} {N : Nat} (h : FileOf v l s N) (i : Nat) (hi : i < l.length) (hf : sizeTo l i + (tabAt l i).f1.size ≤ N) : errR s l.length i = 0 ∧ tabR s l.length i = tabAt l i := by
  have hN := h.len
  have hS := h.size
  have hg := h.good i hi (fun j hj => by
    rcases Nat.lt_or_ge j i with hh | hh
    · have := size_next l j i hh; omega
    · rw [show j = i by omega]; omega)
  have hr := h.rec_eq i hi (by omega) (by omega)
  have hd := h.data i hi hf
  have hdR : dataR s i = (tabAt l i).f1 := by
    unfold dataR
    rw [hr]
    simp only
    rw [Int.toNat_natCast, show ((sizeTo l i : Int) + ((tabAt l i).f1.size : Int)).toNat = sizeTo l i + (tabAt l i).f1.size by omega]
    exact hd
  have he : errR s l.length i = 0 := by
    unfold errR
    rw [hg, hdR, hr]
    simp only
    rw [if_neg (by decide), if_neg (by omega), if_neg (by simp)]
  refine ⟨he, ?_⟩
  unfold tabR
  rw [if_pos he, hdR, hr]
theorem firstE_all (e : Nat → Int) : ∀ n, (∀ i, i < n → e i = 0) → firstE e n = 0
  | 0, _ => rfl
  | n + 1, h => firstE_go e n (firstE_all e n (fun i hi => h i (by omega))) (h n (by omega))
theorem recsE_get (s : ByteArray) (n i : Nat) (h : i < (recsE s n).length) : (recsE s n)[i] = recE s i := by simp [recsE]
theorem tabsTo_get (s : ByteArray) (m n i : Nat) (h : i < (tabsTo s m n).length) : (tabsTo s m n)[i] = tabR s m i := by simp [tabsTo]
theorem FileOf.apart {v : Int} {l : List S33} {s : ByteArray} {N : Nat} (h : FileOf v l s N) (hf : sizeTo l l.length ≤ N) : meetB (recsE s l.length) = false := by
  unfold meetB
  rw [Bool.not_eq_false', decide_eq_true_eq]
  refine List.Pairwise.filter _ ?_
  rw [List.pairwise_iff_getElem]
  intro i j hi hj hij
  have hn : (recsE s l.length).length = l.length := recsE_length _ _
  rw [hn] at hi hj
  have hN := h.len
  have hS := h.size
  have m1 := size_next l i j hij
  have m2 := size_next l j l.length hj
  have ei := recsE_get s l.length i (by rw [hn]; exact hi)
  have ej := recsE_get s l.length j (by rw [hn]; exact hj)
  rw [ei, ej, h.rec_eq i hi (by omega) (by omega), h.rec_eq j hj (by omega) (by omega)]
  unfold overE
  simp only
  rw [decide_eq_false (p := (sizeTo l j : Int) < _) (by omega), Bool.and_false]
theorem FileOf.get {v : Int} {l : List S33} {s : ByteArray} {N : Nat} (h : FileOf v l s N) (hf : sizeTo l l.length ≤ N) : getS s = (v, l, 0) := by
  have hall : ∀ i, i < l.length → errR s l.length i = 0 ∧ tabR s l.length i = tabAt l i := fun i hi => h.ok i hi (by have := size_next l i l.length hi; omega)
  unfold getS
  rw [h.head]
  simp only [Int.toNat_natCast]
  have he : errsTo s l.length l.length = 0 := firstE_all _ _ (fun i hi => (hall i hi).1)
  rw [if_neg (by simp), he, if_neg (by simp), h.apart hf, if_neg (by decide)]
  have ht : tabsTo s l.length l.length = l := by
    apply List.ext_getElem
    · rw [tabsTo_length]
    · intro i h1 h2
      rw [tabsTo_get, (hall i h2).2]
      unfold tabAt
      rw [List.getD_eq_getElem?_getD, List.getElem?_eq_getElem h2]; rfl
  rw [ht]
/-- What Put has written is such a file, whole. -/
theorem put_file {v : Int} {l : List S33} {s : ByteArray} (h : putS v l = (s, 0)) : FileOf v l s s.size ∧ s.size = sizeTo l l.length ∧ bytesl s = headB v l.length ++ (recsB l l.length ++ restTo l l.length) := by
  unfold putS at h
  split at h
  · cases h
  rename_i h1
  split at h
  · cases h
  rename_i h2
  have hv1 : verB v = true := by cases hq : verB v <;> simp_all
  have hv2 : rightT l = true := by cases hq : rightT l <;> simp_all
  obtain ⟨hn, ht⟩ := right_facts l hv2
  have hs : s = recsTo v l l.length ++ ⟨(restTo l l.length).toArray⟩ := by cases h; rfl
  have hb : bytesl s = headB v l.length ++ (recsB l l.length ++ restTo l l.length) := by rw [hs]; exact file_bytes v l
  have hz : s.size = sizeTo l l.length := by
    rw [← bytesl_length s, hb, List.length_append, List.length_append, headB_length, recsB_length l ht l.length (Nat.le_refl _), ← restTo_length l l.length]
    omega
  have hlow := sizeTo_low l l.length
  exact ⟨{ ver := hv1, right := hv2, size := by omega, len := Nat.le_refl _, bytes := by rw [hb], recs := by omega }, hz, hb⟩
theorem put_get {v : Int} {l : List S33} {s : ByteArray} (h : putS v l = (s, 0)) : getS s = (v, l, 0) := by
  obtain ⟨h1, h2, _⟩ := put_file h
  exact h1.get (by omega)
end Go.Proofs.Ytgchajlfopmcjaa.P
namespace Go.Proofs.Ytgchajlfopmcjaa.P
open Go.Shelf Go.RowKit Go.Proofs.YtgchajlfopmcjaaW.PrintWords Go.Proofs.YtgchajlfopmcjaaW.PrintLast Go.Proofs.YtgchajlfopmcjaaW.PrintMore Go.Proofs.Ytgchajlfopmcjaa.BN
set_option linter.unusedVariables false
set_option linter.unusedSimpArgs false
theorem same_refl (l : List S33) (hl : l.length < 4611686018427387904) : Ev (fun k => vinculumref04_Same.f k l l) true := by
  have key : ∀ (d i : Nat), i ≤ l.length → l.length - i = d → Ev (fun k => vinculumref04_Same.l0 k l l (i : Int)) true := by
    intro d
    induction d with
    | zero =>
      intro i hi hd
      exact Ev.step (f := fun k => some true) (fun k => by rw [vinculumref04_Same.l0, if_neg (by omega)]) (Ev.now _)
    | succ d ih =>
      intro i hi hd
      refine Ev.step (f := fun k => vinculumref04_Same.l0 k l l ((i + 1 : Nat) : Int)) (fun k => ?_) (ih (i + 1) (by omega) (by omega))
      rw [vinculumref04_Same.l0, if_pos (by omega), if_pos (by omega), if_pos (by omega), if_neg (by simp), wrap_succ i (by omega)]
  refine Ev.congr (f := fun k => vinculumref04_Same.l0 k l l 0) (fun k => by unfold vinculumref04_Same.f; rw [if_pos rfl]) (key l.length 0 (by omega) (by omega))
/-- What Get tells where it fails. -/
theorem got_none {s : ByteArray} {v e : Int} {l : List S33} (h : getS s = (v, l, e)) (he : e ≠ 0) : v = 0 ∧ l = [] := by
  unfold getS at h
  split at h
  · cases h; exact ⟨rfl, rfl⟩
  split at h
  · cases h; exact ⟨rfl, rfl⟩
  split at h
  · cases h; exact ⟨rfl, rfl⟩
  · cases h; exact absurd rfl he
theorem got_some {s : ByteArray} {v : Int} {l : List S33} (h : getS s = (v, l, 0)) : ∃ m : Nat, frontS s = (v, (m : Int), 0) ∧ s.size ≤ 16777216 ∧ m ≤ 64 ∧ errsTo s m m = 0 ∧ meetB (recsE s m) = false ∧ l = tabsTo s m m := by
  unfold getS at h
  split at h
  · rename_i h1; exact absurd (congrArg (fun q : Int × List S33 × Int => q.2.2) h) h1
  rename_i h1
  split at h
  · rename_i h2; exact absurd (congrArg (fun q : Int × List S33 × Int => q.2.2) h) h2
  rename_i h2
  split at h
  · cases h
  rename_i h3
  have hf : (frontS s).2.2 = 0 := by
    rcases Int.decEq (frontS s).2.2 0 with hh | hh
    · exact absurd hh h1
    · exact hh
  obtain ⟨hs, m, hm, hm64, _⟩ := front_ok s hf
  rw [hm, Int.toNat_natCast] at h h2 h3
  have he : errsTo s m m = 0 := by
    rcases Int.decEq (errsTo s m m) 0 with hh | hh
    · exact absurd hh h2
    · exact hh
  refine ⟨m, ?_, hs, hm64, he, by simpa using h3, by cases h; rfl⟩
  have hv : (frontS s).1 = v := by cases h; rfl
  rw [← hv, ← hm, ← hf]
theorem firstE_each (e : Nat → Int) : ∀ n, firstE e n = 0 → ∀ i, i < n → e i = 0
  | 0, _, i, hi => absurd hi (Nat.not_lt_zero _)
  | n + 1, h, i, hi => by
    rw [firstE] at h
    split at h
    · rename_i hh; exact absurd h hh
    · rename_i hh
      have h0 : firstE e n = 0 := by
        rcases Int.decEq (firstE e n) 0 with hq | hq
        · exact absurd hq hh
        · exact hq
      rcases Nat.lt_or_ge i n with hlt | hge
      · exact firstE_each e n h0 i hlt
      · rw [show i = n by omega]; exact h
theorem got_short {s : ByteArray} {v : Int} {l : List S33} (h : getS s = (v, l, 0)) : l.length < 4611686018427387904 := by
  obtain ⟨m, _, _, hm, _, _, rfl⟩ := got_some h
  rw [tabsTo_length]
  omega
theorem front_ver {s : ByteArray} {v m : Int} (h : frontS s = (v, m, 0)) : verB v = true := by
  unfold frontS at h
  split at h
  · cases h
  split at h
  · cases h
  split at h
  · cases h
  rename_i h3
  split at h
  · cases h
  split at h
  · cases h
  cases h
  cases hq : verB (nm s 0)
  · exact absurd hq h3
  · rfl
theorem errR_bad {s : ByteArray} {m i : Nat} (h : errR s m i = 0) : badR s m i = false ∧ (recE s i).f0.f0 + (recE s i).f0.f1 ≤ (s.size : Int) := by
  unfold errR at h
  split at h
  · cases h
  rename_i h1
  split at h
  · cases h
  exact ⟨by simpa using h1, by omega⟩
theorem badR_good {s : ByteArray} {m i : Nat} (h : badR s m i = false) : tagB (recE s i).f1 = true ∧ (i = 0 ∨ Op.bytesLess (recE s (i - 1)).f1.toList (recE s i).f1.toList = true) := by
  unfold badR at h
  simp only [Bool.or_eq_false_iff, Bool.and_eq_false_iff] at h
  obtain ⟨⟨⟨h1, h2⟩, _⟩, _⟩ := h
  refine ⟨by simpa using h1, ?_⟩
  rcases h2 with h2 | h2
  · left; have := of_decide_eq_false h2; omega
  · right; simpa using h2
theorem tabsTo_rd (s : ByteArray) (m i : Nat) (hi : i < m) : rd_T33 (tabsTo s m m) (i : Int) = tabR s m i := by
  unfold rd_T33
  rw [Int.toNat_natCast, List.getD_eq_getElem?_getD, List.getElem?_eq_getElem (by rw [tabsTo_length]; exact hi), tabsTo_get]; rfl
theorem tabR_ok {s : ByteArray} {m i : Nat} (h : errR s m i = 0) : tabR s m i = ⟨(recE s i).f1, dataR s i⟩ := by unfold tabR; rw [if_pos h]
theorem got_right {s : ByteArray} {v : Int} {l : List S33} (h : getS s = (v, l, 0)) : verB v = true ∧ rightT l = true ∧ ∀ x ∈ l, x.f0.size = 4 ∧ x.f1.size ≤ s.size := by
  obtain ⟨m, hf, hs, hm, he, hme, rfl⟩ := got_some h
  have hall := firstE_each _ m he
  refine ⟨front_ver hf, ?_, ?_⟩
  · unfold rightT rightTo
    rw [tabsTo_length, Bool.and_eq_true, decide_eq_true_eq, List.all_eq_true]
    refine ⟨fun i hi => ?_, hm⟩
    have hi' : i < m := List.mem_range.1 hi
    obtain ⟨hb, _⟩ := errR_bad (hall i hi')
    obtain ⟨h1, h2⟩ := badR_good hb
    unfold rightAt
    rw [tabsTo_rd s m i hi', tabR_ok (hall i hi'), h1, Bool.true_and, Bool.or_eq_true, decide_eq_true_eq]
    by_cases h0 : i = 0
    · exact .inl h0
    · right
      rw [tabsTo_rd s m (i - 1) (by omega), tabR_ok (hall (i - 1) (by omega))]
      exact h2.resolve_left h0
  · intro x hx
    obtain ⟨i, hi, rfl⟩ := List.getElem_of_mem hx
    rw [tabsTo_length] at hi
    rw [tabsTo_get, tabR_ok (hall i hi)]
    obtain ⟨hb, _⟩ := errR_bad (hall i hi)
    obtain ⟨h1, _⟩ := badR_good hb
    unfold tagB at h1
    rw [Bool.and_eq_true, decide_eq_true_eq] at h1
    refine ⟨h1.1, ?_⟩
    unfold dataR
    rw [ByteArray.size_extract]
    omega
theorem sizeTo_bound (l : List S33) (B : Nat) (h : ∀ x ∈ l, x.f1.size ≤ B) : ∀ k, k ≤ l.length → sizeTo l k ≤ 12 + 16 * l.length + k * (B + 3)
  | 0, _ => by rw [sizeTo]; omega
  | k + 1, hk => by
    have h1 := sizeTo_bound l B h k (by omega)
    have h2 := h _ (rd_mem l k (by omega))
    change (tabAt l k).f1.size ≤ B at h2
    rw [sizeTo, Nat.add_mul]
    unfold upN
    omega
theorem got_put {s : ByteArray} {v : Int} {l : List S33} (hs : s.size ≤ 4000) (h : getS s = (v, l, 0)) : ∃ t, putS v l = (t, 0) ∧ sfnt_Put.f v l = some (t, 0) := by
  obtain ⟨h1, h2, h3⟩ := got_right h
  obtain ⟨hn, _⟩ := right_facts l h2
  have hz := sizeTo_bound l 4000 (fun x hx => Nat.le_trans (h3 x hx).2 hs) l.length (Nat.le_refl _)
  have hz2 : l.length * (4000 + 3) ≤ 64 * 4003 := Nat.mul_le_mul_right _ hn
  refine ⟨recsTo v l l.length ++ ⟨(restTo l l.length).toArray⟩, ?_, ?_⟩
  · unfold putS
    rw [if_neg (by rw [h1, h2]; simp), if_neg (by omega)]
  · unfold sfnt_Put.f
    rw [if_pos ⟨by omega, fun x hx => by have := h3 x hx; omega⟩]
    unfold putS
    rw [if_neg (by rw [h1, h2]; simp), if_neg (by omega)]
end Go.Proofs.Ytgchajlfopmcjaa.P
