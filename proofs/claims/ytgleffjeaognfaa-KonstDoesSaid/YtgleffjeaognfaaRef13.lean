/- Layer 13's reference answers what the program answers. -/
import Derived.Test.YtgleffjeaognfaaNames13
import Derived.Test.YtgleffjeaognfaaSpec13
import Derived.Test.YtgleffjeaognfaaPx2
import Derived.Test.YtgleffjeaognfaaPx3
import Derived.Test.YtgleffjeaognfaaPx4
import Derived.Test.YtgleffjeaognfaaPx4
import Derived.Test.YtgleffjeaognfaaPx5
namespace Go.Proofs.Ytgleffjeaognfaa.P
open Go.RowKit Go.Proofs.YtgleffjeaognfaaW.PrintWords Go.Proofs.YtgleffjeaognfaaW.PrintLast Go.Proofs.YtgleffjeaognfaaW.PrintMore Go.Proofs.Ytgleffjeaognfaa.BN
set_option linter.unusedVariables false
set_option linter.unusedSimpArgs false
theorem size_ref (k : Nat) : vinculumref13_size.f (k : Int) = some (sizeK k) := by
  unfold vinculumref13_size.f sizeK
  by_cases h2 : k = 2
  · subst h2; rfl
  · by_cases h3 : k = 3
    · subst h3; rfl
    · rw [if_neg (by omega), if_neg (by omega), if_neg (by omega)]
theorem wide_ref (k : Nat) : vinculumref13_wide.f (k : Int) = some (if moreK k then 4 else 2) := by
  unfold vinculumref13_wide.f moreK
  by_cases h2 : 4 ≤ k
  · rw [if_pos (by omega)]
    by_cases h3 : k < 55
    · rw [if_pos (by omega)]; simp [h2, h3]
    · rw [if_neg (by omega)]; simp [h2, h3]
  · rw [if_neg (by omega)]; simp [h2]
theorem posK_succ (k : Nat) : 2 * posK (k + 1) = 2 * posK k + (if moreK k then 4 else 2) := by
  rw [show posK (k + 1) = posK k + 1 + (moreK k).toNat from rfl]
  cases moreK k
  · simp; omega
  · simp; omega
theorem tvl_at (s : ByteArray) (x : Nat) (n : Int) (h : x + 2 ≤ s.size) : takeV (s.extract x (x + 2)) 2 n = tvl ((bytesl s).drop x) 2 n := by
  rw [takeV_tvl, bytesl_extract, List.drop_take, show x + 2 - x = 2 by omega, tvl_take]
theorem ref_kget (s : ByteArray) (a : Int) (hs : s.size ≤ 140737488351232) (hb : -9223372036854775808 ≤ a ∧ a ≤ 9223372036854775807) :
    Ev (fun k => vinculumref13_Get.f k s a) (if a < 0 then ([], 1) else if a > s.size ∨ s.size - a.toNat < 214 then ([], 4) else (gotK ((bytesl s).drop a.toNat) 56, 0)) := by
  unfold vinculumref13_Get.f
  have hT : Ev (fun k => vinculumref13_Get.j0 k s a true) (([] : List Int), (4 : Int)) := Ev.step (f := fun k => some ([], 4)) (fun k => by simp only [vinculumref13_Get.j0, if_true]) (Ev.now _)
  by_cases h0 : a < 0
  · simp only [if_pos h0]; exact Ev.now _
  simp only [if_neg h0]
  by_cases h1 : a > s.size
  · rw [if_pos (.inl h1)]; simp only [if_pos h1]; exact hT
  simp only [if_neg h1]
  rw [wrap64_small (x := (s.size : Int) - a) (by omega) (by omega)]
  by_cases h2 : (s.size : Int) - a < 214
  · rw [if_pos (.inr (by omega))]; simp only [decide_eq_true h2]; exact hT
  rw [if_neg (by omega)]
  simp only [decide_eq_false h2]
  obtain ⟨n, rfl⟩ : ∃ n : Nat, a = n := ⟨a.toNat, by omega⟩
  rw [Int.toNat_natCast]
  have hn : n + 214 ≤ s.size := by omega
  have key : ∀ (d i : Nat), i ≤ 56 → 56 - i = d → Ev (fun k => vinculumref13_Get.l0 k s ((n + 2 * posK i : Nat) : Int) (gotK ((bytesl s).drop n) i) (i : Int)) (gotK ((bytesl s).drop n) 56, (0 : Int)) := by
    intro d
    induction d with
    | zero =>
      intro i hi hd
      obtain rfl : i = 56 := by omega
      exact Ev.step (f := fun k => some (gotK ((bytesl s).drop n) 56, 0)) (fun k => by simp only [vinculumref13_Get.l0]; rw [if_neg (by omega)]) (Ev.now _)
    | succ d ih =>
      intro i hi hd
      have hp := posK_le106 i (by omega)
      have hsu := posK_succ i
      obtain ⟨x, hx⟩ : ∃ x, x = n + 2 * posK i := ⟨_, rfl⟩
      have hxs : x + 2 ≤ s.size := by omega
      have hes : (s.extract x (x + 2)).size = 2 := by rw [ByteArray.size_extract]; omega
      have ho := ref_one (s.extract x (x + 2)) (sizeK i) (by omega) (by omega)
      rw [hes, tvl_at s x _ hxs] at ho
      have hgl := gotK_length ((bytesl s).drop n) i
      have hgs : gotK ((bytesl s).drop n) (i + 1) = gotK ((bytesl s).drop n) i ++ [tvl ((bytesl s).drop x) 2 (sizeK i)] := by rw [gotK, List.drop_drop, hx]
      have ih' := ih (i + 1) (by omega) (by omega)
      rw [hgs] at ih'
      rw [← hx]
      have hnx : ((n + 2 * posK (i + 1) : Nat) : Int) = wrap64 ((x : Int) + (if moreK i then 4 else 2)) := by
        rw [hx]
        cases hm : moreK i
        · rw [hm] at hsu
          simp only [Bool.false_eq_true, if_false] at hsu ⊢
          rw [wrap64_small (by omega) (by omega)]; omega
        · rw [hm] at hsu
          simp only [if_true] at hsu ⊢
          rw [wrap64_small (by omega) (by omega)]; omega
      rw [hnx] at ih'
      refine Ev.step (f := fun k => (vinculumref03_One.f k (s.extract x (x + 2)) (sizeK i)).bind fun t108 => vinculumref13_Get.l0 k s (wrap64 ((x : Int) + (if moreK i then 4 else 2))) (gotK ((bytesl s).drop n) i ++ [t108]) ((i + 1 : Nat) : Int)) (fun k => ?_) (Ev.bind ho ih')
      simp only [vinculumref13_Get.l0]
      rw [wrap64_small (x := (x : Int) + 2) (by omega) (by omega), if_pos (by omega), if_pos (by omega), if_pos (by omega), if_pos (by omega), size_ref, Option.bind_some, wide_ref, Int.toNat_natCast,
        show ((x : Int) + 2).toNat = x + 2 by omega, wrap64_small (x := (i : Int) + 1) (by omega) (by omega)]
      simp only [Option.bind_some, hgl]
      rw [show ((i + 1 : Nat) : Int) = (i : Int) + 1 by omega]
      simp only [if_pos (show i < 17592186044416 by omega)]
  exact Ev.step (f := fun k => vinculumref13_Get.l0 k s (n : Int) [] 0) (fun k => by simp only [vinculumref13_Get.j0, Bool.false_eq_true, if_false]) (key 56 0 (by omega) (by omega))
def okF (l : List Int) (i : Nat) : Nat → Bool
  | 0 => true
  | d + 1 => fitsB (rd l (i : Int)) (sizeK i) && okF l (i + 1) d
theorem okF_okK (l : List Int) : ∀ d i, (okK l i && okF l i d) = okK l (i + d)
  | 0, i => by simp [okF]
  | d + 1, i => by
    have h := okF_okK l d (i + 1)
    rw [show i + 1 + d = i + (d + 1) by omega] at h
    rw [← h]
    simp only [okF, okK, Bool.and_assoc]
theorem ref_kis (l : List Int) (hl : l.length ≤ 1000000000) : Ev (fun k => vinculumref13_Is.f k l) (isK l) := by
  unfold vinculumref13_Is.f isK
  by_cases h56 : l.length = 56
  · have hb : ((l.length : Int) == 56) = true := by simp; omega
    have key : ∀ (d i : Nat), i + d = 56 → Ev (fun k => vinculumref13_Is.l0 k l (i : Int)) (okF l i d) := by
      intro d
      induction d with
      | zero =>
        intro i hd
        refine Ev.step (f := fun k => vinculumref13_Is.j1 k l (i : Int) false) (fun k => by simp only [vinculumref13_Is.l0]; rw [if_neg (by omega)]) ?_
        exact Ev.step (f := fun k => some true) (fun k => by simp only [vinculumref13_Is.j1]; rw [if_neg (by decide), hb]) (Ev.now _)
      | succ d ih =>
        intro i hd
        refine Ev.step (f := fun k => vinculumref13_Is.j1 k l (i : Int) true) (fun k => by simp only [vinculumref13_Is.l0]; rw [if_pos (by omega), hb]) ?_
        refine Ev.step (f := fun k => (vinculumref03_Fits.f k (rd l (i : Int)) (sizeK i)).bind fun t117 => (if t117 = true then (vinculumref13_Is.l0 k l ((i + 1 : Nat) : Int)) else (some false))) (fun k => ?_) ?_
        · simp only [vinculumref13_Is.j1]
          rw [if_pos trivial, if_pos (by omega), if_pos (by omega), size_ref, Option.bind_some, wrap64_small (x := (i : Int) + 1) (by omega) (by omega)]
          rfl
        · refine Ev.bind (ref_fits _ _ (sizeK_ok i)) ?_
          simp only [okF]
          cases fitsB (rd l (i : Int)) (sizeK i)
          · exact Ev.now _
          · simp only [if_true, Bool.true_and]; exact ih (i + 1) (by omega)
    have h0 := key 56 0 (by omega)
    have he := okF_okK l 56 0
    rw [show okK l 0 = true from rfl, Bool.true_and, Nat.zero_add] at he
    rw [he] at h0
    simpa [h56] using h0
  · have hb : ((l.length : Int) == 56) = false := by simp; omega
    rw [decide_eq_false h56, Bool.false_and]
    refine Ev.step (f := fun k => vinculumref13_Is.j1 k l 0 false) (fun k => by simp only [vinculumref13_Is.l0, hb]; split <;> rfl) ?_
    exact Ev.step (f := fun k => some false) (fun k => by simp only [vinculumref13_Is.j1]; rw [if_neg (by decide), hb]) (Ev.now _)
theorem ref_kput (l : List Int) (hl : l.length ≤ 1000000000) : Ev (fun k => vinculumref13_Put.f k l) (if isK l = true then (⟨(outK l 56).toArray⟩, 0) else (⟨#[]⟩, 1)) := by
  unfold vinculumref13_Put.f
  refine Ev.bind (ref_kis l hl) ?_
  cases hk : isK l
  · simp only [Bool.false_eq_true, if_false]; exact Ev.now _
  · simp only [if_true]
    unfold isK at hk
    rw [Bool.and_eq_true, decide_eq_true_eq] at hk
    obtain ⟨h56, hok⟩ := hk
    have key : ∀ (d i : Nat), i ≤ 56 → 56 - i = d → Ev (fun k => vinculumref13_Put.l0 k l ⟨(outK l i).toArray⟩ (i : Int)) ((⟨(outK l 56).toArray⟩ : ByteArray), (0 : Int)) := by
      intro d
      induction d with
      | zero =>
        intro i hi hd
        obtain rfl : i = 56 := by omega
        exact Ev.step (f := fun k => some (⟨(outK l 56).toArray⟩, 0)) (fun k => by simp only [vinculumref13_Put.l0]; rw [if_neg (by omega)]) (Ev.now _)
      | succ d ih =>
        intro i hi hd
        have hf := okK_at l 56 hok i (by omega)
        have hby := ref_bytes (rd l (i : Int)) (sizeK i) (sizeK_ok i) hf
        rw [sizeK_abs] at hby
        have hp := posK_le106 i (by omega)
        have hol := outK_length l i
        have ih' := ih (i + 1) (by omega) (by omega)
        have hb2 : (putB (rd l (i : Int)) 2).length = 2 := rfl
        have s1 : (⟨(outK l i).toArray⟩ : ByteArray).size = 2 * posK i := by rw [bytes_size, hol]
        have s2 : (⟨(putB (rd l (i : Int)) 2).toArray⟩ : ByteArray).size = 2 := by rw [bytes_size, hb2]
        generalize hBB : (⟨(putB (rd l (i : Int)) 2).toArray⟩ : ByteArray) = BB at hby s2
        generalize hOO : (⟨(outK l i).toArray⟩ : ByteArray) = OO at s1
        refine Ev.step (f := fun k => (vinculumref03_Bytes.f k (rd l (i : Int)) ((2 : Nat) : Int)).bind fun t124 => (if OO.size + t124.size ≤ 9223372036854775807 then ((vinculumref13_wide.f (i : Int)).bind fun t125 => (if t125 = 4 then (if (OO ++ t124).size + 2 ≤ 9223372036854775807 then (vinculumref13_Put.l0 k l ((OO ++ t124) ++ (⟨#[0, 0]⟩ : ByteArray)) (wrap64 ((i : Int) + 1))) else (none)) else (vinculumref13_Put.l0 k l (OO ++ t124) (wrap64 ((i : Int) + 1))))) else (none))) (fun k => ?_) (Ev.bind hby ?_)
        · simp only [vinculumref13_Put.l0]
          rw [if_pos (by omega), if_pos (by omega), if_pos (by omega)]
          rfl
        · simp only [if_pos (show OO.size + BB.size ≤ 9223372036854775807 by omega), wide_ref, Option.bind_some, wrap64_small (x := (i : Int) + 1) (by omega) (by omega)]
          rw [show ((i + 1 : Nat) : Int) = (i : Int) + 1 by omega] at ih'
          cases hm : moreK i
          · simp only [Bool.false_eq_true, if_false, if_neg (show ¬ (2 : Int) = 4 by decide)]
            have e : (⟨(outK l (i + 1)).toArray⟩ : ByteArray) = OO ++ BB := by
              rw [outK, hm, ← hOO, ← hBB, bytes_append]; simp
            rw [e] at ih'
            exact ih'
          · simp only [if_true, if_pos (show (OO ++ BB).size + 2 ≤ 9223372036854775807 by rw [ByteArray.size_append]; omega)]
            have e : (⟨(outK l (i + 1)).toArray⟩ : ByteArray) = (OO ++ BB) ++ (⟨#[0, 0]⟩ : ByteArray) := by
              rw [outK, hm, ← hOO, ← hBB, bytes_append (outK l i) (putB (rd l (i : Int)) 2)]
              exact (bytes_append (outK l i ++ putB (rd l (i : Int)) 2) [0, 0]).symm
            rw [e] at ih'
            exact ih'
    exact key 56 0 (by omega) (by omega)
/-- A scan through words with blanks between. -/
theorem ref_words (s : ByteArray) (hs : s.size ≤ 1000000000) : ∀ (d i fr x : Nat) (acc : List UInt8), x ≤ 1000 → i + d = s.size → fr ≤ i → acc.reverse = ((bytesl s).take i).drop fr →
    Ev (fun k => vinculumref13_Name.l0 k (x : Int) s (fr : Int) (i : Int)) (match (splitB ((bytesl s).drop i) acc)[x]? with | some w => ((⟨w.toArray⟩ : ByteArray), (0 : Int)) | none => (⟨#[]⟩, 1)) := by
  intro d
  induction d with
  | zero =>
    intro i fr x acc hx0 hd hf ha
    have hdr : (bytesl s).drop i = [] := List.drop_of_length_le (by rw [bytesl_length]; omega)
    rw [hdr]
    exact Ev.step (f := fun k => some (⟨#[]⟩, 1)) (fun k => by simp only [vinculumref13_Name.l0]; rw [if_neg (by omega)]) (by simp only [splitB]; exact Ev.now _)
  | succ d ih =>
    intro i fr x acc hx0 hd hf ha
    have hlt : i < s.size := by omega
    have hdr : (bytesl s).drop i = s[i] :: (bytesl s).drop (i + 1) := by
      unfold bytesl
      rw [List.drop_eq_getElem_cons (by simpa using hlt)]; rfl
    have htk := bytesl_take s i hlt
    have h8 := s[i].toNat_lt
    rw [hdr]
    simp only [splitB]
    by_cases h32 : s[i] = 32
    · have hb : bt s (i : Int) = 32 := by rw [bt_get s i hlt, h32]; rfl
      rw [if_pos h32]
      cases x with
      | zero =>
        refine Ev.step (f := fun k => some (s.extract fr i, 0)) (fun k => ?_) ?_
        · simp only [vinculumref13_Name.l0]
          rw [if_pos (by omega), if_pos (by omega), if_pos hb, if_pos (show ((0 : Nat) : Int) = 0 from rfl), if_pos (by omega), if_pos (by omega), if_pos (by omega), Int.toNat_natCast, Int.toNat_natCast]
        · have e : s.extract fr i = ⟨acc.reverse.toArray⟩ := by
            rw [ha, ← bytesl_extract]
            rfl
          rw [e]
          exact Ev.now _
      | succ x =>
        have ih' := ih (i + 1) (i + 1) x [] (by omega) (by omega) (by omega) (by rw [List.drop_of_length_le (by rw [List.length_take]; omega)]; rfl)
        refine Ev.step (f := fun k => vinculumref13_Name.l0 k (x : Int) s ((i + 1 : Nat) : Int) ((i + 1 : Nat) : Int)) (fun k => ?_) (by simpa using ih')
        simp only [vinculumref13_Name.l0]
        rw [if_pos (by omega), if_pos (by omega), if_pos hb, if_neg (by omega), wrap64_small (x := (i : Int) + 1) (by omega) (by omega), show ((x + 1 : Nat) : Int) - 1 = x by omega, wrap64_small (x := (x : Int)) (by omega) (by omega)]
        rfl
    · have hb : ¬ bt s (i : Int) = 32 := by
        rw [bt_get s i hlt]
        intro h
        exact h32 (UInt8.toNat_inj.1 (show s[i].toNat = (32 : UInt8).toNat from (by omega : s[i].toNat = 32)))
      rw [if_neg h32]
      have ih' := ih (i + 1) fr x (s[i] :: acc) (by omega) (by omega) (by omega) (by
        rw [List.reverse_cons, ha, htk, List.drop_append_of_le_length (by rw [List.length_take, bytesl_length]; omega)])
      refine Ev.step (f := fun k => vinculumref13_Name.l0 k (x : Int) s (fr : Int) ((i + 1 : Nat) : Int)) (fun k => ?_) ih'
      simp only [vinculumref13_Name.l0]
      rw [if_pos (by omega), if_pos (by omega), if_neg hb, wrap64_small (x := (i : Int) + 1) (by omega) (by omega)]
      rfl
theorem ref_kname (a : Int) (ha : -9223372036854775808 ≤ a ∧ a ≤ 9223372036854775807) : ∃ r, konst_Name.f a = some r ∧ Ev (fun k => vinculumref13_Name.f k a) r := by
  have hT : Ev (fun k => vinculumref13_Name.j0 k a true) ((⟨#[]⟩ : ByteArray), (1 : Int)) := Ev.step (f := fun k => some (⟨#[]⟩, 1)) (fun k => by simp only [vinculumref13_Name.j0, if_true]) (Ev.now _)
  unfold vinculumref13_Name.f konst_Name.f
  by_cases h0 : a < 0
  · exact ⟨_, rfl, by simp only [if_pos h0]; exact hT⟩
  by_cases h1 : 56 ≤ a
  · exact ⟨_, rfl, by simp only [if_neg h0, if_pos h1, decide_eq_true (show a > 55 by omega)]; exact hT⟩
  refine ⟨_, rfl, ?_⟩
  simp only [if_neg h0, if_neg h1, decide_eq_false (show ¬ a > 55 by omega)]
  obtain ⟨n, rfl⟩ : ∃ n : Nat, a = n := ⟨a.toNat, by omega⟩
  have hl : n < namesL.length := by rw [namesL_length]; omega
  have hnm : ∃ nm, vinculumref13_names.f = some nm ∧ nm.size ≤ 1000000000 ∧ namesL = (splitB nm.data.toList []).map (fun l => ⟨l.toArray⟩) := ⟨_, rfl, by decide +kernel, rfl⟩
  obtain ⟨nm, e1, e2, e3⟩ := hnm
  rw [Int.toNat_natCast]
  have hw := ref_words nm e2 nm.size 0 0 n [] (by omega) (by omega) (by omega) rfl
  rw [List.drop_zero] at hw
  have hx : namesL.getD n ⟨#[]⟩ = namesL[n] := by simp [List.getD, hl]
  rw [hx]
  have hl2 : n < (splitB nm.data.toList []).length := by rw [e3] at hl; simpa using hl
  have hv : (splitB (bytesl nm) [])[n]? = some (splitB nm.data.toList [])[n] := List.getElem?_eq_getElem hl2
  rw [hv] at hw
  have he : namesL[n] = ⟨(splitB nm.data.toList [])[n].toArray⟩ := by simp [e3]
  rw [he]
  refine Ev.step (f := fun k => vinculumref13_Name.l0 k (n : Int) nm 0 0) (fun k => by simp only [vinculumref13_Name.j0, e1]; rfl) hw
theorem idx_drop (x : ByteArray) (i : Nat) (h : i < 56) : Lib.idxFromS (namesL.drop i) x i = if namesL.getD i ⟨#[]⟩ = x then (i : Int) else Lib.idxFromS (namesL.drop (i + 1)) x (i + 1) := by
  have hl : i < namesL.length := by rw [namesL_length]; exact h
  rw [List.drop_eq_getElem_cons hl]
  have hx : namesL.getD i ⟨#[]⟩ = namesL[i] := by simp [List.getD, hl]
  rw [hx]; rfl
theorem ref_kfind (x : ByteArray) : ∃ r, konst_Find.f x = some r ∧ Ev (fun k => vinculumref13_Find.f k x) r := by
  refine ⟨_, rfl, ?_⟩
  have key : ∀ (d i : Nat), i + d = 56 → Ev (fun k => vinculumref13_Find.l0 k x (i : Int)) (if Lib.idxFromS (namesL.drop i) x i < 0 then ((0 : Int), (9 : Int)) else (Lib.idxFromS (namesL.drop i) x i, 0)) := by
    intro d
    induction d with
    | zero =>
      intro i hd
      have hdr : namesL.drop i = [] := List.drop_of_length_le (by rw [namesL_length]; omega)
      rw [hdr]
      exact Ev.step (f := fun k => some (0, 9)) (fun k => by simp only [vinculumref13_Find.l0]; rw [if_neg (by omega)]) (Ev.now _)
    | succ d ih =>
      intro i hd
      obtain ⟨r, hr, hn⟩ := ref_kname (i : Int) (by omega)
      have hr' : r = (namesL.getD i ⟨#[]⟩, 0) := by
        unfold konst_Name.f at hr
        rw [if_neg (by omega), if_neg (by omega), Int.toNat_natCast] at hr
        exact (Option.some.inj hr).symm
      subst hr'
      rw [idx_drop x i (by omega)]
      refine Ev.step (f := fun k => (vinculumref13_Name.f k (i : Int)).bind fun bt127 => (if bt127.1.toList = x.toList then (some ((i : Int), (0 : Int))) else (vinculumref13_Find.l0 k x ((i + 1 : Nat) : Int)))) (fun k => ?_) (Ev.bind hn ?_)
      · simp only [vinculumref13_Find.l0]
        rw [if_pos (by omega), wrap64_small (x := (i : Int) + 1) (by omega) (by omega)]
        rfl
      · by_cases he : namesL.getD i ⟨#[]⟩ = x
        · have : (namesL.getD i ⟨#[]⟩).toList = x.toList := by rw [he]
          simp only [if_pos this, if_pos he]
          rw [if_neg (by omega)]
          exact Ev.now _
        · have : ¬ (namesL.getD i ⟨#[]⟩).toList = x.toList := fun h => he ((Lib.bytes_beq_iff _ _).1 (beq_iff_eq.2 h))
          simp only [if_neg this, if_neg he]
          exact ih (i + 1) (by omega)
  exact key 56 0 (by omega)
end Go.Proofs.Ytgleffjeaognfaa.P
