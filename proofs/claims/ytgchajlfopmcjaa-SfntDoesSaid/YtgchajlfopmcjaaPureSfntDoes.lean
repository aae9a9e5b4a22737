/- Layer 4: bytes are just these tables, or none; tables have just these bytes, sums, and this one of a tag, or are refused. No condition but the statement's own. -/
import Derived.Test.YtgchajlfopmcjaaRefGet
import Derived.Test.YtgchajlfopmcjaaTabOpen
import Derived.Test.YtgchajlfopmcjaaPx12
namespace Go.Proofs.Ytgchajlfopmcjaa.P
open Go.Shelf Go.RowKit Go.Proofs.YtgchajlfopmcjaaW.PrintWords Go.Proofs.YtgchajlfopmcjaaW.PrintLast Go.Proofs.YtgchajlfopmcjaaW.PrintMore Go.Proofs.Ytgchajlfopmcjaa.BN
set_option linter.unusedVariables false
set_option linter.unusedSimpArgs false
set_option maxRecDepth 100000
/-! ### Find -/
theorem ref_find04 (l : List S33) (t : ByteArray) (hl : l.length < 1000000000) : Ev (fun k => vinculumref04_Find.f k l t) (findT l t) := by
  have key : ∀ (d i : Nat), i ≤ l.length → l.length - i = d → (∀ j, j < i → hitT t (l.getD j z33) = false) → Ev (fun k => vinculumref04_Find.l0 k l t (i : Int)) (findT l t) := by
    intro d
    induction d with
    | zero =>
      intro i hi hd hno
      have h : findT l t = (⟨#[]⟩, false) := by
        unfold findT
        rw [findI_none t l 0 (fun j hj => hno j (by omega)), if_pos (by decide)]
      rw [h]
      exact Ev.step (f := fun k => some ((⟨#[]⟩ : ByteArray), false)) (fun k => by rw [vinculumref04_Find.l0, if_neg (by omega)]) (Ev.now _)
    | succ d ih =>
      intro i hi hd hno
      cases hh : hitT t (l.getD i z33) with
      | true =>
        have h : findT l t = ((rd_T33 l (i : Int)).f1, true) := by
          unfold findT
          rw [findI_hit t l i 0 (by omega) hno hh, if_neg (by omega), Nat.zero_add]
        rw [h]
        have he : (rd_T33 l (i : Int)).f0.toList = t.toList := by
          unfold hitT at hh
          rw [rd_at]
          exact beq_iff_eq.1 hh
        exact Ev.step (f := fun k => some ((rd_T33 l (i : Int)).f1, true)) (fun k => by rw [vinculumref04_Find.l0, if_pos (by omega), if_pos (by omega), if_pos he]) (Ev.now _)
      | false =>
        have he : ¬ (rd_T33 l (i : Int)).f0.toList = t.toList := by
          unfold hitT at hh
          rw [rd_at]
          exact beq_eq_false_iff_ne.1 hh
        refine Ev.step (f := fun k => vinculumref04_Find.l0 k l t ((i + 1 : Nat) : Int)) (fun k => by rw [vinculumref04_Find.l0, if_pos (by omega), if_pos (by omega), if_neg he, wrap_succ i (by omega)]) (ih (i + 1) (by omega) (by omega) (fun j hj => ?_))
        rcases Nat.lt_or_ge j i with h | h
        · exact hno j h
        · rw [show j = i by omega]; exact hh
  exact key l.length 0 (by omega) (by omega) (fun j hj => absurd hj (Nat.not_lt_zero _))
/-! ### Put -/
theorem bitLen_up : ∀ n : Fin 65, n.val = 0 ∨ n.val < 2 ^ Lib.bitLen n.val := by decide +kernel
theorem pad_up (s : ByteArray) (hs : s.size ≤ 1000000000) : Ev (fun k => vinculumref03_Up.f k s 4) (padT s) := by
  have h := up_spec 4 (by omega) (by omega) ((4 - s.size % 4) % 4) s (by omega) rfl
  exact h
theorem arr_app (a b : List UInt8) : (⟨a.toArray⟩ : ByteArray) ++ ⟨b.toArray⟩ = ⟨(a ++ b).toArray⟩ := bytes_append a b
theorem fit_pos (x : Int) (m : Nat) (h0 : 0 ≤ x) (h1 : x < 2 ^ (8 * m)) : fitsB x (m : Int) = true := by
  unfold fitsB
  rw [if_neg (by omega), Int.natAbs_natCast, decide_eq_true h0, decide_eq_true h1]
  rfl
theorem rb4 (x : Int) (h0 : 0 ≤ x) (h1 : x < 4294967296) : Ev (fun k => vinculumref03_Bytes.f k x 4) ⟨(putB x 4).toArray⟩ := ref_bytes x 4 (by decide) (fit_pos x 4 h0 h1)
theorem rb2 (x : Int) (h0 : 0 ≤ x) (h1 : x < 65536) : Ev (fun k => vinculumref03_Bytes.f k x 2) ⟨(putB x 2).toArray⟩ := ref_bytes x 2 (by decide) (fit_pos x 2 h0 h1)
theorem mk_size (l : List UInt8) : (⟨l.toArray⟩ : ByteArray).size = l.length := bytes_size l
theorem recs_len (v : Int) (l : List S33) (ht : ∀ x ∈ l, x.f0.size = 4) (k : Nat) (hk : k ≤ l.length) : (recsTo v l k).size = 12 + 16 * k := by
  rw [← bytesl_length, recs_bytes, List.length_append, headB_length, recsB_length l ht k hk]
/-- The records and the rest are written. -/
theorem put_l2 (v : Int) (l : List S33) (hf : fewT l) (hr : rightT l = true) (d : Nat) : ∀ i, i ≤ l.length → l.length - i = d →
    Ev (fun k => vinculumref04_Put.l2 k l (recsTo v l i) (sizeTo l i : Int) ⟨(restTo l i).toArray⟩ (i : Int)) (recsTo v l l.length ++ ⟨(restTo l l.length).toArray⟩, 0) := by
  obtain ⟨hn, ht⟩ := right_facts l hr
  have hz := sizeTo_bound l 2000 (fun x hx => (hf.2 x hx).1)
  have hz2 : ∀ k, k ≤ l.length → sizeTo l k ≤ 200000 := fun k hk => by
    have := hz k hk
    have h2 : k * (2000 + 3) ≤ 70 * 2003 := Nat.mul_le_mul_right _ (by omega)
    omega
  have hrs : ∀ k, k ≤ l.length → (restTo l k).length ≤ 200000 := fun k hk => by have := restTo_length l k; have := hz2 k hk; omega
  induction d with
  | zero =>
    intro i hi hd
    obtain rfl : i = l.length := by omega
    have s1 := recs_len v l ht l.length (Nat.le_refl _)
    have s2 : (⟨(restTo l l.length).toArray⟩ : ByteArray).size ≤ 200000 := by rw [mk_size]; exact hrs _ (Nat.le_refl _)
    exact Ev.step (f := fun k => some (recsTo v l l.length ++ ⟨(restTo l l.length).toArray⟩, 0)) (fun k => by rw [vinculumref04_Put.l2, if_neg (by omega), if_pos (by omega)]) (Ev.now _)
  | succ d ih =>
    intro i hi hd
    have hlt : i < l.length := by omega
    have hx := hf.2 _ (rd_mem l i hlt)
    have hx4 := ht _ (rd_mem l i hlt)
    have s1 := recs_len v l ht i hi
    have s2 : (⟨(restTo l i).toArray⟩ : ByteArray).size ≤ 200000 := by rw [mk_size]; exact hrs i hi
    have hzi := hz2 i hi
    have hzn := hz2 (i + 1) (by omega)
    have h1 := ref_sum04 (rd_T33 l (i : Int)).f0 (rd_T33 l (i : Int)).f1 (by omega)
    have hts := tab_small (rd_T33 l (i : Int)).f0 (rd_T33 l (i : Int)).f1
    have h2 := rb4 (tabSum (rd_T33 l (i : Int)).f0 (rd_T33 l (i : Int)).f1) hts.1 hts.2
    have h3 := rb4 (sizeTo l i : Int) (by omega) (by omega)
    have h4 := rb4 ((rd_T33 l (i : Int)).f1.size : Int) (by omega) (by omega)
    have h5 := pad_up (rd_T33 l (i : Int)).f1 (by omega)
    have hih := ih (i + 1) (by omega) (by omega)
    have e1 : recsTo v l (i + 1) = (((recsTo v l i ++ (rd_T33 l (i : Int)).f0) ++ ⟨(putB (tabSum (rd_T33 l (i : Int)).f0 (rd_T33 l (i : Int)).f1) 4).toArray⟩) ++ ⟨(putB (sizeTo l i : Int) 4).toArray⟩) ++ ⟨(putB ((rd_T33 l (i : Int)).f1.size : Int) 4).toArray⟩ := by
      rw [rd_at, recsTo, recN]
      apply bytesl_ext
      simp only [bytesl_app, bytesl_mk, putAll, List.append_assoc, List.append_nil]
      rfl
    have e2 : (⟨(restTo l (i + 1)).toArray⟩ : ByteArray) = ⟨(restTo l i).toArray⟩ ++ padT (rd_T33 l (i : Int)).f1 := by
      rw [rd_at, restTo]
      apply bytesl_ext
      rw [bytesl_app, bytesl_mk (restTo l i), bytesl_mk (restTo l i ++ _)]
    have e3 : ((sizeTo l (i + 1) : Nat) : Int) = wrap64 ((sizeTo l i : Int) + ((padT (rd_T33 l (i : Int)).f1).size : Int)) := by
      rw [rd_at, padT_size]
      rw [sizeTo] at hzn ⊢
      rw [wrap64_small (by omega) (by omega)]
      omega
    rw [e1, e2, e3, ← wrap_succ i (by omega)] at hih
    have p4 : ∀ x : Int, (⟨(putB x 4).toArray⟩ : ByteArray).size = 4 := fun x => by rw [mk_size, putB_length]
    have psz : (padT (rd_T33 l (i : Int)).f1).size ≤ 2003 := by rw [padT_size]; unfold upN; omega
    refine Ev.step (f := fun k => (vinculumref04_Sum.f k (rd_T33 l (i : Int)).f0 (rd_T33 l (i : Int)).f1).bind fun t139 => ((vinculumref03_Bytes.f k t139 4).bind fun t140 => (if (recsTo v l i ++ (rd_T33 l (i : Int)).f0).size + t140.size ≤ 9223372036854775807 then ((vinculumref03_Bytes.f k (sizeTo l i : Int) 4).bind fun t141 => (if ((recsTo v l i ++ (rd_T33 l (i : Int)).f0) ++ t140).size + t141.size ≤ 9223372036854775807 then ((vinculumref03_Bytes.f k ((rd_T33 l (i : Int)).f1.size : Int) 4).bind fun t142 => (if (((recsTo v l i ++ (rd_T33 l (i : Int)).f0) ++ t140) ++ t141).size + t142.size ≤ 9223372036854775807 then ((vinculumref03_Up.f k (rd_T33 l (i : Int)).f1 4).bind fun t143 => (if (⟨(restTo l i).toArray⟩ : ByteArray).size + t143.size ≤ 9223372036854775807 then (vinculumref04_Put.l2 k l ((((recsTo v l i ++ (rd_T33 l (i : Int)).f0) ++ t140) ++ t141) ++ t142) (wrap64 ((sizeTo l i : Int) + (t143.size : Int))) ((⟨(restTo l i).toArray⟩ : ByteArray) ++ t143) (wrap64 ((i : Int) + 1))) else none)) else none)) else none)) else none)))
      (fun k => by rw [vinculumref04_Put.l2, if_pos (by omega), if_pos (by omega), if_pos (by omega)]) ?_
    refine Ev.bind h1 (Ev.bind h2 ?_)
    simp only [ByteArray.size_append, s1, hx4, p4, if_pos (show 12 + 16 * i + 4 + 4 ≤ 9223372036854775807 by omega)]
    refine Ev.bind h3 ?_
    simp only [ByteArray.size_append, s1, hx4, p4, if_pos (show 12 + 16 * i + 4 + 4 + 4 ≤ 9223372036854775807 by omega)]
    refine Ev.bind h4 ?_
    simp only [ByteArray.size_append, s1, hx4, p4, if_pos (show 12 + 16 * i + 4 + 4 + 4 + 4 ≤ 9223372036854775807 by omega)]
    refine Ev.bind h5 ?_
    simp only [if_pos (show (⟨(restTo l i).toArray⟩ : ByteArray).size + (padT (rd_T33 l (i : Int)).f1).size ≤ 9223372036854775807 by omega)]
    exact hih
/-- The head is written. -/
theorem put_j3 (v : Int) (l : List S33) (hf : fewT l) (hv : verB v = true) (hr : rightT l = true) (a b c : Int) (hs : searchS l.length = [16 * a, b, c]) (ha : 0 ≤ a ∧ 16 * a ≤ 1024) (hb : 0 ≤ b ∧ b ≤ 1024) (hc : c = 16 * (l.length : Int) - 16 * a) (hc0 : 0 ≤ c) :
    Ev (fun k => vinculumref04_Put.j3 k v l a b) (recsTo v l l.length ++ ⟨(restTo l l.length).toArray⟩, 0) := by
  obtain ⟨hn, ht⟩ := right_facts l hr
  have hv2 : 0 ≤ v ∧ v < 4294967296 := by
    have : v = 65536 ∨ v = 1330926671 := by unfold verB at hv; simpa using hv
    omega
  have w1 : wrap64 (16 * a) = 16 * a := wrap64_small (by omega) (by omega)
  have w2 : wrap64 (16 * (l.length : Int)) = 16 * (l.length : Int) := wrap64_small (by omega) (by omega)
  have w3 : wrap64 (16 * (l.length : Int) - 16 * a) = c := by rw [wrap64_small (by omega) (by omega)]; exact hc.symm
  have w4 : wrap64 (12 + 16 * (l.length : Int)) = ((sizeTo l 0 : Nat) : Int) := by rw [wrap64_small (by omega) (by omega)]; show _ = ((12 + 16 * l.length : Nat) : Int); omega
  have h1 := rb4 v hv2.1 hv2.2
  have h2 := rb2 (l.length : Int) (by omega) (by omega)
  have h3 := rb2 (16 * a) (by omega) (by omega)
  have h4 := rb2 b (by omega) (by omega)
  have h5 := rb2 c hc0 (by omega)
  have p4 : ∀ x : Int, (⟨(putB x 4).toArray⟩ : ByteArray).size = 4 := fun x => by rw [mk_size, putB_length]
  have p2 : ∀ x : Int, (⟨(putB x 2).toArray⟩ : ByteArray).size = 2 := fun x => by rw [mk_size, putB_length]
  have hl2 := put_l2 v l hf hr l.length 0 (by omega) (by omega)
  have e1 : recsTo v l 0 = ((((⟨(putB v 4).toArray⟩ : ByteArray) ++ ⟨(putB (l.length : Int) 2).toArray⟩) ++ ⟨(putB (16 * a) 2).toArray⟩) ++ ⟨(putB b 2).toArray⟩) ++ ⟨(putB c 2).toArray⟩ := by
    rw [recsTo, headN, hs]
    apply bytesl_ext
    simp only [bytesl_app, bytesl_mk, List.append_assoc]
    simp [putAll]
  rw [e1] at hl2
  refine Ev.step (f := fun k => (vinculumref03_Bytes.f k v 4).bind fun t131 => ((vinculumref03_Bytes.f k (l.length : Int) 2).bind fun t132 => (if t131.size + t132.size ≤ 9223372036854775807 then ((vinculumref03_Bytes.f k (16 * a) 2).bind fun t133 => (if (t131 ++ t132).size + t133.size ≤ 9223372036854775807 then ((vinculumref03_Bytes.f k b 2).bind fun t134 => (if ((t131 ++ t132) ++ t133).size + t134.size ≤ 9223372036854775807 then ((vinculumref03_Bytes.f k c 2).bind fun t135 => (if (((t131 ++ t132) ++ t133) ++ t134).size + t135.size ≤ 9223372036854775807 then (vinculumref04_Put.l2 k l ((((t131 ++ t132) ++ t133) ++ t134) ++ t135) ((sizeTo l 0 : Nat) : Int) (⟨#[]⟩ : ByteArray) 0) else none)) else none)) else none)) else none)))
    (fun k => by rw [vinculumref04_Put.j3, w1, w2, w3, w4]) ?_
  refine Ev.bind h1 (Ev.bind h2 ?_)
  simp only [ByteArray.size_append, p4, p2, if_pos (show 4 + 2 ≤ 9223372036854775807 by decide)]
  refine Ev.bind h3 ?_
  simp only [ByteArray.size_append, p4, p2, if_pos (show 4 + 2 + 2 ≤ 9223372036854775807 by decide)]
  refine Ev.bind h4 ?_
  simp only [ByteArray.size_append, p4, p2, if_pos (show 4 + 2 + 2 + 2 ≤ 9223372036854775807 by decide)]
  refine Ev.bind h5 ?_
  simp only [ByteArray.size_append, p4, p2, if_pos (show 4 + 2 + 2 + 2 + 2 ≤ 9223372036854775807 by decide)]
  exact hl2
theorem put_l1 (v : Int) (l : List S33) (hf : fewT l) (hv : verB v = true) (hr : rightT l = true) : Ev (fun k => vinculumref04_Put.l1 k v l 1 0) (recsTo v l l.length ++ ⟨(restTo l l.length).toArray⟩, 0) := by
  obtain ⟨hn, ht⟩ := right_facts l hr
  by_cases h0 : l.length = 0
  · have hj := put_j3 v l hf hv hr 0 0 0 (by unfold searchS; rw [if_pos h0]; rfl) (by decide) (by decide) (by omega) (by decide)
    refine Ev.step (f := fun k => vinculumref04_Put.j3 k v l 0 0) (fun k => by rw [vinculumref04_Put.l1, show wrap64 (2 * 1) = 2 by decide +kernel, if_neg (by omega), if_pos (by omega)]) hj
  · obtain ⟨L, hL⟩ : ∃ L, Lib.bitLen l.length - 1 = L := ⟨_, rfl⟩
    have hb1 := (bitLen_64 ⟨l.length, by omega⟩).resolve_left h0
    have hb2 := (bitLen_up ⟨l.length, by omega⟩).resolve_left h0
    simp only at hb1 hb2
    rw [hL] at hb1
    have hb3 : l.length < 2 * 2 ^ L := by rw [show Lib.bitLen l.length = L + 1 by omega, Nat.pow_succ] at hb2; omega
    have hs : searchS l.length = [16 * ((2 ^ L : Nat) : Int), (L : Int), 16 * (l.length : Int) - 16 * ((2 ^ L : Nat) : Int)] := by
      unfold searchS
      rw [if_neg h0, hL]
      simp
    have hpow : ∀ h, h ≤ L → 2 ^ h ≤ 2 ^ L := fun h hh => Nat.pow_le_pow_right (by decide) hh
    have key : ∀ (d h : Nat), h ≤ L → L - h = d → Ev (fun k => vinculumref04_Put.l1 k v l ((2 ^ h : Nat) : Int) (h : Int)) (recsTo v l l.length ++ ⟨(restTo l l.length).toArray⟩, 0) := by
      intro d
      induction d with
      | zero =>
        intro h hh hd
        obtain rfl : h = L := by omega
        have hj := put_j3 v l hf hv hr ((2 ^ h : Nat) : Int) (h : Int) (16 * (l.length : Int) - 16 * ((2 ^ h : Nat) : Int)) hs (by omega) (by omega) rfl (by omega)
        exact Ev.step (f := fun k => vinculumref04_Put.j3 k v l ((2 ^ h : Nat) : Int) (h : Int)) (fun k => by rw [vinculumref04_Put.l1, wrap64_small (by omega) (by omega), if_neg (by omega), if_neg (by omega)]) hj
      | succ d ih =>
        intro h hh hd
        have p1 := hpow (h + 1) (by omega)
        have e1 : wrap64 (2 * ((2 ^ h : Nat) : Int)) = ((2 ^ (h + 1) : Nat) : Int) := by
          rw [Nat.pow_succ] at p1 ⊢
          rw [wrap64_small (by omega) (by omega)]
          omega
        exact Ev.step (f := fun k => vinculumref04_Put.l1 k v l ((2 ^ (h + 1) : Nat) : Int) ((h + 1 : Nat) : Int)) (fun k => by rw [vinculumref04_Put.l1, e1, if_pos (by omega), wrap_succ h (by omega)]) (ih (h + 1) (by omega) (by omega))
    have := key L 0 (by omega) (by omega)
    exact this
theorem step_wrap (S z : Nat) (hS : S ≤ 200000) (hz : z ≤ 2000) : wrap64 ((S : Int) + (wrap64 ((wrap64 (Int.tdiv (wrap64 ((z : Int) + 3)) 4)) * 4))) = ((S + (z + 3) / 4 * 4 : Nat) : Int) := by
  have a1 : wrap64 ((z : Int) + 3) = (z : Int) + 3 := wrap64_small (by omega) (by omega)
  have a2 : Int.tdiv ((z : Int) + 3) 4 = ((z : Int) + 3) / 4 := Int.tdiv_eq_ediv_of_nonneg (by omega)
  rw [a1, a2]
  obtain ⟨q, hq⟩ : ∃ q : Nat, (z + 3) / 4 = q := ⟨_, rfl⟩
  have a3 : ((z : Int) + 3) / 4 = (q : Int) := by omega
  have hq2 : q ≤ 1000 := by omega
  rw [hq, a3]
  clear a1 a2 a3 hq hz
  rw [wrap64_small (x := (q : Int)) (by omega) (by omega), wrap64_small (x := (q : Int) * 4) (by omega) (by omega), wrap64_small (by omega) (by omega)]
  omega
theorem put_l0 (v : Int) (l : List S33) (hf : fewT l) (hv : verB v = true) (hr : rightT l = true) (d : Nat) : ∀ i, i ≤ l.length → l.length - i = d →
    Ev (fun k => vinculumref04_Put.l0 k v l (sizeTo l i : Int) (i : Int)) (recsTo v l l.length ++ ⟨(restTo l l.length).toArray⟩, 0) := by
  have hz := sizeTo_bound l 2000 (fun x hx => (hf.2 x hx).1)
  have hn := hf.1
  have hz2 : ∀ k, k ≤ l.length → sizeTo l k ≤ 200000 := fun k hk => by
    have := hz k hk
    have h2 : k * (2000 + 3) ≤ 70 * 2003 := Nat.mul_le_mul_right _ (by omega)
    omega
  induction d with
  | zero =>
    intro i hi hd
    exact Ev.step (f := fun k => vinculumref04_Put.l1 k v l 1 0) (fun k => by rw [vinculumref04_Put.l0, if_neg (by omega)]) (put_l1 v l hf hv hr)
  | succ d ih =>
    intro i hi hd
    have hx := hf.2 _ (rd_mem l i (by omega))
    have h1 := hz2 i hi
    have h2 := hz2 (i + 1) (by omega)
    have e1 : wrap64 ((sizeTo l i : Int) + (wrap64 ((wrap64 (Int.tdiv (wrap64 ((((rd_T33 l (i : Int)).f1).size : Int) + 3)) 4)) * 4))) = ((sizeTo l (i + 1) : Nat) : Int) := by
      have hs : sizeTo l (i + 1) = sizeTo l i + (((rd_T33 l (i : Int)).f1).size + 3) / 4 * 4 := by rw [rd_at]; rfl
      rw [hs]
      exact step_wrap _ _ h1 hx.1
    exact Ev.step (f := fun k => vinculumref04_Put.l0 k v l ((sizeTo l (i + 1) : Nat) : Int) ((i + 1 : Nat) : Int)) (fun k => by rw [vinculumref04_Put.l0, if_pos (by omega), if_pos (by omega), e1, if_neg (by omega), wrap_succ i (by omega)]) (ih (i + 1) (by omega) (by omega))
theorem ref_put04 (v : Int) (l : List S33) (hf : fewT l) : Ev (fun k => vinculumref04_Put.f k v l) (putS v l) := by
  have hver : vinculumref04_Version.f v = some (verB v) := by
    unfold vinculumref04_Version.f verB
    by_cases h : v = 65536
    · rw [if_pos h, decide_eq_true h]; rfl
    · rw [if_neg h, decide_eq_false h, Bool.false_or]; rfl
  have hn := hf.1
  have hri : vinculumref04_Right.f l = some (rightT l) := by
    unfold vinculumref04_Right.f
    rw [if_pos ⟨by omega, fun x hx => by have := (hf.2 x hx).2; omega⟩]
  have bad : verB v = false ∨ rightT l = false → Ev (fun k => vinculumref04_Put.j0 k v l true) (putS v l) := fun h => by
    have : putS v l = (⟨#[]⟩, 1) := by unfold putS; rw [if_pos h]
    rw [this]
    exact Ev.step (f := fun k => some ((⟨#[]⟩ : ByteArray), (1 : Int))) (fun k => by rw [vinculumref04_Put.j0, if_pos rfl]) (Ev.now _)
  unfold vinculumref04_Put.f
  rw [hver]
  simp only [Option.bind_some]
  cases hv : verB v with
  | false =>
    simp only [Bool.false_eq_true, if_false]
    exact bad (.inl hv)
  | true =>
    simp only [if_true, hri, Option.bind_some]
    cases hr : rightT l with
    | false => exact bad (.inr hr)
    | true =>
      have hz := sizeTo_bound l 2000 (fun x hx => (hf.2 x hx).1) l.length (Nat.le_refl _)
      have hz2 : l.length * (2000 + 3) ≤ 70 * 2003 := Nat.mul_le_mul_right _ hn
      have hp : putS v l = (recsTo v l l.length ++ ⟨(restTo l l.length).toArray⟩, 0) := by
        unfold putS
        rw [if_neg (by rw [hv, hr]; simp), if_neg (by omega)]
      rw [hp]
      have w1 : wrap64 (16 * (l.length : Int)) = 16 * (l.length : Int) := wrap64_small (by omega) (by omega)
      have w2 : wrap64 (12 + 16 * (l.length : Int)) = ((sizeTo l 0 : Nat) : Int) := by rw [wrap64_small (by omega) (by omega)]; show _ = ((12 + 16 * l.length : Nat) : Int); omega
      exact Ev.step (f := fun k => vinculumref04_Put.l0 k v l ((sizeTo l 0 : Nat) : Int) ((0 : Nat) : Int)) (fun k => by rw [vinculumref04_Put.j0, if_neg (by decide), w1, w2]; rfl) (put_l0 v l hf hv hr l.length 0 (by omega) (by omega))
/-! ### the law -/
theorem SfntDoes_pure (a0 : ByteArray) (a1 : Int) (l : List S33) (a3 : ByteArray) (h0 : a0.size ≤ 140737488351232) : ∃ k, vinculumlaw04_SfntDoes.f k a0 a1 l a3 = some true := by
  refine Ev.rounds (g := fun k => vinculumlaw04_SfntDoes.f k a0 a1 l a3) ?_
  obtain ⟨fb, hfew, hfT⟩ := few_ev l
  have stop : Ev (fun k => vinculumlaw04_SfntDoes.j0 k a0 a1 l a3 true) true := Ev.step (f := fun k => some true) (fun k => by rw [vinculumlaw04_SfntDoes.j0, if_pos rfl]) (Ev.now _)
  have main : Ev (fun k => (vinculumref04_Few.f k l).bind fun t231 => (if t231 = true then (vinculumlaw04_SfntDoes.j0 k a0 a1 l a3 (decide ((a3.size : Int) > 20))) else (vinculumlaw04_SfntDoes.j0 k a0 a1 l a3 true))) true := by
    refine Ev.bind hfew ?_
    cases fb with
    | false => simp only [Bool.false_eq_true, if_false]; exact stop
    | true =>
      simp only [if_true]
      have hf := hfT rfl
      have hn := hf.1
      by_cases h20 : (a3.size : Int) > 20
      · rw [decide_eq_true h20]; exact stop
      · rw [decide_eq_false h20]
        have hg : sfnt_Get.f a0 = some (getS a0) := by unfold sfnt_Get.f; rw [if_pos h0]
        have hg2 : vinculumref04_Get.f a0 = some (getS a0) := by unfold vinculumref04_Get.f; rw [if_pos h0]
        have hp := few_put a1 hf
        have hfi : sfnt_Find.f l a3 = some (findT l a3) := by unfold sfnt_Find.f; rw [if_pos (by omega)]
        have hlen : (getS a0).2.1.length < 4611686018427387904 := by
          by_cases he : (getS a0).2.2 = 0
          · exact got_short (s := a0) (v := (getS a0).1) (l := (getS a0).2.1) (by rw [← he])
          · obtain ⟨_, h2⟩ := got_none (s := a0) (v := (getS a0).1) (l := (getS a0).2.1) (e := (getS a0).2.2) rfl he
            rw [h2]; decide
        refine Ev.step (f := fun k => (vinculumref04_Put.f k a1 l).bind fun bt247 => (vinculumref04_Find.f k l a3).bind fun bt251 => vinculumlaw04_SfntDoes.l0 k l l (getS a0).1 (getS a0).2.1 (getS a0).2.2 (getS a0).1 (getS a0).2.1 (getS a0).2.2 (putS a1 l).1 (putS a1 l).2 bt247.1 bt247.2 (findT l a3).1 (findT l a3).2 bt251.1 bt251.2 ((0 : Nat) : Int))
          (fun k => by rw [vinculumlaw04_SfntDoes.j0, if_neg (by decide), if_pos (by simp; omega)]; simp only [Option.bind_some, List.nil_append, hg, hg2, hp, hfi]; rfl) ?_
        refine Ev.bind (ref_put04 a1 l hf) (Ev.bind (ref_find04 l a3 (by omega)) ?_)
        have key : ∀ (d i : Nat), i ≤ l.length → l.length - i = d → Ev (fun k => vinculumlaw04_SfntDoes.l0 k l l (getS a0).1 (getS a0).2.1 (getS a0).2.2 (getS a0).1 (getS a0).2.1 (getS a0).2.2 (putS a1 l).1 (putS a1 l).2 (putS a1 l).1 (putS a1 l).2 (findT l a3).1 (findT l a3).2 (findT l a3).1 (findT l a3).2 (i : Int)) true := by
          intro d
          induction d with
          | zero =>
            intro i hi hd
            refine Ev.step (f := fun k => (vinculumlaw04_filed.f k).bind fun t253 => (if t253 = true then ((vinculumref04_Same.f k (getS a0).2.1 (getS a0).2.1).bind fun t254 => (if t254 = true then ((vinculumref04_Same.f k l l).bind fun t255 => (some t255)) else (some false))) else (some false))) (fun k => ?_) ?_
            · rw [vinculumlaw04_SfntDoes.l0, if_neg (by omega)]
              simp only [if_true, beq_self_eq_true]
            · refine Ev.bind filed_ev ?_
              simp only [if_true]
              refine Ev.bind (same_refl _ hlen) ?_
              simp only [if_true]
              exact Ev.bind (same_refl l (by omega)) (Ev.now _)
          | succ d ih =>
            intro i hi hd
            have hx := hf.2 _ (rd_mem l i (by omega))
            have hsum : sfnt_Sum.f (rd_T33 l (i : Int)).f0 (rd_T33 l (i : Int)).f1 = some (tabSum (rd_T33 l (i : Int)).f0 (rd_T33 l (i : Int)).f1) := by unfold sfnt_Sum.f; rw [if_pos (by omega)]
            refine Ev.step (f := fun k => (vinculumref04_Sum.f k (rd_T33 l (i : Int)).f0 (rd_T33 l (i : Int)).f1).bind fun t259 => (if tabSum (rd_T33 l (i : Int)).f0 (rd_T33 l (i : Int)).f1 = t259 then vinculumlaw04_SfntDoes.l0 k l l (getS a0).1 (getS a0).2.1 (getS a0).2.2 (getS a0).1 (getS a0).2.1 (getS a0).2.2 (putS a1 l).1 (putS a1 l).2 (putS a1 l).1 (putS a1 l).2 (findT l a3).1 (findT l a3).2 (findT l a3).1 (findT l a3).2 ((i + 1 : Nat) : Int) else some false)) (fun k => ?_) ?_
            · rw [vinculumlaw04_SfntDoes.l0, if_pos (by omega), if_pos (by omega), if_pos (by omega), hsum, Option.bind_some, wrap_succ i (by omega)]
            · refine Ev.bind (ref_sum04 _ _ (by omega)) ?_
              simp only [if_true]
              exact ih (i + 1) (by omega) (by omega)
        exact key l.length 0 (by omega) (by omega)
  unfold vinculumlaw04_SfntDoes.f
  by_cases h1 : (a0.size : Int) > 4000
  · simp only [if_pos h1]
    by_cases h2 : (a0.size : Int) ≤ 16777216
    · simp only [if_pos h2]; exact stop
    · simp only [if_neg h2]; exact main
  · simp only [if_neg h1]; exact main
theorem sfntDoes_law (a0 : ByteArray) (a1 : Int) (A2 : Option Addr) (c2 : Nat) (l2 : List S33) (a3 : ByteArray) (w : World) (hr2 : Kd.C k33 w A2 l2.length l2) (hc2 : l2.length ≤ c2) (h0 : a0.size ≤ 140737488351232) :
    Calls Try.prog 3 #[.string a0, .int .i64 a1, .slice A2 l2.length c2, .string a3] w fun e w' => e = .returned (.bool true) ∧ Below w.heap.size w w' := by
  obtain ⟨k, hk⟩ := SfntDoes_pure a0 a1 l2 a3 h0
  exact vinculumlaw04_SfntDoes.calls k a0 a1 A2 c2 l2 a3 true w hr2 hc2 hk
end Go.Proofs.Ytgchajlfopmcjaa.P
