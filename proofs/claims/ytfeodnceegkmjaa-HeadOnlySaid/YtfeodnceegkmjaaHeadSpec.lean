/- Layer 5: what is put is got. -/
import Derived.Test.YtfeodnceegkmjaaHeadGet
namespace Go.Proofs.Ytfeodnceegkmjaa.P
open Go.RowKit Go.Proofs.YtfeodnceegkmjaaW.PrintWords Go.Proofs.YtfeodnceegkmjaaW.PrintLast Go.Proofs.YtfeodnceegkmjaaW.PrintMore Go.Proofs.Ytfeodnceegkmjaa.BN
set_option linter.unusedVariables false
set_option linter.unusedSimpArgs false
theorem hdA_len (a0 : Int) (a5 : Bool) : (hdA a0 a5).length = 54 := by simp [hdA, fld_len]
theorem hdB_len (a1 : Int) : (hdB a1).length = 6 := by simp [hdB, fld_len]
theorem hdC_len (a2 a3 a4 : Int) : (hdC a2 a3 a4).length = 36 := by simp [hdC, fld_len]
theorem drop_at (A B : List UInt8) (n : Nat) (h : A.length = n) : (A ++ B).drop n = B := by subst h; simp
theorem ff_fld (s : ByteArray) (A rest : List UInt8) (n at_ m : Nat) (v z : Int) (beh : Nat) (hs : bytesl s = A ++ (fldL v z beh ++ rest)) (hA : A.length = at_) (hm : z.natAbs = m) (hz : sizeB z = true) (hf : fitsB v z = true) : ff s at_ m z = v := by
  unfold ff
  rw [hs, drop_at A _ at_ hA, fldL, List.append_assoc, hm]
  exact tvl_putB v z m _ hz hm hf
theorem bytesl_mk (l : List UInt8) : bytesl ⟨l.toArray⟩ = l := rfl
theorem bytesl_append (s t : ByteArray) : bytesl (s ++ t) = bytesl s ++ bytesl t := by unfold bytesl; rw [ByteArray.data_append, Array.toList_append]
theorem size_eq (s : ByteArray) : s.size = (bytesl s).length := (bytesl_length s).symm
/-- What a right head's three tables, with whatever behind them, tell. -/
theorem get_put (a0 a1 a2 a3 a4 : Int) (a5 : Bool) (h : headB a0 a1 a2 a3 a4 = true) (a b c : ByteArray) (x y z : List UInt8) (ha : bytesl a = hdA a0 a5 ++ x) (hb : bytesl b = hdB a1 ++ y) (hc : bytesl c = hdC a2 a3 a4 ++ z) :
    getS a b c = (a0, a1, a2, a3, a4, a5, 0) := by
  have hh := h
  unfold headB at hh
  simp only [Bool.and_eq_true, decide_eq_true_eq] at hh
  obtain ⟨⟨⟨h0, h1⟩, h2⟩, h3, h4⟩ := hh
  have sa : 54 ≤ a.size := by rw [size_eq, ha, List.length_append, hdA_len]; omega
  have sb : 6 ≤ b.size := by rw [size_eq, hb, List.length_append, hdB_len]; omega
  have sc : 36 ≤ c.size := by rw [size_eq, hc, List.length_append, hdC_len]; omega
  have z4 : sizeB 4 = true := by decide
  have z2 : sizeB 2 = true := by decide
  have zm : sizeB (-2) = true := by decide
  have hlo : fitsB (if a5 then 1 else 0) (-2) = true := by cases a5 <;> decide
  have e1 : ff a 12 4 4 = 1594834165 := ff_fld a (fldL 0 4 8) (fldL a0 2 30 ++ (fldL (if a5 then 1 else 0) (-2) 2 ++ x)) 0 12 4 1594834165 4 2 (by rw [ha, hdA]; simp [List.append_assoc]) (by rw [fld_len]; rfl) rfl z4 (by decide)
  have e2 : ff a 18 2 2 = a0 := ff_fld a (fldL 0 4 8 ++ fldL 1594834165 4 2) (fldL (if a5 then 1 else 0) (-2) 2 ++ x) 0 18 2 a0 2 30 (by rw [ha, hdA]; simp [List.append_assoc]) (by rw [List.length_append, fld_len, fld_len]; rfl) rfl z2 (fits_u2 (by omega))
  have e3 : ff a 50 2 (-2) = (if a5 then 1 else 0) := ff_fld a (fldL 0 4 8 ++ fldL 1594834165 4 2 ++ fldL a0 2 30) x 0 50 2 (if a5 then 1 else 0) (-2) 2 (by rw [ha, hdA]; simp [List.append_assoc]) (by rw [List.length_append, List.length_append, fld_len, fld_len, fld_len]; rfl) rfl zm hlo
  have e4 : ff b 4 2 2 = a1 := ff_fld b (fldL 0 4 0) y 0 4 2 a1 2 0 (by rw [hb, hdB]; simp [List.append_assoc]) (by rw [fld_len]; rfl) rfl z2 (fits_u2 (by omega))
  have e5 : ff c 4 2 (-2) = a3 := ff_fld c (fldL 0 4 0) (fldL a4 (-2) 26 ++ (fldL a2 2 0 ++ z)) 0 4 2 a3 (-2) 0 (by rw [hc, hdC]; simp [List.append_assoc]) (by rw [fld_len]; rfl) rfl zm (fits_s2 h3)
  have e6 : ff c 6 2 (-2) = a4 := ff_fld c (fldL 0 4 0 ++ fldL a3 (-2) 0) (fldL a2 2 0 ++ z) 0 6 2 a4 (-2) 26 (by rw [hc, hdC]; simp [List.append_assoc]) (by rw [List.length_append, fld_len, fld_len]; rfl) rfl zm (fits_s2 h4)
  have e7 : ff c 34 2 2 = a2 := ff_fld c (fldL 0 4 0 ++ fldL a3 (-2) 0 ++ fldL a4 (-2) 26) z 0 34 2 a2 2 0 (by rw [hc, hdC]; simp [List.append_assoc]) (by rw [List.length_append, List.length_append, fld_len, fld_len, fld_len]; rfl) rfl z2 (fits_u2 (by omega))
  unfold getS
  rw [e1, e2, e3, e4, e5, e6, e7, if_neg (by omega), if_neg (by cases a5 <;> decide), if_pos h]
  cases a5 <;> rfl
end Go.Proofs.Ytfeodnceegkmjaa.P
