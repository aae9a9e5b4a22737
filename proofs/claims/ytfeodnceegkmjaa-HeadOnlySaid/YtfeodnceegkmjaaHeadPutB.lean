/- head.Put, walked. -/
import Derived.Test.YtfeodnceegkmjaaHeadPut
namespace Go.Proofs.Ytfeodnceegkmjaa.P
open Go.Shelf Go.RowKit Go.Proofs.YtfeodnceegkmjaaW.PrintWords Go.Proofs.YtfeodnceegkmjaaW.PrintLast Go.Proofs.YtfeodnceegkmjaaW.PrintMore
set_option linter.unusedVariables false
set_option linter.unusedSimpArgs false
attribute [local go_sem] max2_int min2_int max_two min_two max_three min_three max_four min_four
def hdA (a0 : Int) (a5 : Bool) : List UInt8 := ((([] ++ fldL 0 4 8) ++ fldL 1594834165 4 2) ++ fldL a0 2 30) ++ fldL (if a5 then 1 else 0) (-2) 2
def hdB (a1 : Int) : List UInt8 := ([] ++ fldL 0 4 0) ++ fldL a1 2 0
def hdC (a2 a3 a4 : Int) : List UInt8 := ((([] ++ fldL 0 4 0) ++ fldL a3 (-2) 0) ++ fldL a4 (-2) 26) ++ fldL a2 2 0
def headB (a0 a1 a2 a3 a4 : Int) : Bool := decide (16 ≤ a0 ∧ a0 ≤ 16384) && decide (1 ≤ a1 ∧ a1 ≤ 65535) && decide (1 ≤ a2 ∧ a2 ≤ a1) && decide ((-32768 ≤ a3 ∧ a3 < 32768) ∧ (-32768 ≤ a4 ∧ a4 < 32768))
theorem head_is_f (a0 a1 a2 a3 a4 : Int) (a5 : Bool) : head_Is.f a0 a1 a2 a3 a4 a5 = some (headB a0 a1 a2 a3 a4) := rfl
theorem fits_u2 {x : Int} (h : 0 ≤ x ∧ x < 65536) : fitsB x 2 = true := by
  unfold fitsB; rw [if_neg (by decide)]; simp; omega
theorem fits_s2 {x : Int} (h : -32768 ≤ x ∧ x < 32768) : fitsB x (-2) = true := by
  unfold fitsB; rw [if_pos (by decide)]; simp; omega
theorem fld_len (n s : Int) (b : Nat) : (fldL n s b).length = s.natAbs + b := by simp [fldL, putB_length]
theorem put_bad (a0 a1 a2 a3 a4 : Int) (a5 : Bool) (w : World) (h : headB a0 a1 a2 a3 a4 = false) :
    Calls Try.prog 9 #[.agg #[.int .i64 a0, .int .i64 a1, .int .i64 a2, .int .i64 a3, .int .i64 a4, .bool a5]] w fun e w' => e = .returned (.tuple #[.string ⟨#[]⟩, .string ⟨#[]⟩, .string ⟨#[]⟩, .int .i64 1]) ∧ Below w.heap.size w w' := by
  have hi := fun w => head_Is.calls a0 a1 a2 a3 a4 a5 false w (by rw [head_is_f, h])
  have HI := Lib.hid hi
  clear hi h
  go_enter Try.func9, Try.ntmps9
  go_wp2_with (go_at_call 14; refine (HI.out _).mono ?_; rintro e w1 ⟨rfl, hb⟩)
  refine bodyPost_ret (v := .tuple #[.string ⟨#[]⟩, .string ⟨#[]⟩, .string ⟨#[]⟩, .int .i64 1]) (by simp [results, Try.results9, go_sem]) rfl ⟨rfl, ((Below.refl w.heap.size w).alloc (Nat.le_refl _) _).trans (hb.mono (by simp))⟩
set_option maxHeartbeats 8000000 in
set_option maxRecDepth 100000 in
theorem put_good (a0 a1 a2 a3 a4 : Int) (a5 : Bool) (w : World) (h : headB a0 a1 a2 a3 a4 = true) :
    Calls Try.prog 9 #[.agg #[.int .i64 a0, .int .i64 a1, .int .i64 a2, .int .i64 a3, .int .i64 a4, .bool a5]] w fun e w' => e = .returned (.tuple #[.string ⟨(hdA a0 a5).toArray⟩, .string ⟨(hdB a1).toArray⟩, .string ⟨(hdC a2 a3 a4).toArray⟩, .int .i64 0]) ∧ Below w.heap.size w w' := by
  have hmf : ∀ (fn : Fn) (first cap : Array Value) (w : World), (Instr.makeFunc fn first cap).run Try.prog w = .ok (.func fn first cap) w := fun _ _ _ _ => rfl
  have hi := fun w => head_Is.calls a0 a1 a2 a3 a4 a5 true w (by rw [head_is_f, h])
  have HI := Lib.hid hi
  have hh := h
  unfold headB at hh
  simp only [Bool.and_eq_true, decide_eq_true_eq] at hh
  obtain ⟨⟨⟨h0, h1⟩, h2⟩, h3, h4⟩ := hh
  obtain ⟨lo, hlo⟩ : ∃ lo : Int, lo = if a5 then 1 else 0 := ⟨_, rfl⟩
  have hlb : 0 ≤ lo ∧ lo ≤ 1 := by subst hlo; cases a5 <;> decide
  have f1 : fitsB 0 4 = true := by decide
  have f2 : fitsB 1594834165 4 = true := by decide
  have f3 : fitsB a0 2 = true := fits_u2 (by omega)
  have f4 : fitsB lo (-2) = true := fits_s2 (by omega)
  have f5 : fitsB a1 2 = true := fits_u2 (by omega)
  have f6 : fitsB a3 (-2) = true := fits_s2 h3
  have f7 : fitsB a4 (-2) = true := fits_s2 h4
  have f8 : fitsB a2 2 = true := fits_u2 (by omega)
  have z4 : sizeB 4 = true := by decide
  have z2 : sizeB 2 = true := by decide
  have zm : sizeB (-2) = true := by decide
  have F := Lib.hid (show _ ∧ _ ∧ _ ∧ _ ∧ _ ∧ _ ∧ _ ∧ _ from ⟨f1, f2, f3, f4, f5, f6, f7, f8⟩)
  have Z := Lib.hid (show _ ∧ _ ∧ _ from ⟨z4, z2, zm⟩)
  have eA : hdA a0 a5 = ((([] ++ fldL 0 4 8) ++ fldL 1594834165 4 2) ++ fldL a0 2 30) ++ fldL lo (-2) 2 := by rw [hlo]; rfl
  generalize hA : hdA a0 a5 = LA at eA
  have EA := Lib.hid eA
  have eB : hdB a1 = ([] ++ fldL 0 4 0) ++ fldL a1 2 0 := rfl
  generalize hdB a1 = LB at eB
  have EB := Lib.hid eB
  have eC : hdC a2 a3 a4 = ((([] ++ fldL 0 4 0) ++ fldL a3 (-2) 0) ++ fldL a4 (-2) 26) ++ fldL a2 2 0 := rfl
  generalize hdC a2 a3 a4 = LC at eC
  have EC := Lib.hid eC
  have HLO := Lib.hid hlo
  clear hi h f1 f2 f3 f4 f5 f6 f7 f8 z4 z2 zm h0 h1 h2 h3 h4 hlb hlo eA eB eC hA
  have key : ∀ b : Bool, a5 = b → Calls Try.prog 9 #[.agg #[.int .i64 a0, .int .i64 a1, .int .i64 a2, .int .i64 a3, .int .i64 a4, .bool a5]] w fun e w' => e = .returned (.tuple #[.string ⟨LA.toArray⟩, .string ⟨LB.toArray⟩, .string ⟨LC.toArray⟩, .int .i64 0]) ∧ Below w.heap.size w w' := by
    intro b hb
    have HLO' : lo = if b then 1 else 0 := by rw [← hb]; exact HLO.out
    subst hb
    cases a5
    all_goals
      simp only [Bool.false_eq_true, if_false, if_true] at HLO'
      subst HLO'
      clear HLO
      go_enter Try.func9, Try.ntmps9
      go_wp2_with (go_at_call 14; refine (HI.out _).mono ?_; rintro e w1 ⟨rfl, hb⟩; have hblk := (hb.block w.heap.size (by simp)).trans (heap_alloc_new w _); have HBK := Lib.hid hblk; have HB1 := Lib.hid (((Below.refl w.heap.size w).alloc (Nat.le_refl _) _).trans (hb.mono (by simp))); have q0 := Joins.cell_of_block hblk 0; have q5 := Joins.cell_of_block hblk 5; simp at q0 q5; clear hblk hb)
      have hs0 : w.heap.size < w1.heap.size := nocell_lt HBK.out
      generalize hW0 : ((w1.alloc (.cells #[.pointer none, .slice none 0 0, .int .i64 0] 47)).alloc (.cells #[.pointer none, .slice none 0 0, .int .i64 0] 47)).alloc (.cells #[.pointer none, .slice none 0 0, .int .i64 0] 47) = W0
      have hWs : W0.heap.size = w1.heap.size + 3 := by rw [← hW0]; simp
      have hBW : Below w1.heap.size w1 W0 := by rw [← hW0]; exact (((Below.refl w1.heap.size w1).alloc (Nat.le_refl _) _).alloc (by simp) _).alloc (by simp; omega) _
      have b0 : W0.heap[w1.heap.size]? = some (.cells #[.pointer none, .slice none 0 0, .int .i64 0] 47 (0, 0)) := by
        rw [← hW0, heap_alloc_old _ _ (by simp; omega), heap_alloc_old _ _ (by simp)]; exact heap_alloc_new w1 _
      have b1 : W0.heap[w1.heap.size + 1]? = some (.cells #[.pointer none, .slice none 0 0, .int .i64 0] 47 (0, 0)) := by
        rw [← hW0, heap_alloc_old _ _ (by simp)]; exact heap_alloc2_new w1 _ _
      have b2 : W0.heap[w1.heap.size + 1 + 1]? = some (.cells #[.pointer none, .slice none 0 0, .int .i64 0] 47 (0, 0)) := by
        rw [← hW0]
        have := heap_alloc_new ((w1.alloc (.cells #[.pointer none, .slice none 0 0, .int .i64 0] 47)).alloc (.cells #[.pointer none, .slice none 0 0, .int .i64 0] 47)) (.cells #[.pointer none, .slice none 0 0, .int .i64 0] 47)
        simpa using this
      have bh := (hBW.block w.heap.size hs0).trans HBK.out
      clear hW0
      have hA0 : Wr (w1.heap.size + 3) w1.heap.size [] W0 := Wr.new (by omega) b0
      have HW := Lib.hid (show _ ∧ _ ∧ _ ∧ _ ∧ _ from ⟨hWs, hBW, b1, b2, bh⟩)
      clear hWs hBW b0 b1 b2 bh q0 q5
      generalize hS : w1.heap.size = s at *
      refine (wr_put (s + 3) s [] 0 4 8 _ hA0 (by have := HW.out.1; omega) (by simp [fld_len]) Z.out.1 F.out.1 (by omega)).mono ?_
      rintro e wa1 ⟨rfl, hw, hk⟩
      have HA1 := Lib.hid hw
      have KA1 := Lib.hid hk
      clear hw hk hA0
      go_wp2_with fail
      refine (wr_put (s + 3) s _ 1594834165 4 2 _ HA1.out (by have := HW.out.1; have := KA1.out.size; omega) (by simp [fld_len]) Z.out.1 F.out.2.1 (by omega)).mono ?_
      rintro e wa2 ⟨rfl, hw, hk⟩
      have HA2 := Lib.hid hw
      have KA2 := Lib.hid (KA1.out.trans hk)
      clear hw hk KA1 HA1
      have qa := Joins.cell_of_block ((KA2.out.block w.heap.size (by omega) (by omega)).trans HW.out.2.2.2.2) 0
      simp at qa
      go_wp2_with fail
      refine (wr_put (s + 3) s _ a0 2 30 _ HA2.out (by have := HW.out.1; have := KA2.out.size; omega) (by simp [fld_len]) Z.out.2.1 F.out.2.2.1 (by omega)).mono ?_
      rintro e wa3 ⟨rfl, hw, hk⟩
      have HA3 := Lib.hid hw
      have KA3 := Lib.hid (KA2.out.trans hk)
      clear hw hk KA2 HA2
      clear qa
      go_wp2_with fail
      refine (wr_put (s + 3) s _ _ (-2) 2 _ HA3.out (by have := HW.out.1; have := KA3.out.size; omega) (by simp [fld_len]) Z.out.2.2 F.out.2.2.2.1 (by omega)).mono ?_
      rintro e wA ⟨rfl, hw, hk⟩
      have HA4 := Lib.hid hw
      have KA4 := Lib.hid (KA3.out.trans hk)
      clear hw hk KA3 HA3
      have sA : s + 3 ≤ wA.heap.size := by have := HW.out.1; have := KA4.out.size; omega
      have hA4 := HA4.out
      rw [← EA.out] at hA4
      have HA := Lib.hid hA4
      clear hA4 HA4
      have HWA := Lib.hid (show _ ∧ _ ∧ _ from ⟨(KA4.out.block (s + 1) (by omega) (by omega)).trans HW.out.2.2.1, (KA4.out.block (s + 1 + 1) (by omega) (by omega)).trans HW.out.2.2.2.1, (KA4.out.block w.heap.size (by omega) (by omega)).trans HW.out.2.2.2.2⟩)
      have hB0 : Wr wA.heap.size (s + 1) [] wA := Wr.new (by omega) HWA.out.1
      go_wp2_with fail
      refine (wr_put wA.heap.size (s + 1) [] 0 4 0 _ hB0 (Nat.le_refl _) (by simp [fld_len]) Z.out.1 F.out.1 (by omega)).mono ?_
      rintro e wb1 ⟨rfl, hw, hk⟩
      have HY1 := Lib.hid hw
      have KB1 := Lib.hid hk
      clear hw hk hB0
      have qb := Joins.cell_of_block ((KB1.out.block w.heap.size (by omega) (by omega)).trans HWA.out.2.2) 1
      simp at qb
      go_wp2_with fail
      refine (wr_put wA.heap.size (s + 1) _ a1 2 0 _ HY1.out KB1.out.size (by simp [fld_len]) Z.out.2.1 F.out.2.2.2.2.1 (by omega)).mono ?_
      rintro e wB ⟨rfl, hw, hk⟩
      have HY2 := Lib.hid hw
      have KB2 := Lib.hid (KB1.out.trans hk)
      clear hw hk KB1 HY1
      clear qb
      have sB : wA.heap.size ≤ wB.heap.size := KB2.out.size
      have hB2 := HY2.out
      rw [← EB.out] at hB2
      have HBb := Lib.hid hB2
      clear hB2 HY2
      have HWB := Lib.hid (show _ ∧ _ from ⟨(KB2.out.block (s + 1 + 1) (by omega) (by omega)).trans HWA.out.2.1, (KB2.out.block w.heap.size (by omega) (by omega)).trans HWA.out.2.2⟩)
      have hC0 : Wr wB.heap.size (s + 1 + 1) [] wB := Wr.new (by omega) HWB.out.1
      go_wp2_with fail
      refine (wr_put wB.heap.size (s + 1 + 1) [] 0 4 0 _ hC0 (Nat.le_refl _) (by simp [fld_len]) Z.out.1 F.out.1 (by omega)).mono ?_
      rintro e wc1 ⟨rfl, hw, hk⟩
      have HC1 := Lib.hid hw
      have KC1 := Lib.hid hk
      clear hw hk hC0
      have qc := Joins.cell_of_block ((KC1.out.block w.heap.size (by omega) (by omega)).trans HWB.out.2) 3
      simp at qc
      go_wp2_with fail
      refine (wr_put wB.heap.size (s + 1 + 1) _ a3 (-2) 0 _ HC1.out KC1.out.size (by simp [fld_len]) Z.out.2.2 F.out.2.2.2.2.2.1 (by omega)).mono ?_
      rintro e wc2 ⟨rfl, hw, hk⟩
      have HC2 := Lib.hid hw
      have KC2 := Lib.hid (KC1.out.trans hk)
      clear hw hk KC1 HC1
      clear qc
      have qc := Joins.cell_of_block ((KC2.out.block w.heap.size (by omega) (by omega)).trans HWB.out.2) 4
      simp at qc
      go_wp2_with fail
      refine (wr_put wB.heap.size (s + 1 + 1) _ a4 (-2) 26 _ HC2.out KC2.out.size (by simp [fld_len]) Z.out.2.2 F.out.2.2.2.2.2.2.1 (by omega)).mono ?_
      rintro e wc3 ⟨rfl, hw, hk⟩
      have HC3 := Lib.hid hw
      have KC3 := Lib.hid (KC2.out.trans hk)
      clear hw hk KC2 HC2
      clear qc
      have qc := Joins.cell_of_block ((KC3.out.block w.heap.size (by omega) (by omega)).trans HWB.out.2) 2
      simp at qc
      go_wp2_with fail
      refine (wr_put wB.heap.size (s + 1 + 1) _ a2 2 0 _ HC3.out KC3.out.size (by simp [fld_len]) Z.out.2.1 F.out.2.2.2.2.2.2.2 (by omega)).mono ?_
      rintro e wC ⟨rfl, hw, hk⟩
      have HC4 := Lib.hid hw
      have KC4 := Lib.hid (KC3.out.trans hk)
      clear hw hk KC3 HC3
      clear qc
      have hC4 := HC4.out
      rw [← EC.out] at hC4
      have HCc := Lib.hid hC4
      clear hC4 HC4
      have hAB : Wr (s + 3) s LA wB := HA.out.move (KB2.out.block s (by omega) (by omega)) (fun g n c hc => KB2.out.block g (HA.out.at hc).2 (by have := (HA.out.at hc).1; omega))
      have hAC : Wr (s + 3) s LA wC := hAB.move (KC4.out.block s (by omega) (by omega)) (fun g n c hc => KC4.out.block g (hAB.at hc).2 (by have := (hAB.at hc).1; omega))
      have hBC : Wr wA.heap.size (s + 1) LB wC := HBb.out.move (KC4.out.block (s + 1) (by omega) (by omega)) (fun g n c hc => KC4.out.block g (HBb.out.at hc).2 (by have := (HBb.out.at hc).1; omega))
      have e0 := hAC.e0
      have e1 := hBC.e0
      have e2 := HCc.out.e0
      have hgA : ∀ g n c, wC.cell? ⟨s, 1, none⟩ = some (.slice (some ⟨g, 0, none⟩) n c) → s + 3 ≤ g ∧ g < wA.heap.size := fun g n c hc => by
        have h1 : wC.cell? ⟨s, 1, none⟩ = wA.cell? ⟨s, 1, none⟩ := by
          unfold World.cell?
          rw [KC4.out.block s (by omega) (by omega), KB2.out.block s (by omega) (by omega)]
        rw [h1] at hc
        exact HA.out.at hc
      have hgB : ∀ g n c, wC.cell? ⟨s + 1, 1, none⟩ = some (.slice (some ⟨g, 0, none⟩) n c) → wA.heap.size ≤ g ∧ g < wB.heap.size := fun g n c hc => by
        have h1 : wC.cell? ⟨s + 1, 1, none⟩ = wB.cell? ⟨s + 1, 1, none⟩ := by
          unfold World.cell?
          rw [KC4.out.block (s + 1) (by omega) (by omega)]
        rw [h1] at hc
        exact HBb.out.at hc
      have hBe : Below w.heap.size w wC := HB1.out.trans (((((HW.out.2.1.trans (KA4.out.below (C := s) (by omega) (Nat.le_refl _))).trans (KB2.out.below (C := s) (by omega) (by omega))).trans (KC4.out.below (C := s) (by omega) (by omega)))).mono (by omega))
      have HAC := Lib.hid hAC
      have HBC := Lib.hid hBC
      have HGA := Lib.hid hgA
      have HGB := Lib.hid hgB
      have HBE := Lib.hid hBe
      have NA := Lib.hid (show LA ≠ [] by rw [EA.out]; exact fun h => by have := congrArg List.length h; simp [fld_len] at this)
      have NB := Lib.hid (show LB ≠ [] by rw [EB.out]; exact fun h => by have := congrArg List.length h; simp [fld_len] at this)
      have NC := Lib.hid (show LC ≠ [] by rw [EC.out]; exact fun h => by have := congrArg List.length h; simp [fld_len] at this)
      clear hAB hAC hBC hgA hgB hBe HA HBb KA4 KB2 KC4 HWA HWB
      go_wp2_with fail
      clear e0 e1 e2
      refine (wr_String (s + 3) s LA NA.out wC HAC.out).mono ?_
      rintro e wd ⟨rfl, gA, nA, cA, hcA, _, _, hos, htp, hou, hsz, hfr⟩
      have gA1 := HGA.out _ _ _ hcA
      have HBD := Lib.hid (HBC.out.move (w' := wd) (hfr _ (by omega)) (fun g n c hc => hfr g (by have := HGB.out _ _ _ hc; omega)))
      have HCD := Lib.hid (HCc.out.move (w' := wd) (hfr _ (by omega)) (fun g n c hc => hfr g (by have := HCc.out.at hc; omega)))
      have hGBd : ∀ g n c, wd.cell? ⟨s + 1, 1, none⟩ = some (.slice (some ⟨g, 0, none⟩) n c) → wA.heap.size ≤ g ∧ g < wB.heap.size := fun g n c hc => by
        have h1 : wd.cell? ⟨s + 1, 1, none⟩ = wC.cell? ⟨s + 1, 1, none⟩ := by unfold World.cell?; rw [hfr (s + 1) (by omega)]
        rw [h1] at hc
        exact HGB.out _ _ _ hc
      have HGBD := Lib.hid hGBd
      have HBED := Lib.hid (HBE.out.trans (⟨hos, htp, hou, Nat.le_of_eq hsz.symm, fun k hk => hfr k (by omega)⟩ : Below w.heap.size wC wd))
      clear hGBd hfr hcA hos htp hou hsz HGA HGB HAC HBC HCc HBE gA1
      go_wp2_with fail
      refine (wr_String wA.heap.size (s + 1) LB NB.out wd HBD.out).mono ?_
      rintro e we ⟨rfl, gB, nB, cB, hcB, _, _, hos, htp, hou, hsz, hfr⟩
      have gB1 := HGBD.out _ _ _ hcB
      have HCE := Lib.hid (HCD.out.move (w' := we) (hfr _ (by omega)) (fun g n c hc => hfr g (by have := HCD.out.at hc; omega)))
      have HBEE := Lib.hid (HBED.out.trans (⟨hos, htp, hou, Nat.le_of_eq hsz.symm, fun k hk => hfr k (by omega)⟩ : Below w.heap.size wd we))
      clear hfr hcB hos htp hou hsz HGBD HBD HCD HBED gB1
      go_wp2_with fail
      refine (wr_String wB.heap.size (s + 1 + 1) LC NC.out we HCE.out).mono ?_
      rintro e wf ⟨rfl, gC, nC, cC, hcC, hgC, _, hos, htp, hou, hsz, hfr⟩
      have HBEF := Lib.hid (HBEE.out.trans (⟨hos, htp, hou, Nat.le_of_eq hsz.symm, fun k hk => hfr k (by omega)⟩ : Below w.heap.size we wf))
      clear hfr hcC hos htp hou hsz HCE HBEE hgC
      go_wp2_with fail
      refine bodyPost_ret (v := .tuple #[.string ⟨LA.toArray⟩, .string ⟨LB.toArray⟩, .string ⟨LC.toArray⟩, .int .i64 0]) (by simp [results, Try.results9, go_sem]) rfl ⟨rfl, HBEF.out⟩
  exact key a5 rfl
def putS (a0 a1 a2 a3 a4 : Int) (a5 : Bool) : ByteArray × ByteArray × ByteArray × Int :=
  if headB a0 a1 a2 a3 a4 = true then (⟨(hdA a0 a5).toArray⟩, ⟨(hdB a1).toArray⟩, ⟨(hdC a2 a3 a4).toArray⟩, 0) else (⟨#[]⟩, ⟨#[]⟩, ⟨#[]⟩, 1)
def head_Put.f (a0 a1 a2 a3 a4 : Int) (a5 : Bool) : Option (ByteArray × ByteArray × ByteArray × Int) := some (putS a0 a1 a2 a3 a4 a5)
theorem head_Put.calls (a0 a1 a2 a3 a4 : Int) (a5 : Bool) (r1 r2 r3 : ByteArray) (r4 : Int) (w : World) (h : head_Put.f a0 a1 a2 a3 a4 a5 = some (r1, r2, r3, r4)) :
    Calls Try.prog 9 #[.agg #[.int .i64 a0, .int .i64 a1, .int .i64 a2, .int .i64 a3, .int .i64 a4, .bool a5]] w fun e w' => e = .returned (.tuple #[.string r1, .string r2, .string r3, .int .i64 r4]) ∧ Below w.heap.size w w' := by
  have h := Option.some.inj h
  unfold putS at h
  cases hb : headB a0 a1 a2 a3 a4
  · rw [hb] at h
    simp only [Bool.false_eq_true, if_false, Prod.mk.injEq] at h
    obtain ⟨rfl, rfl, rfl, rfl⟩ := h
    exact put_bad a0 a1 a2 a3 a4 a5 w hb
  · rw [hb] at h
    simp only [if_true, Prod.mk.injEq] at h
    obtain ⟨rfl, rfl, rfl, rfl⟩ := h
    exact put_good a0 a1 a2 a3 a4 a5 w hb
end Go.Proofs.Ytfeodnceegkmjaa.P
