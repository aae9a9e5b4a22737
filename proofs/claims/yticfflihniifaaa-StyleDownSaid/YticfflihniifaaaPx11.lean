/- Each theorem here says that a call of one Go function ends with what the plain function of that name answers (printed by a program of this session); a law's row says that the law returns true for every input. No condition. -/
import Derived.Test.YticfflihniifaaaPx0
import Derived.Test.YticfflihniifaaaPx1
import Derived.Test.YticfflihniifaaaStyleTo
import Derived.Test.YticfflihniifaaaStyled
namespace Go.Proofs.Yticfflihniifaaa.P
open Go.RowKit Go.Proofs.YticfflihniifaaaW.PrintWords Go.Proofs.YticfflihniifaaaW.PrintLast Go.Proofs.YticfflihniifaaaW.PrintMore
attribute [local go_sem] max2_int min2_int max_two min_two max_three min_three max_four min_four   -- for this text's walks alone
set_option linter.unusedVariables false
set_option linter.unusedSimpArgs false

/-! ### vinculumlaw22_StyleDown: function 6 -/
mutual
def vinculumlaw22_StyleDown.l0 : Nat → Int → List Int → Int → Option (Bool)
  | 0, _, _, _ => none
  | k + 1, x0, x3, x4 => if x4 < (x3.length : Int) then (if 0 ≤ x4 then ((style_Is.f (rd x3 x4)).bind fun t243 => (if t243 = true then (if (wrap64 (Int.tdiv (rd x3 x4) 2)) < (wrap64 (Int.tdiv x0 2)) then (some false) else (if (Int.tmod x0 2) = 1 then (if (Int.tmod (rd x3 x4) 2) = 1 then (vinculumlaw22_StyleDown.l0 k x0 x3 (wrap64 (x4 + 1))) else (some false)) else (vinculumlaw22_StyleDown.l0 k x0 x3 (wrap64 (x4 + 1))))) else (some false))) else (none)) else ((style_Sub.f x0).bind fun t246 => (if (Int.tmod t246 2) = 1 then ((style_Den.f x0).bind fun t247 => (if (Int.tmod t247 2) = 1 then ((style_Cramp.f x0).bind fun t248 => (if t248 = (wrap64 ((wrap64 ((wrap64 (Int.tdiv x0 2)) * 2)) + 1)) then ((style_Sup.f x0).bind fun t249 => (if (Int.tmod t249 2) = (Int.tmod x0 2) then ((style_Num.f x0).bind fun t250 => (vinculumlaw22_StyleDown.j1 k x0 ((Int.tmod t250 2) != (Int.tmod x0 2)))) else (vinculumlaw22_StyleDown.j1 k x0 true))) else (vinculumlaw22_StyleDown.j1 k x0 true))) else (vinculumlaw22_StyleDown.j1 k x0 true))) else (vinculumlaw22_StyleDown.j1 k x0 true)))
def vinculumlaw22_StyleDown.j1 : Nat → Int → Bool → Option (Bool)
  | 0, _, _ => none
  | k + 1, x0, x119 => if x119 = true then (some false) else ((vinculumlaw22_styled.f).bind fun t251 => (if t251 = true then ((style_Sup.f x0).bind fun t252 => ((style_Sup.f t252).bind fun t253 => (if t253 ≥ 6 then ((style_Num.f x0).bind fun t254 => ((style_Num.f t254).bind fun t255 => ((style_Num.f t255).bind fun t256 => (if t256 ≥ 6 then ((style_Sub.f x0).bind fun t257 => ((style_Cramp.f t257).bind fun t258 => ((style_Sub.f x0).bind fun t259 => (some (t258 == t259))))) else (some false))))) else (some false)))) else (some false)))
end
def vinculumlaw22_StyleDown.f (k : Nat) (a0 : Int) : Option (Bool) := (style_Is.f a0).bind fun t227 => (if t227 = true then ((style_Sup.f a0).bind fun t234 => ((style_Sub.f a0).bind fun t235 => ((style_Num.f a0).bind fun t236 => ((style_Den.f a0).bind fun t237 => ((style_Cramp.f a0).bind fun t238 => (vinculumlaw22_StyleDown.l0 k a0 (([t234, t235, t236, t237, t238] : List Int)) 0)))))) else ((vinculumlaw22_styled.f).bind fun t228 => (if t228 = true then ((style_Sup.f a0).bind fun t229 => (if t229 = a0 then ((style_Sub.f a0).bind fun t230 => (if t230 = a0 then ((style_Num.f a0).bind fun t231 => (if t231 = a0 then ((style_Den.f a0).bind fun t232 => (if t232 = a0 then ((style_Cramp.f a0).bind fun t233 => (some (t233 == a0))) else (some false))) else (some false))) else (some false))) else (some false))) else (some false))))
theorem vinculumlaw22_StyleDown.mono_l : ∀ k, (∀ y0 y1 y2, LeO (vinculumlaw22_StyleDown.l0 k y0 y1 y2) (vinculumlaw22_StyleDown.l0 (k + 1) y0 y1 y2)) ∧ (∀ y0 y1, LeO (vinculumlaw22_StyleDown.j1 k y0 y1) (vinculumlaw22_StyleDown.j1 (k + 1) y0 y1))
  | 0 => ⟨fun _ _ _ r h => by simp [vinculumlaw22_StyleDown.l0] at h, fun _ _ r h => by simp [vinculumlaw22_StyleDown.j1] at h⟩
  | k + 1 => by
    obtain ⟨ih0, ih1⟩ := vinculumlaw22_StyleDown.mono_l k
    refine ⟨?_, ?_⟩
    · intro y0 y1 y2
      unfold vinculumlaw22_StyleDown.l0
      repeat' first
      | (with_reducible exact ih0 _ _ _)
      | (with_reducible exact ih1 _ _)
      | (with_reducible exact LeO.refl _)
      | (with_reducible exact LeO.none _)
      | (with_reducible refine LeO.ite ?_ ?_)
      | (with_reducible refine LeO.bind ?_ (fun _ => ?_))
      | exact ih0 _ _ _
      | exact ih1 _ _
      | exact LeO.none _
      | refine LeO.ite ?_ ?_
      | refine LeO.bind ?_ (fun _ => ?_)
    · intro y0 y1
      unfold vinculumlaw22_StyleDown.j1
      repeat' first
      | (with_reducible exact ih0 _ _ _)
      | (with_reducible exact ih1 _ _)
      | (with_reducible exact LeO.refl _)
      | (with_reducible exact LeO.none _)
      | (with_reducible refine LeO.ite ?_ ?_)
      | (with_reducible refine LeO.bind ?_ (fun _ => ?_))
      | exact ih0 _ _ _
      | exact ih1 _ _
      | exact LeO.none _
      | refine LeO.ite ?_ ?_
      | refine LeO.bind ?_ (fun _ => ?_)
theorem vinculumlaw22_StyleDown.mono : ∀ a0 k, LeO (vinculumlaw22_StyleDown.f k a0) (vinculumlaw22_StyleDown.f (k + 1) a0) := by
  intro a0 k
  obtain ⟨ih0, ih1⟩ := vinculumlaw22_StyleDown.mono_l k
  unfold vinculumlaw22_StyleDown.f
  repeat' first
      | (with_reducible exact ih0 _ _ _)
      | (with_reducible exact ih1 _ _)
      | (with_reducible exact LeO.refl _)
      | (with_reducible exact LeO.none _)
      | (with_reducible refine LeO.ite ?_ ?_)
      | (with_reducible refine LeO.bind ?_ (fun _ => ?_))
      | exact ih0 _ _ _
      | exact ih1 _ _
      | exact LeO.none _
      | refine LeO.ite ?_ ?_
      | refine LeO.bind ?_ (fun _ => ?_)
set_option maxHeartbeats 8000000 in
set_option maxRecDepth 100000 in
theorem vinculumlaw22_StyleDown.calls (k : Nat) (a0 : Int) (r : Bool) (w : World) (h : vinculumlaw22_StyleDown.f k a0 = some r) :
    Calls Try.prog 6 #[.int .i64 a0] w fun e w' => e = .returned (.bool r) ∧ Below w.heap.size w w' := by
  have HB := Aside0.mk (Below.refl w.heap.size w)
  have H : ((style_Is.f a0).bind fun t227 => (if t227 = true then ((style_Sup.f a0).bind fun t234 => ((style_Sub.f a0).bind fun t235 => ((style_Num.f a0).bind fun t236 => ((style_Den.f a0).bind fun t237 => ((style_Cramp.f a0).bind fun t238 => (vinculumlaw22_StyleDown.l0 k a0 (([t234, t235, t236, t237, t238] : List Int)) 0)))))) else ((vinculumlaw22_styled.f).bind fun t228 => (if t228 = true then ((style_Sup.f a0).bind fun t229 => (if t229 = a0 then ((style_Sub.f a0).bind fun t230 => (if t230 = a0 then ((style_Num.f a0).bind fun t231 => (if t231 = a0 then ((style_Den.f a0).bind fun t232 => (if t232 = a0 then ((style_Cramp.f a0).bind fun t233 => (some (t233 == a0))) else (some false))) else (some false))) else (some false))) else (some false))) else (some false))))) = some r := h
  clear h
  replace H := Option.bind_eq_some_iff.mp H
  obtain ⟨t227, A20, H⟩ := H
  replace H : (if t227 = true then ((style_Sup.f a0).bind fun t234 => ((style_Sub.f a0).bind fun t235 => ((style_Num.f a0).bind fun t236 => ((style_Den.f a0).bind fun t237 => ((style_Cramp.f a0).bind fun t238 => (vinculumlaw22_StyleDown.l0 k a0 (([t234, t235, t236, t237, t238] : List Int)) 0)))))) else ((vinculumlaw22_styled.f).bind fun t228 => (if t228 = true then ((style_Sup.f a0).bind fun t229 => (if t229 = a0 then ((style_Sub.f a0).bind fun t230 => (if t230 = a0 then ((style_Num.f a0).bind fun t231 => (if t231 = a0 then ((style_Den.f a0).bind fun t232 => (if t232 = a0 then ((style_Cramp.f a0).bind fun t233 => (some (t233 == a0))) else (some false))) else (some false))) else (some false))) else (some false))) else (some false)))) = some r := H
  have A2 := Aside0.mk A20
  clear A20
  by_cases c3 : t227 = true
  · subst c3
    have H1 : ((style_Sup.f a0).bind fun t234 => ((style_Sub.f a0).bind fun t235 => ((style_Num.f a0).bind fun t236 => ((style_Den.f a0).bind fun t237 => ((style_Cramp.f a0).bind fun t238 => (vinculumlaw22_StyleDown.l0 k a0 (([t234, t235, t236, t237, t238] : List Int)) 0)))))) = some r := by rw [if_pos rfl] at H; exact H
    clear H
    have H := H1
    clear H1
    replace H := Option.bind_eq_some_iff.mp H
    obtain ⟨t234, A40, H⟩ := H
    replace H : ((style_Sub.f a0).bind fun t235 => ((style_Num.f a0).bind fun t236 => ((style_Den.f a0).bind fun t237 => ((style_Cramp.f a0).bind fun t238 => (vinculumlaw22_StyleDown.l0 k a0 (([t234, t235, t236, t237, t238] : List Int)) 0))))) = some r := H
    have A4 := Aside0.mk A40
    clear A40
    replace H := Option.bind_eq_some_iff.mp H
    obtain ⟨t235, A50, H⟩ := H
    replace H : ((style_Num.f a0).bind fun t236 => ((style_Den.f a0).bind fun t237 => ((style_Cramp.f a0).bind fun t238 => (vinculumlaw22_StyleDown.l0 k a0 (([t234, t235, t236, t237, t238] : List Int)) 0)))) = some r := H
    have A5 := Aside0.mk A50
    clear A50
    replace H := Option.bind_eq_some_iff.mp H
    obtain ⟨t236, A60, H⟩ := H
    replace H : ((style_Den.f a0).bind fun t237 => ((style_Cramp.f a0).bind fun t238 => (vinculumlaw22_StyleDown.l0 k a0 (([t234, t235, t236, t237, t238] : List Int)) 0))) = some r := H
    have A6 := Aside0.mk A60
    clear A60
    replace H := Option.bind_eq_some_iff.mp H
    obtain ⟨t237, A70, H⟩ := H
    replace H : ((style_Cramp.f a0).bind fun t238 => (vinculumlaw22_StyleDown.l0 k a0 (([t234, t235, t236, t237, t238] : List Int)) 0)) = some r := H
    have A7 := Aside0.mk A70
    clear A70
    replace H := Option.bind_eq_some_iff.mp H
    obtain ⟨t238, A80, H⟩ := H
    replace H : (vinculumlaw22_StyleDown.l0 k a0 (([t234, t235, t236, t237, t238] : List Int)) 0) = some r := H
    have A8 := Aside0.mk A80
    clear A80
    obtain ⟨y239, hy239⟩ : ∃ y_ : List Int, y_ = (([t234, t235, t236, t237, t238] : List Int)) := ⟨_, rfl⟩
    replace H : (vinculumlaw22_StyleDown.l0 k a0 y239 0) = some r := by first | (rw [hy239]; with_reducible exact H) | (have H2_ := (Option.bind_some _ _).symm.trans H; rw [hy239]; with_reducible exact H2_) | (have H2_ := (Option.bind_some _ _).symm.trans H; with_reducible exact H2_) | with_reducible exact H | (rw [hy239]; exact H) | exact H
    have Ny239 := Aside0.mk hy239
    clear hy239
    have H' := Aside0.mk H
    clear H
    go_enter Try.func6, Try.ntmps6
    go_wp2_with (first | ((with_reducible refine gate_callee (f := 16) rfl ?_); refine goesL_ (some 6) rfl rfl Try.func16 (by kernel_rfl) rfl #[.int .i64 a0] rfl (by (try simp only [List.map_toArray, List.map_cons, List.map_nil]); first | done | rfl | (simp only [List.length_drop, List.length_take]; rfl)) ?_; (with_reducible refine (style_Is.calls a0 true _ A2.out).mono ?_); rintro e w' ⟨rfl, ⟨nd, rfl⟩⟩; refine ⟨_, rfl, ?_⟩) | ((with_reducible refine gate_callee (f := 19) rfl ?_); refine goesL_ (some 40) rfl rfl Try.func19 (by kernel_rfl) rfl #[.int .i64 a0] rfl (by (try simp only [List.map_toArray, List.map_cons, List.map_nil]); first | done | rfl | (simp only [List.length_drop, List.length_take]; rfl)) ?_; (with_reducible refine (style_Sup.calls a0 t234 _ A4.out).mono ?_); rintro e w9 ⟨rfl, hb⟩; refine ⟨_, rfl, ?_⟩; have n0_ := Aside0.mk (below_step (by repeat (first | (with_reducible first | exact HB.out | apply below_alloc | apply pw_below_drewN | apply below_drew1) | exact HB.out)) hb); clear HB; have HB := n0_; clear n0_; (try clear hb); (try clear hb2); (try clear hk); (try clear hi)) | ((with_reducible refine gate_callee (f := 21) rfl ?_); refine goesL_ (some 42) rfl rfl Try.func21 (by kernel_rfl) rfl #[.int .i64 a0] rfl (by (try simp only [List.map_toArray, List.map_cons, List.map_nil]); first | done | rfl | (simp only [List.length_drop, List.length_take]; rfl)) ?_; (with_reducible refine (style_Sub.calls a0 t235 _ A5.out).mono ?_); rintro e w10 ⟨rfl, hb⟩; refine ⟨_, rfl, ?_⟩; have n0_ := Aside0.mk (below_step (by repeat (first | (with_reducible first | exact HB.out | apply below_alloc | apply pw_below_drewN | apply below_drew1) | exact HB.out)) hb); clear HB; have HB := n0_; clear n0_; (try clear hb); (try clear hb2); (try clear hk); (try clear hi)) | ((with_reducible refine gate_callee (f := 23) rfl ?_); refine goesL_ (some 44) rfl rfl Try.func23 (by kernel_rfl) rfl #[.int .i64 a0] rfl (by (try simp only [List.map_toArray, List.map_cons, List.map_nil]); first | done | rfl | (simp only [List.length_drop, List.length_take]; rfl)) ?_; (with_reducible refine (style_Num.calls a0 t236 _ A6.out).mono ?_); rintro e w11 ⟨rfl, hb⟩; refine ⟨_, rfl, ?_⟩; have n0_ := Aside0.mk (below_step (by repeat (first | (with_reducible first | exact HB.out | apply below_alloc | apply pw_below_drewN | apply below_drew1) | exact HB.out)) hb); clear HB; have HB := n0_; clear n0_; (try clear hb); (try clear hb2); (try clear hk); (try clear hi)) | ((with_reducible refine gate_callee (f := 25) rfl ?_); refine goesL_ (some 46) rfl rfl Try.func25 (by kernel_rfl) rfl #[.int .i64 a0] rfl (by (try simp only [List.map_toArray, List.map_cons, List.map_nil]); first | done | rfl | (simp only [List.length_drop, List.length_take]; rfl)) ?_; (with_reducible refine (style_Den.calls a0 t237 _ A7.out).mono ?_); rintro e w12 ⟨rfl, hb⟩; refine ⟨_, rfl, ?_⟩; have n0_ := Aside0.mk (below_step (by repeat (first | (with_reducible first | exact HB.out | apply below_alloc | apply pw_below_drewN | apply below_drew1) | exact HB.out)) hb); clear HB; have HB := n0_; clear n0_; (try clear hb); (try clear hb2); (try clear hk); (try clear hi)) | ((with_reducible refine gate_callee (f := 13) rfl ?_); refine goesL_ (some 48) rfl rfl Try.func13 (by kernel_rfl) rfl #[.int .i64 a0] rfl (by (try simp only [List.map_toArray, List.map_cons, List.map_nil]); first | done | rfl | (simp only [List.length_drop, List.length_take]; rfl)) ?_; (with_reducible refine (style_Cramp.calls a0 t238 _ A8.out).mono ?_); rintro e w13 ⟨rfl, hb⟩; refine ⟨_, rfl, ?_⟩; have n0_ := Aside0.mk (below_step (by repeat (first | (with_reducible first | exact HB.out | apply below_alloc | apply pw_below_drewN | apply below_drew1) | exact HB.out)) hb); clear HB; have HB := n0_; clear n0_; (try clear hb); (try clear hb2); (try clear hk); (try clear hi)) | ((with_reducible refine gate_dst (N := 49) rfl ?_); refine Kd.R_lit (Kd.int .i64) _ 3 ?hg (N := 49) ?hd (xs := ([t234, t235, t236, t237, t238] : List Int)) (inner := [.int .i64 t234, .int .i64 t235, .int .i64 t236, .int .i64 t237, .int .i64 t238]) (ok := fun _ => True) (okp := fun _ => True) ?hr ?hp (fun _ hk => hk) trivial (Below.refl _ _) (Nat.le_refl _) (by simp) ?_; (case hd => rfl); (case hg => rfl); (case hr => first | (go_simp; done) | (go_simp; rfl)); (case hp => exact (Reps.one (show Kd.M (Kd.int .i64) _ _ _ t234 [.int .i64 t234] from rfl) (Reps.one (show Kd.M (Kd.int .i64) _ _ _ t235 [.int .i64 t235] from rfl) (Reps.one (show Kd.M (Kd.int .i64) _ _ _ t236 [.int .i64 t236] from rfl) (Reps.one (show Kd.M (Kd.int .i64) _ _ _ t237 [.int .i64 t237] from rfl) (Reps.one (show Kd.M (Kd.int .i64) _ _ _ t238 [.int .i64 t238] from rfl) (Reps.none _ _))))))); intro v240 w14 ho15 hb hg_ hnew_; clear hg_ hnew_; (first | rw [← Ny239.out] at ho15 | (simp only [Int.reduceToNat] at ho15; rw [← Ny239.out] at ho15)); have n0_ := Aside0.mk (Kd.R_lower ho15 (below_size (by repeat (first | (with_reducible first | exact HB.out | apply below_alloc | apply pw_below_drewN | apply below_drew1) | exact HB.out)))); have n1_ := Aside0.mk (below_step (by repeat (first | (with_reducible first | exact HB.out | apply below_alloc | apply pw_below_drewN | apply below_drew1) | exact HB.out)) hb); clear HB; have HO241 := n0_; have HB := n1_; clear n0_ n1_; clear hb ho15))
    go_loopg [4] k (fun kq v4 w' => ∃ (x4_1 : Int), v4 = .int .i64 x4_1 ∧ Aside0 (vinculumlaw22_StyleDown.l0 kq a0 y239 x4_1 = some r) ∧ Aside0 (kq ≤ k) ∧ Aside0 (Kd.R (Kd.int .i64) 3 w' w.heap.size (fun _ => True) v240 y239) ∧ Aside0 (Below w.heap.size w w'))
    case atStart => exact ⟨(0), (by first | rfl | (simp; done) | (simp [*]; done)), H', ⟨Nat.le_refl _⟩, ⟨by (with_reducible repeat (first | apply Kd.R_alloc | apply Kd.R_drewN | apply Kd.R_drew)); exact HO241.out⟩, ⟨by repeat (first | (with_reducible first | exact HB.out | apply below_alloc | apply pw_below_drewN | apply below_drew1) | exact HB.out)⟩⟩
    case round =>
      clear H'
      try clear c1
      try clear c2
      try clear p2
      try clear c3
      try clear c6
      try clear c13
      obtain ⟨x4_1, rfl, HA, HK1, HO_3, HB⟩ := hrel
      cases gk with
      | zero => exact absurd HA.out (by simp [vinculumlaw22_StyleDown.l0])
      | succ k1 =>
        have H := HA.out
        clear HA
        simp only [vinculumlaw22_StyleDown.l0] at H
        by_cases c16 : x4_1 < (y239.length : Int)
        · rw [if_pos c16] at H
          have c16b0 : decide (x4_1 < (y239.length : Int)) = true := decide_eq_true c16
          clear c16
          by_cases c17 : 0 ≤ x4_1
          · rw [if_pos c17] at H
            have c17b0 : decide (0 ≤ x4_1) = true := decide_eq_true c17
            clear c17
            replace H := Option.bind_eq_some_iff.mp H
            obtain ⟨t243, A180, H⟩ := H
            replace H : (if t243 = true then (if (wrap64 (Int.tdiv (rd y239 x4_1) 2)) < (wrap64 (Int.tdiv a0 2)) then (some false) else (if (Int.tmod a0 2) = 1 then (if (Int.tmod (rd y239 x4_1) 2) = 1 then (vinculumlaw22_StyleDown.l0 k1 a0 y239 (wrap64 (x4_1 + 1))) else (some false)) else (vinculumlaw22_StyleDown.l0 k1 a0 y239 (wrap64 (x4_1 + 1))))) else (some false)) = some r := H
            have A18 := Aside0.mk A180
            clear A180
            by_cases c19 : t243 = true
            · subst c19
              have H1 : (if (wrap64 (Int.tdiv (rd y239 x4_1) 2)) < (wrap64 (Int.tdiv a0 2)) then (some false) else (if (Int.tmod a0 2) = 1 then (if (Int.tmod (rd y239 x4_1) 2) = 1 then (vinculumlaw22_StyleDown.l0 k1 a0 y239 (wrap64 (x4_1 + 1))) else (some false)) else (vinculumlaw22_StyleDown.l0 k1 a0 y239 (wrap64 (x4_1 + 1))))) = some r := by rw [if_pos rfl] at H; exact H
              clear H
              have H := H1
              clear H1
              by_cases c20 : (wrap64 (Int.tdiv (rd y239 x4_1) 2)) < (wrap64 (Int.tdiv a0 2))
              · rw [if_pos c20] at H
                have c20b0 : decide ((wrap64 (Int.tdiv (rd y239 x4_1) 2)) < (wrap64 (Int.tdiv a0 2))) = true := decide_eq_true c20
                clear c20
                obtain rfl := Option.some.inj H
                obtain ⟨Ao21, co21, eo21⟩ := Kd.R_slice HO_3.out
                subst eo21
                have p242 : 0 ≤ (x4_1 : Int) := of_decide_eq_true (by first | (with_reducible assumption) | assumption)
                have q242 : x4_1 < (y239.length : Int) := of_decide_eq_true (by first | (with_reducible assumption) | assumption)
                obtain ⟨ad242, e242, hx242_0⟩ := Kd.at_int (Kd.R_reads' HO_3.out).2.2 x4_1 p242 q242
                cases e242
                replace p242 := eq_true p242
                replace q242 := eq_true q242
                go_wp2_with (first | ((with_reducible refine gate_callee (f := 16) rfl ?_); refine goesL_ (some 60) rfl rfl Try.func16 (by kernel_rfl) rfl #[.int .i64 (rd y239 x4_1)] rfl (by (try simp only [List.map_toArray, List.map_cons, List.map_nil]); first | done | rfl | (simp only [List.length_drop, List.length_take]; rfl)) ?_; (with_reducible refine (style_Is.calls (rd y239 x4_1) true _ A18.out).mono ?_); rintro e w' ⟨rfl, ⟨nd, rfl⟩⟩; refine ⟨_, rfl, ?_⟩; have p244 : 0 ≤ (x4_1 : Int) := of_decide_eq_true (by first | (with_reducible assumption) | assumption); have q244 : x4_1 < (y239.length : Int) := of_decide_eq_true (by first | (with_reducible assumption) | assumption); obtain ⟨ad244, e244, hx244_0⟩ := Kd.at_int (Kd.R_reads' HO_3.out).2.2 x4_1 p244 q244; obtain rfl : ad242 = ad244 := (by injection e244); replace p244 := eq_true p244; replace q244 := eq_true q244))
                go_ret
                exact ⟨by first | rfl | (simp [errW_none, errW_some] <;> rfl) | (simp [*, errW_none, errW_some] <;> rfl), by repeat (first | (with_reducible first | exact HB.out | apply below_alloc | apply pw_below_drewN | apply below_drew1) | exact HB.out)⟩
              · rw [if_neg c20] at H
                have c20b0 : decide ((wrap64 (Int.tdiv (rd y239 x4_1) 2)) < (wrap64 (Int.tdiv a0 2))) = false := decide_eq_false c20
                clear c20
                by_cases c22 : (Int.tmod a0 2) = 1
                · rw [if_pos c22] at H
                  have c22b0 : ((Int.tmod a0 2) == 1) = true := beq_iff_eq.mpr c22
                  have c22b1 : ((Int.tmod a0 2) != 1) = false := bne_eq_false_iff_eq.mpr c22
                  clear c22
                  by_cases c23 : (Int.tmod (rd y239 x4_1) 2) = 1
                  · rw [if_pos c23] at H
                    have c23b0 : ((Int.tmod (rd y239 x4_1) 2) == 1) = true := beq_iff_eq.mpr c23
                    have c23b1 : ((Int.tmod (rd y239 x4_1) 2) != 1) = false := bne_eq_false_iff_eq.mpr c23
                    clear c23
                    have H' := Aside0.mk H
                    clear H
                    obtain ⟨Ao24, co24, eo24⟩ := Kd.R_slice HO_3.out
                    subst eo24
                    have p242 : 0 ≤ (x4_1 : Int) := of_decide_eq_true (by first | (with_reducible assumption) | assumption)
                    have q242 : x4_1 < (y239.length : Int) := of_decide_eq_true (by first | (with_reducible assumption) | assumption)
                    obtain ⟨ad242, e242, hx242_0⟩ := Kd.at_int (Kd.R_reads' HO_3.out).2.2 x4_1 p242 q242
                    cases e242
                    replace p242 := eq_true p242
                    replace q242 := eq_true q242
                    go_wp2_with (first | ((with_reducible refine gate_callee (f := 16) rfl ?_); refine goesL_ (some 60) rfl rfl Try.func16 (by kernel_rfl) rfl #[.int .i64 (rd y239 x4_1)] rfl (by (try simp only [List.map_toArray, List.map_cons, List.map_nil]); first | done | rfl | (simp only [List.length_drop, List.length_take]; rfl)) ?_; (with_reducible refine (style_Is.calls (rd y239 x4_1) true _ A18.out).mono ?_); rintro e w' ⟨rfl, ⟨nd, rfl⟩⟩; refine ⟨_, rfl, ?_⟩; have p244 : 0 ≤ (x4_1 : Int) := of_decide_eq_true (by first | (with_reducible assumption) | assumption); have q244 : x4_1 < (y239.length : Int) := of_decide_eq_true (by first | (with_reducible assumption) | assumption); obtain ⟨ad244, e244, hx244_0⟩ := Kd.at_int (Kd.R_reads' HO_3.out).2.2 x4_1 p244 q244; obtain rfl : ad242 = ad244 := (by injection e244); replace p244 := eq_true p244; replace q244 := eq_true q244; have p245 : 0 ≤ (x4_1 : Int) := of_decide_eq_true (by first | (with_reducible assumption) | assumption); have q245 : x4_1 < (y239.length : Int) := of_decide_eq_true (by first | (with_reducible assumption) | assumption); obtain ⟨ad245, e245, hx245_0⟩ := Kd.at_int (Kd.R_reads' HO_3.out).2.2 x4_1 p245 q245; obtain rfl : ad242 = ad245 := (by injection e245); replace p245 := eq_true p245; replace q245 := eq_true q245))
                    go_roundg k1
                    case measure => have := HK1.out; omega
                    case rel => exact ⟨(wrap64 (x4_1 + 1)), (by first | rfl | (simp; done) | (simp [*]; done)), H', ⟨by have := HK1.out; omega⟩, ⟨by (with_reducible repeat (first | apply Kd.R_alloc | apply Kd.R_drewN | apply Kd.R_drew)); exact HO_3.out⟩, ⟨by repeat (first | (with_reducible first | exact HB.out | apply below_alloc | apply pw_below_drewN | apply below_drew1) | exact HB.out)⟩⟩
                  · rw [if_neg c23] at H
                    have c23b0 : ((Int.tmod (rd y239 x4_1) 2) == 1) = false := beq_eq_false_iff_ne.mpr c23
                    have c23b1 : ((Int.tmod (rd y239 x4_1) 2) != 1) = true := bne_iff_ne.mpr c23
                    obtain rfl := Option.some.inj H
                    obtain ⟨Ao25, co25, eo25⟩ := Kd.R_slice HO_3.out
                    subst eo25
                    have p242 : 0 ≤ (x4_1 : Int) := of_decide_eq_true (by first | (with_reducible assumption) | assumption)
                    have q242 : x4_1 < (y239.length : Int) := of_decide_eq_true (by first | (with_reducible assumption) | assumption)
                    obtain ⟨ad242, e242, hx242_0⟩ := Kd.at_int (Kd.R_reads' HO_3.out).2.2 x4_1 p242 q242
                    cases e242
                    replace p242 := eq_true p242
                    replace q242 := eq_true q242
                    go_wp2_with (first | ((with_reducible refine gate_callee (f := 16) rfl ?_); refine goesL_ (some 60) rfl rfl Try.func16 (by kernel_rfl) rfl #[.int .i64 (rd y239 x4_1)] rfl (by (try simp only [List.map_toArray, List.map_cons, List.map_nil]); first | done | rfl | (simp only [List.length_drop, List.length_take]; rfl)) ?_; (with_reducible refine (style_Is.calls (rd y239 x4_1) true _ A18.out).mono ?_); rintro e w' ⟨rfl, ⟨nd, rfl⟩⟩; refine ⟨_, rfl, ?_⟩; have p244 : 0 ≤ (x4_1 : Int) := of_decide_eq_true (by first | (with_reducible assumption) | assumption); have q244 : x4_1 < (y239.length : Int) := of_decide_eq_true (by first | (with_reducible assumption) | assumption); obtain ⟨ad244, e244, hx244_0⟩ := Kd.at_int (Kd.R_reads' HO_3.out).2.2 x4_1 p244 q244; obtain rfl : ad242 = ad244 := (by injection e244); replace p244 := eq_true p244; replace q244 := eq_true q244; have p245 : 0 ≤ (x4_1 : Int) := of_decide_eq_true (by first | (with_reducible assumption) | assumption); have q245 : x4_1 < (y239.length : Int) := of_decide_eq_true (by first | (with_reducible assumption) | assumption); obtain ⟨ad245, e245, hx245_0⟩ := Kd.at_int (Kd.R_reads' HO_3.out).2.2 x4_1 p245 q245; obtain rfl : ad242 = ad245 := (by injection e245); replace p245 := eq_true p245; replace q245 := eq_true q245))
                    go_ret
                    exact ⟨by first | rfl | (simp [errW_none, errW_some] <;> rfl) | (simp [*, errW_none, errW_some] <;> rfl), by repeat (first | (with_reducible first | exact HB.out | apply below_alloc | apply pw_below_drewN | apply below_drew1) | exact HB.out)⟩
                · rw [if_neg c22] at H
                  have c22b0 : ((Int.tmod a0 2) == 1) = false := beq_eq_false_iff_ne.mpr c22
                  have c22b1 : ((Int.tmod a0 2) != 1) = true := bne_iff_ne.mpr c22
                  have H' := Aside0.mk H
                  clear H
                  obtain ⟨Ao26, co26, eo26⟩ := Kd.R_slice HO_3.out
                  subst eo26
                  have p242 : 0 ≤ (x4_1 : Int) := of_decide_eq_true (by first | (with_reducible assumption) | assumption)
                  have q242 : x4_1 < (y239.length : Int) := of_decide_eq_true (by first | (with_reducible assumption) | assumption)
                  obtain ⟨ad242, e242, hx242_0⟩ := Kd.at_int (Kd.R_reads' HO_3.out).2.2 x4_1 p242 q242
                  cases e242
                  replace p242 := eq_true p242
                  replace q242 := eq_true q242
                  go_wp2_with (first | ((with_reducible refine gate_callee (f := 16) rfl ?_); refine goesL_ (some 60) rfl rfl Try.func16 (by kernel_rfl) rfl #[.int .i64 (rd y239 x4_1)] rfl (by (try simp only [List.map_toArray, List.map_cons, List.map_nil]); first | done | rfl | (simp only [List.length_drop, List.length_take]; rfl)) ?_; (with_reducible refine (style_Is.calls (rd y239 x4_1) true _ A18.out).mono ?_); rintro e w' ⟨rfl, ⟨nd, rfl⟩⟩; refine ⟨_, rfl, ?_⟩; have p244 : 0 ≤ (x4_1 : Int) := of_decide_eq_true (by first | (with_reducible assumption) | assumption); have q244 : x4_1 < (y239.length : Int) := of_decide_eq_true (by first | (with_reducible assumption) | assumption); obtain ⟨ad244, e244, hx244_0⟩ := Kd.at_int (Kd.R_reads' HO_3.out).2.2 x4_1 p244 q244; obtain rfl : ad242 = ad244 := (by injection e244); replace p244 := eq_true p244; replace q244 := eq_true q244))
                  go_roundg k1
                  case measure => have := HK1.out; omega
                  case rel => exact ⟨(wrap64 (x4_1 + 1)), (by first | rfl | (simp; done) | (simp [*]; done)), H', ⟨by have := HK1.out; omega⟩, ⟨by (with_reducible repeat (first | apply Kd.R_alloc | apply Kd.R_drewN | apply Kd.R_drew)); exact HO_3.out⟩, ⟨by repeat (first | (with_reducible first | exact HB.out | apply below_alloc | apply pw_below_drewN | apply below_drew1) | exact HB.out)⟩⟩
            · replace c19 := Bool.eq_false_iff.mpr c19
              subst c19
              have H1 : (some false) = some r := by rw [if_neg (show ¬ (false = true) by decide)] at H; exact H
              clear H
              have H := H1
              clear H1
              obtain rfl := Option.some.inj H
              obtain ⟨Ao27, co27, eo27⟩ := Kd.R_slice HO_3.out
              subst eo27
              have p242 : 0 ≤ (x4_1 : Int) := of_decide_eq_true (by first | (with_reducible assumption) | assumption)
              have q242 : x4_1 < (y239.length : Int) := of_decide_eq_true (by first | (with_reducible assumption) | assumption)
              obtain ⟨ad242, e242, hx242_0⟩ := Kd.at_int (Kd.R_reads' HO_3.out).2.2 x4_1 p242 q242
              cases e242
              replace p242 := eq_true p242
              replace q242 := eq_true q242
              go_wp2_with (first | ((with_reducible refine gate_callee (f := 16) rfl ?_); refine goesL_ (some 60) rfl rfl Try.func16 (by kernel_rfl) rfl #[.int .i64 (rd y239 x4_1)] rfl (by (try simp only [List.map_toArray, List.map_cons, List.map_nil]); first | done | rfl | (simp only [List.length_drop, List.length_take]; rfl)) ?_; (with_reducible refine (style_Is.calls (rd y239 x4_1) false _ A18.out).mono ?_); rintro e w' ⟨rfl, ⟨nd, rfl⟩⟩; refine ⟨_, rfl, ?_⟩))
              go_ret
              exact ⟨by first | rfl | (simp [errW_none, errW_some] <;> rfl) | (simp [*, errW_none, errW_some] <;> rfl), by repeat (first | (with_reducible first | exact HB.out | apply below_alloc | apply pw_below_drewN | apply below_drew1) | exact HB.out)⟩
          · rw [if_neg c17] at H
            exact absurd H (by simp)
        · rw [if_neg c16] at H
          have c16b0 : decide (x4_1 < (y239.length : Int)) = false := decide_eq_false c16
          clear c16
          have HC28 := Aside0.mk H
          clear H
          obtain ⟨Ao29, co29, eo29⟩ := Kd.R_slice HO_3.out
          subst eo29
          go_upto_region 9 with (fail)
          go_cut [119] (fun v119 wc => ∃ (kq : Nat) (x119_27 : Bool), v119 = .bool x119_27 ∧ Aside0 (vinculumlaw22_StyleDown.j1 kq a0 x119_27 = some r) ∧ Aside0 (kq ≤ k1) ∧ Aside0 (Below w.heap.size w wc))
          case first =>
            have H := HC28.out
            clear HC28
            replace H := Option.bind_eq_some_iff.mp H
            obtain ⟨t246, A300, H⟩ := H
            replace H : (if (Int.tmod t246 2) = 1 then ((style_Den.f a0).bind fun t247 => (if (Int.tmod t247 2) = 1 then ((style_Cramp.f a0).bind fun t248 => (if t248 = (wrap64 ((wrap64 ((wrap64 (Int.tdiv a0 2)) * 2)) + 1)) then ((style_Sup.f a0).bind fun t249 => (if (Int.tmod t249 2) = (Int.tmod a0 2) then ((style_Num.f a0).bind fun t250 => (vinculumlaw22_StyleDown.j1 k1 a0 ((Int.tmod t250 2) != (Int.tmod a0 2)))) else (vinculumlaw22_StyleDown.j1 k1 a0 true))) else (vinculumlaw22_StyleDown.j1 k1 a0 true))) else (vinculumlaw22_StyleDown.j1 k1 a0 true))) else (vinculumlaw22_StyleDown.j1 k1 a0 true)) = some r := H
            have A30 := Aside0.mk A300
            clear A300
            by_cases c31 : (Int.tmod t246 2) = 1
            · rw [if_pos c31] at H
              have c31b0 : ((Int.tmod t246 2) == 1) = true := beq_iff_eq.mpr c31
              have c31b1 : ((Int.tmod t246 2) != 1) = false := bne_eq_false_iff_eq.mpr c31
              clear c31
              (first | rw [c31b0] | (simp only [i64_w, i32_w]; rw [c31b0]) | skip)
              replace H := Option.bind_eq_some_iff.mp H
              obtain ⟨t247, A320, H⟩ := H
              replace H : (if (Int.tmod t247 2) = 1 then ((style_Cramp.f a0).bind fun t248 => (if t248 = (wrap64 ((wrap64 ((wrap64 (Int.tdiv a0 2)) * 2)) + 1)) then ((style_Sup.f a0).bind fun t249 => (if (Int.tmod t249 2) = (Int.tmod a0 2) then ((style_Num.f a0).bind fun t250 => (vinculumlaw22_StyleDown.j1 k1 a0 ((Int.tmod t250 2) != (Int.tmod a0 2)))) else (vinculumlaw22_StyleDown.j1 k1 a0 true))) else (vinculumlaw22_StyleDown.j1 k1 a0 true))) else (vinculumlaw22_StyleDown.j1 k1 a0 true)) = some r := H
              have A32 := Aside0.mk A320
              clear A320
              by_cases c33 : (Int.tmod t247 2) = 1
              · rw [if_pos c33] at H
                have c33b0 : ((Int.tmod t247 2) == 1) = true := beq_iff_eq.mpr c33
                have c33b1 : ((Int.tmod t247 2) != 1) = false := bne_eq_false_iff_eq.mpr c33
                clear c33
                replace H := Option.bind_eq_some_iff.mp H
                obtain ⟨t248, A340, H⟩ := H
                replace H : (if t248 = (wrap64 ((wrap64 ((wrap64 (Int.tdiv a0 2)) * 2)) + 1)) then ((style_Sup.f a0).bind fun t249 => (if (Int.tmod t249 2) = (Int.tmod a0 2) then ((style_Num.f a0).bind fun t250 => (vinculumlaw22_StyleDown.j1 k1 a0 ((Int.tmod t250 2) != (Int.tmod a0 2)))) else (vinculumlaw22_StyleDown.j1 k1 a0 true))) else (vinculumlaw22_StyleDown.j1 k1 a0 true)) = some r := H
                have A34 := Aside0.mk A340
                clear A340
                by_cases c35 : t248 = (wrap64 ((wrap64 ((wrap64 (Int.tdiv a0 2)) * 2)) + 1))
                · rw [if_pos c35] at H
                  have c35b0 : (t248 == (wrap64 ((wrap64 ((wrap64 (Int.tdiv a0 2)) * 2)) + 1))) = true := beq_iff_eq.mpr c35
                  have c35b1 : (t248 != (wrap64 ((wrap64 ((wrap64 (Int.tdiv a0 2)) * 2)) + 1))) = false := bne_eq_false_iff_eq.mpr c35
                  clear c35
                  replace H := Option.bind_eq_some_iff.mp H
                  obtain ⟨t249, A360, H⟩ := H
                  replace H : (if (Int.tmod t249 2) = (Int.tmod a0 2) then ((style_Num.f a0).bind fun t250 => (vinculumlaw22_StyleDown.j1 k1 a0 ((Int.tmod t250 2) != (Int.tmod a0 2)))) else (vinculumlaw22_StyleDown.j1 k1 a0 true)) = some r := H
                  have A36 := Aside0.mk A360
                  clear A360
                  by_cases c37 : (Int.tmod t249 2) = (Int.tmod a0 2)
                  · rw [if_pos c37] at H
                    have c37b0 : ((Int.tmod t249 2) == (Int.tmod a0 2)) = true := beq_iff_eq.mpr c37
                    have c37b1 : ((Int.tmod t249 2) != (Int.tmod a0 2)) = false := bne_eq_false_iff_eq.mpr c37
                    clear c37
                    replace H := Option.bind_eq_some_iff.mp H
                    obtain ⟨t250, A380, H⟩ := H
                    replace H : (vinculumlaw22_StyleDown.j1 k1 a0 ((Int.tmod t250 2) != (Int.tmod a0 2))) = some r := H
                    have A38 := Aside0.mk A380
                    clear A380
                    have H' := Aside0.mk H
                    clear H
                    go_wp2_with (first | ((with_reducible refine gate_callee (f := 21) rfl ?_); refine goesL_ (some 86) rfl rfl Try.func21 (by kernel_rfl) rfl #[.int .i64 a0] rfl (by (try simp only [List.map_toArray, List.map_cons, List.map_nil]); first | done | rfl | (simp only [List.length_drop, List.length_take]; rfl)) ?_; (with_reducible refine (style_Sub.calls a0 t246 _ A30.out).mono ?_); rintro e w39 ⟨rfl, hb⟩; refine ⟨_, rfl, ?_⟩; have n0_ := Aside0.mk (Kd.R_below (by (with_reducible repeat (first | apply Kd.R_alloc | apply Kd.R_drewN | apply Kd.R_drew)); exact HO_3.out) hb); have n1_ := Aside0.mk (below_step (by repeat (first | (with_reducible first | exact HB.out | apply below_alloc | apply pw_below_drewN | apply below_drew1) | exact HB.out)) hb); clear HO_3; clear HB; have HO_3 := n0_; have HB := n1_; clear n0_ n1_; (try clear hb); (try clear hb2); (try clear hk); (try clear hi)) | (go_at_call 25; (with_reducible refine (style_Den.calls a0 t247 _ A32.out).mono ?_); rintro e w40 ⟨rfl, hb⟩; have n0_ := Aside0.mk (Kd.R_below (by (with_reducible repeat (first | apply Kd.R_alloc | apply Kd.R_drewN | apply Kd.R_drew)); exact HO_3.out) hb); have n1_ := Aside0.mk (below_step (by repeat (first | (with_reducible first | exact HB.out | apply below_alloc | apply pw_below_drewN | apply below_drew1) | exact HB.out)) hb); clear HO_3; clear HB; have HO_3 := n0_; have HB := n1_; clear n0_ n1_; (try clear hb); (try clear hb2); (try clear hk); (try clear hi)) | (go_at_call 13; (with_reducible refine (style_Cramp.calls a0 t248 _ A34.out).mono ?_); rintro e w41 ⟨rfl, hb⟩; have n0_ := Aside0.mk (Kd.R_below (by (with_reducible repeat (first | apply Kd.R_alloc | apply Kd.R_drewN | apply Kd.R_drew)); exact HO_3.out) hb); have n1_ := Aside0.mk (below_step (by repeat (first | (with_reducible first | exact HB.out | apply below_alloc | apply pw_below_drewN | apply below_drew1) | exact HB.out)) hb); clear HO_3; clear HB; have HO_3 := n0_; have HB := n1_; clear n0_ n1_; (try clear hb); (try clear hb2); (try clear hk); (try clear hi)) | (go_at_call 19; (with_reducible refine (style_Sup.calls a0 t249 _ A36.out).mono ?_); rintro e w42 ⟨rfl, hb⟩; have n0_ := Aside0.mk (Kd.R_below (by (with_reducible repeat (first | apply Kd.R_alloc | apply Kd.R_drewN | apply Kd.R_drew)); exact HO_3.out) hb); have n1_ := Aside0.mk (below_step (by repeat (first | (with_reducible first | exact HB.out | apply below_alloc | apply pw_below_drewN | apply below_drew1) | exact HB.out)) hb); clear HO_3; clear HB; have HO_3 := n0_; have HB := n1_; clear n0_ n1_; (try clear hb); (try clear hb2); (try clear hk); (try clear hi)) | (go_at_call 23; (with_reducible refine (style_Num.calls a0 t250 _ A38.out).mono ?_); rintro e w43 ⟨rfl, hb⟩; have n0_ := Aside0.mk (Kd.R_below (by (with_reducible repeat (first | apply Kd.R_alloc | apply Kd.R_drewN | apply Kd.R_drew)); exact HO_3.out) hb); have n1_ := Aside0.mk (below_step (by repeat (first | (with_reducible first | exact HB.out | apply below_alloc | apply pw_below_drewN | apply below_drew1) | exact HB.out)) hb); clear HO_3; clear HB; have HO_3 := n0_; have HB := n1_; clear n0_ n1_; (try clear hb); (try clear hb2); (try clear hk); (try clear hi)))
                    go_meet
                    case rel => exact ⟨_, (((Int.tmod t250 2) != (Int.tmod a0 2))), (by first | rfl | (simp; done) | (simp [*]; done)), H', ⟨by have := HK1.out; first | omega | exact Nat.le_refl _⟩, ⟨by repeat (first | (with_reducible first | exact HB.out | apply below_alloc | apply pw_below_drewN | apply below_drew1) | exact HB.out)⟩⟩
                  · rw [if_neg c37] at H
                    have c37b0 : ((Int.tmod t249 2) == (Int.tmod a0 2)) = false := beq_eq_false_iff_ne.mpr c37
                    have c37b1 : ((Int.tmod t249 2) != (Int.tmod a0 2)) = true := bne_iff_ne.mpr c37
                    have H' := Aside0.mk H
                    clear H
                    go_wp2_with (first | ((with_reducible refine gate_callee (f := 21) rfl ?_); refine goesL_ (some 86) rfl rfl Try.func21 (by kernel_rfl) rfl #[.int .i64 a0] rfl (by (try simp only [List.map_toArray, List.map_cons, List.map_nil]); first | done | rfl | (simp only [List.length_drop, List.length_take]; rfl)) ?_; (with_reducible refine (style_Sub.calls a0 t246 _ A30.out).mono ?_); rintro e w44 ⟨rfl, hb⟩; refine ⟨_, rfl, ?_⟩; have n0_ := Aside0.mk (Kd.R_below (by (with_reducible repeat (first | apply Kd.R_alloc | apply Kd.R_drewN | apply Kd.R_drew)); exact HO_3.out) hb); have n1_ := Aside0.mk (below_step (by repeat (first | (with_reducible first | exact HB.out | apply below_alloc | apply pw_below_drewN | apply below_drew1) | exact HB.out)) hb); clear HO_3; clear HB; have HO_3 := n0_; have HB := n1_; clear n0_ n1_; (try clear hb); (try clear hb2); (try clear hk); (try clear hi)) | (go_at_call 25; (with_reducible refine (style_Den.calls a0 t247 _ A32.out).mono ?_); rintro e w45 ⟨rfl, hb⟩; have n0_ := Aside0.mk (Kd.R_below (by (with_reducible repeat (first | apply Kd.R_alloc | apply Kd.R_drewN | apply Kd.R_drew)); exact HO_3.out) hb); have n1_ := Aside0.mk (below_step (by repeat (first | (with_reducible first | exact HB.out | apply below_alloc | apply pw_below_drewN | apply below_drew1) | exact HB.out)) hb); clear HO_3; clear HB; have HO_3 := n0_; have HB := n1_; clear n0_ n1_; (try clear hb); (try clear hb2); (try clear hk); (try clear hi)) | (go_at_call 13; (with_reducible refine (style_Cramp.calls a0 t248 _ A34.out).mono ?_); rintro e w46 ⟨rfl, hb⟩; have n0_ := Aside0.mk (Kd.R_below (by (with_reducible repeat (first | apply Kd.R_alloc | apply Kd.R_drewN | apply Kd.R_drew)); exact HO_3.out) hb); have n1_ := Aside0.mk (below_step (by repeat (first | (with_reducible first | exact HB.out | apply below_alloc | apply pw_below_drewN | apply below_drew1) | exact HB.out)) hb); clear HO_3; clear HB; have HO_3 := n0_; have HB := n1_; clear n0_ n1_; (try clear hb); (try clear hb2); (try clear hk); (try clear hi)) | (go_at_call 19; (with_reducible refine (style_Sup.calls a0 t249 _ A36.out).mono ?_); rintro e w47 ⟨rfl, hb⟩; have n0_ := Aside0.mk (Kd.R_below (by (with_reducible repeat (first | apply Kd.R_alloc | apply Kd.R_drewN | apply Kd.R_drew)); exact HO_3.out) hb); have n1_ := Aside0.mk (below_step (by repeat (first | (with_reducible first | exact HB.out | apply below_alloc | apply pw_below_drewN | apply below_drew1) | exact HB.out)) hb); clear HO_3; clear HB; have HO_3 := n0_; have HB := n1_; clear n0_ n1_; (try clear hb); (try clear hb2); (try clear hk); (try clear hi)))
                    go_meet
                    case rel => exact ⟨_, (true), (by first | rfl | (simp; done) | (simp [*]; done)), H', ⟨by have := HK1.out; first | omega | exact Nat.le_refl _⟩, ⟨by repeat (first | (with_reducible first | exact HB.out | apply below_alloc | apply pw_below_drewN | apply below_drew1) | exact HB.out)⟩⟩
                · rw [if_neg c35] at H
                  have c35b0 : (t248 == (wrap64 ((wrap64 ((wrap64 (Int.tdiv a0 2)) * 2)) + 1))) = false := beq_eq_false_iff_ne.mpr c35
                  have c35b1 : (t248 != (wrap64 ((wrap64 ((wrap64 (Int.tdiv a0 2)) * 2)) + 1))) = true := bne_iff_ne.mpr c35
                  have H' := Aside0.mk H
                  clear H
                  go_wp2_with (first | ((with_reducible refine gate_callee (f := 21) rfl ?_); refine goesL_ (some 86) rfl rfl Try.func21 (by kernel_rfl) rfl #[.int .i64 a0] rfl (by (try simp only [List.map_toArray, List.map_cons, List.map_nil]); first | done | rfl | (simp only [List.length_drop, List.length_take]; rfl)) ?_; (with_reducible refine (style_Sub.calls a0 t246 _ A30.out).mono ?_); rintro e w48 ⟨rfl, hb⟩; refine ⟨_, rfl, ?_⟩; have n0_ := Aside0.mk (Kd.R_below (by (with_reducible repeat (first | apply Kd.R_alloc | apply Kd.R_drewN | apply Kd.R_drew)); exact HO_3.out) hb); have n1_ := Aside0.mk (below_step (by repeat (first | (with_reducible first | exact HB.out | apply below_alloc | apply pw_below_drewN | apply below_drew1) | exact HB.out)) hb); clear HO_3; clear HB; have HO_3 := n0_; have HB := n1_; clear n0_ n1_; (try clear hb); (try clear hb2); (try clear hk); (try clear hi)) | (go_at_call 25; (with_reducible refine (style_Den.calls a0 t247 _ A32.out).mono ?_); rintro e w49 ⟨rfl, hb⟩; have n0_ := Aside0.mk (Kd.R_below (by (with_reducible repeat (first | apply Kd.R_alloc | apply Kd.R_drewN | apply Kd.R_drew)); exact HO_3.out) hb); have n1_ := Aside0.mk (below_step (by repeat (first | (with_reducible first | exact HB.out | apply below_alloc | apply pw_below_drewN | apply below_drew1) | exact HB.out)) hb); clear HO_3; clear HB; have HO_3 := n0_; have HB := n1_; clear n0_ n1_; (try clear hb); (try clear hb2); (try clear hk); (try clear hi)) | (go_at_call 13; (with_reducible refine (style_Cramp.calls a0 t248 _ A34.out).mono ?_); rintro e w50 ⟨rfl, hb⟩; have n0_ := Aside0.mk (Kd.R_below (by (with_reducible repeat (first | apply Kd.R_alloc | apply Kd.R_drewN | apply Kd.R_drew)); exact HO_3.out) hb); have n1_ := Aside0.mk (below_step (by repeat (first | (with_reducible first | exact HB.out | apply below_alloc | apply pw_below_drewN | apply below_drew1) | exact HB.out)) hb); clear HO_3; clear HB; have HO_3 := n0_; have HB := n1_; clear n0_ n1_; (try clear hb); (try clear hb2); (try clear hk); (try clear hi)))
                  go_meet
                  case rel => exact ⟨_, (true), (by first | rfl | (simp; done) | (simp [*]; done)), H', ⟨by have := HK1.out; first | omega | exact Nat.le_refl _⟩, ⟨by repeat (first | (with_reducible first | exact HB.out | apply below_alloc | apply pw_below_drewN | apply below_drew1) | exact HB.out)⟩⟩
              · rw [if_neg c33] at H
                have c33b0 : ((Int.tmod t247 2) == 1) = false := beq_eq_false_iff_ne.mpr c33
                have c33b1 : ((Int.tmod t247 2) != 1) = true := bne_iff_ne.mpr c33
                have H' := Aside0.mk H
                clear H
                go_wp2_with (first | ((with_reducible refine gate_callee (f := 21) rfl ?_); refine goesL_ (some 86) rfl rfl Try.func21 (by kernel_rfl) rfl #[.int .i64 a0] rfl (by (try simp only [List.map_toArray, List.map_cons, List.map_nil]); first | done | rfl | (simp only [List.length_drop, List.length_take]; rfl)) ?_; (with_reducible refine (style_Sub.calls a0 t246 _ A30.out).mono ?_); rintro e w51 ⟨rfl, hb⟩; refine ⟨_, rfl, ?_⟩; have n0_ := Aside0.mk (Kd.R_below (by (with_reducible repeat (first | apply Kd.R_alloc | apply Kd.R_drewN | apply Kd.R_drew)); exact HO_3.out) hb); have n1_ := Aside0.mk (below_step (by repeat (first | (with_reducible first | exact HB.out | apply below_alloc | apply pw_below_drewN | apply below_drew1) | exact HB.out)) hb); clear HO_3; clear HB; have HO_3 := n0_; have HB := n1_; clear n0_ n1_; (try clear hb); (try clear hb2); (try clear hk); (try clear hi)) | (go_at_call 25; (with_reducible refine (style_Den.calls a0 t247 _ A32.out).mono ?_); rintro e w52 ⟨rfl, hb⟩; have n0_ := Aside0.mk (Kd.R_below (by (with_reducible repeat (first | apply Kd.R_alloc | apply Kd.R_drewN | apply Kd.R_drew)); exact HO_3.out) hb); have n1_ := Aside0.mk (below_step (by repeat (first | (with_reducible first | exact HB.out | apply below_alloc | apply pw_below_drewN | apply below_drew1) | exact HB.out)) hb); clear HO_3; clear HB; have HO_3 := n0_; have HB := n1_; clear n0_ n1_; (try clear hb); (try clear hb2); (try clear hk); (try clear hi)))
                go_meet
                case rel => exact ⟨_, (true), (by first | rfl | (simp; done) | (simp [*]; done)), H', ⟨by have := HK1.out; first | omega | exact Nat.le_refl _⟩, ⟨by repeat (first | (with_reducible first | exact HB.out | apply below_alloc | apply pw_below_drewN | apply below_drew1) | exact HB.out)⟩⟩
            · rw [if_neg c31] at H
              have c31b0 : ((Int.tmod t246 2) == 1) = false := beq_eq_false_iff_ne.mpr c31
              have c31b1 : ((Int.tmod t246 2) != 1) = true := bne_iff_ne.mpr c31
              (first | rw [c31b0] | (simp only [i64_w, i32_w]; rw [c31b0]) | skip)
              have H' := Aside0.mk H
              clear H
              go_wp2_with (first | ((with_reducible refine gate_callee (f := 21) rfl ?_); refine goesL_ (some 86) rfl rfl Try.func21 (by kernel_rfl) rfl #[.int .i64 a0] rfl (by (try simp only [List.map_toArray, List.map_cons, List.map_nil]); first | done | rfl | (simp only [List.length_drop, List.length_take]; rfl)) ?_; (with_reducible refine (style_Sub.calls a0 t246 _ A30.out).mono ?_); rintro e w53 ⟨rfl, hb⟩; refine ⟨_, rfl, ?_⟩; have n0_ := Aside0.mk (Kd.R_below (by (with_reducible repeat (first | apply Kd.R_alloc | apply Kd.R_drewN | apply Kd.R_drew)); exact HO_3.out) hb); have n1_ := Aside0.mk (below_step (by repeat (first | (with_reducible first | exact HB.out | apply below_alloc | apply pw_below_drewN | apply below_drew1) | exact HB.out)) hb); clear HO_3; clear HB; have HO_3 := n0_; have HB := n1_; clear n0_ n1_; (try clear hb); (try clear hb2); (try clear hk); (try clear hi)))
              go_meet
              case rel => exact ⟨_, (true), (by first | rfl | (simp; done) | (simp [*]; done)), H', ⟨by have := HK1.out; first | omega | exact Nat.le_refl _⟩, ⟨by repeat (first | (with_reducible first | exact HB.out | apply below_alloc | apply pw_below_drewN | apply below_drew1) | exact HB.out)⟩⟩
          case rest =>
            clear HC28
            try clear c1
            try clear c2
            try clear p2
            try clear q2
            try clear hx2
            try clear c3
            try clear c6
            try clear p6
            try clear c13
            try clear c16
            try clear c16b0
            try clear c17
            try clear c17b0
            try clear c19
            try clear c20
            try clear c20b0
            try clear c21
            try clear c22
            try clear c22b0
            try clear c22b1
            try clear c23
            try clear c23b0
            try clear c23b1
            try clear p24
            try clear q24
            try clear hx24
            try clear c25
            try clear c31
            try clear c31b0
            try clear c31b1
            try clear c33
            try clear c33b0
            try clear c33b1
            try clear c35
            try clear c35b0
            try clear c35b1
            try clear c37
            try clear c37b0
            try clear c37b1
            try clear hx242_0
            try clear hx244_0
            try clear hx245_0
            try clear p2
            try clear p242
            try clear p244
            try clear p245
            try clear q242
            try clear q244
            try clear q245
            obtain ⟨kq, x119_27, rfl, HA, HJ27, HB⟩ := hcut
            cases kq with
            | zero => exact absurd HA.out (by simp [vinculumlaw22_StyleDown.j1])
            | succ kj27 =>
              have H := HA.out
              clear HA
              simp only [vinculumlaw22_StyleDown.j1] at H
              by_cases c54 : x119_27 = true
              · subst c54
                have H1 : (some false) = some r := by rw [if_pos rfl] at H; exact H
                clear H
                have H := H1
                clear H1
                obtain rfl := Option.some.inj H
                go_wp2
                go_ret
                exact ⟨by first | rfl | (simp [errW_none, errW_some] <;> rfl) | (simp [*, errW_none, errW_some] <;> rfl), by repeat (first | (with_reducible first | exact HB.out | apply below_alloc | apply pw_below_drewN | apply below_drew1) | exact HB.out)⟩
              · replace c54 := Bool.eq_false_iff.mpr c54
                subst c54
                have H1 : ((vinculumlaw22_styled.f).bind fun t251 => (if t251 = true then ((style_Sup.f a0).bind fun t252 => ((style_Sup.f t252).bind fun t253 => (if t253 ≥ 6 then ((style_Num.f a0).bind fun t254 => ((style_Num.f t254).bind fun t255 => ((style_Num.f t255).bind fun t256 => (if t256 ≥ 6 then ((style_Sub.f a0).bind fun t257 => ((style_Cramp.f t257).bind fun t258 => ((style_Sub.f a0).bind fun t259 => (some (t258 == t259))))) else (some false))))) else (some false)))) else (some false))) = some r := by rw [if_neg (show ¬ (false = true) by decide)] at H; exact H
                clear H
                have H := H1
                clear H1
                replace H := Option.bind_eq_some_iff.mp H
                obtain ⟨t251, A550, H⟩ := H
                replace H : (if t251 = true then ((style_Sup.f a0).bind fun t252 => ((style_Sup.f t252).bind fun t253 => (if t253 ≥ 6 then ((style_Num.f a0).bind fun t254 => ((style_Num.f t254).bind fun t255 => ((style_Num.f t255).bind fun t256 => (if t256 ≥ 6 then ((style_Sub.f a0).bind fun t257 => ((style_Cramp.f t257).bind fun t258 => ((style_Sub.f a0).bind fun t259 => (some (t258 == t259))))) else (some false))))) else (some false)))) else (some false)) = some r := H
                have A55 := Aside0.mk A550
                clear A550
                by_cases c56 : t251 = true
                · subst c56
                  have H1 : ((style_Sup.f a0).bind fun t252 => ((style_Sup.f t252).bind fun t253 => (if t253 ≥ 6 then ((style_Num.f a0).bind fun t254 => ((style_Num.f t254).bind fun t255 => ((style_Num.f t255).bind fun t256 => (if t256 ≥ 6 then ((style_Sub.f a0).bind fun t257 => ((style_Cramp.f t257).bind fun t258 => ((style_Sub.f a0).bind fun t259 => (some (t258 == t259))))) else (some false))))) else (some false)))) = some r := by rw [if_pos rfl] at H; exact H
                  clear H
                  have H := H1
                  clear H1
                  replace H := Option.bind_eq_some_iff.mp H
                  obtain ⟨t252, A570, H⟩ := H
                  replace H : ((style_Sup.f t252).bind fun t253 => (if t253 ≥ 6 then ((style_Num.f a0).bind fun t254 => ((style_Num.f t254).bind fun t255 => ((style_Num.f t255).bind fun t256 => (if t256 ≥ 6 then ((style_Sub.f a0).bind fun t257 => ((style_Cramp.f t257).bind fun t258 => ((style_Sub.f a0).bind fun t259 => (some (t258 == t259))))) else (some false))))) else (some false))) = some r := H
                  have A57 := Aside0.mk A570
                  clear A570
                  replace H := Option.bind_eq_some_iff.mp H
                  obtain ⟨t253, A580, H⟩ := H
                  replace H : (if t253 ≥ 6 then ((style_Num.f a0).bind fun t254 => ((style_Num.f t254).bind fun t255 => ((style_Num.f t255).bind fun t256 => (if t256 ≥ 6 then ((style_Sub.f a0).bind fun t257 => ((style_Cramp.f t257).bind fun t258 => ((style_Sub.f a0).bind fun t259 => (some (t258 == t259))))) else (some false))))) else (some false)) = some r := H
                  have A58 := Aside0.mk A580
                  clear A580
                  by_cases c59 : t253 ≥ 6
                  · rw [if_pos c59] at H
                    have c59b0 : decide (6 ≤ t253) = true := decide_eq_true c59
                    clear c59
                    replace H := Option.bind_eq_some_iff.mp H
                    obtain ⟨t254, A600, H⟩ := H
                    replace H : ((style_Num.f t254).bind fun t255 => ((style_Num.f t255).bind fun t256 => (if t256 ≥ 6 then ((style_Sub.f a0).bind fun t257 => ((style_Cramp.f t257).bind fun t258 => ((style_Sub.f a0).bind fun t259 => (some (t258 == t259))))) else (some false)))) = some r := H
                    have A60 := Aside0.mk A600
                    clear A600
                    replace H := Option.bind_eq_some_iff.mp H
                    obtain ⟨t255, A610, H⟩ := H
                    replace H : ((style_Num.f t255).bind fun t256 => (if t256 ≥ 6 then ((style_Sub.f a0).bind fun t257 => ((style_Cramp.f t257).bind fun t258 => ((style_Sub.f a0).bind fun t259 => (some (t258 == t259))))) else (some false))) = some r := H
                    have A61 := Aside0.mk A610
                    clear A610
                    replace H := Option.bind_eq_some_iff.mp H
                    obtain ⟨t256, A620, H⟩ := H
                    replace H : (if t256 ≥ 6 then ((style_Sub.f a0).bind fun t257 => ((style_Cramp.f t257).bind fun t258 => ((style_Sub.f a0).bind fun t259 => (some (t258 == t259))))) else (some false)) = some r := H
                    have A62 := Aside0.mk A620
                    clear A620
                    by_cases c63 : t256 ≥ 6
                    · rw [if_pos c63] at H
                      have c63b0 : decide (6 ≤ t256) = true := decide_eq_true c63
                      clear c63
                      replace H := Option.bind_eq_some_iff.mp H
                      obtain ⟨t257, A640, H⟩ := H
                      replace H : ((style_Cramp.f t257).bind fun t258 => ((style_Sub.f a0).bind fun t259 => (some (t258 == t259)))) = some r := H
                      have A64 := Aside0.mk A640
                      clear A640
                      replace H := Option.bind_eq_some_iff.mp H
                      obtain ⟨t258, A650, H⟩ := H
                      replace H : ((style_Sub.f a0).bind fun t259 => (some (t258 == t259))) = some r := H
                      have A65 := Aside0.mk A650
                      clear A650
                      replace H := Option.bind_eq_some_iff.mp H
                      obtain ⟨t259, A660, H⟩ := H
                      replace H : (some (t258 == t259)) = some r := H
                      have A66 := Aside0.mk A660
                      clear A660
                      obtain rfl := Option.some.inj H
                      go_wp2_with (first | ((with_reducible refine gate_callee (f := 9) rfl ?_); refine goesL_ (some 120) rfl rfl Try.func9 (by kernel_rfl) rfl #[] rfl (by (try simp only [List.map_toArray, List.map_cons, List.map_nil]); first | done | rfl | (simp only [List.length_drop, List.length_take]; rfl)) ?_; (with_reducible refine (vinculumlaw22_styled.calls  true _ A55.out).mono ?_); rintro e w67 ⟨rfl, hb⟩; refine ⟨_, rfl, ?_⟩; have n0_ := Aside0.mk (below_step (by repeat (first | (with_reducible first | exact HB.out | apply below_alloc | apply pw_below_drewN | apply below_drew1) | exact HB.out)) hb); clear HB; have HB := n0_; clear n0_; (try clear hb); (try clear hb2); (try clear hk); (try clear hi)) | (go_at_call 19; (with_reducible refine (style_Sup.calls a0 t252 _ A57.out).mono ?_); rintro e w68 ⟨rfl, hb⟩; have n0_ := Aside0.mk (below_step (by repeat (first | (with_reducible first | exact HB.out | apply below_alloc | apply pw_below_drewN | apply below_drew1) | exact HB.out)) hb); clear HB; have HB := n0_; clear n0_; (try clear hb); (try clear hb2); (try clear hk); (try clear hi)) | (go_at_call 19; (with_reducible refine (style_Sup.calls t252 t253 _ A58.out).mono ?_); rintro e w69 ⟨rfl, hb⟩; have n0_ := Aside0.mk (below_step (by repeat (first | (with_reducible first | exact HB.out | apply below_alloc | apply pw_below_drewN | apply below_drew1) | exact HB.out)) hb); clear HB; have HB := n0_; clear n0_; (try clear hb); (try clear hb2); (try clear hk); (try clear hi)) | (go_at_call 23; (with_reducible refine (style_Num.calls a0 t254 _ A60.out).mono ?_); rintro e w70 ⟨rfl, hb⟩; have n0_ := Aside0.mk (below_step (by repeat (first | (with_reducible first | exact HB.out | apply below_alloc | apply pw_below_drewN | apply below_drew1) | exact HB.out)) hb); clear HB; have HB := n0_; clear n0_; (try clear hb); (try clear hb2); (try clear hk); (try clear hi)) | (go_at_call 23; (with_reducible refine (style_Num.calls t254 t255 _ A61.out).mono ?_); rintro e w71 ⟨rfl, hb⟩; have n0_ := Aside0.mk (below_step (by repeat (first | (with_reducible first | exact HB.out | apply below_alloc | apply pw_below_drewN | apply below_drew1) | exact HB.out)) hb); clear HB; have HB := n0_; clear n0_; (try clear hb); (try clear hb2); (try clear hk); (try clear hi)) | (go_at_call 23; (with_reducible refine (style_Num.calls t255 t256 _ A62.out).mono ?_); rintro e w72 ⟨rfl, hb⟩; have n0_ := Aside0.mk (below_step (by repeat (first | (with_reducible first | exact HB.out | apply below_alloc | apply pw_below_drewN | apply below_drew1) | exact HB.out)) hb); clear HB; have HB := n0_; clear n0_; (try clear hb); (try clear hb2); (try clear hk); (try clear hi)) | (go_at_call 21; (with_reducible refine (style_Sub.calls a0 t257 _ A64.out).mono ?_); rintro e w73 ⟨rfl, hb⟩; have n0_ := Aside0.mk (below_step (by repeat (first | (with_reducible first | exact HB.out | apply below_alloc | apply pw_below_drewN | apply below_drew1) | exact HB.out)) hb); clear HB; have HB := n0_; clear n0_; (try clear hb); (try clear hb2); (try clear hk); (try clear hi)) | (go_at_call 13; (with_reducible refine (style_Cramp.calls t257 t258 _ A65.out).mono ?_); rintro e w74 ⟨rfl, hb⟩; have n0_ := Aside0.mk (below_step (by repeat (first | (with_reducible first | exact HB.out | apply below_alloc | apply pw_below_drewN | apply below_drew1) | exact HB.out)) hb); clear HB; have HB := n0_; clear n0_; (try clear hb); (try clear hb2); (try clear hk); (try clear hi)) | (go_at_call 21; (with_reducible refine (style_Sub.calls a0 t259 _ A66.out).mono ?_); rintro e w75 ⟨rfl, hb⟩; have n0_ := Aside0.mk (below_step (by repeat (first | (with_reducible first | exact HB.out | apply below_alloc | apply pw_below_drewN | apply below_drew1) | exact HB.out)) hb); clear HB; have HB := n0_; clear n0_; (try clear hb); (try clear hb2); (try clear hk); (try clear hi)))
                      go_ret
                      exact ⟨by first | rfl | (rw [Option.some.inj (A66.out.symm.trans A64.out)]; rfl) | (simp [errW_none, errW_some] <;> rfl) | (simp [*, errW_none, errW_some] <;> rfl), by repeat (first | (with_reducible first | exact HB.out | apply below_alloc | apply pw_below_drewN | apply below_drew1) | exact HB.out)⟩
                    · rw [if_neg c63] at H
                      have c63b0 : decide (6 ≤ t256) = false := decide_eq_false c63
                      clear c63
                      obtain rfl := Option.some.inj H
                      go_wp2_with (first | ((with_reducible refine gate_callee (f := 9) rfl ?_); refine goesL_ (some 120) rfl rfl Try.func9 (by kernel_rfl) rfl #[] rfl (by (try simp only [List.map_toArray, List.map_cons, List.map_nil]); first | done | rfl | (simp only [List.length_drop, List.length_take]; rfl)) ?_; (with_reducible refine (vinculumlaw22_styled.calls  true _ A55.out).mono ?_); rintro e w76 ⟨rfl, hb⟩; refine ⟨_, rfl, ?_⟩; have n0_ := Aside0.mk (below_step (by repeat (first | (with_reducible first | exact HB.out | apply below_alloc | apply pw_below_drewN | apply below_drew1) | exact HB.out)) hb); clear HB; have HB := n0_; clear n0_; (try clear hb); (try clear hb2); (try clear hk); (try clear hi)) | (go_at_call 19; (with_reducible refine (style_Sup.calls a0 t252 _ A57.out).mono ?_); rintro e w77 ⟨rfl, hb⟩; have n0_ := Aside0.mk (below_step (by repeat (first | (with_reducible first | exact HB.out | apply below_alloc | apply pw_below_drewN | apply below_drew1) | exact HB.out)) hb); clear HB; have HB := n0_; clear n0_; (try clear hb); (try clear hb2); (try clear hk); (try clear hi)) | (go_at_call 19; (with_reducible refine (style_Sup.calls t252 t253 _ A58.out).mono ?_); rintro e w78 ⟨rfl, hb⟩; have n0_ := Aside0.mk (below_step (by repeat (first | (with_reducible first | exact HB.out | apply below_alloc | apply pw_below_drewN | apply below_drew1) | exact HB.out)) hb); clear HB; have HB := n0_; clear n0_; (try clear hb); (try clear hb2); (try clear hk); (try clear hi)) | (go_at_call 23; (with_reducible refine (style_Num.calls a0 t254 _ A60.out).mono ?_); rintro e w79 ⟨rfl, hb⟩; have n0_ := Aside0.mk (below_step (by repeat (first | (with_reducible first | exact HB.out | apply below_alloc | apply pw_below_drewN | apply below_drew1) | exact HB.out)) hb); clear HB; have HB := n0_; clear n0_; (try clear hb); (try clear hb2); (try clear hk); (try clear hi)) | (go_at_call 23; (with_reducible refine (style_Num.calls t254 t255 _ A61.out).mono ?_); rintro e w80 ⟨rfl, hb⟩; have n0_ := Aside0.mk (below_step (by repeat (first | (with_reducible first | exact HB.out | apply below_alloc | apply pw_below_drewN | apply below_drew1) | exact HB.out)) hb); clear HB; have HB := n0_; clear n0_; (try clear hb); (try clear hb2); (try clear hk); (try clear hi)) | (go_at_call 23; (with_reducible refine (style_Num.calls t255 t256 _ A62.out).mono ?_); rintro e w81 ⟨rfl, hb⟩; have n0_ := Aside0.mk (below_step (by repeat (first | (with_reducible first | exact HB.out | apply below_alloc | apply pw_below_drewN | apply below_drew1) | exact HB.out)) hb); clear HB; have HB := n0_; clear n0_; (try clear hb); (try clear hb2); (try clear hk); (try clear hi)))
                      go_ret
                      exact ⟨by first | rfl | (simp [errW_none, errW_some] <;> rfl) | (simp [*, errW_none, errW_some] <;> rfl), by repeat (first | (with_reducible first | exact HB.out | apply below_alloc | apply pw_below_drewN | apply below_drew1) | exact HB.out)⟩
                  · rw [if_neg c59] at H
                    have c59b0 : decide (6 ≤ t253) = false := decide_eq_false c59
                    clear c59
                    obtain rfl := Option.some.inj H
                    go_wp2_with (first | ((with_reducible refine gate_callee (f := 9) rfl ?_); refine goesL_ (some 120) rfl rfl Try.func9 (by kernel_rfl) rfl #[] rfl (by (try simp only [List.map_toArray, List.map_cons, List.map_nil]); first | done | rfl | (simp only [List.length_drop, List.length_take]; rfl)) ?_; (with_reducible refine (vinculumlaw22_styled.calls  true _ A55.out).mono ?_); rintro e w82 ⟨rfl, hb⟩; refine ⟨_, rfl, ?_⟩; have n0_ := Aside0.mk (below_step (by repeat (first | (with_reducible first | exact HB.out | apply below_alloc | apply pw_below_drewN | apply below_drew1) | exact HB.out)) hb); clear HB; have HB := n0_; clear n0_; (try clear hb); (try clear hb2); (try clear hk); (try clear hi)) | (go_at_call 19; (with_reducible refine (style_Sup.calls a0 t252 _ A57.out).mono ?_); rintro e w83 ⟨rfl, hb⟩; have n0_ := Aside0.mk (below_step (by repeat (first | (with_reducible first | exact HB.out | apply below_alloc | apply pw_below_drewN | apply below_drew1) | exact HB.out)) hb); clear HB; have HB := n0_; clear n0_; (try clear hb); (try clear hb2); (try clear hk); (try clear hi)) | (go_at_call 19; (with_reducible refine (style_Sup.calls t252 t253 _ A58.out).mono ?_); rintro e w84 ⟨rfl, hb⟩; have n0_ := Aside0.mk (below_step (by repeat (first | (with_reducible first | exact HB.out | apply below_alloc | apply pw_below_drewN | apply below_drew1) | exact HB.out)) hb); clear HB; have HB := n0_; clear n0_; (try clear hb); (try clear hb2); (try clear hk); (try clear hi)))
                    go_ret
                    exact ⟨by first | rfl | (simp [errW_none, errW_some] <;> rfl) | (simp [*, errW_none, errW_some] <;> rfl), by repeat (first | (with_reducible first | exact HB.out | apply below_alloc | apply pw_below_drewN | apply below_drew1) | exact HB.out)⟩
                · replace c56 := Bool.eq_false_iff.mpr c56
                  subst c56
                  have H1 : (some false) = some r := by rw [if_neg (show ¬ (false = true) by decide)] at H; exact H
                  clear H
                  have H := H1
                  clear H1
                  obtain rfl := Option.some.inj H
                  go_wp2_with (first | ((with_reducible refine gate_callee (f := 9) rfl ?_); refine goesL_ (some 120) rfl rfl Try.func9 (by kernel_rfl) rfl #[] rfl (by (try simp only [List.map_toArray, List.map_cons, List.map_nil]); first | done | rfl | (simp only [List.length_drop, List.length_take]; rfl)) ?_; (with_reducible refine (vinculumlaw22_styled.calls  false _ A55.out).mono ?_); rintro e w85 ⟨rfl, hb⟩; refine ⟨_, rfl, ?_⟩; have n0_ := Aside0.mk (below_step (by repeat (first | (with_reducible first | exact HB.out | apply below_alloc | apply pw_below_drewN | apply below_drew1) | exact HB.out)) hb); clear HB; have HB := n0_; clear n0_; (try clear hb); (try clear hb2); (try clear hk); (try clear hi)))
                  go_ret
                  exact ⟨by first | rfl | (simp [errW_none, errW_some] <;> rfl) | (simp [*, errW_none, errW_some] <;> rfl), by repeat (first | (with_reducible first | exact HB.out | apply below_alloc | apply pw_below_drewN | apply below_drew1) | exact HB.out)⟩
  · replace c3 := Bool.eq_false_iff.mpr c3
    subst c3
    have H1 : ((vinculumlaw22_styled.f).bind fun t228 => (if t228 = true then ((style_Sup.f a0).bind fun t229 => (if t229 = a0 then ((style_Sub.f a0).bind fun t230 => (if t230 = a0 then ((style_Num.f a0).bind fun t231 => (if t231 = a0 then ((style_Den.f a0).bind fun t232 => (if t232 = a0 then ((style_Cramp.f a0).bind fun t233 => (some (t233 == a0))) else (some false))) else (some false))) else (some false))) else (some false))) else (some false))) = some r := by rw [if_neg (show ¬ (false = true) by decide)] at H; exact H
    clear H
    have H := H1
    clear H1
    replace H := Option.bind_eq_some_iff.mp H
    obtain ⟨t228, A860, H⟩ := H
    replace H : (if t228 = true then ((style_Sup.f a0).bind fun t229 => (if t229 = a0 then ((style_Sub.f a0).bind fun t230 => (if t230 = a0 then ((style_Num.f a0).bind fun t231 => (if t231 = a0 then ((style_Den.f a0).bind fun t232 => (if t232 = a0 then ((style_Cramp.f a0).bind fun t233 => (some (t233 == a0))) else (some false))) else (some false))) else (some false))) else (some false))) else (some false)) = some r := H
    have A86 := Aside0.mk A860
    clear A860
    by_cases c87 : t228 = true
    · subst c87
      have H1 : ((style_Sup.f a0).bind fun t229 => (if t229 = a0 then ((style_Sub.f a0).bind fun t230 => (if t230 = a0 then ((style_Num.f a0).bind fun t231 => (if t231 = a0 then ((style_Den.f a0).bind fun t232 => (if t232 = a0 then ((style_Cramp.f a0).bind fun t233 => (some (t233 == a0))) else (some false))) else (some false))) else (some false))) else (some false))) = some r := by rw [if_pos rfl] at H; exact H
      clear H
      have H := H1
      clear H1
      replace H := Option.bind_eq_some_iff.mp H
      obtain ⟨t229, A880, H⟩ := H
      replace H : (if t229 = a0 then ((style_Sub.f a0).bind fun t230 => (if t230 = a0 then ((style_Num.f a0).bind fun t231 => (if t231 = a0 then ((style_Den.f a0).bind fun t232 => (if t232 = a0 then ((style_Cramp.f a0).bind fun t233 => (some (t233 == a0))) else (some false))) else (some false))) else (some false))) else (some false)) = some r := H
      have A88 := Aside0.mk A880
      clear A880
      by_cases c89 : t229 = a0
      · rw [if_pos c89] at H
        have c89b0 : (t229 == a0) = true := beq_iff_eq.mpr c89
        have c89b1 : (t229 != a0) = false := bne_eq_false_iff_eq.mpr c89
        clear c89
        replace H := Option.bind_eq_some_iff.mp H
        obtain ⟨t230, A900, H⟩ := H
        replace H : (if t230 = a0 then ((style_Num.f a0).bind fun t231 => (if t231 = a0 then ((style_Den.f a0).bind fun t232 => (if t232 = a0 then ((style_Cramp.f a0).bind fun t233 => (some (t233 == a0))) else (some false))) else (some false))) else (some false)) = some r := H
        have A90 := Aside0.mk A900
        clear A900
        by_cases c91 : t230 = a0
        · rw [if_pos c91] at H
          have c91b0 : (t230 == a0) = true := beq_iff_eq.mpr c91
          have c91b1 : (t230 != a0) = false := bne_eq_false_iff_eq.mpr c91
          clear c91
          replace H := Option.bind_eq_some_iff.mp H
          obtain ⟨t231, A920, H⟩ := H
          replace H : (if t231 = a0 then ((style_Den.f a0).bind fun t232 => (if t232 = a0 then ((style_Cramp.f a0).bind fun t233 => (some (t233 == a0))) else (some false))) else (some false)) = some r := H
          have A92 := Aside0.mk A920
          clear A920
          by_cases c93 : t231 = a0
          · rw [if_pos c93] at H
            have c93b0 : (t231 == a0) = true := beq_iff_eq.mpr c93
            have c93b1 : (t231 != a0) = false := bne_eq_false_iff_eq.mpr c93
            clear c93
            replace H := Option.bind_eq_some_iff.mp H
            obtain ⟨t232, A940, H⟩ := H
            replace H : (if t232 = a0 then ((style_Cramp.f a0).bind fun t233 => (some (t233 == a0))) else (some false)) = some r := H
            have A94 := Aside0.mk A940
            clear A940
            by_cases c95 : t232 = a0
            · rw [if_pos c95] at H
              have c95b0 : (t232 == a0) = true := beq_iff_eq.mpr c95
              have c95b1 : (t232 != a0) = false := bne_eq_false_iff_eq.mpr c95
              clear c95
              replace H := Option.bind_eq_some_iff.mp H
              obtain ⟨t233, A960, H⟩ := H
              replace H : (some (t233 == a0)) = some r := H
              have A96 := Aside0.mk A960
              clear A960
              obtain rfl := Option.some.inj H
              go_enter Try.func6, Try.ntmps6
              go_wp2_with (first | ((with_reducible refine gate_callee (f := 16) rfl ?_); refine goesL_ (some 6) rfl rfl Try.func16 (by kernel_rfl) rfl #[.int .i64 a0] rfl (by (try simp only [List.map_toArray, List.map_cons, List.map_nil]); first | done | rfl | (simp only [List.length_drop, List.length_take]; rfl)) ?_; (with_reducible refine (style_Is.calls a0 false _ A2.out).mono ?_); rintro e w' ⟨rfl, ⟨nd, rfl⟩⟩; refine ⟨_, rfl, ?_⟩) | ((with_reducible refine gate_callee (f := 9) rfl ?_); refine goesL_ (some 8) rfl rfl Try.func9 (by kernel_rfl) rfl #[] rfl (by (try simp only [List.map_toArray, List.map_cons, List.map_nil]); first | done | rfl | (simp only [List.length_drop, List.length_take]; rfl)) ?_; (with_reducible refine (vinculumlaw22_styled.calls  true _ A86.out).mono ?_); rintro e w97 ⟨rfl, hb⟩; refine ⟨_, rfl, ?_⟩; have n0_ := Aside0.mk (below_step (by repeat (first | (with_reducible first | exact HB.out | apply below_alloc | apply pw_below_drewN | apply below_drew1) | exact HB.out)) hb); clear HB; have HB := n0_; clear n0_; (try clear hb); (try clear hb2); (try clear hk); (try clear hi)) | (go_at_call 19; (with_reducible refine (style_Sup.calls a0 t229 _ A88.out).mono ?_); rintro e w98 ⟨rfl, hb⟩; have n0_ := Aside0.mk (below_step (by repeat (first | (with_reducible first | exact HB.out | apply below_alloc | apply pw_below_drewN | apply below_drew1) | exact HB.out)) hb); clear HB; have HB := n0_; clear n0_; (try clear hb); (try clear hb2); (try clear hk); (try clear hi)) | (go_at_call 21; (with_reducible refine (style_Sub.calls a0 t230 _ A90.out).mono ?_); rintro e w99 ⟨rfl, hb⟩; have n0_ := Aside0.mk (below_step (by repeat (first | (with_reducible first | exact HB.out | apply below_alloc | apply pw_below_drewN | apply below_drew1) | exact HB.out)) hb); clear HB; have HB := n0_; clear n0_; (try clear hb); (try clear hb2); (try clear hk); (try clear hi)) | (go_at_call 23; (with_reducible refine (style_Num.calls a0 t231 _ A92.out).mono ?_); rintro e w100 ⟨rfl, hb⟩; have n0_ := Aside0.mk (below_step (by repeat (first | (with_reducible first | exact HB.out | apply below_alloc | apply pw_below_drewN | apply below_drew1) | exact HB.out)) hb); clear HB; have HB := n0_; clear n0_; (try clear hb); (try clear hb2); (try clear hk); (try clear hi)) | (go_at_call 25; (with_reducible refine (style_Den.calls a0 t232 _ A94.out).mono ?_); rintro e w101 ⟨rfl, hb⟩; have n0_ := Aside0.mk (below_step (by repeat (first | (with_reducible first | exact HB.out | apply below_alloc | apply pw_below_drewN | apply below_drew1) | exact HB.out)) hb); clear HB; have HB := n0_; clear n0_; (try clear hb); (try clear hb2); (try clear hk); (try clear hi)) | (go_at_call 13; (with_reducible refine (style_Cramp.calls a0 t233 _ A96.out).mono ?_); rintro e w102 ⟨rfl, hb⟩; have n0_ := Aside0.mk (below_step (by repeat (first | (with_reducible first | exact HB.out | apply below_alloc | apply pw_below_drewN | apply below_drew1) | exact HB.out)) hb); clear HB; have HB := n0_; clear n0_; (try clear hb); (try clear hb2); (try clear hk); (try clear hi)))
              go_ret
              exact ⟨by first | rfl | (simp [errW_none, errW_some] <;> rfl) | (simp [*, errW_none, errW_some] <;> rfl), by repeat (first | (with_reducible first | exact HB.out | apply below_alloc | apply pw_below_drewN | apply below_drew1) | exact HB.out)⟩
            · rw [if_neg c95] at H
              have c95b0 : (t232 == a0) = false := beq_eq_false_iff_ne.mpr c95
              have c95b1 : (t232 != a0) = true := bne_iff_ne.mpr c95
              obtain rfl := Option.some.inj H
              go_enter Try.func6, Try.ntmps6
              go_wp2_with (first | ((with_reducible refine gate_callee (f := 16) rfl ?_); refine goesL_ (some 6) rfl rfl Try.func16 (by kernel_rfl) rfl #[.int .i64 a0] rfl (by (try simp only [List.map_toArray, List.map_cons, List.map_nil]); first | done | rfl | (simp only [List.length_drop, List.length_take]; rfl)) ?_; (with_reducible refine (style_Is.calls a0 false _ A2.out).mono ?_); rintro e w' ⟨rfl, ⟨nd, rfl⟩⟩; refine ⟨_, rfl, ?_⟩) | ((with_reducible refine gate_callee (f := 9) rfl ?_); refine goesL_ (some 8) rfl rfl Try.func9 (by kernel_rfl) rfl #[] rfl (by (try simp only [List.map_toArray, List.map_cons, List.map_nil]); first | done | rfl | (simp only [List.length_drop, List.length_take]; rfl)) ?_; (with_reducible refine (vinculumlaw22_styled.calls  true _ A86.out).mono ?_); rintro e w103 ⟨rfl, hb⟩; refine ⟨_, rfl, ?_⟩; have n0_ := Aside0.mk (below_step (by repeat (first | (with_reducible first | exact HB.out | apply below_alloc | apply pw_below_drewN | apply below_drew1) | exact HB.out)) hb); clear HB; have HB := n0_; clear n0_; (try clear hb); (try clear hb2); (try clear hk); (try clear hi)) | (go_at_call 19; (with_reducible refine (style_Sup.calls a0 t229 _ A88.out).mono ?_); rintro e w104 ⟨rfl, hb⟩; have n0_ := Aside0.mk (below_step (by repeat (first | (with_reducible first | exact HB.out | apply below_alloc | apply pw_below_drewN | apply below_drew1) | exact HB.out)) hb); clear HB; have HB := n0_; clear n0_; (try clear hb); (try clear hb2); (try clear hk); (try clear hi)) | (go_at_call 21; (with_reducible refine (style_Sub.calls a0 t230 _ A90.out).mono ?_); rintro e w105 ⟨rfl, hb⟩; have n0_ := Aside0.mk (below_step (by repeat (first | (with_reducible first | exact HB.out | apply below_alloc | apply pw_below_drewN | apply below_drew1) | exact HB.out)) hb); clear HB; have HB := n0_; clear n0_; (try clear hb); (try clear hb2); (try clear hk); (try clear hi)) | (go_at_call 23; (with_reducible refine (style_Num.calls a0 t231 _ A92.out).mono ?_); rintro e w106 ⟨rfl, hb⟩; have n0_ := Aside0.mk (below_step (by repeat (first | (with_reducible first | exact HB.out | apply below_alloc | apply pw_below_drewN | apply below_drew1) | exact HB.out)) hb); clear HB; have HB := n0_; clear n0_; (try clear hb); (try clear hb2); (try clear hk); (try clear hi)) | (go_at_call 25; (with_reducible refine (style_Den.calls a0 t232 _ A94.out).mono ?_); rintro e w107 ⟨rfl, hb⟩; have n0_ := Aside0.mk (below_step (by repeat (first | (with_reducible first | exact HB.out | apply below_alloc | apply pw_below_drewN | apply below_drew1) | exact HB.out)) hb); clear HB; have HB := n0_; clear n0_; (try clear hb); (try clear hb2); (try clear hk); (try clear hi)))
              go_ret
              exact ⟨by first | rfl | (simp [errW_none, errW_some] <;> rfl) | (simp [*, errW_none, errW_some] <;> rfl), by repeat (first | (with_reducible first | exact HB.out | apply below_alloc | apply pw_below_drewN | apply below_drew1) | exact HB.out)⟩
          · rw [if_neg c93] at H
            have c93b0 : (t231 == a0) = false := beq_eq_false_iff_ne.mpr c93
            have c93b1 : (t231 != a0) = true := bne_iff_ne.mpr c93
            obtain rfl := Option.some.inj H
            go_enter Try.func6, Try.ntmps6
            go_wp2_with (first | ((with_reducible refine gate_callee (f := 16) rfl ?_); refine goesL_ (some 6) rfl rfl Try.func16 (by kernel_rfl) rfl #[.int .i64 a0] rfl (by (try simp only [List.map_toArray, List.map_cons, List.map_nil]); first | done | rfl | (simp only [List.length_drop, List.length_take]; rfl)) ?_; (with_reducible refine (style_Is.calls a0 false _ A2.out).mono ?_); rintro e w' ⟨rfl, ⟨nd, rfl⟩⟩; refine ⟨_, rfl, ?_⟩) | ((with_reducible refine gate_callee (f := 9) rfl ?_); refine goesL_ (some 8) rfl rfl Try.func9 (by kernel_rfl) rfl #[] rfl (by (try simp only [List.map_toArray, List.map_cons, List.map_nil]); first | done | rfl | (simp only [List.length_drop, List.length_take]; rfl)) ?_; (with_reducible refine (vinculumlaw22_styled.calls  true _ A86.out).mono ?_); rintro e w108 ⟨rfl, hb⟩; refine ⟨_, rfl, ?_⟩; have n0_ := Aside0.mk (below_step (by repeat (first | (with_reducible first | exact HB.out | apply below_alloc | apply pw_below_drewN | apply below_drew1) | exact HB.out)) hb); clear HB; have HB := n0_; clear n0_; (try clear hb); (try clear hb2); (try clear hk); (try clear hi)) | (go_at_call 19; (with_reducible refine (style_Sup.calls a0 t229 _ A88.out).mono ?_); rintro e w109 ⟨rfl, hb⟩; have n0_ := Aside0.mk (below_step (by repeat (first | (with_reducible first | exact HB.out | apply below_alloc | apply pw_below_drewN | apply below_drew1) | exact HB.out)) hb); clear HB; have HB := n0_; clear n0_; (try clear hb); (try clear hb2); (try clear hk); (try clear hi)) | (go_at_call 21; (with_reducible refine (style_Sub.calls a0 t230 _ A90.out).mono ?_); rintro e w110 ⟨rfl, hb⟩; have n0_ := Aside0.mk (below_step (by repeat (first | (with_reducible first | exact HB.out | apply below_alloc | apply pw_below_drewN | apply below_drew1) | exact HB.out)) hb); clear HB; have HB := n0_; clear n0_; (try clear hb); (try clear hb2); (try clear hk); (try clear hi)) | (go_at_call 23; (with_reducible refine (style_Num.calls a0 t231 _ A92.out).mono ?_); rintro e w111 ⟨rfl, hb⟩; have n0_ := Aside0.mk (below_step (by repeat (first | (with_reducible first | exact HB.out | apply below_alloc | apply pw_below_drewN | apply below_drew1) | exact HB.out)) hb); clear HB; have HB := n0_; clear n0_; (try clear hb); (try clear hb2); (try clear hk); (try clear hi)))
            go_ret
            exact ⟨by first | rfl | (simp [errW_none, errW_some] <;> rfl) | (simp [*, errW_none, errW_some] <;> rfl), by repeat (first | (with_reducible first | exact HB.out | apply below_alloc | apply pw_below_drewN | apply below_drew1) | exact HB.out)⟩
        · rw [if_neg c91] at H
          have c91b0 : (t230 == a0) = false := beq_eq_false_iff_ne.mpr c91
          have c91b1 : (t230 != a0) = true := bne_iff_ne.mpr c91
          obtain rfl := Option.some.inj H
          go_enter Try.func6, Try.ntmps6
          go_wp2_with (first | ((with_reducible refine gate_callee (f := 16) rfl ?_); refine goesL_ (some 6) rfl rfl Try.func16 (by kernel_rfl) rfl #[.int .i64 a0] rfl (by (try simp only [List.map_toArray, List.map_cons, List.map_nil]); first | done | rfl | (simp only [List.length_drop, List.length_take]; rfl)) ?_; (with_reducible refine (style_Is.calls a0 false _ A2.out).mono ?_); rintro e w' ⟨rfl, ⟨nd, rfl⟩⟩; refine ⟨_, rfl, ?_⟩) | ((with_reducible refine gate_callee (f := 9) rfl ?_); refine goesL_ (some 8) rfl rfl Try.func9 (by kernel_rfl) rfl #[] rfl (by (try simp only [List.map_toArray, List.map_cons, List.map_nil]); first | done | rfl | (simp only [List.length_drop, List.length_take]; rfl)) ?_; (with_reducible refine (vinculumlaw22_styled.calls  true _ A86.out).mono ?_); rintro e w112 ⟨rfl, hb⟩; refine ⟨_, rfl, ?_⟩; have n0_ := Aside0.mk (below_step (by repeat (first | (with_reducible first | exact HB.out | apply below_alloc | apply pw_below_drewN | apply below_drew1) | exact HB.out)) hb); clear HB; have HB := n0_; clear n0_; (try clear hb); (try clear hb2); (try clear hk); (try clear hi)) | (go_at_call 19; (with_reducible refine (style_Sup.calls a0 t229 _ A88.out).mono ?_); rintro e w113 ⟨rfl, hb⟩; have n0_ := Aside0.mk (below_step (by repeat (first | (with_reducible first | exact HB.out | apply below_alloc | apply pw_below_drewN | apply below_drew1) | exact HB.out)) hb); clear HB; have HB := n0_; clear n0_; (try clear hb); (try clear hb2); (try clear hk); (try clear hi)) | (go_at_call 21; (with_reducible refine (style_Sub.calls a0 t230 _ A90.out).mono ?_); rintro e w114 ⟨rfl, hb⟩; have n0_ := Aside0.mk (below_step (by repeat (first | (with_reducible first | exact HB.out | apply below_alloc | apply pw_below_drewN | apply below_drew1) | exact HB.out)) hb); clear HB; have HB := n0_; clear n0_; (try clear hb); (try clear hb2); (try clear hk); (try clear hi)))
          go_ret
          exact ⟨by first | rfl | (simp [errW_none, errW_some] <;> rfl) | (simp [*, errW_none, errW_some] <;> rfl), by repeat (first | (with_reducible first | exact HB.out | apply below_alloc | apply pw_below_drewN | apply below_drew1) | exact HB.out)⟩
      · rw [if_neg c89] at H
        have c89b0 : (t229 == a0) = false := beq_eq_false_iff_ne.mpr c89
        have c89b1 : (t229 != a0) = true := bne_iff_ne.mpr c89
        obtain rfl := Option.some.inj H
        go_enter Try.func6, Try.ntmps6
        go_wp2_with (first | ((with_reducible refine gate_callee (f := 16) rfl ?_); refine goesL_ (some 6) rfl rfl Try.func16 (by kernel_rfl) rfl #[.int .i64 a0] rfl (by (try simp only [List.map_toArray, List.map_cons, List.map_nil]); first | done | rfl | (simp only [List.length_drop, List.length_take]; rfl)) ?_; (with_reducible refine (style_Is.calls a0 false _ A2.out).mono ?_); rintro e w' ⟨rfl, ⟨nd, rfl⟩⟩; refine ⟨_, rfl, ?_⟩) | ((with_reducible refine gate_callee (f := 9) rfl ?_); refine goesL_ (some 8) rfl rfl Try.func9 (by kernel_rfl) rfl #[] rfl (by (try simp only [List.map_toArray, List.map_cons, List.map_nil]); first | done | rfl | (simp only [List.length_drop, List.length_take]; rfl)) ?_; (with_reducible refine (vinculumlaw22_styled.calls  true _ A86.out).mono ?_); rintro e w115 ⟨rfl, hb⟩; refine ⟨_, rfl, ?_⟩; have n0_ := Aside0.mk (below_step (by repeat (first | (with_reducible first | exact HB.out | apply below_alloc | apply pw_below_drewN | apply below_drew1) | exact HB.out)) hb); clear HB; have HB := n0_; clear n0_; (try clear hb); (try clear hb2); (try clear hk); (try clear hi)) | (go_at_call 19; (with_reducible refine (style_Sup.calls a0 t229 _ A88.out).mono ?_); rintro e w116 ⟨rfl, hb⟩; have n0_ := Aside0.mk (below_step (by repeat (first | (with_reducible first | exact HB.out | apply below_alloc | apply pw_below_drewN | apply below_drew1) | exact HB.out)) hb); clear HB; have HB := n0_; clear n0_; (try clear hb); (try clear hb2); (try clear hk); (try clear hi)))
        go_ret
        exact ⟨by first | rfl | (simp [errW_none, errW_some] <;> rfl) | (simp [*, errW_none, errW_some] <;> rfl), by repeat (first | (with_reducible first | exact HB.out | apply below_alloc | apply pw_below_drewN | apply below_drew1) | exact HB.out)⟩
    · replace c87 := Bool.eq_false_iff.mpr c87
      subst c87
      have H1 : (some false) = some r := by rw [if_neg (show ¬ (false = true) by decide)] at H; exact H
      clear H
      have H := H1
      clear H1
      obtain rfl := Option.some.inj H
      go_enter Try.func6, Try.ntmps6
      go_wp2_with (first | ((with_reducible refine gate_callee (f := 16) rfl ?_); refine goesL_ (some 6) rfl rfl Try.func16 (by kernel_rfl) rfl #[.int .i64 a0] rfl (by (try simp only [List.map_toArray, List.map_cons, List.map_nil]); first | done | rfl | (simp only [List.length_drop, List.length_take]; rfl)) ?_; (with_reducible refine (style_Is.calls a0 false _ A2.out).mono ?_); rintro e w' ⟨rfl, ⟨nd, rfl⟩⟩; refine ⟨_, rfl, ?_⟩) | ((with_reducible refine gate_callee (f := 9) rfl ?_); refine goesL_ (some 8) rfl rfl Try.func9 (by kernel_rfl) rfl #[] rfl (by (try simp only [List.map_toArray, List.map_cons, List.map_nil]); first | done | rfl | (simp only [List.length_drop, List.length_take]; rfl)) ?_; (with_reducible refine (vinculumlaw22_styled.calls  false _ A86.out).mono ?_); rintro e w117 ⟨rfl, hb⟩; refine ⟨_, rfl, ?_⟩; have n0_ := Aside0.mk (below_step (by repeat (first | (with_reducible first | exact HB.out | apply below_alloc | apply pw_below_drewN | apply below_drew1) | exact HB.out)) hb); clear HB; have HB := n0_; clear n0_; (try clear hb); (try clear hb2); (try clear hk); (try clear hi)))
      go_ret
      exact ⟨by first | rfl | (simp [errW_none, errW_some] <;> rfl) | (simp [*, errW_none, errW_some] <;> rfl), by repeat (first | (with_reducible first | exact HB.out | apply below_alloc | apply pw_below_drewN | apply below_drew1) | exact HB.out)⟩

/-- THE ONE PURE STATEMENT of vinculumlaw22_StyleDown: yours. -/
def vinculumlaw22_StyleDown.Pure : Prop := ∀ (a0 : Int), (Lit.int .i64 a0).wf = true → ∃ k, vinculumlaw22_StyleDown.f k a0 = some true
theorem vinculumlaw22_StyleDown.walk (P : vinculumlaw22_StyleDown.Pure) (a0 : Int) (w : World) (w0 : (Lit.int .i64 a0).wf = true) :
    Calls Try.prog 6 #[.int .i64 a0] w fun e w' => e = .returned (.bool true) ∧ Below w.heap.size w w' := by
  obtain ⟨k, h⟩ := P a0 w0
  refine (vinculumlaw22_StyleDown.calls k a0 true w h).mono ?_
  rintro e w' ⟨rfl, hd⟩
  exact ⟨rfl, hd⟩

end Go.Proofs.Yticfflihniifaaa.P
