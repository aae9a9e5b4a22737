/- konst's Name and Find, walked. -/
import Derived.Test.YtgleffjeaognfaaPx0
import Derived.Test.YtgleffjeaognfaaPx4
import Derived.Test.YtgleffjeaognfaaShelf
import Derived.Deep.WholeRow
import Derived.Laws.Rows
import Derived.Lib.Hide
namespace Go.Proofs.Ytgleffjeaognfaa.P
open Go.RowKit Go.Proofs.YtgleffjeaognfaaW.PrintWords Go.Proofs.YtgleffjeaognfaaW.PrintLast Go.Proofs.YtgleffjeaognfaaW.PrintMore
set_option linter.unusedVariables false
set_option linter.unusedSimpArgs false
def splitB : List UInt8 → List UInt8 → List (List UInt8)
  | [], _ => []
  | x :: r, acc => if x = 32 then acc.reverse :: splitB r [] else splitB r (x :: acc)
def namesL : List ByteArray := (splitB (vinculumref13_names.f.getD ⟨#[]⟩).data.toList []).map fun l => ⟨l.toArray⟩
def namesA : Array Value := (namesL.map Value.string).toArray
theorem namesL_length : namesL.length = 56 := by kernel_rfl
theorem namesA_size : namesA.size = 56 := by kernel_rfl
theorem namesA_one : namesA.all (·.oneCell') = true := by kernel_rfl
theorem upon_of {P : Program} {o : Oper} {a : Act} {w w' : World} {v : Value} {next : Act → World → Prop} {Q : Exit → Act → World → Prop}
    (h : (execOp a.eval o).run P w = .ok (.value v) w') (hk : next (a.put o.dst v) w') : o.wp P a w next Q := by
  unfold Oper.wp; rw [h]; exact hk
theorem upon_skip_of {P : Program} {o : Oper} {a : Act} {w w' : World} {next : Act → World → Prop} {Q : Exit → Act → World → Prop}
    (h : (execOp a.eval o).run P w = .ok .skip w') (hk : next (a.put o.dst undef) w') : o.wp P a w next Q := by
  unfold Oper.wp; rw [h]; exact hk
set_option maxRecDepth 100000 in
set_option maxHeartbeats 4000000 in
theorem names_calls (w : World) : Calls Try.prog 30 #[] w fun e w' => e = .returned (.agg namesA) ∧ w' = w.alloc (.cells namesA 47) := by
  go_enter Try.func30, Try.ntmps30
  go_step
  go_step
  rename_i K1 hK1
  go_step
  refine wpList_plain rfl (fun K hK => ?_)
  refine upon_of (v := .pointer (some ⟨w.heap.size, 0, none⟩)) (w' := w.alloc (.cells (Array.replicate 56 (.string ⟨#[]⟩)) 47)) (by kernel_rfl) ?_
  refine hK _ _ ?_
  clear hK K
  refine wpList_nil ?_
  refine hK1 _ _ ?_
  clear hK1 K1
  go_step
  rename_i K1 hK1
  go_step
  refine wpList_plain rfl (fun K hK => ?_)
  refine upon_of (v := .agg namesA) (w' := w.alloc (.cells (Array.replicate 56 (.string ⟨#[]⟩)) 47)) (by kernel_rfl) ?_
  refine hK _ _ ?_
  clear hK K
  refine wpList_plain rfl (fun K hK => ?_)
  refine upon_skip_of (w' := w.alloc (.cells namesA 47)) ?_ ?_
  · clear hK hK1
    have hs := run_storeAt_new (P := Try.prog) w 47 (Array.replicate 56 (.string ⟨#[]⟩)) namesA (by kernel_rfl) (by kernel_rfl) namesA_one
    show ((Instr.storeAt 47 (.pointer (some ⟨w.heap.size, 0, none⟩)) (.agg namesA)) >>= fun _ => pure Next.skip).run _ _ = _
    rw [Sem.run_bind, hs]
    rfl
  refine hK _ _ ?_
  clear hK K
  refine wpList_nil ?_
  refine hK1 _ _ ?_
  clear hK1 K1
  go_step
  simp only [Exit.inBlock, Exit.then]
  refine bodyPost_ret (results_cell_row (p := 0) (ty := 47) rfl _ _ w.heap.size 47 namesA (0, 0) (.array 56 9) (by kernel_rfl) (heap_alloc_new w _) (by kernel_rfl) rfl (by kernel_rfl)) rfl ?_
  exact ⟨rfl, rfl⟩
def konst_Name.f (a0 : Int) : Option (ByteArray × Int) :=
  some (if a0 < 0 then (⟨#[]⟩, 1) else if 56 ≤ a0 then (⟨#[]⟩, 1) else (namesL.getD a0.toNat ⟨#[]⟩, 0))
theorem namesA_at (k : Nat) (h : k < 56) : namesA[k]? = some (.string (namesL.getD k ⟨#[]⟩)) := by
  have hl : k < namesL.length := by rw [namesL_length]; exact h
  simp [namesA, List.getD, List.getElem?_eq_getElem hl]
set_option maxHeartbeats 4000000 in
theorem konst_Name.calls (a0 : Int) (r1 : ByteArray) (r2 : Int) (w : World) (h : konst_Name.f a0 = some (r1, r2)) :
    Calls Try.prog 12 #[.int .i64 a0] w fun e w' => e = .returned (.tuple #[.string r1, .int .i64 r2]) ∧ Below w.heap.size w w' := by
  have h := Option.some.inj h
  by_cases h0 : a0 < 0
  · rw [if_pos h0] at h
    injection h with h1 h2
    subst h1 h2
    go_enter Try.func12, Try.ntmps12
    go_wp2_with fail
    go_ret2
    exact ⟨rfl, Below.refl _ _⟩
  by_cases h1 : 56 ≤ a0
  · rw [if_neg h0, if_pos h1] at h
    injection h with h2 h3
    subst h2 h3
    go_enter Try.func12, Try.ntmps12
    go_wp2_with fail
    go_ret2
    exact ⟨rfl, Below.refl _ _⟩
  · rw [if_neg h0, if_neg h1] at h
    injection h with h2 h3
    subst h2 h3
    have hA := namesA_size
    have hk := namesA_at a0.toNat (by omega)
    have hN : ∀ w, Calls Try.prog 30 #[] w fun e w' => e = .returned (.agg namesA) ∧ w' = w.alloc (.cells namesA 47) := names_calls
    generalize namesA = NA at hA hk hN
    have HN := Lib.hid hN
    clear hN
    have hu : (Try.prog).underlying 47 = some (.array 56 9) := by kernel_rfl
    have hi : ((Try.prog).info? 9).map (·.size) = some 1 := by kernel_rfl
    have hx : ∀ W, (Instr.index 47 (.agg NA) (.int .i64 a0)).run Try.prog W = .ok (.string (namesL.getD a0.toNat ⟨#[]⟩)) W := fun W => by
      cases hq : (Try.prog).info? 9 with
      | none => rw [hq] at hi; cases hi
      | some i =>
        rw [hq] at hi
        have hi1 : i.size = 1 := by simpa using hi
        have hlt : a0.toNat < NA.size := by omega
        have hk' : NA[a0.toNat] = .string (namesL.getD a0.toNat ⟨#[]⟩) := by
          rw [Array.getElem?_eq_getElem hlt] at hk; exact Option.some.inj hk
        simp [Instr.index, asIntOf, run_underlying hu, sizeOf, typeInfo, hq, hi1, part, show 0 ≤ a0 by omega, show a0 < 56 by omega, hlt, hk']
    clear hk hA
    go_enter Try.func12, Try.ntmps12
    go_wp2_with (go_at_call 30; refine (HN.out _).mono ?_; rintro e w1 ⟨rfl, rfl⟩)
    go_ret2
    exact ⟨by simp only [List.getD]; rfl, (Below.refl w.heap.size w).alloc (Nat.le_refl _) _⟩
def konst_Find.f (a0 : ByteArray) : Option (Int × Int) :=
  some (if Lib.idxOfS namesL a0 < 0 then (0, 9) else (Lib.idxOfS namesL a0, 0))
set_option maxHeartbeats 4000000 in
theorem konst_Find.calls (a0 : ByteArray) (r1 : Int) (r2 : Int) (w : World) (h : konst_Find.f a0 = some (r1, r2)) :
    Calls Try.prog 14 #[.string a0] w fun e w' => e = .returned (.tuple #[.int .i64 r1, .int .i64 r2]) ∧ Below w.heap.size w w' := by
  have h := Option.some.inj h
  have hA := namesA_size
  have hL := namesL_length
  have hk : ∀ k : Nat, k < 56 → namesA[k]? = some (.string (namesL.getD k ⟨#[]⟩)) := namesA_at
  have hN : ∀ w, Calls Try.prog 30 #[] w fun e w' => e = .returned (.agg namesA) ∧ w' = w.alloc (.cells namesA 47) := names_calls
  have h1 := namesA_one
  generalize namesA = NA at hA hk hN h1
  generalize namesL = NL at hk hL h
  have HN := Lib.hid hN
  have HK := Lib.hid hk
  have HH := Lib.hid h
  clear hN hk h
  have hs : ∀ c : Array Value, c.size = 56 → (storeCells ⟨w.heap.size + 1, 0, none⟩ NA.toList 0).run Try.prog ((w.alloc (.cells NA 47)).alloc (.cells c 47)) = .ok () ((w.alloc (.cells NA 47)).alloc (.cells NA 47)) := fun c hc => by
    have hi : ((Try.prog).info? 47).map (·.size) = some NA.size := by rw [hA]; kernel_rfl
    have := run_storeCells_new (P := Try.prog) (w.alloc (.cells NA 47)) 47 c NA hi (by omega) h1
    simpa using this
  clear h1
  go_enter Try.func14, Try.ntmps14
  have hcl : ∀ j, j < NL.length → ((w.alloc (.cells NA 47)).alloc (.cells NA 47)).cell? ⟨w.heap.size + 1, 0 + j, none⟩ = some (.string (NL.getD j ByteArray.empty)) := fun j hj => by
    have hh := heap_alloc2_new w (.cells NA 47) (.cells NA 47)
    have hj' := HK.out j (by omega)
    simp only [World.cell?, hh, Nat.zero_add, hj']
    rfl
  have HC := Lib.hid hcl
  clear hcl
  have htk : NL.take 56 = NL := List.take_of_length_le (by omega)
  have htk : Lib.idxOfS (NL.take 56) a0 = Lib.idxOfS NL a0 := by rw [htk]
  have HT := Lib.hid htk
  clear htk
  have hB : Below w.heap.size w ((w.alloc (.cells NA 47)).alloc (.cells NA 47)) := ((Below.refl w.heap.size w).alloc (Nat.le_refl _) _).alloc (by simp) _
  have HB := Lib.hid hB
  clear hB
  go_wp2_with (first
    | (go_at_call 30; refine (HN.out _).mono ?_; rintro e w1 ⟨rfl, rfl⟩)
    | (go_at_call 32; refine (Try.slices_Index_string (w.heap.size + 1) 0 56 56 NL a0 _ (by omega) (by omega) HC.out).mono ?_; rintro e w1 ⟨rfl, rfl⟩; rw [HT.out]; generalize Lib.idxOfS NL a0 = ix at HH))
  all_goals clear hs

  · rename_i hlt
    have := HH.out
    rw [if_pos hlt] at this
    injection this with e1 e2
    subst e1 e2
    go_ret2
    exact ⟨rfl, HB.out⟩
  · rename_i hlt
    have := HH.out
    rw [if_neg (by omega)] at this
    injection this with e1 e2
    subst e1 e2
    go_ret2
    exact ⟨rfl, HB.out⟩
end Go.Proofs.Ytgleffjeaognfaa.P
