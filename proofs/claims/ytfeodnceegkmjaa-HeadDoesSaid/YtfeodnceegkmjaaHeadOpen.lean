/- A head that comes in: its value written out. -/
import Derived.Test.YtfeodnceegkmjaaPx0
import Derived.ProofKit
import Derived.OpenShut
import Derived.ChangeOld
import Derived.Lib.SmallJoins
namespace Go.Proofs.Ytfeodnceegkmjaa.P
open Go.RowKit Go.ChangeShapes Go.WideShapes Go.Proofs.YtfeodnceegkmjaaW.PrintWords Go.Proofs.YtfeodnceegkmjaaW.PrintLast Go.Proofs.YtfeodnceegkmjaaW.PrintMore
set_option linter.unusedVariables false
set_option linter.unusedSimpArgs false
theorem array6 {α : Type} {cs : Array α} (h : cs.size = 6) : ∃ c0 c1 c2 c3 c4 c5, cs = #[c0, c1, c2, c3, c4, c5] := by
  obtain ⟨l⟩ := cs
  match l, h with
  | [c0, c1, c2, c3, c4, c5], _ => exact ⟨c0, c1, c2, c3, c4, c5, rfl⟩
theorem trod_bool' {H : Type} {enc : TypeId × Value → H} {P : Program} {w : World} {base : Nat} {spare : Nat → Bool} {held : Bool} {t : TypeId} {fuel : Nat} {cs : List Value} {x : DataW H × List MemPlace} (ht : P.underlying t = some .bool) (h : DataW.trod enc P w base spare held fuel t cs = some x) : ∃ b, cs = [.bool b] := by
  cases fuel with
  | zero => simp [DataW.trod] at h
  | succ n =>
    unfold DataW.trod at h
    rw [ht] at h
    split at h <;> simp_all
/-- A field's cells read at its type. -/
theorem trod_field {H : Type} {enc : TypeId × Value → H} {P : Program} {w : World} {base : Nat} {spare : Nat → Bool} {held : Bool} {t : TypeId} {fs : Array Field} {fuel : Nat} {cs : List Value} {x : DataW H × List MemPlace} (ht : P.underlying t = some (.struct fs)) (h : DataW.trod enc P w base spare held fuel t cs = some x)
    (i : Nat) (tt : TypeId) (o n : Nat) (hf : (fs[i]?).map (fun f => (f.type, f.offset)) = some (tt, o)) (hn : P.cellsOf tt = n) : ∃ m y, DataW.trod enc P w base spare held m tt ((cs.drop o).take n) = some y := by
  obtain ⟨xs, m, _, _, _, hxl, hff⟩ := DataW.trod_struct ht h
  obtain ⟨f, he, hp⟩ := Option.map_eq_some_iff.1 hf
  simp only [Prod.mk.injEq] at hp
  obtain ⟨rfl, rfl⟩ := hp
  have hi : i < xs.length := by
    rw [hxl]
    exact (Array.getElem?_eq_some_iff.1 he).1
  have := hff i f he
  rw [hn, List.getElem?_eq_getElem hi] at this
  exact ⟨m, _, this⟩
theorem head_open {H : Type} {enc : TypeId × Value → H} {W : World} {base b0 : Nat} {spare : Nat → Bool} {held : Bool} {v : Value} {d : DataW H} {p : List MemPlace} (hv : Value.okWide Try.prog W .any b0 23 v) (h : DataW.Trod enc Try.prog W base spare held 23 v d p) :
    ∃ (a0 a1 a2 a3 a4 : Int) (a5 : Bool), v = .agg #[.int .i64 a0, .int .i64 a1, .int .i64 a2, .int .i64 a3, .int .i64 a4, .bool a5] := by
  obtain ⟨cs, rfl, hsz⟩ := okWide_struct Try.underlying23 hv
  obtain ⟨c0, c1, c2, c3, c4, c5, rfl⟩ := array6 (hsz.trans (show Try.prog.cellsOf 23 = 6 by kernel_rfl))
  obtain ⟨fuel, hf⟩ := h
  obtain ⟨_, _, u0⟩ := trod_field Try.underlying23 hf 0 3 0 1 rfl (by kernel_rfl)
  obtain ⟨_, _, u1⟩ := trod_field Try.underlying23 hf 1 3 1 1 rfl (by kernel_rfl)
  obtain ⟨_, _, u2⟩ := trod_field Try.underlying23 hf 2 3 2 1 rfl (by kernel_rfl)
  obtain ⟨_, _, u3⟩ := trod_field Try.underlying23 hf 3 3 3 1 rfl (by kernel_rfl)
  obtain ⟨_, _, u4⟩ := trod_field Try.underlying23 hf 4 3 4 1 rfl (by kernel_rfl)
  obtain ⟨_, _, u5⟩ := trod_field Try.underlying23 hf 5 4 5 1 rfl (by kernel_rfl)
  obtain ⟨a0, e0, _, _⟩ := DataW.trod_int Try.underlying3 u0
  obtain ⟨a1, e1, _, _⟩ := DataW.trod_int Try.underlying3 u1
  obtain ⟨a2, e2, _, _⟩ := DataW.trod_int Try.underlying3 u2
  obtain ⟨a3, e3, _, _⟩ := DataW.trod_int Try.underlying3 u3
  obtain ⟨a4, e4, _, _⟩ := DataW.trod_int Try.underlying3 u4
  obtain ⟨a5, e5⟩ := trod_bool' Try.underlying4 u5
  simp only [Value.cells, List.drop, List.take, List.cons.injEq, and_true] at e0 e1 e2 e3 e4 e5
  subst e0 e1 e2 e3 e4 e5
  exact ⟨a0, a1, a2, a3, a4, a5, rfl⟩
end Go.Proofs.Ytfeodnceegkmjaa.P
