/- What a function's end, behind deferred calls, hangs on in its frame: its results' slots and the calls laid; so an operation that writes another slot may be taken ahead of a panic. No condition. -/
import Derived.Defers
import Derived.Test.YtkkadhhmdgbpiaaGreatDoorWLast
namespace Go.Proofs.YtkkadhhmdgbpiaaGreatDoor.DF
open Go.RowKit
variable {P : Program}
theorem leaves_congr {fn : Func} {t1 t2 : Array Value} {R : Ending → World → Prop} (h : results fn t1 = results fn t2) : ∀ (ds : List Deferred) (u : FrameMode) (w : World), Leaves P fn t1 R ds u w → Leaves P fn t2 R ds u w
  | [], .returning, w, ⟨v, a, b⟩ => ⟨v, by rw [← h]; exact a, b⟩
  | [], .panicking _, _, hh => hh
  | [], .run, _, hh => hh
  | _ :: ds, _, _, ⟨h0, fv, cap, f, args, h1, h2, h3⟩ => ⟨h0, fv, cap, f, args, h1, h2, h3.mono fun e u' w' he => by
      cases e with
      | returned v => exact leaves_congr h ds _ _ he
      | panicked c => exact leaves_congr h ds _ _ he
      | outgrown => exact he⟩
def slotOf : ResultVar → Nat
  | .tmp t => t
  | .cell a _ => a
theorem mapM_congr' {α β : Type} {f g : α → Sem β} : ∀ (l : List α), (∀ x ∈ l, f x = g x) → l.mapM f = l.mapM g
  | [], _ => rfl
  | x :: l, h => by
    rw [List.mapM_cons, List.mapM_cons, h x (by simp), mapM_congr' l (fun y hy => h y (by simp [hy]))]
theorem results_put {fn : Func} {d : Nat} (hd : fn.results.toList.all (fun r => slotOf r != d) = true) (t : Array Value) (v : Value) : results fn (t.setIfInBounds d v) = results fn t := by
  unfold results
  have hg : ∀ r ∈ fn.results.toList, (t.setIfInBounds d v).getD (slotOf r) undef = t.getD (slotOf r) undef := by
    intro r hr
    have hne : slotOf r ≠ d := by simpa using List.all_eq_true.1 hd r hr
    simp [Array.getD_eq_getD_getElem?, Ne.symm hne]
  have : ∀ (f g : ResultVar → Sem Value), (∀ r ∈ fn.results.toList, f r = g r) → fn.results.mapM f = fn.results.mapM g := by
    intro f g hfg
    rw [Array.mapM_eq_mapM_toList, Array.mapM_eq_mapM_toList, mapM_congr' _ hfg]
  rw [this _ _ fun r hr => ?_]
  have := hg r hr
  cases r with
  | tmp a => simp only [slotOf] at this; simp only [this]
  | cell a q => simp only [slotOf] at this; simp only [this]
/-- A panic's post does not hang on a slot that holds no result. -/
theorem panic_put {fn : Func} {R : Ending → World → Prop} {d : Nat} (hd : fn.results.toList.all (fun r => slotOf r != d) = true) {c : List PanicEntry} {a : Act} {v : Value} {w : World}
    (h : bodyPostD P fn R (.panic c) (a.put (some d) v) w) : bodyPostD P fn R (.panic c) a w :=
  leaves_congr (results_put hd a.tmps v) _ _ _ h
/-- A call in a region, whatever its end. -/
theorem callx_ {ops : Array Oper} {Q : Exit → Act → World → Prop} {oi : Oper} {a : Act} {w : World} {K : Act → World → Prop} {E : Prop} {f : FuncId} {fn : Func} {as : Array Operand} {ts : Array TypeId} (hf : P.funcs[f]? = some fn) (hname : (fn.name == "runtime.NumGoroutine") = false) (hb : fn.body.isSome = true) (args : Array Value)
    (hop : oi.op = .call { callee := .value (.func f), args := as, argTypes := ts }) (hw : Region.wanted oi (yielded ops a.tmps) = true) (hargs : as.map a.eval = args)
    (h : Calls P f args w fun e w' => match e with | .returned v => K (a.put oi.dst v) w' | .panicked chain => Q (.panic chain) a w' | .outgrown => False) :
    if Region.wanted oi (yielded ops a.tmps) = true then Oper.wp P oi a w K Q else E := by
  rw [if_pos hw]
  have he := Go.Proofs.YtkkadhhmdgbpiaaGreatDoorW.PrintLast.enters_ hf hname hb args w
  have hrun : (execOp a.eval oi).run P w = .ok (.enter f args) w := by
    unfold execOp
    simp [hop, resolve, Deferred.ofValue, invoke, Act.eval, hargs, he]
  unfold Oper.wp
  rw [hrun, Oper.upon_enter]
  refine h.mono fun e w'' hh => ?_
  cases e with
  | returned v => exact hh
  | panicked c => exact hh
  | outgrown => exact hh.elim
end Go.Proofs.YtkkadhhmdgbpiaaGreatDoor.DF
