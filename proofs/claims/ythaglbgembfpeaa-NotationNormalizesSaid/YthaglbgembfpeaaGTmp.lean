/- A call of a function value that lies in a slot: the gate and the step, as the print has them for a call of a function by its name. -/
import Derived.Test.YthaglbgembfpeaaWMore
import Derived.Test.YthaglbgembfpeaaWLast
namespace Go.Proofs.YthaglbgembfpeaaW.PrintMore
open Go.RowKit Go.Proofs.YthaglbgembfpeaaW.PrintWords Go.Proofs.YthaglbgembfpeaaW.PrintLast
section
variable {P : Program} {ops : Array Oper} {rest : List Oper} {o : Oper} {a : Act} {W : World} {Q : Exit → Act → World → Prop}
theorem gate_tmp {x : Tmp} {as : Array Operand} {ts : Array TypeId} (_ho : o.op = .call { callee := .value (.tmp x), args := as, argTypes := ts }) (h : wpList P ops Q (o :: rest) a W) : wpList P ops Q (o :: rest) a W := h
theorem goesT_ {oi : Oper} {w : World} (x : Tmp) (N : Option Tmp) {f : FuncId} (hv : a.eval (.tmp x) = .func (.func f) #[] #[]) (hd : oi.dst = N) (hg : oi.guard = none) {fn : Func} {as : Array Operand} {ts : Array TypeId} (hf : P.funcs[f]? = some fn) (hname : (fn.name == "runtime.NumGoroutine") = false) (hb : fn.body.isSome = true) (args : Array Value)
    (hop : oi.op = .call { callee := .value (.tmp x), args := as, argTypes := ts }) (hargs : as.map a.eval = args)
    (h : Calls P f args w fun e w' => ∃ v, e = .returned v ∧ wpList P ops Q rest (a.put N v) w') : wpList P ops Q (oi :: rest) a w := by
  refine wpList_plain hg fun K hK => ?_
  have he := enters_ hf hname hb args w
  have hrun : (execOp a.eval oi).run P w = .ok (.enter f args) w := by
    unfold execOp
    simp [hop, resolve, hv, Deferred.ofValue, invoke, hargs, he]
  unfold Oper.wp
  rw [hrun, Oper.upon_enter]
  refine h.mono fun e w'' hh => ?_
  obtain ⟨v, rfl, hk⟩ := hh
  subst hd
  exact hK _ _ hk
end
end Go.Proofs.YthaglbgembfpeaaW.PrintMore
