/- A call of a closure that stands in a variable, as a step of a walk. No condition. -/
import Derived.Test.YtagbmaapahhmpaaV
namespace Go.Proofs.Ytagbmaapahhmpaa.Th
open Go.RowKit Go.Proofs.YtagbmaapahhmpaaW.PrintWords Go.Proofs.YtagbmaapahhmpaaW.PrintLast Go.Proofs.YtagbmaapahhmpaaW.PrintMore
section
variable {P : Program} {ops : Array Oper} {rest : List Oper} {o : Oper} {a : Act} {Q : Exit → Act → World → Prop} {W : World}
/-- The operation is a call of what stands in a variable. -/
theorem gate_clo {x : Tmp} {as : Array Operand} {ts : Array TypeId} (_ho : o.op = .call { callee := .value (.tmp x), args := as, argTypes := ts }) (h : wpList P ops Q (o :: rest) a W) : wpList P ops Q (o :: rest) a W := h
theorem goesC_ {oi : Oper} (N : Option Tmp) (hd : oi.dst = N) (hg : oi.guard = none) {x : Tmp} {f : FuncId} {fn : Func} {cap : Array Value} {as : Array Operand} {ts : Array TypeId} (hf : P.funcs[f]? = some fn) (hname : (fn.name == "runtime.NumGoroutine") = false) (hb : fn.body.isSome = true) (args : Array Value)
    (hop : oi.op = .call { callee := .value (.tmp x), args := as, argTypes := ts }) (hv : a.eval (.tmp x) = .func (.func f) #[] cap) (hargs : as.map a.eval = args)
    (h : Calls P f (args ++ cap) W fun e w' => ∃ v, e = .returned v ∧ wpList P ops Q rest (a.put N v) w') : wpList P ops Q (oi :: rest) a W := by
  refine wpList_plain hg fun K hK => ?_
  have he := enters_ hf hname hb (args ++ cap) W
  have hrun : (execOp a.eval oi).run P W = .ok (.enter f (args ++ cap)) W := by
    unfold execOp
    simp [hop, resolve, Deferred.ofValue, invoke, hv, hargs, he]
  unfold Oper.wp
  rw [hrun, Oper.upon_enter]
  refine h.mono fun e w'' hh => ?_
  obtain ⟨v, rfl, hk⟩ := hh
  subst hd
  exact hK _ _ hk
end
end Go.Proofs.Ytagbmaapahhmpaa.Th
