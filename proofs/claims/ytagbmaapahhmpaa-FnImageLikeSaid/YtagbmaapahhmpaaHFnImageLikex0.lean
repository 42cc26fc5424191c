/- What the functions that the law comes to compute, as plain functions, and that the machine's calls come to just that: written by a program for this claim, and turned where Lean did not take it. No condition. -/
import Derived.Test.YtagbmaapahhmpaaProg
import Derived.Below
import Derived.Deep.Draws
import Derived.Test.YtagbmaapahhmpaaV
namespace Go.Proofs.Ytagbmaapahhmpaa.PFnImageLike
open Go.RowKit Go.Proofs.YtagbmaapahhmpaaW.PrintWords Go.Proofs.YtagbmaapahhmpaaW.PrintLast Go.Proofs.YtagbmaapahhmpaaW.PrintMore
attribute [local go_sem] max2_int min2_int max_two min_two max_three min_three max_four min_four   -- for this text's walks alone
set_option linter.unusedVariables false
set_option linter.unusedSimpArgs false



def errW:Option Int → Value
 | none=>.nilIface
 | some c=>.iface 0 (.int .i64 c)
theorem errW_none:errW none=.nilIface:=rfl
theorem errW_some (c:Int):errW (some c)=.iface 0 (.int .i64 c):=rfl

theorem info3:(Try.prog.info? 3).map (fun i=>(i.zero,i.size,i.bytes))=some (some (.int .i64 0),1,8):=by kernel_rfl
theorem info5:(Try.prog.info? 5).map (fun i=>(i.zero,i.size,i.bytes))=some (some (.int .u8 0),1,1):=by kernel_rfl
-- the values' own types

end Go.Proofs.Ytagbmaapahhmpaa.PFnImageLike
