/- What the functions that the law comes to compute, as plain functions, and that the machine's calls come to just that: written by a program for this claim, and turned where Lean did not take it. No condition. -/
import Derived.Test.YtehjfjngnofgmaaProg
import Derived.Below
import Derived.Deep.Draws
import Derived.Test.YtehjfjngnofgmaaWWords
import Derived.Test.YtehjfjngnofgmaaWLast
import Derived.Test.YtehjfjngnofgmaaWTab
import Derived.Test.YtehjfjngnofgmaaWFour
import Derived.Test.YtehjfjngnofgmaaWQPut
import Derived.Test.YtehjfjngnofgmaaWApart
import Derived.Test.YtehjfjngnofgmaaWArr
import Derived.Test.YtehjfjngnofgmaaWZeros
import Derived.Test.YtehjfjngnofgmaaWFoot
import Derived.Test.YtehjfjngnofgmaaWKept
import Derived.Test.YtehjfjngnofgmaaWShare
import Derived.Test.YtehjfjngnofgmaaWN
import Derived.Test.YtehjfjngnofgmaaWFootNe
import Derived.Test.YtehjfjngnofgmaaWAt
import Derived.Test.YtehjfjngnofgmaaWEqStruct
import Derived.Test.YtehjfjngnofgmaaWRepsOne
import Derived.Test.YtehjfjngnofgmaaWInv
import Derived.Test.YtehjfjngnofgmaaWInvWords
import Derived.Test.YtehjfjngnofgmaaWGuard
import Derived.Test.YtehjfjngnofgmaaWNEv
import Derived.Test.YtehjfjngnofgmaaWMore
namespace Go.Proofs.Ytehjfjngnofgmaa.PFnExactPackPut
open Go.RowKit Go.Proofs.YtehjfjngnofgmaaW.PrintWords Go.Proofs.YtehjfjngnofgmaaW.PrintLast Go.Proofs.YtehjfjngnofgmaaW.PrintMore
attribute [local go_sem] max2_int min2_int max_two min_two max_three min_three max_four min_four   -- for this text's walks alone
set_option linter.unusedVariables false
set_option linter.unusedSimpArgs false



def errW : Option Int → Value
  | none => .nilIface
  | some c => .iface 0 (.int .i64 c)
theorem errW_none : errW none = .nilIface := rfl
theorem errW_some (c : Int) : errW (some c) = .iface 0 (.int .i64 c) := rfl

theorem info5 : (Try.prog.info? 5).map (fun i => (i.zero, i.size, i.bytes)) = some (some (.int .u8 0), 1, 1) := by kernel_rfl
-- the values' own types

end Go.Proofs.Ytehjfjngnofgmaa.PFnExactPackPut
