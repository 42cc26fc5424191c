/- What the functions that the law comes to compute, as plain functions, and that the machine's calls come to just that: written by a program for this claim, and turned where Lean did not take it. No condition. -/
import Derived.Test.YtgajagocenffeaaProg
import Derived.Below
import Derived.Deep.Draws
import Derived.Test.YtgajagocenffeaaWWords
import Derived.Test.YtgajagocenffeaaWLast
import Derived.Test.YtgajagocenffeaaWTab
import Derived.Test.YtgajagocenffeaaWFour
import Derived.Test.YtgajagocenffeaaWQPut
import Derived.Test.YtgajagocenffeaaWApart
import Derived.Test.YtgajagocenffeaaWArr
import Derived.Test.YtgajagocenffeaaWZeros
import Derived.Test.YtgajagocenffeaaWFoot
import Derived.Test.YtgajagocenffeaaWKept
import Derived.Test.YtgajagocenffeaaWShare
import Derived.Test.YtgajagocenffeaaWN
import Derived.Test.YtgajagocenffeaaWFootNe
import Derived.Test.YtgajagocenffeaaWAt
import Derived.Test.YtgajagocenffeaaWEqStruct
import Derived.Test.YtgajagocenffeaaWRepsOne
import Derived.Test.YtgajagocenffeaaWInv
import Derived.Test.YtgajagocenffeaaWInvWords
import Derived.Test.YtgajagocenffeaaWGuard
import Derived.Test.YtgajagocenffeaaWNEv
import Derived.Test.YtgajagocenffeaaWMore
namespace Go.Proofs.Ytgajagocenffeaa.PFnExactCodeGet
open Go.RowKit Go.Proofs.YtgajagocenffeaaW.PrintWords Go.Proofs.YtgajagocenffeaaW.PrintLast Go.Proofs.YtgajagocenffeaaW.PrintMore
attribute [local go_sem] max2_int min2_int max_two min_two max_three min_three max_four min_four   -- for this text's walks alone
set_option linter.unusedVariables false
set_option linter.unusedSimpArgs false



def errW : Option Int → Value
  | none => .nilIface
  | some c => .iface 0 (.int .i64 c)
theorem errW_none : errW none = .nilIface := rfl
theorem errW_some (c : Int) : errW (some c) = .iface 0 (.int .i64 c) := rfl

theorem info3 : (Try.prog.info? 3).map (fun i => (i.zero, i.size, i.bytes)) = some (some (.int .i64 0), 1, 8) := by kernel_rfl
-- the values' own types

end Go.Proofs.Ytgajagocenffeaa.PFnExactCodeGet
