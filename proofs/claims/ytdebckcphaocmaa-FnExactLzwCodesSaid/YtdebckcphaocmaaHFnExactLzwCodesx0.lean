/- What the functions that the law comes to compute, as plain functions, and that the machine's calls come to just that: written by a program for this claim, and turned where Lean did not take it. No condition. -/
import Derived.Test.YtdebckcphaocmaaProg
import Derived.Below
import Derived.Deep.Draws
import Derived.Test.YtdebckcphaocmaaWWords
import Derived.Test.YtdebckcphaocmaaWLast
import Derived.Test.YtdebckcphaocmaaWTab
import Derived.Test.YtdebckcphaocmaaWFour
import Derived.Test.YtdebckcphaocmaaWQPut
import Derived.Test.YtdebckcphaocmaaWApart
import Derived.Test.YtdebckcphaocmaaWArr
import Derived.Test.YtdebckcphaocmaaWZeros
import Derived.Test.YtdebckcphaocmaaWFoot
import Derived.Test.YtdebckcphaocmaaWKept
import Derived.Test.YtdebckcphaocmaaWShare
import Derived.Test.YtdebckcphaocmaaWN
import Derived.Test.YtdebckcphaocmaaWFootNe
import Derived.Test.YtdebckcphaocmaaWAt
import Derived.Test.YtdebckcphaocmaaWEqStruct
import Derived.Test.YtdebckcphaocmaaWRepsOne
import Derived.Test.YtdebckcphaocmaaWInv
import Derived.Test.YtdebckcphaocmaaWInvWords
import Derived.Test.YtdebckcphaocmaaWGuard
import Derived.Test.YtdebckcphaocmaaWNEv
import Derived.Test.YtdebckcphaocmaaWMore
namespace Go.Proofs.Ytdebckcphaocmaa.PFnExactLzwCodes
open Go.RowKit Go.Proofs.YtdebckcphaocmaaW.PrintWords Go.Proofs.YtdebckcphaocmaaW.PrintLast Go.Proofs.YtdebckcphaocmaaW.PrintMore
attribute [local go_sem] max2_int min2_int max_two min_two max_three min_three max_four min_four   -- for this text's walks alone
set_option linter.unusedVariables false
set_option linter.unusedSimpArgs false



def errW : Option Int → Value
  | none => .nilIface
  | some c => .iface 0 (.int .i64 c)
theorem errW_none : errW none = .nilIface := rfl
theorem errW_some (c : Int) : errW (some c) = .iface 0 (.int .i64 c) := rfl

theorem info5 : (Try.prog.info? 5).map (fun i => (i.zero, i.size, i.bytes)) = some (some (.int .u8 0), 1, 1) := by kernel_rfl
theorem info9 : (Try.prog.info? 9).map (fun i => (i.zero, i.size, i.bytes)) = some (some (.string ⟨#[]⟩), 1, 16) := by kernel_rfl
-- the values' own types

end Go.Proofs.Ytdebckcphaocmaa.PFnExactLzwCodes
