/- The program's constants are the document's. No condition. -/
import Derived.Test.YtehjfjngnofgmaaPFnExactConstantsx1
import Derived.Test.YtehjfjngnofgmaaThNum
namespace Go.Proofs.Ytehjfjngnofgmaa.Pure
open Go.RowKit Go.Proofs.Ytehjfjngnofgmaa.PFnExactConstants Go.Proofs.YtehjfjngnofgmaaW.PrintWords Go.Proofs.YtehjfjngnofgmaaW.PrintLast Go.Proofs.YtehjfjngnofgmaaW.PrintMore Go.Proofs.Ytehjfjngnofgmaa.Th
set_option linter.unusedVariables false
set_option linter.unusedSimpArgs false


theorem FnExactConstants : laws_FnExactConstants.Pure := rfl

end Go.Proofs.Ytehjfjngnofgmaa.Pure
