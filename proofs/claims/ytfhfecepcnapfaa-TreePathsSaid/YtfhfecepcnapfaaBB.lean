/- Contracts of chapter 08's functions (printed by build08.py). -/
import Derived.Test.YtfhfecepcnapfaaT
import Derived.Test.YtfhfecepcnapfaaM08
set_option linter.unusedVariables false
set_option linter.unusedSimpArgs false
namespace Go.Proofs.Ytfhfecepcnapfaa.K
open Go Go.RowKit Go.Proofs
attribute [local irreducible] Run1 OpG WL W AO Gives
end Go.Proofs.Ytfhfecepcnapfaa.K
