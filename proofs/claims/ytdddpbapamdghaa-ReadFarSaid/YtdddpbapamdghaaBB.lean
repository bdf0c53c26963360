/- Contracts of chapter 08's functions (printed by build08.py). -/
import Derived.Test.YtdddpbapamdghaaT
import Derived.Test.YtdddpbapamdghaaM08
set_option linter.unusedVariables false
set_option linter.unusedSimpArgs false
namespace Go.Proofs.Ytdddpbapamdghaa.K
open Go Go.RowKit Go.Proofs
attribute [local irreducible] Run1 OpG WL W AO Gives
end Go.Proofs.Ytdddpbapamdghaa.K
