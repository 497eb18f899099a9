/- The contract of the reference's typeOf (printed by gen_en.py). -/
import Derived.Test.YtggkkjnfonbpkaaDoorQXc

set_option linter.unusedSimpArgs false
set_option linter.unusedVariables false
namespace Go.Proofs.YtggkkjnfonbpkaaDoor
open Go.RowKit Hach

end Go.Proofs.YtggkkjnfonbpkaaDoor
