/- The contract of the reference's tokens. -/
import Derived.Test.YtmiencglfhpmeaaGreatDoorMQXp
import Derived.Test.YtmiencglfhpmeaaGreatDoorMQXn
import Derived.Deep.QuietTactic
import Derived.BigQuiet
import Derived.Test.YtmiencglfhpmeaaGreatDoorMQXu
set_option linter.unusedSimpArgs false
set_option linter.unusedVariables false
namespace Go.Proofs.YtmiencglfhpmeaaGreatDoor
open Go.RowKit Hach
end Go.Proofs.YtmiencglfhpmeaaGreatDoor
namespace Go.Proofs.YtmiencglfhpmeaaGreatDoor
open Go.RowKit Hach
end Go.Proofs.YtmiencglfhpmeaaGreatDoor
namespace Go.Proofs.YtmiencglfhpmeaaGreatDoor
open Go.RowKit Hach
def DN (l : List UInt8) : Prop := ∀ c ∈ l, isDig c = true ∨ c.toNat = 45
end Go.Proofs.YtmiencglfhpmeaaGreatDoor
