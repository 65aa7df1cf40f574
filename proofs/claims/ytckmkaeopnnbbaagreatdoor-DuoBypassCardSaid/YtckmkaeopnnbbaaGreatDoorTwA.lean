/- The walk of deadlatchlaw15.turns. -/
import Derived.Test.YtckmkaeopnnbbaaGreatDoorTcD
import Derived.Test.YtckmkaeopnnbbaaGreatDoorTfB
set_option linter.unusedVariables false
set_option linter.unusedSimpArgs false
namespace Go.Proofs.YtckmkaeopnnbbaaGreatDoor.As
open Go.RowKit

end Go.Proofs.YtckmkaeopnnbbaaGreatDoor.As
