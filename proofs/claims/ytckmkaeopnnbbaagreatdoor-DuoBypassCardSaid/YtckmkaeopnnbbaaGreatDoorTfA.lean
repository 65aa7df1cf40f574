/- Plain Lean: who waits, in the order of the swaps of the word 16; who enters is always the first of them. No program in sight. -/
import Derived.Test.YtckmkaeopnnbbaaGreatDoorGl
set_option linter.unusedVariables false
set_option linter.unusedSimpArgs false
namespace Go.Proofs.YtckmkaeopnnbbaaGreatDoor.As

section
variable {W r : List Nat} {st : Nat → Nat} {e : Ev} {t : Nat}
end
end Go.Proofs.YtckmkaeopnnbbaaGreatDoor.As
