/- Plain Lean: the locks of the package spin: one at a time. No program in sight. -/
import Derived.Test.YtckmkaeopnnbbaaGreatDoorTqG
import Derived.Test.YtckmkaeopnnbbaaGreatDoorTq1
import Derived.Test.YtckmkaeopnnbbaaGreatDoorTq2
import Derived.Test.YtckmkaeopnnbbaaGreatDoorTq3
set_option linter.unusedVariables false
set_option linter.unusedSimpArgs false
namespace Go.Proofs.YtckmkaeopnnbbaaGreatDoor.As.T

theorem fine_tas : ∀ r : Fin 4, ∀ t : Fin 4, fineL (roundsR (resL (linTas 16 t)) (resL (linRel 16 t)) (r + 1) []) = true := by decide +kernel
theorem fine_ttas : ∀ r : Fin 4, ∀ t : Fin 4, fineL (roundsR (resL (linTtas 16 t)) (resL (linRel 16 t)) (r + 1) []) = true := by decide +kernel
theorem fine_tick : ∀ r : Fin 4, ∀ t : Fin 4, fineL (roundsR (resL (linTick 16 t)) (resL (linPass 16 t)) (r + 1) []) = true := by decide +kernel
theorem short_tas : ∀ t : Fin 4, shortL (resL (linTas 16 t)) = true := by decide +kernel
theorem short_ttas : ∀ t : Fin 4, shortL (resL (linTtas 16 t)) = true := by decide +kernel
theorem short_tick : ∀ t : Fin 4, shortL (resL (linTick 16 t)) = true := by decide +kernel
theorem short_rel : ∀ t : Fin 4, shortL (resL (linRel 16 t)) = true := by decide +kernel
theorem short_pass : ∀ t : Fin 4, shortL (resL (linPass 16 t)) = true := by decide +kernel
end Go.Proofs.YtckmkaeopnnbbaaGreatDoor.As.T
