/- Plain Lean: the locks' codes, by a thread alone. No program in sight. -/
import Derived.Test.YtackbadmcgjncaaDoorAlP
import Derived.Test.YtackbadmcgjncaaDoorLocks
import Derived.Test.YtackbadmcgjncaaDoorLocks2
import Derived.Test.YtackbadmcgjncaaDoorLocks3
set_option linter.unusedVariables false
set_option maxRecDepth 100000
namespace Go.Proofs.YtackbadmcgjncaaDoor.As

def fineC (l : List Ins) : Bool := decide (0 < l.length) && decide (l.length ≤ 100) && l.all fun x => wd x.k
def goodCase (a b : List Ins) (mem : List Int) (t own : Nat) : Bool := aloneGood a b mem t own && fineC a && fineC b
theorem good_tas : ∀ t : Fin 4, goodCase (resL (linTas 16 t)) (resL (linRel 16 t)) [0] t 0 = true := by decide +kernel
theorem good_ttas : ∀ t : Fin 4, goodCase (resL (linTtas 16 t)) (resL (linRel 16 t)) [0] t 0 = true := by decide +kernel
theorem good_tick : ∀ t : Fin 4, goodCase (resL (linTick 16 t)) (resL (linPass 16 t)) [0, 0, 0] t 2 = true := by decide +kernel
theorem good_bown : ∀ t : Fin 4, goodCase (resL (linBiasOwn 16 t)) (resL (linBiasLeave 16 t)) [0, 0, 0, 0] t 3 = true := by decide +kernel
theorem good_both : ∀ t : Fin 4, goodCase (resL (linBiasOther 16 t)) (resL (linBiasOut 16 t)) [0, 0, 0, 0] t 3 = true := by decide +kernel
theorem good_petA : ∀ t : Fin 2, goodCase (resL (linPetInA 16 t)) (resL (linPetOutA 16 t)) [0, 0, 0, 0] t 3 = true := by decide +kernel
theorem good_petB : ∀ t : Fin 2, goodCase (resL (linPetInB 16 t)) (resL (linPetOutB 16 t)) [0, 0, 0, 0] t 3 = true := by decide +kernel
theorem good_dekA : ∀ t : Fin 2, goodCase (resL (linDekFast 16 t)) (resL (linDekOutA 16 t)) [0, 0, 0] t 2 = true := by decide +kernel
theorem good_dekB : ∀ t : Fin 2, goodCase (resL (linDekSlow 16 t)) (resL (linDekOutB 16 t)) [0, 0, 0] t 2 = true := by decide +kernel
end Go.Proofs.YtackbadmcgjncaaDoor.As
