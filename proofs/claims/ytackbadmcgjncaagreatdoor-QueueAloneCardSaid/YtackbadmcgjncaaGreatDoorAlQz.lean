/- Plain facts: a thread alone takes and leaves the locks of the package queue. -/
import Derived.Test.YtackbadmcgjncaaGreatDoorAlP
import Derived.Test.YtackbadmcgjncaaGreatDoorQueP
set_option linter.unusedVariables false
set_option maxRecDepth 20000
namespace Go.Proofs.YtackbadmcgjncaaGreatDoor.As

def fineC (l : List Ins) : Bool := decide (0 < l.length) && decide (l.length ≤ 100) && l.all fun x => wd x.k
def goodCase (a b : List Ins) (mem : List Int) (t own : Nat) : Bool := aloneGood a b mem t own && fineC a && fineC b
/-- The words of a queue of nodes, at first. -/
def clhMem (th : Nat) : List Int := [(th : Int), 0, 0] ++ List.replicate th 0 ++ (List.range th).map (fun i : Nat => (i : Int)) ++ List.replicate th 0
theorem good_mcs : ∀ th : Fin 5, ∀ t : Fin 4, t.val < th.val → goodCase (resL (linMcsIn 16 th t)) (resL (linMcsOut 16 th t)) (List.replicate (2 + 2 * th.val) 0) t 1 = true := by decide +kernel
theorem good_clh : ∀ th : Fin 5, ∀ t : Fin 4, t.val < th.val → goodCase (resL (linClhIn 16 th t)) (resL (linClhOut 16 th t)) (clhMem th) t 1 = true := by decide +kernel
end Go.Proofs.YtackbadmcgjncaaGreatDoor.As
