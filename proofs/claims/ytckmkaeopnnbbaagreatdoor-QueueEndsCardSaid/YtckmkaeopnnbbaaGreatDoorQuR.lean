/- Plain Lean: the locks of the package queue: one at a time. No program in sight. -/
import Derived.Test.YtckmkaeopnnbbaaGreatDoorTqW
import Derived.Test.YtckmkaeopnnbbaaGreatDoorTqb
import Derived.Test.YtckmkaeopnnbbaaGreatDoorTqd
import Derived.Test.YtckmkaeopnnbbaaGreatDoorQuK
set_option linter.unusedVariables false
set_option linter.unusedSimpArgs false
namespace Go.Proofs.YtckmkaeopnnbbaaGreatDoor.As.T

theorem zeros(n i:Nat):(mem0 (List.replicate n 0)).getD i 0=0:=by
 unfold mem0
 rw [List.replicate_append_replicate,List.getD_eq_getElem?_getD,List.getElem?_replicate]
 split<;>rfl
theorem clh_facts:∀ T:Fin 5,∀ t:Fin 4,t.val < T.val→(mem0 (quM 5 T)).getD (19+T+t) 0=(t.val:Int)∧(mem0 (quM 5 T)).getD (19+2*T+t) 0=0:=by decide +kernel
theorem clh_facts2:∀ T:Fin 5,(mem0 (quM 5 T)).getD 16 0=(T.val:Int)∧(mem0 (quM 5 T)).getD 17 0=0∧(mem0 (quM 5 T)).getD (18+T) 0=0∧(quM 5 T).length=3+3*T:=by decide +kernel
end Go.Proofs.YtckmkaeopnnbbaaGreatDoor.As.T
