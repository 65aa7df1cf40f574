/- The codes of the package duo,as DuoOne asks for them. -/
import Derived.Test.YtckmkaeopnnbbaaGreatDoorDuK
import Derived.Test.YtckmkaeopnnbbaaGreatDoorLocks2
set_option linter.unusedVariables false
set_option linter.unusedSimpArgs false
set_option maxRecDepth 20000
namespace Go.Proofs.YtckmkaeopnnbbaaGreatDoor.As.T
open Go.RowKit

def duF(k A t:Nat):List Ln:=if k=6 then (if t=A then linPetInA 16 t else linPetInB 16 t) else (if t=A then linDekFast 16 t else linDekSlow 16 t)
def duG(k A t:Nat):List Ln:=if k=6 then (if t=A then linPetOutA 16 t else linPetOutB 16 t) else (if t=A then linDekOutA 16 t else linDekOutB 16 t)
def duM(k:Nat):List Int:=if k=6 then [0,0,0,0] else [0,0,0]
theorem k_fin{k:Nat}(h:k=6∨k=7):∃ q:Fin 2,k=q+6:=by
 rcases h with rfl | rfl
 ·exact⟨0,rfl⟩
 ·exact⟨1,rfl⟩
theorem du1(W:World)(TI:TabI W)(TO:TabO W)(k A t:Nat)(hk:k=6∨k=7)(hA:A < 2)(ht:t < 2):
  Calls Tryz.prog 41 #[.agg #[.int .i64 (k:Int),.int .i64 0,.int .i64 (A:Int),.int .i64 ((1 - A:Nat):Int)],.int .i64 1,.int .i64 2,.int .i64 (t:Int),.int .u32 16,.int .u32 0] W (CodeIs W (resL (duF k A t))):=by
 by_cases e:t=A
 ·subst e
  rcases hk with rfl | rfl
  ·have hA1:AskP 6 0 t ((1 - t:Nat):Int) 1 2 t:=⟨by unfold RightP;omega,by omega,by omega,by decide⟩
   have h:=codePetInA_any W TI TO 0 ((1 - t:Nat):Int) 2 0 t 16 hA1 (by omega) (by omega)
   unfold duF
   first | rw [if_pos rfl,if_pos rfl] | rw [if_neg (by decide),if_pos rfl]
   exact h
  ·have hA1:AskP 7 0 t ((1 - t:Nat):Int) 1 2 t:=⟨by unfold RightP;omega,by omega,by omega,by decide⟩
   have h:=codeDekFast_any W TI TO 0 ((1 - t:Nat):Int) 2 0 t 16 hA1 (by omega) (by omega)
   unfold duF
   first | rw [if_pos rfl,if_pos rfl] | rw [if_neg (by decide),if_pos rfl]
   exact h
 ·have he:((t:Int) == (A:Int))=false:=by simp;omega
  have hm:((t:Int) != (A:Int))=true:=by simp;omega
  obtain rfl:t=1 - A:=by omega
  rcases hk with rfl | rfl
  ·have hA1:AskP 6 0 A ((1 - A:Nat):Int) 1 2 ((1 - A:Nat):Int):=⟨by unfold RightP;omega,by omega,by omega,by decide⟩
   have h:=codePetInB_any W TI TO 0 A 2 0 (1 - A) 16 hA1 (by omega) (by omega) he hm
   unfold duF
   first | rw [if_pos rfl,if_neg e] | rw [if_neg (by decide),if_neg e]
   exact h
  ·have hA1:AskP 7 0 A ((1 - A:Nat):Int) 1 2 ((1 - A:Nat):Int):=⟨by unfold RightP;omega,by omega,by omega,by decide⟩
   have h:=codeDekSlow_any W TI TO 0 A 2 0 (1 - A) 16 hA1 (by omega) (by omega) he hm
   unfold duF
   first | rw [if_pos rfl,if_neg e] | rw [if_neg (by decide),if_neg e]
   exact h
theorem du2(W:World)(TI:TabI W)(TO:TabO W)(k A t:Nat)(hk:k=6∨k=7)(hA:A < 2)(ht:t < 2):
  Calls Tryz.prog 41 #[.agg #[.int .i64 (k:Int),.int .i64 0,.int .i64 (A:Int),.int .i64 ((1 - A:Nat):Int)],.int .i64 2,.int .i64 2,.int .i64 (t:Int),.int .u32 16,.int .u32 0] W (CodeIs W (resL (duG k A t))):=by
 by_cases e:t=A
 ·subst e
  rcases hk with rfl | rfl
  ·have hA1:AskP 6 0 t ((1 - t:Nat):Int) 2 2 t:=⟨by unfold RightP;omega,by omega,by omega,by decide⟩
   have h:=codePetOutA_any W TI TO 0 ((1 - t:Nat):Int) 2 0 t 16 hA1 (by omega) (by omega)
   unfold duG
   first | rw [if_pos rfl,if_pos rfl] | rw [if_neg (by decide),if_pos rfl]
   exact h
  ·have hA1:AskP 7 0 t ((1 - t:Nat):Int) 2 2 t:=⟨by unfold RightP;omega,by omega,by omega,by decide⟩
   have h:=codeDekOutA_any W TI TO 0 ((1 - t:Nat):Int) 2 0 t 16 hA1 (by omega) (by omega)
   unfold duG
   first | rw [if_pos rfl,if_pos rfl] | rw [if_neg (by decide),if_pos rfl]
   exact h
 ·have he:((t:Int) == (A:Int))=false:=by simp;omega
  have hm:((t:Int) != (A:Int))=true:=by simp;omega
  obtain rfl:t=1 - A:=by omega
  rcases hk with rfl | rfl
  ·have hA1:AskP 6 0 A ((1 - A:Nat):Int) 2 2 ((1 - A:Nat):Int):=⟨by unfold RightP;omega,by omega,by omega,by decide⟩
   have h:=codePetOutB_any W TI TO 0 A 2 0 (1 - A) 16 hA1 (by omega) (by omega) he hm
   unfold duG
   first | rw [if_pos rfl,if_neg e] | rw [if_neg (by decide),if_neg e]
   exact h
  ·have hA1:AskP 7 0 A ((1 - A:Nat):Int) 2 2 ((1 - A:Nat):Int):=⟨by unfold RightP;omega,by omega,by omega,by decide⟩
   have h:=codeDekOutB_any W TI TO 0 A 2 0 (1 - A) 16 hA1 (by omega) (by omega) he hm
   unfold duG
   first | rw [if_pos rfl,if_neg e] | rw [if_neg (by decide),if_neg e]
   exact h
end Go.Proofs.YtckmkaeopnnbbaaGreatDoor.As.T
