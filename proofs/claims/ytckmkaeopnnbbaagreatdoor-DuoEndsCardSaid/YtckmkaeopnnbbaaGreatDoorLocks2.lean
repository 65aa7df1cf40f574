/- Plain Lean: the document's lines of the locks of layer 17,and the code that they make. No program in sight. -/
import Derived.Test.YtckmkaeopnnbbaaGreatDoorGo
set_option linter.unusedVariables false
set_option maxRecDepth 4000
namespace Go.Proofs.YtckmkaeopnnbbaaGreatDoor.As

/-! ### PetInA -/
def linPetInA(base t:Nat):List Ln:=[.ins ⟨16,4,8,0,((base+3:Nat):Int)⟩ [],.ins ⟨1,5,0,0,((t+1:Nat):Int)⟩ [],.ins ⟨12,6,4,5,0⟩ [],.ins ⟨14,6,0,0,0⟩ [102,114,101,101],.ins ⟨1,7,0,0,1⟩ [],.ins ⟨13,0,0,0,0⟩ [101,110,100],.lab [102,114,101,101],.ins ⟨1,4,0,0,1⟩ [],.ins ⟨17,4,8,0,((base+0:Nat):Int)⟩ [],.ins ⟨1,4,0,0,1⟩ [],.ins ⟨17,4,8,0,((base+2:Nat):Int)⟩ [],.ins ⟨18,0,0,0,0⟩ [],.lab [115,112,105,110],.ins ⟨16,4,8,0,((base+1:Nat):Int)⟩ [],.ins ⟨14,4,0,0,0⟩ [103,111,116],.ins ⟨16,4,8,0,((base+2:Nat):Int)⟩ [],.ins ⟨1,6,0,0,1⟩ [],.ins ⟨12,6,4,6,0⟩ [],.ins ⟨15,6,0,0,0⟩ [115,112,105,110],.lab [103,111,116],.ins ⟨17,5,8,0,((base+3:Nat):Int)⟩ [],.ins ⟨1,7,0,0,0⟩ [],.lab [101,110,100]]
theorem okPetInA{base t:Nat}(hb:base≤1000000)(ht:t≤1000000):OkL (linPetInA base t):=by
 refine⟨?_,rfl,?_,Nat.le_of_ble_eq_true rfl⟩
 ·unfold linPetInA
  simp only [List.mem_cons,List.not_mem_nil,or_false,forall_eq_or_imp,forall_eq]
  exact⟨(fit_k (by decide) rfl (by omega)),(fit_k (by decide) rfl (by omega)),(fit_0 (by decide)),(fit_0 (by decide)),(fit_k (by decide) rfl (by omega)),(fit_0 (by decide)),show nameOk _=true from rfl,(fit_k (by decide) rfl (by omega)),(fit_k (by decide) rfl (by omega)),(fit_k (by decide) rfl (by omega)),(fit_k (by decide) rfl (by omega)),(fit_0 (by decide)),show nameOk _=true from rfl,(fit_k (by decide) rfl (by omega)),(fit_0 (by decide)),(fit_k (by decide) rfl (by omega)),(fit_k (by decide) rfl (by omega)),(fit_0 (by decide)),(fit_0 (by decide)),show nameOk _=true from rfl,(fit_k (by decide) rfl (by omega)),(fit_k (by decide) rfl (by omega)),show nameOk _=true from rfl⟩
 ·unfold linPetInA
  simp only [List.mem_cons,List.not_mem_nil,or_false,forall_eq_or_imp,forall_eq]
  exact⟨rfl,rfl,rfl,rfl,rfl,rfl,rfl,rfl,rfl,rfl,rfl,rfl,rfl,rfl,rfl,rfl,rfl,rfl,rfl,rfl,rfl,rfl,rfl⟩
/-! ### PetOutA -/
def linPetOutA(base t:Nat):List Ln:=[.ins ⟨16,4,8,0,((base+3:Nat):Int)⟩ [],.ins ⟨1,5,0,0,((t+1:Nat):Int)⟩ [],.ins ⟨12,6,4,5,0⟩ [],.ins ⟨15,6,0,0,0⟩ [109,105,110,101],.ins ⟨1,7,0,0,2⟩ [],.ins ⟨13,0,0,0,0⟩ [101,110,100],.lab [109,105,110,101],.ins ⟨1,4,0,0,0⟩ [],.ins ⟨17,4,8,0,((base+3:Nat):Int)⟩ [],.ins ⟨1,4,0,0,0⟩ [],.ins ⟨17,4,8,0,((base+0:Nat):Int)⟩ [],.ins ⟨1,7,0,0,0⟩ [],.lab [101,110,100]]
theorem okPetOutA{base t:Nat}(hb:base≤1000000)(ht:t≤1000000):OkL (linPetOutA base t):=by
 refine⟨?_,rfl,?_,Nat.le_of_ble_eq_true rfl⟩
 ·unfold linPetOutA
  simp only [List.mem_cons,List.not_mem_nil,or_false,forall_eq_or_imp,forall_eq]
  exact⟨(fit_k (by decide) rfl (by omega)),(fit_k (by decide) rfl (by omega)),(fit_0 (by decide)),(fit_0 (by decide)),(fit_k (by decide) rfl (by omega)),(fit_0 (by decide)),show nameOk _=true from rfl,(fit_k (by decide) rfl (by omega)),(fit_k (by decide) rfl (by omega)),(fit_k (by decide) rfl (by omega)),(fit_k (by decide) rfl (by omega)),(fit_k (by decide) rfl (by omega)),show nameOk _=true from rfl⟩
 ·unfold linPetOutA
  simp only [List.mem_cons,List.not_mem_nil,or_false,forall_eq_or_imp,forall_eq]
  exact⟨rfl,rfl,rfl,rfl,rfl,rfl,rfl,rfl,rfl,rfl,rfl,rfl,rfl⟩
/-! ### PetInB -/
def linPetInB(base t:Nat):List Ln:=[.ins ⟨16,4,8,0,((base+3:Nat):Int)⟩ [],.ins ⟨1,5,0,0,((t+1:Nat):Int)⟩ [],.ins ⟨12,6,4,5,0⟩ [],.ins ⟨14,6,0,0,0⟩ [102,114,101,101],.ins ⟨1,7,0,0,1⟩ [],.ins ⟨13,0,0,0,0⟩ [101,110,100],.lab [102,114,101,101],.ins ⟨1,4,0,0,1⟩ [],.ins ⟨17,4,8,0,((base+1:Nat):Int)⟩ [],.ins ⟨1,4,0,0,0⟩ [],.ins ⟨17,4,8,0,((base+2:Nat):Int)⟩ [],.ins ⟨18,0,0,0,0⟩ [],.lab [115,112,105,110],.ins ⟨16,4,8,0,((base+0:Nat):Int)⟩ [],.ins ⟨14,4,0,0,0⟩ [103,111,116],.ins ⟨16,4,8,0,((base+2:Nat):Int)⟩ [],.ins ⟨1,6,0,0,0⟩ [],.ins ⟨12,6,4,6,0⟩ [],.ins ⟨15,6,0,0,0⟩ [115,112,105,110],.lab [103,111,116],.ins ⟨17,5,8,0,((base+3:Nat):Int)⟩ [],.ins ⟨1,7,0,0,0⟩ [],.lab [101,110,100]]
theorem okPetInB{base t:Nat}(hb:base≤1000000)(ht:t≤1000000):OkL (linPetInB base t):=by
 refine⟨?_,rfl,?_,Nat.le_of_ble_eq_true rfl⟩
 ·unfold linPetInB
  simp only [List.mem_cons,List.not_mem_nil,or_false,forall_eq_or_imp,forall_eq]
  exact⟨(fit_k (by decide) rfl (by omega)),(fit_k (by decide) rfl (by omega)),(fit_0 (by decide)),(fit_0 (by decide)),(fit_k (by decide) rfl (by omega)),(fit_0 (by decide)),show nameOk _=true from rfl,(fit_k (by decide) rfl (by omega)),(fit_k (by decide) rfl (by omega)),(fit_k (by decide) rfl (by omega)),(fit_k (by decide) rfl (by omega)),(fit_0 (by decide)),show nameOk _=true from rfl,(fit_k (by decide) rfl (by omega)),(fit_0 (by decide)),(fit_k (by decide) rfl (by omega)),(fit_k (by decide) rfl (by omega)),(fit_0 (by decide)),(fit_0 (by decide)),show nameOk _=true from rfl,(fit_k (by decide) rfl (by omega)),(fit_k (by decide) rfl (by omega)),show nameOk _=true from rfl⟩
 ·unfold linPetInB
  simp only [List.mem_cons,List.not_mem_nil,or_false,forall_eq_or_imp,forall_eq]
  exact⟨rfl,rfl,rfl,rfl,rfl,rfl,rfl,rfl,rfl,rfl,rfl,rfl,rfl,rfl,rfl,rfl,rfl,rfl,rfl,rfl,rfl,rfl,rfl⟩
/-! ### PetOutB -/
def linPetOutB(base t:Nat):List Ln:=[.ins ⟨16,4,8,0,((base+3:Nat):Int)⟩ [],.ins ⟨1,5,0,0,((t+1:Nat):Int)⟩ [],.ins ⟨12,6,4,5,0⟩ [],.ins ⟨15,6,0,0,0⟩ [109,105,110,101],.ins ⟨1,7,0,0,2⟩ [],.ins ⟨13,0,0,0,0⟩ [101,110,100],.lab [109,105,110,101],.ins ⟨1,4,0,0,0⟩ [],.ins ⟨17,4,8,0,((base+3:Nat):Int)⟩ [],.ins ⟨1,4,0,0,0⟩ [],.ins ⟨17,4,8,0,((base+1:Nat):Int)⟩ [],.ins ⟨1,7,0,0,0⟩ [],.lab [101,110,100]]
theorem okPetOutB{base t:Nat}(hb:base≤1000000)(ht:t≤1000000):OkL (linPetOutB base t):=by
 refine⟨?_,rfl,?_,Nat.le_of_ble_eq_true rfl⟩
 ·unfold linPetOutB
  simp only [List.mem_cons,List.not_mem_nil,or_false,forall_eq_or_imp,forall_eq]
  exact⟨(fit_k (by decide) rfl (by omega)),(fit_k (by decide) rfl (by omega)),(fit_0 (by decide)),(fit_0 (by decide)),(fit_k (by decide) rfl (by omega)),(fit_0 (by decide)),show nameOk _=true from rfl,(fit_k (by decide) rfl (by omega)),(fit_k (by decide) rfl (by omega)),(fit_k (by decide) rfl (by omega)),(fit_k (by decide) rfl (by omega)),(fit_k (by decide) rfl (by omega)),show nameOk _=true from rfl⟩
 ·unfold linPetOutB
  simp only [List.mem_cons,List.not_mem_nil,or_false,forall_eq_or_imp,forall_eq]
  exact⟨rfl,rfl,rfl,rfl,rfl,rfl,rfl,rfl,rfl,rfl,rfl,rfl,rfl⟩
/-! ### DekFast -/
def linDekFast(base t:Nat):List Ln:=[.ins ⟨16,4,8,0,((base+2:Nat):Int)⟩ [],.ins ⟨1,5,0,0,((t+1:Nat):Int)⟩ [],.ins ⟨12,6,4,5,0⟩ [],.ins ⟨14,6,0,0,0⟩ [102,114,101,101],.ins ⟨1,7,0,0,1⟩ [],.ins ⟨13,0,0,0,0⟩ [101,110,100],.lab [102,114,101,101],.lab [97,103,97,105,110],.ins ⟨1,4,0,0,1⟩ [],.ins ⟨17,4,8,0,((base+0:Nat):Int)⟩ [],.ins ⟨16,4,8,0,((base+1:Nat):Int)⟩ [],.ins ⟨14,4,0,0,0⟩ [103,111,116],.ins ⟨1,4,0,0,0⟩ [],.ins ⟨17,4,8,0,((base+0:Nat):Int)⟩ [],.lab [119,97,105,116],.ins ⟨16,4,8,0,((base+1:Nat):Int)⟩ [],.ins ⟨15,4,0,0,0⟩ [119,97,105,116],.ins ⟨13,0,0,0,0⟩ [97,103,97,105,110],.lab [103,111,116],.ins ⟨17,5,8,0,((base+2:Nat):Int)⟩ [],.ins ⟨1,7,0,0,0⟩ [],.lab [101,110,100]]
theorem okDekFast{base t:Nat}(hb:base≤1000000)(ht:t≤1000000):OkL (linDekFast base t):=by
 refine⟨?_,rfl,?_,Nat.le_of_ble_eq_true rfl⟩
 ·unfold linDekFast
  simp only [List.mem_cons,List.not_mem_nil,or_false,forall_eq_or_imp,forall_eq]
  exact⟨(fit_k (by decide) rfl (by omega)),(fit_k (by decide) rfl (by omega)),(fit_0 (by decide)),(fit_0 (by decide)),(fit_k (by decide) rfl (by omega)),(fit_0 (by decide)),show nameOk _=true from rfl,show nameOk _=true from rfl,(fit_k (by decide) rfl (by omega)),(fit_k (by decide) rfl (by omega)),(fit_k (by decide) rfl (by omega)),(fit_0 (by decide)),(fit_k (by decide) rfl (by omega)),(fit_k (by decide) rfl (by omega)),show nameOk _=true from rfl,(fit_k (by decide) rfl (by omega)),(fit_0 (by decide)),(fit_0 (by decide)),show nameOk _=true from rfl,(fit_k (by decide) rfl (by omega)),(fit_k (by decide) rfl (by omega)),show nameOk _=true from rfl⟩
 ·unfold linDekFast
  simp only [List.mem_cons,List.not_mem_nil,or_false,forall_eq_or_imp,forall_eq]
  exact⟨rfl,rfl,rfl,rfl,rfl,rfl,rfl,rfl,rfl,rfl,rfl,rfl,rfl,rfl,rfl,rfl,rfl,rfl,rfl,rfl,rfl,rfl⟩
/-! ### DekSlow -/
def linDekSlow(base t:Nat):List Ln:=[.ins ⟨16,4,8,0,((base+2:Nat):Int)⟩ [],.ins ⟨1,5,0,0,((t+1:Nat):Int)⟩ [],.ins ⟨12,6,4,5,0⟩ [],.ins ⟨14,6,0,0,0⟩ [102,114,101,101],.ins ⟨1,7,0,0,1⟩ [],.ins ⟨13,0,0,0,0⟩ [101,110,100],.lab [102,114,101,101],.ins ⟨1,4,0,0,1⟩ [],.ins ⟨17,4,8,0,((base+1:Nat):Int)⟩ [],.ins ⟨25,0,0,0,0⟩ [],.lab [119,97,105,116],.ins ⟨16,4,8,0,((base+0:Nat):Int)⟩ [],.ins ⟨15,4,0,0,0⟩ [119,97,105,116],.ins ⟨17,5,8,0,((base+2:Nat):Int)⟩ [],.ins ⟨1,7,0,0,0⟩ [],.lab [101,110,100]]
theorem okDekSlow{base t:Nat}(hb:base≤1000000)(ht:t≤1000000):OkL (linDekSlow base t):=by
 refine⟨?_,rfl,?_,Nat.le_of_ble_eq_true rfl⟩
 ·unfold linDekSlow
  simp only [List.mem_cons,List.not_mem_nil,or_false,forall_eq_or_imp,forall_eq]
  exact⟨(fit_k (by decide) rfl (by omega)),(fit_k (by decide) rfl (by omega)),(fit_0 (by decide)),(fit_0 (by decide)),(fit_k (by decide) rfl (by omega)),(fit_0 (by decide)),show nameOk _=true from rfl,(fit_k (by decide) rfl (by omega)),(fit_k (by decide) rfl (by omega)),(fit_0 (by decide)),show nameOk _=true from rfl,(fit_k (by decide) rfl (by omega)),(fit_0 (by decide)),(fit_k (by decide) rfl (by omega)),(fit_k (by decide) rfl (by omega)),show nameOk _=true from rfl⟩
 ·unfold linDekSlow
  simp only [List.mem_cons,List.not_mem_nil,or_false,forall_eq_or_imp,forall_eq]
  exact⟨rfl,rfl,rfl,rfl,rfl,rfl,rfl,rfl,rfl,rfl,rfl,rfl,rfl,rfl,rfl,rfl⟩
/-! ### DekOutA -/
def linDekOutA(base t:Nat):List Ln:=[.ins ⟨16,4,8,0,((base+2:Nat):Int)⟩ [],.ins ⟨1,5,0,0,((t+1:Nat):Int)⟩ [],.ins ⟨12,6,4,5,0⟩ [],.ins ⟨15,6,0,0,0⟩ [109,105,110,101],.ins ⟨1,7,0,0,2⟩ [],.ins ⟨13,0,0,0,0⟩ [101,110,100],.lab [109,105,110,101],.ins ⟨1,4,0,0,0⟩ [],.ins ⟨17,4,8,0,((base+2:Nat):Int)⟩ [],.ins ⟨1,4,0,0,0⟩ [],.ins ⟨17,4,8,0,((base+0:Nat):Int)⟩ [],.ins ⟨1,7,0,0,0⟩ [],.lab [101,110,100]]
theorem okDekOutA{base t:Nat}(hb:base≤1000000)(ht:t≤1000000):OkL (linDekOutA base t):=by
 refine⟨?_,rfl,?_,Nat.le_of_ble_eq_true rfl⟩
 ·unfold linDekOutA
  simp only [List.mem_cons,List.not_mem_nil,or_false,forall_eq_or_imp,forall_eq]
  exact⟨(fit_k (by decide) rfl (by omega)),(fit_k (by decide) rfl (by omega)),(fit_0 (by decide)),(fit_0 (by decide)),(fit_k (by decide) rfl (by omega)),(fit_0 (by decide)),show nameOk _=true from rfl,(fit_k (by decide) rfl (by omega)),(fit_k (by decide) rfl (by omega)),(fit_k (by decide) rfl (by omega)),(fit_k (by decide) rfl (by omega)),(fit_k (by decide) rfl (by omega)),show nameOk _=true from rfl⟩
 ·unfold linDekOutA
  simp only [List.mem_cons,List.not_mem_nil,or_false,forall_eq_or_imp,forall_eq]
  exact⟨rfl,rfl,rfl,rfl,rfl,rfl,rfl,rfl,rfl,rfl,rfl,rfl,rfl⟩
/-! ### DekOutB -/
def linDekOutB(base t:Nat):List Ln:=[.ins ⟨16,4,8,0,((base+2:Nat):Int)⟩ [],.ins ⟨1,5,0,0,((t+1:Nat):Int)⟩ [],.ins ⟨12,6,4,5,0⟩ [],.ins ⟨15,6,0,0,0⟩ [109,105,110,101],.ins ⟨1,7,0,0,2⟩ [],.ins ⟨13,0,0,0,0⟩ [101,110,100],.lab [109,105,110,101],.ins ⟨1,4,0,0,0⟩ [],.ins ⟨17,4,8,0,((base+2:Nat):Int)⟩ [],.ins ⟨1,4,0,0,0⟩ [],.ins ⟨17,4,8,0,((base+1:Nat):Int)⟩ [],.ins ⟨1,7,0,0,0⟩ [],.lab [101,110,100]]
theorem okDekOutB{base t:Nat}(hb:base≤1000000)(ht:t≤1000000):OkL (linDekOutB base t):=by
 refine⟨?_,rfl,?_,Nat.le_of_ble_eq_true rfl⟩
 ·unfold linDekOutB
  simp only [List.mem_cons,List.not_mem_nil,or_false,forall_eq_or_imp,forall_eq]
  exact⟨(fit_k (by decide) rfl (by omega)),(fit_k (by decide) rfl (by omega)),(fit_0 (by decide)),(fit_0 (by decide)),(fit_k (by decide) rfl (by omega)),(fit_0 (by decide)),show nameOk _=true from rfl,(fit_k (by decide) rfl (by omega)),(fit_k (by decide) rfl (by omega)),(fit_k (by decide) rfl (by omega)),(fit_k (by decide) rfl (by omega)),(fit_k (by decide) rfl (by omega)),show nameOk _=true from rfl⟩
 ·unfold linDekOutB
  simp only [List.mem_cons,List.not_mem_nil,or_false,forall_eq_or_imp,forall_eq]
  exact⟨rfl,rfl,rfl,rfl,rfl,rfl,rfl,rfl,rfl,rfl,rfl,rfl,rfl⟩
/-! ### Stranger -/
end Go.Proofs.YtckmkaeopnnbbaaGreatDoor.As
