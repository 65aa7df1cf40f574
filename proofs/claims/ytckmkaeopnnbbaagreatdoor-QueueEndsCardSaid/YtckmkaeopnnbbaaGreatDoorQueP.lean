/- The lines of the code of the package queue. -/
import Derived.Test.YtckmkaeopnnbbaaGreatDoorGo
set_option linter.unusedVariables false
set_option maxRecDepth 4000
namespace Go.Proofs.YtckmkaeopnnbbaaGreatDoor.As
def linMcsIn(base th t:Nat):List Ln:=[.ins ⟨16,4,8,0,((base+1:Nat):Int)⟩ [],.ins ⟨1,5,0,0,((t+1:Nat):Int)⟩ [],.ins ⟨12,6,4,5,0⟩ [],.ins ⟨14,6,0,0,0⟩ [102,114,101,101],.ins ⟨1,7,0,0,1⟩ [],.ins ⟨13,0,0,0,0⟩ [101,110,100],.lab [102,114,101,101],.ins ⟨1,4,0,0,0⟩ [],.ins ⟨17,4,8,0,((base+2+t:Nat):Int)⟩ [],.ins ⟨1,4,0,0,1⟩ [],.ins ⟨17,4,8,0,((base+2+th+t:Nat):Int)⟩ [],.ins ⟨1,4,0,0,((t+1:Nat):Int)⟩ [],.ins ⟨19,4,8,0,((base:Nat):Int)⟩ [],.ins ⟨14,4,0,0,0⟩ [103,111,116],.ins ⟨17,5,4,0,((base+1:Nat):Int)⟩ [],.lab [115,112,105,110],.ins ⟨16,6,8,0,((base+2+th+t:Nat):Int)⟩ [],.ins ⟨15,6,0,0,0⟩ [115,112,105,110],.lab [103,111,116],.ins ⟨17,5,8,0,((base+1:Nat):Int)⟩ [],.ins ⟨1,7,0,0,0⟩ [],.lab [101,110,100]]
theorem okMcsIn{base th t:Nat}(hb:base≤100000)(hth:th≤100)(ht:t≤100):OkL (linMcsIn base th t):=by
 refine⟨?_,rfl,?_,Nat.le_of_ble_eq_true rfl⟩
 ·unfold linMcsIn
  simp only [List.mem_cons,List.not_mem_nil,or_false,forall_eq_or_imp,forall_eq]
  exact⟨(fit_k (by decide) rfl (by omega)),(fit_k (by decide) rfl (by omega)),(fit_0 (by decide)),(fit_0 (by decide)),(fit_k (by decide) rfl (by omega)),(fit_0 (by decide)),show nameOk _=true from rfl,(fit_k (by decide) rfl (by omega)),(fit_k (by decide) rfl (by omega)),(fit_k (by decide) rfl (by omega)),(fit_k (by decide) rfl (by omega)),(fit_k (by decide) rfl (by omega)),(fit_k (by decide) rfl (by omega)),(fit_0 (by decide)),(fit_k (by decide) rfl (by omega)),show nameOk _=true from rfl,(fit_k (by decide) rfl (by omega)),(fit_0 (by decide)),show nameOk _=true from rfl,(fit_k (by decide) rfl (by omega)),(fit_k (by decide) rfl (by omega)),show nameOk _=true from rfl⟩
 ·unfold linMcsIn
  simp only [List.mem_cons,List.not_mem_nil,or_false,forall_eq_or_imp,forall_eq]
  exact⟨rfl,rfl,rfl,rfl,rfl,rfl,rfl,rfl,rfl,rfl,rfl,rfl,rfl,rfl,rfl,rfl,rfl,rfl,rfl,rfl,rfl,rfl⟩
def linMcsOut(base th t:Nat):List Ln:=[.ins ⟨16,4,8,0,((base+1:Nat):Int)⟩ [],.ins ⟨1,5,0,0,((t+1:Nat):Int)⟩ [],.ins ⟨12,6,4,5,0⟩ [],.ins ⟨15,6,0,0,0⟩ [109,105,110,101],.ins ⟨1,7,0,0,2⟩ [],.ins ⟨13,0,0,0,0⟩ [101,110,100],.lab [109,105,110,101],.ins ⟨1,4,0,0,0⟩ [],.ins ⟨17,4,8,0,((base+1:Nat):Int)⟩ [],.ins ⟨16,4,8,0,((base+2+t:Nat):Int)⟩ [],.ins ⟨15,4,0,0,0⟩ [112,97,115,115],.ins ⟨2,4,5,0,0⟩ [],.ins ⟨1,6,0,0,0⟩ [],.ins ⟨21,4,8,6,((base:Nat):Int)⟩ [],.ins ⟨12,6,4,5,0⟩ [],.ins ⟨15,6,0,0,0⟩ [100,111,110,101],.lab [108,111,111,107],.ins ⟨16,4,8,0,((base+2+t:Nat):Int)⟩ [],.ins ⟨14,4,0,0,0⟩ [108,111,111,107],.lab [112,97,115,115],.ins ⟨1,6,0,0,0⟩ [],.ins ⟨17,6,4,0,((base+1+th:Nat):Int)⟩ [],.lab [100,111,110,101],.ins ⟨1,7,0,0,0⟩ [],.lab [101,110,100]]
theorem okMcsOut{base th t:Nat}(hb:base≤100000)(hth:th≤100)(ht:t≤100):OkL (linMcsOut base th t):=by
 refine⟨?_,rfl,?_,Nat.le_of_ble_eq_true rfl⟩
 ·unfold linMcsOut
  simp only [List.mem_cons,List.not_mem_nil,or_false,forall_eq_or_imp,forall_eq]
  exact⟨(fit_k (by decide) rfl (by omega)),(fit_k (by decide) rfl (by omega)),(fit_0 (by decide)),(fit_0 (by decide)),(fit_k (by decide) rfl (by omega)),(fit_0 (by decide)),show nameOk _=true from rfl,(fit_k (by decide) rfl (by omega)),(fit_k (by decide) rfl (by omega)),(fit_k (by decide) rfl (by omega)),(fit_0 (by decide)),(fit_0 (by decide)),(fit_k (by decide) rfl (by omega)),(fit_k (by decide) rfl (by omega)),(fit_0 (by decide)),(fit_0 (by decide)),show nameOk _=true from rfl,(fit_k (by decide) rfl (by omega)),(fit_0 (by decide)),show nameOk _=true from rfl,(fit_k (by decide) rfl (by omega)),(fit_k (by decide) rfl (by omega)),show nameOk _=true from rfl,(fit_k (by decide) rfl (by omega)),show nameOk _=true from rfl⟩
 ·unfold linMcsOut
  simp only [List.mem_cons,List.not_mem_nil,or_false,forall_eq_or_imp,forall_eq]
  exact⟨rfl,rfl,rfl,rfl,rfl,rfl,rfl,rfl,rfl,rfl,rfl,rfl,rfl,rfl,rfl,rfl,rfl,rfl,rfl,rfl,rfl,rfl,rfl,rfl,rfl⟩
def linClhIn(base th t:Nat):List Ln:=[.ins ⟨16,4,8,0,((base+1:Nat):Int)⟩ [],.ins ⟨1,5,0,0,((t+1:Nat):Int)⟩ [],.ins ⟨12,6,4,5,0⟩ [],.ins ⟨14,6,0,0,0⟩ [102,114,101,101],.ins ⟨1,7,0,0,1⟩ [],.ins ⟨13,0,0,0,0⟩ [101,110,100],.lab [102,114,101,101],.ins ⟨16,4,8,0,((base+3+th+t:Nat):Int)⟩ [],.ins ⟨1,6,0,0,1⟩ [],.ins ⟨17,6,4,0,((base+2:Nat):Int)⟩ [],.ins ⟨19,4,8,0,((base:Nat):Int)⟩ [],.ins ⟨17,4,8,0,((base+3+2*th+t:Nat):Int)⟩ [],.lab [115,112,105,110],.ins ⟨16,6,4,0,((base+2:Nat):Int)⟩ [],.ins ⟨15,6,0,0,0⟩ [115,112,105,110],.ins ⟨17,5,8,0,((base+1:Nat):Int)⟩ [],.ins ⟨1,7,0,0,0⟩ [],.lab [101,110,100]]
theorem okClhIn{base th t:Nat}(hb:base≤100000)(hth:th≤100)(ht:t≤100):OkL (linClhIn base th t):=by
 refine⟨?_,rfl,?_,Nat.le_of_ble_eq_true rfl⟩
 ·unfold linClhIn
  simp only [List.mem_cons,List.not_mem_nil,or_false,forall_eq_or_imp,forall_eq]
  exact⟨(fit_k (by decide) rfl (by omega)),(fit_k (by decide) rfl (by omega)),(fit_0 (by decide)),(fit_0 (by decide)),(fit_k (by decide) rfl (by omega)),(fit_0 (by decide)),show nameOk _=true from rfl,(fit_k (by decide) rfl (by omega)),(fit_k (by decide) rfl (by omega)),(fit_k (by decide) rfl (by omega)),(fit_k (by decide) rfl (by omega)),(fit_k (by decide) rfl (by omega)),show nameOk _=true from rfl,(fit_k (by decide) rfl (by omega)),(fit_0 (by decide)),(fit_k (by decide) rfl (by omega)),(fit_k (by decide) rfl (by omega)),show nameOk _=true from rfl⟩
 ·unfold linClhIn
  simp only [List.mem_cons,List.not_mem_nil,or_false,forall_eq_or_imp,forall_eq]
  exact⟨rfl,rfl,rfl,rfl,rfl,rfl,rfl,rfl,rfl,rfl,rfl,rfl,rfl,rfl,rfl,rfl,rfl,rfl⟩
def linClhOut(base th t:Nat):List Ln:=[.ins ⟨16,4,8,0,((base+1:Nat):Int)⟩ [],.ins ⟨1,5,0,0,((t+1:Nat):Int)⟩ [],.ins ⟨12,6,4,5,0⟩ [],.ins ⟨15,6,0,0,0⟩ [109,105,110,101],.ins ⟨1,7,0,0,2⟩ [],.ins ⟨13,0,0,0,0⟩ [101,110,100],.lab [109,105,110,101],.ins ⟨1,4,0,0,0⟩ [],.ins ⟨17,4,8,0,((base+1:Nat):Int)⟩ [],.ins ⟨16,4,8,0,((base+3+th+t:Nat):Int)⟩ [],.ins ⟨16,6,8,0,((base+3+2*th+t:Nat):Int)⟩ [],.ins ⟨17,6,8,0,((base+3+th+t:Nat):Int)⟩ [],.ins ⟨1,6,0,0,0⟩ [],.ins ⟨17,6,4,0,((base+2:Nat):Int)⟩ [],.ins ⟨1,7,0,0,0⟩ [],.lab [101,110,100]]
theorem okClhOut{base th t:Nat}(hb:base≤100000)(hth:th≤100)(ht:t≤100):OkL (linClhOut base th t):=by
 refine⟨?_,rfl,?_,Nat.le_of_ble_eq_true rfl⟩
 ·unfold linClhOut
  simp only [List.mem_cons,List.not_mem_nil,or_false,forall_eq_or_imp,forall_eq]
  exact⟨(fit_k (by decide) rfl (by omega)),(fit_k (by decide) rfl (by omega)),(fit_0 (by decide)),(fit_0 (by decide)),(fit_k (by decide) rfl (by omega)),(fit_0 (by decide)),show nameOk _=true from rfl,(fit_k (by decide) rfl (by omega)),(fit_k (by decide) rfl (by omega)),(fit_k (by decide) rfl (by omega)),(fit_k (by decide) rfl (by omega)),(fit_k (by decide) rfl (by omega)),(fit_k (by decide) rfl (by omega)),(fit_k (by decide) rfl (by omega)),(fit_k (by decide) rfl (by omega)),show nameOk _=true from rfl⟩
 ·unfold linClhOut
  simp only [List.mem_cons,List.not_mem_nil,or_false,forall_eq_or_imp,forall_eq]
  exact⟨rfl,rfl,rfl,rfl,rfl,rfl,rfl,rfl,rfl,rfl,rfl,rfl,rfl,rfl,rfl,rfl⟩
end Go.Proofs.YtckmkaeopnnbbaaGreatDoor.As
