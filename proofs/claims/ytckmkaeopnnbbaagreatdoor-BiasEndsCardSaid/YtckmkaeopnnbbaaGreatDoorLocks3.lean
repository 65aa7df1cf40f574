/- Plain Lean: the document's lines of the locks of layer 18,and the code that they make. No program in sight. -/
import Derived.Test.YtckmkaeopnnbbaaGreatDoorGo
set_option linter.unusedVariables false
set_option maxRecDepth 4000
namespace Go.Proofs.YtckmkaeopnnbbaaGreatDoor.As

/-! ### BiasOwn -/
def linBiasOwn(base t:Nat):List Ln:=[.ins ⟨16,4,8,0,((base+3:Nat):Int)⟩ [],.ins ⟨1,5,0,0,((t+1:Nat):Int)⟩ [],.ins ⟨12,6,4,5,0⟩ [],.ins ⟨14,6,0,0,0⟩ [102,114,101,101],.ins ⟨1,7,0,0,1⟩ [],.ins ⟨13,0,0,0,0⟩ [101,110,100],.lab [102,114,101,101],.ins ⟨1,4,0,0,1⟩ [],.ins ⟨17,4,8,0,((base+0:Nat):Int)⟩ [],.ins ⟨16,4,8,0,((base+1:Nat):Int)⟩ [],.ins ⟨14,4,0,0,0⟩ [103,111,116],.ins ⟨1,4,0,0,0⟩ [],.ins ⟨17,4,8,0,((base+0:Nat):Int)⟩ [],.lab [115,112,105,110],.ins ⟨1,4,0,0,0⟩ [],.ins ⟨21,4,8,5,((base+2:Nat):Int)⟩ [],.ins ⟨15,4,0,0,0⟩ [115,112,105,110],.lab [103,111,116],.ins ⟨17,5,8,0,((base+3:Nat):Int)⟩ [],.ins ⟨1,7,0,0,0⟩ [],.lab [101,110,100]]
theorem okBiasOwn{base t:Nat}(hb:base≤1000000)(ht:t≤1000000):OkL (linBiasOwn base t):=by
 refine⟨?_,rfl,?_,Nat.le_of_ble_eq_true rfl⟩
 ·unfold linBiasOwn
  simp only [List.mem_cons,List.not_mem_nil,or_false,forall_eq_or_imp,forall_eq]
  exact⟨(fit_k (by decide) rfl (by omega)),(fit_k (by decide) rfl (by omega)),(fit_0 (by decide)),(fit_0 (by decide)),(fit_k (by decide) rfl (by omega)),(fit_0 (by decide)),show nameOk _=true from rfl,(fit_k (by decide) rfl (by omega)),(fit_k (by decide) rfl (by omega)),(fit_k (by decide) rfl (by omega)),(fit_0 (by decide)),(fit_k (by decide) rfl (by omega)),(fit_k (by decide) rfl (by omega)),show nameOk _=true from rfl,(fit_k (by decide) rfl (by omega)),(fit_k (by decide) rfl (by omega)),(fit_0 (by decide)),show nameOk _=true from rfl,(fit_k (by decide) rfl (by omega)),(fit_k (by decide) rfl (by omega)),show nameOk _=true from rfl⟩
 ·unfold linBiasOwn
  simp only [List.mem_cons,List.not_mem_nil,or_false,forall_eq_or_imp,forall_eq]
  exact⟨rfl,rfl,rfl,rfl,rfl,rfl,rfl,rfl,rfl,rfl,rfl,rfl,rfl,rfl,rfl,rfl,rfl,rfl,rfl,rfl,rfl⟩
/-! ### BiasOther -/
def linBiasOther(base t:Nat):List Ln:=[.ins ⟨16,4,8,0,((base+3:Nat):Int)⟩ [],.ins ⟨1,5,0,0,((t+1:Nat):Int)⟩ [],.ins ⟨12,6,4,5,0⟩ [],.ins ⟨14,6,0,0,0⟩ [102,114,101,101],.ins ⟨1,7,0,0,1⟩ [],.ins ⟨13,0,0,0,0⟩ [101,110,100],.lab [102,114,101,101],.lab [115,112,105,110],.ins ⟨1,4,0,0,0⟩ [],.ins ⟨21,4,8,5,((base+2:Nat):Int)⟩ [],.ins ⟨15,4,0,0,0⟩ [115,112,105,110],.ins ⟨16,4,8,0,((base+1:Nat):Int)⟩ [],.ins ⟨15,4,0,0,0⟩ [103,111,116],.ins ⟨1,4,0,0,1⟩ [],.ins ⟨17,4,8,0,((base+1:Nat):Int)⟩ [],.ins ⟨25,0,0,0,0⟩ [],.lab [119,97,105,116],.ins ⟨16,4,8,0,((base+0:Nat):Int)⟩ [],.ins ⟨15,4,0,0,0⟩ [119,97,105,116],.lab [103,111,116],.ins ⟨17,5,8,0,((base+3:Nat):Int)⟩ [],.ins ⟨1,7,0,0,0⟩ [],.lab [101,110,100]]
theorem okBiasOther{base t:Nat}(hb:base≤1000000)(ht:t≤1000000):OkL (linBiasOther base t):=by
 refine⟨?_,rfl,?_,Nat.le_of_ble_eq_true rfl⟩
 ·unfold linBiasOther
  simp only [List.mem_cons,List.not_mem_nil,or_false,forall_eq_or_imp,forall_eq]
  exact⟨(fit_k (by decide) rfl (by omega)),(fit_k (by decide) rfl (by omega)),(fit_0 (by decide)),(fit_0 (by decide)),(fit_k (by decide) rfl (by omega)),(fit_0 (by decide)),show nameOk _=true from rfl,show nameOk _=true from rfl,(fit_k (by decide) rfl (by omega)),(fit_k (by decide) rfl (by omega)),(fit_0 (by decide)),(fit_k (by decide) rfl (by omega)),(fit_0 (by decide)),(fit_k (by decide) rfl (by omega)),(fit_k (by decide) rfl (by omega)),(fit_0 (by decide)),show nameOk _=true from rfl,(fit_k (by decide) rfl (by omega)),(fit_0 (by decide)),show nameOk _=true from rfl,(fit_k (by decide) rfl (by omega)),(fit_k (by decide) rfl (by omega)),show nameOk _=true from rfl⟩
 ·unfold linBiasOther
  simp only [List.mem_cons,List.not_mem_nil,or_false,forall_eq_or_imp,forall_eq]
  exact⟨rfl,rfl,rfl,rfl,rfl,rfl,rfl,rfl,rfl,rfl,rfl,rfl,rfl,rfl,rfl,rfl,rfl,rfl,rfl,rfl,rfl,rfl,rfl⟩
/-! ### BiasLeave -/
def linBiasLeave(base t:Nat):List Ln:=[.ins ⟨16,4,8,0,((base+3:Nat):Int)⟩ [],.ins ⟨1,5,0,0,((t+1:Nat):Int)⟩ [],.ins ⟨12,6,4,5,0⟩ [],.ins ⟨15,6,0,0,0⟩ [109,105,110,101],.ins ⟨1,7,0,0,2⟩ [],.ins ⟨13,0,0,0,0⟩ [101,110,100],.lab [109,105,110,101],.ins ⟨1,4,0,0,0⟩ [],.ins ⟨17,4,8,0,((base+3:Nat):Int)⟩ [],.ins ⟨16,4,8,0,((base+2:Nat):Int)⟩ [],.ins ⟨12,6,4,5,0⟩ [],.ins ⟨15,6,0,0,0⟩ [115,108,111,119],.ins ⟨1,4,0,0,0⟩ [],.ins ⟨17,4,8,0,((base+0:Nat):Int)⟩ [],.ins ⟨13,0,0,0,0⟩ [100,111,110,101],.lab [115,108,111,119],.ins ⟨1,4,0,0,0⟩ [],.ins ⟨17,4,8,0,((base+2:Nat):Int)⟩ [],.lab [100,111,110,101],.ins ⟨1,7,0,0,0⟩ [],.lab [101,110,100]]
theorem okBiasLeave{base t:Nat}(hb:base≤1000000)(ht:t≤1000000):OkL (linBiasLeave base t):=by
 refine⟨?_,rfl,?_,Nat.le_of_ble_eq_true rfl⟩
 ·unfold linBiasLeave
  simp only [List.mem_cons,List.not_mem_nil,or_false,forall_eq_or_imp,forall_eq]
  exact⟨(fit_k (by decide) rfl (by omega)),(fit_k (by decide) rfl (by omega)),(fit_0 (by decide)),(fit_0 (by decide)),(fit_k (by decide) rfl (by omega)),(fit_0 (by decide)),show nameOk _=true from rfl,(fit_k (by decide) rfl (by omega)),(fit_k (by decide) rfl (by omega)),(fit_k (by decide) rfl (by omega)),(fit_0 (by decide)),(fit_0 (by decide)),(fit_k (by decide) rfl (by omega)),(fit_k (by decide) rfl (by omega)),(fit_0 (by decide)),show nameOk _=true from rfl,(fit_k (by decide) rfl (by omega)),(fit_k (by decide) rfl (by omega)),show nameOk _=true from rfl,(fit_k (by decide) rfl (by omega)),show nameOk _=true from rfl⟩
 ·unfold linBiasLeave
  simp only [List.mem_cons,List.not_mem_nil,or_false,forall_eq_or_imp,forall_eq]
  exact⟨rfl,rfl,rfl,rfl,rfl,rfl,rfl,rfl,rfl,rfl,rfl,rfl,rfl,rfl,rfl,rfl,rfl,rfl,rfl,rfl,rfl⟩
/-! ### BiasOut -/
def linBiasOut(base t:Nat):List Ln:=[.ins ⟨16,4,8,0,((base+3:Nat):Int)⟩ [],.ins ⟨1,5,0,0,((t+1:Nat):Int)⟩ [],.ins ⟨12,6,4,5,0⟩ [],.ins ⟨15,6,0,0,0⟩ [109,105,110,101],.ins ⟨1,7,0,0,2⟩ [],.ins ⟨13,0,0,0,0⟩ [101,110,100],.lab [109,105,110,101],.ins ⟨1,4,0,0,0⟩ [],.ins ⟨17,4,8,0,((base+3:Nat):Int)⟩ [],.ins ⟨1,4,0,0,0⟩ [],.ins ⟨17,4,8,0,((base+2:Nat):Int)⟩ [],.ins ⟨1,7,0,0,0⟩ [],.lab [101,110,100]]
theorem okBiasOut{base t:Nat}(hb:base≤1000000)(ht:t≤1000000):OkL (linBiasOut base t):=by
 refine⟨?_,rfl,?_,Nat.le_of_ble_eq_true rfl⟩
 ·unfold linBiasOut
  simp only [List.mem_cons,List.not_mem_nil,or_false,forall_eq_or_imp,forall_eq]
  exact⟨(fit_k (by decide) rfl (by omega)),(fit_k (by decide) rfl (by omega)),(fit_0 (by decide)),(fit_0 (by decide)),(fit_k (by decide) rfl (by omega)),(fit_0 (by decide)),show nameOk _=true from rfl,(fit_k (by decide) rfl (by omega)),(fit_k (by decide) rfl (by omega)),(fit_k (by decide) rfl (by omega)),(fit_k (by decide) rfl (by omega)),(fit_k (by decide) rfl (by omega)),show nameOk _=true from rfl⟩
 ·unfold linBiasOut
  simp only [List.mem_cons,List.not_mem_nil,or_false,forall_eq_or_imp,forall_eq]
  exact⟨rfl,rfl,rfl,rfl,rfl,rfl,rfl,rfl,rfl,rfl,rfl,rfl,rfl⟩
end Go.Proofs.YtckmkaeopnnbbaaGreatDoor.As
