/- Plain Lean: the locks of the package queue come to an end by even picks. No program in sight. -/
import Derived.Test.YtckmkaeopnnbbaaGreatDoorEhG
import Derived.Test.YtckmkaeopnnbbaaGreatDoorEnL
import Derived.Test.YtckmkaeopnnbbaaGreatDoorEnM
import Derived.Test.YtckmkaeopnnbbaaGreatDoorQuR
set_option linter.unusedVariables false
set_option linter.unusedSimpArgs false
namespace Go.Proofs.YtckmkaeopnnbbaaGreatDoor.As.T

theorem wlk_ends{X:Wd.Lk}{s:Ts}{f:Nat→Loc}{i:Int}(h:X.Inv s f i)(hd:∀ t,t < X.T→(s.th t).st≠0∧s.buf t=[]):endedTo s X.T=true:=
 ended_of (fun t ht=>⟨_,h.hs t ht,by
  rcases h.fr t ht with⟨c,_⟩ | ⟨_,_,c⟩
  ·exact .inl c
  ·exact c⟩) hd
theorem mcs_ends{T R room:Nat}(hT0:0 < T)(hT:T≤4)(hR0:0 < R)(hR:R≤3)(hr:0 < room):EndsOk (codesR (lim (quF 4 T)) (lim (quG 4 T)) T R) (quM 4 T) room T R:=by
 have hc:∀ t,t < T→(codesR (lim (quF 4 T)) (lim (quG 4 T)) T R)[t]? = some (Mcs.codeT T R t):=fun t ht=>codes_at (quF 4 T) (quG 4 T) hT ht
 refine ends_of (X:=Mcs.L T R) (Mcs.fit (by omega) hR0 (by omega) hc) ⟨⟨_,_,inv0W (Mcs.X T R) (quM 4 T) room (by show 18+2*T=16+(List.replicate (2+2*T) (0:Int)).length;rw [List.length_replicate];omega) hR0 (fun _=>by show 0 < 46;decide) (fun _=>rfl) ⟨fun _=>0,fun _=>0,fun _=>0,[],fun t ht=>by
  rw [buf0]
  exact Mcs.At.a0H44 rfl (by rw [show quM 4 T=List.replicate (2+2*T) 0 from rfl,zeros];show (0:Int)≠_;unfold Mcs.meN;omega),fun t ht=>zeros _ _,fun t ht e=>absurd e (by decide),by simp,fun t ht=>⟨fun e=>(by cases e),fun e=>absurd rfl e⟩,fun t ht=>(by cases ht),fun h r e=>(by cases e),zeros _ _⟩⟩,hr,fun t ht hb=>?_⟩ (fun _ _=>Nat.le_refl _) (by show 3≤25;decide) hT0 (by show T≤8;omega) (size_of (R:=R) (fun t ht=>⟨_,hc t ht,Mcs.code_len T R t (by omega) (by have ht:t < T:=ht;omega)⟩) T (Nat.le_refl _)) ?_
 ·have e:(mem0 (quM 4 T)).getD 16 0=0:=zeros _ _
  show (mem0 (quM 4 T)).getD 16 0≠_
  rw [e]
  have:=Mcs.meN_pos t
  omega
 ·rintro s ⟨⟨f,i,h⟩,_⟩
  have hf:=factsW h
  exact⟨hf.1,hf.2.2,fun hd=>wlk_ends h hd⟩
theorem clh_ends{T R room:Nat}(hT0:0 < T)(hT:T≤4)(hR0:0 < R)(hR:R≤3)(hr:0 < room):EndsOk (codesR (lim (quF 5 T)) (lim (quG 5 T)) T R) (quM 5 T) room T R:=by
 have hc:∀ t,t < T→(codesR (lim (quF 5 T)) (lim (quG 5 T)) T R)[t]? = some (Clh.codeT T R t):=fun t ht=>codes_at (quF 5 T) (quG 5 T) hT ht
 have h1:=fun t (ht:t < T)=>clh_facts ⟨T,by omega⟩ ⟨t,by omega⟩ ht
 obtain⟨f1,f2,f3,f4⟩:=clh_facts2 ⟨T,by omega⟩
 dsimp only at h1 f1 f2 f3 f4
 refine ends_of (X:=Clh.L T R) (Clh.fit (by omega) hR0 (by omega) hc) ⟨⟨_,_,inv0W (Clh.X T R) (quM 5 T) room (by show 19+3*T=_;rw [f4];omega) hR0 (fun _=>by show 0 < 37;decide) (fun _=>rfl) ⟨fun _=>0,fun t=>t,fun _=>0,fun t=>t,fun _=>0,T,[],fun t ht=>by
  rw [buf0]
  exact Clh.At.a0H66 rfl (by rw [f2];unfold Clh.meN;omega) rfl,fun t ht=>(h1 t ht).1,fun t ht=>(h1 t ht).2,fun t ht=>⟨by omega,by omega⟩,fun t u _ _ e=>e,⟨Nat.le_refl _,f3⟩,fun t ht e=>absurd rfl e,by simp,fun t ht=>⟨fun e=>(by cases e),fun e=>absurd rfl e⟩,fun t ht=>(by cases ht),fun h r e=>(by cases e),fun t ht=>(by cases ht),f1⟩⟩,hr,trivial⟩ (fun _ _=>Nat.le_refl _) (by show 3≤25;decide) hT0 (by show T≤8;omega) (size_of (R:=R) (fun t ht=>⟨_,hc t ht,Clh.code_len T R t (by omega) (by have ht:t < T:=ht;omega)⟩) T (Nat.le_refl _)) ?_
 rintro s ⟨⟨f,i,h⟩,_⟩
 have hf:=factsW h
 exact⟨hf.1,hf.2.2,fun hd=>wlk_ends h hd⟩
theorem que_ends(k T R room:Nat)(hk:k=4∨k=5)(hT0:0 < T)(hT:T≤4)(hR0:0 < R)(hR:R≤3)(hr:0 < room):EndsOk (codesR (lim (quF k T)) (lim (quG k T)) T R) (quM k T) room T R:=by
 rcases hk with rfl | rfl
 ·exact mcs_ends hT0 hT hR0 hR hr
 ·exact clh_ends hT0 hT hR0 hR hr
end Go.Proofs.YtckmkaeopnnbbaaGreatDoor.As.T
