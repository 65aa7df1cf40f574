/- Plain Lean: the biased lock comes to an end by even picks. No program in sight. -/
import Derived.Test.YtckmkaeopnnbbaaGreatDoorEhG
import Derived.Test.YtckmkaeopnnbbaaGreatDoorEnI
import Derived.Test.YtckmkaeopnnbbaaGreatDoorTqW
import Derived.Test.YtckmkaeopnnbbaaGreatDoorBiK
set_option linter.unusedVariables false
set_option linter.unusedSimpArgs false
namespace Go.Proofs.YtckmkaeopnnbbaaGreatDoor.As.T

theorem wlk_endsI{X:Wd.Lk}{s:Ts}{f:Nat→Loc}{i:Int}(h:X.Inv s f i)(hd:∀ t,t < X.T→(s.th t).st≠0∧s.buf t=[]):endedTo s X.T=true:=
 ended_of (fun t ht=>⟨_,h.hs t ht,by
  rcases h.fr t ht with⟨c,_⟩ | ⟨_,_,c⟩
  ·exact .inl c
  ·exact c⟩) hd
theorem bia_ends(A T R room:Nat)(hA:A < T)(hT:T≤4)(hR0:0 < R)(hR:R≤4)(hr:0 < room):EndsOk (codesR (lim (biF A)) (lim (biG A)) T R) [0,0,0,0] room T R:=by
 have hc:(codesR (lim (biF A)) (lim (biG A)) T R)[A]? = some (Bia.codeB R A):=by
  rw [codes_at (biF A) (biG A) hT hA]
  show some (roundsR (resL (if A=A then linBiasOwn 16 A else linBiasOther 16 A)) (resL (if A=A then linBiasLeave 16 A else linBiasOut 16 A)) R [])=_
  rw [if_pos rfl,if_pos rfl];rfl
 have hc2:∀ u,u < T→u≠A→(codesR (lim (biF A)) (lim (biG A)) T R)[u]? = some (Bia.codeO R u):=fun u hu hne=>by
  rw [codes_at (biF A) (biG A) hT hu]
  show some (roundsR (resL (if u=A then linBiasOwn 16 u else linBiasOther 16 u)) (resL (if u=A then linBiasLeave 16 u else linBiasOut 16 u)) R [])=_
  rw [if_neg hne,if_neg hne];rfl
 refine ends_of (X:=Bia.L A T R) (Bia.fit hA hR0 (by omega) hc hc2) ⟨⟨_,_,inv0W (Bia.X A T R) [0,0,0,0] room rfl hR0 (fun t=>by show 0 < if t=A then 42 else 37;split<;>decide) (fun t=>by show (if t=A then Bia.inB else Bia.inO) 0=false;split<;>rfl) ⟨false,0,0,0,false,false,fun _=>0,by rw [buf0];exact Wd.Pa.nil,(by show 0≤4;decide),Bia.AtB.b0,⟨fun e=>by omega,fun e=>by omega,fun _=>by show (0:Int)≠_;unfold Bia.meN;omega⟩,⟨fun e=>by omega,fun _=>by show (0:Int)≠_;unfold Bia.meN;omega⟩,rfl,fun u hu hne=>by rw [buf0];exact Bia.AtO.o0H44 rfl (by show (0:Int)≠_;unfold Bia.meN;omega) (by show (0:Int)≠_;unfold Bia.meN;omega),.inl rfl,fun _ _ _ e=>absurd e (by decide),fun _ _ _ e=>absurd e (by decide),fun e=>absurd e (by decide),fun _=>⟨fun _ _ _=>by decide,fun e=>absurd (show (0:Int)=1 from e) (by decide)⟩,fun _ _ _ e=>absurd e (by decide),fun e=>absurd e (by decide)⟩⟩,hr,.inl rfl⟩ (fun _ _=>Nat.le_refl _) (by show 3≤25;decide) (by show 0 < T;omega) (by show T≤8;omega) (size_of (R:=R) (fun t ht=>by
  have ht:t < T:=ht
  by_cases c:t=A
  ·subst c;exact⟨_,hc,by rw [Bia.eLB rfl];exact Bia.codeB_len R t⟩
  ·exact⟨_,hc2 t ht c,by rw [Bia.eLO c];exact Bia.codeO_len R t⟩) T (Nat.le_refl _)) ?_
 rintro s ⟨⟨f,i,h⟩,_⟩
 have hf:=factsW h
 exact⟨hf.1,hf.2.2,fun hd=>wlk_endsI h hd⟩
end Go.Proofs.YtckmkaeopnnbbaaGreatDoor.As.T
