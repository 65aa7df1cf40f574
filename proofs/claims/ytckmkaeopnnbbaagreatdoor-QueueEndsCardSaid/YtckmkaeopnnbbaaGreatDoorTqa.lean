/- Plain Lean: threads that stand in a queue: who links behind whom. No program in sight. -/
import Derived.Test.YtckmkaeopnnbbaaGreatDoorTq7
set_option linter.unusedVariables false
set_option linter.unusedSimpArgs false
namespace Go.Proofs.YtckmkaeopnnbbaaGreatDoor.As.Wd

def tailN:List Nat→Nat
 | []=>0
 | [l]=>l+1
 | _::s::r=>tailN (s::r)
def Chain(g pv nv:Nat→Nat):List Nat→Prop
 | []=>True
 | [l]=>nv l=0
 | p::s::r=>(pv s=p+1∧((g s=1∧nv p=0)∨(g s=2∧nv p=s+1)))∧Chain g pv nv (s::r)
section
variable{g pv nv g' pv' nv':Nat→Nat}{Q:List Nat}{t s p h:Nat}
theorem tailN_snoc(t:Nat):∀ Q:List Nat,tailN (Q++[t])=t+1
 | []=>rfl
 | [l]=>rfl
 | a::b::r=>tailN_snoc t (b::r)
theorem tailN_mem:∀ {Q:List Nat},Q≠[]→∃ l,l∈Q∧tailN Q=l+1
 | [],h=>absurd rfl h
 | [l],_=>⟨l,List.mem_singleton.2 rfl,rfl⟩
 | a::b::r,_=>by
  obtain⟨l,h1,h2⟩:=tailN_mem (Q:=b::r) (by simp)
  exact⟨l,List.mem_cons_of_mem _ h1,h2⟩
theorem tailN_head{r:List Nat}(hn:(t::r).Nodup)(h:tailN (t::r)=t+1):r=[]:=by
 cases r with
 | nil=>rfl
 | cons a r=>
  obtain⟨l,h1,h2⟩:=tailN_mem (Q:=a::r) (by simp)
  have h3:tailN (a::r)=t+1:=h
  obtain rfl:l=t:=by omega
  exact absurd h1 (List.nodup_cons.1 hn).1
theorem Chain.tail{r:List Nat}(h:Chain g pv nv (t::r)):Chain g pv nv r:=by
 cases r with
 | nil=>trivial
 | cons a r=>exact h.2
theorem Chain.mem:∀ {r:List Nat} {t:Nat},Chain g pv nv (t::r)→∀ s∈r,(g s=1∨g s=2)∧∃ p∈t::r,pv s=p+1
 | [],t,_,s,hs=>by cases hs
 | a::r,t,h,s,hs=>by
  rcases List.mem_cons.1 hs with rfl | hs
  ·exact⟨h.1.2.imp (·.1) (·.1),t,List.mem_cons_self ..,h.1.1⟩
  ·obtain⟨h1,p,h2,h3⟩:=Chain.mem h.2 s hs
   exact⟨h1,p,List.mem_cons_of_mem _ h2,h3⟩
theorem Chain.congr:∀ {r:List Nat} {t:Nat},Chain g pv nv (t::r)→(∀ s∈r,g' s=g s∧pv' s=pv s)→(∀ s∈t::r,nv' s=nv s)→Chain g' pv' nv' (t::r)
 | [],t,h,_,h2=>(h2 t (List.mem_cons_self ..)).trans h
 | a::r,t,h,h1,h2=>by
  have e1:=h1 a (List.mem_cons_self ..)
  have e2:=h2 t (List.mem_cons_self ..)
  refine⟨?_,Chain.congr h.2 (fun s hs=>h1 s (List.mem_cons_of_mem _ hs)) (fun s hs=>h2 s (List.mem_cons_of_mem _ hs))⟩
  rw [e1.1,e1.2,e2]
  exact h.1
theorem Chain.snoc:∀ {r:List Nat} {h:Nat},Chain g pv nv (h::r)→t∉h::r→nv t=0→Chain (upF g t 1) (upF pv t (tailN (h::r))) nv (h::r++[t])
 | [],h,hc,ht,h0=>by
  refine⟨⟨by rw [upF_self];rfl,.inl ⟨upF_self ..,hc⟩⟩,h0⟩
 | a::r,h,hc,ht,h0=>by
  have hat:a≠t:=fun e=>ht (by rw [e];simp)
  refine⟨?_,?_⟩
  ·rw [upF_ne _ _ hat,upF_ne _ _ hat];exact hc.1
  ·exact Chain.snoc hc.2 (fun e=>ht (List.mem_cons_of_mem _ e)) h0
theorem Chain.link:∀ {r:List Nat} {h:Nat},Chain g pv nv (h::r)→(h::r).Nodup→s∈r→g s=1→∃ p,p∈h::r∧pv s=p+1∧nv p=0∧p≠s∧Chain (upF g s 2) pv (upF nv p (s+1)) (h::r)
 | [],h,_,_,hs,_=>by cases hs
 | a::r,h,hc,hn,hs,h1=>by
  have hn2:=List.nodup_cons.1 hn
  have hna:=List.nodup_cons.1 hn2.2
  by_cases e:s=a
  ·subst e
   have hne:h≠s:=fun e=>hn2.1 (by rw [e];simp)
   have hnv:nv h=0:=by rcases hc.1.2 with h2 | h2;exact h2.2;omega
   refine⟨h,List.mem_cons_self ..,hc.1.1,hnv,hne,⟨hc.1.1,.inr ⟨upF_self ..,upF_self ..⟩⟩,?_⟩
   exact Chain.congr hc.2 (fun u hu=>⟨upF_ne _ _ (fun e=>hna.1 (by rw [←e];exact hu)),rfl⟩) (fun u hu=>upF_ne _ _ (fun e=>hn2.1 (by rw [←e];exact hu)))
  ·have hs2:s∈r:=by
    rcases List.mem_cons.1 hs with h | h
    ·exact absurd h e
    ·exact h
   obtain⟨p,hp,h2,h3,h4,h5⟩:=Chain.link hc.2 hn2.2 hs2 h1
   refine⟨p,List.mem_cons_of_mem _ hp,h2,h3,h4,?_,h5⟩
   have hph:h≠p:=fun e=>hn2.1 (by rw [e];exact hp)
   rw [upF_ne _ _ (fun e2=>e e2.symm),upF_ne _ _ hph]
   exact hc.1
end
theorem addr_rel{th:Th}{a op c k:Int}{n m:Nat}(h:th.reg a=n)(hk:k=m)(ha:0≤a∧a < 8)(hn:n+m≤1000)(b:Int):addrI th ⟨op,b,a,c,k⟩=((n+m:Nat):Int):=by
 unfold addrI
 rw [if_neg (by dsimp only;omega),h,hk]
 unfold wr32
 dsimp only
 omega
end Go.Proofs.YtckmkaeopnnbbaaGreatDoor.As.Wd
