/- Plain Lean: threads that stand in a queue,each waiting for the node of the one ahead of it. No program in sight. -/
import Derived.Test.YtckmkaeopnnbbaaGreatDoorTqa
set_option linter.unusedVariables false
set_option linter.unusedSimpArgs false
namespace Go.Proofs.YtckmkaeopnnbbaaGreatDoor.As.Wd

def tailM(mn:Nat→Nat)(F:Nat):List Nat→Nat
 | []=>F
 | [l]=>mn l
 | _::s::r=>tailM mn F (s::r)
def CChain(g mn pd:Nat→Nat):List Nat→Prop
 | []=>True
 | [_]=>True
 | p::s::r=>(g s=1∧pd s=mn p)∧CChain g mn pd (s::r)
section
variable{g mn pd g' mn' pd':Nat→Nat}{Q:List Nat}{t F F':Nat}
theorem tailM_snoc(t:Nat):∀ Q:List Nat,tailM mn F (Q++[t])=mn t
 | []=>rfl
 | [l]=>rfl
 | a::b::r=>tailM_snoc t (b::r)
theorem tailM_mem:∀ {Q:List Nat},Q≠[]→∃ l,l∈Q∧tailM mn F Q=mn l
 | [],h=>absurd rfl h
 | [l],_=>⟨l,List.mem_singleton.2 rfl,rfl⟩
 | a::b::r,_=>by
  obtain⟨l,h1,h2⟩:=tailM_mem (Q:=b::r) (by simp)
  exact⟨l,List.mem_cons_of_mem _ h1,h2⟩
theorem tailM_congr:∀ {Q:List Nat},Q≠[]→(∀ u∈Q,mn' u=mn u)→tailM mn' F' Q=tailM mn F Q
 | [],h,_=>absurd rfl h
 | [l],_,h=>h l (List.mem_singleton.2 rfl)
 | a::b::r,_,h=>tailM_congr (Q:=b::r) (by simp) (fun u hu=>h u (List.mem_cons_of_mem _ hu))
theorem CChain.mem:∀ {r:List Nat} {t:Nat},CChain g mn pd (t::r)→∀ s∈r,g s=1∧∃ p∈t::r,pd s=mn p
 | [],t,_,s,hs=>by cases hs
 | a::r,t,h,s,hs=>by
  rcases List.mem_cons.1 hs with rfl | hs
  ·exact⟨h.1.1,t,List.mem_cons_self ..,h.1.2⟩
  ·obtain⟨h1,p,h2,h3⟩:=CChain.mem h.2 s hs
   exact⟨h1,p,List.mem_cons_of_mem _ h2,h3⟩
theorem CChain.congr:∀ {r:List Nat} {t:Nat},CChain g mn pd (t::r)→(∀ s∈r,g' s=g s∧pd' s=pd s)→(∀ s∈t::r,mn' s=mn s)→CChain g' mn' pd' (t::r)
 | [],t,_,_,_=>trivial
 | a::r,t,h,h1,h2=>by
  have e1:=h1 a (List.mem_cons_self ..)
  have e2:=h2 t (List.mem_cons_self ..)
  refine⟨?_,CChain.congr h.2 (fun s hs=>h1 s (List.mem_cons_of_mem _ hs)) (fun s hs=>h2 s (List.mem_cons_of_mem _ hs))⟩
  rw [e1.1,e1.2,e2]
  exact h.1
theorem CChain.snoc:∀ {r:List Nat} {h:Nat},CChain g mn pd (h::r)→t∉h::r→CChain (upF g t 1) mn (upF pd t (tailM mn F (h::r))) (h::r++[t])
 | [],h,hc,ht=>⟨⟨upF_self ..,by rw [upF_self];rfl⟩,trivial⟩
 | a::r,h,hc,ht=>by
  have hat:a≠t:=fun e=>ht (by rw [e];simp)
  refine⟨?_,?_⟩
  ·rw [upF_ne _ _ hat,upF_ne _ _ hat];exact hc.1
  ·exact CChain.snoc hc.2 (fun e=>ht (List.mem_cons_of_mem _ e))
end
end Go.Proofs.YtckmkaeopnnbbaaGreatDoor.As.Wd
