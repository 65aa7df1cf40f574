/- Plain Lean: from a measure that falls to what the law asks of even picks. No program in sight. -/
import Derived.Test.YtckmkaeopnnbbaaGreatDoorGt
import Derived.Test.YtckmkaeopnnbbaaGreatDoorGq
import Derived.Test.YtckmkaeopnnbbaaGreatDoorTqG
set_option linter.unusedVariables false
set_option linter.unusedSimpArgs false
namespace Go.Proofs.YtckmkaeopnnbbaaGreatDoor.As.T

def EndsOk(codes:List (List Ins))(mem:List Int)(room T R:Nat):Prop:=∀ (w0:Nat) (ws:List (Nat×Nat)),4*T≤w0→∀ q,∃ s',Ts.run codes (ts0 (mem0 mem) room T) (turnsN (evenP T w0 ws (20*w0)) q)=some s'∧(∃ i,oneF s'.evs=some i)∧(endedTo s' T=true→s'.mem.getD 0 0=wr32 ((T:Int)*R))∧(50*(T+1)*(sizeC codes T+10) / 20 < q→endedTo s' T=true)
theorem ended_of{s:Ts}{T:Nat}(hs:∀ t,t < T→∃ th,s.ths[t]? = some th∧(th.st=0∨th.st=2))(hd:∀ t,t < T→(s.th t).st≠0∧s.buf t=[]):endedTo s T=true:=by
 unfold endedTo
 rw [List.all_eq_true]
 intro t ht
 have ht:=List.mem_range.1 ht
 obtain⟨th,h1,h2⟩:=hs t ht
 obtain⟨h3,h4⟩:=hd t ht
 have e:s.th t=th:=by unfold Ts.th;rw [h1];rfl
 rw [e] at h3
 have h5:th.st=2:=by rcases h2 with h | h;exact absurd h h3;exact h
 unfold endedT
 rw [h1,h4]
 show (!(th.st == 0) && !(th.st == 1) && decide (([]:List (Nat×Int)).length=0))=true
 rw [h5];rfl
theorem flat_rep{α:Type}(ls:List (List α)):∀ q:Nat,((List.replicate q ls).flatten).flatten=(List.replicate q ls.flatten).flatten
 | 0=>rfl
 | q+1=>by rw [List.replicate_succ,List.flatten_cons,List.flatten_append,flat_rep ls q,List.replicate_succ,List.flatten_cons]
theorem len_rep{α:Type}(ls:List α):∀ q:Nat,((List.replicate q ls).flatten).length=q*ls.length
 | 0=>by simp
 | q+1=>by rw [List.replicate_succ,List.flatten_cons,List.length_append,len_rep ls q,Nat.succ_mul];omega
theorem mem_rep{α:Type}{ls:List α}{x:α}:∀ q:Nat,x∈(List.replicate q ls).flatten→x∈ls
 | 0,h=>by simp at h
 | q+1,h=>by
  rw [List.replicate_succ,List.flatten_cons] at h
  rcases List.mem_append.1 h with h | h
  ·exact h
  ·exact mem_rep q h
theorem ends_of{X:Lad}{codes:List (List Ins)}{J:Ts→Prop}{mem:List Int}{room R:Nat}(H:X.Fit codes J)(hJ0:J (ts0 (mem0 mem) room X.T))(hL:∀ t,t < X.T→X.Lm t≤X.Lb t)(hK:X.K≤25)(hT0:0 < X.T)(hT:X.T≤8)(hsz:sumN (fun t=>X.R*X.Lb t) X.T=sizeC codes X.T)
  (hf:∀ s,J s→(∃ i,oneF s.evs=some i)∧(endedTo s X.T=true→s.mem.getD 0 0=wr32 ((X.T:Int)*R))∧(X.Done s→endedTo s X.T=true)):EndsOk codes mem room X.T R:=fun w0 ws hw q=>by
 obtain⟨ls,h1,h2,h3⟩:=evenP_windows (T:=X.T) (w:=w0) ws hT0 (by omega) 20
 obtain⟨s',k1,k2,k3⟩:=H.windows ((List.replicate q ls).flatten) _ (fun l hl=>h3 l (mem_rep q hl)) hJ0
 rw [flat_rep,h2] at k1
 obtain⟨f1,f2,f3⟩:=hf s' k2
 refine⟨s',k1,f1,f2,fun hq=>f3 ?_⟩
 rcases k3 with k3 | k3
 ·exact k3
 ·exfalso
  rw [len_rep,h1] at k3
  have hm:=Lad.M_start (X:=X) (s:=ts0 (mem0 mem) room X.T) (fun t _=>buf0 _ _ _ _) H.lo hL
  rw [hsz] at hm
  have hs:=start_le (T:=X.T) (K:=X.K) (size:=sizeC codes X.T) (by omega) hK
  omega
theorem size_of{T R:Nat}{Lb:Nat→Nat}{codes:List (List Ins)}(h:∀ t,t < T→∃ L,codes[t]? = some L∧L.length=R*Lb t):∀ n,n≤T→sumN (fun t=>R*Lb t) n=sizeC codes n
 | 0,_=>rfl
 | n+1,hn=>by
  obtain⟨L,h1,h2⟩:=h n (by omega)
  rw [sumN,sizeC,size_of h n (by omega),List.getD_eq_getElem?_getD,h1]
  show _+R*Lb n=_+L.length
  rw [h2]
theorem lk_ends{X:Lk}{s:Ts}{f:Nat→Loc}{i:Int}(h:X.Inv s f i)(hd:∀ t,t < X.T→(s.th t).st≠0∧s.buf t=[]):endedTo s X.T=true:=
 ended_of (fun t ht=>⟨_,h.hs t ht,by
  rcases h.fr t ht with⟨c,_⟩ | ⟨_,_,c⟩
  ·exact .inl c
  ·exact c⟩) hd
end Go.Proofs.YtckmkaeopnnbbaaGreatDoor.As.T
