/- Plain Lean: what a step of a thread leaves: a flush,or a turn of the thread whose buffer grows by one at most. No program in sight. Plain Lean: a measure of a machine tso that no pick makes greater; each window of picks that names all makes it less,until all have ended. No program in sight. Plain Lean: a ladder that a round's code goes down; only loops are left to a lock. No program in sight. Plain Lean: ladders,a thread's own sizes as letters. No program in sight. -/
import Derived.Test.YtckmkaeopnnbbaaGreatDoorGl
import Derived.Test.YtckmkaeopnnbbaaGreatDoorGe
section
set_option linter.unusedVariables false
set_option linter.unusedSimpArgs false
namespace Go.Proofs.YtckmkaeopnnbbaaGreatDoor.As

def Ts.th(s:Ts)(t:Nat):Th:=(s.ths[t]?).getD ⟨0,[],2⟩
def Ts.shr(s s':Ts):Prop:=∀ u,(s'.buf u).length≤(s.buf u).length
theorem flush_shr(s:Ts)(t:Nat):Ts.shr s (s.flush t):=fun u=>by
 by_cases ht:t < s.bufs.length
 ·rw [buf_flushF ht]
  by_cases e:u=t
  ·subst e;rw [upF_self,List.length_tail];omega
  ·rw [upF_ne _ _ e];exact Nat.le_refl _
 ·have:s.flush t=s:=by
   unfold Ts.flush
   have e:s.buf t=[]:=by
    unfold Ts.buf
    rw [List.getD_eq_getElem?_getD,List.getElem?_eq_none (by omega)];rfl
   rw [e]
  rw [this];exact Nat.le_refl _
theorem drain_shr(t:Nat):∀ (n:Nat) (s:Ts),Ts.shr s (Ts.drain t n s)
 | 0,s=>fun u=>Nat.le_refl _
 | n+1,s=>fun u=>Nat.le_trans (drain_shr t n _ u) (flush_shr s t u)
theorem remoteFrom_shr:∀ (n t:Nat) (s:Ts),Ts.shr s (Ts.remoteFrom n t s)
 | 0,_,s=>fun u=>Nat.le_refl _
 | n+1,t,s=>fun u=>Nat.le_trans (remoteFrom_shr n (t+1) _ u) (drain_shr t _ s u)
theorem remote_shr(s:Ts):Ts.shr s s.remote:=remoteFrom_shr _ _ s
structure Ts.Turn(t:Nat)(i:Ins)(th th':Th)(s s':Ts):Prop where
 ths:s'.ths=s.ths.set t th'
 st:th'.st=th.st
 pc:(i.op≠13∧th'.pc=th.pc+1)∨(jumpsI i.op∧th'.pc=i.k)
 bl:∀ u,(s'.buf u).length≤(s.buf u).length+(if u=t then 1 else 0)
 nb:s'.bufs.length=s.bufs.length
 room:s'.room=s.room
 slp:s'.slp=s.slp
 mem:i.op≠19→i.op≠20→i.op≠21→i.op≠25→s'.mem=s.mem
 bufs:i.op≠17→i.op≠25→s'.bufs=s.bufs
 stor:i.op=17→∃ v,s'.bufs=s.bufs.set t (s.buf t++[((addrI th i).toNat,v)])
theorem le_of_same{s s':Ts}{t:Nat}(h:s'.bufs=s.bufs)(u:Nat):(s'.buf u).length≤(s.buf u).length+(if u=t then 1 else 0):=by
 unfold Ts.buf;rw [h];exact Nat.le_add_right _ _
theorem turn_of{codes:List (List Ins)}{s s':Ts}{t:Nat}{th:Th}{i:Ins}(h:AtI codes s t th i)(h0:i.op≠0)(hr:0 < s.room)(hb:t < s.bufs.length)(hs:s.stepT codes t=some s'):
  (s'=s.flush t∧s.buf t≠[])∨∃ th',Ts.Turn t i th th' s s':=by
 rw [stepT_at h] at hs
 by_cases c1:asksI i.op∧(s.mem.length:Int)≤addrI th i
 ·rw [if_pos c1] at hs;cases hs
 rw [if_neg c1] at hs
 by_cases c2:(drainsI i.op∧s.empty t=false)∨(i.op=17∧s.roomy t=false)
 ·rw [if_pos c2] at hs
  refine .inl ⟨?_,?_⟩
  ·have:=Option.some.inj hs
   rw [←this];exact upd_flush h.hs
  ·intro e
   rcases c2 with⟨_,c⟩ | ⟨_,c⟩
   ·unfold Ts.empty at c;rw [e] at c;cases c
   ·unfold Ts.roomy at c;rw [e,decide_eq_false_iff_not] at c;exact c hr
 rw [if_neg c2,if_neg h0] at hs
 refine .inr ?_
 by_cases c3:jumpsI i.op
 ·rw [if_pos c3] at hs
  have:=Option.some.inj hs
  by_cases g:goesI i th=true
  ·rw [if_pos g] at this
   subst this
   exact⟨{ th with pc:=i.k },⟨rfl,rfl,.inr ⟨c3,rfl⟩,le_of_same rfl,rfl,rfl,rfl,fun _ _ _ _=>rfl,fun _ _=>rfl,fun e=>by rcases c3 with c | c | c<;>(rw [c] at e;cases e)⟩⟩
  ·rw [if_neg g] at this
   subst this
   refine⟨th.next,⟨rfl,rfl,.inl ⟨fun e=>?_,rfl⟩,le_of_same rfl,rfl,rfl,rfl,fun _ _ _ _=>rfl,fun _ _=>rfl,fun e=>by rcases c3 with c | c | c<;>(rw [c] at e;cases e)⟩⟩
   apply g;unfold goesI;rw [if_pos e]
 rw [if_neg c3] at hs
 have n13:i.op≠13:=fun e=>c3 (.inl e)
 by_cases c4:asksI i.op
 ·rw [if_pos c4] at hs
  cases ha:asks (tsP t) i (addrI th i).toNat th s with
  | none=>rw [ha] at hs;cases hs
  | some q=>
   rw [ha] at hs
   have hs:=Option.some.inj hs
   have hq:q.1.st=th.st∧q.1.pc=th.pc∧q.2.ths=s.ths∧(∀ u,(q.2.buf u).length≤(s.buf u).length+(if u=t then 1 else 0))∧q.2.bufs.length=s.bufs.length∧q.2.room=s.room∧q.2.slp=s.slp∧(i.op≠19→i.op≠20→i.op≠21→i.op≠25→q.2.mem=s.mem)∧(i.op≠17→i.op≠25→q.2.bufs=s.bufs)∧(i.op=17→∃ v,q.2.bufs=s.bufs.set t (s.buf t++[((addrI th i).toNat,v)])):=by
    unfold asks at ha
    simp only [tsP] at ha
    by_cases o1:i.op=16
    ·rw [if_pos o1] at ha;have:=Option.some.inj ha;rw [←this]
     exact⟨rfl,rfl,rfl,le_of_same rfl,rfl,rfl,rfl,fun _ _ _ _=>rfl,fun _ _=>rfl,fun e=>by rw [o1] at e;cases e⟩
    rw [if_neg o1] at ha
    by_cases o2:i.op=17
    ·rw [if_pos o2] at ha;have:=Option.some.inj ha;rw [←this]
     refine⟨rfl,rfl,rfl,fun u=>?_,by simp [Ts.store,Ts.note],rfl,rfl,fun _ _ _ _=>rfl,fun a=>absurd o2 a,fun _=>⟨_,rfl⟩⟩
     show ((s.store t _ _).buf u).length≤_
     rw [buf_storeF hb]
     by_cases e:u=t
     ·subst e;rw [upF_self,if_pos rfl];simp
     ·rw [upF_ne _ _ e];exact Nat.le_add_right _ _
    rw [if_neg o2] at ha
    by_cases o3:i.op=19
    ·rw [if_pos o3] at ha;have:=Option.some.inj ha;rw [←this]
     exact⟨rfl,rfl,rfl,le_of_same rfl,rfl,rfl,rfl,fun a _ _ _=>absurd o3 a,fun _ _=>rfl,fun e=>by rw [o3] at e;cases e⟩
    rw [if_neg o3] at ha
    by_cases o4:i.op=20
    ·rw [if_pos o4] at ha;have:=Option.some.inj ha;rw [←this]
     exact⟨rfl,rfl,rfl,le_of_same rfl,rfl,rfl,rfl,fun _ a _ _=>absurd o4 a,fun _ _=>rfl,fun e=>by rw [o4] at e;cases e⟩
    rw [if_neg o4] at ha
    by_cases o5:i.op=21
    ·rw [if_pos o5] at ha
     by_cases hv:s.load t (addrI th i).toNat=th.reg i.a
     ·simp only [hv,if_true] at ha
      have:=Option.some.inj ha;rw [←this]
      exact⟨rfl,rfl,rfl,le_of_same rfl,rfl,rfl,rfl,fun _ _ a _=>absurd o5 a,fun _ _=>rfl,fun e=>by rw [o5] at e;cases e⟩
     ·simp only [hv,if_false] at ha
      have:=Option.some.inj ha;rw [←this]
      exact⟨rfl,rfl,rfl,le_of_same rfl,rfl,rfl,rfl,fun _ _ a _=>absurd o5 a,fun _ _=>rfl,fun e=>by rw [o5] at e;cases e⟩
    rw [if_neg o5] at ha
    cases ha
   refine⟨q.1.next,by rw [←hs];show q.2.ths.set t _=_;rw [hq.2.2.1],hq.1,.inl ⟨n13,by show q.1.pc+1=_;rw [hq.2.1]⟩,fun u=>?_,?_,?_,?_,?_,?_,?_⟩
   ·rw [←hs];exact hq.2.2.2.1 u
   ·rw [←hs];exact hq.2.2.2.2.1
   ·rw [←hs];exact hq.2.2.2.2.2.1
   ·rw [←hs];exact hq.2.2.2.2.2.2.1
   ·rw [←hs];exact hq.2.2.2.2.2.2.2.1
   ·rw [←hs];exact hq.2.2.2.2.2.2.2.2.1
   ·rw [←hs];exact hq.2.2.2.2.2.2.2.2.2
 rw [if_neg c4] at hs
 cases ha:plainI (tsP t) i th s with
 | none=>rw [ha] at hs;cases hs
 | some q=>
  rw [ha] at hs
  have hs:=Option.some.inj hs
  have hq:q.1.st=th.st∧q.1.pc=th.pc∧q.2.ths=s.ths∧(∀ u,(q.2.buf u).length≤(s.buf u).length+(if u=t then 1 else 0))∧q.2.bufs.length=s.bufs.length∧q.2.room=s.room∧q.2.slp=s.slp∧(i.op≠19→i.op≠20→i.op≠21→i.op≠25→q.2.mem=s.mem)∧(i.op≠17→i.op≠25→q.2.bufs=s.bufs)∧(i.op=17→∃ v,q.2.bufs=s.bufs.set t (s.buf t++[((addrI th i).toNat,v)])):=by
   unfold plainI at ha
   simp only [tsP] at ha
   by_cases o1:i.op=1
   ·rw [if_pos o1] at ha;have:=Option.some.inj ha;rw [←this]
    exact⟨rfl,rfl,rfl,le_of_same rfl,rfl,rfl,rfl,fun _ _ _ _=>rfl,fun _ _=>rfl,fun e=>by rw [o1] at e;cases e⟩
   rw [if_neg o1] at ha
   by_cases o2:i.op=2
   ·rw [if_pos o2] at ha;have:=Option.some.inj ha;rw [←this]
    exact⟨rfl,rfl,rfl,le_of_same rfl,rfl,rfl,rfl,fun _ _ _ _=>rfl,fun _ _=>rfl,fun e=>by rw [o2] at e;cases e⟩
   rw [if_neg o2] at ha
   by_cases o3:i.op=18
   ·rw [if_pos o3] at ha;have:=Option.some.inj ha;rw [←this]
    exact⟨rfl,rfl,rfl,le_of_same rfl,rfl,rfl,rfl,fun _ _ _ _=>rfl,fun _ _=>rfl,fun e=>by rw [o3] at e;cases e⟩
   rw [if_neg o3] at ha
   by_cases o4:i.op=22
   ·rw [if_pos o4] at ha;have:=Option.some.inj ha;rw [←this]
    exact⟨rfl,rfl,rfl,le_of_same rfl,rfl,rfl,rfl,fun _ _ _ _=>rfl,fun _ _=>rfl,fun e=>by rw [o4] at e;cases e⟩
   rw [if_neg o4] at ha
   by_cases o5:i.op=27
   ·rw [if_pos o5] at ha;have:=Option.some.inj ha;rw [←this]
    exact⟨rfl,rfl,rfl,le_of_same rfl,rfl,rfl,rfl,fun _ _ _ _=>rfl,fun _ _=>rfl,fun e=>by rw [o5] at e;cases e⟩
   rw [if_neg o5] at ha
   by_cases o6:i.op=25
   ·rw [if_pos o6] at ha;have:=Option.some.inj ha;rw [←this]
    have hm:=Ts.remote_same s
    exact⟨rfl,rfl,hm.ths,fun u=>Nat.le_trans (remote_shr s u) (Nat.le_add_right _ _),hm.nb,hm.room,hm.slp,fun _ _ _ a=>absurd o6 a,fun _ a=>absurd o6 a,fun e=>by rw [o6] at e;cases e⟩
   rw [if_neg o6] at ha
   by_cases o7:i.op=26
   ·rw [if_pos o7] at ha;have:=Option.some.inj ha;rw [←this]
    exact⟨rfl,rfl,rfl,le_of_same rfl,rfl,rfl,rfl,fun _ _ _ _=>rfl,fun _ _=>rfl,fun e=>by rw [o7] at e;cases e⟩
   rw [if_neg o7] at ha
   obtain⟨v,-,hv⟩:=Option.map_eq_some_iff.1 ha
   rw [←hv]
   exact⟨rfl,rfl,rfl,le_of_same rfl,rfl,rfl,rfl,fun _ _ _ _=>rfl,fun _ _=>rfl,fun e=>absurd (Or.inr (Or.inl e)) c4⟩
  refine⟨q.1.next,by rw [←hs];show q.2.ths.set t _=_;rw [hq.2.2.1],hq.1,.inl ⟨n13,by show q.1.pc+1=_;rw [hq.2.1]⟩,fun u=>?_,?_,?_,?_,?_,?_,?_⟩
  ·rw [←hs];exact hq.2.2.2.1 u
  ·rw [←hs];exact hq.2.2.2.2.1
  ·rw [←hs];exact hq.2.2.2.2.2.1
  ·rw [←hs];exact hq.2.2.2.2.2.2.1
  ·rw [←hs];exact hq.2.2.2.2.2.2.2.1
  ·rw [←hs];exact hq.2.2.2.2.2.2.2.2.1
  ·rw [←hs];exact hq.2.2.2.2.2.2.2.2.2
end Go.Proofs.YtckmkaeopnnbbaaGreatDoor.As
end

section
set_option linter.unusedVariables false
set_option linter.unusedSimpArgs false
namespace Go.Proofs.YtckmkaeopnnbbaaGreatDoor.As

def sumN(g:Nat→Nat):Nat→Nat
 | 0=>0
 | n+1=>sumN g n+g n
theorem sumN_le{g h:Nat→Nat}:∀ n:Nat,(∀ t,t < n→g t≤h t)→sumN g n≤sumN h n
 | 0,_=>Nat.le_refl _
 | n+1,H=>Nat.add_le_add (sumN_le n fun t ht=>H t (by omega)) (H n (by omega))
theorem sumN_lt{g h:Nat→Nat}{t:Nat}:∀ n:Nat,t < n→(∀ u,u < n→g u≤h u)→g t < h t→sumN g n < sumN h n
 | 0,ht,_,_=>by omega
 | n+1,ht,H,hl=>by
  rw [sumN,sumN]
  have h1:=sumN_le (g:=g) (h:=h) n fun u hu=>H u (by omega)
  have h2:=H n (by omega)
  by_cases e:t=n
  ·subst e;omega
  ·have:=sumN_lt (g:=g) (h:=h) n (by omega) (fun u hu=>H u (by omega)) hl
   omega
theorem sumN_bd{g:Nat→Nat}{K:Nat}:∀ n:Nat,(∀ t,t < n→g t≤K)→sumN g n≤n*K
 | 0,_=>by simp [sumN]
 | n+1,H=>by
  have h1:=sumN_bd (g:=g) (K:=K) n fun t ht=>H t (by omega)
  have h2:=H n (by omega)
  rw [sumN,Nat.succ_mul];omega
structure Lad where
 T:Nat
 R:Nat
 K:Nat
 Lb:Nat→Nat
 Lm:Nat→Nat
 lv:Nat→Nat→Th→Nat
 loc:Nat→Nat→Th→List Int→Nat
 cold:Nat→Nat→Th→List Int→Bool
def Lad.rk(X:Lad)(t:Nat)(th:Th):Nat:=if th.st≠0 then 0 else if X.R≤th.pc.toNat / X.Lb t then 1 else 1+(X.R - th.pc.toNat / X.Lb t)*X.Lm t - X.lv t (th.pc.toNat % X.Lb t) th
def Lad.lo(X:Lad)(t:Nat)(th:Th)(mem:List Int)(q:List (Nat×Int)):Nat:=if th.st≠0∨X.R≤th.pc.toNat / X.Lb t∨q≠[] then 0 else X.loc t (th.pc.toNat % X.Lb t) th mem
def Lad.stuck(X:Lad)(t:Nat)(th:Th)(mem:List Int)(q:List (Nat×Int)):Prop:=th.st≠0∨q≠[]∨(th.pc.toNat / X.Lb t < X.R∧X.cold t (th.pc.toNat % X.Lb t) th mem=true)
def Lad.big(X:Lad)(s:Ts):Nat:=sumN (fun t=>2*X.rk t (s.th t)+(s.buf t).length) X.T
def Lad.small(X:Lad)(s:Ts):Nat:=sumN (fun t=>X.lo t (s.th t) s.mem (s.buf t)) X.T
def Lad.M(X:Lad)(s:Ts):Nat:=(X.T*X.K+1)*X.big s+X.small s
def Lad.Done(X:Lad)(s:Ts):Prop:=∀ t,t < X.T→(s.th t).st≠0∧s.buf t=[]
structure Lad.Fit(X:Lad)(codes:List (List Ins))(J:Ts→Prop):Prop where
 len:∀ s,J s→s.ths.length=X.T∧s.bufs.length=X.T∧s.slp=[]
 go:∀ s p,J s→∃ s',s.pick codes p=some s'∧J s'
 step:∀ s t s',J s→t < X.T→s.stepT codes t=some s'→X.big s' < X.big s∨(s'.mem=s.mem∧s'.bufs=s.bufs∧∃ th',s'.ths=s.ths.set t th'∧X.rk t th'≤X.rk t (s.th t)∧(X.lo t th' s.mem (s.buf t) < X.lo t (s.th t) s.mem (s.buf t)∨(X.stuck t (s.th t) s.mem (s.buf t)∧X.stuck t th' s.mem (s.buf t)∧X.lo t th' s.mem (s.buf t)≤X.lo t (s.th t) s.mem (s.buf t))))
 lo:∀ t th mem q,X.lo t th mem q≤X.K
 gone:∀ s,J s→(∀ t,t < X.T→s.buf t=[]∧X.stuck t (s.th t) s.mem (s.buf t))→∀ t,t < X.T→(s.th t).st≠0
section
variable{X:Lad}{codes:List (List Ins)}{J:Ts→Prop}{s s':Ts}
theorem th_set{s:Ts}{t:Nat}{th':Th}{l:List Th}(h:l=s.ths.set t th')(ht:t < s.ths.length)(s':Ts)(e:s'.ths=l)(u:Nat):s'.th u=if u=t then th' else s.th u:=by
 unfold Ts.th
 rw [e,h]
 by_cases c:u=t
 ·subst c;rw [if_pos rfl,List.getElem?_set_self ht];rfl
 ·rw [if_neg c,List.getElem?_set_ne (fun e2=>c e2.symm)]
theorem Lad.M_lt(hlo:∀ t th mem q,X.lo t th mem q≤X.K)(h:X.big s' < X.big s):X.M s' < X.M s:=by
 unfold Lad.M
 have h1:X.small s'≤X.T*X.K:=sumN_bd X.T fun t _=>hlo _ _ _ _
 have h2:(X.T*X.K+1)*(X.big s'+1)≤(X.T*X.K+1)*X.big s:=Nat.mul_le_mul_left _ h
 rw [Nat.mul_succ] at h2
 omega
theorem stepT_idle{t:Nat}(ht:t < s.ths.length)(h:(s.th t).st≠0)(hs:s.stepT codes t=some s'):s'=s:=by
 have e:s.ths[t]? = some (s.th t):=by unfold Ts.th;rw [List.getElem?_eq_getElem ht];rfl
 unfold Ts.stepT at hs
 rw [e] at hs
 cases hc:codes[t]? with
 | none=>rw [hc] at hs;cases hs
 | some L=>
  have:=stepT_stop (s:=s) e hc h
  unfold Ts.stepT at this
  rw [e] at this
  rw [this] at hs
  exact (Option.some.inj hs).symm
structure Lad.Idle(X:Lad)(s s':Ts):Prop where
 mem:s'.mem=s.mem
 bufs:s'.bufs=s.bufs
 M:X.M s'≤X.M s
 ths:∀ u,u < X.T→s'.th u=s.th u∨(X.stuck u (s.th u) s.mem (s.buf u)∧X.stuck u (s'.th u) s.mem (s.buf u))
theorem Lad.Idle.refl(X:Lad)(s:Ts):X.Idle s s:=⟨rfl,rfl,Nat.le_refl _,fun _ _=>.inl rfl⟩
theorem Lad.Fit.pick(H:X.Fit codes J)(hJ:J s){p:Nat×Nat}(hp:s.pick codes p=some s'):
  X.M s' < X.M s∨(X.Idle s s'∧(p.1=1→p.2 < X.T→s.buf p.2=[])∧(p.1=0→p.2 < X.T→X.stuck p.2 (s.th p.2) s.mem (s.buf p.2))):=by
 obtain⟨l1,l2,l3⟩:=H.len s hJ
 unfold Ts.pick at hp
 by_cases c1:s.ths.length≤p.2
 ·rw [if_pos c1] at hp
  have:=Option.some.inj hp
  subst this
  exact .inr ⟨.refl X s,fun _ h=>by omega,fun _ h=>by omega⟩
 rw [if_neg c1] at hp
 have hT:p.2 < X.T:=by omega
 by_cases c2:p.1=0
 ·rw [if_pos c2] at hp
  rcases H.step s p.2 s' hJ hT hp with h | ⟨hm,hb,th',hths,hrk,hk⟩
  ·exact .inl (Lad.M_lt H.lo h)
  ·have hth:=th_set hths (by omega) s' rfl
   have hbuf:∀ u,s'.buf u=s.buf u:=fun u=>by unfold Ts.buf;rw [hb]
   have hbig:X.big s'≤X.big s:=sumN_le X.T fun u _=>by
    show 2*X.rk u (s'.th u)+(s'.buf u).length≤2*X.rk u (s.th u)+(s.buf u).length
    rw [hbuf,hth]
    split
    ·rename_i e;subst e;omega
    ·exact Nat.le_refl _
   rcases hk with hk | ⟨k1,k2,k3⟩
   ·refine .inl ?_
    have hs:X.small s' < X.small s:=sumN_lt X.T hT (fun u _=>by
     show X.lo u (s'.th u) s'.mem (s'.buf u)≤X.lo u (s.th u) s.mem (s.buf u)
     rw [hm,hth,hbuf]
     split
     ·rename_i e;subst e;omega
     ·exact Nat.le_refl _) (by
     show X.lo p.2 (s'.th p.2) s'.mem (s'.buf p.2) < X.lo p.2 (s.th p.2) s.mem (s.buf p.2)
     rw [hm,hth,hbuf,if_pos rfl];exact hk)
    unfold Lad.M
    have:=Nat.mul_le_mul_left (X.T*X.K+1) hbig
    omega
   ·refine .inr ⟨⟨hm,hb,?_,fun u hu=>?_⟩,fun e=>by omega,fun _ _=>k1⟩
    ·have hs:X.small s'≤X.small s:=sumN_le X.T (fun u _=>by
      show X.lo u (s'.th u) s'.mem (s'.buf u)≤X.lo u (s.th u) s.mem (s.buf u)
      rw [hm,hth,hbuf]
      split
      ·rename_i e;subst e;exact k3
      ·exact Nat.le_refl _)
     unfold Lad.M
     have:=Nat.mul_le_mul_left (X.T*X.K+1) hbig
     omega
    ·rw [hth]
     by_cases e:u=p.2
     ·subst e;rw [if_pos rfl];exact .inr ⟨k1,k2⟩
     ·rw [if_neg e];exact .inl rfl
 rw [if_neg c2] at hp
 by_cases c3:p.1=1
 ·rw [if_pos c3] at hp
  have:=Option.some.inj hp
  subst this
  cases hq:s.buf p.2 with
  | nil=>
   have e:s.flush p.2=s:=by unfold Ts.flush;rw [hq]
   rw [e]
   exact .inr ⟨.refl X s,fun _ _=>rfl,fun h=>absurd h c2⟩
  | cons x r=>
   refine .inl (Lad.M_lt H.lo ?_)
   have e:(s.flush p.2).ths=s.ths:=(s.flush_same p.2 (by omega)).ths
   have e2:∀ u,(s.flush p.2).th u=s.th u:=fun u=>by unfold Ts.th;rw [e]
   have e3:=buf_flushF (s:=s) (t:=p.2) (by omega)
   refine sumN_lt X.T hT (fun u _=>?_) ?_
   ·show 2*X.rk u ((s.flush p.2).th u)+((s.flush p.2).buf u).length≤2*X.rk u (s.th u)+(s.buf u).length
    rw [e2]
    have:=flush_shr s p.2 u
    omega
   ·show 2*X.rk p.2 ((s.flush p.2).th p.2)+((s.flush p.2).buf p.2).length < 2*X.rk p.2 (s.th p.2)+(s.buf p.2).length
    rw [e2,e3,upF_self,hq]
    simp
 rw [if_neg c3,if_pos l3] at hp
 have:=Option.some.inj hp
 subst this
 exact .inr ⟨.refl X s,fun h=>absurd h c3,fun h=>absurd h c2⟩
theorem Lad.Fit.run(H:X.Fit codes J):∀ (l:List (Nat×Nat)) (s:Ts),J s→∃ s',Ts.run codes s l=some s'∧J s'∧(X.M s' < X.M s∨(X.Idle s s'∧(∀ t,t < X.T→(1,t)∈l→s.buf t=[])∧(∀ t,t < X.T→(0,t)∈l→X.stuck t (s.th t) s.mem (s.buf t))))
 | [],s,hJ=>⟨s,rfl,hJ,.inr ⟨.refl X s,fun _ _ h=>(by cases h),fun _ _ h=>(by cases h)⟩⟩
 | p::l,s,hJ=>by
  obtain⟨s1,h1,j1⟩:=H.go s p hJ
  obtain⟨s2,h2,j2,k2⟩:=Lad.Fit.run H l s1 j1
  refine⟨s2,by rw [Ts.run,h1];exact h2,j2,?_⟩
  rcases H.pick hJ h1 with a | ⟨a,a1,a2⟩
  ·refine .inl ?_
   rcases k2 with b | ⟨b,-,-⟩
   ·exact Nat.lt_trans b a
   ·exact Nat.lt_of_le_of_lt b.M a
  ·rcases k2 with b | ⟨b,b1,b2⟩
   ·exact .inl (Nat.lt_of_lt_of_le b a.M)
   ·have hbu:∀ u,s1.buf u=s.buf u:=fun u=>by unfold Ts.buf;rw [a.bufs]
    refine .inr ⟨⟨b.mem.trans a.mem,b.bufs.trans a.bufs,Nat.le_trans b.M a.M,fun u hu=>?_⟩,fun t ht hm=>?_,fun t ht hm=>?_⟩
    ·have hb:=b.ths u hu
     rw [a.mem,hbu u] at hb
     rcases a.ths u hu with ea | ⟨ea,ea2⟩<;>rcases hb with eb | ⟨eb,eb2⟩
     ·exact .inl (eb.trans ea)
     ·rw [ea] at eb;exact .inr ⟨eb,eb2⟩
     ·rw [eb];exact .inr ⟨ea,ea2⟩
     ·exact .inr ⟨ea,eb2⟩
    ·rcases List.mem_cons.1 hm with e | e
     ·have:=a1 (by rw [←e]) (by rw [←e];exact ht)
      rw [←e] at this;exact this
     ·have:=b1 t ht e
      unfold Ts.buf at this ⊢
      rw [←a.bufs];exact this
    ·rcases List.mem_cons.1 hm with e | e
     ·have:=a2 (by rw [←e]) (by rw [←e];exact ht)
      rw [←e] at this;exact this
     ·have:=b2 t ht e
      rw [a.mem,hbu t] at this
      rcases a.ths t ht with ea | ⟨ea,ea2⟩
      ·rw [ea] at this;exact this
      ·exact ea
def Full(T:Nat)(l:List (Nat×Nat)):Prop:=∀ t,t < T→(0,t)∈l∧(1,t)∈l
theorem Lad.Done.pick(hd:X.Done s)(H:X.Fit codes J)(hJ:J s){p:Nat×Nat}(hp:s.pick codes p=some s'):s'=s:=by
 obtain⟨l1,l2,l3⟩:=H.len s hJ
 unfold Ts.pick at hp
 by_cases c1:s.ths.length≤p.2
 ·rw [if_pos c1] at hp;exact (Option.some.inj hp).symm
 rw [if_neg c1] at hp
 obtain⟨d1,d2⟩:=hd p.2 (by omega)
 by_cases c2:p.1=0
 ·rw [if_pos c2] at hp
  exact stepT_idle (by omega) d1 hp
 rw [if_neg c2] at hp
 by_cases c3:p.1=1
 ·rw [if_pos c3] at hp
  have e:s.flush p.2=s:=by unfold Ts.flush;rw [d2]
  rw [e] at hp
  exact (Option.some.inj hp).symm
 rw [if_neg c3,if_pos l3] at hp
 exact (Option.some.inj hp).symm
theorem Lad.Done.run(hd:X.Done s)(H:X.Fit codes J)(hJ:J s)(l:List (Nat×Nat)):Ts.run codes s l=some s:=by
 induction l with
 | nil=>rfl
 | cons p l ih=>
  obtain⟨s1,h1,j1⟩:=H.go s p hJ
  have e:=hd.pick H hJ h1
  rw [Ts.run,h1,e]
  exact ih
theorem Lad.Fit.window(H:X.Fit codes J)(l:List (Nat×Nat))(hl:Full X.T l)(hJ:J s):∃ s',Ts.run codes s l=some s'∧J s'∧(X.Done s'∨X.M s' < X.M s):=by
 obtain⟨s',h1,h2,h3⟩:=H.run l s hJ
 refine⟨s',h1,h2,?_⟩
 rcases h3 with h | ⟨h,a,b⟩
 ·exact .inr h
 ·refine .inl ?_
  have hg:=H.gone s hJ fun t ht=>⟨a t ht (hl t ht).2,b t ht (hl t ht).1⟩
  have hd:X.Done s:=fun t ht=>⟨hg t ht,a t ht (hl t ht).2⟩
  have:=hd.run H hJ l
  rw [this] at h1
  rw [←Option.some.inj h1];exact hd
theorem Lad.Fit.windows(H:X.Fit codes J):∀ (ls:List (List (Nat×Nat))) (s:Ts),(∀ l∈ls,Full X.T l)→J s→∃ s',Ts.run codes s ls.flatten=some s'∧J s'∧(X.Done s'∨X.M s'+ls.length≤X.M s)
 | [],s,_,hJ=>⟨s,rfl,hJ,.inr (Nat.le_refl _)⟩
 | l::ls,s,hl,hJ=>by
  obtain⟨s1,h1,j1,k1⟩:=H.window l (hl l (by simp)) hJ
  obtain⟨s2,h2,j2,k2⟩:=Lad.Fit.windows H ls s1 (fun x hx=>hl x (by simp [hx])) j1
  refine⟨s2,by rw [List.flatten_cons,Ts.run_app,h1];exact h2,j2,?_⟩
  rcases k1 with k1 | k1
  ·have:=k1.run H j1 ls.flatten
   rw [this] at h2
   rw [←Option.some.inj h2];exact .inl k1
  ·rcases k2 with k2 | k2
   ·exact .inl k2
   ·refine .inr ?_
    rw [List.length_cons];omega
theorem Lad.M_start(h0:∀ t,t < X.T→(s.buf t)=[])(hlo:∀ t th mem q,X.lo t th mem q≤X.K)(hL:∀ t,t < X.T→X.Lm t≤X.Lb t):X.M s≤(X.T*X.K+1)*(2*X.T+2*sumN (fun t=>X.R*X.Lb t) X.T)+X.T*X.K:=by
 have h1:X.small s≤X.T*X.K:=sumN_bd X.T fun t _=>hlo _ _ _ _
 have h2:∀ n,n≤X.T→sumN (fun t=>2*X.rk t (s.th t)+(s.buf t).length) n≤2*n+2*sumN (fun t=>X.R*X.Lb t) n:=by
  intro n
  induction n with
  | zero=>intro _;simp [sumN]
  | succ n ih=>
   intro hn
   have:=ih (by omega)
   rw [sumN,sumN,h0 n (by omega)]
   have hr:X.rk n (s.th n)≤1+X.R*X.Lb n:=by
    unfold Lad.rk
    split
    ·omega
    ·split
     ·omega
     ·have a1:(X.R - (s.th n).pc.toNat / X.Lb n)*X.Lm n≤X.R*X.Lb n:=Nat.mul_le_mul (Nat.sub_le _ _) (hL n (by omega))
      omega
   simp only [List.length_nil]
   omega
 unfold Lad.M
 have h3:=Nat.mul_le_mul_left (X.T*X.K+1) (h2 X.T (Nat.le_refl _))
 have h4:X.big s=sumN (fun t=>2*X.rk t (s.th t)+(s.buf t).length) X.T:=rfl
 rw [←h4] at h3
 omega
theorem start_le{T K size:Nat}(hT:T≤9)(hK:K≤25):(T*K+1)*(2*T+2*size)+T*K≤50*(T+1)*(size+10):=by
 have h1:T*K+1≤25*(T+1):=by
  have:=Nat.mul_le_mul_left T hK
  omega
 have h2:=Nat.mul_le_mul_right (2*T+2*size) h1
 have h3:25*(T+1)*(2*T+2*size)=50*(T+1)*(T+size):=by
  rw [←Nat.mul_add,←Nat.mul_assoc,Nat.mul_right_comm 25 (T+1) 2]
 have h4:50*(T+1)*(size+10)=50*(T+1)*(T+size)+50*(T+1)*(10 - T):=by
  rw [←Nat.mul_add];congr 1;omega
 have h5:50*(T+1)*1≤50*(T+1)*(10 - T):=Nat.mul_le_mul_left _ (by omega)
 omega
end
end Go.Proofs.YtckmkaeopnnbbaaGreatDoor.As
end

section
set_option linter.unusedVariables false
set_option linter.unusedSimpArgs false
namespace Go.Proofs.YtckmkaeopnnbbaaGreatDoor.As

def stepOk(Lb:Nat)(lev:Nat→Nat)(j:Nat)(i:Ins):Bool:=
 decide (i.op≠0) && (decide (i.op=13) || decide (j+1=Lb) || decide (lev j < lev (j+1))) && (!(jumps i.op) || (decide (0≤i.k) && decide (i.k.toNat < Lb) && decide (lev j < lev i.k.toNat)))
def chkL(Lb:Nat)(lev:Nat→Nat)(loop:Nat→Bool)(B:List Ins):Bool:=(List.range Lb).all fun j=>match B[j]? with
 | some i=>(loop j && decide (i.op≠0)) || stepOk Lb lev j i
 | none=>false
theorem chk_st{Lb:Nat}{lev:Nat→Nat}{loop:Nat→Bool}{B:List Ins}(h:chkL Lb lev loop B=true):∀ j,j < Lb→∃ i,B[j]? = some i∧(loop j=true∧i.op≠0∨stepOk Lb lev j i=true):=fun j hj=>by
 have:=List.all_eq_true.1 h j (List.mem_range.2 hj)
 cases hi:B[j]? with
 | none=>simp [hi] at this
 | some i=>
  simp only [hi,Bool.or_eq_true,Bool.and_eq_true,decide_eq_true_eq] at this
  exact⟨i,rfl,this⟩
theorem chk_op{Lb:Nat}{lev:Nat→Nat}{loop:Nat→Bool}{B:List Ins}(h:chkL Lb lev loop B=true):∀ j,j < Lb→∃ i,B[j]? = some i∧i.op≠0:=fun j hj=>by
 obtain⟨i,h1,h2⟩:=chk_st h j hj
 refine⟨i,h1,?_⟩
 rcases h2 with⟨_,h⟩ | h
 ·exact h
 ·unfold stepOk at h
  simp only [Bool.and_eq_true,decide_eq_true_eq] at h
  exact h.1.1
def keepL(Lb:Nat)(sw:Nat→Bool)(B:List Ins):Bool:=(List.range Lb).all fun j=>sw j || match B[j]? with
 | some i=>decide (i.op≠19) && decide (i.op≠20) && decide (i.op≠21) && decide (i.op≠25)
 | none=>false
theorem keep_op{Lb:Nat}{sw:Nat→Bool}{B:List Ins}(h:keepL Lb sw B=true){j:Nat}(hj:j < Lb)(hs:sw j=false){i:Ins}(hi:B[j]? = some i):i.op≠19∧i.op≠20∧i.op≠21∧i.op≠25:=by
 have:=List.all_eq_true.1 h j (List.mem_range.2 hj)
 simp only [hs,hi,Bool.false_or,Bool.and_eq_true,decide_eq_true_eq] at this
 exact⟨this.1.1.1,this.1.1.2,this.1.2,this.2⟩
section
variable{X:Lad}{t:Nat}{s s':Ts}{th th':Th}{p j:Nat}
theorem place_of{Lb:Nat}(hj:j < Lb):(p*Lb+j) % Lb=j∧(p*Lb+j) / Lb=p:=by
 have h0:0 < Lb:=by omega
 constructor
 ·rw [Nat.mul_comm,Nat.mul_add_mod,Nat.mod_eq_of_lt hj]
 ·rw [Nat.mul_comm,Nat.mul_add_div h0,Nat.div_eq_of_lt hj];omega
theorem Lad.rk_at(h0:th.st=0)(hpc:th.pc=((p*X.Lb t+j:Nat):Int))(hj:j < X.Lb t)(hp:p < X.R):X.rk t th=1+(X.R - p)*X.Lm t - X.lv t j th:=by
 obtain⟨e1,e2⟩:=place_of (p:=p) hj
 unfold Lad.rk
 rw [if_neg (by omega),hpc,Int.toNat_natCast,e1,e2,if_neg (by omega)]
theorem Lad.lo_at(h0:th.st=0)(hpc:th.pc=((p*X.Lb t+j:Nat):Int))(hj:j < X.Lb t)(hp:p < X.R)(mem:List Int):X.lo t th mem []=X.loc t j th mem:=by
 obtain⟨e1,e2⟩:=place_of (p:=p) hj
 unfold Lad.lo
 rw [hpc,Int.toNat_natCast,e1,e2,if_neg (by rintro (h | h | h);exact h h0;omega;exact h rfl)]
theorem Lad.stuck_at(h0:th.st=0)(hpc:th.pc=((p*X.Lb t+j:Nat):Int))(hj:j < X.Lb t)(hp:p < X.R)(mem:List Int):X.stuck t th mem []↔X.cold t j th mem=true:=by
 obtain⟨e1,e2⟩:=place_of (p:=p) hj
 unfold Lad.stuck
 rw [hpc,Int.toNat_natCast,e1,e2]
 constructor
 ·rintro (h | h | ⟨_,h⟩)
  ·exact absurd h0 h
  ·exact absurd rfl h
  ·exact h
 ·exact fun h=>.inr (.inr ⟨hp,h⟩)
theorem Lad.rk_end(h0:th.st=0)(hpc:th.pc=((X.R*X.Lb t:Nat):Int))(hL:0 < X.Lb t):X.rk t th=1:=by
 unfold Lad.rk
 rw [if_neg (by omega),hpc,Int.toNat_natCast,Nat.mul_div_cancel _ hL,if_pos (Nat.le_refl _)]
theorem Lad.stuck_end{mem:List Int}(h:X.stuck t th mem [])(hpc:th.pc=((X.R*X.Lb t:Nat):Int))(hL:0 < X.Lb t):th.st≠0:=by
 rcases h with c | c | ⟨c,_⟩
 ·exact c
 ·exact absurd rfl c
 ·rw [hpc,Int.toNat_natCast,Nat.mul_div_cancel _ hL] at c;omega
theorem Lad.rk_lt{lev:Nat→Nat}(hl:∀ j th,lev j≤X.lv t j th∧X.lv t j th < X.Lm t)(h0:th.st=0)(hpc:th.pc=((p*X.Lb t+j:Nat):Int))(hj:j < X.Lb t)(hp:p < X.R)
  (h0':th'.st=0) (hn:(th'.pc=th.pc+1∧(j+1=X.Lb t∨X.lv t j th < X.lv t (j+1) th'))∨∃ k,th'.pc=((p*X.Lb t+k:Nat):Int)∧k < X.Lb t∧X.lv t j th < X.lv t k th'):X.rk t th' < X.rk t th:=by
 have hL:0 < X.Lb t:=by omega
 rw [Lad.rk_at h0 hpc hj hp]
 have hlt:=(hl j th).2
 have hm:X.Lm t≤(X.R - p)*X.Lm t:=Nat.le_mul_of_pos_left _ (by omega)
 rcases hn with⟨hn,hc⟩ | ⟨k,hn,hk,hc⟩
 ·by_cases e:j+1=X.Lb t
  ·have hpc':th'.pc=(((p+1)*X.Lb t+0:Nat):Int):=by
    rw [hn,hpc,Nat.succ_mul];omega
   by_cases hp':p+1=X.R
   ·rw [hp',Nat.add_zero] at hpc'
    rw [Lad.rk_end h0' hpc' hL]
    omega
   ·rw [Lad.rk_at h0' hpc' hL (by omega)]
    have e2:(X.R - p)*X.Lm t=(X.R - (p+1))*X.Lm t+X.Lm t:=by
     rw [←Nat.succ_mul];congr 1;omega
    omega
  ·have hpc':th'.pc=((p*X.Lb t+(j+1):Nat):Int):=by rw [hn,hpc];omega
   rw [Lad.rk_at h0' hpc' (by omega) hp]
   have h2:=(hl (j+1) th').2
   rcases hc with hc | hc
   ·exact absurd hc e
   ·omega
 ·rw [Lad.rk_at h0' hn hk hp]
  have h2:=(hl k th').2
  omega
theorem Lad.falls{lev:Nat→Nat}(hl:∀ j th,lev j≤X.lv t j th∧X.lv t j th < X.Lm t)(h0:th.st=0)(hpc:th.pc=((p*X.Lb t+j:Nat):Int))(hj:j < X.Lb t)(hp:p < X.R)(hR:X.R*X.Lb t≤1000000)
  (hlv:X.lv t j th=lev j) {i0:Ins} (hok:stepOk (X.Lb t) lev j i0=true) (T:Ts.Turn t (movI (p*X.Lb t) i0) th th' s s'):X.rk t th' < X.rk t th:=by
 unfold stepOk at hok
 simp only [Bool.and_eq_true,Bool.or_eq_true,decide_eq_true_eq,Bool.not_eq_true'] at hok
 obtain⟨⟨o1,o2⟩,o3⟩:=hok
 have hb:(p+1)*X.Lb t≤X.R*X.Lb t:=Nat.mul_le_mul_right _ hp
 rw [Nat.succ_mul] at hb
 refine Lad.rk_lt hl h0 hpc hj hp (by rw [T.st];exact h0) ?_
 rcases T.pc with⟨c1,c2⟩ | ⟨c1,c2⟩
 ·refine .inl ⟨c2,?_⟩
  rw [movI_op] at c1
  rcases o2 with (o2 | o2) | o2
  ·exact absurd o2 c1
  ·exact .inl o2
  ·exact .inr (by rw [hlv];exact Nat.lt_of_lt_of_le o2 (hl _ _).1)
 ·rw [movI_op] at c1
  have hj2:jumps i0.op=true:=by
   unfold jumps
   rcases c1 with e | e | e<;>rw [e]<;>rfl
  rcases o3 with o3 | ⟨⟨k1,k2⟩,k3⟩
  ·rw [hj2] at o3;cases o3
  ·refine .inr ⟨i0.k.toNat,?_,k2,by rw [hlv];exact Nat.lt_of_lt_of_le k3 (hl _ _).1⟩
   rw [c2,movI_jump hj2]
   show wr32 (i0.k+((p*X.Lb t:Nat):Int))=_
   unfold wr32
   omega
theorem Lad.big_lt(ht:t < X.T)(hths:t < s.ths.length)(hth:s.th t=th)(i:Ins)(T:Ts.Turn t i th th' s s')(h:X.rk t th' < X.rk t th):X.big s' < X.big s:=by
 have e:=th_set T.ths hths s' rfl
 refine sumN_lt X.T ht (fun u _=>?_) ?_
 ·show 2*X.rk u (s'.th u)+(s'.buf u).length≤2*X.rk u (s.th u)+(s.buf u).length
  have:=T.bl u
  rw [e]
  by_cases c:u=t
  ·subst c;rw [if_pos rfl] at this ⊢; rw [hth];omega
  ·rw [if_neg c] at this ⊢; omega
 ·show 2*X.rk t (s'.th t)+(s'.buf t).length < 2*X.rk t (s.th t)+(s.buf t).length
  have:=T.bl t
  rw [if_pos rfl] at this
  rw [e,if_pos rfl,hth];omega
theorem Lad.flush_lt(ht:t < X.T)(hb:t < s.bufs.length)(hq:s.buf t≠[]):X.big (s.flush t) < X.big s:=by
 have e:(s.flush t).ths=s.ths:=(s.flush_same t hb).ths
 have e2:∀ u,(s.flush t).th u=s.th u:=fun u=>by unfold Ts.th;rw [e]
 have e3:=buf_flushF hb
 refine sumN_lt X.T ht (fun u _=>?_) ?_
 ·show 2*X.rk u ((s.flush t).th u)+((s.flush t).buf u).length≤2*X.rk u (s.th u)+(s.buf u).length
  rw [e2]
  have:=flush_shr s t u
  omega
 ·show 2*X.rk t ((s.flush t).th t)+((s.flush t).buf t).length < 2*X.rk t (s.th t)+(s.buf t).length
  rw [e2,e3,upF_self]
  cases hc:s.buf t with
  | nil=>exact absurd hc hq
  | cons x r=>simp
def Lad.Out(X:Lad)(t:Nat)(s s':Ts):Prop:=X.big s' < X.big s∨(s'.mem=s.mem∧s'.bufs=s.bufs∧∃ th',s'.ths=s.ths.set t th'∧X.rk t th'≤X.rk t (s.th t)∧(X.lo t th' s.mem (s.buf t) < X.lo t (s.th t) s.mem (s.buf t)∨(X.stuck t (s.th t) s.mem (s.buf t)∧X.stuck t th' s.mem (s.buf t)∧X.lo t th' s.mem (s.buf t)≤X.lo t (s.th t) s.mem (s.buf t))))
structure Stand(codes:List (List Ins))(Lb R:Nat)(B:List Ins)(s:Ts)(t:Nat)(th:Th)(p j:Nat):Prop where
 hs:s.ths[t]? = some th
 pc:th.pc=((p*Lb+j:Nat):Int)
 fr:th.st=0∧p < R∧j < Lb∨p=R∧j=0∧(th.st=0∨th.st=2)
 code:∃ L,codes[t]? = some L∧L.length=R*Lb∧∀ p j,p < R→j < Lb→L[p*Lb+j]? = (B[j]?).map (movI (p*Lb))
inductive Stand.Way(codes:List (List Ins))(Lb R:Nat)(B:List Ins)(s s':Ts)(t:Nat)(th:Th)(p j:Nat):Prop where
 | flush (h:s'=s.flush t) (hne:s.buf t≠[])
 | turn (i:Ins) (th':Th) (h0:th.st=0) (hp:p < R) (hj:j < Lb) (hi:B[j]? = some i) (hA:AtI codes s t th (movI (p*Lb) i)) (hd:drainsI i.op→s.empty t=true) (hr:i.op=17→s.roomy t=true) (T:Ts.Turn t (movI (p*Lb) i) th th' s s')
 | ended (h0:th.st=0) (hp:p=R) (hj:j=0) (h:s'=(s.note t ⟨12,0,th.pc,0,0,0,0,false⟩).upd t { th with st:=2 })
 | still (h0:th.st=2) (h:s'=s)
theorem Stand.way{codes:List (List Ins)}{Lb R:Nat}{B:List Ins}(S:Stand codes Lb R B s t th p j)(hB:t < s.bufs.length)(hr:0 < s.room)(hop:∀ j,j < Lb→∃ i,B[j]? = some i∧i.op≠0)(hgo:s.stepT codes t=some s'):Stand.Way codes Lb R B s s' t th p j:=by
 obtain⟨L,hc,hLl,hget⟩:=S.code
 rcases S.fr with⟨h0,hp,hj⟩ | ⟨hp,hj,h0⟩
 ·obtain⟨i,hi,hk⟩:=hop j hj
  have hA:AtI codes s t th (movI (p*Lb) i):=⟨S.hs,⟨L,hc,by rw [S.pc,Int.toNat_natCast,hget p j hp hj,hi];rfl⟩,h0,by rw [S.pc];omega⟩
  rcases turn_of hA (by rw [movI_op];exact hk) hr hB hgo with⟨e,hne⟩ | ⟨th',T⟩
  ·exact .flush e hne
  ·by_cases hd:drainsI i.op∧s.empty t=false∨i.op=17∧s.roomy t=false
   ·have hq:s.buf t≠[]:=by
     intro e
     rcases hd with⟨_,c⟩ | ⟨_,c⟩
     ·unfold Ts.empty at c;rw [e] at c;cases c
     ·unfold Ts.roomy at c;rw [e,decide_eq_false_iff_not] at c;exact c hr
    have:s'=s.flush t:=by
     rw [stepT_at hA] at hgo
     by_cases c1:asksI (movI (p*Lb) i).op∧(s.mem.length:Int)≤addrI th (movI (p*Lb) i)
     ·rw [if_pos c1] at hgo;cases hgo
     ·rw [if_neg c1,movI_op,if_pos hd] at hgo
      rw [←Option.some.inj hgo];exact upd_flush S.hs
    exact .flush this hq
   ·refine .turn i th' h0 hp hj hi hA (fun c=>?_) (fun c=>?_) T
    ·cases he:s.empty t with
     | true=>rfl
     | false=>exact absurd (.inl ⟨c,he⟩) hd
    ·cases he:s.roomy t with
     | true=>rfl
     | false=>exact absurd (.inr ⟨c,he⟩) hd
 ·have hpc2:th.pc=((R*Lb:Nat):Int):=by rw [S.pc,hp,hj];rfl
  rcases h0 with h0 | h0
  ·have:=stepT_end S.hs hc h0 (by rw [hpc2,hLl];exact Int.le_refl _)
   rw [this] at hgo
   exact .ended h0 hp hj (Option.some.inj hgo).symm
  ·have e:=stepT_stop S.hs hc (by omega) (s:=s)
   rw [e] at hgo
   exact .still h0 (Option.some.inj hgo).symm
theorem Stand.Way.room{codes:List (List Ins)}{Lb R:Nat}{B:List Ins}(h:Stand.Way codes Lb R B s s' t th p j)(hB:t < s.bufs.length):s'.room=s.room:=by
 cases h with
 | flush e _=>rw [e];exact (s.flush_same t hB).room
 | turn _ _ _ _ _ _ _ _ _ T=>exact T.room
 | ended _ _ _ e=>rw [e];rfl
 | still _ e=>rw [e]
theorem Lad.out_of{codes:List (List Ins)}{lev:Nat→Nat}{loop:Nat→Bool}{B:List Ins}(S:Stand codes (X.Lb t) X.R B s t th p j)(W:Stand.Way codes (X.Lb t) X.R B s s' t th p j)(hT:s.ths.length=X.T)(hB:s.bufs.length=X.T)(ht:t < X.T)(hR:X.R*X.Lb t≤1000000)(hL0:0 < X.Lb t)
  (hl:∀ j th,lev j≤X.lv t j th∧X.lv t j th < X.Lm t) (hflat:∀ j th,loop j=false→X.lv t j th=lev j)
  (hst:∀ j,j < X.Lb t→∃ i,B[j]? = some i∧(loop j=true∧i.op≠0∨stepOk (X.Lb t) lev j i=true))
  (hloop:∀ i th',loop j=true→p < X.R→j < X.Lb t→th.st=0→B[j]? = some i→AtI codes s t th (movI (p*X.Lb t) i)→(drainsI i.op→s.empty t=true)→(i.op=17→s.roomy t=true)→Ts.Turn t (movI (p*X.Lb t) i) th th' s s'→X.Out t s s')
  : X.Out t s s':=by
 have hs:=S.hs
 have hth:s.th t=th:=by unfold Ts.th;rw [hs];rfl
 have hlt:t < s.ths.length:=by omega
 cases W with
 | flush e hne=>rw [e];exact .inl (Lad.flush_lt ht (by omega) hne)
 | turn i th' h0 hp hj hi hA hd hr T=>
  cases hlp:loop j with
  | false=>
   obtain⟨i',hi',hk⟩:=hst j hj
   rw [hi] at hi'
   obtain rfl:=Option.some.inj hi'
   rcases hk with⟨k,_⟩ | k
   ·rw [hlp] at k;cases k
   ·exact .inl (Lad.big_lt ht hlt hth _ T (Lad.falls hl h0 S.pc hj hp hR (hflat j th hlp) k T))
  | true=>exact hloop i th' hlp hp hj h0 hi hA hd hr T
 | ended h0 hp hj e=>
  have hpc2:th.pc=((X.R*X.Lb t:Nat):Int):=by rw [S.pc,hp,hj];rfl
  refine .inl ?_
  have e2:=th_set (s:=s) (t:=t) (th':={ th with st:=2 }) rfl hlt s' (by rw [e];rfl)
  have eb:∀ u,s'.buf u=s.buf u:=fun u=>by rw [e];rfl
  have ez:X.rk t { th with st:=2 }=0:=by unfold Lad.rk;rw [if_pos (by show (2:Int)≠0;decide)]
  refine sumN_lt X.T ht (fun u _=>?_) ?_
  ·show 2*X.rk u (s'.th u)+(s'.buf u).length≤2*X.rk u (s.th u)+(s.buf u).length
   rw [eb,e2]
   by_cases c:u=t
   ·subst c
    rw [if_pos rfl,ez];omega
   ·rw [if_neg c];omega
  ·show 2*X.rk t (s'.th t)+(s'.buf t).length < 2*X.rk t (s.th t)+(s.buf t).length
   rw [eb,e2,if_pos rfl,hth,Lad.rk_end h0 hpc2 hL0,ez]
   omega
 | still h0 e=>
  subst e
  refine .inr ⟨rfl,rfl,th,?_,by rw [hth];exact Nat.le_refl _,.inr ⟨?_,?_,by rw [hth];exact Nat.le_refl _⟩⟩
  ·obtain⟨hlt,he⟩:=List.getElem?_eq_some_iff.1 hs
   rw [←he];exact (List.set_getElem_self hlt).symm
  ·rw [hth];exact .inl (by omega)
  ·exact .inl (by omega)
theorem Ts.Turn.th_eq{i:Ins}{th2:Th}(T:Ts.Turn t i th th' s s')(hs:s.ths[t]? = some th)(h:s'.ths=s.ths.set t th2):th'=th2:=by
 have hlt:=(List.getElem?_eq_some_iff.1 hs).1
 have h2:=T.ths
 rw [h] at h2
 have:=congrArg (fun l:List Th=>l[t]?) h2
 simp only [List.getElem?_set_self hlt] at this
 exact (Option.some.inj this).symm
theorem Lad.out_keep{k:Nat}(hths:s'.ths=s.ths.set t th')(hm:s'.mem=s.mem)(hb:s'.bufs=s.bufs)(hs:s.ths[t]? = some th)(h0:th.st=0)(hpc:th.pc=((p*X.Lb t+j:Nat):Int))(hj:j < X.Lb t)(hp:p < X.R)
  (h0':th'.st=0) (hpc':th'.pc=((p*X.Lb t+k:Nat):Int)) (hk:k < X.Lb t) (hlv:X.lv t k th'=X.lv t j th) (h:s.buf t=[]→X.loc t k th' s.mem < X.loc t j th s.mem∨(X.cold t j th s.mem=true∧X.cold t k th' s.mem=true∧X.loc t k th' s.mem≤X.loc t j th s.mem)):X.Out t s s':=by
 have hth:s.th t=th:=by unfold Ts.th;rw [hs];rfl
 refine .inr ⟨hm,hb,th',hths,by rw [hth,Lad.rk_at h0 hpc hj hp,Lad.rk_at h0' hpc' hk hp,hlv];exact Nat.le_refl _,?_⟩
 rw [hth]
 by_cases e:s.buf t=[]
 ·have h:=h e
  rw [e,Lad.lo_at h0 hpc hj hp,Lad.lo_at h0' hpc' hk hp,Lad.stuck_at h0 hpc hj hp,Lad.stuck_at h0' hpc' hk hp]
  exact h
 ·refine .inr ⟨.inr (.inl e),.inr (.inl e),?_⟩
  have:X.lo t th' s.mem (s.buf t)=0:=by unfold Lad.lo;rw [if_pos (.inr (.inr e))]
  rw [this];exact Nat.zero_le _
theorem Lad.out_lt{lev:Nat→Nat}(hl:∀ j th,lev j≤X.lv t j th∧X.lv t j th < X.Lm t)(ht:t < X.T)(hT:s.ths.length=X.T){i:Ins}(T:Ts.Turn t i th th' s s')(hs:s.ths[t]? = some th)(h0:th.st=0)(hpc:th.pc=((p*X.Lb t+j:Nat):Int))(hj:j < X.Lb t)(hp:p < X.R)
  {k:Nat} (hpc':th'.pc=((p*X.Lb t+k:Nat):Int)) (hk:k < X.Lb t) (hlv:X.lv t j th < X.lv t k th'):X.Out t s s':=by
 have hth:s.th t=th:=by unfold Ts.th;rw [hs];rfl
 exact .inl (Lad.big_lt ht (by omega) hth i T (Lad.rk_lt hl h0 hpc hj hp (by rw [T.st];exact h0) (.inr ⟨k,hpc',hk,hlv⟩)))
theorem pick_cases{codes:List (List Ins)}{q:Nat×Nat}(h:s.pick codes q=some s')(hs:s.slp=[]):s'=s∨(q.2 < s.ths.length∧s.stepT codes q.2=some s')∨(q.2 < s.ths.length∧s'=s.flush q.2):=by
 unfold Ts.pick at h
 by_cases c1:s.ths.length≤q.2
 ·rw [if_pos c1] at h;exact .inl (Option.some.inj h).symm
 rw [if_neg c1] at h
 by_cases c2:q.1=0
 ·rw [if_pos c2] at h;exact .inr (.inl ⟨by omega,h⟩)
 rw [if_neg c2] at h
 by_cases c3:q.1=1
 ·rw [if_pos c3] at h;exact .inr (.inr ⟨by omega,(Option.some.inj h).symm⟩)
 rw [if_neg c3,if_pos hs] at h
 exact .inl (Option.some.inj h).symm
theorem run_one{codes:List (List Ins)}{q:Nat×Nat}(h:Ts.run codes s [q]=some s'):s.pick codes q=some s':=by
 rw [Ts.run] at h
 cases hp:s.pick codes q with
 | none=>rw [hp] at h;cases h
 | some s2=>rw [hp] at h;exact h
theorem mem_flush(s:Ts)(t:Nat):(s.flush t).mem=s.mem∨∃ e r,s.buf t=e::r∧(s.flush t).mem=s.mem.set e.1 e.2:=by
 unfold Ts.flush
 cases h:s.buf t with
 | nil=>exact .inl rfl
 | cons e r=>exact .inr ⟨e,r,rfl,rfl⟩
theorem empty_nil{s:Ts}{t:Nat}(h:s.empty t=true):s.buf t=[]:=by
 unfold Ts.empty at h
 exact List.eq_nil_of_length_eq_zero (by simpa using h)
theorem load_nil{s:Ts}{t:Nat}(h:s.buf t=[])(a:Nat):s.load t a=s.mem.getD a 0:=by
 unfold Ts.load;rw [h];rfl
end
end Go.Proofs.YtckmkaeopnnbbaaGreatDoor.As
end

section
set_option linter.unusedVariables false
set_option linter.unusedSimpArgs false
namespace Go.Proofs.YtckmkaeopnnbbaaGreatDoor.As

section
variable{X:Lad}{t:Nat}{s s':Ts}{th th':Th}{p j k Lb Lm:Nat}{lv:Nat→Th→Nat}{loc:Nat→Th→List Int→Nat}{cold:Nat→Th→List Int→Bool}
theorem Lad.out_keep2(eL:X.Lb t=Lb)(eV:X.lv t=lv)(eO:X.loc t=loc)(eD:X.cold t=cold)(hths:s'.ths=s.ths.set t th')(hm:s'.mem=s.mem)(hb:s'.bufs=s.bufs)(hs:s.ths[t]? = some th)(h0:th.st=0)(hpc:th.pc=((p*Lb+j:Nat):Int))(hj:j < Lb)(hp:p < X.R)
  (h0':th'.st=0) (hpc':th'.pc=((p*Lb+k:Nat):Int)) (hk:k < Lb) (hlv:lv k th'=lv j th) (h:s.buf t=[]→loc k th' s.mem < loc j th s.mem∨(cold j th s.mem=true∧cold k th' s.mem=true∧loc k th' s.mem≤loc j th s.mem)):X.Out t s s':=by
 subst eL;subst eV;subst eO;subst eD
 exact Lad.out_keep hths hm hb hs h0 hpc hj hp h0' hpc' hk hlv h
theorem Lad.out_lt2{lev:Nat→Nat}(eL:X.Lb t=Lb)(eM:X.Lm t=Lm)(eV:X.lv t=lv)(hl:∀ j th,lev j≤lv j th∧lv j th < Lm)(ht:t < X.T)(hT:s.ths.length=X.T){i:Ins}(T:Ts.Turn t i th th' s s')(hs:s.ths[t]? = some th)(h0:th.st=0)(hpc:th.pc=((p*Lb+j:Nat):Int))(hj:j < Lb)(hp:p < X.R)
  (hpc':th'.pc=((p*Lb+k:Nat):Int)) (hk:k < Lb) (hlv:lv j th < lv k th'):X.Out t s s':=by
 subst eL;subst eV;subst eM
 exact Lad.out_lt hl ht hT T hs h0 hpc hj hp hpc' hk hlv
theorem Lad.out_of2{codes:List (List Ins)}{lev:Nat→Nat}{loop:Nat→Bool}{B:List Ins}(eL:X.Lb t=Lb)(eM:X.Lm t=Lm)(eV:X.lv t=lv)(S:Stand codes Lb X.R B s t th p j)(W:Stand.Way codes Lb X.R B s s' t th p j)(hT:s.ths.length=X.T)(hB:s.bufs.length=X.T)(ht:t < X.T)(hR:X.R*Lb≤1000000)(hL0:0 < Lb)
  (hl:∀ j th,lev j≤lv j th∧lv j th < Lm) (hflat:∀ j th,loop j=false→lv j th=lev j)
  (hst:∀ j,j < Lb→∃ i,B[j]? = some i∧(loop j=true∧i.op≠0∨stepOk Lb lev j i=true))
  (hloop:∀ i th',loop j=true→p < X.R→j < Lb→th.st=0→B[j]? = some i→AtI codes s t th (movI (p*Lb) i)→(drainsI i.op→s.empty t=true)→(i.op=17→s.roomy t=true)→Ts.Turn t (movI (p*Lb) i) th th' s s'→X.Out t s s')
  : X.Out t s s':=by
 subst eL;subst eV;subst eM
 exact Lad.out_of S W hT hB ht hR hL0 hl hflat hst hloop
theorem Lad.stuck_at2(eL:X.Lb t=Lb)(eD:X.cold t=cold)(h0:th.st=0)(hpc:th.pc=((p*Lb+j:Nat):Int))(hj:j < Lb)(hp:p < X.R)(mem:List Int):X.stuck t th mem []↔cold j th mem=true:=by
 subst eL;subst eD
 exact Lad.stuck_at h0 hpc hj hp mem
theorem Lad.stuck_end2{mem:List Int}(eL:X.Lb t=Lb)(h:X.stuck t th mem [])(hpc:th.pc=((X.R*Lb:Nat):Int))(hL:0 < Lb):th.st≠0:=by
 subst eL
 exact Lad.stuck_end h hpc hL
end
end Go.Proofs.YtckmkaeopnnbbaaGreatDoor.As
end

