/- Plain Lean: a machine whose threads have store buffers,and what a thread's port does to it. No program in sight. A law on regions that draw their order: a condition on the world that holds behind every operation but one,which waits for those that are taken first. No program in sight. Plain Lean: what flushing leaves as it was. No program in sight. Plain Lean: what picks do to a machine tso; programs of rounds. No program in sight. The walk of the function within deadlatchlaw15.Rounds that adds a code between two marks. -/
import Derived.Test.YtcnmhgblbikfkaaGreatDoorGa
import Derived.OrdersHeld
import Derived.KernelRfl
import Derived.Tactics2
import Derived.Test.YtcnmhgblbikfkaaGreatDoorRows
import Derived.Test.YtcnmhgblbikfkaaGreatDoorGc
import Derived.Test.YtcnmhgblbikfkaaGreatDoorGb
import Derived.Deep.AppendLies
section
set_option linter.unusedVariables false
namespace Go.Proofs.YtcnmhgblbikfkaaGreatDoor.As

def lastQ(q:List (Nat×Int))(a:Nat):Option Int:=(q.reverse.find? (fun e=>e.1 == a)).map (·.2)
structure Ts where
 mem:List Int
 evs:List Ev
 bufs:List (List (Nat×Int))
 room:Nat
 ths:List Th
 slp:List (Nat×Nat)
def Ts.buf(s:Ts)(t:Nat):List (Nat×Int):=s.bufs.getD t []
def Ts.note(t:Nat)(s:Ts)(e:Ev):Ts:={ s with evs:=s.evs++[{ e with who:=t }] }
def Ts.load(t:Nat)(s:Ts)(ad:Nat):Int:=(lastQ (s.buf t) ad).getD (s.mem.getD ad 0)
def Ts.roomy(t:Nat)(s:Ts):Bool:=decide ((s.buf t).length < s.room)
def Ts.store(t:Nat)(s:Ts)(ad:Nat)(v:Int):Ts:={ s with bufs:=s.bufs.set t (s.buf t++[(ad,v)]) }
def Ts.empty(t:Nat)(s:Ts):Bool:=decide ((s.buf t).length=0)
def Ts.swap(s:Ts)(ad:Nat)(v:Int):Ts:={ s with mem:=s.mem.set ad v }
def Ts.flush(t:Nat)(s:Ts):Ts:=
 match s.buf t with
 | []=>s
 | e::r=>Ts.note t { s with bufs:=s.bufs.set t r,mem:=s.mem.set e.1 e.2 } ⟨3,0,0,e.1,e.2,0,0,false⟩
def Ts.drain(t:Nat):Nat→Ts→Ts
 | 0,s=>s
 | n+1,s=>Ts.drain t n (s.flush t)
def Ts.remoteFrom:Nat→Nat→Ts→Ts
 | 0,_,s=>s
 | n+1,t,s=>Ts.remoteFrom n (t+1) (Ts.drain t (s.buf t).length s)
def Ts.remote(s:Ts):Ts:=Ts.remoteFrom s.bufs.length 0 s
def tsP(t:Nat):Port Ts:=⟨fun s=>s.mem.length,fun s ad=>s.load t ad,fun s=>s.roomy t,fun s ad v=>s.store t ad v,fun s=>s.empty t,fun s=>s.flush t,fun s ad v=>s.swap ad v,fun s=>s.remote,fun s e=>s.note t e⟩
end Go.Proofs.YtcnmhgblbikfkaaGreatDoor.As
end

section
set_option linter.unusedVariables false
namespace Go.Proofs.YtcnmhgblbikfkaaGreatDoor.As
open Go

section
variable{P:Program}{ops:Array Oper}{Q:Exit→Act→World→Prop}{md:Region.Mode}{S:World→Prop}{L:Nat}
def AnyG(P:Program)(md:Region.Mode)(ops:Array Oper)(Q:Exit→Act→World→Prop)(S:World→Prop)(L:Nat):Nat→Array Bool→Act→World→Prop
 | 0,listed,a,w=>Region.ready md ops listed=[]∧Q .normal a w
 | fuel+1,listed,a,w=>
  (Region.ready md ops listed=[]→Q .normal a w)∧
  ∀ i∈Region.ready md ops listed,wpOp P ops Q i (fun a' w'=>(i≠L→listed.getD L false=false→S w')∧AnyG P md ops Q S L fuel (listed.setIfInBounds i true) a' w') a w
theorem any_of_g:∀ (fuel:Nat) (listed:Array Bool) (a:Act) (w:World),AnyG P md ops Q S L fuel listed a w→wpAny P md ops Q fuel listed a w
 | 0,_,_,_,h=>h
 | fuel+1,_,_,_,h=>⟨h.1,fun i hi=>wpOp_mono (fun a' w' h'=>any_of_g fuel _ a' w' h'.2) (h.2 i hi)⟩
def waitsB(md:Region.Mode)(ops:Array Oper)(L i:Nat):Bool:=
 match ops[L]? with
 | some o=>o.after.any fun e=>Region.binds md e && e.on == i
 | none=>true
theorem not_ready_of_waits{i:Nat}{listed:Array Bool}(hL:waitsB md ops L i=true)(hi:i∈Region.ready md ops listed):L∉Region.ready md ops listed:=by
 intro h
 obtain⟨_,o,ho,hall⟩:=mem_ready.1 h
 unfold waitsB at hL
 rw [ho] at hL
 obtain⟨e,he,hb⟩:=Array.any_eq_true'.1 hL
 simp only [Bool.and_eq_true,beq_iff_eq] at hb
 have h1:=hall e he hb.1
 have h0:=(mem_ready.1 hi).1
 rw [hb.2] at h1
 rcases Nat.lt_or_ge i listed.size with h' | h'
 ·simp [h'] at h0 h1;rw [h0] at h1;cases h1
 ·simp [Array.getElem?_eq_none h'] at h1
theorem AnyG_first{i:Nat}{oi:Oper}{v:Value}(hi:ops[i]? = some oi)(hsel:∀ (j:Nat) (o:Oper) cs b,ops[j]? = some o→o.op≠.select cs b)
  (hQ:∀ c a w,Q (.panic c) (a.put oi.dst v) w→Q (.panic c) a w) (hL:waitsB md ops L i=true) (hiL:i≠L):
  ∀ (fuel:Nat) (listed:Array Bool) (a:Act) (w:World),listed.getD L false=false→
   (∀ j oj,ops[j]? = some oj→j≠i→listed.getD j true=false→(∀ e∈oj.after,Region.binds md e=true→e.on≠i)→oi.apart ops oj=true)→
   i∈Region.ready md ops listed→YieldsIf P ops S oi v a→S w→
   AnyG P md ops Q S L fuel (listed.setIfInBounds i true) (a.put oi.dst v) w→AnyG P md ops Q S L (fuel+1) listed a w:=by
 intro fuel
 induction fuel with
 | zero=>
  intro listed a w hLl _ hr hy hS H
  refine⟨fun h=>(by rw [h] at hr;cases hr),fun j hj=>?_⟩
  by_cases hji:j=i
  ·subst hji;exact hy.wpOp hi hS ⟨fun _ _=>hS,H⟩
  ·have:=ready_mono hj hji
   rw [H.1] at this
   cases this
 | succ fuel ih=>
  intro listed a w hLl hfree hr hy hS H
  refine⟨fun h=>(by rw [h] at hr;cases hr),fun j hj=>?_⟩
  by_cases hji:j=i
  ·subst hji;exact hy.wpOp hi hS ⟨fun _ _=>hS,H⟩
  ·have hjL:j≠L:=fun e=>not_ready_of_waits hL hr (e ▸ hj)
   have h1:=H.2 j (ready_mono hj hji)
   have hLi:(listed.setIfInBounds i true).getD L false=false:=by rw [getD_set_ne false hiL];exact hLl
   have hLj:(listed.setIfInBounds j true).getD L false=false:=by rw [getD_set_ne false hjL];exact hLl
   obtain⟨hjun,oj,hoj,hall⟩:=mem_ready.1 hj
   have hnot:∀ e∈oj.after,Region.binds md e=true→e.on≠i:=fun e he hb heq=>by
    have h1:=hall e he hb
    have h0:=(mem_ready.1 hr).1
    rw [heq] at h1
    rcases Nat.lt_or_ge i listed.size with h' | h'
    ·simp [h'] at h0 h1;rw [h0] at h1;cases h1
    ·simp [Array.getElem?_eq_none h'] at h1
   have h2:=wpOp_putIf hoj (hfree j oj hoj hji hjun hnot) (fun cs b=>hsel i oi cs b hi) (fun cs b=>hsel j oj cs b hoj) hQ hy h1
   have hfree':∀ k ok,ops[k]? = some ok→k≠i→(listed.setIfInBounds j true).getD k true=false→
     (∀ e∈ok.after,Region.binds md e=true→e.on≠i)→oi.apart ops ok=true:=fun k ok hk hki hun hno=>by
    refine hfree k ok hk hki ?_ hno
    by_cases hjk:j=k
    ·subst hjk;exact hjun
    ·rw [getD_set_ne true hjk] at hun;exact hun
   refine wpOp_mono (fun a' w' h3=>⟨fun _ _=>h3.2.1 hjL hLi,ih (listed.setIfInBounds j true) a' w' hLj hfree' (ready_mono hr (Ne.symm hji)) h3.1 (h3.2.1 hjL hLi) ?_⟩) h2
   rw [Array.setIfInBounds_comm _ _ hji]
   exact h3.2.2
theorem AnyG_take{i:Nat}{oi:Oper}{v:Value}{fuel:Nat}{listed:Array Bool}{a:Act}{w:World}(hi:ops[i]? = some oi)
  (hB:(Region.noSelect ops && Region.free md ops listed i && (Region.ready md ops listed).contains i && waitsB md ops L i && decide (i≠L) && !(listed.getD L false))=true)
  (hQ:∀ c a w,Q (.panic c) (a.put oi.dst v) w→Q (.panic c) a w) (hy:YieldsIf P ops S oi v a) (hS:S w)
  (h:AnyG P md ops Q S L fuel (listed.setIfInBounds i true) (a.put oi.dst v) w):AnyG P md ops Q S L (fuel+1) listed a w:=by
 simp only [Bool.and_eq_true,decide_eq_true_eq,Bool.not_eq_true'] at hB
 obtain⟨⟨⟨⟨⟨hs,hf⟩,hr⟩,hL⟩,hiL⟩,hLl⟩:=hB
 exact AnyG_first hi (Region.noSelect_spec hs) hQ hL hiL fuel listed a w hLl (Region.free_spec hi hf) (by simpa using hr) hy hS h
theorem AnyG_one{i:Nat}{o:Oper}{fuel:Nat}{listed:Array Bool}{a:Act}{w:World}(hi:ops[i]? = some o)(hr:Region.ready md ops listed=[i])
  (h:wpOp P ops Q i (fun a' w'=>(i≠L→listed.getD L false=false→S w')∧AnyG P md ops Q S L fuel (listed.setIfInBounds i true) a' w') a w):AnyG P md ops Q S L (fuel+1) listed a w:=
 ⟨fun h0=>(by rw [hr] at h0;cases h0),fun j hj=>by
  rw [hr] at hj
  have:j=i:=by simpa using hj
  subst this
  exact h⟩
theorem AnyG_two{i j:Nat}{fuel:Nat}{listed:Array Bool}{a:Act}{w:World}(hr:Region.ready md ops listed=[i,j])
  (h1:wpOp P ops Q i (fun a' w'=>(i≠L→listed.getD L false=false→S w')∧AnyG P md ops Q S L fuel (listed.setIfInBounds i true) a' w') a w)
  (h2:wpOp P ops Q j (fun a' w'=>(j≠L→listed.getD L false=false→S w')∧AnyG P md ops Q S L fuel (listed.setIfInBounds j true) a' w') a w):AnyG P md ops Q S L (fuel+1) listed a w:=
 ⟨fun h0=>(by rw [hr] at h0;cases h0),fun k hk=>by
  rw [hr] at hk
  simp only [List.mem_cons,List.not_mem_nil,or_false] at hk
  rcases hk with rfl | rfl
  ·exact h1
  ·exact h2⟩
theorem AnyG_three{i j k:Nat}{fuel:Nat}{listed:Array Bool}{a:Act}{w:World}(hr:Region.ready md ops listed=[i,j,k])
  (h1:wpOp P ops Q i (fun a' w'=>(i≠L→listed.getD L false=false→S w')∧AnyG P md ops Q S L fuel (listed.setIfInBounds i true) a' w') a w)
  (h2:wpOp P ops Q j (fun a' w'=>(j≠L→listed.getD L false=false→S w')∧AnyG P md ops Q S L fuel (listed.setIfInBounds j true) a' w') a w)
  (h3:wpOp P ops Q k (fun a' w'=>(k≠L→listed.getD L false=false→S w')∧AnyG P md ops Q S L fuel (listed.setIfInBounds k true) a' w') a w):AnyG P md ops Q S L (fuel+1) listed a w:=
 ⟨fun h0=>(by rw [hr] at h0;cases h0),fun m hm=>by
  rw [hr] at hm
  simp only [List.mem_cons,List.not_mem_nil,or_false] at hm
  rcases hm with rfl | rfl | rfl
  ·exact h1
  ·exact h2
  ·exact h3⟩
theorem AnyG_done{listed:Array Bool}{a:Act}{w:World}(hr:Region.ready md ops listed=[])(h:Q .normal a w):∀ fuel,AnyG P md ops Q S L fuel listed a w
 | 0=>⟨hr,h⟩
 | _+1=>⟨fun _=>h,by rw [hr];simp⟩
theorem wp_region_g{id:Nat}{a:Act}{w:World}(S:World→Prop)(L:Nat)(hm:P.follows .mixedOrders=true)
  (h:AnyG P .any ops Q S L ops.size (Array.replicate ops.size false) a w.drew):(Code.region id ops true).wp P Q a w:=
 wp_region_any hm (any_of_g _ _ _ _ h)
theorem wpOp_of{i:Nat}{o:Oper}{K:Act→World→Prop}{a:Act}{w:World}(hi:ops[i]? = some o)(hg:o.guard=none)(h:o.wp P a w K Q):wpOp P ops Q i K a w:=by
 unfold wpOp
 simp only [hi,Region.wanted,hg,if_true]
 exact .inl h
end
end Go.Proofs.YtcnmhgblbikfkaaGreatDoor.As
end

section
set_option linter.unusedVariables false
namespace Go.Proofs.YtcnmhgblbikfkaaGreatDoor.As

def Ts.pend(s:Ts):Nat:=(s.bufs.map List.length).sum
def Ts.okB(s:Ts):Prop:=∀ (j:Nat) q,s.bufs[j]? = some q→∀ e∈q,e.1 < s.mem.length
theorem sum_set:∀ (l:List (List (Nat×Int))) (t:Nat) (q q':List (Nat×Int)),l[t]? = some q→((l.set t q').map List.length).sum+q.length=(l.map List.length).sum+q'.length
 | [],t,q,q',h=>by simp at h
 | a::l,0,q,q',h=>by
  simp only [List.getElem?_cons_zero,Option.some.injEq] at h
  subst h
  simp;omega
 | a::l,t+1,q,q',h=>by
  have:=sum_set l t q q' (by simpa using h)
  simp only [List.set_cons_succ,List.map_cons,List.sum_cons]
  omega
theorem Ts.buf_get{s:Ts}{t:Nat}(h:t < s.bufs.length):s.bufs[t]? = some (s.buf t):=by
 unfold Ts.buf
 rw [List.getD_eq_getElem?_getD,List.getElem?_eq_getElem h]
 rfl
structure Ts.Same(s s':Ts):Prop where
 nb:s'.bufs.length=s.bufs.length
 nm:s'.mem.length=s.mem.length
 ths:s'.ths=s.ths
 room:s'.room=s.room
 slp:s'.slp=s.slp
 ok:s.okB→s'.okB
 n:s'.evs.length+s'.pend=s.evs.length+s.pend
theorem Ts.Same.refl(s:Ts):Ts.Same s s:=⟨rfl,rfl,rfl,rfl,rfl,id,rfl⟩
theorem Ts.Same.trans{a b c:Ts}(h:Ts.Same a b)(k:Ts.Same b c):Ts.Same a c:=⟨k.nb.trans h.nb,k.nm.trans h.nm,k.ths.trans h.ths,k.room.trans h.room,k.slp.trans h.slp,k.ok ∘ h.ok,k.n.trans h.n⟩
theorem Ts.flush_same(s:Ts)(t:Nat)(h:t < s.bufs.length):Ts.Same s (s.flush t):=by
 have hg:=Ts.buf_get h
 unfold Ts.flush
 generalize s.buf t=q at hg
 cases q with
 | nil=>exact Ts.Same.refl s
 | cons e r=>
  refine⟨by simp [Ts.note],by simp [Ts.note],rfl,rfl,rfl,fun ok j q' hj x hx=>?_,?_⟩
  ·have hj':(s.bufs.set t r)[j]? = some q':=hj
   have hl:(Ts.note t { s with bufs:=s.bufs.set t r,mem:=s.mem.set e.1 e.2 } ⟨3,0,0,e.1,e.2,0,0,false⟩).mem.length=s.mem.length:=by simp [Ts.note]
   rw [hl]
   rw [List.getElem?_set] at hj'
   by_cases q0:t=j
   ·subst q0
    rw [if_pos rfl,if_pos h] at hj'
    injection hj' with hj'
    subst hj'
    exact ok t _ hg x (List.mem_cons_of_mem _ hx)
   ·rw [if_neg q0] at hj'
    exact ok j q' hj' x hx
  ·have:=sum_set s.bufs t _ r hg
   simp only [Ts.note,Ts.pend,List.length_append,List.length_cons,List.length_nil] at this ⊢
   omega
theorem Ts.flush_buf(s:Ts)(t:Nat)(h:t < s.bufs.length):(s.flush t).buf t=(s.buf t).tail:=by
 unfold Ts.flush
 cases hq:s.buf t with
 | nil=>exact hq
 | cons e r=>
  unfold Ts.buf Ts.note
  simp [List.getD_eq_getElem?_getD,h]
theorem Ts.drain_same(t:Nat):∀ (n:Nat) (s:Ts),t < s.bufs.length→Ts.Same s (Ts.drain t n s)
 | 0,s,_=>Ts.Same.refl s
 | n+1,s,h=>(s.flush_same t h).trans (Ts.drain_same t n _ (by rw [(s.flush_same t h).nb];exact h))
theorem Ts.remoteFrom_same:∀ (n t:Nat) (s:Ts),t+n≤s.bufs.length→Ts.Same s (Ts.remoteFrom n t s)
 | 0,_,s,_=>Ts.Same.refl s
 | n+1,t,s,h=>by
  have h1:=Ts.drain_same t (s.buf t).length s (by omega)
  exact h1.trans (Ts.remoteFrom_same n (t+1) _ (by rw [h1.nb];omega))
theorem Ts.remote_same(s:Ts):Ts.Same s s.remote:=Ts.remoteFrom_same _ _ s (by omega)
end Go.Proofs.YtcnmhgblbikfkaaGreatDoor.As
end

section
set_option linter.unusedVariables false
namespace Go.Proofs.YtcnmhgblbikfkaaGreatDoor.As

def Ts.stepT(codes:List (List Ins))(s:Ts)(t:Nat):Option Ts:=
 match s.ths[t]?,codes[t]? with
 | some th,some L=>(stepI (tsP t) L th s).map fun q=>{ q.2 with ths:=q.2.ths.set t q.1 }
 | _,_=>none
def Ts.pick(codes:List (List Ins))(s:Ts)(p:Nat×Nat):Option Ts:=
 if s.ths.length≤p.2 then some s
 else if p.1=0 then s.stepT codes p.2
 else if p.1=1 then some (s.flush p.2)
 else if s.slp=[] then some s else none
def Ts.run(codes:List (List Ins)):Ts→List (Nat×Nat)→Option Ts
 | s,[]=>some s
 | s,p::r=>(s.pick codes p).bind fun s'=>Ts.run codes s' r
theorem Ts.run_app(codes:List (List Ins)):∀ (l r:List (Nat×Nat)) (s:Ts),Ts.run codes s (l++r)=(Ts.run codes s l).bind fun s'=>Ts.run codes s' r
 | [],r,s=>rfl
 | p::l,r,s=>by
  rw [List.cons_append,Ts.run,Ts.run]
  cases s.pick codes p with
  | none=>rfl
  | some s'=>exact Ts.run_app codes l r s'
theorem Ts.run_snoc(codes:List (List Ins))(l:List (Nat×Nat))(p:Nat×Nat)(s s':Ts)(h:Ts.run codes s l=some s'):Ts.run codes s (l++[p])=s'.pick codes p:=by
 rw [Ts.run_app,h]
 show (s'.pick codes p).bind (fun x=>some x)=_
 cases s'.pick codes p<;>rfl
theorem Ts.run_inv{codes:List (List Ins)}{I:Ts→Prop}(ok:Nat×Nat→Prop)(step:∀ s p,ok p→I s→∃ s',s.pick codes p=some s'∧I s'):∀ (l:List (Nat×Nat)) (s:Ts),(∀ p∈l,ok p)→I s→∃ s',Ts.run codes s l=some s'∧I s'
 | [],s,_,h=>⟨s,rfl,h⟩
 | p::l,s,hl,h=>by
  obtain⟨s1,h1,i1⟩:=step s p (hl p (by simp)) h
  obtain⟨s2,h2,i2⟩:=Ts.run_inv ok step l s1 (fun q hq=>hl q (by simp [hq])) i1
  exact⟨s2,by rw [Ts.run,h1];exact h2,i2⟩
def pickB(b:Nat):Nat×Nat:=(b / 8 % 3,b % 8)

/-! ### Rounds -/
def movI(by_:Nat)(i:Ins):Ins:=if jumps i.op then { i with k:=wr32 (i.k+by_) } else i
theorem movI_op(b:Nat)(i:Ins):(movI b i).op=i.op:=by unfold movI;split<;>rfl
theorem movI_plain{i:Ins}(h:jumps i.op=false)(b:Nat):movI b i=i:=by unfold movI;rw [h];rfl
theorem movI_jump{i:Ins}(h:jumps i.op=true)(b:Nat):movI b i={ i with k:=wr32 (i.k+b) }:=by unfold movI;rw [h];rfl
theorem wr32_add(a b c:Int):wr32 (wr32 (a+b)+c)=wr32 (a+(b+c)):=by unfold wr32;omega
theorem movI_movI(a b:Nat)(i:Ins):movI a (movI b i)=movI (b+a) i:=by
 by_cases h:jumps i.op=true
 ·rw [movI_jump h b,movI_jump (b:=b+a) h,movI_jump (i:={ i with k:=wr32 (i.k+b) }) h]
  show (⟨_,_,_,_,_⟩:Ins)=_
  rw [wr32_add]
  have:((b+a:Nat):Int)=(b:Int)+(a:Int):=by omega
  rw [this]
 ·have h:jumps i.op=false:=by simpa using h
  rw [movI_plain h,movI_plain h,movI_plain h]
def addR(l:List Ins)(k:Int)(code:List Ins):List Ins:=l++[⟨27,7,0,0,k⟩]++code.map (movI (l.length+1))++[⟨27,7,0,0,k+1⟩]
def incR:List Ins:=[⟨16,1,8,0,0⟩,⟨1,2,0,0,1⟩,⟨3,1,1,2,0⟩,⟨17,1,8,0,0⟩]
def roundR(a b l:List Ins):List Ins:=addR (addR l 0 a++incR) 2 b
def roundsR(a b:List Ins):Nat→List Ins→List Ins
 | 0,l=>l
 | n+1,l=>roundsR a b n (roundR a b l)
def baseR(a b:List Ins):List Ins:=roundR a b []
theorem baseR_eq(a b:List Ins):baseR a b=[⟨27,7,0,0,0⟩]++a.map (movI 1)++[⟨27,7,0,0,1⟩]++incR++[⟨27,7,0,0,2⟩]++b.map (movI (a.length+7))++[⟨27,7,0,0,3⟩]:=by
 unfold baseR roundR addR
 simp [incR]
theorem roundR_eq(a b l:List Ins):roundR a b l=l++(baseR a b).map (movI l.length):=by
 have hm:∀ k,movI l.length ⟨27,7,0,0,k⟩=⟨27,7,0,0,k⟩:=fun k=>movI_plain rfl _
 have hi:incR.map (movI l.length)=incR:=by
  unfold incR
  simp only [List.map_cons,List.map_nil]
  rw [movI_plain rfl,movI_plain rfl,movI_plain rfl,movI_plain rfl]
 have hc:∀ (c:List Ins) (x:Nat),(c.map (movI x)).map (movI l.length)=c.map (movI (x+l.length)):=fun c x=>by
  rw [List.map_map]
  exact List.map_congr_left (fun i _=>movI_movI _ _ _)
 rw [baseR_eq]
 simp only [List.map_append,hc,hi,List.map_cons,List.map_nil,hm]
 unfold roundR addR
 have e1:1+l.length=l.length+1:=by omega
 have e2:(l++[(⟨27,7,0,0,0⟩:Ins)]++a.map (movI (l.length+1))++[(⟨27,7,0,0,0+1⟩:Ins)]++incR).length+1=a.length+7+l.length:=by
  simp [incR];omega
 rw [e1,e2]
 simp
theorem baseR_len(a b:List Ins):(baseR a b).length=a.length+b.length+8:=by
 rw [baseR_eq];simp [incR];omega
theorem roundsR_len(a b:List Ins):∀ (n:Nat) (l:List Ins),(roundsR a b n l).length=l.length+n*(baseR a b).length
 | 0,l=>by simp [roundsR]
 | n+1,l=>by
  rw [roundsR,roundsR_len a b n,roundR_eq,List.length_append,List.length_map,Nat.succ_mul];omega
theorem roundsR_old(a b:List Ins):∀ (n:Nat) (l:List Ins) (i:Nat),i < l.length→(roundsR a b n l)[i]? = l[i]?
 | 0,l,i,h=>rfl
 | n+1,l,i,h=>by
  rw [roundsR,roundsR_old a b n _ i (by rw [roundR_eq,List.length_append];omega),roundR_eq,List.getElem?_append_left h]
theorem roundsR_get(a b:List Ins):∀ (n:Nat) (l:List Ins) (p j:Nat),p < n→j < (baseR a b).length→(roundsR a b n l)[l.length+p*(baseR a b).length+j]? = ((baseR a b)[j]?).map (movI (l.length+p*(baseR a b).length))
 | 0,l,p,j,h,_=>by omega
 | n+1,l,p,j,h,hj=>by
  have hl:(roundR a b l).length=l.length+(baseR a b).length:=by rw [roundR_eq,List.length_append,List.length_map]
  cases p with
  | zero=>
   rw [roundsR,roundsR_old a b n _ _ (by rw [hl];omega),roundR_eq,Nat.zero_mul,Nat.add_zero,List.getElem?_append_right (by omega),List.getElem?_map]
   rw [show l.length+j - l.length=j by omega]
  | succ p=>
   have ih:=roundsR_get a b n (roundR a b l) p j (by omega) hj
   rw [hl] at ih
   have e:l.length+(p+1)*(baseR a b).length=l.length+(baseR a b).length+p*(baseR a b).length:=by rw [Nat.succ_mul];omega
   rw [roundsR,e]
   exact ih
end Go.Proofs.YtcnmhgblbikfkaaGreatDoor.As
end

section
set_option linter.unusedVariables false
set_option linter.unusedSimpArgs false
set_option maxRecDepth 20000
namespace Go.Proofs.YtcnmhgblbikfkaaGreatDoor.As.T
open Go.RowKit

structure LRow(w:World)(lb base:Nat)(lv:Value)(L:List Ins):Prop where
 hb:w.heap[lb]? = some (.cells #[lv] 29 (0,0))
 ho:w.ownsRow base 132 5 lv L.length (flat L)
 ne:lv.ownBlock≠some lb
 le:base≤w.heap.size
def LGrow(w:World)(lb base:Nat)(lv:Value)(w':World)(L':List Ins):Prop:=
 ∃ lv',LRow w' lb base lv' L'∧Only (fun k=>k=lb∨lv.ownBlock=some k) w w'∧∀ k,lv'.ownBlock=some k→lv.ownBlock=some k∨w.heap.size≤k
theorem LRow.app{W0 W1 W2:World}{lb base g c n':Nat}{lv:Value}{L L':List Ins}(h:LRow W0 lb base lv L)(h1:Only (fun _=>False) W0 W1)(ho2:W2.ownsRow base 132 5 (.slice (some ⟨g,0,none⟩) n' c) n' (flat L'))(hn:n'=L'.length)(hgr:W1.grownBy W2 lv.ownBlock)(hat:lv.ownBlock=some g∨g=W1.heap.size):
  LRow (W2.setCell ⟨lb,0,none⟩ (.slice (some ⟨g,0,none⟩) n' c)) lb base (.slice (some ⟨g,0,none⟩) n' c) L'∧Only (fun k=>k=lb∨lv.ownBlock=some k) W0 (W2.setCell ⟨lb,0,none⟩ (.slice (some ⟨g,0,none⟩) n' c))∧∀ k,(Value.slice (some ⟨g,0,none⟩) n' c).ownBlock=some k→lv.ownBlock=some k∨W0.heap.size≤k:=by
 subst hn
 have hl:lb < W0.heap.size:=(Array.getElem?_eq_some_iff.1 h.hb).1
 have hO2:Only (fun k=>lv.ownBlock=some k) W1 W2:=⟨hgr.os,hgr.tape,hgr.output,hgr.size,fun k hk hn=>hgr.block k hk (fun e=>hn e.symm)⟩
 have hO3:Only (fun k=>k=lb) W2 (W2.setCell ⟨lb,0,none⟩ (.slice (some ⟨g,0,none⟩) L'.length c)):=Only.set1 (F:=fun k=>k=lb) (p:=⟨lb,0,none⟩) (Only.refl _ _) rfl _
 have hO02:Only (fun k=>lv.ownBlock=some k) W0 W2:=by
  refine⟨hO2.os.trans h1.os,hO2.tape.trans h1.tape,hO2.output.trans h1.output,Nat.le_trans h1.size hO2.size,fun k hk hn=>?_⟩
  exact (hO2.block k (Nat.lt_of_lt_of_le hk h1.size) hn).trans (h1.block k hk (fun e=>e))
 have hg:g≠lb:=by
  rcases hat with e | e
  ·intro e2;subst e2;exact h.ne e
  ·have:=h1.size;omega
 have e2:W2.heap[lb]? = some (.cells #[lv] 29 (0,0)):=(hO02.block lb hl h.ne).trans h.hb
 refine⟨⟨?_,own_only ho2 hO3 (fun k e f=>?_),?_,Nat.le_trans h.le (Nat.le_trans hO02.size hO3.size)⟩,?_,fun k e=>?_⟩
 ·refine (heap_setCell_same _ lb 0 _ _ _ e2).trans ?_
  rfl
 ·have:=own_eq e;omega
 ·intro e;exact hg (own_eq e)
 ·refine⟨hO3.os.trans hO02.os,hO3.tape.trans hO02.tape,hO3.output.trans hO02.output,Nat.le_trans hO02.size hO3.size,fun k hk hn=>?_⟩
  exact (hO3.block k (Nat.lt_of_lt_of_le hk hO02.size) (fun e=>hn (.inl e))).trans (hO02.block k hk (fun e=>hn (.inr e)))
 ·have e3:=own_eq e
  subst e3
  rcases hat with e4 | e4
  ·exact .inl e4
  ·right;have:=h1.size;omega
theorem LRow.mid{W0 W1 W2:World}{lb base:Nat}{lv:Value}{L:List Ins}(h:LRow W0 lb base lv L)(h1:Only (fun _=>False) W0 W1)(hgr:W1.grownBy W2 lv.ownBlock):W2.cell? ⟨lb,0,none⟩=some lv∧W2.frozen? ⟨lb,0,none⟩=false:=by
 have hl:lb < W0.heap.size:=(Array.getElem?_eq_some_iff.1 h.hb).1
 have e2:W2.heap[lb]? = some (.cells #[lv] 29 (0,0)):=(hgr.block lb (Nat.lt_of_lt_of_le hl h1.size) (fun e=>h.ne e.symm)).trans ((h1.block lb hl (fun e=>e)).trans h.hb)
 exact⟨cell_of_row _ _ 0 _ _ _ e2,frozen_of_row _ _ _ _ _ e2⟩
theorem LGrow.trans{w w1 w2:World}{lb base:Nat}{lv lv1:Value}{L1 L2:List Ins}(h1:LRow w1 lb base lv1 L1)(o1:Only (fun k=>k=lb∨lv.ownBlock=some k) w w1)(f1:∀ k,lv1.ownBlock=some k→lv.ownBlock=some k∨w.heap.size≤k)(h2:LGrow w1 lb base lv1 w2 L2):LGrow w lb base lv w2 L2:=by
 obtain⟨lv2,r,o,f⟩:=h2
 refine⟨lv2,r,?_,fun k e=>?_⟩
 ·refine⟨o.os.trans o1.os,o.tape.trans o1.tape,o.output.trans o1.output,Nat.le_trans o1.size o.size,fun k hk hn=>?_⟩
  refine (o.block k (Nat.lt_of_lt_of_le hk o1.size) (fun e=>?_)).trans (o1.block k hk hn)
  rcases e with e | e
  ·exact hn (.inl e)
  ·rcases f1 k e with e | e
   ·exact hn (.inr e)
   ·omega
 ·rcases f k e with e | e
  ·exact f1 k e
  ·right;have:=o1.size;omega
theorem LRow.only{F:Nat→Prop}{w w':World}{lb base:Nat}{lv:Value}{L:List Ins}(h:LRow w lb base lv L)(ho:Only F w w')(hF:∀ k,F k→k≠lb∧lv.ownBlock≠some k):LRow w' lb base lv L:=
 ⟨(ho.block lb (Array.getElem?_eq_some_iff.1 h.hb).1 (fun e=>(hF _ e).1 rfl)).trans h.hb,own_only h.ho ho (fun k e f=>(hF k f).2 e),h.ne,Nat.le_trans h.le ho.size⟩
theorem movedI_map(l:List Ins)(n:Nat):movedI l n=l.map (movI n):=by
 unfold movedI
 refine List.map_congr_left (fun i _=>?_)
 unfold movI
 by_cases h:jumpsI i.op
 ·rw [if_pos h,if_pos ((jumps_iff _).2 h)]
 ·rw [if_neg h,if_neg (fun e=>h ((jumps_iff _).1 e))]
theorem flat_app(a b:List Ins):flat (a++b)=flat a++flat b:=by simp [flat]
def FlatB(w:World)(g:Nat)(c:List Ins):Prop:=g < w.heap.size∧∀ j u,(flat c)[j]? = some u→w.cell? ⟨g,j,none⟩=some u
theorem FlatB.only{F:Nat→Prop}{w w':World}{g:Nat}{c:List Ins}(h:FlatB w g c)(ho:Only F w w')(hF:¬F g):FlatB w' g c:=
 ⟨Nat.lt_of_lt_of_le h.1 ho.size,fun j u hu=>(World.cell?_of_block (w:=w) (a:=⟨g,j,none⟩) (ho.block g h.1 hF)).trans (h.2 j u hu)⟩
theorem FlatB.own{w:World}{g n c base:Nat}{L:List Ins}(h:w.ownsRow base 132 5 (.slice (some ⟨g,0,none⟩) n c) n (flat L)):FlatB w g L:=
 ⟨(h.lt g rfl).2,fun j u hu=>by
  have:=h.cells (g:=g) rfl j u hu
  rwa [add_at,Nat.zero_add] at this⟩
theorem addR_len(l:List Ins)(k:Int)(c:List Ins):(addR l k c).length=l.length+c.length+2:=by
 unfold addR
 rw [List.length_append,List.length_append,List.length_append,List.length_map]
 show l.length+1+c.length+1=_
 omega
theorem FlatB.ins{w:World}{g cap:Nat}{c:List Ins}(h:FlatB w g c):InS w (.slice (some ⟨g,0,none⟩) c.length cap) c.length c:=
 ⟨rfl,_,_,rfl,fun _=>⟨g,0,rfl,h.1,fun j u hu=>by rw [Nat.zero_add];exact h.2 j u hu⟩⟩
set_option maxHeartbeats 8000000 in
theorem add_any(w:World)(TI:TabI w)(lb base:Nat)(lv:Value)(L c:List Ins)(k:Int)(hk:0≤k∧k≤1000)(gc cc:Nat)(h:LRow w lb base lv L)(hc:FlatB w gc c)(h1:gc≠lb)(h2:lv.ownBlock≠some gc)(hc0:0 < c.length)(hcl:c.length≤3000)(hLl:L.length≤50000)(hck:∀ x∈c,0≤x.k∧x.k≤4294967295)(hlb:base≤lb)(hNI:∀ k,base≤k→NoI k):
  Calls Tryz.prog 125 #[.int .u32 k,.slice (some ⟨gc,0,none⟩) c.length cc,.pointer (some ⟨lb,0,none⟩)] w fun e w'=>e=.returned (.tuple #[])∧LGrow w lb base lv w' (addR L k c):=by
 obtain⟨i0,hi,hz0,hz1,hz2⟩:=info_parts infoI
 have H:=Lib.hid h
 have q0:∀ X,(w.alloc X).cell? ⟨lb,0,none⟩=some lv:=fun X=>(Below.cell ((Below.refl w.heap.size w).alloc (Nat.le_refl _) X) (Array.getElem?_eq_some_iff.1 h.hb).1).trans (cell_of_row _ _ 0 _ _ _ h.hb)
 have q1:w.cell? ⟨lb,0,none⟩=some lv:=cell_of_row _ _ 0 _ _ _ h.hb
 have hxo:∀ (W:World) X,Only (fun _=>False) W (W.alloc X):=fun W X=>⟨rfl,rfl,rfl,by simp,fun k hk _=>Below.heap_alloc _ _ _ hk⟩
 have HXO:=Lib.hid hxo
 have HC:=Lib.hid hc
 clear h hc hxo
 go_enter Tryz.func125,Tryz.ntmps125
 go_wp2_with (at_builtin;go_must (refine wpList_append_lies _ rfl (.tmp 5) (.tmp 8) 29 rfl base 132 i0 _ 5 40 Tryz.underlying29 hi hz0 hz1 hz2 rfl (by decide) lv L.length (flat L) rfl (own_only H.out.ho (HXO.out _ _) (fun _ _ f=>f)) ⟨w.heap.size,0,none⟩ 1 1 [.int .i64 27,.int .i64 7,.int .i64 0,.int .i64 0,.int .u32 k] rfl rfl (World.news_of_block (heap_alloc_new _ _)) (by simp [Value.oneCell']) (by decide) (by unfold maxLen;omega) (by omega) (by have:=H.out.le;simp;omega) _ rfl ?_;intro g1 p1 w1 ho1 hgr1 hat1 hlt1;have HG:=Lib.hid (H.out.app (L':=L++[⟨27,7,0,0,k⟩]) (HXO.out _ _) (by rw [flat_app];exact ho1) (by simp) hgr1 hat1);obtain⟨c1,f1⟩:=H.out.mid (HXO.out _ _) hgr1;clear ho1 hgr1 hat1 hlt1))
 obtain⟨R1,O1,F1⟩:=HG.out
 have R1:=Lib.hid R1
 have O1:=Lib.hid O1
 have F1:=Lib.hid F1
 clear HG c1 f1 q0 q1
 generalize (w1.setCell ⟨lb,0,none⟩ (.slice (some ⟨g1,0,none⟩) (L.length+1) p1))=w2 at *
 have hl1:(L++[(⟨27,7,0,0,k⟩:Ins)]).length=L.length+1:=by simp
 have b0:w2.drew.cell? ⟨lb,0,none⟩=some (.slice (some ⟨g1,0,none⟩) (L.length+1) p1):=cell_of_row _ _ 0 _ _ _ R1.out.hb
 have R1:Hid (LRow w2.drew lb base (.slice (some ⟨g1,0,none⟩) (L.length+1) p1) (L++[⟨27,7,0,0,k⟩])):=Lib.hid (R1.out.only (F:=fun _=>False) ⟨rfl,rfl,rfl,Nat.le_refl _,fun _ _ _=>rfl⟩ (fun _ e=>e.elim))
 have O1:Hid (Only (fun k=>k=lb∨lv.ownBlock=some k) w w2.drew):=Lib.hid ⟨O1.out.os,O1.out.tape,O1.out.output,O1.out.size,O1.out.block⟩
 have hF2:=HC.out.only O1.out (by rintro (e | e);exact h1 e;exact h2 e)
 have hT2:TabI w2.drew:=TI.only O1.out (by
  rintro j (rfl | e)
  ·exact hNI _ hlb
  ·exact hNI _ (H.out.ho.lt j e).1)
 refine wp_region_g (fun W=>W.cell? ⟨lb,0,none⟩=some (.slice (some ⟨g1,0,none⟩) (L.length+1) p1)) 6 (by kernel_rfl) ?_
 generalize w2.drew=wd at *
 refine AnyG_take (i:=0) (oi:=_) (v:=?_) rfl (by kernel_rfl) (fun _ _ _ h=>h) (Or.inl ⟨by rfl,?_⟩) b0 ?_
 rotate_left
 ·intro W hSw;(try dsimp only at hSw);go_simp;first | done | with_reducible rfl
 simp only [Act.put,List.getElem_toArray,List.getElem_cons_zero,List.getElem_cons_succ,List.setIfInBounds_toArray,List.set_cons_zero,List.set_cons_succ]
 refine AnyG_take (i:=1) (oi:=_) (v:=?_) rfl (by kernel_rfl) (fun _ _ _ h=>h) (Or.inl ⟨by rfl,?_⟩) b0 ?_
 rotate_left
 ·intro W hSw;(try dsimp only at hSw);go_simp;first | done | with_reducible rfl
 simp only [Act.put,List.getElem_toArray,List.getElem_cons_zero,List.getElem_cons_succ,List.setIfInBounds_toArray,List.set_cons_zero,List.set_cons_succ]
 refine AnyG_take (i:=2) (oi:=_) (v:=?_) rfl (by kernel_rfl) (fun _ _ _ h=>h) (Or.inl ⟨by rfl,?_⟩) b0 ?_
 rotate_left
 ·intro W hSw;(try dsimp only at hSw);go_simp;first | done | with_reducible rfl
 simp only [Act.put,List.getElem_toArray,List.getElem_cons_zero,List.getElem_cons_succ,List.setIfInBounds_toArray,List.set_cons_zero,List.set_cons_succ]
 refine AnyG_take (i:=3) (oi:=_) (v:=?_) rfl (by kernel_rfl) (fun _ _ _ h=>h) (Or.inl ⟨by rfl,?_⟩) b0 ?_
 rotate_left
 ·intro W hSw;(try dsimp only at hSw);go_simp;first | done | with_reducible rfl
 simp only [Act.put,List.getElem_toArray,List.getElem_cons_zero,List.getElem_cons_succ,List.setIfInBounds_toArray,List.set_cons_zero,List.set_cons_succ]
 have HI2:Hid (InS wd (.slice (some ⟨gc,0,none⟩) c.length cc) c.length c):=Lib.hid hF2.ins
 have HT2:=Lib.hid hT2
 clear hF2 hT2
 refine AnyG_one (i:=4) rfl (by kernel_rfl) ?_
 refine wpOp_of rfl rfl ?_
 try simp only [Act.put,List.getElem_toArray,List.getElem_cons_zero,List.getElem_cons_succ,List.setIfInBounds_toArray,List.set_cons_zero,List.set_cons_succ]
 go_simp
 have hmv:=moved_any wd HT2.out (L.length+1) (by omega) _ _ _ HI2.out hcl hck
 rw [show (((L.length+1:Nat):Int))=(L.length:Int)+1 by omega] at hmv
 refine hmv.mono ?_
 clear hmv
 rintro r w3 ⟨u3,rfl,ho3,hb3⟩
 obtain⟨g3,p3,rfl⟩:=own_form ho3 hc0
 have R3:Hid (LRow w3 lb base (.slice (some ⟨g1,0,none⟩) (L.length+1) p1) (L++[⟨27,7,0,0,k⟩])):=Lib.hid (R1.out.only (Only.of_below (F:=fun _=>False) hb3 (Nat.le_refl _)) (fun _ e=>e.elim))
 have O3:Hid (Only (fun k=>k=lb∨lv.ownBlock=some k) w w3):=Lib.hid (O1.out.trans (Only.of_below (F:=fun _=>False) hb3 (Nat.le_refl _)) (fun _ e=>e.elim))
 have b3:w3.cell? ⟨lb,0,none⟩=some (.slice (some ⟨g1,0,none⟩) (L.length+1) p1):=cell_of_row _ _ 0 _ _ _ R3.out.hb
 have HO3:=Lib.hid ho3
 clear R1 O1 HI2 HT2 ho3 hb3 b0
 refine⟨b3,?_⟩
 try simp only [Act.put,List.getElem_toArray,List.getElem_cons_zero,List.getElem_cons_succ,List.setIfInBounds_toArray,List.set_cons_zero,List.set_cons_succ]
 refine AnyG_one (i:=5) rfl (by kernel_rfl) ?_
 refine wpOp_of rfl rfl ?_
 try simp only [Act.put,List.getElem_toArray,List.getElem_cons_zero,List.getElem_cons_succ,List.setIfInBounds_toArray,List.set_cons_zero,List.set_cons_succ]
 refine wp_append_lies _ (.tmp 10) (.tmp 14) 29 (by rfl) base 132 i0 _ 5 40 Tryz.underlying29 hi hz0 hz1 hz2 rfl (by decide) (.slice (some ⟨g1,0,none⟩) (L.length+1) p1) (L.length+1) (flat (L++[⟨27,7,0,0,k⟩])) (by rfl) (hl1 ▸ R3.out.ho) ⟨g3,0,none⟩ c.length p3 (flat (movedI c (L.length+1))) (by rfl) (by rw [flat_len];simp [movedI]) (fun q u hu=>HO3.out.cells (g:=g3) rfl q u hu) (one_flat _) hc0 (by unfold maxLen;omega) (by omega) R3.out.le _ rfl ?_
 intro g4 p4 w4 ho4 hgr4 hat4 hlt4
 have HG:=Lib.hid (R3.out.app (L':=L++[⟨27,7,0,0,k⟩]++movedI c (L.length+1)) (Only.refl (fun _=>False) w3) (by rw [flat_app];exact ho4) (by simp [movedI];omega) hgr4 hat4)
 obtain⟨c4,f4⟩:=R3.out.mid (Only.refl (fun _=>False) w3) hgr4
 clear ho4 hgr4 hat4 hlt4
 refine⟨fun _ _=>c4,?_⟩
 try simp only [Act.put,List.getElem_toArray,List.getElem_cons_zero,List.getElem_cons_succ,List.setIfInBounds_toArray,List.set_cons_zero,List.set_cons_succ]
 refine AnyG_one (i:=6) rfl (by kernel_rfl) ?_
 refine wpOp_of rfl rfl ?_
 try simp only [Act.put,List.getElem_toArray,List.getElem_cons_zero,List.getElem_cons_succ,List.setIfInBounds_toArray,List.set_cons_zero,List.set_cons_succ]
 go_simp
 try simp only [Act.put,List.getElem_toArray,List.getElem_cons_zero,List.getElem_cons_succ,List.setIfInBounds_toArray,List.set_cons_zero,List.set_cons_succ]
 refine AnyG_done (by kernel_rfl) ?_ _
 obtain⟨R4,O4,F4⟩:=HG.out
 have R4:=Lib.hid R4
 have O4:Hid (Only (fun k=>k=lb∨lv.ownBlock=some k) w (w4.setCell ⟨lb,0,none⟩ (.slice (some ⟨g4,0,none⟩) (L.length+1+c.length) p4))):=Lib.hid (O3.out.trans O4 (fun k e=>by
  rcases e with e | e
  ·exact .inl (.inl e)
  ·rcases F1.out k e with e | e
   ·exact .inl (.inr e)
   ·exact .inr e))
 have F4:Hid (∀ k,(Value.slice (some ⟨g4,0,none⟩) (L.length+1+c.length) p4).ownBlock=some k→lv.ownBlock=some k∨w.heap.size≤k):=Lib.hid (fun k e=>by
  rcases F4 k e with e | e
  ·exact F1.out k e
  ·right;have:=O3.out.size;omega)
 clear HG c4 f4 R3 O3 F1 b3 HO3
 generalize (w4.setCell ⟨lb,0,none⟩ (.slice (some ⟨g4,0,none⟩) (L.length+1+c.length) p4))=w5 at *
 have hl4:(L++[(⟨27,7,0,0,k⟩:Ins)]++movedI c (L.length+1)).length=L.length+1+c.length:=by simp [movedI];omega
 have q1:w5.cell? ⟨lb,0,none⟩=some (.slice (some ⟨g4,0,none⟩) (L.length+1+c.length) p4):=cell_of_row _ _ 0 _ _ _ R4.out.hb
 have q0:∀ X,(w5.alloc X).cell? ⟨lb,0,none⟩=some (.slice (some ⟨g4,0,none⟩) (L.length+1+c.length) p4):=fun X=>(Below.cell ((Below.refl w5.heap.size w5).alloc (Nat.le_refl _) X) (Array.getElem?_eq_some_iff.1 R4.out.hb).1).trans q1
 have hk1:IntKind.u32.wrap (k+1)=k+1:=by rw [IntKind.wrap_u32];omega
 go_wp2_with (at_builtin;go_must (refine wpList_append_lies _ rfl (.tmp 16) (.tmp 20) 29 rfl base 132 i0 _ 5 40 Tryz.underlying29 hi hz0 hz1 hz2 rfl (by decide) (.slice (some ⟨g4,0,none⟩) (L.length+1+c.length) p4) (L.length+1+c.length) (flat (L++[⟨27,7,0,0,k⟩]++movedI c (L.length+1))) rfl (own_only (hl4 ▸ R4.out.ho) (HXO.out _ _) (fun _ _ f=>f)) ⟨w5.heap.size,0,none⟩ 1 1 [.int .i64 27,.int .i64 7,.int .i64 0,.int .i64 0,.int .u32 (k+1)] rfl rfl (World.news_of_block (heap_alloc_new _ _)) (by simp [Value.oneCell']) (by decide) (by unfold maxLen;omega) (by omega) (by have:=R4.out.le;simp;omega) _ rfl ?_;intro g6 p6 w6 ho6 hgr6 hat6 hlt6;have HG:=Lib.hid (R4.out.app (L':=L++[⟨27,7,0,0,k⟩]++movedI c (L.length+1)++[⟨27,7,0,0,k+1⟩]) (HXO.out _ _) (by rw [flat_app];exact ho6) (by rw [List.length_append,hl4];rfl) hgr6 hat6);obtain⟨c6,f6⟩:=R4.out.mid (HXO.out _ _) hgr6;clear ho6 hgr6 hat6 hlt6))
 go_end0
 refine⟨rfl,?_⟩
 have hfin:addR L k c=L++[⟨27,7,0,0,k⟩]++movedI c (L.length+1)++[⟨27,7,0,0,k+1⟩]:=by unfold addR;rw [movedI_map]
 rw [hfin]
 obtain⟨R6,O6,F6⟩:=HG.out
 exact LGrow.trans R4.out O4.out F4.out ⟨_,R6,O6,F6⟩
end Go.Proofs.YtcnmhgblbikfkaaGreatDoor.As.T
end

