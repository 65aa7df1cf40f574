/- Any step of a thread on a machine tso; what every pick keeps. The walk of a machine's Pick. The walk of a machine's Run. -/
import Derived.Test.YtcnmhgblbikfkaaGreatDoorGj
import Derived.Test.YtcnmhgblbikfkaaGreatDoorTsV
import Derived.Test.YtcnmhgblbikfkaaGreatDoorTp2
import Derived.Test.YtcnmhgblbikfkaaGreatDoorGh
import Derived.Deep.LoopGhost
section
set_option linter.unusedVariables false
set_option linter.unusedSimpArgs false
set_option maxRecDepth 20000
namespace Go.Proofs.YtcnmhgblbikfkaaGreatDoor.As.T
open Go.RowKit

def CodeB(w:World)(g:Nat)(L:List Ins):Prop:=∀ i x,L[i]? = some x→∀ j u,x.cells[j]? = some u→w.cell? ⟨g,i*5+j,none⟩=some u
theorem step_any{Z:Nat→Prop}{w:World}{K:TsK}{tn:Nat}{s:Ts}{th:Th}{q:Th×Ts}{L:List Ins}{g cap:Nat}(hM:TsM Z w K s)(T:TabI w)(hL:CodeB w g L)(hlen:L.length≤4000)(hok:∀ x∈L,okI L.length x=true)(ht:okT L.length th=true)(htn:tn < s.ths.length)(hB:s.okB)(hT:s.ths.length≤1000)(hne:s.evs.length+s.pend≤99999999999)(hml:s.mem.length≤2000)(hstep:stepI (tsP tn) L th s=some q):
  Calls Tryz.prog 107 #[.agg th.cells.toArray,.slice (some ⟨g,0,none⟩) L.length cap,.agg (portV (s.mem.length:Int) K.mb tn).toArray] w (StepPost Z w K q.1 q.2):=by
 simp only [okT,Bool.and_eq_true,decide_eq_true_eq] at ht
 obtain⟨⟨⟨p0,p1⟩,h8⟩,hw⟩:=ht
 obtain⟨pc,hpc⟩:=Int.eq_ofNat_of_zero_le p0
 obtain⟨tpc,regs,st⟩:=th
 dsimp only at p0 p1 h8 hw hpc
 subst hpc
 obtain⟨r0,r1,r2,r3,r4,r5,r6,r7,rfl⟩:=list8 h8
 by_cases h0:st=0
 ·subst h0
  by_cases hend:L.length≤pc
  ·have e:stepI (tsP tn) L ⟨(pc:Int),[r0,r1,r2,r3,r4,r5,r6,r7],0⟩ s=some (⟨(pc:Int),[r0,r1,r2,r3,r4,r5,r6,r7],2⟩,s.note tn ⟨12,0,(pc:Int),0,0,0,0,false⟩):=by
    unfold stepI
    rw [if_neg (fun h=>h rfl),if_pos (.inr (by show (L.length:Int)≤(pc:Int);omega))]
    rfl
   rw [e] at hstep
   obtain rfl:q=_:=(Option.some.inj hstep).symm
   exact step_end Z w (s.mem.length:Int) K tn s pc r0 r1 r2 r3 r4 r5 r6 r7 g L.length cap hM hend (by omega) T
  ·have hlt:pc < L.length:=by omega
   obtain⟨i,hi⟩:∃ i,L[pc]? = some i:=⟨_,List.getElem?_eq_getElem hlt⟩
   have hoki:=hok i (List.mem_of_getElem? hi)
   simp only [okI,Bool.and_eq_true] at hoki
   obtain⟨⟨hr,hk⟩,hu⟩:=hoki
   have hi2:L[(Th.mk (pc:Int) [r0,r1,r2,r3,r4,r5,r6,r7] 0).pc.toNat]? = some i:=hi
   obtain⟨ad,had,hway⟩:=way_of (w:=w) hM hr hk hu rfl hw rfl ⟨p0,by show (pc:Int) < L.length;omega⟩ hlen hi2 htn hB hT hne hstep
   exact step_ts Z w (s.mem.length:Int) K tn s pc r0 r1 r2 r3 r4 r5 r6 r7 g L.length cap i hM T (fun j u hu=>hL pc i hi j u hu) hlt (by omega) hr (wd_iff.1 hk).2 (reg_wd hw) ad had (by omega) htn hB (by omega) q.1 q.2 hway
 ·have e:stepI (tsP tn) L ⟨(pc:Int),[r0,r1,r2,r3,r4,r5,r6,r7],st⟩ s=some (⟨(pc:Int),[r0,r1,r2,r3,r4,r5,r6,r7],st⟩,s):=by
   unfold stepI
   rw [if_pos h0]
  rw [e] at hstep
  obtain rfl:q=_:=(Option.some.inj hstep).symm
  exact step_stop Z w (s.mem.length:Int) K tn s (pc:Int) st r0 r1 r2 r3 r4 r5 r6 r7 _ hM (by simpa using h0)

/-! ### What every pick keeps -/
structure OkS(codes:List (List Ins))(s:Ts):Prop where
 nb:s.bufs.length=s.ths.length
 nc:codes.length=s.ths.length
 okB:s.okB
 wm:∀ v∈s.mem,wd v=true
 wb:∀ q∈s.bufs,∀ e∈q,wd e.2=true
 wt:∀ (t:Nat) th,s.ths[t]? = some th→∃ L,codes[t]? = some L∧okT L.length th=true
 wc:∀ L∈codes,L.length≤4000∧∀ x∈L,okI L.length x=true
theorem wd_wr(x:Int):wd (wr32 x)=true:=by rw [wd_iff];unfold wr32;omega
structure OkD(s s':Ts):Prop where
 ths:s'.ths=s.ths
 nb:s'.bufs.length=s.bufs.length
 nm:s'.mem.length=s.mem.length
 room:s'.room=s.room
 okB:s.okB→s'.okB
 wm:(∀ v∈s.mem,wd v=true)→(∀ q∈s.bufs,∀ e∈q,wd e.2=true)→(∀ v∈s'.mem,wd v=true)
 wb:(∀ q∈s.bufs,∀ e∈q,wd e.2=true)→(∀ q∈s'.bufs,∀ e∈q,wd e.2=true)
theorem OkD.refl(s:Ts):OkD s s:=⟨rfl,rfl,rfl,rfl,id,fun h _=>h,id⟩
theorem OkD.trans{a b c:Ts}(h:OkD a b)(k:OkD b c):OkD a c:=⟨k.ths.trans h.ths,k.nb.trans h.nb,k.nm.trans h.nm,k.room.trans h.room,k.okB ∘ h.okB,fun m q=>k.wm (h.wm m q) (h.wb q),k.wb ∘ h.wb⟩
theorem OkD.note(s:Ts)(t:Nat)(e:Ev):OkD s (s.note t e):=⟨rfl,rfl,rfl,rfl,id,fun h _=>h,id⟩
theorem OkD.flush(s:Ts)(t:Nat)(h:t < s.bufs.length):OkD s (s.flush t):=by
 have hs:=Ts.flush_same s t h
 have hg:=Ts.buf_get h
 refine⟨hs.ths,hs.nb,hs.nm,hs.room,hs.ok,fun m b=>?_,fun b=>?_⟩
 ·unfold Ts.flush
  cases hq:s.buf t with
  | nil=>exact m
  | cons e r=>
   rw [hq] at hg
   intro v hv
   have hv2:v∈s.mem.set e.1 e.2:=hv
   rcases List.mem_or_eq_of_mem_set hv2 with h1 | h1
   ·exact m v h1
   ·rw [h1];exact b _ (List.mem_of_getElem? hg) e (by simp)
 ·unfold Ts.flush
  cases hq:s.buf t with
  | nil=>exact b
  | cons e r=>
   rw [hq] at hg
   intro q hq2
   have hq3:q∈s.bufs.set t r:=hq2
   rcases List.mem_or_eq_of_mem_set hq3 with h1 | h1
   ·exact b q h1
   ·rw [h1];exact fun x hx=>b _ (List.mem_of_getElem? hg) x (List.mem_cons_of_mem _ hx)
theorem OkD.swap(s:Ts)(a:Nat)(v:Int)(hv:wd v=true):OkD s (s.swap a v):=by
 refine⟨rfl,rfl,by unfold Ts.swap;simp,rfl,fun h=>?_,fun m _=>?_,id⟩
 ·intro j q hj e he
  have:=h j q hj e he
  unfold Ts.swap;simpa using this
 ·intro x hx
  rcases List.mem_or_eq_of_mem_set (show x∈s.mem.set a v from hx) with h1 | h1
  ·exact m x h1
  ·rw [h1];exact hv
theorem OkD.store(s:Ts)(t a:Nat)(v:Int)(ha:a < s.mem.length)(hv:wd v=true):OkD s (s.store t a v):=by
 have key:∀ q,q∈(s.store t a v).bufs→(q∈s.bufs∨(q=s.buf t++[(a,v)]∧t < s.bufs.length)):=by
  intro q hq
  have hq2:q∈s.bufs.set t (s.buf t++[(a,v)]):=hq
  by_cases hl:t < s.bufs.length
  ·rcases List.mem_or_eq_of_mem_set hq2 with h1 | h1
   ·exact .inl h1
   ·exact .inr ⟨h1,hl⟩
  ·rw [List.set_eq_of_length_le (by omega)] at hq2
   exact .inl hq2
 refine⟨rfl,by unfold Ts.store;simp,rfl,rfl,fun h j q hj e he=>?_,fun m _=>m,fun b q hq e he=>?_⟩
 ·rcases key q (List.mem_of_getElem? hj) with h1 | ⟨h1,hl⟩
  ·obtain⟨k,hk⟩:=List.getElem?_of_mem h1
   exact h k q hk e he
  ·rw [h1] at he
   rcases List.mem_append.1 he with he | he
   ·exact h t _ (Ts.buf_get hl) e he
   ·rw [List.mem_singleton.1 he];exact ha
 ·rcases key q hq with h1 | ⟨h1,hl⟩
  ·exact b q h1 e he
  ·rw [h1] at he
   rcases List.mem_append.1 he with he | he
   ·exact b _ (List.mem_of_getElem? (Ts.buf_get hl)) e he
   ·rw [List.mem_singleton.1 he];exact hv
theorem OkD.drain(t:Nat):∀ (n:Nat) (s:Ts),t < s.bufs.length→OkD s (Ts.drain t n s)
 | 0,s,_=>OkD.refl s
 | n+1,s,h=>(OkD.flush s t h).trans (OkD.drain t n _ (by rw [(OkD.flush s t h).nb];exact h))
theorem OkD.remoteFrom:∀ (n t:Nat) (s:Ts),t+n≤s.bufs.length→OkD s (Ts.remoteFrom n t s)
 | 0,_,s,_=>OkD.refl s
 | n+1,t,s,h=>by
  have h1:=OkD.drain t (s.buf t).length s (by omega)
  exact h1.trans (OkD.remoteFrom n (t+1) _ (by rw [h1.nb];omega))
theorem OkD.remote(s:Ts):OkD s s.remote:=OkD.remoteFrom _ _ s (by omega)
theorem load_wd{s:Ts}(m:∀ v∈s.mem,wd v=true)(b:∀ q∈s.bufs,∀ e∈q,wd e.2=true)(t a:Nat):wd (s.load t a)=true:=by
 unfold Ts.load
 cases h:lastQ (s.buf t) a with
 | some v=>
  show wd v=true
  unfold lastQ at h
  cases hf:(s.buf t).reverse.find? (fun e=>e.1 == a) with
  | none=>rw [hf] at h;cases h
  | some p=>
   rw [hf] at h
   have hp:p∈s.buf t:=List.mem_reverse.1 (List.mem_of_find?_eq_some hf)
   have:p.2=v:=by simpa using h
   rw [←this]
   by_cases hl:t < s.bufs.length
   ·exact b _ (List.mem_of_getElem? (Ts.buf_get hl)) p hp
   ·unfold Ts.buf at hp
    rw [List.getD_eq_getElem?_getD,List.getElem?_eq_none (by omega)] at hp
    cases hp
 | none=>
  show wd (s.mem.getD a 0)=true
  rw [List.getD_eq_getElem?_getD]
  cases h2:s.mem[a]? with
  | none=>rfl
  | some v=>exact m v (List.mem_of_getElem? h2)
theorem put_wd{t:Th}(h:t.regs.all wd=true)(a v:Int)(hv:wd v=true):(t.put a v).regs.all wd=true:=by
 rw [List.all_eq_true] at h ⊢
 intro x hx
 rcases List.mem_or_eq_of_mem_set (show x∈t.regs.set a.toNat v from hx) with h1 | h1
 ·exact h x h1
 ·rw [h1];exact hv
theorem pend_store{s:Ts}{t:Nat}(h:t < s.bufs.length)(a:Nat)(v:Int):(s.store t a v).pend=s.pend+1:=by
 have:=sum_set s.bufs t _ (s.buf t++[(a,v)]) (Ts.buf_get h)
 unfold Ts.pend Ts.store
 simp only [List.length_append,List.length_cons,List.length_nil] at this ⊢
 omega
theorem note_len(s:Ts)(t:Nat)(e:Ev):(s.note t e).evs.length+(s.note t e).pend=s.evs.length+s.pend+1:=by
 unfold Ts.note Ts.pend
 simp only [List.length_append,List.length_cons,List.length_nil]
 omega
set_option maxHeartbeats 2000000 in
theorem stepI_ok{codes:List (List Ins)}{s:Ts}{t:Nat}{th:Th}{L:List Ins}{q:Th×Ts}(h:OkS codes s)(ht:t < s.ths.length)(hLc:L∈codes)(hT:okT L.length th=true)(hst:stepI (tsP t) L th s=some q):
  OkD s q.2∧okT L.length q.1=true∧q.2.evs.length+q.2.pend≤s.evs.length+s.pend+2∧q.2.slp=s.slp:=by
 have hT0:=hT
 simp only [okT,Bool.and_eq_true,decide_eq_true_eq] at hT
 obtain⟨⟨⟨p0,p1⟩,h8⟩,hw⟩:=hT
 have hbl:t < s.bufs.length:=by rw [h.nb];exact ht
 have mk:∀ (T2:Th),T2.regs.length=8→T2.regs.all wd=true→0≤T2.pc→T2.pc≤L.length→okT L.length T2=true:=fun T2 a b c d=>by
  simp only [okT,Bool.and_eq_true,decide_eq_true_eq];exact⟨⟨⟨c,d⟩,a⟩,b⟩
 have hfl:=Ts.flush_same s t hbl
 by_cases h0:th.st=0
 ·by_cases hend:(L.length:Int)≤th.pc
  ·have e:stepI (tsP t) L th s=some ({ th with st:=2 },s.note t ⟨12,0,th.pc,0,0,0,0,false⟩):=by
    unfold stepI
    rw [if_neg (fun h=>h h0),if_pos (.inr hend)]
    rfl
   rw [e] at hst
   obtain rfl:q=_:=(Option.some.inj hst).symm
   exact⟨OkD.note _ _ _,mk _ h8 hw p0 p1,Nat.le_trans (Nat.le_of_eq (note_len s t _)) (by omega),rfl⟩
  ·obtain⟨i,hi⟩:∃ i,L[th.pc.toNat]? = some i:=⟨_,List.getElem?_eq_getElem (by omega)⟩
   have hoki:=(h.wc L hLc).2 i (List.mem_of_getElem? hi)
   simp only [okI,Bool.and_eq_true] at hoki
   obtain⟨⟨hr,hk⟩,hu⟩:=hoki
   have hop:=rightI_op hr
   rw [stepI_at h0 p0 hi] at hst
   have nx:∀ (T2:Th),T2.pc=th.pc→T2.regs.length=8→T2.regs.all wd=true→okT L.length T2.next=true:=fun T2 a b c=>mk _ b c (by show 0≤T2.pc+1;omega) (by show T2.pc+1≤_;omega)
   have hz:s.evs.length+s.pend≤s.evs.length+s.pend+2:=by omega
   generalize hA:(if asksI i.op then addrI th i else 0)=A at hst
   by_cases hns:asksI i.op∧(s.mem.length:Int)≤A
   ·rw [if_pos hns] at hst;cases hst
   rw [if_neg hns] at hst
   by_cases hnf:(drainsI i.op∧s.empty t=false)∨(i.op=17∧s.roomy t=false)
   ·rw [if_pos hnf] at hst
    obtain rfl:q=_:=(Option.some.inj hst).symm
    exact⟨OkD.flush s t hbl,hT0,Nat.le_trans (Nat.le_of_eq hfl.n) (by omega),hfl.slp⟩
   rw [if_neg hnf] at hst
   by_cases hn0:i.op=0
   ·rw [if_pos hn0] at hst
    obtain rfl:q=_:=(Option.some.inj hst).symm
    exact⟨OkD.note _ _ _,mk _ h8 hw p0 p1,Nat.le_trans (Nat.le_of_eq (note_len s t _)) (by omega),rfl⟩
   rw [if_neg hn0] at hst
   by_cases hj:jumpsI i.op
   ·rw [if_pos hj] at hst
    obtain rfl:q=_:=(Option.some.inj hst).symm
    refine⟨OkD.refl s,?_,hz,rfl⟩
    show okT L.length (if goesI i th=true then { th with pc:=i.k } else th.next)=true
    split
    ·refine mk _ h8 hw hop.2.1 ?_
     have e32:bitI (opUses.getD i.op.toNat 0) 32=true:=by rcases hj with e | e | e<;>rw [e]<;>decide
     unfold rightI at hr
     simp only [e32,if_true,Bool.and_eq_true,decide_eq_true_eq] at hr
     exact hr.2.2
    ·exact nx th rfl h8 hw
   rw [if_neg hj] at hst
   by_cases ha:asksI i.op
   ·rw [if_pos ha] at hA
    subst hA
    have hadl:¬((s.mem.length:Int)≤addrI th i):=fun e=>hns ⟨ha,e⟩
    rw [if_pos ha] at hst
    have had0:0≤addrI th i:=addrI_wd hk
    have hadn:(addrI th i).toNat < s.mem.length:=by omega
    generalize (addrI th i).toNat=ad at hst hadn
    have hl:=load_wd h.wm h.wb t ad
    have hrg:∀ j,wd (th.reg j)=true:=fun j=>wd_iff.2 (reg_wd hw j)
    have hn1:∀ e,(s.note t e).evs.length+(s.note t e).pend≤s.evs.length+s.pend+2:=fun e=>by have:=note_len s t e;omega
    have hs1:∀ v e,((s.swap ad v).note t e).evs.length+((s.swap ad v).note t e).pend≤s.evs.length+s.pend+2:=fun v e=>by
     have:=note_len (s.swap ad v) t e
     have e1:(s.swap ad v).evs=s.evs:=rfl
     have e2:(s.swap ad v).pend=s.pend:=rfl
     rw [e1,e2] at this;omega
    unfold asks at hst
    split at hst
    ·obtain rfl:q=_:=(Option.some.inj hst).symm
     exact⟨OkD.note _ _ _,nx (th.put i.a (s.load t ad)) rfl ((put_len _ _ _).trans h8) (put_wd hw _ _ hl),hn1 _,rfl⟩
    split at hst
    ·obtain rfl:q=_:=(Option.some.inj hst).symm
     refine⟨(OkD.store s t ad (th.reg i.a) hadn (hrg _)).trans (OkD.note _ _ _),nx th rfl h8 hw,?_,rfl⟩
     show ((s.store t ad (th.reg i.a)).note t _).evs.length+((s.store t ad (th.reg i.a)).note t _).pend≤_
     rw [note_len,pend_store hbl]
     show s.evs.length+_+1≤_
     omega
    split at hst
    ·obtain rfl:q=_:=(Option.some.inj hst).symm
     exact⟨(OkD.swap s ad (th.reg i.a) (hrg _)).trans (OkD.note _ _ _),nx (th.put i.a (s.load t ad)) rfl ((put_len _ _ _).trans h8) (put_wd hw _ _ hl),hs1 _ _,rfl⟩
    split at hst
    ·obtain rfl:q=_:=(Option.some.inj hst).symm
     exact⟨(OkD.swap s ad (wr32 (s.load t ad+th.reg i.a)) (wd_wr _)).trans (OkD.note _ _ _),nx (th.put i.a (s.load t ad)) rfl ((put_len _ _ _).trans h8) (put_wd hw _ _ hl),hs1 _ _,rfl⟩
    split at hst
    ·dsimp only at hst
     split at hst
     ·obtain rfl:q=_:=(Option.some.inj hst).symm
      exact⟨(OkD.swap s ad (th.reg i.c) (hrg _)).trans (OkD.note _ _ _),nx (th.put i.a (s.load t ad)) rfl ((put_len _ _ _).trans h8) (put_wd hw _ _ hl),hs1 _ _,rfl⟩
     ·obtain rfl:q=_:=(Option.some.inj hst).symm
      exact⟨OkD.note _ _ _,nx (th.put i.a (s.load t ad)) rfl ((put_len _ _ _).trans h8) (put_wd hw _ _ hl),hn1 _,rfl⟩
    cases hst
   ·rw [if_neg ha] at hst
    have hrg:∀ j,wd (th.reg j)=true:=fun j=>wd_iff.2 (reg_wd hw j)
    have hn1:∀ e,(s.note t e).evs.length+(s.note t e).pend≤s.evs.length+s.pend+2:=fun e=>by have:=note_len s t e;omega
    unfold plainI at hst
    split at hst
    ·obtain rfl:q=_:=(Option.some.inj hst).symm
     exact⟨OkD.refl s,nx (th.put i.a i.k) rfl ((put_len _ _ _).trans h8) (put_wd hw _ _ hk),hz,rfl⟩
    split at hst
    ·obtain rfl:q=_:=(Option.some.inj hst).symm
     exact⟨OkD.refl s,nx (th.put i.a (th.reg i.b)) rfl ((put_len _ _ _).trans h8) (put_wd hw _ _ (hrg _)),hz,rfl⟩
    split at hst
    ·obtain rfl:q=_:=(Option.some.inj hst).symm
     exact⟨OkD.note _ _ _,nx th rfl h8 hw,hn1 _,rfl⟩
    split at hst
    ·obtain rfl:q=_:=(Option.some.inj hst).symm
     exact⟨OkD.note _ _ _,nx th rfl h8 hw,hn1 _,rfl⟩
    split at hst
    ·obtain rfl:q=_:=(Option.some.inj hst).symm
     exact⟨OkD.note _ _ _,nx th rfl h8 hw,hn1 _,rfl⟩
    split at hst
    ·obtain rfl:q=_:=(Option.some.inj hst).symm
     refine⟨(OkD.remote s).trans (OkD.note _ _ _),nx th rfl h8 hw,?_,(Ts.remote_same s).slp⟩
     show (s.remote.note t _).evs.length+(s.remote.note t _).pend≤_
     rw [note_len]
     have:=(Ts.remote_same s).n
     omega
    split at hst
    ·obtain rfl:q=_:=(Option.some.inj hst).symm
     exact⟨OkD.refl s,nx th rfl h8 hw,hz,rfl⟩
    cases hv:aluI i.op (th.reg i.b) (th.reg i.c) with
    | none=>rw [hv] at hst;cases hst
    | some v=>
     rw [hv] at hst
     obtain rfl:q=_:=(Option.some.inj hst).symm
     have hvw:wd v=true:=by
      unfold aluI at hv
      split at hv
      ·rw [←Option.some.inj hv];exact wd_wr _
      split at hv
      ·rw [←Option.some.inj hv];exact wd_wr _
      split at hv
      ·rw [←Option.some.inj hv];exact wd_wr _
      split at hv
      ·rw [←Option.some.inj hv];split<;>rfl
      cases hv
     exact⟨OkD.refl s,nx (th.put i.a v) rfl ((put_len _ _ _).trans h8) (put_wd hw _ _ hvw),hz,rfl⟩
 ·have e:stepI (tsP t) L th s=some (th,s):=by unfold stepI;rw [if_pos h0]
  rw [e] at hst
  obtain rfl:q=_:=(Option.some.inj hst).symm
  exact⟨OkD.refl s,hT0,Nat.le_add_right _ 2,rfl⟩
theorem OkS.of{codes:List (List Ins)}{s s':Ts}{t:Nat}{th:Th}(h:OkS codes s)(d:OkD s s')(hth:∃ L,codes[t]? = some L∧okT L.length th=true):OkS codes { s' with ths:=s'.ths.set t th }:=by
 refine⟨by show _=(s'.ths.set t th).length;rw [List.length_set,d.nb,d.ths];exact h.nb,by show _=(s'.ths.set t th).length;rw [List.length_set,d.ths];exact h.nc,d.okB h.okB,d.wm h.wm h.wb,d.wb h.wb,fun u th' hu=>?_,h.wc⟩
 have hu2:(s'.ths.set t th)[u]? = some th':=hu
 rw [d.ths,List.getElem?_set] at hu2
 by_cases e:t=u
 ·subst e
  rw [if_pos rfl] at hu2
  split at hu2
  ·injection hu2 with hu2;subst hu2;exact hth
  ·cases hu2
 ·rw [if_neg e] at hu2
  exact h.wt u th' hu2
theorem pick_ok{codes:List (List Ins)}{s s':Ts}{p:Nat×Nat}(h:OkS codes s)(hp:s.pick codes p=some s'):
  OkS codes s'∧s'.ths.length=s.ths.length∧s'.mem.length=s.mem.length∧s'.room=s.room∧s'.evs.length+s'.pend≤s.evs.length+s.pend+2∧s'.slp=s.slp:=by
 unfold Ts.pick at hp
 split at hp
 ·obtain rfl:s'=s:=(Option.some.inj hp).symm
  exact⟨h,rfl,rfl,rfl,by omega,rfl⟩
 rename_i hlt
 have hbl:p.2 < s.bufs.length:=by rw [h.nb];omega
 split at hp
 ·unfold Ts.stepT at hp
  obtain⟨th,hth⟩:∃ th,s.ths[p.2]? = some th:=⟨_,List.getElem?_eq_getElem (by omega)⟩
  obtain⟨L,hL,hT⟩:=h.wt _ _ hth
  rw [hth,hL] at hp
  dsimp only at hp
  cases hst:stepI (tsP p.2) L th s with
  | none=>rw [hst] at hp;cases hp
  | some q=>
   rw [hst] at hp
   obtain rfl:s'=_:=(Option.some.inj hp).symm
   obtain⟨d,e1,e2,e3⟩:=stepI_ok h (by omega) (List.mem_of_getElem? hL) hT hst
   exact⟨h.of d ⟨L,hL,e1⟩,by show (q.2.ths.set p.2 q.1).length=_;rw [List.length_set,d.ths],d.nm,d.room,e2,e3⟩
 split at hp
 ·obtain rfl:s'=s.flush p.2:=(Option.some.inj hp).symm
  have d:=OkD.flush s p.2 hbl
  have hs:=Ts.flush_same s p.2 hbl
  refine⟨⟨by rw [d.nb,d.ths];exact h.nb,by rw [d.ths];exact h.nc,d.okB h.okB,d.wm h.wm h.wb,d.wb h.wb,by rw [d.ths];exact h.wt,h.wc⟩,by rw [d.ths],d.nm,d.room,by have:=hs.n;omega,hs.slp⟩
 split at hp
 ·obtain rfl:s'=s:=(Option.some.inj hp).symm
  exact⟨h,rfl,rfl,rfl,by omega,rfl⟩
 ·cases hp
end Go.Proofs.YtcnmhgblbikfkaaGreatDoor.As.T
end

section
set_option linter.unusedVariables false
set_option linter.unusedSimpArgs false
set_option maxRecDepth 20000
namespace Go.Proofs.YtcnmhgblbikfkaaGreatDoor.As.T
open Go.RowKit

def CdW(Z:Nat→Prop)(w:World)(K:TsK)(codes:List (List Ins)):Prop:=
 ∃ cb ccap,K.cv=.slice (some ⟨cb,0,none⟩) codes.length ccap∧Z cb∧∀ (t:Nat) L,codes[t]? = some L→∃ g cap,w.cell? ⟨cb,t,none⟩=some (.slice (some ⟨g,0,none⟩) L.length cap)∧Z g∧g < w.heap.size∧CodeB w g L
theorem CodeB.only{F:Nat→Prop}{w w':World}{g:Nat}{L:List Ins}(h:CodeB w g L)(ho:Only F w w')(hg:g < w.heap.size)(hF:¬F g):CodeB w' g L:=
 fun i x hx j u hu=>(World.cell?_of_block (w:=w) (a:=⟨g,i*5+j,none⟩) (ho.block g hg hF)).trans (h i x hx j u hu)
theorem CdW.only{Z Z' F:Nat→Prop}{w w':World}{K:TsK}{codes:List (List Ins)}(h:CdW Z w K codes)(ho:Only F w w')(hF:∀ k,F k→¬Z k)(hZ:∀ k,Z k→Z' k):CdW Z' w' K codes:=by
 obtain⟨cb,ccap,h1,h2,h3⟩:=h
 refine⟨cb,ccap,h1,hZ _ h2,fun t L hL=>?_⟩
 obtain⟨g,cap,a,b,c,d⟩:=h3 t L hL
 exact⟨g,cap,(World.cell?_of_block (w:=w) (a:=⟨cb,t,none⟩) (ho.block cb (block_lt_of_cell a) (fun e=>hF _ e h2))).trans a,hZ _ b,Nat.lt_of_lt_of_le c ho.size,d.only ho c (fun e=>hF _ e b)⟩
structure Mch(Z:Nat→Prop)(w:World)(K:TsK)(codes:List (List Ins))(s:Ts):Prop where
 m:TsM Z w K s
 t:TabI w
 c:CdW Z w K codes
 n:∀ k,¬Z k→NoI k
theorem Mch.keep{Z F:Nat→Prop}{w w':World}{K:TsK}{codes:List (List Ins)}{s s':Ts}(h:Mch Z w K codes s)(hM:TsM Z w' K s')(ho:Only F w w')(hF:∀ k,F k→¬Z k):Mch Z w' K codes s':=
 ⟨hM,h.t.only ho (fun k e=>h.n k (hF k e)),h.c.only ho hF (fun _ e=>e),h.n⟩
theorem Mch.more{Z Z':Nat→Prop}{w w':World}{K:TsK}{codes:List (List Ins)}{s:Ts}(h:Mch Z w K codes s)(hM:TsM Z' w' K s)(ho:Only (fun _=>False) w w')(hZ:∀ k,Z k→Z' k):Mch Z' w' K codes s:=
 ⟨hM,h.t.only ho (fun _ e=>e.elim),h.c.only ho (fun _ e=>e.elim) hZ,fun k e=>h.n k (fun e2=>e (hZ k e2))⟩
theorem mstep_any{Z:Nat→Prop}{w:World}{K:TsK}{codes:List (List Ins)}{s s':Ts}{t:Nat}(h:Mch Z w K codes s)(hk:OkS codes s)(ht:t < s.ths.length)(hT:s.ths.length≤1000)(hne:s.evs.length+s.pend≤99999999999)(hml:s.mem.length≤2000)(hst:s.stepT codes t=some s'):
  Calls Tryz.prog 70 #[.pointer (some ⟨K.mb,0,none⟩),.int .i64 t] w fun e w'=>e=.returned (.tuple #[])∧TsM Z w' K s'∧Only (fun k=>¬Z k) w w':=by
 obtain⟨th,hth⟩:∃ th,s.ths[t]? = some th:=⟨_,List.getElem?_eq_getElem ht⟩
 obtain⟨L,hL,hokT⟩:=hk.wt _ _ hth
 have hwc:=hk.wc L (List.mem_of_getElem? hL)
 unfold Ts.stepT at hst
 rw [hth,hL] at hst
 dsimp only at hst
 cases hq:stepI (tsP t) L th s with
 | none=>rw [hq] at hst;cases hst
 | some q=>
  rw [hq] at hst
  obtain rfl:s'=_:=(Option.some.inj hst).symm
  obtain⟨d,e1,e2,e3⟩:=stepI_ok hk ht (List.mem_of_getElem? hL) hokT hq
  obtain⟨cb,ccap,c1,c2,c3⟩:=h.c
  obtain⟨g,cap,g1,g2,g3,g4⟩:=c3 t L hL
  have h8:th.regs.length=8:=by simp only [okT,Bool.and_eq_true,decide_eq_true_eq] at hokT;exact hokT.1.2
  have h82:q.1.regs.length=8:=by simp only [okT,Bool.and_eq_true,decide_eq_true_eq] at e1;exact e1.1.2
  have hst':=fun (Z':Nat→Prop) (W:World) (hM:TsM Z' W K s) (ho:Only (fun k=>¬Z k) w W) (hz:∀ k,Z k→Z' k)=>step_any (cap:=cap) hM (h.t.only ho (fun k e=>h.n k e)) (g4.only ho g3 (fun e=>e g2)) hwc.1 hwc.2 hokT ht hk.okB hT hne hml hq
  obtain⟨pc,regs,st⟩:=th
  obtain⟨r0,r1,r2,r3,r4,r5,r6,r7,rfl⟩:=list8 h8
  obtain⟨⟨pc2,regs2,st2⟩,s2⟩:=q
  obtain⟨q0,q1,q2,q3,q4,q5,q6,q7,rfl⟩:=list8 h82
  exact mstep_ts Z w K s s2 t pc st r0 r1 r2 r3 r4 r5 r6 r7 pc2 st2 q0 q1 q2 q3 q4 q5 q6 q7 cb ccap g L.length cap h.m (by rw [c1,hk.nc]) c2 g1 hth d.ths (fun Z' W a b c=>(hst' Z' W a b c).mono fun _ _ h=>⟨h.1,h.2.2.1,h.2.2.2⟩)
theorem rouse_any{Z:Nat→Prop}{w:World}{K:TsK}{s:Ts}(h:TsM Z w K s)(h0:s.slp=[])(who:Nat):
  Calls Tryz.prog 72 #[.pointer (some ⟨K.mb,4,none⟩),.int .i64 who] w fun e w'=>e=.returned (.bool false)∧Below w.heap.size w w':=by
 obtain⟨A,cap,hc⟩:=TsM.kern0 h h0
 exact rouse_none w K.mb who A cap hc
theorem drq(w1:World)(nq:Nat)(K:TsK)(Z:Nat→Prop)(codes:List (List Ins))(s:Ts)(w:World){c d:Value}{k:Nat}(h1:∀ X:Obj,Mch Z (w1.alloc X) K codes s)(h2:∀ X:Obj,Only (fun k=>¬Z k) w (w1.alloc X))(h3:∀ X,(w1.alloc X).cell? ⟨k,0,none⟩=some c)(h4:∀ X,(w1.alloc X).cell? ⟨k,1,none⟩=some d):
  Hid (∀ X:Obj,Mch Z ((w1.drewN nq).alloc X) K codes s)∧Hid (∀ X:Obj,Only (fun k=>¬Z k) w ((w1.drewN nq).alloc X))∧(∀ X,((w1.drewN nq).alloc X).cell? ⟨k,0,none⟩=some c)∧∀ X,((w1.drewN nq).alloc X).cell? ⟨k,1,none⟩=some d:=by
 refine⟨Lib.hid (fun X=>?_),Lib.hid (fun X=>?_),fun X=>h3 X,fun X=>h4 X⟩
 ·exact (h1 X).keep ((h1 X).m.drewN nq) (F:=fun _=>False) (on_drewN (Only.refl _ _) nq) (fun _ e=>e.elim)
 ·exact on_drewN (h2 X) nq
set_option maxHeartbeats 8000000 in
theorem pick_ts{Z:Nat→Prop}{w:World}{K:TsK}{codes:List (List Ins)}{s s':Ts}{kd who:Nat}(h:Mch Z w K codes s)(hk:OkS codes s)(hT:s.ths.length≤1000)(hne:s.evs.length+s.pend≤99999999999)(hml:s.mem.length≤2000)(hp:s.pick codes (kd,who)=some s'):
  Calls Tryz.prog 33 #[.pointer (some ⟨K.mb,0,none⟩),.agg #[.int .i64 kd,.int .i64 who]] w fun e w'=>e=.returned (.tuple #[])∧TsM Z w' K s'∧Only (fun k=>¬Z k) w w':=by
 unfold Ts.pick at hp
 have h1:((who:Int) < 0)=False:=by simp
 obtain⟨w1,hw1⟩:∃ w1,w.alloc (.cells #[.int .i64 kd,.int .i64 who] 92)=w1:=⟨_,rfl⟩
 have hm1:TsM Z w1 K s:=by rw [←hw1];exact h.m.alloc _
 have hb1:Below w.heap.size w w1:=by rw [←hw1];exact (Below.refl _ w).alloc (Nat.le_refl _) _
 have hs1:w1.heap[w.heap.size]? = some (.cells #[.int .i64 kd,.int .i64 who] 92 (0,0)):=by rw [←hw1];exact heap_alloc_new _ _
 have c0:w1.cell? ⟨w.heap.size,0,none⟩=some (.int .i64 kd):=cell_of_row _ _ 0 _ _ _ hs1
 have c1:w1.cell? ⟨w.heap.size,1,none⟩=some (.int .i64 who):=cell_of_row _ _ 1 _ _ _ hs1
 have c2:w1.cell? ⟨K.mb,1,none⟩=some (.slice (some ⟨K.tb,0,none⟩) s.ths.length K.tc):=by
  obtain⟨_,_,_,_,_,ev,kv,ma,ta,ba,A,_⟩:=hm1
  exact cell_of_row _ _ 1 _ _ _ A.hb
 have HM1:=Lib.hid hm1
 have HB1:=Lib.hid hb1
 have HW1:=Lib.hid hw1
 have H:=Lib.hid h
 have HK:=Lib.hid hk
 have HP:=Lib.hid hp
 clear hm1 hb1 hs1 hw1 h hk hp
 by_cases hge:s.ths.length≤who
 ·have g1:((s.ths.length:Int)≤(who:Int))=True:=by simp;omega
  go_enter Tryz.func33,Tryz.ntmps33
  go_upto_region 1 with fail
  rw [HW1.out]
  trace_state
  go_quiet (fail)
  go_wp2_with fail
  refine bodyPost_ret (results_none rfl _ _ _) rfl ?_
  have hp:=HP.out
  rw [if_pos hge] at hp
  obtain rfl:s'=s:=(Option.some.inj hp).symm
  exact⟨rfl,HM1.out.drewN _,(Only.of_below (F:=fun k=>¬Z k) HB1.out (Nat.le_refl _)).trans (on_drewN (Only.refl (fun _=>False) _) _) (fun _ e=>e.elim)⟩
 ·have g1:((s.ths.length:Int)≤(who:Int))=False:=by simp;omega
  have hp:=HP.out
  rw [if_neg hge] at hp
  have d0:((kd:Int) == 0)=decide (kd=0):=by rw [Bool.eq_iff_iff];simp
  have d1:((kd:Int) == 1)=decide (kd=1):=by rw [Bool.eq_iff_iff];simp;omega
  have d2:((kd:Int) == 2)=decide (kd=2):=by rw [Bool.eq_iff_iff];simp;omega
  have hA:∀ X:Obj,Mch Z (w1.alloc X) K codes s:=fun X=>by
   have h1:Only (fun _=>False) w (w1.alloc X):=Only.of_below (F:=fun _=>False) (HB1.out.alloc HB1.out.size X) (Nat.le_refl _)
   exact H.out.keep (HM1.out.alloc X) h1 (fun _ e=>e.elim)
  have hO:∀ X:Obj,Only (fun k=>¬Z k) w (w1.alloc X):=fun X=>Only.of_below (HB1.out.alloc HB1.out.size X) (Nat.le_refl _)
  have q0:∀ X,(w1.alloc X).cell? ⟨w.heap.size,0,none⟩=some (.int .i64 kd):=fun X=>alloc_cell1 c0
  have q1:∀ X,(w1.alloc X).cell? ⟨w.heap.size,1,none⟩=some (.int .i64 who):=fun X=>alloc_cell1 c1
  have HA:=Lib.hid hA
  have HO:=Lib.hid hO
  clear hA hO
  by_cases k0:kd=0
  ·rw [if_pos k0] at hp
   have e0:=decide_eq_true k0
   rw [e0] at d0
   have HST:=Lib.hid (fun W (hW:Mch Z W K codes s)=>mstep_any hW HK.out (by omega) hT hne hml hp)
   clear e0 d1 d2 k0 hp HP hge HM1 H HK
   go_enter Tryz.func33,Tryz.ntmps33
   go_upto_region 1 with fail
   rw [HW1.out]
   go_quiet (fail)
   have Q:=Lib.hid (drq w1 nq K Z codes s w HA.out HO.out q0 q1)
   obtain⟨HA,HO,q0,q1⟩:=Q.out
   have c0:(w1.drewN nq).cell? ⟨w.heap.size,0,none⟩=some (.int .i64 kd):=c0
   have c1:(w1.drewN nq).cell? ⟨w.heap.size,1,none⟩=some (.int .i64 who):=c1
   generalize w1.drewN nq=wq at *
   go_wp2_with (go_at_call 70;refine (HST.out _ (HA.out _)).mono ?_;rintro r w2 ⟨rfl,hm2,ho2⟩)
   go_end0
   exact⟨rfl,hm2,(HO.out _).trans ho2 (fun _ e=>.inl e)⟩
  ·rw [if_neg k0] at hp
   by_cases k1:kd=1
   ·rw [if_pos k1] at hp
    have e0:decide (kd=0)=false:=decide_eq_false k0
    have e1:=decide_eq_true k1
    rw [e0] at d0
    rw [e1] at d1
    obtain rfl:s'=s.flush who:=(Option.some.inj hp).symm
    have HFL:=Lib.hid (fun W (hW:TsM Z W K s)=>flush_ts Z W K s who hW (by omega) (by omega) (fun e he=>HK.out.okB who _ (Ts.buf_get (by rw [HK.out.nb];omega)) e he))
    clear e0 e1 d2 k0 k1 hp HP hge HM1 H HK
    go_enter Tryz.func33,Tryz.ntmps33
    go_upto_region 1 with fail
    rw [HW1.out]
    go_quiet (fail)
    have Q:=Lib.hid (drq w1 nq K Z codes s w HA.out HO.out q0 q1)
    obtain⟨HA,HO,q0,q1⟩:=Q.out
    have c0:(w1.drewN nq).cell? ⟨w.heap.size,0,none⟩=some (.int .i64 kd):=c0
    have c1:(w1.drewN nq).cell? ⟨w.heap.size,1,none⟩=some (.int .i64 who):=c1
    generalize w1.drewN nq=wq at *
    go_wp2_with (go_at_call 71;refine (HFL.out _ (HA.out _).m).mono ?_;rintro r w2 ⟨rfl,hm2,ho2⟩)
    go_end0
    exact⟨rfl,hm2,(HO.out _).trans ho2 (fun _ e=>.inl e)⟩
   ·rw [if_neg k1] at hp
    have e0:decide (kd=0)=false:=decide_eq_false k0
    have e1:decide (kd=1)=false:=decide_eq_false k1
    rw [e0] at d0
    rw [e1] at d1
    by_cases hs0:s.slp=[]
    ·rw [if_pos hs0] at hp
     obtain rfl:s=s':=Option.some.inj hp
     have HRO:=Lib.hid (fun W (hW:TsM Z W K s)=>rouse_any hW hs0 who)
     clear e0 e1 k0 k1 hp HP hge HM1 H HK
     by_cases k2:kd=2
     ·rw [decide_eq_true k2] at d2
      clear k2
      go_enter Tryz.func33,Tryz.ntmps33
      go_upto_region 1 with fail
      rw [HW1.out]
      go_quiet (fail)
      have Q:=Lib.hid (drq w1 nq K Z codes s w HA.out HO.out q0 q1)
      obtain⟨HA,HO,q0,q1⟩:=Q.out
      have c0:(w1.drewN nq).cell? ⟨w.heap.size,0,none⟩=some (.int .i64 kd):=c0
      have c1:(w1.drewN nq).cell? ⟨w.heap.size,1,none⟩=some (.int .i64 who):=c1
      generalize w1.drewN nq=wq at *
      go_wp2_with fail
      have HA3:=Lib.hid (HA.out (.cells #[.pointer (some ⟨K.mb,0,none⟩),.int .i64 who] 153))
      have HO3:=Lib.hid (HO.out (.cells #[.pointer (some ⟨K.mb,0,none⟩),.int .i64 who] 153))
      have q3:=q1 (.cells #[.pointer (some ⟨K.mb,0,none⟩),.int .i64 who] 153)
      clear q0 q1 c0 c1
      generalize (wq.alloc (.cells #[.pointer (some ⟨K.mb,0,none⟩),.int .i64 who] 153))=w3 at *
      refine wp_region_g (fun W=>W.cell? ⟨w.heap.size,1,none⟩=some (.int .i64 who)) 99 (by kernel_rfl) ?_
      have b0:w3.drew.cell? ⟨w.heap.size,1,none⟩=some (.int .i64 who):=q3
      have HA4:=Lib.hid ((HA3.out).m.drew)
      have HO4:=Lib.hid (on_drew HO3.out)
      clear q3
      generalize w3.drew=w4 at *
      refine AnyG_take (i:=0) (oi:=_) (v:=?_) rfl (by kernel_rfl) (fun _ _ _ h=>h) (Or.inl ⟨by rfl,?_⟩) b0 ?_
      rotate_left
      ·intro W hSw;(try dsimp only at hSw);go_simp;first | done | with_reducible rfl
      simp only [Act.put,List.getElem_toArray,List.getElem_cons_zero,List.getElem_cons_succ,List.setIfInBounds_toArray,List.set_cons_zero,List.set_cons_succ]
      refine AnyG_take (i:=1) (oi:=_) (v:=?_) rfl (by kernel_rfl) (fun _ _ _ h=>h) (Or.inl ⟨by rfl,?_⟩) b0 ?_
      rotate_left
      ·intro W hSw;(try dsimp only at hSw);go_simp;first | done | with_reducible rfl
      simp only [Act.put,List.getElem_toArray,List.getElem_cons_zero,List.getElem_cons_succ,List.setIfInBounds_toArray,List.set_cons_zero,List.set_cons_succ]
      refine AnyG_take (i:=2) (oi:=_) (v:=?_) rfl (by kernel_rfl) (fun _ _ _ h=>h) (Or.inl ⟨by rfl,?_⟩) b0 ?_
      rotate_left
      ·intro W hSw;(try dsimp only at hSw);go_simp;first | done | with_reducible rfl
      simp only [Act.put,List.getElem_toArray,List.getElem_cons_zero,List.getElem_cons_succ,List.setIfInBounds_toArray,List.set_cons_zero,List.set_cons_succ]
      refine AnyG_take (i:=3) (oi:=_) (v:=?_) rfl (by kernel_rfl) (fun _ _ _ h=>h) (Or.inl ⟨by rfl,?_⟩) b0 ?_
      rotate_left
      ·intro W hSw;(try dsimp only at hSw);go_simp;first | done | with_reducible rfl
      simp only [Act.put,List.getElem_toArray,List.getElem_cons_zero,List.getElem_cons_succ,List.setIfInBounds_toArray,List.set_cons_zero,List.set_cons_succ]
      refine AnyG_take (i:=4) (oi:=_) (v:=?_) rfl (by kernel_rfl) (fun _ _ _ h=>h) (Or.inl ⟨by rfl,?_⟩) b0 ?_
      rotate_left
      ·intro W hSw;(try dsimp only at hSw);go_simp;first | done | with_reducible rfl
      simp only [Act.put,List.getElem_toArray,List.getElem_cons_zero,List.getElem_cons_succ,List.setIfInBounds_toArray,List.set_cons_zero,List.set_cons_succ]
      refine AnyG_one (i:=5) rfl (by kernel_rfl) ?_
      refine wpOp_of rfl rfl ?_
      try simp only [Act.put,List.getElem_toArray,List.getElem_cons_zero,List.getElem_cons_succ,List.setIfInBounds_toArray,List.set_cons_zero,List.set_cons_succ]
      go_simp
      refine (HRO.out _ HA4.out).mono ?_
      rintro r w2 ⟨rfl,hb2⟩
      have b2:=(Below.cell hb2 (block_lt_of_cell b0)).trans b0
      refine⟨b2,?_⟩
      try simp only [Act.put,List.getElem_toArray,List.getElem_cons_zero,List.getElem_cons_succ,List.setIfInBounds_toArray,List.set_cons_zero,List.set_cons_succ]
      refine AnyG_done (by kernel_rfl) ?_ _
      go_wp2_with fail
      go_end0
      exact⟨rfl,HA4.out.below hb2,HO4.out.trans (Only.of_below (F:=fun _=>False) hb2 (Nat.le_refl _)) (fun _ e=>e.elim)⟩
     ·rw [decide_eq_false k2] at d2
      clear k2
      go_enter Tryz.func33,Tryz.ntmps33
      go_upto_region 1 with fail
      rw [HW1.out]
      go_quiet (fail)
      have Q:=Lib.hid (drq w1 nq K Z codes s w HA.out HO.out q0 q1)
      obtain⟨HA,HO,q0,q1⟩:=Q.out
      have c0:(w1.drewN nq).cell? ⟨w.heap.size,0,none⟩=some (.int .i64 kd):=c0
      have c1:(w1.drewN nq).cell? ⟨w.heap.size,1,none⟩=some (.int .i64 who):=c1
      generalize w1.drewN nq=wq at *
      go_wp2_with fail
      go_end0
      exact⟨rfl,(HA.out _).m,HO.out _⟩
    ·rw [if_neg hs0] at hp
     cases hp
end Go.Proofs.YtcnmhgblbikfkaaGreatDoor.As.T
end

section
set_option linter.unusedVariables false
set_option linter.unusedSimpArgs false
set_option maxRecDepth 20000
namespace Go.Proofs.YtcnmhgblbikfkaaGreatDoor.As.T
open Go.RowKit

def PkS(w:World)(b:Nat)(l:List (Nat×Nat)):Prop:=∀ i p,l[i]? = some p→w.cell? ⟨b,i*2,none⟩=some (.int .i64 p.1)∧w.cell? ⟨b,i*2+1,none⟩=some (.int .i64 p.2)
theorem PkS.only{F:Nat→Prop}{w w':World}{b:Nat}{l:List (Nat×Nat)}(h:PkS w b l)(ho:Only F w w')(hF:¬F b):PkS w' b l:=fun i p hp=>by
 obtain⟨h1,h2⟩:=h i p hp
 exact⟨(World.cell?_of_block (w:=w) (a:=⟨b,i*2,none⟩) (ho.block b (block_lt_of_cell h1) hF)).trans h1,(World.cell?_of_block (w:=w) (a:=⟨b,i*2+1,none⟩) (ho.block b (block_lt_of_cell h1) hF)).trans h2⟩
structure RnW(Z:Nat→Prop)(w wr:World)(K:TsK)(codes:List (List Ins))(s sr:Ts)(b:Nat)(l:List (Nat×Nat))(i:Nat)(s':Ts):Prop where
 m:Mch Z wr K codes sr
 ok:OkS codes sr
 nt:sr.ths.length=s.ths.length
 nm:sr.mem.length=s.mem.length
 ne:sr.evs.length+sr.pend≤s.evs.length+s.pend+2*i
 pk:PkS wr b l
 rest:Ts.run codes sr (l.drop i)=some s'
 only:Only (fun k=>¬Z k) w wr
theorem RnW.next{Z:Nat→Prop}{w wr w2:World}{K:TsK}{codes:List (List Ins)}{s sr s2:Ts}{b:Nat}{l:List (Nat×Nat)}{i:Nat}{s':Ts}{p:Nat×Nat}(h:RnW Z w wr K codes s sr b l i s')(hp:l[i]? = some p)(hs:sr.pick codes p=some s2)(hM:TsM Z w2 K s2)(ho:Only (fun k=>¬Z k) wr w2)(hb:Z b):RnW Z w w2 K codes s s2 b l (i+1) s':=by
 obtain⟨o1,o2,o3,o4,o5,o6⟩:=pick_ok h.ok hs
 refine⟨h.m.keep hM ho (fun k e=>e),o1,o2.trans h.nt,o3.trans h.nm,by have:=h.ne;omega,h.pk.only ho (fun e=>e hb),?_,h.only.trans ho (fun _ e=>.inl e)⟩
 have hr:=h.rest
 have hlt:=(List.getElem?_eq_some_iff.1 hp).1
 rw [List.drop_eq_getElem_cons hlt,Ts.run,show l[i]=p from (List.getElem?_eq_some_iff.1 hp).2,hs] at hr
 exact hr
set_option maxHeartbeats 4000000 in
theorem run_ts{Z:Nat→Prop}{w:World}{K:TsK}{codes:List (List Ins)}{s s':Ts}{b cap:Nat}{l:List (Nat×Nat)}(h:Mch Z w K codes s)(hk:OkS codes s)(hT:s.ths.length≤1000)(hne:s.evs.length+s.pend+2*l.length≤99999999999)(hml:s.mem.length≤2000)(hb:Z b)(hl:PkS w b l)(hr:Ts.run codes s l=some s'):
  Calls Tryz.prog 17 #[.pointer (some ⟨K.mb,0,none⟩),.slice (some ⟨b,0,none⟩) l.length cap] w fun e w'=>e=.returned (.tuple #[])∧TsM Z w' K s'∧Only (fun k=>¬Z k) w w'∧OkS codes s'∧s'.ths.length=s.ths.length∧s'.mem.length=s.mem.length∧s'.evs.length+s'.pend≤s.evs.length+s.pend+2*l.length:=by
 have HW0:=Lib.hid (show RnW Z w w K codes s s b l 0 s' from⟨h,hk,rfl,rfl,by omega,hl,hr,Only.refl _ w⟩)
 have HB:=Lib.hid hb
 clear h hk hl hr hb
 go_enter Tryz.func17,Tryz.ntmps17
 go_wp2_with fail
 obtain⟨N,hN⟩:∃ N,l.length=N:=⟨_,rfl⟩
 rw [hN]
 go_loopg [8] N (fun g iv wr=>∃ (i:Nat) (sr:Ts),i+g=N∧iv=.int .i64 i∧Hid (RnW Z w wr K codes s sr b l i s'))
 case atStart=>exact⟨0,s,by omega,rfl,HW0⟩
 case round=>
  obtain⟨i,sr,hi,rfl,HR⟩:=hrel
  by_cases hlt:i < N
  ·obtain⟨g',rfl⟩:∃ g',gk=g'+1:=⟨gk - 1,by omega⟩
   have hil:(i:Int) < (N:Int):=by omega
   have hwr:wrap64 ((i:Int)+1)=(i:Int)+1:=by unfold wrap64;omega
   obtain⟨⟨kd,who⟩,hp⟩:∃ p,l[i]? = some p:=⟨_,List.getElem?_eq_getElem (by omega)⟩
   obtain⟨c0,c1⟩:=HR.out.pk i _ hp
   have hrest:=HR.out.rest
   have hlt2:i < l.length:=by omega
   rw [List.drop_eq_getElem_cons hlt2,Ts.run,show l[i]=(kd,who) from (List.getElem?_eq_some_iff.1 hp).2] at hrest
   obtain⟨s2,hs2⟩:∃ s2,sr.pick codes (kd,who)=some s2:=by
    cases h:sr.pick codes (kd,who) with
    | none=>rw [h] at hrest;cases hrest
    | some s2=>exact⟨s2,rfl⟩
   have hMA:∀ X,Mch Z (wr.alloc X) K codes sr:=fun X=>HR.out.m.keep (HR.out.m.m.alloc X) (F:=fun _=>False) ⟨rfl,rfl,rfl,by simp,fun k hk _=>Below.heap_alloc _ _ _ hk⟩ (fun _ e=>e.elim)
   have hOA:∀ X,Only (fun k=>¬Z k) wr (wr.alloc X):=fun X=>⟨rfl,rfl,rfl,by simp,fun k hk _=>Below.heap_alloc _ _ _ hk⟩
   have hpc:∀ X,Calls Tryz.prog 33 #[.pointer (some ⟨K.mb,0,none⟩),.agg #[.int .i64 kd,.int .i64 who]] (wr.alloc X) fun e w'=>e=.returned (.tuple #[])∧TsM Z w' K s2∧Only (fun k=>¬Z k) (wr.alloc X) w':=fun X=>pick_ts (hMA X) HR.out.ok (by rw [HR.out.nt];exact hT) (by have:=HR.out.ne;omega) (by rw [HR.out.nm];exact hml) hs2
   have HPC:=Lib.hid hpc
   have HOA:=Lib.hid hOA
   have HPP:=Lib.hid hp
   have HS2:=Lib.hid hs2
   clear hrest hlt2 hMA hpc hOA hp hs2
   go_wp2_with (go_at_call 33;refine (HPC.out _).mono ?_;rintro r w2 ⟨rfl,hm2,ho2⟩)
   go_roundg g'
   case rel=>exact⟨i+1,s2,by omega,by simp,Lib.hid (HR.out.next HPP.out HS2.out hm2 ((HOA.out _).trans ho2 (fun _ e=>.inl e)) HB.out)⟩
   case measure=>omega
  ·have hil:¬((i:Int) < (N:Int)):=by omega
   have hiN:i=N:=by omega
   go_wp2_with fail
   go_end0
   have hr:=HR.out.rest
   rw [hiN,←hN,List.drop_length,Ts.run] at hr
   obtain rfl:sr=s':=Option.some.inj hr
   have hne2:=HR.out.ne
   exact⟨rfl,HR.out.m.m,HR.out.only,HR.out.ok,HR.out.nt,HR.out.nm,by omega⟩
end Go.Proofs.YtcnmhgblbikfkaaGreatDoor.As.T
end

