/- core.Step on a machine tso: the world within a step; the set-up. -/
import Derived.Test.YtcnmhgblbikfkaaGreatDoorGh
import Derived.Deep.DeepCutAuto
set_option linter.unusedVariables false
set_option linter.unusedSimpArgs false
set_option maxRecDepth 20000
namespace Go.Proofs.YtcnmhgblbikfkaaGreatDoor.As.T
open Go.RowKit

theorem alloc4_cell{w:World}{a:Addr}{v:Value}(h:w.cell? a=some v)(X1 X2 X3 X4:Obj):((((w.alloc X1).alloc X2).alloc X3).alloc X4).cell? a=some v:=
 (Below.cell ((((Below.refl w.heap.size w).alloc (Nat.le_refl _) X1).alloc (by simp) X2).alloc (by simp;omega) X3 |>.alloc (by simp;omega) X4) (block_lt_of_cell h)).trans h
def Z4(Z:Nat→Prop)(k:Nat):Nat→Prop:=fun j=>Z j∨j=k∨j=k+1∨j=k+1+1∨j=k+1+1+1
def zTh:List Value:=[.int .i64 0,.int .u32 0,.int .u32 0,.int .u32 0,.int .u32 0,.int .u32 0,.int .u32 0,.int .u32 0,.int .u32 0,.int .i64 0]
structure StW(Z:Nat→Prop)(w w1:World)(n:Int)(K:TsK)(tn:Nat)(s:Ts)(t:Th)(i:Ins)(ad:Int):Prop where
 run:RunB w1 (w.heap.size+1+1+1) n K.mb tn t i ad
 th:w1.heap[w.heap.size]? = some (.cells t.cells.toArray 79 (0,0))
 port:w1.heap[w.heap.size+1]? = some (.cells (portV n K.mb tn).toArray 196 (0,0))
 res:w1.heap[w.heap.size+1+1]? = some (.cells zTh.toArray 79 (0,0))
 mach:TsM (Z4 Z w.heap.size) w1 K s
 tab:TabI w1
 only:Only (fun _=>False) w w1
theorem StW.below{Z:Nat→Prop}{w w1 w2:World}{n:Int}{K:TsK}{tn:Nat}{s:Ts}{t:Th}{i:Ins}{ad:Int}(h:StW Z w w1 n K tn s t i ad)(hb:Below w1.heap.size w1 w2):StW Z w w2 n K tn s t i ad:=by
 have ho:Only (fun _=>False) w1 w2:=Only.of_below hb (Nat.le_refl _)
 obtain⟨a,b,c,d,e,f,g⟩:=h
 have lt:∀ {k:Nat} {o:Obj},w1.heap[k]? = some o→w2.heap[k]? = some o:=fun hk=>(hb.block _ (Array.getElem?_eq_some_iff.1 hk).1).trans hk
 exact⟨a.only ho (fun e=>e),lt b,lt c,lt d,e.keep ho (fun _ e=>e.elim),f.below hb (Nat.le_refl _),g.trans ho (fun _ e=>e.elim)⟩
theorem TsM.guard4{Z:Nat→Prop}{w:World}{K:TsK}{s:Ts}(h:TsM Z w K s)(X1 X2 X3 X4:Obj):TsM (Z4 Z w.heap.size) ((((w.alloc X1).alloc X2).alloc X3).alloc X4) K s:=by
 have h1:=((((h.guard X1).guard X2).guard X3).guard X4)
 refine h1.less (fun k hk=>?_)
 have e1:(w.alloc X1).heap.size=w.heap.size+1:=by simp
 have e2:((w.alloc X1).alloc X2).heap.size=w.heap.size+1+1:=by simp
 have e3:(((w.alloc X1).alloc X2).alloc X3).heap.size=w.heap.size+1+1+1:=by simp
 rw [e1,e2,e3]
 rcases hk with hk | hk | hk | hk | hk
 ·exact .inl (.inl (.inl (.inl hk)))
 ·exact .inl (.inl (.inl (.inr hk)))
 ·exact .inl (.inl (.inr hk))
 ·exact .inl (.inr hk)
 ·exact .inr hk
theorem blk4(w:World)(X1 X2 X3 X4:Obj):((((w.alloc X1).alloc X2).alloc X3).alloc X4).heap[w.heap.size]? = some X1∧((((w.alloc X1).alloc X2).alloc X3).alloc X4).heap[w.heap.size+1]? = some X2∧((((w.alloc X1).alloc X2).alloc X3).alloc X4).heap[w.heap.size+1+1]? = some X3∧((((w.alloc X1).alloc X2).alloc X3).alloc X4).heap[w.heap.size+1+1+1]? = some X4∧Below w.heap.size w ((((w.alloc X1).alloc X2).alloc X3).alloc X4):=by
 have up:∀ {W:World} {k:Nat} {o:Obj} (X:Obj),W.heap[k]? = some o→(W.alloc X).heap[k]? = some o:=fun X hk=>(Below.heap_alloc _ _ _ (Array.getElem?_eq_some_iff.1 hk).1).trans hk
 have e1:(w.alloc X1).heap.size=w.heap.size+1:=by simp
 have e2:((w.alloc X1).alloc X2).heap.size=w.heap.size+1+1:=by simp
 have e3:(((w.alloc X1).alloc X2).alloc X3).heap.size=w.heap.size+1+1+1:=by simp
 refine⟨up _ (up _ (up _ (heap_alloc_new _ _))),?_,?_,?_,?_⟩
 ·rw [←e1];exact up _ (up _ (heap_alloc_new _ _))
 ·rw [←e2];exact up _ (heap_alloc_new _ _)
 ·rw [←e3];exact heap_alloc_new _ _
 ·exact (((Below.refl _ _).alloc (Nat.le_refl _) X1).alloc (by simp) X2).alloc (by simp;omega) X3 |>.alloc (by simp;omega) X4
theorem rightI_op{i:Ins}{n:Int}(h:rightI i n=true):(0≤i.op∧i.op < 28)∧0≤i.k∧(0≤i.a∧i.a < 8)∧(0≤i.b∧i.b < 9)∧(0≤i.c∧i.c < 8):=by
 unfold rightI at h
 simp only [Bool.and_eq_true,decide_eq_true_eq] at h
 obtain⟨⟨⟨o0,o1⟩,k0⟩,⟨⟨hA,hB⟩,hC⟩,hK⟩:=h
 have hf:∀ (n:Int) (u:Bool) (m:Int),0≤m→fieldI n u m=true→0≤n∧n≤m:=by
  intro n u m hm h
  unfold fieldI at h
  cases u with
  | true=>simpa using h
  | false=>
   have:n=0:=by simpa using h
   subst this
   exact⟨by omega,hm⟩
 have a:=hf _ _ _ (by decide) hA
 have c:=hf _ _ _ (by decide) hC
 have b:=hf _ _ _ (by split<;>decide) hB
 have b8:i.b≤8:=by
  refine Int.le_trans b.2 ?_
  split<;>decide
 exact⟨⟨o0,o1⟩,k0,⟨a.1,by omega⟩,⟨b.1,by omega⟩,c.1,by omega⟩
theorem addr_any(W:World)(i:Ins)(pc st r0 r1 r2 r3 r4 r5 r6 r7:Int)(hk:0≤i.k∧i.k≤4294967295)(hrr:∀ j,0≤(Th.mk pc [r0,r1,r2,r3,r4,r5,r6,r7] st).reg j∧(Th.mk pc [r0,r1,r2,r3,r4,r5,r6,r7] st).reg j≤4294967295):
  Calls Tryz.prog 151 #[.agg #[.int .i64 pc,.int .u32 r0,.int .u32 r1,.int .u32 r2,.int .u32 r3,.int .u32 r4,.int .u32 r5,.int .u32 r6,.int .u32 r7,.int .i64 st],.agg #[.int .i64 i.op,.int .i64 i.a,.int .i64 i.b,.int .i64 i.c,.int .u32 i.k]] W fun e w'=>e=.returned (.int .u32 (addrI (Th.mk pc [r0,r1,r2,r3,r4,r5,r6,r7] st) i))∧Below W.heap.size W w':=by
 by_cases hb:i.b < 0∨8≤i.b
 ·have e:addrI (Th.mk pc [r0,r1,r2,r3,r4,r5,r6,r7] st) i=i.k:=by unfold addrI;rw [if_pos hb]
  rw [e]
  exact addr_none W (Th.mk pc [r0,r1,r2,r3,r4,r5,r6,r7] st) i pc st r0 r1 r2 r3 r4 r5 r6 r7 hb
 ·obtain⟨b,hbb⟩:=Int.eq_ofNat_of_zero_le (show 0≤i.b by omega)
  have e:addrI (Th.mk pc [r0,r1,r2,r3,r4,r5,r6,r7] st) i=wr32 ((Th.mk pc [r0,r1,r2,r3,r4,r5,r6,r7] st).reg b+i.k):=by unfold addrI;rw [if_neg hb,hbb]
  rw [e]
  exact addr_some W i pc st r0 r1 r2 r3 r4 r5 r6 r7 b (by omega) hbb hk (hrr b)
theorem RunB.adr{w:World}{rb:Nat}{n:Int}{mb tn:Nat}{t:Th}{i:Ins}{ad:Int}(h:RunB w rb n mb tn t i ad)(v:Int):RunB (w.setCell ⟨rb,26,none⟩ (.int .i64 v)) rb n mb tn t i v:=by
 obtain⟨hl,h⟩:=h
 refine⟨hl,(heap_setCell_same _ rb 26 _ _ _ h).trans ?_⟩
 obtain⟨pc,regs,st⟩:=t
 obtain⟨r0,r1,r2,r3,r4,r5,r6,r7,rfl⟩:=list8 hl
 rfl
theorem StW.drew{Z:Nat→Prop}{w w1:World}{n:Int}{K:TsK}{tn:Nat}{s:Ts}{t:Th}{i:Ins}{ad:Int}(h:StW Z w w1 n K tn s t i ad):StW Z w w1.drew n K tn s t i ad:=
 ⟨h.run,h.th,h.port,h.res,h.mach.drew,⟨fun i hi=>h.tab.names i hi,fun i hi=>h.tab.uses i hi⟩,on_drew h.only⟩
theorem StW.adr{Z:Nat→Prop}{w w1:World}{n:Int}{K:TsK}{tn:Nat}{s:Ts}{t:Th}{i:Ins}{ad:Int}(h:StW Z w w1 n K tn s t i ad)(hT:TabI w)(v:Int):StW Z w (w1.setCell ⟨w.heap.size+1+1+1,26,none⟩ (.int .i64 v)) n K tn s t i v:=by
 have ho:Only (fun k=>k=w.heap.size+1+1+1) w1 (w1.setCell ⟨w.heap.size+1+1+1,26,none⟩ (.int .i64 v)):=Only.set1 (F:=fun k=>k=w.heap.size+1+1+1) (p:=⟨w.heap.size+1+1+1,26,none⟩) (Only.refl _ w1) rfl _
 obtain⟨a,b,c,d,e,f,g⟩:=h
 have lt:∀ {k:Nat} {o:Obj},k≠w.heap.size+1+1+1→w1.heap[k]? = some o→(w1.setCell ⟨w.heap.size+1+1+1,26,none⟩ (.int .i64 v)).heap[k]? = some o:=fun hn hk=>(ho.block _ (Array.getElem?_eq_some_iff.1 hk).1 hn).trans hk
 refine⟨a.adr v,lt (by omega) b,lt (by omega) c,lt (by omega) d,TsM.runB e (.inr (.inr (.inr (.inr rfl)))) _,f.only ho (fun k e=>?_),?_⟩
 ·have:=hT.new (k:=k) (by omega)
  exact this
 ·exact⟨ho.os.trans g.os,ho.tape.trans g.tape,ho.output.trans g.output,Nat.le_trans g.size ho.size,fun k hk hn=>(ho.block k (Nat.lt_of_lt_of_le hk g.size) (by omega)).trans (g.block k hk hn)⟩
theorem StW.fin{Z:Nat→Prop}{w w2 w3:World}{K:TsK}{s:Ts}{F:Nat→Prop}(hM:TsM (Z4 Z w.heap.size) w2 K s)(h0:Only F w w2)(hF:∀ k,F k→k < w.heap.size→¬Z k)(ho:Only (fun k=>k=w.heap.size+1+1+1∨k=w.heap.size+1+1) w2 w3):TsM Z w3 K s∧Only (fun k=>¬Z k) w w3:=by
 refine⟨(hM.keep ho (fun k e _=>?_)).less (fun k e=>.inl e),?_⟩
 ·rcases e with rfl | rfl
  ·exact .inr (.inr (.inr (.inr rfl)))
  ·exact .inr (.inr (.inr (.inl rfl)))
 ·refine⟨ho.os.trans h0.os,ho.tape.trans h0.tape,ho.output.trans h0.output,Nat.le_trans h0.size ho.size,fun k hk hn=>?_⟩
  have hz:Z k:=Classical.not_not.1 hn
  exact (ho.block k (Nat.lt_of_lt_of_le hk h0.size) (by omega)).trans (h0.block k hk (fun e=>hF k e hk hz))
theorem StW.res2{Z:Nat→Prop}{w w1 w2:World}{n:Int}{K:TsK}{tn:Nat}{s:Ts}{t:Th}{i:Ins}{ad:Int}(h:StW Z w w1 n K tn s t i ad)(ho:Only (fun k=>¬Z4 Z w.heap.size k∨k=w.heap.size+1+1+1) w1 w2):w2.heap[w.heap.size+1+1]? = some (.cells zTh.toArray 79 (0,0))∧w2.heap[w.heap.size]? = some (.cells t.cells.toArray 79 (0,0))∧Only (fun k=>¬Z k) w w2:=by
 refine⟨(ho.block _ (Array.getElem?_eq_some_iff.1 h.res).1 (fun e=>?_)).trans h.res,(ho.block _ (Array.getElem?_eq_some_iff.1 h.th).1 (fun e=>?_)).trans h.th,?_⟩
 ·rcases e with e | e
  ·exact e (.inr (.inr (.inr (.inl rfl))))
  ·omega
 ·rcases e with e | e
  ·exact e (.inr (.inl rfl))
  ·omega
 ·have h0:=h.only
  refine⟨ho.os.trans h0.os,ho.tape.trans h0.tape,ho.output.trans h0.output,Nat.le_trans h0.size ho.size,fun k hk hn=>?_⟩
  have hz:Z k:=Classical.not_not.1 hn
  refine (ho.block k (Nat.lt_of_lt_of_le hk h0.size) (fun e=>?_)).trans (h0.block k hk (fun e=>e))
  rcases e with e | e
  ·exact e (.inl hz)
  ·omega
def StepPost(Z:Nat→Prop)(w:World)(K:TsK)(t:Th)(s:Ts)(e:Ending)(w':World):Prop:=
 e=.returned (.agg t.cells.toArray)∧t.regs.length=8∧TsM Z w' K s∧Only (fun k=>¬Z k) w w'
def flB(s:Ts)(tn:Nat)(i:Ins):Bool:=decide (drainsI i.op) && !s.empty tn || (i.op == 17 && !s.roomy tn)
inductive StepWay(Z:Nat→Prop)(w:World)(n:Int)(K:TsK)(tn:Nat)(s:Ts)(th:Th)(i:Ins)(ad:Nat):Th→Ts→Prop
 | flush (h:flB s tn i=true):StepWay Z w n K tn s th i ad th (s.flush tn)
 | halt (h:flB s tn i=false) (h0:i.op=0):StepWay Z w n K tn s th i ad { th with st:=2 } (s.note tn ⟨12,0,th.pc,ad,0,0,0,false⟩)
 | jump (h:flB s tn i=false) (h0:(i.op == 0)=false) (hj:jumps i.op=true) (gb:Bool) (hg:goesI i th=gb)
   (hc:∀ W,RunB W (w.heap.size+1+1+1) n K.mb tn th i ad→Calls Tryz.prog 153 #[.pointer (some ⟨w.heap.size+1+1+1,0,none⟩)] W fun e w'=>e=.returned (.bool gb)∧∃ m,w'=W.drewN m):StepWay Z w n K tn s th i ad (if gb=true then { th with pc:=i.k } else th.next) s
 | asks (h:flB s tn i=false) (h0:(i.op == 0)=false) (hj:jumps i.op=false) (ha:asksI i.op) (pc2:Int) (q0 q1 q2 q3 q4 q5 q6 q7 st2:Int) (hp:pc2≤1000000∧0≤pc2) (s':Ts)
   (hc:∀ W,RunB W (w.heap.size+1+1+1) n K.mb tn th i ad→TsM (Z4 Z w.heap.size) W K s→Calls Tryz.prog 154 #[.pointer (some ⟨w.heap.size+1+1+1,0,none⟩)] W (RPost (Z4 Z w.heap.size) W (w.heap.size+1+1+1) n K tn i ad ⟨pc2,[q0,q1,q2,q3,q4,q5,q6,q7],st2⟩ s')):StepWay Z w n K tn s th i ad ⟨pc2+1,[q0,q1,q2,q3,q4,q5,q6,q7],st2⟩ s'
 | plain (h:flB s tn i=false) (h0:(i.op == 0)=false) (hj:jumps i.op=false) (ha:¬asksI i.op) (pc2:Int) (q0 q1 q2 q3 q4 q5 q6 q7 st2:Int) (hp:pc2≤1000000∧0≤pc2) (s':Ts)
   (hc:∀ W,RunB W (w.heap.size+1+1+1) n K.mb tn th i ad→TsM (Z4 Z w.heap.size) W K s→Calls Tryz.prog 155 #[.pointer (some ⟨w.heap.size+1+1+1,0,none⟩)] W (RPost (Z4 Z w.heap.size) W (w.heap.size+1+1+1) n K tn i ad ⟨pc2,[q0,q1,q2,q3,q4,q5,q6,q7],st2⟩ s')):StepWay Z w n K tn s th i ad ⟨pc2+1,[q0,q1,q2,q3,q4,q5,q6,q7],st2⟩ s'
set_option maxHeartbeats 8000000 in
theorem step_ts(Z:Nat→Prop)(w:World)(n:Int)(K:TsK)(tn:Nat)(s:Ts)(pc:Nat)(r0 r1 r2 r3 r4 r5 r6 r7:Int)(g:Nat)(len cap:Nat)(i:Ins)(hM:TsM Z w K s)(T:TabI w)(hg:∀ j u,[Value.int .i64 i.op,.int .i64 i.a,.int .i64 i.b,.int .i64 i.c,.int .u32 i.k][j]? = some u→w.cell? ⟨g,pc*5+j,none⟩=some u)(hpc:pc < len)(hlen:len≤1000000)(hr:rightI i len=true)(hk:i.k≤4294967295)(hrr:∀ j,0≤(Th.mk (pc:Int) [r0,r1,r2,r3,r4,r5,r6,r7] 0).reg j∧(Th.mk (pc:Int) [r0,r1,r2,r3,r4,r5,r6,r7] 0).reg j≤4294967295)(ad:Nat)(had:(asksI i.op∧addrI (Th.mk (pc:Int) [r0,r1,r2,r3,r4,r5,r6,r7] 0) i=ad∧(ad:Int) < n)∨(¬asksI i.op∧ad=0))(hn2:n≤100000)(htn:tn < s.ths.length)(hok:s.okB)(hne:s.evs.length≤99999999999)(q:Th)(s':Ts)
  (hway:StepWay Z w n K tn s ⟨(pc:Int),[r0,r1,r2,r3,r4,r5,r6,r7],0⟩ i ad q s'):
  Calls Tryz.prog 107 #[.agg #[.int .i64 (pc:Int),.int .u32 r0,.int .u32 r1,.int .u32 r2,.int .u32 r3,.int .u32 r4,.int .u32 r5,.int .u32 r6,.int .u32 r7,.int .i64 0],.slice (some ⟨g,0,none⟩) len cap,.agg (portV n K.mb tn).toArray] w (StepPost Z w K q s'):=by
 have e0:(portV n K.mb tn).toArray=#[.int .i64 n,.func (.func 156) #[.agg #[.pointer (some ⟨K.mb,0,none⟩),.int .i64 tn]] #[],.func (.func 157) #[.agg #[.pointer (some ⟨K.mb,0,none⟩),.int .i64 tn]] #[],.func (.func 158) #[.agg #[.pointer (some ⟨K.mb,0,none⟩),.int .i64 tn]] #[],.func (.func 159) #[.agg #[.pointer (some ⟨K.mb,0,none⟩),.int .i64 tn]] #[],.func (.func 71) #[.agg #[.pointer (some ⟨K.mb,0,none⟩),.int .i64 tn]] #[],.func (.func 160) #[.agg #[.pointer (some ⟨K.mb,0,none⟩),.int .i64 tn]] #[],.func (.func 161) #[.agg #[.pointer (some ⟨K.mb,0,none⟩),.int .i64 tn]] #[],.func (.func 162) #[.agg #[.pointer (some ⟨K.mb,0,none⟩),.int .i64 tn]] #[],.func (.func 163) #[.agg #[.pointer (some ⟨K.mb,0,none⟩),.int .i64 tn]] #[],.func (.func 73) #[.agg #[.pointer (some ⟨K.mb,0,none⟩),.int .i64 tn]] #[]]:=rfl
 obtain⟨p1,hp1⟩:∃ p:Value,p=.func (.func 156) #[.agg #[.pointer (some ⟨K.mb,0,none⟩),.int .i64 tn]] #[]:=⟨_,rfl⟩
 obtain⟨p2,hp2⟩:∃ p:Value,p=.func (.func 157) #[.agg #[.pointer (some ⟨K.mb,0,none⟩),.int .i64 tn]] #[]:=⟨_,rfl⟩
 obtain⟨p3,hp3⟩:∃ p:Value,p=.func (.func 158) #[.agg #[.pointer (some ⟨K.mb,0,none⟩),.int .i64 tn]] #[]:=⟨_,rfl⟩
 obtain⟨p4,hp4⟩:∃ p:Value,p=.func (.func 159) #[.agg #[.pointer (some ⟨K.mb,0,none⟩),.int .i64 tn]] #[]:=⟨_,rfl⟩
 obtain⟨p5,hp5⟩:∃ p:Value,p=.func (.func 71) #[.agg #[.pointer (some ⟨K.mb,0,none⟩),.int .i64 tn]] #[]:=⟨_,rfl⟩
 obtain⟨p6,hp6⟩:∃ p:Value,p=.func (.func 160) #[.agg #[.pointer (some ⟨K.mb,0,none⟩),.int .i64 tn]] #[]:=⟨_,rfl⟩
 obtain⟨p7,hp7⟩:∃ p:Value,p=.func (.func 161) #[.agg #[.pointer (some ⟨K.mb,0,none⟩),.int .i64 tn]] #[]:=⟨_,rfl⟩
 obtain⟨p8,hp8⟩:∃ p:Value,p=.func (.func 162) #[.agg #[.pointer (some ⟨K.mb,0,none⟩),.int .i64 tn]] #[]:=⟨_,rfl⟩
 obtain⟨p9,hp9⟩:∃ p:Value,p=.func (.func 163) #[.agg #[.pointer (some ⟨K.mb,0,none⟩),.int .i64 tn]] #[]:=⟨_,rfl⟩
 obtain⟨pa,hpa⟩:∃ p:Value,p=.func (.func 73) #[.agg #[.pointer (some ⟨K.mb,0,none⟩),.int .i64 tn]] #[]:=⟨_,rfl⟩
 rw [←hp1,←hp2,←hp3,←hp4,←hp5,←hp6,←hp7,←hp8,←hp9,←hpa] at e0
 obtain⟨iop,hiop⟩:∃ x,x=i.op:=⟨_,rfl⟩
 obtain⟨th0,hth0⟩:∃ th0:Th,th0=⟨pc,[r0,r1,r2,r3,r4,r5,r6,r7],0⟩:=⟨_,rfl⟩
 have hw0:∀ X1 X2 X3 X4:Obj,X1=.cells th0.cells.toArray 79 (0,0)→X2=.cells (portV n K.mb tn).toArray 196 (0,0)→X3=.cells zTh.toArray 79 (0,0)→X4=.cells (runCells n K.mb tn th0 i 0).toArray 229 (0,0)→StW Z w ((((w.alloc X1).alloc X2).alloc X3).alloc X4) n K tn s th0 i 0:=by
  intro X1 X2 X3 X4 h1 h2 h3 h4
  obtain⟨b1,b2,b3,b4,bl⟩:=blk4 w X1 X2 X3 X4
  exact⟨⟨by rw [hth0];rfl,by rw [←h4];exact b4⟩,by rw [←h1];exact b1,by rw [←h2];exact b2,by rw [←h3];exact b3,TsM.guard4 hM X1 X2 X3 X4,T.below bl (Nat.le_refl _),Only.of_below bl (Nat.le_refl _)⟩
 have hel:portV n K.mb tn=[.int .i64 n,p1,p2,p3,p4,p5,p6,p7,p8,p9,pa]:=by simpa using congrArg Array.toList e0
 have HEL:=Lib.hid hel
 have HE0:=Lib.hid e0
 have HW0:=Lib.hid hw0
 have HTH:=Lib.hid hth0
 have HG:=Lib.hid hg
 have HT:=Lib.hid T
 have HTW:=Lib.hid T
 have HAD:=Lib.hid had
 have HWAY:=Lib.hid hway
 have HOK:=Lib.hid hok
 have HRR:=Lib.hid hrr
 rw [e0]
 have glt:=block_lt_of_cell (hg 0 _ rfl)
 have g0:=fun X1 X2 X3 X4=>alloc4_cell (hg 0 _ rfl) X1 X2 X3 X4
 have g1:=fun X1 X2 X3 X4=>alloc4_cell (hg 1 _ rfl) X1 X2 X3 X4
 have g2:=fun X1 X2 X3 X4=>alloc4_cell (hg 2 _ rfl) X1 X2 X3 X4
 have g3:=fun X1 X2 X3 X4=>alloc4_cell (hg 3 _ rfl) X1 X2 X3 X4
 have g4:=fun X1 X2 X3 X4=>alloc4_cell (hg 4 _ rfl) X1 X2 X3 X4
 simp only [Nat.add_zero] at g0
 have q1:(0:Int)≤(pc:Int):=by omega
 have q2:(pc:Int) < len:=by omega
 have hop:=rightI_op hr
 clear hel e0 hw0 hth0 hp1 hp2 hp3 hp4 hp5 hp6 hp7 hp8 hp9 hpa hg hM T hiop had hrr hway hok
 go_enter Tryz.func107,Tryz.ntmps107
 go_wp2_with fail
 refine (right_isa _ (HW0.out _ _ _ _ (by rw [HTH.out];rfl) (by rw [HE0.out]) rfl (by unfold runCells;rw [HEL.out,HTH.out];rfl)).tab i len (by omega) (by omega) hr).mono ?_
 rintro r w1 ⟨rfl,hb1⟩
 have HS:=Lib.hid ((HW0.out _ _ _ _ (by rw [HTH.out];rfl) (by rw [HE0.out]) rfl (by unfold runCells;rw [HEL.out,HTH.out];rfl)).below hb1)
 clear g0 g1 g2 g3 g4 hb1
 obtain⟨ab,hab⟩:∃ ab,decide (asksI i.op)=ab:=⟨_,rfl⟩
 have hask0:∀ W,TabI W→Calls Tryz.prog 150 #[.int .i64 i.op] W fun e w'=>e=.returned (.bool ab)∧W=w':=fun W T=>by have h:=asks_any i.op W T hop.1.1 hop.1.2;rwa [hab] at h
 have HAB:=Lib.hid hab
 obtain⟨c0,c9,c10,c11,c12,c13,c14,c15,c16,c17,c18,c19,c20,c21,c22,c23,c24,c25,c26⟩:=HS.out.run.cells
 clear hab
 go_upto_if 52 with (go_at_call 150;refine (hask0 _ HS.out.tab).mono ?_;rintro r w2 ⟨rfl,rfl⟩)
 clear hask0
 go_cut [3,5,6,7] (fun s3 s5 s6 s7 wx=>s3=.pointer (some ⟨w.heap.size,0,none⟩)∧s5=.pointer (some ⟨w.heap.size+1,0,none⟩)∧s6=.pointer (some ⟨w.heap.size+1+1,0,none⟩)∧s7=.pointer (some ⟨w.heap.size+1+1+1,0,none⟩)∧Hid (StW Z w wx n K tn s th0 i ad))
 case first=>
  rcases HAD.out with⟨ha,hadr,hlt⟩ | ⟨ha,h0⟩
  ·have hab:ab=true:=by rw [←HAB.out];exact decide_eq_true ha
   subst hab
   have hadr2:∀ W,Calls Tryz.prog 151 #[.agg #[.int .i64 (pc:Int),.int .u32 r0,.int .u32 r1,.int .u32 r2,.int .u32 r3,.int .u32 r4,.int .u32 r5,.int .u32 r6,.int .u32 r7,.int .i64 0],.agg #[.int .i64 i.op,.int .i64 i.a,.int .i64 i.b,.int .i64 i.c,.int .u32 i.k]] W fun e w'=>e=.returned (.int .u32 (ad:Int))∧Below W.heap.size W w':=by
    rw [←hadr]
    exact fun W=>addr_any W i (pc:Int) 0 r0 r1 r2 r3 r4 r5 r6 r7 ⟨hop.2.1,hk⟩ HRR.out
   have z1:IntKind.u64.wrap (ad:Int)=ad:=by rw [IntKind.wrap_u64];omega
   have z2:IntKind.u64.wrap n=n:=by rw [IntKind.wrap_u64];omega
   have z3:IntKind.i64.wrap (ad:Int)=ad:=by rw [IntKind.wrap_i64];omega
   have z4:¬n≤(ad:Int):=by omega
   have hth:=HS.out.th
   rw [HTH.out] at hth
   obtain⟨u0,u1,u2,u3,u4,u5,u6,u7,u8,u9⟩:=cells10 hth
   have HADR:=Lib.hid hadr2
   clear ha hadr hth hadr2
   go_wp2_with fail
   go_region_with (go_at_call 151;refine (HADR.out _).mono ?_;rintro r wa ⟨rfl,hba⟩;have HS2:=Lib.hid (HS.out.drew.below hba);have P0:wa.cell? ⟨w.heap.size+1,0,none⟩=some (.int .i64 n):=cell_of_row wa (w.heap.size+1) 0 _ _ _ HS2.out.port;have y26:=HS2.out.run.frozen 26;have y27:=HS2.out.run.cells.2.2.2.2.2.2.2.2.2.2.2.2.2.2.2.2.2.2;clear c0 c9 c10 c11 c12 c13 c14 c15 c16 c17 c18 c19 c20 c21 c22 c23 c24 c25 c26 u0 u1 u2 u3 u4 u5 u6 u7 u8 u9)
   all_goals
    go_wp2_with fail
    go_meet
    exact⟨rfl,rfl,rfl,rfl,Lib.hid (HS2.out.adr HTW.out (ad:Int))⟩
  ·have hab:ab=false:=by rw [←HAB.out];exact decide_eq_false ha
   subst hab
   clear ha
   go_wp2_with fail
   go_meet
   subst h0
   exact⟨rfl,rfl,rfl,rfl,HS⟩
 case rest=>
  obtain⟨rfl,rfl,rfl,rfl,HS⟩:=hcut
  clear HAB HAD HE0 HEL HW0 HG c0 c9 c10 c11 c12 c13 c14 c15 c16 c17 c18 c19 c20 c21 c22 c23 c24 c25 c26
  have hdra:∀ W,Calls Tryz.prog 152 #[.int .i64 i.op] W fun e w'=>e=.returned (.bool (decide (drainsI i.op)))∧W=w':=fun W=>drains_any i.op W
  obtain⟨db,hdb⟩:∃ db,decide (drainsI i.op)=db:=⟨_,rfl⟩
  obtain⟨ob,hob⟩:∃ ob,(i.op == 17)=ob:=⟨_,rfl⟩
  obtain⟨eb,heb⟩:∃ eb,s.empty tn=eb:=⟨_,rfl⟩
  obtain⟨rb,hrb⟩:∃ rb,s.roomy tn=rb:=⟨_,rfl⟩
  have hfl:flB s tn i=(db && !eb || (ob && !rb)):=by unfold flB;rw [hdb,hob,heb,hrb]
  rw [hdb] at hdra
  have hemp:=empty_ts (Z4 Z w.heap.size) wc K s tn HS.out.mach htn
  rw [heb] at hemp
  have hroo:=fun W hM=>room_ts (Z4 Z w.heap.size) W K s tn hM htn
  rw [hrb] at hroo
  obtain⟨fl,hfb⟩:∃ fl,flB s tn i=fl:=⟨_,rfl⟩
  rw [hfb] at hfl
  have HFL:=Lib.hid hfl
  have HFB:=Lib.hid hfb
  have HEMP:=Lib.hid hemp
  have HROO:=Lib.hid hroo
  clear hfl hfb hemp hroo heb hrb
  have P2:wc.cell? ⟨w.heap.size+1,2,none⟩=some (.func (.func 157) #[.agg #[.pointer (some ⟨K.mb,0,none⟩),.int .i64 tn]] #[]):=cell_of_row wc (w.heap.size+1) 2 _ _ _ HS.out.port
  have P4:wc.cell? ⟨w.heap.size+1,4,none⟩=some (.func (.func 159) #[.agg #[.pointer (some ⟨K.mb,0,none⟩),.int .i64 tn]] #[]):=cell_of_row wc (w.heap.size+1) 4 _ _ _ HS.out.port
  obtain⟨c0,c9,c10,c11,c12,c13,c14,c15,c16,c17,c18,c19,c20,c21,c22,c23,c24,c25,c26⟩:=HS.out.run.cells
  have hrd:∀ W,RunB W (w.heap.size+1+1+1) n K.mb tn ⟨(pc:Int),[r0,r1,r2,r3,r4,r5,r6,r7],0⟩ i ad→StW Z w W n K tn s th0 i ad→∀ m w2,w2=W.drewN m→RunB w2 (w.heap.size+1+1+1) n K.mb tn ⟨(pc:Int),[r0,r1,r2,r3,r4,r5,r6,r7],0⟩ i ad∧TsM (Z4 Z w.heap.size) w2 K s∧Only (fun k=>¬Z4 Z w.heap.size k∨k=w.heap.size+1+1+1) W w2:=by
   intro W hR hS m w2 e
   subst e
   exact⟨hR.drewN m,hS.mach.drewN m,on_drewN (Only.refl _ W) m⟩
  have HRD:=Lib.hid hrd
  have h17:db=true→ob=false:=by
   intro e
   rw [←hob,beq_eq_false_iff_ne]
   intro e2
   rw [←hdb,e2] at e
   revert e
   decide
  have H5:Hid ((db=false∧ob=false)∨(db=false∧ob=true∧rb=false)∨(db=false∧ob=true∧rb=true)∨(db=true∧eb=false)∨(db=true∧eb=true∧ob=false)):=Lib.hid (by
   cases db
   ·cases ob
    ·exact .inl ⟨rfl,rfl⟩
    ·cases rb
     ·exact .inr (.inl ⟨rfl,rfl,rfl⟩)
     ·exact .inr (.inr (.inl ⟨rfl,rfl,rfl⟩))
   ·cases eb
    ·exact .inr (.inr (.inr (.inl ⟨rfl,rfl⟩)))
    ·exact .inr (.inr (.inr (.inr ⟨rfl,rfl,h17 rfl⟩))))
  clear hrd h17 hdb
  go_upto_region 14 with (fail)
  go_cut [97] (fun s97 wx=>s97=.bool fl∧Hid (StW Z w wx n K tn s th0 i ad))
  case first=>
   have HSC:=HS
   clear HS
   rcases H5.out with⟨rfl,rfl⟩ | ⟨rfl,rfl,rfl⟩ | ⟨rfl,rfl,rfl⟩ | ⟨rfl,rfl⟩ | ⟨rfl,rfl,rfl⟩
   all_goals
    go_wp2_with (first
     | (go_at_call 152;refine (hdra _).mono ?_;rintro r w2 ⟨rfl,rfl⟩)
     | (go_at_call 159;refine HEMP.out.mono ?_;rintro r w2 ⟨rfl,hb2⟩;have HS2:=Lib.hid (HSC.out.below hb2);have k10:=HS2.out.run.cells.2.2.1;have k2:w2.cell? ⟨w.heap.size+1,2,none⟩=some (.func (.func 157) #[.agg #[.pointer (some ⟨K.mb,0,none⟩),.int .i64 tn]] #[]):=cell_of_row w2 (w.heap.size+1) 2 _ _ _ HS2.out.port;clear hb2)
     | (go_at_call 157;refine (HROO.out _ HS2.out.mach).mono ?_;rintro r w3 ⟨rfl,hb3⟩;have HS3:=Lib.hid (HS2.out.below hb3);clear hb3)
     | (go_at_call 157;refine (HROO.out _ HSC.out.mach).mono ?_;rintro r w3 ⟨rfl,hb3⟩;have HS3:=Lib.hid (HSC.out.below hb3);clear hb3))
    go_meet
    first
     | exact⟨congrArg Value.bool (by rw [HFL.out];rfl),HS3⟩
     | exact⟨congrArg Value.bool (by rw [HFL.out];rfl),HS2⟩
     | exact⟨congrArg Value.bool (by rw [HFL.out];rfl),HSC⟩
  case rest=>
   clear c0 c9 c10 c11 c12 c13 c14 c15 c16 c17 c18 c19 c20 c21 c22 c23 c24 c25 c26 P2 P4 H5 HS
   obtain⟨rfl,HS⟩:=hcut
   have HSR:=Lib.hid HS.out.run
   rw [HTH.out] at HSR
   obtain⟨c0,c9,c10,c11,c12,c13,c14,c15,c16,c17,c18,c19,c20,c21,c22,c23,c24,c25,c26⟩:=HSR.out.cells
   have P5:wc.cell? ⟨w.heap.size+1,5,none⟩=some (.func (.func 71) #[.agg #[.pointer (some ⟨K.mb,0,none⟩),.int .i64 tn]] #[]):=cell_of_row wc (w.heap.size+1) 5 _ _ _ HS.out.port
   have hway:=HWAY.out
   clear HWAY HEMP HROO HFL hdra hob
   cases hway with
   | flush h=>
    obtain rfl:fl=true:=by rw [←HFB.out];exact h
    have hbm:∀ e∈s.buf tn,e.1 < s.mem.length:=fun e he=>HOK.out tn _ (Ts.buf_get (by rw [HS.out.mach.nb];exact htn)) e he
    have HBM:=Lib.hid hbm
    clear h hbm
    go_wp2_with (go_at_call 71;refine (flush_ts (Z4 Z w.heap.size) _ K s tn HS.out.mach htn (by omega) HBM.out).mono ?_;rintro r w2 ⟨rfl,hM2,hO2⟩;have HM2:=Lib.hid hM2;have HRES:=Lib.hid (HS.out.res2 (hO2.mono (fun k e=>.inl e)));have hth:=HRES.out.2.1;rw [HTH.out] at hth;obtain⟨u0,u1,u2,u3,u4,u5,u6,u7,u8,u9⟩:=cells10 hth;have hN:=HRES.out.1;have G0:=frozen_of_row _ (w.heap.size+1+1) 0 _ _ hN;have G1:=frozen_of_row _ (w.heap.size+1+1) 1 _ _ hN;have G2:=frozen_of_row _ (w.heap.size+1+1) 2 _ _ hN;have G3:=frozen_of_row _ (w.heap.size+1+1) 3 _ _ hN;have G4:=frozen_of_row _ (w.heap.size+1+1) 4 _ _ hN;have G5:=frozen_of_row _ (w.heap.size+1+1) 5 _ _ hN;have G6:=frozen_of_row _ (w.heap.size+1+1) 6 _ _ hN;have G7:=frozen_of_row _ (w.heap.size+1+1) 7 _ _ hN;have G8:=frozen_of_row _ (w.heap.size+1+1) 8 _ _ hN;have G9:=frozen_of_row _ (w.heap.size+1+1) 9 _ _ hN;obtain⟨v0,v1,v2,v3,v4,v5,v6,v7,v8,v9⟩:=cells10 hN;clear hN;clear hth hM2 hO2)
    have hN:=HRES.out.1
    obtain⟨hs1,hs2⟩:=set10 hN (.int .i64 (pc:Int)) (.int .u32 r0) (.int .u32 r1) (.int .u32 r2) (.int .u32 r3) (.int .u32 r4) (.int .u32 r5) (.int .u32 r6) (.int .u32 r7) (.int .i64 0)
    refine bodyPost_ret (results_th rfl _ _ (w.heap.size+1+1) _ _ _ _ _ _ _ _ _ _ hs1 rfl) rfl ?_
    have hf:=StW.fin HM2.out HRES.out.2.2 (fun k e _=>e) (hs2.mono (fun k e=>.inr e))
    exact⟨rfl,rfl,hf.1,hf.2⟩
   | halt h h0=>
    obtain rfl:fl=false:=by rw [←HFB.out];exact h
    have d0:(i.op == 0)=true:=by rw [h0];rfl
    have hh:=halts_run (Z4 Z w.heap.size) wc _ n K tn s _ i (ad:Int) HSR.out HS.out.mach (.inr (.inr (.inr (.inr rfl)))) hne
    have hh2:Calls Tryz.prog 148 #[.pointer (some ⟨w.heap.size+1+1+1,0,none⟩)] wc fun e w'=>e=.returned (.agg #[.int .i64 (pc:Int),.int .u32 r0,.int .u32 r1,.int .u32 r2,.int .u32 r3,.int .u32 r4,.int .u32 r5,.int .u32 r6,.int .u32 r7,.int .i64 2])∧TsM (Z4 Z w.heap.size) w' K (s.note tn ⟨12,0,(pc:Int),ad,0,0,0,false⟩)∧Only (fun k=>¬Z4 Z w.heap.size k∨k=w.heap.size+1+1+1) wc w':=hh.mono fun _ _ h=>h
    have HH:=Lib.hid hh2
    clear h h0 hh hh2
    go_wp2_with (go_at_call 148;refine (HH.out).mono ?_;rintro r w2 ⟨rfl,hM2,hO2⟩;have HM2:=Lib.hid hM2;have HRES:=Lib.hid (HS.out.res2 hO2);have hN:=HRES.out.1;have G0:=frozen_of_row _ (w.heap.size+1+1) 0 _ _ hN;have G1:=frozen_of_row _ (w.heap.size+1+1) 1 _ _ hN;have G2:=frozen_of_row _ (w.heap.size+1+1) 2 _ _ hN;have G3:=frozen_of_row _ (w.heap.size+1+1) 3 _ _ hN;have G4:=frozen_of_row _ (w.heap.size+1+1) 4 _ _ hN;have G5:=frozen_of_row _ (w.heap.size+1+1) 5 _ _ hN;have G6:=frozen_of_row _ (w.heap.size+1+1) 6 _ _ hN;have G7:=frozen_of_row _ (w.heap.size+1+1) 7 _ _ hN;have G8:=frozen_of_row _ (w.heap.size+1+1) 8 _ _ hN;have G9:=frozen_of_row _ (w.heap.size+1+1) 9 _ _ hN;obtain⟨v0,v1,v2,v3,v4,v5,v6,v7,v8,v9⟩:=cells10 hN;clear hN;clear hM2 hO2)
    have hN:=HRES.out.1
    obtain⟨hs1,hs2⟩:=set10 hN (.int .i64 (pc:Int)) (.int .u32 r0) (.int .u32 r1) (.int .u32 r2) (.int .u32 r3) (.int .u32 r4) (.int .u32 r5) (.int .u32 r6) (.int .u32 r7) (.int .i64 2)
    refine bodyPost_ret (results_th rfl _ _ (w.heap.size+1+1) _ _ _ _ _ _ _ _ _ _ hs1 rfl) rfl ?_
    have hf:=StW.fin HM2.out HRES.out.2.2 (fun k e _=>e) (hs2.mono (fun k e=>.inr e))
    exact⟨rfl,rfl,hf.1,hf.2⟩
   | jump h h0 hj gb hg hc=>
    obtain rfl:fl=false:=by rw [←HFB.out];exact h
    have d0:=h0
    have hjmp:∀ W,TabI W→Calls Tryz.prog 86 #[.int .i64 i.op] W fun e w'=>e=.returned (.bool true)∧W=w':=fun W T=>by have h:=jumps_any i.op W T;rwa [hj] at h
    have HC:=Lib.hid hc
    have k0:=hop.2.1
    have hz:=HRD.out wc HSR.out HS.out
    have HZ:=Lib.hid hz
    clear h h0 hj hg hc hz
    cases gb
    ·go_wp2_with (first
      | (go_at_call 86;refine (hjmp _ HS.out.tab).mono ?_;rintro r w2 ⟨rfl,rfl⟩)
      | (go_at_call 153;refine (HC.out _ HSR.out).mono ?_;rintro r w2 ⟨rfl,m,hw2⟩;obtain⟨hR2,hM2,hO2⟩:=HZ.out m w2 hw2;have HR2:=Lib.hid hR2;have HM2:=Lib.hid hM2;have HRES:=Lib.hid (HS.out.res2 hO2);obtain⟨x0,x1,x2,x3,x4,x5,x6,x7,x8,x9⟩:=cellsT hR2;have y0:=hR2.frozen 0;have hN:=HRES.out.1;have G0:=frozen_of_row _ (w.heap.size+1+1) 0 _ _ hN;have G1:=frozen_of_row _ (w.heap.size+1+1) 1 _ _ hN;have G2:=frozen_of_row _ (w.heap.size+1+1) 2 _ _ hN;have G3:=frozen_of_row _ (w.heap.size+1+1) 3 _ _ hN;have G4:=frozen_of_row _ (w.heap.size+1+1) 4 _ _ hN;have G5:=frozen_of_row _ (w.heap.size+1+1) 5 _ _ hN;have G6:=frozen_of_row _ (w.heap.size+1+1) 6 _ _ hN;have G7:=frozen_of_row _ (w.heap.size+1+1) 7 _ _ hN;have G8:=frozen_of_row _ (w.heap.size+1+1) 8 _ _ hN;have G9:=frozen_of_row _ (w.heap.size+1+1) 9 _ _ hN;obtain⟨v0,v1,v2,v3,v4,v5,v6,v7,v8,v9⟩:=cells10 hN;clear hN;clear hR2 hM2 hO2 hw2))
     have hN:(w2.setCell ⟨w.heap.size+1+1+1,0,none⟩ (.int .i64 ((pc:Int)+1))).heap[w.heap.size+1+1]? = some (.cells zTh.toArray 79 (0,0)):=(Only.set1 (F:=fun k=>k=w.heap.size+1+1+1) (p:=⟨w.heap.size+1+1+1,0,none⟩) (Only.refl _ w2) rfl _).block _ (Array.getElem?_eq_some_iff.1 HRES.out.1).1 (by omega) |>.trans HRES.out.1
     have ho1:Only (fun k=>k=w.heap.size+1+1+1∨k=w.heap.size+1+1) w2 (w2.setCell ⟨w.heap.size+1+1+1,0,none⟩ (.int .i64 ((pc:Int)+1))):=Only.set1 (p:=⟨w.heap.size+1+1+1,0,none⟩) (Only.refl _ _) (.inl rfl) _
     obtain⟨hs1,hs2⟩:=set10 hN (.int .i64 ((pc:Int)+1)) (.int .u32 r0) (.int .u32 r1) (.int .u32 r2) (.int .u32 r3) (.int .u32 r4) (.int .u32 r5) (.int .u32 r6) (.int .u32 r7) (.int .i64 0)
     refine bodyPost_ret (results_th rfl _ _ (w.heap.size+1+1) _ _ _ _ _ _ _ _ _ _ hs1 rfl) rfl ?_
     have hf:=StW.fin HM2.out HRES.out.2.2 (fun k e _=>e) (ho1.trans (hs2.mono (fun k e=>.inr e)) (fun k e=>.inl e))
     exact⟨rfl,rfl,hf.1,hf.2⟩
    ·go_wp2_with (first
      | (go_at_call 86;refine (hjmp _ HS.out.tab).mono ?_;rintro r w2 ⟨rfl,rfl⟩)
      | (go_at_call 153;refine (HC.out _ HSR.out).mono ?_;rintro r w2 ⟨rfl,m,hw2⟩;obtain⟨hR2,hM2,hO2⟩:=HZ.out m w2 hw2;have HR2:=Lib.hid hR2;have HM2:=Lib.hid hM2;have HRES:=Lib.hid (HS.out.res2 hO2);obtain⟨x0,x1,x2,x3,x4,x5,x6,x7,x8,x9⟩:=cellsT hR2;have y14:=hR2.cells.2.2.2.2.2.2.1;have y0:=hR2.frozen 0;have hN:=HRES.out.1;have G0:=frozen_of_row _ (w.heap.size+1+1) 0 _ _ hN;have G1:=frozen_of_row _ (w.heap.size+1+1) 1 _ _ hN;have G2:=frozen_of_row _ (w.heap.size+1+1) 2 _ _ hN;have G3:=frozen_of_row _ (w.heap.size+1+1) 3 _ _ hN;have G4:=frozen_of_row _ (w.heap.size+1+1) 4 _ _ hN;have G5:=frozen_of_row _ (w.heap.size+1+1) 5 _ _ hN;have G6:=frozen_of_row _ (w.heap.size+1+1) 6 _ _ hN;have G7:=frozen_of_row _ (w.heap.size+1+1) 7 _ _ hN;have G8:=frozen_of_row _ (w.heap.size+1+1) 8 _ _ hN;have G9:=frozen_of_row _ (w.heap.size+1+1) 9 _ _ hN;obtain⟨v0,v1,v2,v3,v4,v5,v6,v7,v8,v9⟩:=cells10 hN;clear hN;clear hR2 hM2 hO2 hw2))
     have hN:(w2.setCell ⟨w.heap.size+1+1+1,0,none⟩ (.int .i64 (i.k))).heap[w.heap.size+1+1]? = some (.cells zTh.toArray 79 (0,0)):=(Only.set1 (F:=fun k=>k=w.heap.size+1+1+1) (p:=⟨w.heap.size+1+1+1,0,none⟩) (Only.refl _ w2) rfl _).block _ (Array.getElem?_eq_some_iff.1 HRES.out.1).1 (by omega) |>.trans HRES.out.1
     have ho1:Only (fun k=>k=w.heap.size+1+1+1∨k=w.heap.size+1+1) w2 (w2.setCell ⟨w.heap.size+1+1+1,0,none⟩ (.int .i64 (i.k))):=Only.set1 (p:=⟨w.heap.size+1+1+1,0,none⟩) (Only.refl _ _) (.inl rfl) _
     obtain⟨hs1,hs2⟩:=set10 hN (.int .i64 i.k) (.int .u32 r0) (.int .u32 r1) (.int .u32 r2) (.int .u32 r3) (.int .u32 r4) (.int .u32 r5) (.int .u32 r6) (.int .u32 r7) (.int .i64 0)
     refine bodyPost_ret (results_th rfl _ _ (w.heap.size+1+1) _ _ _ _ _ _ _ _ _ _ hs1 rfl) rfl ?_
     have hf:=StW.fin HM2.out HRES.out.2.2 (fun k e _=>e) (ho1.trans (hs2.mono (fun k e=>.inr e)) (fun k e=>.inl e))
     exact⟨rfl,rfl,hf.1,hf.2⟩
   | asks h h0 hj ha pc2 q0 q1 q2 q3 q4 q5 q6 q7 st2 hp s' hc=>
    obtain rfl:fl=false:=by rw [←HFB.out];exact h
    clear h
    have d0:=h0
    have hjmp:∀ W,TabI W→Calls Tryz.prog 86 #[.int .i64 i.op] W fun e w'=>e=.returned (.bool false)∧W=w':=fun W T=>by have h:=jumps_any i.op W T;rwa [hj] at h
    have hask:∀ W,TabI W→Calls Tryz.prog 150 #[.int .i64 i.op] W fun e w'=>e=.returned (.bool true)∧W=w':=fun W T=>by have h:=asks_any i.op W T hop.1.1 hop.1.2;rwa [show decide (asksI i.op)=true from decide_eq_true ha] at h
    have HC:=Lib.hid hc
    obtain⟨hp1,hp2⟩:=hp
    clear hc ha hj h0
    go_wp2_with (first
     | (go_at_call 86;refine (hjmp _ HS.out.tab).mono ?_;rintro r w2 ⟨rfl,rfl⟩)
     | (go_at_call 150;refine (hask _ HS.out.tab).mono ?_;rintro r w2 ⟨rfl,rfl⟩)
     | (go_at_call 154;refine (HC.out _ HSR.out HS.out.mach).mono ?_;rintro r w2 ⟨rfl,hR2,hM2,hO2⟩;have HR2:=Lib.hid hR2;have HM2:=Lib.hid hM2;have HRES:=Lib.hid (HS.out.res2 hO2);obtain⟨x0,x1,x2,x3,x4,x5,x6,x7,x8,x9⟩:=cellsT hR2;have y0:=hR2.frozen 0;have hN:=HRES.out.1;have G0:=frozen_of_row _ (w.heap.size+1+1) 0 _ _ hN;have G1:=frozen_of_row _ (w.heap.size+1+1) 1 _ _ hN;have G2:=frozen_of_row _ (w.heap.size+1+1) 2 _ _ hN;have G3:=frozen_of_row _ (w.heap.size+1+1) 3 _ _ hN;have G4:=frozen_of_row _ (w.heap.size+1+1) 4 _ _ hN;have G5:=frozen_of_row _ (w.heap.size+1+1) 5 _ _ hN;have G6:=frozen_of_row _ (w.heap.size+1+1) 6 _ _ hN;have G7:=frozen_of_row _ (w.heap.size+1+1) 7 _ _ hN;have G8:=frozen_of_row _ (w.heap.size+1+1) 8 _ _ hN;have G9:=frozen_of_row _ (w.heap.size+1+1) 9 _ _ hN;obtain⟨v0,v1,v2,v3,v4,v5,v6,v7,v8,v9⟩:=cells10 hN;clear hN;clear hR2 hM2 hO2))
    have hN:(w2.setCell ⟨w.heap.size+1+1+1,0,none⟩ (.int .i64 (pc2+1))).heap[w.heap.size+1+1]? = some (.cells zTh.toArray 79 (0,0)):=(Only.set1 (F:=fun k=>k=w.heap.size+1+1+1) (p:=⟨w.heap.size+1+1+1,0,none⟩) (Only.refl _ w2) rfl _).block _ (Array.getElem?_eq_some_iff.1 HRES.out.1).1 (by omega) |>.trans HRES.out.1
    have ho1:Only (fun k=>k=w.heap.size+1+1+1∨k=w.heap.size+1+1) w2 (w2.setCell ⟨w.heap.size+1+1+1,0,none⟩ (.int .i64 (pc2+1))):=Only.set1 (p:=⟨w.heap.size+1+1+1,0,none⟩) (Only.refl _ _) (.inl rfl) _
    obtain⟨hs1,hs2⟩:=set10 hN (.int .i64 (pc2+1)) (.int .u32 q0) (.int .u32 q1) (.int .u32 q2) (.int .u32 q3) (.int .u32 q4) (.int .u32 q5) (.int .u32 q6) (.int .u32 q7) (.int .i64 st2)
    refine bodyPost_ret (results_th rfl _ _ (w.heap.size+1+1) _ _ _ _ _ _ _ _ _ _ hs1 rfl) rfl ?_
    have hf:=StW.fin HM2.out HRES.out.2.2 (fun k e _=>e) (ho1.trans (hs2.mono (fun k e=>.inr e)) (fun k e=>.inl e))
    exact⟨rfl,rfl,hf.1,hf.2⟩
   | plain h h0 hj ha pc2 q0 q1 q2 q3 q4 q5 q6 q7 st2 hp s' hc=>
    obtain rfl:fl=false:=by rw [←HFB.out];exact h
    clear h
    have d0:=h0
    have hjmp:∀ W,TabI W→Calls Tryz.prog 86 #[.int .i64 i.op] W fun e w'=>e=.returned (.bool false)∧W=w':=fun W T=>by have h:=jumps_any i.op W T;rwa [hj] at h
    have hask:∀ W,TabI W→Calls Tryz.prog 150 #[.int .i64 i.op] W fun e w'=>e=.returned (.bool false)∧W=w':=fun W T=>by have h:=asks_any i.op W T hop.1.1 hop.1.2;rwa [show decide (asksI i.op)=false from decide_eq_false ha] at h
    have HC:=Lib.hid hc
    obtain⟨hp1,hp2⟩:=hp
    clear hc ha hj h0
    go_wp2_with (first
     | (go_at_call 86;refine (hjmp _ HS.out.tab).mono ?_;rintro r w2 ⟨rfl,rfl⟩)
     | (go_at_call 150;refine (hask _ HS.out.tab).mono ?_;rintro r w2 ⟨rfl,rfl⟩)
     | (go_at_call 155;refine (HC.out _ HSR.out HS.out.mach).mono ?_;rintro r w2 ⟨rfl,hR2,hM2,hO2⟩;have HR2:=Lib.hid hR2;have HM2:=Lib.hid hM2;have HRES:=Lib.hid (HS.out.res2 hO2);obtain⟨x0,x1,x2,x3,x4,x5,x6,x7,x8,x9⟩:=cellsT hR2;have y0:=hR2.frozen 0;have hN:=HRES.out.1;have G0:=frozen_of_row _ (w.heap.size+1+1) 0 _ _ hN;have G1:=frozen_of_row _ (w.heap.size+1+1) 1 _ _ hN;have G2:=frozen_of_row _ (w.heap.size+1+1) 2 _ _ hN;have G3:=frozen_of_row _ (w.heap.size+1+1) 3 _ _ hN;have G4:=frozen_of_row _ (w.heap.size+1+1) 4 _ _ hN;have G5:=frozen_of_row _ (w.heap.size+1+1) 5 _ _ hN;have G6:=frozen_of_row _ (w.heap.size+1+1) 6 _ _ hN;have G7:=frozen_of_row _ (w.heap.size+1+1) 7 _ _ hN;have G8:=frozen_of_row _ (w.heap.size+1+1) 8 _ _ hN;have G9:=frozen_of_row _ (w.heap.size+1+1) 9 _ _ hN;obtain⟨v0,v1,v2,v3,v4,v5,v6,v7,v8,v9⟩:=cells10 hN;clear hN;clear hR2 hM2 hO2))
    have hN:(w2.setCell ⟨w.heap.size+1+1+1,0,none⟩ (.int .i64 (pc2+1))).heap[w.heap.size+1+1]? = some (.cells zTh.toArray 79 (0,0)):=(Only.set1 (F:=fun k=>k=w.heap.size+1+1+1) (p:=⟨w.heap.size+1+1+1,0,none⟩) (Only.refl _ w2) rfl _).block _ (Array.getElem?_eq_some_iff.1 HRES.out.1).1 (by omega) |>.trans HRES.out.1
    have ho1:Only (fun k=>k=w.heap.size+1+1+1∨k=w.heap.size+1+1) w2 (w2.setCell ⟨w.heap.size+1+1+1,0,none⟩ (.int .i64 (pc2+1))):=Only.set1 (p:=⟨w.heap.size+1+1+1,0,none⟩) (Only.refl _ _) (.inl rfl) _
    obtain⟨hs1,hs2⟩:=set10 hN (.int .i64 (pc2+1)) (.int .u32 q0) (.int .u32 q1) (.int .u32 q2) (.int .u32 q3) (.int .u32 q4) (.int .u32 q5) (.int .u32 q6) (.int .u32 q7) (.int .i64 st2)
    refine bodyPost_ret (results_th rfl _ _ (w.heap.size+1+1) _ _ _ _ _ _ _ _ _ _ hs1 rfl) rfl ?_
    have hf:=StW.fin HM2.out HRES.out.2.2 (fun k e _=>e) (ho1.trans (hs2.mono (fun k e=>.inr e)) (fun k e=>.inl e))
    exact⟨rfl,rfl,hf.1,hf.2⟩
end Go.Proofs.YtcnmhgblbikfkaaGreatDoor.As.T
