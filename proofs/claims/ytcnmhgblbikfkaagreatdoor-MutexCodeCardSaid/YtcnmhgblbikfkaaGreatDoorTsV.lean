/- The walk of a machine's step: a thread's next instruction. -/
import Derived.Test.YtcnmhgblbikfkaaGreatDoorGh
import Derived.StillTailTactics
import Derived.Deep.DeepCutAuto
set_option linter.unusedVariables false
set_option linter.unusedSimpArgs false
set_option maxRecDepth 20000
namespace Go.Proofs.YtcnmhgblbikfkaaGreatDoor.As.T
open Go.RowKit

def CodesAt(w:World)(cb:Nat)(len:Nat→Nat)(g:Nat→Nat)(cap:Nat→Nat)(T:Nat):Prop:=∀ t,t < T→w.cell? ⟨cb,t,none⟩=some (.slice (some ⟨g t,0,none⟩) (len t) (cap t))
theorem TsAt.setTh{w:World}{K:TsK}{s:Ts}{ev kv:Value}{marr tarr barr:Array Value}(h:TsAt w K s ev kv marr tarr barr)(hd:TsD K ev kv){t:Nat}(ht:t < s.ths.length){th:Th}(h8:th.regs.length=8):
  ∃ tarr',TsAt (w.setCells K.tb (t*10) th.cells) K { s with ths:=s.ths.set t th } ev kv marr tarr' barr:=by
 have hO:=on_setCells (b:=K.tb) th.cells (t*10) w
 have hl:th.cells.length=10:=by simp [Th.cells,w32,h8]
 obtain⟨q0,hq0⟩:∃ u,s.ths[t]? = some u:=⟨_,List.getElem?_eq_getElem ht⟩
 obtain⟨e8,hc0⟩:=h.ct t q0 hq0
 have hl0:q0.cells.length=10:=by simp [Th.cells,w32,e8]
 have hbnd:t*10+10≤tarr.size:=by
  have:=(Array.getElem?_eq_some_iff.1 (hc0 9 _ (List.getElem?_eq_getElem (by rw [hl0];decide)))).1
  omega
 have lt:∀ {k:Nat} {o:Obj},w.heap[k]? = some o→k≠K.tb→(w.setCells K.tb (t*10) th.cells).heap[k]? = some o:=fun hk hf=>(hO.block _ (Array.getElem?_eq_some_iff.1 hk).1 hf).trans hk
 obtain⟨tarr',g1,g2,g3,g4⟩:=heap_setCells (b:=K.tb) (t:=79) th.cells (t*10) w tarr h.ht (by rw [hl];omega)
 refine⟨tarr',?_,lt h.hm hd.d4,h.cm,g1,fun j q' hj=>?_,lt h.hq (fun e=>hd.d6 e.symm),h.cq,own_only h.oe hO (fun k e f=>(hd.e1 k e).2.2.1 f),own_only h.ok hO (fun k e f=>(hd.e2 k e).2.2.1 f)⟩
 ·rw [show ({ s with ths:=s.ths.set t th }:Ts).ths.length=s.ths.length from List.length_set]
  exact lt h.hb hd.d2
 ·have hj':(s.ths.set t th)[j]? = some q':=hj
  rw [List.getElem?_set] at hj'
  by_cases e:t=j
  ·subst e
   rw [if_pos rfl,if_pos ht] at hj'
   injection hj' with hj'
   subst hj'
   exact⟨h8,fun i u hu=>g3 i u hu⟩
  ·rw [if_neg e] at hj'
   obtain⟨f8,hc1⟩:=h.ct j q' hj'
   refine⟨f8,fun i u hu=>?_⟩
   have hi:i < 10:=by
    have:q'.cells.length=10:=by simp [Th.cells,w32,f8]
    rw [←this];exact (List.getElem?_eq_some_iff.1 hu).1
   rw [g4 (j*10+i) (by rw [hl];omega)]
   exact hc1 i u hu
theorem TsM.setTh{Z:Nat→Prop}{w:World}{K:TsK}{s:Ts}(h:TsM Z w K s){t:Nat}(ht:t < s.ths.length){th:Th}(h8:th.regs.length=8):
  TsM Z (w.setCells K.tb (t*10) th.cells) K { s with ths:=s.ths.set t th }∧Only (fun k=>¬Z k) w (w.setCells K.tb (t*10) th.cells):=by
 obtain⟨h1,h2,h3,h4,h5,ev,kv,marr,tarr,barr,ha,hd,hz⟩:=h
 obtain⟨tarr',ha'⟩:=TsAt.setTh ha hd ht h8
 have hO:Only (fun k=>¬Z k) w (w.setCells K.tb (t*10) th.cells):=(on_setCells (b:=K.tb) th.cells (t*10) w).mono (fun k e hzz=>hz k hzz (by subst e;exact .inr (.inr (.inl rfl))))
 exact⟨⟨fun k hk=>Nat.lt_of_lt_of_le (h1 k hk) hO.size,Nat.le_trans h2 hO.size,by rw [List.length_set];exact h3,h4,h5,ev,kv,marr,tarr',barr,ha',hd,hz⟩,hO⟩
def StR(cb g len cap tn:Nat)(K:TsK)(T:Nat)(th:Th)(W:World):Prop:=
 W.cell? ⟨K.mb,1,none⟩=some (.slice (some ⟨K.tb,0,none⟩) T K.tc)∧W.cell? ⟨K.mb,0,none⟩=some K.cv∧(∀ i u,th.cells[i]? = some u→W.cell? ⟨K.tb,tn*10+i,none⟩=some u∧W.frozen? ⟨K.tb,tn*10+i,none⟩=false)∧W.cell? ⟨cb,tn,none⟩=some (.slice (some ⟨g,0,none⟩) len cap)
theorem TsM.reads{Z:Nat→Prop}{w:World}{K:TsK}{s:Ts}{th:Th}{tn cb g len cap:Nat}(h:TsM Z w K s)(hth:s.ths[tn]? = some th)(hc:w.cell? ⟨cb,tn,none⟩=some (.slice (some ⟨g,0,none⟩) len cap)):StR cb g len cap tn K s.ths.length th w:=by
 obtain⟨_,_,_,_,_,ev,kv,ma,ta,ba,A,_⟩:=h
 refine⟨cell_of_row _ _ 1 _ _ _ A.hb,cell_of_row _ _ 0 _ _ _ A.hb,fun i u hu=>⟨?_,frozen_of_row _ _ _ _ _ A.ht⟩,hc⟩
 rw [cell_of_row _ _ _ _ _ _ A.ht]
 exact (A.ct tn th hth).2 i u hu
theorem sizeT{n:Nat}(hn:n=10)(W:World):Sem.run Tryz.prog (sizeOf 79) W=.ok n W:=by subst hn;go_simp
theorem finS{Z:Nat→Prop}{w W:World}{K:TsK}{s:Ts}{gx:Nat}(hr:W.heap[gx]? = some (.cells #[.int .i64 0,.int .u32 0,.int .u32 0,.int .u32 0,.int .u32 0,.int .u32 0,.int .u32 0,.int .u32 0,.int .u32 0,.int .i64 0] 79 (0,0)))(hM:TsM (fun k=>Z k∨k=gx) W K s)(hO:Only (fun k=>¬Z k) w W)(hg:w.heap.size≤gx)(pc2 q0 q1 q2 q3 q4 q5 q6 q7 st2:Int):
  (((((((((((W.setCell ⟨gx,0,none⟩ (.int .i64 pc2)).setCell ⟨gx,1,none⟩ (.int .u32 q0)).setCell ⟨gx,2,none⟩ (.int .u32 q1)).setCell ⟨gx,3,none⟩ (.int .u32 q2)).setCell ⟨gx,4,none⟩ (.int .u32 q3)).setCell ⟨gx,5,none⟩ (.int .u32 q4)).setCell ⟨gx,6,none⟩ (.int .u32 q5)).setCell ⟨gx,7,none⟩ (.int .u32 q6)).setCell ⟨gx,8,none⟩ (.int .u32 q7)).setCell ⟨gx,9,none⟩ (.int .i64 st2))).heap[gx]? = some (.cells #[.int .i64 pc2,.int .u32 q0,.int .u32 q1,.int .u32 q2,.int .u32 q3,.int .u32 q4,.int .u32 q5,.int .u32 q6,.int .u32 q7,.int .i64 st2] 79 (0,0))∧TsM (fun k=>Z k∨k=gx) (((((((((((W.setCell ⟨gx,0,none⟩ (.int .i64 pc2)).setCell ⟨gx,1,none⟩ (.int .u32 q0)).setCell ⟨gx,2,none⟩ (.int .u32 q1)).setCell ⟨gx,3,none⟩ (.int .u32 q2)).setCell ⟨gx,4,none⟩ (.int .u32 q3)).setCell ⟨gx,5,none⟩ (.int .u32 q4)).setCell ⟨gx,6,none⟩ (.int .u32 q5)).setCell ⟨gx,7,none⟩ (.int .u32 q6)).setCell ⟨gx,8,none⟩ (.int .u32 q7)).setCell ⟨gx,9,none⟩ (.int .i64 st2))) K s∧Only (fun k=>¬Z k) w (((((((((((W.setCell ⟨gx,0,none⟩ (.int .i64 pc2)).setCell ⟨gx,1,none⟩ (.int .u32 q0)).setCell ⟨gx,2,none⟩ (.int .u32 q1)).setCell ⟨gx,3,none⟩ (.int .u32 q2)).setCell ⟨gx,4,none⟩ (.int .u32 q3)).setCell ⟨gx,5,none⟩ (.int .u32 q4)).setCell ⟨gx,6,none⟩ (.int .u32 q5)).setCell ⟨gx,7,none⟩ (.int .u32 q6)).setCell ⟨gx,8,none⟩ (.int .u32 q7)).setCell ⟨gx,9,none⟩ (.int .i64 st2))):=by
 obtain⟨h1,h2⟩:=set10 hr (.int .i64 pc2) (.int .u32 q0) (.int .u32 q1) (.int .u32 q2) (.int .u32 q3) (.int .u32 q4) (.int .u32 q5) (.int .u32 q6) (.int .u32 q7) (.int .i64 st2)
 refine⟨h1,hM.keep h2 (fun k e _=>.inr e),?_⟩
 refine⟨h2.os.trans hO.os,h2.tape.trans hO.tape,h2.output.trans hO.output,Nat.le_trans hO.size h2.size,fun k hk hn=>?_⟩
 exact (h2.block k (Nat.lt_of_lt_of_le hk hO.size) (by omega)).trans (hO.block k hk hn)
set_option maxHeartbeats 16000000 in
theorem mstep_ts(Z:Nat→Prop)(w:World)(K:TsK)(s s':Ts)(tn:Nat)(pc st:Int)(r0 r1 r2 r3 r4 r5 r6 r7:Int)(pc2 st2:Int)(q0 q1 q2 q3 q4 q5 q6 q7:Int)(cb ccap g len cap:Nat)(h:TsM Z w K s)(hcv:K.cv=.slice (some ⟨cb,0,none⟩) s.ths.length ccap)(hZc:Z cb)(hcb:w.cell? ⟨cb,tn,none⟩=some (.slice (some ⟨g,0,none⟩) len cap))(hth:s.ths[tn]? = some ⟨pc,[r0,r1,r2,r3,r4,r5,r6,r7],st⟩)(hths:s'.ths=s.ths)
  (hst:∀ (Z':Nat→Prop) (W:World),TsM Z' W K s→Only (fun k=>¬Z k) w W→(∀ k,Z k→Z' k)→Calls Tryz.prog 107 #[.agg #[.int .i64 pc,.int .u32 r0,.int .u32 r1,.int .u32 r2,.int .u32 r3,.int .u32 r4,.int .u32 r5,.int .u32 r6,.int .u32 r7,.int .i64 st],.slice (some ⟨g,0,none⟩) len cap,.agg (portV (s.mem.length:Int) K.mb tn).toArray] W (fun e w'=>e=.returned (.agg #[.int .i64 pc2,.int .u32 q0,.int .u32 q1,.int .u32 q2,.int .u32 q3,.int .u32 q4,.int .u32 q5,.int .u32 q6,.int .u32 q7,.int .i64 st2])∧TsM Z' w' K s'∧Only (fun k=>¬Z' k) W w')):
  Calls Tryz.prog 70 #[.pointer (some ⟨K.mb,0,none⟩),.int .i64 tn] w fun e w'=>e=.returned (.tuple #[])∧TsM Z w' K { s' with ths:=s'.ths.set tn ⟨pc2,[q0,q1,q2,q3,q4,q5,q6,q7],st2⟩ }∧Only (fun k=>¬Z k) w w':=by
 have htn:tn < s.ths.length:=(List.getElem?_eq_some_iff.1 hth).1
 obtain⟨cs,hcs⟩:∃ cs:Array Value,cs=#[.int .i64 pc,.int .u32 r0,.int .u32 r1,.int .u32 r2,.int .u32 r3,.int .u32 r4,.int .u32 r5,.int .u32 r6,.int .u32 r7,.int .i64 st]:=⟨_,rfl⟩
 obtain⟨pv,hpv⟩:∃ p:Array Value,p=(portV (s.mem.length:Int) K.mb tn).toArray:=⟨_,rfl⟩
 rw [←hpv] at hst
 have hi1:(tn:Int) < (s.ths.length:Int):=by omega
 have hS0:=TsM.reads h hth hcb
 have hrd:∀ W,StR cb g len cap tn K s.ths.length ⟨pc,[r0,r1,r2,r3,r4,r5,r6,r7],st⟩ W→W.cell? ⟨K.tb,tn*10,none⟩=some (.int .i64 pc)∧W.cell? ⟨K.tb,tn*10+1,none⟩=some (.int .u32 r0)∧W.cell? ⟨K.tb,tn*10+2,none⟩=some (.int .u32 r1)∧W.cell? ⟨K.tb,tn*10+3,none⟩=some (.int .u32 r2)∧W.cell? ⟨K.tb,tn*10+4,none⟩=some (.int .u32 r3)∧W.cell? ⟨K.tb,tn*10+5,none⟩=some (.int .u32 r4)∧W.cell? ⟨K.tb,tn*10+6,none⟩=some (.int .u32 r5)∧W.cell? ⟨K.tb,tn*10+7,none⟩=some (.int .u32 r6)∧W.cell? ⟨K.tb,tn*10+8,none⟩=some (.int .u32 r7)∧W.cell? ⟨K.tb,tn*10+9,none⟩=some (.int .i64 st):=fun W hW=>⟨(hW.2.2.1 0 _ rfl).1,(hW.2.2.1 1 _ rfl).1,(hW.2.2.1 2 _ rfl).1,(hW.2.2.1 3 _ rfl).1,(hW.2.2.1 4 _ rfl).1,(hW.2.2.1 5 _ rfl).1,(hW.2.2.1 6 _ rfl).1,(hW.2.2.1 7 _ rfl).1,(hW.2.2.1 8 _ rfl).1,(hW.2.2.1 9 _ rfl).1⟩
 have e0:∀ W,StR cb g len cap tn K s.ths.length ⟨pc,[r0,r1,r2,r3,r4,r5,r6,r7],st⟩ W→W.cell? ⟨K.tb,tn*10,none⟩=some (.int .i64 pc):=fun W hW=>((hrd W hW).1)
 have e1:∀ W,StR cb g len cap tn K s.ths.length ⟨pc,[r0,r1,r2,r3,r4,r5,r6,r7],st⟩ W→W.cell? ⟨K.tb,tn*10+1,none⟩=some (.int .u32 r0):=fun W hW=>((hrd W hW).2.1)
 have e2:∀ W,StR cb g len cap tn K s.ths.length ⟨pc,[r0,r1,r2,r3,r4,r5,r6,r7],st⟩ W→W.cell? ⟨K.tb,tn*10+2,none⟩=some (.int .u32 r1):=fun W hW=>((hrd W hW).2.2.1)
 have e3:∀ W,StR cb g len cap tn K s.ths.length ⟨pc,[r0,r1,r2,r3,r4,r5,r6,r7],st⟩ W→W.cell? ⟨K.tb,tn*10+3,none⟩=some (.int .u32 r2):=fun W hW=>((hrd W hW).2.2.2.1)
 have e4:∀ W,StR cb g len cap tn K s.ths.length ⟨pc,[r0,r1,r2,r3,r4,r5,r6,r7],st⟩ W→W.cell? ⟨K.tb,tn*10+4,none⟩=some (.int .u32 r3):=fun W hW=>((hrd W hW).2.2.2.2.1)
 have e5:∀ W,StR cb g len cap tn K s.ths.length ⟨pc,[r0,r1,r2,r3,r4,r5,r6,r7],st⟩ W→W.cell? ⟨K.tb,tn*10+5,none⟩=some (.int .u32 r4):=fun W hW=>((hrd W hW).2.2.2.2.2.1)
 have e6:∀ W,StR cb g len cap tn K s.ths.length ⟨pc,[r0,r1,r2,r3,r4,r5,r6,r7],st⟩ W→W.cell? ⟨K.tb,tn*10+6,none⟩=some (.int .u32 r5):=fun W hW=>((hrd W hW).2.2.2.2.2.2.1)
 have e7:∀ W,StR cb g len cap tn K s.ths.length ⟨pc,[r0,r1,r2,r3,r4,r5,r6,r7],st⟩ W→W.cell? ⟨K.tb,tn*10+7,none⟩=some (.int .u32 r6):=fun W hW=>((hrd W hW).2.2.2.2.2.2.2.1)
 have e8:∀ W,StR cb g len cap tn K s.ths.length ⟨pc,[r0,r1,r2,r3,r4,r5,r6,r7],st⟩ W→W.cell? ⟨K.tb,tn*10+8,none⟩=some (.int .u32 r7):=fun W hW=>((hrd W hW).2.2.2.2.2.2.2.2.1)
 have e9:∀ W,StR cb g len cap tn K s.ths.length ⟨pc,[r0,r1,r2,r3,r4,r5,r6,r7],st⟩ W→W.cell? ⟨K.tb,tn*10+9,none⟩=some (.int .i64 st):=fun W hW=>((hrd W hW).2.2.2.2.2.2.2.2.2)
 have em:∀ W,StR cb g len cap tn K s.ths.length ⟨pc,[r0,r1,r2,r3,r4,r5,r6,r7],st⟩ W→W.cell? ⟨K.mb,1,none⟩=some (.slice (some ⟨K.tb,0,none⟩) s.ths.length K.tc):=fun W hW=>hW.1
 have ec:∀ W,StR cb g len cap tn K s.ths.length ⟨pc,[r0,r1,r2,r3,r4,r5,r6,r7],st⟩ W→W.cell? ⟨K.mb,0,none⟩=some (.slice (some ⟨cb,0,none⟩) s.ths.length ccap):=fun W hW=>hW.2.1.trans (by rw [hcv])
 have eg:∀ W,StR cb g len cap tn K s.ths.length ⟨pc,[r0,r1,r2,r3,r4,r5,r6,r7],st⟩ W→W.cell? ⟨cb,tn,none⟩=some (.slice (some ⟨g,0,none⟩) len cap):=fun W hW=>hW.2.2.2
 have H:=Lib.hid h
 have HTH:=Lib.hid hth
 have HTHS:=Lib.hid hths
 have HTN:=Lib.hid htn
 have HST:=Lib.hid hst
 have HPV:=Lib.hid hpv
 have HCB:=Lib.hid hcb
 have HZC:=Lib.hid hZc
 have HPO:∀ W,TsM Z W K s→Calls Tryz.prog 108 #[.agg #[.pointer (some ⟨K.mb,0,none⟩),.int .i64 tn]] W fun e w'=>e=.returned (.agg pv)∧Below W.heap.size W w':=fun W hW=>by rw [hpv];exact port_ts Z W K s tn hW
 have HPO2:∀ (Z':Nat→Prop) W,TsM Z' W K s→Calls Tryz.prog 108 #[.agg #[.pointer (some ⟨K.mb,0,none⟩),.int .i64 tn]] W fun e w'=>e=.returned (.agg pv)∧Below W.heap.size W w':=fun Z' W hW=>by rw [hpv];exact port_ts Z' W K s tn hW
 have HP:=Lib.hid HPO2
 -- what a world must bring
 have hrS:∀ (Z':Nat→Prop) W s2,TsM Z' W K s2→s2.ths=s.ths→Only (fun k=>¬Z k) w W→StR cb g len cap tn K s.ths.length ⟨pc,[r0,r1,r2,r3,r4,r5,r6,r7],st⟩ W:=fun Z' W s2 hM e ho=>by
  have hc:W.cell? ⟨cb,tn,none⟩=some (.slice (some ⟨g,0,none⟩) len cap):=(World.cell?_of_block (w:=w) (a:=⟨cb,tn,none⟩) (ho.block cb (block_lt_of_cell hcb) (fun e=>e hZc))).trans hcb
  have:=TsM.reads (th:=⟨pc,[r0,r1,r2,r3,r4,r5,r6,r7],st⟩) (tn:=tn) hM (by rw [e];exact hth) hc
  rw [e] at this
  exact this
 have HRS:=Lib.hid hrS
 clear h hth hths hst hpv hcb hZc HPO HPO2 hrS hrd hcv htn
 have HH1:=Lib.hid hcs
 clear hcs
 go_enter Tryz.func70,Tryz.ntmps70
 go_upto_region 0 with fail
 go_cut [4] (fun v4 wx=>∃ (gx:Nat),v4=.pointer (some ⟨gx,0,none⟩)∧Hid (w.heap.size≤gx∧wx.heap[gx]? = some (.cells #[.int .i64 pc2,.int .u32 q0,.int .u32 q1,.int .u32 q2,.int .u32 q3,.int .u32 q4,.int .u32 q5,.int .u32 q6,.int .u32 q7,.int .i64 st2] 79 (0,0))∧TsM (fun k=>Z k∨k=gx) wx K s'∧Only (fun k=>¬Z k) w wx))
 case first=>
  have bD:StR cb g len cap tn K s.ths.length ⟨pc,[r0,r1,r2,r3,r4,r5,r6,r7],st⟩ w.drew:=HRS.out Z _ s H.out.drew rfl ⟨rfl,rfl,rfl,Nat.le_refl _,fun _ _ _=>rfl⟩
  have M0:Hid (TsM Z w.drew K s):=Lib.hid H.out.drew
  have O0:Hid (Only (fun k=>¬Z k) w w.drew):=Lib.hid ⟨rfl,rfl,rfl,Nat.le_refl _,fun _ _ _=>rfl⟩
  refine wp_region_g (fun W=>StR cb g len cap tn K s.ths.length ⟨pc,[r0,r1,r2,r3,r4,r5,r6,r7],st⟩ W) 20 (by kernel_rfl) ?_
  generalize w.drew=wd at *

  refine AnyG_take (i:=0) (oi:=_) (v:=?_) rfl (by kernel_rfl) (fun _ _ _ h=>h) (Or.inl ⟨by rfl,?_⟩) bD ?_
  rotate_left
  ·intro W hSw;(try dsimp only at hSw);go_simp;first | done | with_reducible rfl
  simp only [Act.put,List.getElem_toArray,List.getElem_cons_zero,List.getElem_cons_succ,List.setIfInBounds_toArray,List.set_cons_zero,List.set_cons_succ]
  refine AnyG_take (i:=1) (oi:=_) (v:=?_) rfl (by kernel_rfl) (fun _ _ _ h=>h) (Or.inl ⟨by rfl,?_⟩) bD ?_
  rotate_left
  ·intro W hSw;(try dsimp only at hSw);go_simp;first | done | with_reducible rfl
  simp only [Act.put,List.getElem_toArray,List.getElem_cons_zero,List.getElem_cons_succ,List.setIfInBounds_toArray,List.set_cons_zero,List.set_cons_succ]
  refine AnyG_take (i:=2) (oi:=_) (v:=?_) rfl (by kernel_rfl) (fun _ _ _ h=>h) (Or.inl ⟨by rfl,?_⟩) bD ?_
  rotate_left
  ·intro W hSw;(try dsimp only at hSw);go_simp;first | done | with_reducible rfl
  simp only [Act.put,List.getElem_toArray,List.getElem_cons_zero,List.getElem_cons_succ,List.setIfInBounds_toArray,List.set_cons_zero,List.set_cons_succ]
  refine AnyG_take (i:=3) (oi:=_) (v:=?_) rfl (by kernel_rfl) (fun _ _ _ h=>h) (Or.inl ⟨by rfl,?_⟩) bD ?_
  rotate_left
  ·intro W hSw;(try dsimp only at hSw);go_simp;first | done | with_reducible rfl
  simp only [Act.put,List.getElem_toArray,List.getElem_cons_zero,List.getElem_cons_succ,List.setIfInBounds_toArray,List.set_cons_zero,List.set_cons_succ]
  refine AnyG_take (i:=4) (oi:=_) (v:=?_) rfl (by kernel_rfl) (fun _ _ _ h=>h) (Or.inl ⟨by rfl,?_⟩) bD ?_
  rotate_left
  ·intro W hSw;(try dsimp only at hSw);go_simp;first | done | with_reducible rfl
  simp only [Act.put,List.getElem_toArray,List.getElem_cons_zero,List.getElem_cons_succ,List.setIfInBounds_toArray,List.set_cons_zero,List.set_cons_succ]
  refine AnyG_take (i:=5) (oi:=_) (v:=?_) rfl (by kernel_rfl) (fun _ _ _ h=>h) (Or.inl ⟨by rfl,?_⟩) bD ?_
  rotate_left
  ·intro W hSw;(try dsimp only at hSw);go_simp;first | done | with_reducible rfl
  simp only [Act.put,List.getElem_toArray,List.getElem_cons_zero,List.getElem_cons_succ,List.setIfInBounds_toArray,List.set_cons_zero,List.set_cons_succ]
  refine AnyG_take (i:=6) (oi:=_) (v:=?_) rfl (by kernel_rfl) (fun _ _ _ h=>h) (Or.inl ⟨by rfl,?_⟩) bD ?_
  rotate_left
  ·intro W hSw;(try dsimp only at hSw);go_simp;first | done | with_reducible rfl
  simp only [Act.put,List.getElem_toArray,List.getElem_cons_zero,List.getElem_cons_succ,List.setIfInBounds_toArray,List.set_cons_zero,List.set_cons_succ]
  refine AnyG_take (i:=7) (oi:=_) (v:=?_) rfl (by kernel_rfl) (fun _ _ _ h=>h) (Or.inl ⟨by rfl,?_⟩) bD ?_
  rotate_left
  ·intro W hSw;(try dsimp only at hSw);go_simp;first | done | with_reducible rfl
  simp only [Act.put,List.getElem_toArray,List.getElem_cons_zero,List.getElem_cons_succ,List.setIfInBounds_toArray,List.set_cons_zero,List.set_cons_succ]
  refine AnyG_take (i:=8) (oi:=_) (v:=?_) rfl (by kernel_rfl) (fun _ _ _ h=>h) (Or.inl ⟨by rfl,?_⟩) bD ?_
  rotate_left
  ·intro W hSw;(try dsimp only at hSw);go_simp;first | done | with_reducible rfl
  simp only [Act.put,List.getElem_toArray,List.getElem_cons_zero,List.getElem_cons_succ,List.setIfInBounds_toArray,List.set_cons_zero,List.set_cons_succ]
  refine AnyG_take (i:=9) (oi:=_) (v:=?_) rfl (by kernel_rfl) (fun _ _ _ h=>h) (Or.inl ⟨by rfl,?_⟩) bD ?_
  rotate_left
  ·intro W hSw;(try dsimp only at hSw);go_simp;first | done | with_reducible rfl
  simp only [Act.put,List.getElem_toArray,List.getElem_cons_zero,List.getElem_cons_succ,List.setIfInBounds_toArray,List.set_cons_zero,List.set_cons_succ]
  refine AnyG_take (i:=10) (oi:=_) (v:=?_) rfl (by kernel_rfl) (fun _ _ _ h=>h) (Or.inl ⟨by rfl,?_⟩) bD ?_
  rotate_left
  ·intro W hSw;(try dsimp only at hSw);go_simp;first | done | with_reducible rfl
  simp only [Act.put,List.getElem_toArray,List.getElem_cons_zero,List.getElem_cons_succ,List.setIfInBounds_toArray,List.set_cons_zero,List.set_cons_succ]
  refine AnyG_take (i:=11) (oi:=_) (v:=?_) rfl (by kernel_rfl) (fun _ _ _ h=>h) (Or.inl ⟨by rfl,?_⟩) bD ?_
  rotate_left
  ·intro W hSw;(try dsimp only at hSw);go_simp;first | done | with_reducible rfl
  simp only [Act.put,List.getElem_toArray,List.getElem_cons_zero,List.getElem_cons_succ,List.setIfInBounds_toArray,List.set_cons_zero,List.set_cons_succ]
  refine AnyG_take (i:=12) (oi:=_) (v:=?_) rfl (by kernel_rfl) (fun _ _ _ h=>h) (Or.inl ⟨by rfl,?_⟩) bD ?_
  rotate_left
  ·intro W hSw;(try dsimp only at hSw);go_simp;first | done | with_reducible rfl
  simp only [Act.put,List.getElem_toArray,List.getElem_cons_zero,List.getElem_cons_succ,List.setIfInBounds_toArray,List.set_cons_zero,List.set_cons_succ]
  refine AnyG_take (i:=13) (oi:=_) (v:=?_) rfl (by kernel_rfl) (fun _ _ _ h=>h) (Or.inl ⟨by rfl,?_⟩) bD ?_
  rotate_left
  ·intro W hSw;(try dsimp only at hSw);go_simp;first | done | with_reducible rfl
  simp only [Act.put,List.getElem_toArray,List.getElem_cons_zero,List.getElem_cons_succ,List.setIfInBounds_toArray,List.set_cons_zero,List.set_cons_succ]
  refine AnyG_take (i:=14) (oi:=_) (v:=?_) rfl (by kernel_rfl) (fun _ _ _ h=>h) (Or.inl ⟨by rfl,?_⟩) bD ?_
  rotate_left
  ·intro W hSw;(try dsimp only at hSw);go_simp;first | done | with_reducible rfl
  simp only [Act.put,List.getElem_toArray,List.getElem_cons_zero,List.getElem_cons_succ,List.setIfInBounds_toArray,List.set_cons_zero,List.set_cons_succ]
  refine AnyG_take (i:=15) (oi:=_) (v:=?_) rfl (by kernel_rfl) (fun _ _ _ h=>h) (Or.inl ⟨by rfl,?_⟩) bD ?_
  rotate_left
  ·intro W hSw;(try dsimp only at hSw);go_simp;first | done | with_reducible rfl
  simp only [Act.put,List.getElem_toArray,List.getElem_cons_zero,List.getElem_cons_succ,List.setIfInBounds_toArray,List.set_cons_zero,List.set_cons_succ]
  refine AnyG_take (i:=16) (oi:=_) (v:=?_) rfl (by kernel_rfl) (fun _ _ _ h=>h) (Or.inl ⟨by rfl,?_⟩) bD ?_
  rotate_left
  ·intro W hSw;(try dsimp only at hSw);go_simp;first | done | with_reducible rfl
  simp only [Act.put,List.getElem_toArray,List.getElem_cons_zero,List.getElem_cons_succ,List.setIfInBounds_toArray,List.set_cons_zero,List.set_cons_succ]
  refine AnyG_two (i:=17) (j:=19) (by kernel_rfl) ?_ ?_
  ·skip
   refine wpOp_of rfl rfl ?_
   try simp only [Act.put,List.getElem_toArray,List.getElem_cons_zero,List.getElem_cons_succ,List.setIfInBounds_toArray,List.set_cons_zero,List.set_cons_succ]
   go_simp
   refine (HP.out (Z) wd M0.out).mono ?_
   rintro _ v1 ⟨rfl,b1⟩
   have M1:Hid (TsM (Z) v1 K s):=Lib.hid (TsM.below M0.out b1)
   have O1:Hid (Only (fun k=>¬Z k) w v1):=Lib.hid (O0.out.trans (Only.of_below (F:=fun _=>False) b1 (Nat.le_refl _)) (fun _ e=>e.elim))
   clear b1
   refine⟨HRS.out _ v1 _ M1.out rfl O1.out,?_⟩
   try simp only [Act.put,List.getElem_toArray,List.getElem_cons_zero,List.getElem_cons_succ,List.setIfInBounds_toArray,List.set_cons_zero,List.set_cons_succ]
   refine AnyG_two (i:=18) (j:=19) (by kernel_rfl) ?_ ?_
   ·skip
    refine wpOp_of rfl rfl ?_
    try simp only [Act.put,List.getElem_toArray,List.getElem_cons_zero,List.getElem_cons_succ,List.setIfInBounds_toArray,List.set_cons_zero,List.set_cons_succ]
    go_simp
    refine (HST.out (Z) v1 M1.out O1.out (fun _ h=>h)).mono ?_
    rintro _ v2 ⟨rfl,m2,o2⟩
    have M2:Hid (TsM (Z) v2 K s'):=Lib.hid m2
    have O2:Hid (Only (fun k=>¬Z k) w v2):=Lib.hid (O1.out.trans o2 (fun k e=>.inl (fun h=>e h)))
    clear m2 o2
    refine⟨HRS.out _ v2 _ M2.out HTHS.out O2.out,?_⟩
    try simp only [Act.put,List.getElem_toArray,List.getElem_cons_zero,List.getElem_cons_succ,List.setIfInBounds_toArray,List.set_cons_zero,List.set_cons_succ]
    refine AnyG_one (i:=19) rfl (by kernel_rfl) ?_
    refine wpOp_of rfl rfl ?_
    try simp only [Act.put,List.getElem_toArray,List.getElem_cons_zero,List.getElem_cons_succ,List.setIfInBounds_toArray,List.set_cons_zero,List.set_cons_succ]
    go_simp
    obtain⟨v3,hv3⟩:∃ W,World.alloc (v2) (.cells #[.int .i64 0,.int .u32 0,.int .u32 0,.int .u32 0,.int .u32 0,.int .u32 0,.int .u32 0,.int .u32 0,.int .u32 0,.int .i64 0] 79)=W:=⟨_,rfl⟩
    rw [hv3]
    have M3:Hid (TsM (fun k=>Z k∨k=v2.heap.size) v3 K s'):=Lib.hid (by rw [←hv3];exact TsM.guard M2.out _)
    have O3:Hid (Only (fun k=>¬Z k) w v3):=Lib.hid (by rw [←hv3];exact on_alloc O2.out _)
    have R3:Hid (v3.heap[v2.heap.size]? = some (.cells #[.int .i64 0,.int .u32 0,.int .u32 0,.int .u32 0,.int .u32 0,.int .u32 0,.int .u32 0,.int .u32 0,.int .u32 0,.int .i64 0] 79 (0,0))):=Lib.hid (by rw [←hv3];exact heap_alloc_new _ _)
    have g3:w.heap.size≤v2.heap.size:=O2.out.size
    clear hv3
    refine⟨HRS.out _ v3 _ M3.out HTHS.out O3.out,?_⟩
    try simp only [Act.put,List.getElem_toArray,List.getElem_cons_zero,List.getElem_cons_succ,List.setIfInBounds_toArray,List.set_cons_zero,List.set_cons_succ]
    refine AnyG_one (i:=20) rfl (by kernel_rfl) ?_
    refine wpOp_of rfl rfl ?_
    try simp only [Act.put,List.getElem_toArray,List.getElem_cons_zero,List.getElem_cons_succ,List.setIfInBounds_toArray,List.set_cons_zero,List.set_cons_succ]
    obtain⟨z0,z1,z2,z3,z4,z5,z6,z7,z8,z9⟩:=cells10 R3.out
    have f0:=frozen_of_row v3 (v2.heap.size) 0 _ _ R3.out
    have f1:=frozen_of_row v3 (v2.heap.size) 1 _ _ R3.out
    have f2:=frozen_of_row v3 (v2.heap.size) 2 _ _ R3.out
    have f3:=frozen_of_row v3 (v2.heap.size) 3 _ _ R3.out
    have f4:=frozen_of_row v3 (v2.heap.size) 4 _ _ R3.out
    have f5:=frozen_of_row v3 (v2.heap.size) 5 _ _ R3.out
    have f6:=frozen_of_row v3 (v2.heap.size) 6 _ _ R3.out
    have f7:=frozen_of_row v3 (v2.heap.size) 7 _ _ R3.out
    have f8:=frozen_of_row v3 (v2.heap.size) 8 _ _ R3.out
    have f9:=frozen_of_row v3 (v2.heap.size) 9 _ _ R3.out
    go_simp
    try simp only [Act.put,List.getElem_toArray,List.getElem_cons_zero,List.getElem_cons_succ,List.setIfInBounds_toArray,List.set_cons_zero,List.set_cons_succ]
    refine AnyG_done (by kernel_rfl) ?_ _
    have HF:=Lib.hid (finS R3.out M3.out O3.out g3 pc2 q0 q1 q2 q3 q4 q5 q6 q7 st2)
    go_wp2_with fail
    go_meet
    exact⟨_,rfl,Lib.hid ⟨g3,HF.out⟩⟩
   ·skip
    refine wpOp_of rfl rfl ?_
    try simp only [Act.put,List.getElem_toArray,List.getElem_cons_zero,List.getElem_cons_succ,List.setIfInBounds_toArray,List.set_cons_zero,List.set_cons_succ]
    go_simp
    obtain⟨v4,hv4⟩:∃ W,World.alloc (v1) (.cells #[.int .i64 0,.int .u32 0,.int .u32 0,.int .u32 0,.int .u32 0,.int .u32 0,.int .u32 0,.int .u32 0,.int .u32 0,.int .i64 0] 79)=W:=⟨_,rfl⟩
    rw [hv4]
    have M4:Hid (TsM (fun k=>Z k∨k=v1.heap.size) v4 K s):=Lib.hid (by rw [←hv4];exact TsM.guard M1.out _)
    have O4:Hid (Only (fun k=>¬Z k) w v4):=Lib.hid (by rw [←hv4];exact on_alloc O1.out _)
    have R4:Hid (v4.heap[v1.heap.size]? = some (.cells #[.int .i64 0,.int .u32 0,.int .u32 0,.int .u32 0,.int .u32 0,.int .u32 0,.int .u32 0,.int .u32 0,.int .u32 0,.int .i64 0] 79 (0,0))):=Lib.hid (by rw [←hv4];exact heap_alloc_new _ _)
    have g4:w.heap.size≤v1.heap.size:=O1.out.size
    clear hv4
    refine⟨HRS.out _ v4 _ M4.out rfl O4.out,?_⟩
    try simp only [Act.put,List.getElem_toArray,List.getElem_cons_zero,List.getElem_cons_succ,List.setIfInBounds_toArray,List.set_cons_zero,List.set_cons_succ]
    refine AnyG_one (i:=18) rfl (by kernel_rfl) ?_
    refine wpOp_of rfl rfl ?_
    try simp only [Act.put,List.getElem_toArray,List.getElem_cons_zero,List.getElem_cons_succ,List.setIfInBounds_toArray,List.set_cons_zero,List.set_cons_succ]
    go_simp
    refine (HST.out (fun k=>Z k∨k=v1.heap.size) v4 M4.out O4.out (fun _ h=>.inl h)).mono ?_
    rintro _ v5 ⟨rfl,m5,o5⟩
    have M5:Hid (TsM (fun k=>Z k∨k=v1.heap.size) v5 K s'):=Lib.hid m5
    have O5:Hid (Only (fun k=>¬Z k) w v5):=Lib.hid (O4.out.trans o5 (fun k e=>.inl (fun h=>e (.inl h))))
    have R5:Hid (v5.heap[v1.heap.size]? = some (.cells #[.int .i64 0,.int .u32 0,.int .u32 0,.int .u32 0,.int .u32 0,.int .u32 0,.int .u32 0,.int .u32 0,.int .u32 0,.int .i64 0] 79 (0,0))):=Lib.hid ((o5.block _ (Array.getElem?_eq_some_iff.1 R4.out).1 (fun e=>e (.inr rfl))).trans R4.out)
    clear m5 o5
    refine⟨HRS.out _ v5 _ M5.out HTHS.out O5.out,?_⟩
    try simp only [Act.put,List.getElem_toArray,List.getElem_cons_zero,List.getElem_cons_succ,List.setIfInBounds_toArray,List.set_cons_zero,List.set_cons_succ]
    refine AnyG_one (i:=20) rfl (by kernel_rfl) ?_
    refine wpOp_of rfl rfl ?_
    try simp only [Act.put,List.getElem_toArray,List.getElem_cons_zero,List.getElem_cons_succ,List.setIfInBounds_toArray,List.set_cons_zero,List.set_cons_succ]
    obtain⟨z0,z1,z2,z3,z4,z5,z6,z7,z8,z9⟩:=cells10 R5.out
    have f0:=frozen_of_row v5 (v1.heap.size) 0 _ _ R5.out
    have f1:=frozen_of_row v5 (v1.heap.size) 1 _ _ R5.out
    have f2:=frozen_of_row v5 (v1.heap.size) 2 _ _ R5.out
    have f3:=frozen_of_row v5 (v1.heap.size) 3 _ _ R5.out
    have f4:=frozen_of_row v5 (v1.heap.size) 4 _ _ R5.out
    have f5:=frozen_of_row v5 (v1.heap.size) 5 _ _ R5.out
    have f6:=frozen_of_row v5 (v1.heap.size) 6 _ _ R5.out
    have f7:=frozen_of_row v5 (v1.heap.size) 7 _ _ R5.out
    have f8:=frozen_of_row v5 (v1.heap.size) 8 _ _ R5.out
    have f9:=frozen_of_row v5 (v1.heap.size) 9 _ _ R5.out
    go_simp
    try simp only [Act.put,List.getElem_toArray,List.getElem_cons_zero,List.getElem_cons_succ,List.setIfInBounds_toArray,List.set_cons_zero,List.set_cons_succ]
    refine AnyG_done (by kernel_rfl) ?_ _
    have HF:=Lib.hid (finS R5.out M5.out O5.out g4 pc2 q0 q1 q2 q3 q4 q5 q6 q7 st2)
    go_wp2_with fail
    go_meet
    exact⟨_,rfl,Lib.hid ⟨g4,HF.out⟩⟩
  ·skip
   refine wpOp_of rfl rfl ?_
   try simp only [Act.put,List.getElem_toArray,List.getElem_cons_zero,List.getElem_cons_succ,List.setIfInBounds_toArray,List.set_cons_zero,List.set_cons_succ]
   go_simp
   obtain⟨v6,hv6⟩:∃ W,World.alloc (wd) (.cells #[.int .i64 0,.int .u32 0,.int .u32 0,.int .u32 0,.int .u32 0,.int .u32 0,.int .u32 0,.int .u32 0,.int .u32 0,.int .i64 0] 79)=W:=⟨_,rfl⟩
   rw [hv6]
   have M6:Hid (TsM (fun k=>Z k∨k=wd.heap.size) v6 K s):=Lib.hid (by rw [←hv6];exact TsM.guard M0.out _)
   have O6:Hid (Only (fun k=>¬Z k) w v6):=Lib.hid (by rw [←hv6];exact on_alloc O0.out _)
   have R6:Hid (v6.heap[wd.heap.size]? = some (.cells #[.int .i64 0,.int .u32 0,.int .u32 0,.int .u32 0,.int .u32 0,.int .u32 0,.int .u32 0,.int .u32 0,.int .u32 0,.int .i64 0] 79 (0,0))):=Lib.hid (by rw [←hv6];exact heap_alloc_new _ _)
   have g6:w.heap.size≤wd.heap.size:=O0.out.size
   clear hv6
   refine⟨HRS.out _ v6 _ M6.out rfl O6.out,?_⟩
   try simp only [Act.put,List.getElem_toArray,List.getElem_cons_zero,List.getElem_cons_succ,List.setIfInBounds_toArray,List.set_cons_zero,List.set_cons_succ]
   refine AnyG_one (i:=17) rfl (by kernel_rfl) ?_
   refine wpOp_of rfl rfl ?_
   try simp only [Act.put,List.getElem_toArray,List.getElem_cons_zero,List.getElem_cons_succ,List.setIfInBounds_toArray,List.set_cons_zero,List.set_cons_succ]
   go_simp
   refine (HP.out (fun k=>Z k∨k=wd.heap.size) v6 M6.out).mono ?_
   rintro _ v7 ⟨rfl,b7⟩
   have M7:Hid (TsM (fun k=>Z k∨k=wd.heap.size) v7 K s):=Lib.hid (TsM.below M6.out b7)
   have O7:Hid (Only (fun k=>¬Z k) w v7):=Lib.hid (O6.out.trans (Only.of_below (F:=fun _=>False) b7 (Nat.le_refl _)) (fun _ e=>e.elim))
   have R7:Hid (v7.heap[wd.heap.size]? = some (.cells #[.int .i64 0,.int .u32 0,.int .u32 0,.int .u32 0,.int .u32 0,.int .u32 0,.int .u32 0,.int .u32 0,.int .u32 0,.int .i64 0] 79 (0,0))):=Lib.hid ((b7.block _ (Array.getElem?_eq_some_iff.1 R6.out).1).trans R6.out)
   clear b7
   refine⟨HRS.out _ v7 _ M7.out rfl O7.out,?_⟩
   try simp only [Act.put,List.getElem_toArray,List.getElem_cons_zero,List.getElem_cons_succ,List.setIfInBounds_toArray,List.set_cons_zero,List.set_cons_succ]
   refine AnyG_one (i:=18) rfl (by kernel_rfl) ?_
   refine wpOp_of rfl rfl ?_
   try simp only [Act.put,List.getElem_toArray,List.getElem_cons_zero,List.getElem_cons_succ,List.setIfInBounds_toArray,List.set_cons_zero,List.set_cons_succ]
   go_simp
   refine (HST.out (fun k=>Z k∨k=wd.heap.size) v7 M7.out O7.out (fun _ h=>.inl h)).mono ?_
   rintro _ v8 ⟨rfl,m8,o8⟩
   have M8:Hid (TsM (fun k=>Z k∨k=wd.heap.size) v8 K s'):=Lib.hid m8
   have O8:Hid (Only (fun k=>¬Z k) w v8):=Lib.hid (O7.out.trans o8 (fun k e=>.inl (fun h=>e (.inl h))))
   have R8:Hid (v8.heap[wd.heap.size]? = some (.cells #[.int .i64 0,.int .u32 0,.int .u32 0,.int .u32 0,.int .u32 0,.int .u32 0,.int .u32 0,.int .u32 0,.int .u32 0,.int .i64 0] 79 (0,0))):=Lib.hid ((o8.block _ (Array.getElem?_eq_some_iff.1 R7.out).1 (fun e=>e (.inr rfl))).trans R7.out)
   clear m8 o8
   refine⟨HRS.out _ v8 _ M8.out HTHS.out O8.out,?_⟩
   try simp only [Act.put,List.getElem_toArray,List.getElem_cons_zero,List.getElem_cons_succ,List.setIfInBounds_toArray,List.set_cons_zero,List.set_cons_succ]
   refine AnyG_one (i:=20) rfl (by kernel_rfl) ?_
   refine wpOp_of rfl rfl ?_
   try simp only [Act.put,List.getElem_toArray,List.getElem_cons_zero,List.getElem_cons_succ,List.setIfInBounds_toArray,List.set_cons_zero,List.set_cons_succ]
   obtain⟨z0,z1,z2,z3,z4,z5,z6,z7,z8,z9⟩:=cells10 R8.out
   have f0:=frozen_of_row v8 (wd.heap.size) 0 _ _ R8.out
   have f1:=frozen_of_row v8 (wd.heap.size) 1 _ _ R8.out
   have f2:=frozen_of_row v8 (wd.heap.size) 2 _ _ R8.out
   have f3:=frozen_of_row v8 (wd.heap.size) 3 _ _ R8.out
   have f4:=frozen_of_row v8 (wd.heap.size) 4 _ _ R8.out
   have f5:=frozen_of_row v8 (wd.heap.size) 5 _ _ R8.out
   have f6:=frozen_of_row v8 (wd.heap.size) 6 _ _ R8.out
   have f7:=frozen_of_row v8 (wd.heap.size) 7 _ _ R8.out
   have f8:=frozen_of_row v8 (wd.heap.size) 8 _ _ R8.out
   have f9:=frozen_of_row v8 (wd.heap.size) 9 _ _ R8.out
   go_simp
   try simp only [Act.put,List.getElem_toArray,List.getElem_cons_zero,List.getElem_cons_succ,List.setIfInBounds_toArray,List.set_cons_zero,List.set_cons_succ]
   refine AnyG_done (by kernel_rfl) ?_ _
   have HF:=Lib.hid (finS R8.out M8.out O8.out g6 pc2 q0 q1 q2 q3 q4 q5 q6 q7 st2)
   go_wp2_with fail
   go_meet
   exact⟨_,rfl,Lib.hid ⟨g6,HF.out⟩⟩
 case rest=>
  obtain⟨gx,rfl,HC⟩:=hcut
  have hr:StR cb g len cap tn K s.ths.length ⟨pc,[r0,r1,r2,r3,r4,r5,r6,r7],st⟩ wc:=HRS.out _ wc s' HC.out.2.2.1 HTHS.out HC.out.2.2.2
  have k1:∀ W:World,W.heap=wc.heap→W.cell? ⟨K.mb,1,none⟩=some (.slice (some ⟨K.tb,0,none⟩) s.ths.length K.tc):=fun W hW=>(World.cell?_of_block (w:=wc) (a:=⟨K.mb,1,none⟩) (by rw [hW])).trans (em wc hr)
  obtain⟨n10,hn10⟩:∃ n:Nat,n=10:=⟨_,rfl⟩
  have hsz:=sizeT hn10
  obtain⟨c2,hc2⟩:∃ c2:Array Value,c2=#[.int .i64 pc2,.int .u32 q0,.int .u32 q1,.int .u32 q2,.int .u32 q3,.int .u32 q4,.int .u32 q5,.int .u32 q6,.int .u32 q7,.int .i64 st2]:=⟨_,rfl⟩
  have hc2s:c2.size=n10:=by rw [hc2,hn10];rfl
  have hc2l:c2.toList=(⟨pc2,[q0,q1,q2,q3,q4,q5,q6,q7],st2⟩:Th).cells:=by rw [hc2];rfl
  have hc21:c2.all (·.oneCell')=true:=by rw [hc2];simp [Value.oneCell']
  have hld:∀ W:World,W.heap=wc.heap→Sem.run Tryz.prog (loadCellsFrom ⟨gx,0,none⟩ 0 n10 #[]) W=.ok c2 W:=fun W hW=>ldRow (fun i v hv=>by rw [Nat.zero_add,cell_of_row _ _ _ _ _ _ (by rw [hW];exact HC.out.2.1),←hc2];simpa using hv) hc2s
  have hst:Sem.run Tryz.prog (storeCells ⟨K.tb,tn*n10,none⟩ c2.toList 0) wc.drew=.ok () (wc.drew.setCells K.tb (tn*n10) c2.toList):=by
   refine stRow (fun j hj=>?_) hc2s hc21
   have h10:(⟨pc,[r0,r1,r2,r3,r4,r5,r6,r7],st⟩:Th).cells.length=10:=rfl
   obtain⟨h1,h2⟩:=hr.2.2.1 j _ (List.getElem?_eq_getElem (by omega))
   rw [hn10]
   exact⟨by rw [show wc.drew.cell? ⟨K.tb,tn*10+j,none⟩=wc.cell? ⟨K.tb,tn*10+j,none⟩ from rfl,h1];rfl,h2⟩
  have HN10:=Lib.hid hn10
  have HC2:=Lib.hid hc2l
  clear e0 e1 e2 e3 e4 e5 e6 e7 e8 e9 em ec eg hr hn10 hc2 hc2l hc21
  go_upto_region 1 with fail
  refine wp_region_g (fun W=>W.heap=wc.heap) 7 (by kernel_rfl) ?_
  have hwd0:wc.drew.heap=wc.heap:=rfl
  generalize hwd:wc.drew=wd at *
  refine AnyG_take (i:=0) (oi:=_) (v:=?_) rfl (by kernel_rfl) (fun _ _ _ h=>h) (Or.inl ⟨by rfl,?_⟩) hwd0 ?_
  rotate_left
  ·intro W hSw;(try dsimp only at hSw);go_simp;first | done | with_reducible rfl
  simp only [Act.put,List.getElem_toArray,List.getElem_cons_zero,List.getElem_cons_succ,List.setIfInBounds_toArray,List.set_cons_zero,List.set_cons_succ]
  refine AnyG_take (i:=1) (oi:=_) (v:=?_) rfl (by kernel_rfl) (fun _ _ _ h=>h) (Or.inl ⟨by rfl,?_⟩) hwd0 ?_
  rotate_left
  ·intro W hSw;(try dsimp only at hSw);go_simp;first | done | with_reducible rfl
  simp only [Act.put,List.getElem_toArray,List.getElem_cons_zero,List.getElem_cons_succ,List.setIfInBounds_toArray,List.set_cons_zero,List.set_cons_succ]
  refine AnyG_take (i:=2) (oi:=_) (v:=?_) rfl (by kernel_rfl) (fun _ _ _ h=>h) (Or.inl ⟨by rfl,?_⟩) hwd0 ?_
  rotate_left
  ·intro W hSw;(try dsimp only at hSw);go_simp;first | done | with_reducible rfl
  simp only [Act.put,List.getElem_toArray,List.getElem_cons_zero,List.getElem_cons_succ,List.setIfInBounds_toArray,List.set_cons_zero,List.set_cons_succ]
  refine AnyG_take (i:=3) (oi:=_) (v:=?_) rfl (by kernel_rfl) (fun _ _ _ h=>h) (Or.inl ⟨by rfl,?_⟩) hwd0 ?_
  rotate_left
  ·intro W hSw;(try dsimp only at hSw);go_simp;first | done | with_reducible rfl
  simp only [Act.put,List.getElem_toArray,List.getElem_cons_zero,List.getElem_cons_succ,List.setIfInBounds_toArray,List.set_cons_zero,List.set_cons_succ]
  refine AnyG_take (i:=4) (oi:=_) (v:=?_) rfl (by kernel_rfl) (fun _ _ _ h=>h) (Or.inl ⟨by rfl,?_⟩) hwd0 ?_
  rotate_left
  ·intro W hSw;(try dsimp only at hSw);go_simp;first | done | with_reducible rfl
  simp only [Act.put,List.getElem_toArray,List.getElem_cons_zero,List.getElem_cons_succ,List.setIfInBounds_toArray,List.set_cons_zero,List.set_cons_succ]
  refine AnyG_take (i:=5) (oi:=_) (v:=?_) rfl (by kernel_rfl) (fun _ _ _ h=>h) (Or.inl ⟨by rfl,?_⟩) hwd0 ?_
  rotate_left
  ·intro W hSw;(try dsimp only at hSw);go_simp;first | done | with_reducible rfl
  simp only [Act.put,List.getElem_toArray,List.getElem_cons_zero,List.getElem_cons_succ,List.setIfInBounds_toArray,List.set_cons_zero,List.set_cons_succ]
  refine AnyG_one (i:=6) rfl (by kernel_rfl) ?_
  refine wpOp_of rfl rfl ?_
  try simp only [Act.put,List.getElem_toArray,List.getElem_cons_zero,List.getElem_cons_succ,List.setIfInBounds_toArray,List.set_cons_zero,List.set_cons_succ]
  go_simp
  try simp only [Act.put,List.getElem_toArray,List.getElem_cons_zero,List.getElem_cons_succ,List.setIfInBounds_toArray,List.set_cons_zero,List.set_cons_succ]
  refine AnyG_one (i:=7) rfl (by kernel_rfl) ?_
  refine wpOp_of rfl rfl ?_
  try simp only [Act.put,List.getElem_toArray,List.getElem_cons_zero,List.getElem_cons_succ,List.setIfInBounds_toArray,List.set_cons_zero,List.set_cons_succ]
  go_simp
  try simp only [Act.put,List.getElem_toArray,List.getElem_cons_zero,List.getElem_cons_succ,List.setIfInBounds_toArray,List.set_cons_zero,List.set_cons_succ]
  refine AnyG_done (by kernel_rfl) ?_ _
  go_wp2_with fail
  go_end0
  have hfin:=TsM.setTh (th:=⟨pc2,[q0,q1,q2,q3,q4,q5,q6,q7],st2⟩) (TsM.drew HC.out.2.2.1) (t:=tn) (by rw [HTHS.out];exact HTN.out) rfl
  rw [hwd,←HC2.out,←HN10.out] at hfin
  refine⟨rfl,TsM.less hfin.1 (fun k e=>.inl e),HC.out.2.2.2.trans (F:=fun k=>¬Z k) (by rw [←hwd];exact on_drew (Only.refl _ _)) (fun _ e=>.inl e) |>.trans hfin.2 (fun k e=>.inl (fun h=>e (.inl h)))⟩
end Go.Proofs.YtcnmhgblbikfkaaGreatDoor.As.T
