/- A machine tso in memory; the walks of what a thread's port reads of it. The walks of what a thread's port reads of a machine tso. What a store into memory,a buffer,an event make of a machine tso in memory; the walks of swap and store. The walk of the port's note. The walk of the port's store. -/
import Derived.Test.YtcnmhgblbikfkaaGreatDoorGe
import Derived.Test.YtcnmhgblbikfkaaGreatDoorGf
import Derived.Test.YtcnmhgblbikfkaaGreatDoorGc
section
set_option linter.unusedVariables false
set_option linter.unusedSimpArgs false
set_option maxRecDepth 20000
namespace Go.Proofs.YtcnmhgblbikfkaaGreatDoor.As
open Go.RowKit

theorem findQ_last'(q:List (Nat×Int))(a:Nat):findQ q a=lastQ q a:=rfl
def flatS(l:List (Nat×Nat)):List Value:=l.flatMap fun e=>[.int .i64 e.1,.int .i64 e.2]
structure TsK where
 mb:Nat
 mm:Nat
 tb:Nat
 bb:Nat
 mc:Nat
 tc:Nat
 bc:Nat
 b0:Nat
 cv:Value
structure TsAt(w:World)(K:TsK)(s:Ts)(ev kv:Value)(marr tarr barr:Array Value):Prop where
 hb:w.heap[K.mb]? = some (.cells #[K.cv,.slice (some ⟨K.tb,0,none⟩) s.ths.length K.tc,.slice (some ⟨K.bb,0,none⟩) s.bufs.length K.bc,.slice (some ⟨K.mm,0,none⟩) s.mem.length K.mc,kv,ev] 122 (0,0))
 hm:w.heap[K.mm]? = some (.cells marr 25 (0,0))
 cm:∀ (j:Nat) v,s.mem[j]? = some v→marr[j]? = some (.int .u32 v)
 ht:w.heap[K.tb]? = some (.cells tarr 79 (0,0))
 ct:∀ (j:Nat) (th:Th),s.ths[j]? = some th→th.regs.length=8∧∀ i u,th.cells[i]? = some u→tarr[j*10+i]? = some u
 hq:w.heap[K.bb]? = some (.cells barr 127 (0,0))
 cq:∀ (j:Nat) (q:List (Nat×Int)),s.bufs[j]? = some q→∃ cs,BufIs cs s.room q∧∀ i u,cs[i]? = some u→barr[j*35+i]? = some u
 oe:w.ownsRow K.b0 136 8 ev s.evs.length (flatE s.evs)
 ok:w.ownsRow K.b0 204 2 kv s.slp.length (flatS s.slp)
def TsF(K:TsK)(ev kv:Value)(k:Nat):Prop:=k=K.mb∨k=K.mm∨k=K.tb∨k=K.bb∨ev.ownBlock=some k∨kv.ownBlock=some k
structure TsD(K:TsK)(ev kv:Value):Prop where
 d1:K.mb≠K.mm
 d2:K.mb≠K.tb
 d3:K.mb≠K.bb
 d4:K.mm≠K.tb
 d5:K.mm≠K.bb
 d6:K.tb≠K.bb
 e1:∀ k,ev.ownBlock=some k→k≠K.mb∧k≠K.mm∧k≠K.tb∧k≠K.bb∧kv.ownBlock≠some k
 e2:∀ k,kv.ownBlock=some k→k≠K.mb∧k≠K.mm∧k≠K.tb∧k≠K.bb
def TsM(Z:Nat→Prop)(w:World)(K:TsK)(s:Ts):Prop:=
 (∀ k,Z k→k < w.heap.size)∧K.b0≤w.heap.size∧s.bufs.length=s.ths.length∧1≤s.room∧s.room≤16∧
 ∃ ev kv marr tarr barr,TsAt w K s ev kv marr tarr barr∧TsD K ev kv∧∀ k,Z k→¬TsF K ev kv k
theorem TsAt.only{w w':World}{K:TsK}{s:Ts}{ev kv:Value}{marr tarr barr:Array Value}{F:Nat→Prop}(h:TsAt w K s ev kv marr tarr barr)(ho:Only F w w')(hF:∀ k,F k→¬TsF K ev kv k):TsAt w' K s ev kv marr tarr barr:=by
 have lt:∀ {k:Nat} {o:Obj},w.heap[k]? = some o→TsF K ev kv k→w'.heap[k]? = some o:=fun hk hf=>(ho.block _ (Array.getElem?_eq_some_iff.1 hk).1 (fun e=>hF _ e hf)).trans hk
 exact⟨lt h.hb (.inl rfl),lt h.hm (.inr (.inl rfl)),h.cm,lt h.ht (.inr (.inr (.inl rfl))),h.ct,lt h.hq (.inr (.inr (.inr (.inl rfl)))),h.cq,
  own_only h.oe ho (fun k e f=>hF k f (.inr (.inr (.inr (.inr (.inl e)))))),own_only h.ok ho (fun k e f=>hF k f (.inr (.inr (.inr (.inr (.inr e))))))⟩
theorem TsAt.flt{w:World}{K:TsK}{s:Ts}{ev kv:Value}{marr tarr barr:Array Value}(h:TsAt w K s ev kv marr tarr barr)(k:Nat)(hk:TsF K ev kv k):k < w.heap.size:=by
 have lt:∀ {k:Nat} {o:Obj},w.heap[k]? = some o→k < w.heap.size:=fun hk=>(Array.getElem?_eq_some_iff.1 hk).1
 rcases hk with rfl | rfl | rfl | rfl | e | e
 ·exact lt h.hb
 ·exact lt h.hm
 ·exact lt h.ht
 ·exact lt h.hq
 ·exact (h.oe.lt k e).2
 ·exact (h.ok.lt k e).2
theorem TsM.keep{Z F:Nat→Prop}{w w':World}{K:TsK}{s:Ts}(h:TsM Z w K s)(ho:Only F w w')(hF:∀ k,F k→k < w.heap.size→Z k):TsM Z w' K s:=by
 obtain⟨h1,h2,h3,h4,h5,ev,kv,marr,tarr,barr,ha,hd,hz⟩:=h
 refine⟨fun k hk=>Nat.lt_of_lt_of_le (h1 k hk) ho.size,Nat.le_trans h2 ho.size,h3,h4,h5,ev,kv,marr,tarr,barr,ha.only ho (fun k hk hf=>?_),hd,hz⟩
 exact hz k (hF k hk (ha.flt k hf)) hf
theorem TsM.less{Z Z':Nat→Prop}{w:World}{K:TsK}{s:Ts}(h:TsM Z w K s)(hZ:∀ k,Z' k→Z k):TsM Z' w K s:=by
 obtain⟨h1,h2,h3,h4,h5,ev,kv,marr,tarr,barr,ha,hd,hz⟩:=h
 exact⟨fun k e=>h1 k (hZ k e),h2,h3,h4,h5,ev,kv,marr,tarr,barr,ha,hd,fun k e=>hz k (hZ k e)⟩
theorem TsM.alloc{Z:Nat→Prop}{w:World}{K:TsK}{s:Ts}(h:TsM Z w K s)(X:Obj):TsM Z (w.alloc X) K s:=
 h.keep (F:=fun _=>False) ⟨rfl,rfl,rfl,by simp,fun k hk _=>Below.heap_alloc _ _ _ hk⟩ (fun _ e=>e.elim)
theorem TsM.below{Z:Nat→Prop}{w w':World}{K:TsK}{s:Ts}(h:TsM Z w K s)(hb:Below w.heap.size w w'):TsM Z w' K s:=h.keep (Only.of_below (F:=fun _=>False) hb (Nat.le_refl _)) (fun _ e=>e.elim)
theorem TsM.guard{Z:Nat→Prop}{w:World}{K:TsK}{s:Ts}(h:TsM Z w K s)(X:Obj):TsM (fun k=>Z k∨k=w.heap.size) (w.alloc X) K s:=by
 have h':=h.alloc X
 obtain⟨g1,g2,g3,g4,g5,ev,kv,marr,tarr,barr,ha,hd,hz⟩:=h
 have hO:Only (fun _=>False) w (w.alloc X):=⟨rfl,rfl,rfl,by simp,fun k hk _=>Below.heap_alloc _ _ _ hk⟩
 refine⟨fun k hk=>?_,h'.2.1,g3,g4,g5,ev,kv,marr,tarr,barr,ha.only hO (fun _ e=>e.elim),hd,fun k hk hf=>?_⟩
 ·rcases hk with hk | rfl
  ·have:=g1 k hk;simp;omega
  ·simp
 ·rcases hk with hk | rfl
  ·exact hz k hk hf
  ·exact absurd (ha.flt _ hf) (Nat.lt_irrefl _)
theorem TsM.drew{Z:Nat→Prop}{w:World}{K:TsK}{s:Ts}(h:TsM Z w K s):TsM Z w.drew K s:=h.keep (F:=fun _=>False) ⟨rfl,rfl,rfl,Nat.le_refl _,fun _ _ _=>rfl⟩ (fun _ e=>e.elim)
theorem TsM.drewN{Z:Nat→Prop}{w:World}{K:TsK}{s:Ts}(h:TsM Z w K s)(n:Nat):TsM Z (w.drewN n) K s:=h.keep (F:=fun _=>False) ⟨rfl,rfl,rfl,Nat.le_refl _,fun _ _ _=>rfl⟩ (fun _ e=>e.elim)
theorem rowMid{w:World}{bb j:Nat}{cs barr:Array Value}(hq:w.heap[bb]? = some (.cells barr 127 (0,0)))(hc:∀ i u,cs[i]? = some u→barr[j*35+i]? = some u):w.rangeAt bb (j*35) cs.toList:=fun i v hv=>by
 rw [cell_of_row w bb (j*35+i) _ _ _ hq]
 exact hc i v (by simpa using hv)
end Go.Proofs.YtcnmhgblbikfkaaGreatDoor.As
end

section
set_option linter.unusedVariables false
set_option linter.unusedSimpArgs false
set_option maxRecDepth 20000
namespace Go.Proofs.YtcnmhgblbikfkaaGreatDoor.As
open Go.RowKit

set_option maxHeartbeats 2000000 in
theorem room_ts(Z:Nat→Prop)(w:World)(K:TsK)(s:Ts)(t:Nat)(h:TsM Z w K s)(ht:t < s.ths.length):
  Calls Tryz.prog 157 #[.agg #[.pointer (some ⟨K.mb,0,none⟩),.int .i64 t]] w fun e w'=>e=.returned (.bool (s.roomy t))∧Below w.heap.size w w':=by
 have H:=Lib.hid h
 obtain⟨h1,h2,h3,h4,h5,ev,kv,marr,tarr,barr,ha,hd,hz⟩:=h
 obtain⟨q,hq⟩:∃ q,s.bufs[t]? = some q:=⟨_,List.getElem?_eq_getElem (by omega)⟩
 obtain⟨cs,hB,hcs⟩:=ha.cq t q hq
 have hbuf:s.buf t=q:=by unfold Ts.buf;rw [List.getD_eq_getElem?_getD,hq];rfl
 obtain⟨n35,hn35⟩:∃ n:Nat,n=35:=⟨_,rfl⟩
 have hsz:=sizeB hn35
 obtain⟨w1,hw1⟩:∃ w1,w.alloc (.cells #[.pointer (some ⟨K.mb,0,none⟩),.int .i64 t] 153)=w1:=⟨_,rfl⟩
 have hs0:w1.heap[w.heap.size]? = some (.cells #[.pointer (some ⟨K.mb,0,none⟩),.int .i64 t] 153 (0,0)):=by rw [←hw1];exact heap_alloc_new _ _
 have hB1:Below w.heap.size w w1:=by rw [←hw1];exact (Below.refl _ w).alloc (Nat.le_refl _) _
 have HZ1:Hid (w1.heap.size=w.heap.size+1):=Lib.hid (by rw [←hw1];simp)
 have ha1:=ha.only (Only.of_below (F:=fun _=>False) hB1 (Nat.le_refl _)) (fun _ e=>e.elim)
 have lt:∀ {k:Nat} {o:Obj},w1.heap[k]? = some o→k < w1.heap.size:=fun hk=>(Array.getElem?_eq_some_iff.1 hk).1
 have hc0:∀ W,Below w1.heap.size w1 W→W.cell? ⟨w.heap.size,0,none⟩=some (.pointer (some ⟨K.mb,0,none⟩)):=fun W hW=>cell_of_row _ _ 0 _ _ _ (up_bl hW (lt hs0) hs0)
 have hc1:∀ W,Below w1.heap.size w1 W→W.cell? ⟨w.heap.size,1,none⟩=some (.int .i64 t):=fun W hW=>cell_of_row _ _ 1 _ _ _ (up_bl hW (lt hs0) hs0)
 have hc2:∀ W,Below w1.heap.size w1 W→W.cell? ⟨K.mb,2,none⟩=some (.slice (some ⟨K.bb,0,none⟩) s.bufs.length K.bc):=fun W hW=>cell_of_row _ _ 2 _ _ _ (up_bl hW (lt ha1.hb) ha1.hb)
 have hc3:∀ W,Below w1.heap.size w1 W→W.cell? ⟨K.mb,3,none⟩=some (.slice (some ⟨K.mm,0,none⟩) s.mem.length K.mc):=fun W hW=>cell_of_row _ _ 3 _ _ _ (up_bl hW (lt ha1.hb) ha1.hb)
 have hld:∀ W,Below w1.heap.size w1 W→Sem.run Tryz.prog (loadCellsFrom ⟨K.bb,t*n35,none⟩ 0 n35 #[]) W=.ok cs W:=fun W hW=>ldRow (by rw [hn35];exact rowMid (up_bl hW (lt ha1.hq) ha1.hq) hcs) (hB.1.trans hn35.symm)
 have b0:Below w1.heap.size w1 w1.drew:=bl_drw (Below.refl _ _)
 have hi:(t:Int) < (s.bufs.length:Int):=by omega
 have HB:=Lib.hid hB
 have HB1:=Lib.hid hB1
 have HW1:=Lib.hid hw1
 have H3:=Lib.hid h3
 have HA:=Lib.hid ha
 have HA1:=Lib.hid ha1
 have HD:=Lib.hid hd
 have HZ:=Lib.hid hz
 have HCS:=Lib.hid hcs
 have HQ:=Lib.hid hq
 have HS0:=Lib.hid hs0
 have HN35:=Lib.hid hn35
 have hr:s.roomy t=decide (q.length < s.room):=by unfold Ts.roomy;rw [hbuf]
 clear hbuf
 clear hn35 hw1 hs0 hB1 ha1 ha hd hz hcs hB hq lt h1 h3
 go_enter Tryz.func157,Tryz.ntmps157
 go_wp2_with fail
 rw [HW1.out]
 clear HW1
 go_region_held (fun w'=>Below w1.heap.size w1 w') (first | exact b0 | exact Below.trans (by assumption) (hb2.mono (Below.size (by assumption)))) (first | (go_at_call 176;refine (buf_full _ cs s.room q HB.out).mono ?_;rintro r w2 ⟨rfl,hb2⟩))
 all_goals go_wp2_with fail
 all_goals go_ret
 all_goals exact⟨congrArg (fun b=>Ending.returned (.bool b)) (by rw [hr,Bool.eq_iff_iff];simp),HB1.out.trans ((b0.trans hb2).mono (by have:=HZ1.out;omega))⟩
set_option maxHeartbeats 2000000 in
theorem empty_ts(Z:Nat→Prop)(w:World)(K:TsK)(s:Ts)(t:Nat)(h:TsM Z w K s)(ht:t < s.ths.length):
  Calls Tryz.prog 159 #[.agg #[.pointer (some ⟨K.mb,0,none⟩),.int .i64 t]] w fun e w'=>e=.returned (.bool (s.empty t))∧Below w.heap.size w w':=by
 have H:=Lib.hid h
 obtain⟨h1,h2,h3,h4,h5,ev,kv,marr,tarr,barr,ha,hd,hz⟩:=h
 obtain⟨q,hq⟩:∃ q,s.bufs[t]? = some q:=⟨_,List.getElem?_eq_getElem (by omega)⟩
 obtain⟨cs,hB,hcs⟩:=ha.cq t q hq
 have hbuf:s.buf t=q:=by unfold Ts.buf;rw [List.getD_eq_getElem?_getD,hq];rfl
 obtain⟨n35,hn35⟩:∃ n:Nat,n=35:=⟨_,rfl⟩
 have hsz:=sizeB hn35
 obtain⟨w1,hw1⟩:∃ w1,w.alloc (.cells #[.pointer (some ⟨K.mb,0,none⟩),.int .i64 t] 153)=w1:=⟨_,rfl⟩
 have hs0:w1.heap[w.heap.size]? = some (.cells #[.pointer (some ⟨K.mb,0,none⟩),.int .i64 t] 153 (0,0)):=by rw [←hw1];exact heap_alloc_new _ _
 have hB1:Below w.heap.size w w1:=by rw [←hw1];exact (Below.refl _ w).alloc (Nat.le_refl _) _
 have HZ1:Hid (w1.heap.size=w.heap.size+1):=Lib.hid (by rw [←hw1];simp)
 have ha1:=ha.only (Only.of_below (F:=fun _=>False) hB1 (Nat.le_refl _)) (fun _ e=>e.elim)
 have lt:∀ {k:Nat} {o:Obj},w1.heap[k]? = some o→k < w1.heap.size:=fun hk=>(Array.getElem?_eq_some_iff.1 hk).1
 have hc0:∀ W,Below w1.heap.size w1 W→W.cell? ⟨w.heap.size,0,none⟩=some (.pointer (some ⟨K.mb,0,none⟩)):=fun W hW=>cell_of_row _ _ 0 _ _ _ (up_bl hW (lt hs0) hs0)
 have hc1:∀ W,Below w1.heap.size w1 W→W.cell? ⟨w.heap.size,1,none⟩=some (.int .i64 t):=fun W hW=>cell_of_row _ _ 1 _ _ _ (up_bl hW (lt hs0) hs0)
 have hc2:∀ W,Below w1.heap.size w1 W→W.cell? ⟨K.mb,2,none⟩=some (.slice (some ⟨K.bb,0,none⟩) s.bufs.length K.bc):=fun W hW=>cell_of_row _ _ 2 _ _ _ (up_bl hW (lt ha1.hb) ha1.hb)
 have hc3:∀ W,Below w1.heap.size w1 W→W.cell? ⟨K.mb,3,none⟩=some (.slice (some ⟨K.mm,0,none⟩) s.mem.length K.mc):=fun W hW=>cell_of_row _ _ 3 _ _ _ (up_bl hW (lt ha1.hb) ha1.hb)
 have hld:∀ W,Below w1.heap.size w1 W→Sem.run Tryz.prog (loadCellsFrom ⟨K.bb,t*n35,none⟩ 0 n35 #[]) W=.ok cs W:=fun W hW=>ldRow (by rw [hn35];exact rowMid (up_bl hW (lt ha1.hq) ha1.hq) hcs) (hB.1.trans hn35.symm)
 have b0:Below w1.heap.size w1 w1.drew:=bl_drw (Below.refl _ _)
 have hi:(t:Int) < (s.bufs.length:Int):=by omega
 have HB:=Lib.hid hB
 have HB1:=Lib.hid hB1
 have HW1:=Lib.hid hw1
 have H3:=Lib.hid h3
 have HA:=Lib.hid ha
 have HA1:=Lib.hid ha1
 have HD:=Lib.hid hd
 have HZ:=Lib.hid hz
 have HCS:=Lib.hid hcs
 have HQ:=Lib.hid hq
 have HS0:=Lib.hid hs0
 have HN35:=Lib.hid hn35
 have hr:s.empty t=decide (q.length=0):=by unfold Ts.empty;rw [hbuf]
 clear hbuf
 clear hn35 hw1 hs0 hB1 ha1 ha hd hz hcs hB hq lt h1 h3
 go_enter Tryz.func159,Tryz.ntmps159
 go_wp2_with fail
 rw [HW1.out]
 clear HW1
 go_region_held (fun w'=>Below w1.heap.size w1 w') (first | exact b0 | exact Below.trans (by assumption) (hb2.mono (Below.size (by assumption)))) (first | (go_at_call 65;refine (buf_len _ cs s.room q HB.out).mono ?_;rintro r w2 ⟨rfl,hb2⟩))
 all_goals go_wp2_with fail
 all_goals go_ret
 all_goals exact⟨congrArg (fun b=>Ending.returned (.bool b)) (by rw [hr,Bool.eq_iff_iff];simp),HB1.out.trans ((b0.trans hb2).mono (by have:=HZ1.out;omega))⟩
set_option maxHeartbeats 2000000 in
theorem load_ts(Z:Nat→Prop)(w:World)(K:TsK)(s:Ts)(t:Nat)(h:TsM Z w K s)(ht:t < s.ths.length)(ad:Nat)(had:ad < s.mem.length):
  Calls Tryz.prog 156 #[.agg #[.pointer (some ⟨K.mb,0,none⟩),.int .i64 t],.int .i64 ad] w fun e w'=>e=.returned (.int .u32 (s.load t ad))∧Below w.heap.size w w':=by
 have H:=Lib.hid h
 obtain⟨h1,h2,h3,h4,h5,ev,kv,marr,tarr,barr,ha,hd,hz⟩:=h
 obtain⟨q,hq⟩:∃ q,s.bufs[t]? = some q:=⟨_,List.getElem?_eq_getElem (by omega)⟩
 obtain⟨cs,hB,hcs⟩:=ha.cq t q hq
 have hbuf:s.buf t=q:=by unfold Ts.buf;rw [List.getD_eq_getElem?_getD,hq];rfl
 obtain⟨n35,hn35⟩:∃ n:Nat,n=35:=⟨_,rfl⟩
 have hsz:=sizeB hn35
 obtain⟨w1,hw1⟩:∃ w1,w.alloc (.cells #[.pointer (some ⟨K.mb,0,none⟩),.int .i64 t] 153)=w1:=⟨_,rfl⟩
 have hs0:w1.heap[w.heap.size]? = some (.cells #[.pointer (some ⟨K.mb,0,none⟩),.int .i64 t] 153 (0,0)):=by rw [←hw1];exact heap_alloc_new _ _
 have hB1:Below w.heap.size w w1:=by rw [←hw1];exact (Below.refl _ w).alloc (Nat.le_refl _) _
 have HZ1:Hid (w1.heap.size=w.heap.size+1):=Lib.hid (by rw [←hw1];simp)
 have ha1:=ha.only (Only.of_below (F:=fun _=>False) hB1 (Nat.le_refl _)) (fun _ e=>e.elim)
 have lt:∀ {k:Nat} {o:Obj},w1.heap[k]? = some o→k < w1.heap.size:=fun hk=>(Array.getElem?_eq_some_iff.1 hk).1
 have hc0:∀ W,Below w1.heap.size w1 W→W.cell? ⟨w.heap.size,0,none⟩=some (.pointer (some ⟨K.mb,0,none⟩)):=fun W hW=>cell_of_row _ _ 0 _ _ _ (up_bl hW (lt hs0) hs0)
 have hc1:∀ W,Below w1.heap.size w1 W→W.cell? ⟨w.heap.size,1,none⟩=some (.int .i64 t):=fun W hW=>cell_of_row _ _ 1 _ _ _ (up_bl hW (lt hs0) hs0)
 have hc2:∀ W,Below w1.heap.size w1 W→W.cell? ⟨K.mb,2,none⟩=some (.slice (some ⟨K.bb,0,none⟩) s.bufs.length K.bc):=fun W hW=>cell_of_row _ _ 2 _ _ _ (up_bl hW (lt ha1.hb) ha1.hb)
 have hc3:∀ W,Below w1.heap.size w1 W→W.cell? ⟨K.mb,3,none⟩=some (.slice (some ⟨K.mm,0,none⟩) s.mem.length K.mc):=fun W hW=>cell_of_row _ _ 3 _ _ _ (up_bl hW (lt ha1.hb) ha1.hb)
 have hld:∀ W,Below w1.heap.size w1 W→Sem.run Tryz.prog (loadCellsFrom ⟨K.bb,t*n35,none⟩ 0 n35 #[]) W=.ok cs W:=fun W hW=>ldRow (by rw [hn35];exact rowMid (up_bl hW (lt ha1.hq) ha1.hq) hcs) (hB.1.trans hn35.symm)
 have b0:Below w1.heap.size w1 w1.drew:=bl_drw (Below.refl _ _)
 have hi:(t:Int) < (s.bufs.length:Int):=by omega
 have HB:=Lib.hid hB
 have HB1:=Lib.hid hB1
 have HW1:=Lib.hid hw1
 have H3:=Lib.hid h3
 have HA:=Lib.hid ha
 have HA1:=Lib.hid ha1
 have HD:=Lib.hid hd
 have HZ:=Lib.hid hz
 have HCS:=Lib.hid hcs
 have HQ:=Lib.hid hq
 have HS0:=Lib.hid hs0
 have HN35:=Lib.hid hn35
 have hr:s.load t ad=(findQ q ad).getD (s.mem.getD ad 0):=by unfold Ts.load;rw [hbuf];rfl
 obtain⟨mv,hmv⟩:∃ v,s.mem[ad]? = some v:=⟨_,List.getElem?_eq_getElem had⟩
 have hmd:s.mem.getD ad 0=mv:=by rw [List.getD_eq_getElem?_getD,hmv];rfl
 rw [hmd] at hr
 have hcm:∀ W,Below w1.heap.size w1 W→W.cell? ⟨K.mm,ad,none⟩=some (.int .u32 mv):=fun W hW=>(cell_of_row _ _ _ _ _ _ (up_bl hW (lt ha1.hm) ha1.hm)).trans (ha1.cm _ _ hmv)
 have hai:(ad:Int) < (s.mem.length:Int):=by omega
 have HR:=Lib.hid hr
 clear hbuf hmv hmd hr
 clear hn35 hw1 hs0 hB1 ha1 ha hd hz hcs hB hq lt h1 h3
 go_enter Tryz.func156,Tryz.ntmps156
 go_wp2_with fail
 rw [HW1.out]
 clear HW1
 go_cut [5,6] from 7 (fun vv ov wx=>Hid (Below w1.heap.size w1 wx)∧∃ v,vv=.int .u32 v∧ov=.bool (findQ q ad).isSome∧Hid (∀ u,findQ q ad=some u→v=u))
 case first=>
  go_region_held (fun w'=>Below w1.heap.size w1 w') (first | exact b0 | exact Below.trans (by assumption) (hb2.mono (Below.size (by assumption)))) (first | (go_at_call 175;refine (buf_find _ cs s.room q ad HB.out).mono ?_;rintro r w2 ⟨⟨v,rfl,hv⟩,hb2⟩))
  all_goals go_wp2_with fail
  all_goals go_meet
  all_goals exact⟨Lib.hid (b0.trans hb2),v,rfl,rfl,Lib.hid hv⟩
 case rest=>
  obtain⟨HBC,v,rfl,rfl,HV⟩:=hcut
  have hbc:=HBC.out
  cases hf:findQ q ad with
  | none=>
   have e1:(none:Option Int).isSome=false:=rfl
   go_wp2_with fail
   go_ret
   exact⟨by rw [HR.out,hf];rfl,HB1.out.trans (HBC.out.mono (by have:=HZ1.out;omega))⟩
  | some u=>
   have e1:(some u).isSome=true:=rfl
   have e2:=HV.out u hf
   go_wp2_with fail
   go_ret
   exact⟨by rw [HR.out,hf,e2];rfl,HB1.out.trans (HBC.out.mono (by have:=HZ1.out;omega))⟩
end Go.Proofs.YtcnmhgblbikfkaaGreatDoor.As
end

section
set_option linter.unusedVariables false
set_option linter.unusedSimpArgs false
set_option maxRecDepth 20000
namespace Go.Proofs.YtcnmhgblbikfkaaGreatDoor.As
open Go.RowKit

theorem on_set1{F:Nat→Prop}{w:World}{p:Addr}(hp:F p.block)(v:Value):Only F w (w.setCell p v):=Only.set1 (Only.refl _ w) hp v
theorem TsAt.swap{w:World}{K:TsK}{s:Ts}{ev kv:Value}{marr tarr barr:Array Value}(h:TsAt w K s ev kv marr tarr barr)(hd:TsD K ev kv){ad:Nat}(hlt:ad < s.mem.length)(v:Int):
  ∃ marr',TsAt (w.setCell ⟨K.mm,ad,none⟩ (.int .u32 v)) K (s.swap ad v) ev kv marr' tarr barr:=by
 have hO:=on_set1 (F:=fun k=>k=K.mm) (w:=w) (p:=⟨K.mm,ad,none⟩) rfl (.int .u32 v)
 obtain⟨u0,hu0⟩:∃ u,s.mem[ad]? = some u:=⟨_,List.getElem?_eq_getElem hlt⟩
 have hsz:=(Array.getElem?_eq_some_iff.1 (h.cm ad u0 hu0)).1
 have lt:∀ {k:Nat} {o:Obj},w.heap[k]? = some o→k≠K.mm→(w.setCell ⟨K.mm,ad,none⟩ (.int .u32 v)).heap[k]? = some o:=fun hk hf=>(hO.block _ (Array.getElem?_eq_some_iff.1 hk).1 hf).trans hk
 refine⟨marr.setIfInBounds ad (.int .u32 v),?_,heap_setCell_same _ _ _ _ _ _ h.hm,fun j u hu=>?_,lt h.ht hd.d4.symm,h.ct,lt h.hq hd.d5.symm,h.cq,own_only h.oe hO (fun k e f=>(hd.e1 k e).2.1 f),own_only h.ok hO (fun k e f=>(hd.e2 k e).2.1 f)⟩
 ·rw [show (s.swap ad v).mem.length=s.mem.length from List.length_set]
  exact lt h.hb hd.d1
 ·have hu':(s.mem.set ad v)[j]? = some u:=hu
  rw [List.getElem?_set] at hu'
  rw [Array.getElem?_setIfInBounds]
  by_cases e:ad=j
  ·subst e
   rw [if_pos rfl,if_pos hlt] at hu'
   injection hu' with hu'
   rw [if_pos rfl,if_pos hsz,hu']
  ·rw [if_neg e] at hu'
   rw [if_neg e]
   exact h.cm j u hu'
theorem TsM.swap{Z:Nat→Prop}{w:World}{K:TsK}{s:Ts}(h:TsM Z w K s){ad:Nat}(hlt:ad < s.mem.length)(v:Int):
  TsM Z (w.setCell ⟨K.mm,ad,none⟩ (.int .u32 v)) K (s.swap ad v)∧Only (fun k=>¬Z k) w (w.setCell ⟨K.mm,ad,none⟩ (.int .u32 v)):=by
 obtain⟨h1,h2,h3,h4,h5,ev,kv,marr,tarr,barr,ha,hd,hz⟩:=h
 obtain⟨marr',ha'⟩:=ha.swap hd hlt v
 have hO:Only (fun k=>¬Z k) w (w.setCell ⟨K.mm,ad,none⟩ (.int .u32 v)):=on_set1 (p:=⟨K.mm,ad,none⟩) (fun hzz=>hz _ hzz (.inr (.inl rfl))) _
 exact⟨⟨fun k hk=>Nat.lt_of_lt_of_le (h1 k hk) hO.size,Nat.le_trans h2 hO.size,h3,h4,h5,ev,kv,marr',tarr,barr,ha',hd,hz⟩,hO⟩
theorem heap_setCells{b:Nat}{t:TypeId}:∀ (vs:List Value) (o:Nat) (w:World) (arr:Array Value),w.heap[b]? = some (.cells arr t (0,0))→o+vs.length≤arr.size→∃ arr',(w.setCells b o vs).heap[b]? = some (.cells arr' t (0,0))∧arr'.size=arr.size∧(∀ j u,vs[j]? = some u→arr'[o+j]? = some u)∧∀ k,k < o∨o+vs.length≤k→arr'[k]? = arr[k]?
 | [],o,w,arr,h,_=>⟨arr,h,rfl,fun j u hu=>by simp at hu,fun _ _=>rfl⟩
 | v::r,o,w,arr,h,hl=>by
  simp only [List.length_cons] at hl
  obtain⟨arr',h1,h2,h3,h4⟩:=heap_setCells r (o+1) (w.setCell ⟨b,o,none⟩ v) (arr.setIfInBounds o v) (heap_setCell_same _ _ _ _ _ _ h) (by simp;omega)
  refine⟨arr',h1,by rw [h2];simp,fun j u hu=>?_,fun k hk=>?_⟩
  ·cases j with
   | zero=>
    have e:v=u:=by simpa using hu
    subst e
    rw [Nat.add_zero,h4 o (.inl (by omega)),Array.getElem?_setIfInBounds_self_of_lt (by omega)]
   | succ j=>
    have:=h3 j u (by simpa using hu)
    rw [show o+(j+1)=o+1+j by omega]
    exact this
  ·simp only [List.length_cons] at hk
   rw [h4 k (by omega),Array.getElem?_setIfInBounds_ne (by omega)]
theorem setCells_other{b:Nat}:∀ (vs:List Value) (o:Nat) (w:World) (k:Nat),k≠b→(w.setCells b o vs).heap[k]? = w.heap[k]?
 | [],_,_,_,_=>rfl
 | v::r,o,w,k,h=>(setCells_other r (o+1) (w.setCell ⟨b,o,none⟩ v) k h).trans (heap_setCell_other _ _ _ _ h)
theorem on_setCells{b:Nat}:∀ (vs:List Value) (o:Nat) (w:World),Only (fun k=>k=b) w (w.setCells b o vs)
 | [],_,w=>Only.refl _ w
 | v::r,o,w=>(on_set1 (F:=fun k=>k=b) (p:=⟨b,o,none⟩) rfl v).trans (on_setCells r (o+1) _) (fun _ e=>.inl e)
theorem TsAt.setBuf{w:World}{K:TsK}{s:Ts}{ev kv:Value}{marr tarr barr:Array Value}(h:TsAt w K s ev kv marr tarr barr)(hd:TsD K ev kv){t:Nat}(ht:t < s.bufs.length){q:List (Nat×Int)}{cs:Array Value}(hB:BufIs cs s.room q):
  ∃ barr',TsAt (w.setCells K.bb (t*35) cs.toList) K { s with bufs:=s.bufs.set t q } ev kv marr tarr barr':=by
 have hO:=on_setCells (b:=K.bb) cs.toList (t*35) w
 obtain⟨q0,hq0⟩:∃ u,s.bufs[t]? = some u:=⟨_,List.getElem?_eq_getElem ht⟩
 obtain⟨c0,hB0,hc0⟩:=h.cq t q0 hq0
 have hbnd:t*35+35≤barr.size:=by
  have:=(Array.getElem?_eq_some_iff.1 (hc0 34 _ (Array.getElem?_eq_getElem (by rw [hB0.1];decide)))).1
  omega
 have lt:∀ {k:Nat} {o:Obj},w.heap[k]? = some o→k≠K.bb→(w.setCells K.bb (t*35) cs.toList).heap[k]? = some o:=fun hk hf=>(hO.block _ (Array.getElem?_eq_some_iff.1 hk).1 hf).trans hk
 obtain⟨barr',g1,g2,g3,g4⟩:=heap_setCells (b:=K.bb) (t:=127) cs.toList (t*35) w barr h.hq (by rw [Array.length_toList,hB.1];omega)
 refine⟨barr',?_,lt h.hm hd.d5,h.cm,lt h.ht hd.d6,h.ct,g1,fun j q' hj=>?_,own_only h.oe hO (fun k e f=>(hd.e1 k e).2.2.2.1 f),own_only h.ok hO (fun k e f=>(hd.e2 k e).2.2.2 f)⟩
 ·rw [show ({ s with bufs:=s.bufs.set t q }:Ts).bufs.length=s.bufs.length from List.length_set]
  exact lt h.hb hd.d3
 ·have hj':(s.bufs.set t q)[j]? = some q':=hj
  rw [List.getElem?_set] at hj'
  by_cases e:t=j
  ·subst e
   rw [if_pos rfl,if_pos ht] at hj'
   injection hj' with hj'
   subst hj'
   exact⟨cs,hB,fun i u hu=>g3 i u (by simpa using hu)⟩
  ·rw [if_neg e] at hj'
   obtain⟨c1,hB1,hc1⟩:=h.cq j q' hj'
   refine⟨c1,hB1,fun i u hu=>?_⟩
   have hi:i < 35:=by rw [←hB1.1];exact (Array.getElem?_eq_some_iff.1 hu).1
   rw [g4 (j*35+i) (by rw [Array.length_toList,hB.1];omega)]
   exact hc1 i u hu
theorem TsAt.there{w:World}{K:TsK}{s:Ts}{ev kv:Value}{marr tarr barr:Array Value}(h:TsAt w K s ev kv marr tarr barr){t:Nat}{q0:List (Nat×Int)}(hq0:s.bufs[t]? = some q0){W:World}(hW:Below w.heap.size w W):W.there K.bb (t*35) 35:=by
 obtain⟨c0,hB0,hc0⟩:=h.cq t q0 hq0
 have hbnd:t*35+35≤barr.size:=by
  have:=(Array.getElem?_eq_some_iff.1 (hc0 34 _ (Array.getElem?_eq_getElem (by rw [hB0.1];decide)))).1
  omega
 have hb:=up_bl hW (Array.getElem?_eq_some_iff.1 h.hq).1 h.hq
 intro j hj
 refine⟨?_,frozen_of_row _ _ _ _ _ hb⟩
 rw [cell_of_row _ _ _ _ _ _ hb,Array.getElem?_eq_getElem (by omega)]
 rfl
theorem TsM.setBuf{Z:Nat→Prop}{w:World}{K:TsK}{s:Ts}(h:TsM Z w K s){t:Nat}(ht:t < s.bufs.length){q:List (Nat×Int)}{cs:Array Value}(hB:BufIs cs s.room q):
  TsM Z (w.setCells K.bb (t*35) cs.toList) K { s with bufs:=s.bufs.set t q }∧Only (fun k=>¬Z k) w (w.setCells K.bb (t*35) cs.toList):=by
 obtain⟨h1,h2,h3,h4,h5,ev,kv,marr,tarr,barr,ha,hd,hz⟩:=h
 obtain⟨barr',ha'⟩:=ha.setBuf hd ht hB
 have hO:Only (fun k=>¬Z k) w (w.setCells K.bb (t*35) cs.toList):=(on_setCells (b:=K.bb) cs.toList (t*35) w).mono (fun k e hzz=>hz k hzz (by subst e;exact .inr (.inr (.inr (.inl rfl)))))
 exact⟨⟨fun k hk=>Nat.lt_of_lt_of_le (h1 k hk) hO.size,Nat.le_trans h2 hO.size,by rw [List.length_set];exact h3,h4,h5,ev,kv,marr,tarr,barr',ha',hd,hz⟩,hO⟩
-- WALKS
set_option maxHeartbeats 2000000 in
theorem swap_ts(Z:Nat→Prop)(w:World)(K:TsK)(s:Ts)(t:Nat)(h:TsM Z w K s)(ht:t < s.ths.length)(ad:Nat)(had:ad < s.mem.length)(v:Int):
  Calls Tryz.prog 160 #[.agg #[.pointer (some ⟨K.mb,0,none⟩),.int .i64 t],.int .i64 ad,.int .u32 v] w fun e w'=>(∃ u,e=.returned (.int .u32 u))∧TsM Z w' K (s.swap ad v)∧Only (fun k=>¬Z k) w w':=by
 have H:=Lib.hid h
 obtain⟨h1,h2,h3,h4,h5,ev,kv,marr,tarr,barr,ha,hd,hz⟩:=h
 obtain⟨q,hq⟩:∃ q,s.bufs[t]? = some q:=⟨_,List.getElem?_eq_getElem (by omega)⟩
 obtain⟨cs,hB,hcs⟩:=ha.cq t q hq
 have hbuf:s.buf t=q:=by unfold Ts.buf;rw [List.getD_eq_getElem?_getD,hq];rfl
 obtain⟨n35,hn35⟩:∃ n:Nat,n=35:=⟨_,rfl⟩
 have hsz:=sizeB hn35
 obtain⟨w1,hw1⟩:∃ w1,w.alloc (.cells #[.pointer (some ⟨K.mb,0,none⟩),.int .i64 t] 153)=w1:=⟨_,rfl⟩
 have hs0:w1.heap[w.heap.size]? = some (.cells #[.pointer (some ⟨K.mb,0,none⟩),.int .i64 t] 153 (0,0)):=by rw [←hw1];exact heap_alloc_new _ _
 have hB1:Below w.heap.size w w1:=by rw [←hw1];exact (Below.refl _ w).alloc (Nat.le_refl _) _
 have HZ1:Hid (w1.heap.size=w.heap.size+1):=Lib.hid (by rw [←hw1];simp)
 have ha1:=ha.only (Only.of_below (F:=fun _=>False) hB1 (Nat.le_refl _)) (fun _ e=>e.elim)
 have lt:∀ {k:Nat} {o:Obj},w1.heap[k]? = some o→k < w1.heap.size:=fun hk=>(Array.getElem?_eq_some_iff.1 hk).1
 have hc0:∀ W,Below w1.heap.size w1 W→W.cell? ⟨w.heap.size,0,none⟩=some (.pointer (some ⟨K.mb,0,none⟩)):=fun W hW=>cell_of_row _ _ 0 _ _ _ (up_bl hW (lt hs0) hs0)
 have hc1:∀ W,Below w1.heap.size w1 W→W.cell? ⟨w.heap.size,1,none⟩=some (.int .i64 t):=fun W hW=>cell_of_row _ _ 1 _ _ _ (up_bl hW (lt hs0) hs0)
 have hc2:∀ W,Below w1.heap.size w1 W→W.cell? ⟨K.mb,2,none⟩=some (.slice (some ⟨K.bb,0,none⟩) s.bufs.length K.bc):=fun W hW=>cell_of_row _ _ 2 _ _ _ (up_bl hW (lt ha1.hb) ha1.hb)
 have hc3:∀ W,Below w1.heap.size w1 W→W.cell? ⟨K.mb,3,none⟩=some (.slice (some ⟨K.mm,0,none⟩) s.mem.length K.mc):=fun W hW=>cell_of_row _ _ 3 _ _ _ (up_bl hW (lt ha1.hb) ha1.hb)
 have hld:∀ W,Below w1.heap.size w1 W→Sem.run Tryz.prog (loadCellsFrom ⟨K.bb,t*n35,none⟩ 0 n35 #[]) W=.ok cs W:=fun W hW=>ldRow (by rw [hn35];exact rowMid (up_bl hW (lt ha1.hq) ha1.hq) hcs) (hB.1.trans hn35.symm)
 have b0:Below w1.heap.size w1 w1.drew:=bl_drw (Below.refl _ _)
 have hi:(t:Int) < (s.bufs.length:Int):=by omega
 have HB:=Lib.hid hB
 have HB1:=Lib.hid hB1
 have HW1:=Lib.hid hw1
 have H3:=Lib.hid h3
 have HA:=Lib.hid ha
 have HA1:=Lib.hid ha1
 have HD:=Lib.hid hd
 have HZ:=Lib.hid hz
 have HCS:=Lib.hid hcs
 have HQ:=Lib.hid hq
 have HS0:=Lib.hid hs0
 have HN35:=Lib.hid hn35
 obtain⟨mv,hmv⟩:∃ v,s.mem[ad]? = some v:=⟨_,List.getElem?_eq_getElem had⟩
 have hcm:∀ W,Below w1.heap.size w1 W→W.cell? ⟨K.mm,ad,none⟩=some (.int .u32 mv):=fun W hW=>(cell_of_row _ _ _ _ _ _ (up_bl hW (lt ha1.hm) ha1.hm)).trans (ha1.cm _ _ hmv)
 have hfr:w1.frozen? ⟨K.mm,ad,none⟩=false:=frozen_of_row _ _ _ _ _ ha1.hm
 have hai:(ad:Int) < (s.mem.length:Int):=by omega
 have b1:Below w1.heap.size w1 w1:=Below.refl _ _
 have HM1:=Lib.hid ((H.out.below hB1).swap had v)
 have HO1:Hid (Only (fun k=>¬Z k) w w1):=Lib.hid (Only.of_below hB1 (Nat.le_refl _))
 clear hbuf hmv hld b0
 clear hn35 hw1 hs0 hB1 ha1 ha hd hz hcs hB hq lt h1 h3
 go_enter Tryz.func160,Tryz.ntmps160
 go_upto_region 1 with fail
 rw [HW1.out]
 clear HW1
 go_wp2_with fail
 go_ret
 exact⟨⟨_,rfl⟩,HM1.out.1,HO1.out.trans HM1.out.2 (fun k e=>.inl e)⟩
end Go.Proofs.YtcnmhgblbikfkaaGreatDoor.As
end

section
set_option linter.unusedVariables false
set_option linter.unusedSimpArgs false
set_option maxRecDepth 20000
namespace Go.Proofs.YtcnmhgblbikfkaaGreatDoor.As
open Go.RowKit

theorem TsM.noted{Z:Nat→Prop}{w w1:World}{K:TsK}{s:Ts}{ev kv:Value}{marr tarr barr:Array Value}{t g cap:Nat}{e:Ev}(h1:∀ k,Z k→k < w.heap.size)(h2:K.b0≤w.heap.size)(h3:s.bufs.length=s.ths.length)(h4:1≤s.room)(h5:s.room≤16)
  (ha:TsAt w K s ev kv marr tarr barr) (hd:TsD K ev kv) (hz:∀ k,Z k→¬TsF K ev kv k) (hgr:w.grownBy w1 ev.ownBlock) (hat:ev.ownBlock=some g∨w.heap.size≤g)
  (ho:w1.ownsRow K.b0 136 8 (.slice (some ⟨g,0,none⟩) (s.evs.length+1) cap) (s.evs.length+1) (flatE s.evs++({ e with who:=t }:Ev).cells)):
  TsM Z (w1.setCell ⟨K.mb,5,none⟩ (.slice (some ⟨g,0,none⟩) (s.evs.length+1) cap)) K (s.note t e)∧Only (fun k=>¬Z k) w (w1.setCell ⟨K.mb,5,none⟩ (.slice (some ⟨g,0,none⟩) (s.evs.length+1) cap)):=by
 have hO1:Only (fun k=>ev.ownBlock=some k) w w1:=⟨hgr.os,hgr.tape,hgr.output,hgr.size,fun k hk hn=>hgr.block k hk (fun q=>hn q.symm)⟩
 have hg:∀ k,k < w.heap.size→(ev.ownBlock=some k→False)→g≠k:=by
  intro k hk hn hgk
  subst hgk
  rcases hat with h | h
  ·exact hn h
  ·omega
 have hgm:g≠K.mb:=hg _ (ha.flt _ (.inl rfl)) (fun q=>(hd.e1 _ q).1 rfl)
 have hgm2:g≠K.mm:=hg _ (ha.flt _ (.inr (.inl rfl))) (fun q=>(hd.e1 _ q).2.1 rfl)
 have hgt:g≠K.tb:=hg _ (ha.flt _ (.inr (.inr (.inl rfl)))) (fun q=>(hd.e1 _ q).2.2.1 rfl)
 have hgb:g≠K.bb:=hg _ (ha.flt _ (.inr (.inr (.inr (.inl rfl))))) (fun q=>(hd.e1 _ q).2.2.2.1 rfl)
 have hgk:kv.ownBlock≠some g:=fun q=>hg _ (ha.flt _ (.inr (.inr (.inr (.inr (.inr q)))))) (fun q2=>(hd.e1 _ q2).2.2.2.2 q) rfl
 have lt:∀ {k:Nat} {o:Obj},w.heap[k]? = some o→(ev.ownBlock=some k→False)→w1.heap[k]? = some o:=fun hk hn=>(hO1.block _ (Array.getElem?_eq_some_iff.1 hk).1 hn).trans hk
 have hb1:=lt ha.hb (fun q=>(hd.e1 _ q).1 rfl)
 have hO:Only (fun k=>¬Z k) w (w1.setCell ⟨K.mb,5,none⟩ (.slice (some ⟨g,0,none⟩) (s.evs.length+1) cap)):=
  (hO1.mono (fun k e hzz=>hz k hzz (.inr (.inr (.inr (.inr (.inl e))))))).set1 (p:=⟨K.mb,5,none⟩) (fun hzz=>hz _ hzz (.inl rfl)) _
 have hO2:=on_set1 (F:=fun k=>k=K.mb) (w:=w1) (p:=⟨K.mb,5,none⟩) rfl (.slice (some ⟨g,0,none⟩) (s.evs.length+1) cap)
 have lt2:∀ {k:Nat} {o:Obj},w1.heap[k]? = some o→k≠K.mb→(w1.setCell ⟨K.mb,5,none⟩ (.slice (some ⟨g,0,none⟩) (s.evs.length+1) cap)).heap[k]? = some o:=fun hk hf=>(hO2.block _ (Array.getElem?_eq_some_iff.1 hk).1 hf).trans hk
 have hlen:(s.note t e).evs.length=s.evs.length+1:=by simp [Ts.note]
 have hob:(Value.slice (some ⟨g,0,none⟩) (s.evs.length+1) cap).ownBlock=some g:=rfl
 refine⟨⟨fun k hk=>Nat.lt_of_lt_of_le (h1 k hk) hO.size,Nat.le_trans h2 hO.size,h3,h4,h5,.slice (some ⟨g,0,none⟩) (s.evs.length+1) cap,kv,marr,tarr,barr,?_,?_,?_⟩,hO⟩
 ·refine⟨?_,lt2 (lt ha.hm (fun q=>(hd.e1 _ q).2.1 rfl)) hd.d1.symm,ha.cm,lt2 (lt ha.ht (fun q=>(hd.e1 _ q).2.2.1 rfl)) hd.d2.symm,ha.ct,lt2 (lt ha.hq (fun q=>(hd.e1 _ q).2.2.2.1 rfl)) hd.d3.symm,ha.cq,?_,?_⟩
  ·exact (heap_setCell_same _ K.mb 5 _ _ _ hb1).trans (by simp;exact⟨rfl,rfl,rfl⟩)
  ·rw [hlen,show (s.note t e).evs=s.evs++[{ e with who:=t }] from rfl,flatE_snoc]
   exact ownsRow_setCell_other ho (by rw [hob];exact fun q=>hgm (Option.some.inj q)) _
  ·exact own_only (own_only ha.ok hO1 (fun k e f=>(hd.e1 k f).2.2.2.2 e)) hO2 (fun k e f=>(hd.e2 k e).1 f)
 ·refine⟨hd.d1,hd.d2,hd.d3,hd.d4,hd.d5,hd.d6,fun k q=>?_,hd.e2⟩
  have:g=k:=Option.some.inj q
  subst this
  exact⟨hgm,hgm2,hgt,hgb,hgk⟩
 ·intro k hk hf
  rcases hf with q | q | q | q | q | q
  ·exact hz k hk (.inl q)
  ·exact hz k hk (.inr (.inl q))
  ·exact hz k hk (.inr (.inr (.inl q)))
  ·exact hz k hk (.inr (.inr (.inr (.inl q))))
  ·have hgk2:g=k:=Option.some.inj q
   subst hgk2
   rcases hat with h | h
   ·exact hz g hk (.inr (.inr (.inr (.inr (.inl h)))))
   ·have:=h1 g hk;omega
  ·exact hz k hk (.inr (.inr (.inr (.inr (.inr q)))))
def Since(ev:Value)(w1 W:World):Prop:=Only (fun k=>ev.ownBlock=some k) w1 W
set_option maxHeartbeats 8000000 in
theorem note_ts(Z:Nat→Prop)(w:World)(K:TsK)(s:Ts)(t:Nat)(h:TsM Z w K s)(hn:s.evs.length≤100000000000)(e:Ev):
  Calls Tryz.prog 73 #[.agg #[.pointer (some ⟨K.mb,0,none⟩),.int .i64 t],.agg #[.int .i64 e.kind,.int .i64 e.who,.int .i64 e.pc,.int .i64 e.addr,.int .u32 e.val,.int .u32 e.old,.int .u32 e.k,.bool e.ok]] w fun r w'=>r=.returned (.tuple #[])∧TsM Z w' K (s.note t e)∧Only (fun k=>¬Z k) w w':=by
 obtain⟨i0,hi,hz0,hz1,hz2⟩:=info_parts infoEv
 have H:=Lib.hid h
 obtain⟨w1,hw1⟩:∃ w1,(w.alloc (.cells #[.pointer (some ⟨K.mb,0,none⟩),.int .i64 t] 153)).alloc (.cells #[.int .i64 e.kind,.int .i64 t,.int .i64 e.pc,.int .i64 e.addr,.int .u32 e.val,.int .u32 e.old,.int .u32 e.k,.bool e.ok] 136)=w1:=⟨_,rfl⟩
 have hs0:w1.heap[w.heap.size]? = some (.cells #[.pointer (some ⟨K.mb,0,none⟩),.int .i64 t] 153 (0,0)):=by rw [←hw1];exact up_al (heap_alloc_new _ _)
 have he0:w1.heap[w.heap.size+1]? = some (.cells #[.int .i64 e.kind,.int .i64 t,.int .i64 e.pc,.int .i64 e.addr,.int .u32 e.val,.int .u32 e.old,.int .u32 e.k,.bool e.ok] 136 (0,0)):=by rw [←hw1];exact new_at (by simp)
 have hB1:Below w.heap.size w w1:=by rw [←hw1];exact ((Below.refl _ w).alloc (Nat.le_refl _) _).alloc (by simp) _
 obtain⟨k1,k2,h3,h4,h5,ev,kv,marr,tarr,barr,ha0,hd,hz⟩:=h
 have ha:=ha0.only (Only.of_below (F:=fun _=>False) hB1 (Nat.le_refl _)) (fun _ q=>q.elim)
 have lt:∀ {k:Nat} {o:Obj},w1.heap[k]? = some o→k < w1.heap.size:=fun hk=>(Array.getElem?_eq_some_iff.1 hk).1
 have kp:∀ {W:World} {k:Nat} {o:Obj},Since ev w1 W→w1.heap[k]? = some o→(ev.ownBlock=some k→False)→W.heap[k]? = some o:=fun hW hk hn=>(hW.block _ (lt hk) hn).trans hk
 have na:ev.ownBlock=some w.heap.size→False:=fun q=>absurd (ha0.oe.lt _ q).2 (Nat.lt_irrefl _)
 have nb:ev.ownBlock=some (w.heap.size+1)→False:=fun q=>absurd (ha0.oe.lt _ q).2 (by omega)
 have nm:ev.ownBlock=some K.mb→False:=fun q=>(hd.e1 _ q).1 rfl
 have c0:∀ W,Since ev w1 W→W.cell? ⟨w.heap.size,0,none⟩=some (.pointer (some ⟨K.mb,0,none⟩)):=fun W hW=>cell_of_row _ _ 0 _ _ _ (kp hW hs0 na)
 have c5:∀ W,Since ev w1 W→W.cell? ⟨K.mb,5,none⟩=some ev:=fun W hW=>cell_of_row _ _ 5 _ _ _ (kp hW ha.hb nm)
 have f5:∀ W,Since ev w1 W→W.frozen? ⟨K.mb,5,none⟩=false:=fun W hW=>frozen_of_row _ _ 5 _ _ (kp hW ha.hb nm)
 have xj:∀ (j:Nat) v,(#[Value.int .i64 e.kind,.int .i64 t,.int .i64 e.pc,.int .i64 e.addr,.int .u32 e.val,.int .u32 e.old,.int .u32 e.k,.bool e.ok]:Array Value)[j]? = some v→∀ W,Since ev w1 W→W.cell? ⟨w.heap.size+1,j,none⟩=some v:=fun j v hv W hW=>(cell_of_row _ _ _ _ _ _ (kp hW he0 nb)).trans hv
 have x0:=xj 0 _ rfl
 have x1:=xj 1 _ rfl
 have x2:=xj 2 _ rfl
 have x3:=xj 3 _ rfl
 have x4:=xj 4 _ rfl
 have x5:=xj 5 _ rfl
 have x6:=xj 6 _ rfl
 have x7:=xj 7 _ rfl
 have b0:Since ev w1 w1.drew:=⟨rfl,rfl,rfl,Nat.le_refl _,fun _ _ _=>rfl⟩
 have HA:=Lib.hid ha
 have HD:=Lib.hid hd
 have HZ:=Lib.hid hz
 have HW1:=Lib.hid hw1
 have HB1:=Lib.hid hB1
 have K1:=Lib.hid k1
 clear xj kp hw1 hB1 hs0 he0 hd hz na nb nm lt k1 ha0 ha
 go_enter Tryz.func73,Tryz.ntmps73
 go_upto_region 2 with fail
 rw [HW1.out]
 clear HW1
 refine wp_region_g (fun W=>Since ev w1 W) 12 (by kernel_rfl) ?_
 refine AnyG_take (i:=0) (oi:=_) (v:=?_) rfl (by kernel_rfl) (fun _ _ _ h=>h) (Or.inl ⟨by rfl,?_⟩) b0 ?_
 rotate_left
 ·intro W hSw;(try dsimp only at hSw);go_simp;first | done | with_reducible rfl
 simp only [Act.put,List.getElem_toArray,List.getElem_cons_zero,List.getElem_cons_succ,List.setIfInBounds_toArray,List.set_cons_zero,List.set_cons_succ]
 refine AnyG_take (i:=1) (oi:=_) (v:=?_) rfl (by kernel_rfl) (fun _ _ _ h=>h) (Or.inl ⟨by rfl,?_⟩) b0 ?_
 rotate_left
 ·intro W hSw;(try dsimp only at hSw);go_simp;first | done | with_reducible rfl
 simp only [Act.put,List.getElem_toArray,List.getElem_cons_zero,List.getElem_cons_succ,List.setIfInBounds_toArray,List.set_cons_zero,List.set_cons_succ]
 refine AnyG_take (i:=2) (oi:=_) (v:=?_) rfl (by kernel_rfl) (fun _ _ _ h=>h) (Or.inl ⟨by rfl,?_⟩) b0 ?_
 rotate_left
 ·intro W hSw;(try dsimp only at hSw);go_simp;first | done | with_reducible rfl
 simp only [Act.put,List.getElem_toArray,List.getElem_cons_zero,List.getElem_cons_succ,List.setIfInBounds_toArray,List.set_cons_zero,List.set_cons_succ]
 refine AnyG_take (i:=3) (oi:=_) (v:=?_) rfl (by kernel_rfl) (fun _ _ _ h=>h) (Or.inl ⟨by rfl,?_⟩) b0 ?_
 rotate_left
 ·intro W hSw;(try dsimp only at hSw);go_simp;first | done | with_reducible rfl
 simp only [Act.put,List.getElem_toArray,List.getElem_cons_zero,List.getElem_cons_succ,List.setIfInBounds_toArray,List.set_cons_zero,List.set_cons_succ]
 refine AnyG_take (i:=4) (oi:=_) (v:=?_) rfl (by kernel_rfl) (fun _ _ _ h=>h) (Or.inl ⟨by rfl,?_⟩) b0 ?_
 rotate_left
 ·intro W hSw;(try dsimp only at hSw);go_simp;first | done | with_reducible rfl
 simp only [Act.put,List.getElem_toArray,List.getElem_cons_zero,List.getElem_cons_succ,List.setIfInBounds_toArray,List.set_cons_zero,List.set_cons_succ]
 refine AnyG_take (i:=5) (oi:=_) (v:=?_) rfl (by kernel_rfl) (fun _ _ _ h=>h) (Or.inl ⟨by rfl,?_⟩) b0 ?_
 rotate_left
 ·intro W hSw;(try dsimp only at hSw);go_simp;first | done | with_reducible rfl
 simp only [Act.put,List.getElem_toArray,List.getElem_cons_zero,List.getElem_cons_succ,List.setIfInBounds_toArray,List.set_cons_zero,List.set_cons_succ]
 refine AnyG_take (i:=6) (oi:=_) (v:=?_) rfl (by kernel_rfl) (fun _ _ _ h=>h) (Or.inl ⟨by rfl,?_⟩) b0 ?_
 rotate_left
 ·intro W hSw;(try dsimp only at hSw);go_simp;first | done | with_reducible rfl
 simp only [Act.put,List.getElem_toArray,List.getElem_cons_zero,List.getElem_cons_succ,List.setIfInBounds_toArray,List.set_cons_zero,List.set_cons_succ]
 refine AnyG_take (i:=7) (oi:=_) (v:=?_) rfl (by kernel_rfl) (fun _ _ _ h=>h) (Or.inl ⟨by rfl,?_⟩) b0 ?_
 rotate_left
 ·intro W hSw;(try dsimp only at hSw);go_simp;first | done | with_reducible rfl
 simp only [Act.put,List.getElem_toArray,List.getElem_cons_zero,List.getElem_cons_succ,List.setIfInBounds_toArray,List.set_cons_zero,List.set_cons_succ]
 have SA:=Lib.hid (show ∀ X,Since ev w1 (w1.drew.alloc X) from fun X=>⟨rfl,rfl,rfl,by simp,fun k hk _=>Below.heap_alloc _ _ _ hk⟩)
 refine AnyG_one (i:=8) rfl (by kernel_rfl) ?_
 refine wpOp_of rfl rfl ?_
 try simp only [Act.put,List.getElem_toArray,List.getElem_cons_zero,List.getElem_cons_succ,List.setIfInBounds_toArray,List.set_cons_zero,List.set_cons_succ]
 go_simp
 refine⟨SA.out _,?_⟩
 try simp only [Act.put,List.getElem_toArray,List.getElem_cons_zero,List.getElem_cons_succ,List.setIfInBounds_toArray,List.set_cons_zero,List.set_cons_succ]
 refine AnyG_one (i:=9) rfl (by kernel_rfl) ?_
 refine wpOp_of rfl rfl ?_
 try simp only [Act.put,List.getElem_toArray,List.getElem_cons_zero,List.getElem_cons_succ,List.setIfInBounds_toArray,List.set_cons_zero,List.set_cons_succ]
 have hown:∀ X,(w1.drew.alloc X).ownsRow K.b0 136 8 ev s.evs.length (flatE s.evs):=fun X=>own_only (F:=fun _=>False) HA.out.oe ⟨rfl,rfl,rfl,by simp,fun k hk _=>Below.heap_alloc _ _ _ hk⟩ (fun _ _ f=>f)
 have hk2:=HB1.out.size
 have hkb:=H.out.2.1
 refine wp_append_lies _ (.tmp 13) (.tmp 15) 55 (by rfl) K.b0 136 i0 _ 8 48 Tryz.underlying55 hi hz0 hz1 hz2 rfl (by decide) ev s.evs.length (flatE s.evs) (by rfl) (hown _) ⟨w1.heap.size,0,none⟩ 1 1 [.int .i64 e.kind,.int .i64 t,.int .i64 e.pc,.int .i64 e.addr,.int .u32 e.val,.int .u32 e.old,.int .u32 e.k,.bool e.ok] (by rfl) rfl (World.news_of_block (heap_alloc_new _ _)) (by simp [Value.oneCell']) (by decide) (by unfold maxLen;omega) (by omega) (by simp;omega) _ rfl ?_
 intro g1 cap W2 ho hgr hat hlt1
 have hgr2:w1.grownBy W2 ev.ownBlock:=grown_from hgr rfl rfl rfl (by simp) (fun i hi'=>Below.heap_alloc _ _ _ hi')
 have hat2:ev.ownBlock=some g1∨w1.heap.size≤g1:=by
  rcases hat with hat | hat
  ·exact .inl hat
  ·right;simp at hat;omega
 have sB:Since ev w1 W2:=⟨hgr2.os,hgr2.tape,hgr2.output,hgr2.size,fun k hk hn=>hgr2.block k hk (fun q=>hn q.symm)⟩
 have HF:=Lib.hid (TsM.noted (fun k hk=>Nat.lt_of_lt_of_le (K1.out k hk) hk2) (by omega) h3 h4 h5 HA.out HD.out HZ.out hgr2 hat2 ho)
 clear ho hgr hat hat2 hgr2 hown
 refine⟨fun _ _=>sB,?_⟩
 try simp only [Act.put,List.getElem_toArray,List.getElem_cons_zero,List.getElem_cons_succ,List.setIfInBounds_toArray,List.set_cons_zero,List.set_cons_succ]
 refine AnyG_one (i:=10) rfl (by kernel_rfl) ?_
 refine wpOp_of rfl rfl ?_
 try simp only [Act.put,List.getElem_toArray,List.getElem_cons_zero,List.getElem_cons_succ,List.setIfInBounds_toArray,List.set_cons_zero,List.set_cons_succ]
 go_simp
 try simp only [Act.put,List.getElem_toArray,List.getElem_cons_zero,List.getElem_cons_succ,List.setIfInBounds_toArray,List.set_cons_zero,List.set_cons_succ]
 refine AnyG_one (i:=11) rfl (by kernel_rfl) ?_
 refine wpOp_of rfl rfl ?_
 try simp only [Act.put,List.getElem_toArray,List.getElem_cons_zero,List.getElem_cons_succ,List.setIfInBounds_toArray,List.set_cons_zero,List.set_cons_succ]
 go_simp
 try simp only [Act.put,List.getElem_toArray,List.getElem_cons_zero,List.getElem_cons_succ,List.setIfInBounds_toArray,List.set_cons_zero,List.set_cons_succ]
 refine AnyG_one (i:=12) rfl (by kernel_rfl) ?_
 refine wpOp_of rfl rfl ?_
 try simp only [Act.put,List.getElem_toArray,List.getElem_cons_zero,List.getElem_cons_succ,List.setIfInBounds_toArray,List.set_cons_zero,List.set_cons_succ]
 go_simp
 try simp only [Act.put,List.getElem_toArray,List.getElem_cons_zero,List.getElem_cons_succ,List.setIfInBounds_toArray,List.set_cons_zero,List.set_cons_succ]
 refine AnyG_done (by kernel_rfl) ?_ _
 go_wp2_with fail
 go_end0
 exact⟨rfl,HF.out.1,(Only.of_below HB1.out (Nat.le_refl _)).trans HF.out.2 (fun k q=>.inl q)⟩
end Go.Proofs.YtcnmhgblbikfkaaGreatDoor.As
end

section
set_option linter.unusedVariables false
set_option linter.unusedSimpArgs false
set_option maxRecDepth 20000
namespace Go.Proofs.YtcnmhgblbikfkaaGreatDoor.As
open Go.RowKit

set_option maxHeartbeats 8000000 in
theorem store_ts(Z:Nat→Prop)(w:World)(K:TsK)(s:Ts)(t:Nat)(h:TsM Z w K s)(ht:t < s.ths.length)(hr:s.roomy t=true)(ad:Nat)(v:Int):
  Calls Tryz.prog 158 #[.agg #[.pointer (some ⟨K.mb,0,none⟩),.int .i64 t],.int .i64 ad,.int .u32 v] w fun e w'=>e=.returned (.tuple #[])∧TsM Z w' K (s.store t ad v)∧Only (fun k=>¬Z k) w w':=by
 have H:=Lib.hid h
 obtain⟨h1,h2,h3,h4,h5,ev,kv,marr,tarr,barr,ha,hd,hz⟩:=h
 obtain⟨q,hq⟩:∃ q,s.bufs[t]? = some q:=⟨_,List.getElem?_eq_getElem (by omega)⟩
 obtain⟨cs,hB,hcs⟩:=ha.cq t q hq
 have hbuf:s.buf t=q:=by unfold Ts.buf;rw [List.getD_eq_getElem?_getD,hq];rfl
 obtain⟨n35,hn35⟩:∃ n:Nat,n=35:=⟨_,rfl⟩
 have hsz:=sizeB hn35
 obtain⟨w1,hw1⟩:∃ w1,w.alloc (.cells #[.pointer (some ⟨K.mb,0,none⟩),.int .i64 t] 153)=w1:=⟨_,rfl⟩
 have hs0:w1.heap[w.heap.size]? = some (.cells #[.pointer (some ⟨K.mb,0,none⟩),.int .i64 t] 153 (0,0)):=by rw [←hw1];exact heap_alloc_new _ _
 have hB1:Below w.heap.size w w1:=by rw [←hw1];exact (Below.refl _ w).alloc (Nat.le_refl _) _
 have HZ1:Hid (w1.heap.size=w.heap.size+1):=Lib.hid (by rw [←hw1];simp)
 have ha1:=ha.only (Only.of_below (F:=fun _=>False) hB1 (Nat.le_refl _)) (fun _ e=>e.elim)
 have lt:∀ {k:Nat} {o:Obj},w1.heap[k]? = some o→k < w1.heap.size:=fun hk=>(Array.getElem?_eq_some_iff.1 hk).1
 have hc0:∀ W,Below w1.heap.size w1 W→W.cell? ⟨w.heap.size,0,none⟩=some (.pointer (some ⟨K.mb,0,none⟩)):=fun W hW=>cell_of_row _ _ 0 _ _ _ (up_bl hW (lt hs0) hs0)
 have hc1:∀ W,Below w1.heap.size w1 W→W.cell? ⟨w.heap.size,1,none⟩=some (.int .i64 t):=fun W hW=>cell_of_row _ _ 1 _ _ _ (up_bl hW (lt hs0) hs0)
 have hc2:∀ W,Below w1.heap.size w1 W→W.cell? ⟨K.mb,2,none⟩=some (.slice (some ⟨K.bb,0,none⟩) s.bufs.length K.bc):=fun W hW=>cell_of_row _ _ 2 _ _ _ (up_bl hW (lt ha1.hb) ha1.hb)
 have hc3:∀ W,Below w1.heap.size w1 W→W.cell? ⟨K.mb,3,none⟩=some (.slice (some ⟨K.mm,0,none⟩) s.mem.length K.mc):=fun W hW=>cell_of_row _ _ 3 _ _ _ (up_bl hW (lt ha1.hb) ha1.hb)
 have hld:∀ W,Below w1.heap.size w1 W→Sem.run Tryz.prog (loadCellsFrom ⟨K.bb,t*n35,none⟩ 0 n35 #[]) W=.ok cs W:=fun W hW=>ldRow (by rw [hn35];exact rowMid (up_bl hW (lt ha1.hq) ha1.hq) hcs) (hB.1.trans hn35.symm)
 have b0:Below w1.heap.size w1 w1.drew:=bl_drw (Below.refl _ _)
 have hi:(t:Int) < (s.bufs.length:Int):=by omega
 have HB:=Lib.hid hB
 have HB1:=Lib.hid hB1
 have HW1:=Lib.hid hw1
 have H3:=Lib.hid h3
 have HA:=Lib.hid ha
 have HA1:=Lib.hid ha1
 have HD:=Lib.hid hd
 have HZ:=Lib.hid hz
 have HCS:=Lib.hid hcs
 have HQ:=Lib.hid hq
 have HS0:=Lib.hid hs0
 have HN35:=Lib.hid hn35
 have hlt:q.length < s.room:=by unfold Ts.roomy at hr;rw [hbuf] at hr;simpa using hr
 have hst:s.store t ad v={ s with bufs:=s.bufs.set t (q++[(ad,v)]) }:=by unfold Ts.store;rw [hbuf]
 have HM1:=Lib.hid (H.out.below hB1)
 have HO1:Hid (Only (fun k=>¬Z k) w w1):=Lib.hid (Only.of_below hB1 (Nat.le_refl _))
 have HST:=Lib.hid hst
 have ht3:t < s.bufs.length:=by omega
 clear hbuf hr hst
 clear hn35 hw1 hs0 hB1 ha1 ha hd hz hcs hB hq lt h1 h3
 go_enter Tryz.func158,Tryz.ntmps158
 go_wp2_with fail
 rw [HW1.out]
 clear HW1 hc3
 refine wp_region_g (fun w'=>Below w1.heap.size w1 w') 24 (by kernel_rfl) ?_
 refine AnyG_take (i:=0) (oi:=_) (v:=?_) rfl (by kernel_rfl) (fun _ _ _ h=>h) (Or.inl ⟨by rfl,?_⟩) b0 ?_
 rotate_left
 ·intro W hSw;(try dsimp only at hSw);go_simp;first | done | with_reducible rfl
 simp only [Act.put,List.getElem_toArray,List.getElem_cons_zero,List.getElem_cons_succ,List.setIfInBounds_toArray,List.set_cons_zero,List.set_cons_succ]
 refine AnyG_take (i:=1) (oi:=_) (v:=?_) rfl (by kernel_rfl) (fun _ _ _ h=>h) (Or.inl ⟨by rfl,?_⟩) b0 ?_
 rotate_left
 ·intro W hSw;(try dsimp only at hSw);go_simp;first | done | with_reducible rfl
 simp only [Act.put,List.getElem_toArray,List.getElem_cons_zero,List.getElem_cons_succ,List.setIfInBounds_toArray,List.set_cons_zero,List.set_cons_succ]
 refine AnyG_take (i:=2) (oi:=_) (v:=?_) rfl (by kernel_rfl) (fun _ _ _ h=>h) (Or.inl ⟨by rfl,?_⟩) b0 ?_
 rotate_left
 ·intro W hSw;(try dsimp only at hSw);go_simp;first | done | with_reducible rfl
 simp only [Act.put,List.getElem_toArray,List.getElem_cons_zero,List.getElem_cons_succ,List.setIfInBounds_toArray,List.set_cons_zero,List.set_cons_succ]
 refine AnyG_take (i:=3) (oi:=_) (v:=?_) rfl (by kernel_rfl) (fun _ _ _ h=>h) (Or.inl ⟨by rfl,?_⟩) b0 ?_
 rotate_left
 ·intro W hSw;(try dsimp only at hSw);go_simp;first | done | with_reducible rfl
 simp only [Act.put,List.getElem_toArray,List.getElem_cons_zero,List.getElem_cons_succ,List.setIfInBounds_toArray,List.set_cons_zero,List.set_cons_succ]
 refine AnyG_take (i:=4) (oi:=_) (v:=?_) rfl (by kernel_rfl) (fun _ _ _ h=>h) (Or.inl ⟨by rfl,?_⟩) b0 ?_
 rotate_left
 ·intro W hSw;(try dsimp only at hSw);go_simp;first | done | with_reducible rfl
 simp only [Act.put,List.getElem_toArray,List.getElem_cons_zero,List.getElem_cons_succ,List.setIfInBounds_toArray,List.set_cons_zero,List.set_cons_succ]
 refine AnyG_take (i:=5) (oi:=_) (v:=?_) rfl (by kernel_rfl) (fun _ _ _ h=>h) (Or.inl ⟨by rfl,?_⟩) b0 ?_
 rotate_left
 ·intro W hSw;(try dsimp only at hSw);go_simp;first | done | with_reducible rfl
 simp only [Act.put,List.getElem_toArray,List.getElem_cons_zero,List.getElem_cons_succ,List.setIfInBounds_toArray,List.set_cons_zero,List.set_cons_succ]
 refine AnyG_take (i:=6) (oi:=_) (v:=?_) rfl (by kernel_rfl) (fun _ _ _ h=>h) (Or.inl ⟨by rfl,?_⟩) b0 ?_
 rotate_left
 ·intro W hSw;(try dsimp only at hSw);go_simp;first | done | with_reducible rfl
 simp only [Act.put,List.getElem_toArray,List.getElem_cons_zero,List.getElem_cons_succ,List.setIfInBounds_toArray,List.set_cons_zero,List.set_cons_succ]
 refine AnyG_take (i:=7) (oi:=_) (v:=?_) rfl (by kernel_rfl) (fun _ _ _ h=>h) (Or.inl ⟨by rfl,?_⟩) b0 ?_
 rotate_left
 ·intro W hSw;(try dsimp only at hSw);go_simp;first | done | with_reducible rfl
 simp only [Act.put,List.getElem_toArray,List.getElem_cons_zero,List.getElem_cons_succ,List.setIfInBounds_toArray,List.set_cons_zero,List.set_cons_succ]
 refine AnyG_take (i:=8) (oi:=_) (v:=?_) rfl (by kernel_rfl) (fun _ _ _ h=>h) (Or.inl ⟨by rfl,?_⟩) b0 ?_
 rotate_left
 ·intro W hSw;(try dsimp only at hSw);go_simp;first | done | with_reducible rfl
 simp only [Act.put,List.getElem_toArray,List.getElem_cons_zero,List.getElem_cons_succ,List.setIfInBounds_toArray,List.set_cons_zero,List.set_cons_succ]
 refine AnyG_take (i:=9) (oi:=_) (v:=?_) rfl (by kernel_rfl) (fun _ _ _ h=>h) (Or.inl ⟨by rfl,?_⟩) b0 ?_
 rotate_left
 ·intro W hSw;(try dsimp only at hSw);go_simp;first | done | with_reducible rfl
 simp only [Act.put,List.getElem_toArray,List.getElem_cons_zero,List.getElem_cons_succ,List.setIfInBounds_toArray,List.set_cons_zero,List.set_cons_succ]
 refine AnyG_take (i:=10) (oi:=_) (v:=?_) rfl (by kernel_rfl) (fun _ _ _ h=>h) (Or.inl ⟨by rfl,?_⟩) b0 ?_
 rotate_left
 ·intro W hSw;(try dsimp only at hSw);go_simp;first | done | with_reducible rfl
 simp only [Act.put,List.getElem_toArray,List.getElem_cons_zero,List.getElem_cons_succ,List.setIfInBounds_toArray,List.set_cons_zero,List.set_cons_succ]
 refine AnyG_take (i:=11) (oi:=_) (v:=?_) rfl (by kernel_rfl) (fun _ _ _ h=>h) (Or.inl ⟨by rfl,?_⟩) b0 ?_
 rotate_left
 ·intro W hSw;(try dsimp only at hSw);go_simp;first | done | with_reducible rfl
 simp only [Act.put,List.getElem_toArray,List.getElem_cons_zero,List.getElem_cons_succ,List.setIfInBounds_toArray,List.set_cons_zero,List.set_cons_succ]
 refine AnyG_take (i:=12) (oi:=_) (v:=?_) rfl (by kernel_rfl) (fun _ _ _ h=>h) (Or.inl ⟨by rfl,?_⟩) b0 ?_
 rotate_left
 ·intro W hSw;(try dsimp only at hSw);go_simp;first | done | with_reducible rfl
 simp only [Act.put,List.getElem_toArray,List.getElem_cons_zero,List.getElem_cons_succ,List.setIfInBounds_toArray,List.set_cons_zero,List.set_cons_succ]
 refine AnyG_take (i:=13) (oi:=_) (v:=?_) rfl (by kernel_rfl) (fun _ _ _ h=>h) (Or.inl ⟨by rfl,?_⟩) b0 ?_
 rotate_left
 ·intro W hSw;(try dsimp only at hSw);go_simp;first | done | with_reducible rfl
 simp only [Act.put,List.getElem_toArray,List.getElem_cons_zero,List.getElem_cons_succ,List.setIfInBounds_toArray,List.set_cons_zero,List.set_cons_succ]
 refine AnyG_take (i:=14) (oi:=_) (v:=?_) rfl (by kernel_rfl) (fun _ _ _ h=>h) (Or.inl ⟨by rfl,?_⟩) b0 ?_
 rotate_left
 ·intro W hSw;(try dsimp only at hSw);go_simp;first | done | with_reducible rfl
 simp only [Act.put,List.getElem_toArray,List.getElem_cons_zero,List.getElem_cons_succ,List.setIfInBounds_toArray,List.set_cons_zero,List.set_cons_succ]
 refine AnyG_take (i:=15) (oi:=_) (v:=?_) rfl (by kernel_rfl) (fun _ _ _ h=>h) (Or.inl ⟨by rfl,?_⟩) b0 ?_
 rotate_left
 ·intro W hSw;(try dsimp only at hSw);go_simp;first | done | with_reducible rfl
 simp only [Act.put,List.getElem_toArray,List.getElem_cons_zero,List.getElem_cons_succ,List.setIfInBounds_toArray,List.set_cons_zero,List.set_cons_succ]
 refine AnyG_take (i:=16) (oi:=_) (v:=?_) rfl (by kernel_rfl) (fun _ _ _ h=>h) (Or.inl ⟨by rfl,?_⟩) b0 ?_
 rotate_left
 ·intro W hSw;(try dsimp only at hSw);go_simp;first | done | with_reducible rfl
 simp only [Act.put,List.getElem_toArray,List.getElem_cons_zero,List.getElem_cons_succ,List.setIfInBounds_toArray,List.set_cons_zero,List.set_cons_succ]
 refine AnyG_take (i:=17) (oi:=_) (v:=?_) rfl (by kernel_rfl) (fun _ _ _ h=>h) (Or.inl ⟨by rfl,?_⟩) b0 ?_
 rotate_left
 ·intro W hSw;(try dsimp only at hSw);go_simp;first | done | with_reducible rfl
 simp only [Act.put,List.getElem_toArray,List.getElem_cons_zero,List.getElem_cons_succ,List.setIfInBounds_toArray,List.set_cons_zero,List.set_cons_succ]
 refine AnyG_take (i:=18) (oi:=_) (v:=?_) rfl (by kernel_rfl) (fun _ _ _ h=>h) (Or.inl ⟨by rfl,?_⟩) b0 ?_
 rotate_left
 ·intro W hSw;(try dsimp only at hSw);go_simp;first | done | with_reducible rfl
 simp only [Act.put,List.getElem_toArray,List.getElem_cons_zero,List.getElem_cons_succ,List.setIfInBounds_toArray,List.set_cons_zero,List.set_cons_succ]
 refine AnyG_one (i:=19) rfl (by kernel_rfl) ?_
 refine wpOp_of rfl rfl ?_
 simp only [Act.put,List.getElem_toArray,List.getElem_cons_zero,List.getElem_cons_succ,List.setIfInBounds_toArray,List.set_cons_zero,List.set_cons_succ]
 go_simp
 refine (buf_put _ cs s.room q ad v HB.out hlt).mono ?_
 rintro _ w2 ⟨⟨cs2,rfl,hB2⟩,hb2⟩
 have b2:=b0.trans (hb2.mono (by exact Nat.le_refl _))
 refine⟨b2,?_⟩
 try simp only [Act.put,List.getElem_toArray,List.getElem_cons_zero,List.getElem_cons_succ,List.setIfInBounds_toArray,List.set_cons_zero,List.set_cons_succ]
 refine AnyG_take (i:=20) (oi:=_) (v:=?_) rfl (by kernel_rfl) (fun _ _ _ h=>h) (Or.inl ⟨by rfl,?_⟩) b2 ?_
 rotate_left
 ·intro W hSw;(try dsimp only at hSw);go_simp;first | done | with_reducible rfl
 simp only [Act.put,List.getElem_toArray,List.getElem_cons_zero,List.getElem_cons_succ,List.setIfInBounds_toArray,List.set_cons_zero,List.set_cons_succ]
 refine AnyG_take (i:=21) (oi:=_) (v:=?_) rfl (by kernel_rfl) (fun _ _ _ h=>h) (Or.inl ⟨by rfl,?_⟩) b2 ?_
 rotate_left
 ·intro W hSw;(try dsimp only at hSw);go_simp;first | done | with_reducible rfl
 simp only [Act.put,List.getElem_toArray,List.getElem_cons_zero,List.getElem_cons_succ,List.setIfInBounds_toArray,List.set_cons_zero,List.set_cons_succ]
 refine AnyG_take (i:=23) (oi:=_) (v:=?_) rfl (by kernel_rfl) (fun _ _ _ h=>h) (Or.inl ⟨by rfl,?_⟩) b2 ?_
 rotate_left
 ·intro W hSw;(try dsimp only at hSw);go_simp;first | done | with_reducible rfl
 simp only [Act.put,List.getElem_toArray,List.getElem_cons_zero,List.getElem_cons_succ,List.setIfInBounds_toArray,List.set_cons_zero,List.set_cons_succ]
 have hst2:Sem.run Tryz.prog (storeCells ⟨K.bb,t*n35,none⟩ cs2.toList 0) w2=.ok () (w2.setCells K.bb (t*n35) cs2.toList):=stRow (n:=n35) (by rw [HN35.out];exact HA1.out.there HQ.out b2) (hB2.1.trans HN35.out.symm) hB2.2.1
 have hsn:cs2.size=n35:=hB2.1.trans HN35.out.symm
 have HB2:=Lib.hid hB2
 clear hB2 hld
 have hend:TsM Z (w2.setCells K.bb (t*n35) cs2.toList) K (s.store t ad v)∧Only (fun k=>¬Z k) w (w2.setCells K.bb (t*n35) cs2.toList):=by
  rw [HN35.out,HST.out]
  obtain⟨g1,g2⟩:=(HM1.out.below b2).setBuf ht3 HB2.out
  exact⟨g1,(HO1.out.trans (Only.of_below b2 (Nat.le_refl _)) (fun _ e=>.inl e)).trans g2 (fun _ e=>.inl e)⟩
 have HE:=Lib.hid hend
 clear hend
 refine AnyG_two (i:=22) (j:=24) (by kernel_rfl) ?_ ?_
 ·refine wpOp_of rfl rfl ?_
  try simp only [Act.put,List.getElem_toArray,List.getElem_cons_zero,List.getElem_cons_succ,List.setIfInBounds_toArray,List.set_cons_zero,List.set_cons_succ]
  go_simp
  try simp only [Act.put,List.getElem_toArray,List.getElem_cons_zero,List.getElem_cons_succ,List.setIfInBounds_toArray,List.set_cons_zero,List.set_cons_succ]
  refine AnyG_one (i:=24) rfl (by kernel_rfl) ?_
  refine wpOp_of rfl rfl ?_
  try simp only [Act.put,List.getElem_toArray,List.getElem_cons_zero,List.getElem_cons_succ,List.setIfInBounds_toArray,List.set_cons_zero,List.set_cons_succ]
  go_simp
  try simp only [Act.put,List.getElem_toArray,List.getElem_cons_zero,List.getElem_cons_succ,List.setIfInBounds_toArray,List.set_cons_zero,List.set_cons_succ]
  refine AnyG_done (by kernel_rfl) ?_ _
  go_wp2_with fail
  go_end0
  exact⟨rfl,HE.out⟩
 ·refine wpOp_of rfl rfl ?_
  try simp only [Act.put,List.getElem_toArray,List.getElem_cons_zero,List.getElem_cons_succ,List.setIfInBounds_toArray,List.set_cons_zero,List.set_cons_succ]
  go_simp
  try simp only [Act.put,List.getElem_toArray,List.getElem_cons_zero,List.getElem_cons_succ,List.setIfInBounds_toArray,List.set_cons_zero,List.set_cons_succ]
  refine AnyG_one (i:=22) rfl (by kernel_rfl) ?_
  refine wpOp_of rfl rfl ?_
  try simp only [Act.put,List.getElem_toArray,List.getElem_cons_zero,List.getElem_cons_succ,List.setIfInBounds_toArray,List.set_cons_zero,List.set_cons_succ]
  go_simp
  try simp only [Act.put,List.getElem_toArray,List.getElem_cons_zero,List.getElem_cons_succ,List.setIfInBounds_toArray,List.set_cons_zero,List.set_cons_succ]
  refine AnyG_done (by kernel_rfl) ?_ _
  go_wp2_with fail
  go_end0
  exact⟨rfl,HE.out⟩
end Go.Proofs.YtcnmhgblbikfkaaGreatDoor.As
end

