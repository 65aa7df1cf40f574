/- The walk of the port's flush: the entry that comes out of the buffer. -/
import Derived.Test.YtcnmhgblbikfkaaGreatDoorGg
import Derived.Deep.Cut
set_option linter.unusedVariables false
set_option linter.unusedSimpArgs false
set_option maxRecDepth 20000
namespace Go.Proofs.YtcnmhgblbikfkaaGreatDoor.As
open Go.RowKit

theorem on_drw{F:Nat→Prop}{a w:World}(h:Only F a w):Only F a w.drew:=⟨h.os,h.tape,h.output,h.size,h.block⟩
theorem cell?_setRow_ne{W:World}{g:Nat}{cs:Array Value}{p:Addr}(h:p.block≠g):(W.setRow g cs).cell? p=W.cell? p:=cell_setRow_other _ _ _ _ h
theorem fin6{w1 W:World}{gx gb room a:Nat}{v:Int}{zr cs2:Array Value}{q2:List (Nat×Int)}(b:Below w1.heap.size w1 W)(hx:W.heap[gx]? = some (.cells #[.int .i64 0,.int .u32 0] 124 (0,0)))(hy:W.heap[gb]? = some (.cells zr 127 (0,0)))(hzs:zr.size=35)(hB:BufIs cs2 room q2)(gx1:w1.heap.size≤gx)(gb1:w1.heap.size≤gb):
  W.cell? ⟨gx,0,none⟩=some (.int .i64 0)∧W.cell? ⟨gx,1,none⟩=some (.int .u32 0)∧W.frozen? ⟨gx,0,none⟩=false∧W.frozen? ⟨gx,1,none⟩=false∧gx≠gb∧
  Sem.run Tryz.prog (storeCells ⟨gb,0,none⟩ cs2.toList 0) ((W.setCell ⟨gx,0,none⟩ (.int .i64 (a:Nat))).setCell ⟨gx,1,none⟩ (.int .u32 v))=.ok () (((W.setCell ⟨gx,0,none⟩ (.int .i64 (a:Nat))).setCell ⟨gx,1,none⟩ (.int .u32 v)).setRow gb cs2)∧
  (Below w1.heap.size w1 ((W.setCell ⟨gx,0,none⟩ (.int .i64 (a:Nat))).setCell ⟨gx,1,none⟩ (.int .u32 v))∧
   Below w1.heap.size w1 (((W.setCell ⟨gx,0,none⟩ (.int .i64 (a:Nat))).setCell ⟨gx,1,none⟩ (.int .u32 v)).setRow gb cs2)∧
   (((W.setCell ⟨gx,0,none⟩ (.int .i64 (a:Nat))).setCell ⟨gx,1,none⟩ (.int .u32 v)).setRow gb cs2).heap[gx]? = some (.cells #[.int .i64 (a:Nat),.int .u32 v] 124 (0,0))∧
   (((W.setCell ⟨gx,0,none⟩ (.int .i64 (a:Nat))).setCell ⟨gx,1,none⟩ (.int .u32 v)).setRow gb cs2).heap[gb]? = some (.cells cs2 127 (0,0))):=by
 have hne:gx≠gb:=by
  intro e
  subst e
  rw [hx] at hy
  injection hy with hy
  injection hy with _ hy
  exact absurd hy (by decide)
 have hy2:((W.setCell ⟨gx,0,none⟩ (.int .i64 (a:Nat))).setCell ⟨gx,1,none⟩ (.int .u32 v)).heap[gb]? = some (.cells zr 127 (0,0)):=(heap_setCell_other _ _ _ _ hne.symm).trans ((heap_setCell_other _ _ _ _ hne.symm).trans hy)
 have b2:Below w1.heap.size w1 ((W.setCell ⟨gx,0,none⟩ (.int .i64 (a:Nat))).setCell ⟨gx,1,none⟩ (.int .u32 v)):=bl_set (bl_set b gx1 _) gx1 _
 have hx2:=heap_setCell_same _ gx 1 _ _ (.int .u32 v) (heap_setCell_same _ gx 0 _ _ (.int .i64 (a:Nat)) hx)
 refine⟨cell_of_row _ _ 0 _ _ _ hx,cell_of_row _ _ 1 _ _ _ hx,frozen_of_row _ _ 0 _ _ hx,frozen_of_row _ _ 1 _ _ hx,hne,stRow0 hy2 (hzs.trans hB.1.symm) hB.2.1,b2,bl_row b2 gb1 _,?_,setRow_heap _ _ _ _ _ _ hy2⟩
 exact (setRow_other _ _ _ _ hne).trans (hx2.trans (by simp))
set_option maxHeartbeats 8000000 in
theorem flush_ts(Z:Nat→Prop)(w:World)(K:TsK)(s:Ts)(t:Nat)(h:TsM Z w K s)(ht:t < s.ths.length)(hn:s.evs.length≤100000000000)(hbm:∀ e∈s.buf t,e.1 < s.mem.length):
  Calls Tryz.prog 71 #[.agg #[.pointer (some ⟨K.mb,0,none⟩),.int .i64 t]] w fun e w'=>e=.returned (.tuple #[])∧TsM Z w' K (s.flush t)∧Only (fun k=>¬Z k) w w':=by
 have H:=Lib.hid h
 obtain⟨h1,h2,h3,h4,h5,ev,kv,marr,tarr,barr,ha,hd,hz⟩:=h
 obtain⟨q,hq⟩:∃ q,s.bufs[t]? = some q:=⟨_,List.getElem?_eq_getElem (by omega)⟩
 obtain⟨cs,hB,hcs⟩:=ha.cq t q hq
 have hbuf:s.buf t=q:=by unfold Ts.buf;rw [List.getD_eq_getElem?_getD,hq];rfl
 obtain⟨n35,hn35⟩:∃ n:Nat,n=35:=⟨_,rfl⟩
 have hsz:=sizeB hn35
 obtain⟨w1,hw1⟩:∃ w1,w.alloc (.cells #[.pointer (some ⟨K.mb,0,none⟩),.int .i64 t] 153)=w1:=⟨_,rfl⟩
 have hs0:w1.heap[w.heap.size]? = some (.cells #[.pointer (some ⟨K.mb,0,none⟩),.int .i64 t] 153 (0,0)):=by rw [←hw1];exact heap_alloc_new _ _
 have hB1:Below w.heap.size w w1:=by rw [←hw1];exact (Below.refl _ w).alloc (Nat.le_refl _) _
 have HZ1:Hid (w1.heap.size=w.heap.size+1):=Lib.hid (by rw [←hw1];simp)
 have ha1:=ha.only (Only.of_below (F:=fun _=>False) hB1 (Nat.le_refl _)) (fun _ e=>e.elim)
 have lt:∀ {k:Nat} {o:Obj},w1.heap[k]? = some o→k < w1.heap.size:=fun hk=>(Array.getElem?_eq_some_iff.1 hk).1
 have hc0:∀ W,Below w1.heap.size w1 W→W.cell? ⟨w.heap.size,0,none⟩=some (.pointer (some ⟨K.mb,0,none⟩)):=fun W hW=>cell_of_row _ _ 0 _ _ _ (up_bl hW (lt hs0) hs0)
 have hc1:∀ W,Below w1.heap.size w1 W→W.cell? ⟨w.heap.size,1,none⟩=some (.int .i64 t):=fun W hW=>cell_of_row _ _ 1 _ _ _ (up_bl hW (lt hs0) hs0)
 have hc2:∀ W,Below w1.heap.size w1 W→W.cell? ⟨K.mb,2,none⟩=some (.slice (some ⟨K.bb,0,none⟩) s.bufs.length K.bc):=fun W hW=>cell_of_row _ _ 2 _ _ _ (up_bl hW (lt ha1.hb) ha1.hb)
 have hc3:∀ W,Below w1.heap.size w1 W→W.cell? ⟨K.mb,3,none⟩=some (.slice (some ⟨K.mm,0,none⟩) s.mem.length K.mc):=fun W hW=>cell_of_row _ _ 3 _ _ _ (up_bl hW (lt ha1.hb) ha1.hb)
 have hld:∀ W,Below w1.heap.size w1 W→Sem.run Tryz.prog (loadCellsFrom ⟨K.bb,t*n35,none⟩ 0 n35 #[]) W=.ok cs W:=fun W hW=>ldRow (by rw [hn35];exact rowMid (up_bl hW (lt ha1.hq) ha1.hq) hcs) (hB.1.trans hn35.symm)
 have b0:Below w1.heap.size w1 w1.drew:=bl_drw (Below.refl _ _)
 have hi:(t:Int) < (s.bufs.length:Int):=by omega
 have HB:=Lib.hid hB
 have HB1:=Lib.hid hB1
 have HW1:=Lib.hid hw1
 have H3:=Lib.hid h3
 have HA:=Lib.hid ha
 have HA1:=Lib.hid ha1
 have HD:=Lib.hid hd
 have HZ:=Lib.hid hz
 have HCS:=Lib.hid hcs
 have HQ:=Lib.hid hq
 have HS0:=Lib.hid hs0
 have HN35:=Lib.hid hn35
 have HM1:=Lib.hid (H.out.below hB1)
 have HO1:Hid (Only (fun k=>¬Z k) w w1):=Lib.hid (Only.of_below hB1 (Nat.le_refl _))
 have ht3:t < s.bufs.length:=by omega
 obtain⟨zr,hzr,hzs⟩:∃ zr:Array Value,#[.int .i64 0,.int .u32 0,.int .i64 0,.int .u32 0,.int .i64 0,.int .u32 0,.int .i64 0,.int .u32 0,.int .i64 0,.int .u32 0,.int .i64 0,.int .u32 0,.int .i64 0,.int .u32 0,.int .i64 0,.int .u32 0,.int .i64 0,.int .u32 0,.int .i64 0,.int .u32 0,.int .i64 0,.int .u32 0,.int .i64 0,.int .u32 0,.int .i64 0,.int .u32 0,.int .i64 0,.int .u32 0,.int .i64 0,.int .u32 0,.int .i64 0,.int .u32 0,.int .i64 0,.int .i64 0,.int .i64 0]=zr∧zr.size=35:=⟨_,rfl,rfl⟩
 have HBUF:=Lib.hid hbuf
 have HBM:=Lib.hid hbm
 have HC3:=Lib.hid hc3
 clear hbuf hbm hc3
 clear hn35 hw1 hs0 hB1 ha1 ha hd hz hcs hB hq lt h1 h3
 go_enter Tryz.func71,Tryz.ntmps71
 go_wp2_with fail
 rw [HW1.out]
 clear HW1
 go_cut [2,3,4] from 5 (fun xv bv ov wx=>∃ gx gb cs2,xv=.pointer (some ⟨gx,0,none⟩)∧bv=.pointer (some ⟨gb,0,none⟩)∧ov=.bool (!decide (q=[]))∧Hid (Below w1.heap.size w1 wx∧wx.heap[gx]? = some (.cells #[.int .i64 (headA q:Nat),.int .u32 (headV q)] 124 (0,0))∧wx.heap[gb]? = some (.cells cs2 127 (0,0))∧BufIs cs2 s.room q.tail))
 case first=>
  refine wp_region_g (fun w'=>Below w1.heap.size w1 w') 99 (by kernel_rfl) ?_
  obtain⟨wd,hwd⟩:∃ W,w1.drew=W:=⟨_,rfl⟩
  rw [hwd]
  rw [hwd] at b0
  clear hwd
  refine AnyG_take (i:=0) (oi:=_) (v:=?_) rfl (by kernel_rfl) (fun _ _ _ h=>h) (Or.inl ⟨by rfl,?_⟩) b0 ?_
  rotate_left
  ·intro W hSw;(try dsimp only at hSw);go_simp;first | done | with_reducible rfl
  simp only [Act.put,List.getElem_toArray,List.getElem_cons_zero,List.getElem_cons_succ,List.setIfInBounds_toArray,List.set_cons_zero,List.set_cons_succ]
  refine AnyG_take (i:=1) (oi:=_) (v:=?_) rfl (by kernel_rfl) (fun _ _ _ h=>h) (Or.inl ⟨by rfl,?_⟩) b0 ?_
  rotate_left
  ·intro W hSw;(try dsimp only at hSw);go_simp;first | done | with_reducible rfl
  simp only [Act.put,List.getElem_toArray,List.getElem_cons_zero,List.getElem_cons_succ,List.setIfInBounds_toArray,List.set_cons_zero,List.set_cons_succ]
  refine AnyG_take (i:=2) (oi:=_) (v:=?_) rfl (by kernel_rfl) (fun _ _ _ h=>h) (Or.inl ⟨by rfl,?_⟩) b0 ?_
  rotate_left
  ·intro W hSw;(try dsimp only at hSw);go_simp;first | done | with_reducible rfl
  simp only [Act.put,List.getElem_toArray,List.getElem_cons_zero,List.getElem_cons_succ,List.setIfInBounds_toArray,List.set_cons_zero,List.set_cons_succ]
  refine AnyG_take (i:=3) (oi:=_) (v:=?_) rfl (by kernel_rfl) (fun _ _ _ h=>h) (Or.inl ⟨by rfl,?_⟩) b0 ?_
  rotate_left
  ·intro W hSw;(try dsimp only at hSw);go_simp;first | done | with_reducible rfl
  simp only [Act.put,List.getElem_toArray,List.getElem_cons_zero,List.getElem_cons_succ,List.setIfInBounds_toArray,List.set_cons_zero,List.set_cons_succ]
  refine AnyG_take (i:=4) (oi:=_) (v:=?_) rfl (by kernel_rfl) (fun _ _ _ h=>h) (Or.inl ⟨by rfl,?_⟩) b0 ?_
  rotate_left
  ·intro W hSw;(try dsimp only at hSw);go_simp;first | done | with_reducible rfl
  simp only [Act.put,List.getElem_toArray,List.getElem_cons_zero,List.getElem_cons_succ,List.setIfInBounds_toArray,List.set_cons_zero,List.set_cons_succ]
  refine AnyG_take (i:=5) (oi:=_) (v:=?_) rfl (by kernel_rfl) (fun _ _ _ h=>h) (Or.inl ⟨by rfl,?_⟩) b0 ?_
  rotate_left
  ·intro W hSw;(try dsimp only at hSw);go_simp;first | done | with_reducible rfl
  simp only [Act.put,List.getElem_toArray,List.getElem_cons_zero,List.getElem_cons_succ,List.setIfInBounds_toArray,List.set_cons_zero,List.set_cons_succ]
  refine AnyG_take (i:=6) (oi:=_) (v:=?_) rfl (by kernel_rfl) (fun _ _ _ h=>h) (Or.inl ⟨by rfl,?_⟩) b0 ?_
  rotate_left
  ·intro W hSw;(try dsimp only at hSw);go_simp;first | done | with_reducible rfl
  simp only [Act.put,List.getElem_toArray,List.getElem_cons_zero,List.getElem_cons_succ,List.setIfInBounds_toArray,List.set_cons_zero,List.set_cons_succ]
  refine AnyG_take (i:=7) (oi:=_) (v:=?_) rfl (by kernel_rfl) (fun _ _ _ h=>h) (Or.inl ⟨by rfl,?_⟩) b0 ?_
  rotate_left
  ·intro W hSw;(try dsimp only at hSw);go_simp;first | done | with_reducible rfl
  simp only [Act.put,List.getElem_toArray,List.getElem_cons_zero,List.getElem_cons_succ,List.setIfInBounds_toArray,List.set_cons_zero,List.set_cons_succ]
  refine AnyG_take (i:=8) (oi:=_) (v:=?_) rfl (by kernel_rfl) (fun _ _ _ h=>h) (Or.inl ⟨by rfl,?_⟩) b0 ?_
  rotate_left
  ·intro W hSw;(try dsimp only at hSw);go_simp;first | done | with_reducible rfl
  simp only [Act.put,List.getElem_toArray,List.getElem_cons_zero,List.getElem_cons_succ,List.setIfInBounds_toArray,List.set_cons_zero,List.set_cons_succ]
  refine AnyG_three (i:=9) (j:=14) (k:=15) (by kernel_rfl) ?_ ?_ ?_
  ·refine wpOp_of rfl rfl ?_
   try simp only [Act.put,List.getElem_toArray,List.getElem_cons_zero,List.getElem_cons_succ,List.setIfInBounds_toArray,List.set_cons_zero,List.set_cons_succ]
   go_simp
   refine (buf_pop _ cs s.room q HB.out).mono ?_
   rintro _ v1 ⟨⟨cs2,rfl,hB2⟩,hb1⟩
   have b1:=Below.trans b0 (hb1.mono (Below.size b0))
   refine⟨b1,?_⟩
   try simp only [Act.put,List.getElem_toArray,List.getElem_cons_zero,List.getElem_cons_succ,List.setIfInBounds_toArray,List.set_cons_zero,List.set_cons_succ]
   refine AnyG_take (i:=10) (oi:=_) (v:=?_) rfl (by kernel_rfl) (fun _ _ _ h=>h) (Or.inl ⟨by rfl,?_⟩) b1 ?_
   rotate_left
   ·intro W hSw;(try dsimp only at hSw);go_simp;first | done | with_reducible rfl
   simp only [Act.put,List.getElem_toArray,List.getElem_cons_zero,List.getElem_cons_succ,List.setIfInBounds_toArray,List.set_cons_zero,List.set_cons_succ]
   refine AnyG_take (i:=11) (oi:=_) (v:=?_) rfl (by kernel_rfl) (fun _ _ _ h=>h) (Or.inl ⟨by rfl,?_⟩) b1 ?_
   rotate_left
   ·intro W hSw;(try dsimp only at hSw);go_simp;first | done | with_reducible rfl
   simp only [Act.put,List.getElem_toArray,List.getElem_cons_zero,List.getElem_cons_succ,List.setIfInBounds_toArray,List.set_cons_zero,List.set_cons_succ]
   refine AnyG_take (i:=12) (oi:=_) (v:=?_) rfl (by kernel_rfl) (fun _ _ _ h=>h) (Or.inl ⟨by rfl,?_⟩) b1 ?_
   rotate_left
   ·intro W hSw;(try dsimp only at hSw);go_simp;first | done | with_reducible rfl
   simp only [Act.put,List.getElem_toArray,List.getElem_cons_zero,List.getElem_cons_succ,List.setIfInBounds_toArray,List.set_cons_zero,List.set_cons_succ]
   refine AnyG_take (i:=13) (oi:=_) (v:=?_) rfl (by kernel_rfl) (fun _ _ _ h=>h) (Or.inl ⟨by rfl,?_⟩) b1 ?_
   rotate_left
   ·intro W hSw;(try dsimp only at hSw);go_simp;first | done | with_reducible rfl
   simp only [Act.put,List.getElem_toArray,List.getElem_cons_zero,List.getElem_cons_succ,List.setIfInBounds_toArray,List.set_cons_zero,List.set_cons_succ]
   refine AnyG_two (i:=14) (j:=15) (by kernel_rfl) ?_ ?_
   ·refine wpOp_of rfl rfl ?_
    try simp only [Act.put,List.getElem_toArray,List.getElem_cons_zero,List.getElem_cons_succ,List.setIfInBounds_toArray,List.set_cons_zero,List.set_cons_succ]
    go_simp
    obtain⟨v2,hv2⟩:∃ W,World.alloc v1 (.cells #[.int .i64 0,.int .u32 0] 124)=W:=⟨_,rfl⟩
    rw [hv2]
    have b2:Below w1.heap.size w1 v2:=by rw [←hv2];exact Below.alloc b1 (Below.size b1) _
    have x2:v2.heap[v1.heap.size]? = some (.cells #[.int .i64 0,.int .u32 0] 124 (0,0)):=by rw [←hv2];exact heap_alloc_new _ _
    refine⟨b2,?_⟩
    try simp only [Act.put,List.getElem_toArray,List.getElem_cons_zero,List.getElem_cons_succ,List.setIfInBounds_toArray,List.set_cons_zero,List.set_cons_succ]
    refine AnyG_one (i:=15) rfl (by kernel_rfl) ?_
    refine wpOp_of rfl rfl ?_
    try simp only [Act.put,List.getElem_toArray,List.getElem_cons_zero,List.getElem_cons_succ,List.setIfInBounds_toArray,List.set_cons_zero,List.set_cons_succ]
    go_simp
    obtain⟨v3,hv3⟩:∃ W,World.alloc v2 (.cells zr 127)=W:=⟨_,rfl⟩
    rw [hv3]
    have b3:Below w1.heap.size w1 v3:=by rw [←hv3];exact Below.alloc b2 (Below.size b2) _
    have y3:v3.heap[v2.heap.size]? = some (.cells zr 127 (0,0)):=by rw [←hv3];exact heap_alloc_new _ _
    have x3:v3.heap[v1.heap.size]? = some (.cells #[.int .i64 0,.int .u32 0] 124 (0,0)):=by rw [←hv3];exact up_al x2
    refine⟨b3,?_⟩
    try simp only [Act.put,List.getElem_toArray,List.getElem_cons_zero,List.getElem_cons_succ,List.setIfInBounds_toArray,List.set_cons_zero,List.set_cons_succ]
    have hfin:=fin6 b3 x3 y3 hzs hB2 (a:=headA q) (v:=headV q) (gx:=v1.heap.size) (gb:=v2.heap.size) (Below.size b1) (Below.size b2)
    obtain⟨q0,q1,q2,q3,q4,q5,q6⟩:=hfin
    have HQ6:=Lib.hid q6
    clear q6
    refine AnyG_one (i:=16) rfl (by kernel_rfl) ?_
    refine wpOp_of rfl rfl ?_
    try simp only [Act.put,List.getElem_toArray,List.getElem_cons_zero,List.getElem_cons_succ,List.setIfInBounds_toArray,List.set_cons_zero,List.set_cons_succ]
    go_simp
    refine⟨HQ6.out.1,?_⟩
    try simp only [Act.put,List.getElem_toArray,List.getElem_cons_zero,List.getElem_cons_succ,List.setIfInBounds_toArray,List.set_cons_zero,List.set_cons_succ]
    refine AnyG_one (i:=17) rfl (by kernel_rfl) ?_
    refine wpOp_of rfl rfl ?_
    try simp only [Act.put,List.getElem_toArray,List.getElem_cons_zero,List.getElem_cons_succ,List.setIfInBounds_toArray,List.set_cons_zero,List.set_cons_succ]
    have hsn:cs2.size=n35:=hB2.1.trans HN35.out.symm
    go_simp
    refine⟨HQ6.out.2.1,?_⟩
    try simp only [Act.put,List.getElem_toArray,List.getElem_cons_zero,List.getElem_cons_succ,List.setIfInBounds_toArray,List.set_cons_zero,List.set_cons_succ]
    refine AnyG_one (i:=18) rfl (by kernel_rfl) ?_
    refine wpOp_of rfl rfl ?_
    try simp only [Act.put,List.getElem_toArray,List.getElem_cons_zero,List.getElem_cons_succ,List.setIfInBounds_toArray,List.set_cons_zero,List.set_cons_succ]
    go_simp
    refine⟨HQ6.out.2.1,?_⟩
    try simp only [Act.put,List.getElem_toArray,List.getElem_cons_zero,List.getElem_cons_succ,List.setIfInBounds_toArray,List.set_cons_zero,List.set_cons_succ]
    refine AnyG_done (by kernel_rfl) ?_ _
    go_wp2_with fail
    go_meet
    exact⟨_,_,cs2,rfl,rfl,rfl,Lib.hid ⟨HQ6.out.2.1,HQ6.out.2.2.1,HQ6.out.2.2.2,hB2⟩⟩
   ·refine wpOp_of rfl rfl ?_
    try simp only [Act.put,List.getElem_toArray,List.getElem_cons_zero,List.getElem_cons_succ,List.setIfInBounds_toArray,List.set_cons_zero,List.set_cons_succ]
    go_simp
    obtain⟨v4,hv4⟩:∃ W,World.alloc v1 (.cells zr 127)=W:=⟨_,rfl⟩
    rw [hv4]
    have b4:Below w1.heap.size w1 v4:=by rw [←hv4];exact Below.alloc b1 (Below.size b1) _
    have y4:v4.heap[v1.heap.size]? = some (.cells zr 127 (0,0)):=by rw [←hv4];exact heap_alloc_new _ _
    refine⟨b4,?_⟩
    try simp only [Act.put,List.getElem_toArray,List.getElem_cons_zero,List.getElem_cons_succ,List.setIfInBounds_toArray,List.set_cons_zero,List.set_cons_succ]
    refine AnyG_one (i:=14) rfl (by kernel_rfl) ?_
    refine wpOp_of rfl rfl ?_
    try simp only [Act.put,List.getElem_toArray,List.getElem_cons_zero,List.getElem_cons_succ,List.setIfInBounds_toArray,List.set_cons_zero,List.set_cons_succ]
    go_simp
    obtain⟨v5,hv5⟩:∃ W,World.alloc v4 (.cells #[.int .i64 0,.int .u32 0] 124)=W:=⟨_,rfl⟩
    rw [hv5]
    have b5:Below w1.heap.size w1 v5:=by rw [←hv5];exact Below.alloc b4 (Below.size b4) _
    have x5:v5.heap[v4.heap.size]? = some (.cells #[.int .i64 0,.int .u32 0] 124 (0,0)):=by rw [←hv5];exact heap_alloc_new _ _
    have y5:v5.heap[v1.heap.size]? = some (.cells zr 127 (0,0)):=by rw [←hv5];exact up_al y4
    refine⟨b5,?_⟩
    try simp only [Act.put,List.getElem_toArray,List.getElem_cons_zero,List.getElem_cons_succ,List.setIfInBounds_toArray,List.set_cons_zero,List.set_cons_succ]
    have hfin:=fin6 b5 x5 y5 hzs hB2 (a:=headA q) (v:=headV q) (gx:=v4.heap.size) (gb:=v1.heap.size) (Below.size b4) (Below.size b1)
    obtain⟨q0,q1,q2,q3,q4,q5,q6⟩:=hfin
    have HQ6:=Lib.hid q6
    clear q6
    refine AnyG_one (i:=16) rfl (by kernel_rfl) ?_
    refine wpOp_of rfl rfl ?_
    try simp only [Act.put,List.getElem_toArray,List.getElem_cons_zero,List.getElem_cons_succ,List.setIfInBounds_toArray,List.set_cons_zero,List.set_cons_succ]
    go_simp
    refine⟨HQ6.out.1,?_⟩
    try simp only [Act.put,List.getElem_toArray,List.getElem_cons_zero,List.getElem_cons_succ,List.setIfInBounds_toArray,List.set_cons_zero,List.set_cons_succ]
    refine AnyG_one (i:=17) rfl (by kernel_rfl) ?_
    refine wpOp_of rfl rfl ?_
    try simp only [Act.put,List.getElem_toArray,List.getElem_cons_zero,List.getElem_cons_succ,List.setIfInBounds_toArray,List.set_cons_zero,List.set_cons_succ]
    have hsn:cs2.size=n35:=hB2.1.trans HN35.out.symm
    go_simp
    refine⟨HQ6.out.2.1,?_⟩
    try simp only [Act.put,List.getElem_toArray,List.getElem_cons_zero,List.getElem_cons_succ,List.setIfInBounds_toArray,List.set_cons_zero,List.set_cons_succ]
    refine AnyG_one (i:=18) rfl (by kernel_rfl) ?_
    refine wpOp_of rfl rfl ?_
    try simp only [Act.put,List.getElem_toArray,List.getElem_cons_zero,List.getElem_cons_succ,List.setIfInBounds_toArray,List.set_cons_zero,List.set_cons_succ]
    go_simp
    refine⟨HQ6.out.2.1,?_⟩
    try simp only [Act.put,List.getElem_toArray,List.getElem_cons_zero,List.getElem_cons_succ,List.setIfInBounds_toArray,List.set_cons_zero,List.set_cons_succ]
    refine AnyG_done (by kernel_rfl) ?_ _
    go_wp2_with fail
    go_meet
    exact⟨_,_,cs2,rfl,rfl,rfl,Lib.hid ⟨HQ6.out.2.1,HQ6.out.2.2.1,HQ6.out.2.2.2,hB2⟩⟩
  ·refine wpOp_of rfl rfl ?_
   try simp only [Act.put,List.getElem_toArray,List.getElem_cons_zero,List.getElem_cons_succ,List.setIfInBounds_toArray,List.set_cons_zero,List.set_cons_succ]
   go_simp
   obtain⟨v6,hv6⟩:∃ W,World.alloc wd (.cells #[.int .i64 0,.int .u32 0] 124)=W:=⟨_,rfl⟩
   rw [hv6]
   have b6:Below w1.heap.size w1 v6:=by rw [←hv6];exact Below.alloc b0 (Below.size b0) _
   have x6:v6.heap[wd.heap.size]? = some (.cells #[.int .i64 0,.int .u32 0] 124 (0,0)):=by rw [←hv6];exact heap_alloc_new _ _
   refine⟨b6,?_⟩
   try simp only [Act.put,List.getElem_toArray,List.getElem_cons_zero,List.getElem_cons_succ,List.setIfInBounds_toArray,List.set_cons_zero,List.set_cons_succ]
   refine AnyG_two (i:=9) (j:=15) (by kernel_rfl) ?_ ?_
   ·refine wpOp_of rfl rfl ?_
    try simp only [Act.put,List.getElem_toArray,List.getElem_cons_zero,List.getElem_cons_succ,List.setIfInBounds_toArray,List.set_cons_zero,List.set_cons_succ]
    go_simp
    refine (buf_pop _ cs s.room q HB.out).mono ?_
    rintro _ v7 ⟨⟨cs2,rfl,hB2⟩,hb7⟩
    have b7:=Below.trans b6 (hb7.mono (Below.size b6))
    have x7:=up_bl hb7 (Array.getElem?_eq_some_iff.1 x6).1 x6
    refine⟨b7,?_⟩
    try simp only [Act.put,List.getElem_toArray,List.getElem_cons_zero,List.getElem_cons_succ,List.setIfInBounds_toArray,List.set_cons_zero,List.set_cons_succ]
    refine AnyG_take (i:=10) (oi:=_) (v:=?_) rfl (by kernel_rfl) (fun _ _ _ h=>h) (Or.inl ⟨by rfl,?_⟩) b7 ?_
    rotate_left
    ·intro W hSw;(try dsimp only at hSw);go_simp;first | done | with_reducible rfl
    simp only [Act.put,List.getElem_toArray,List.getElem_cons_zero,List.getElem_cons_succ,List.setIfInBounds_toArray,List.set_cons_zero,List.set_cons_succ]
    refine AnyG_take (i:=11) (oi:=_) (v:=?_) rfl (by kernel_rfl) (fun _ _ _ h=>h) (Or.inl ⟨by rfl,?_⟩) b7 ?_
    rotate_left
    ·intro W hSw;(try dsimp only at hSw);go_simp;first | done | with_reducible rfl
    simp only [Act.put,List.getElem_toArray,List.getElem_cons_zero,List.getElem_cons_succ,List.setIfInBounds_toArray,List.set_cons_zero,List.set_cons_succ]
    refine AnyG_take (i:=12) (oi:=_) (v:=?_) rfl (by kernel_rfl) (fun _ _ _ h=>h) (Or.inl ⟨by rfl,?_⟩) b7 ?_
    rotate_left
    ·intro W hSw;(try dsimp only at hSw);go_simp;first | done | with_reducible rfl
    simp only [Act.put,List.getElem_toArray,List.getElem_cons_zero,List.getElem_cons_succ,List.setIfInBounds_toArray,List.set_cons_zero,List.set_cons_succ]
    refine AnyG_take (i:=13) (oi:=_) (v:=?_) rfl (by kernel_rfl) (fun _ _ _ h=>h) (Or.inl ⟨by rfl,?_⟩) b7 ?_
    rotate_left
    ·intro W hSw;(try dsimp only at hSw);go_simp;first | done | with_reducible rfl
    simp only [Act.put,List.getElem_toArray,List.getElem_cons_zero,List.getElem_cons_succ,List.setIfInBounds_toArray,List.set_cons_zero,List.set_cons_succ]
    refine AnyG_one (i:=15) rfl (by kernel_rfl) ?_
    refine wpOp_of rfl rfl ?_
    try simp only [Act.put,List.getElem_toArray,List.getElem_cons_zero,List.getElem_cons_succ,List.setIfInBounds_toArray,List.set_cons_zero,List.set_cons_succ]
    go_simp
    obtain⟨v8,hv8⟩:∃ W,World.alloc v7 (.cells zr 127)=W:=⟨_,rfl⟩
    rw [hv8]
    have b8:Below w1.heap.size w1 v8:=by rw [←hv8];exact Below.alloc b7 (Below.size b7) _
    have y8:v8.heap[v7.heap.size]? = some (.cells zr 127 (0,0)):=by rw [←hv8];exact heap_alloc_new _ _
    have x8:v8.heap[wd.heap.size]? = some (.cells #[.int .i64 0,.int .u32 0] 124 (0,0)):=by rw [←hv8];exact up_al x7
    refine⟨b8,?_⟩
    try simp only [Act.put,List.getElem_toArray,List.getElem_cons_zero,List.getElem_cons_succ,List.setIfInBounds_toArray,List.set_cons_zero,List.set_cons_succ]
    have hfin:=fin6 b8 x8 y8 hzs hB2 (a:=headA q) (v:=headV q) (gx:=wd.heap.size) (gb:=v7.heap.size) (Below.size b0) (Below.size b7)
    obtain⟨q0,q1,q2,q3,q4,q5,q6⟩:=hfin
    have HQ6:=Lib.hid q6
    clear q6
    refine AnyG_one (i:=16) rfl (by kernel_rfl) ?_
    refine wpOp_of rfl rfl ?_
    try simp only [Act.put,List.getElem_toArray,List.getElem_cons_zero,List.getElem_cons_succ,List.setIfInBounds_toArray,List.set_cons_zero,List.set_cons_succ]
    go_simp
    refine⟨HQ6.out.1,?_⟩
    try simp only [Act.put,List.getElem_toArray,List.getElem_cons_zero,List.getElem_cons_succ,List.setIfInBounds_toArray,List.set_cons_zero,List.set_cons_succ]
    refine AnyG_one (i:=17) rfl (by kernel_rfl) ?_
    refine wpOp_of rfl rfl ?_
    try simp only [Act.put,List.getElem_toArray,List.getElem_cons_zero,List.getElem_cons_succ,List.setIfInBounds_toArray,List.set_cons_zero,List.set_cons_succ]
    have hsn:cs2.size=n35:=hB2.1.trans HN35.out.symm
    go_simp
    refine⟨HQ6.out.2.1,?_⟩
    try simp only [Act.put,List.getElem_toArray,List.getElem_cons_zero,List.getElem_cons_succ,List.setIfInBounds_toArray,List.set_cons_zero,List.set_cons_succ]
    refine AnyG_one (i:=18) rfl (by kernel_rfl) ?_
    refine wpOp_of rfl rfl ?_
    try simp only [Act.put,List.getElem_toArray,List.getElem_cons_zero,List.getElem_cons_succ,List.setIfInBounds_toArray,List.set_cons_zero,List.set_cons_succ]
    go_simp
    refine⟨HQ6.out.2.1,?_⟩
    try simp only [Act.put,List.getElem_toArray,List.getElem_cons_zero,List.getElem_cons_succ,List.setIfInBounds_toArray,List.set_cons_zero,List.set_cons_succ]
    refine AnyG_done (by kernel_rfl) ?_ _
    go_wp2_with fail
    go_meet
    exact⟨_,_,cs2,rfl,rfl,rfl,Lib.hid ⟨HQ6.out.2.1,HQ6.out.2.2.1,HQ6.out.2.2.2,hB2⟩⟩
   ·refine wpOp_of rfl rfl ?_
    try simp only [Act.put,List.getElem_toArray,List.getElem_cons_zero,List.getElem_cons_succ,List.setIfInBounds_toArray,List.set_cons_zero,List.set_cons_succ]
    go_simp
    obtain⟨v9,hv9⟩:∃ W,World.alloc v6 (.cells zr 127)=W:=⟨_,rfl⟩
    rw [hv9]
    have b9:Below w1.heap.size w1 v9:=by rw [←hv9];exact Below.alloc b6 (Below.size b6) _
    have y9:v9.heap[v6.heap.size]? = some (.cells zr 127 (0,0)):=by rw [←hv9];exact heap_alloc_new _ _
    have x9:v9.heap[wd.heap.size]? = some (.cells #[.int .i64 0,.int .u32 0] 124 (0,0)):=by rw [←hv9];exact up_al x6
    refine⟨b9,?_⟩
    try simp only [Act.put,List.getElem_toArray,List.getElem_cons_zero,List.getElem_cons_succ,List.setIfInBounds_toArray,List.set_cons_zero,List.set_cons_succ]
    refine AnyG_one (i:=9) rfl (by kernel_rfl) ?_
    refine wpOp_of rfl rfl ?_
    try simp only [Act.put,List.getElem_toArray,List.getElem_cons_zero,List.getElem_cons_succ,List.setIfInBounds_toArray,List.set_cons_zero,List.set_cons_succ]
    go_simp
    refine (buf_pop _ cs s.room q HB.out).mono ?_
    rintro _ v10 ⟨⟨cs2,rfl,hB2⟩,hb10⟩
    have b10:=Below.trans b9 (hb10.mono (Below.size b9))
    have x10:=up_bl hb10 (Array.getElem?_eq_some_iff.1 x9).1 x9
    have y10:=up_bl hb10 (Array.getElem?_eq_some_iff.1 y9).1 y9
    refine⟨b10,?_⟩
    try simp only [Act.put,List.getElem_toArray,List.getElem_cons_zero,List.getElem_cons_succ,List.setIfInBounds_toArray,List.set_cons_zero,List.set_cons_succ]
    refine AnyG_take (i:=10) (oi:=_) (v:=?_) rfl (by kernel_rfl) (fun _ _ _ h=>h) (Or.inl ⟨by rfl,?_⟩) b10 ?_
    rotate_left
    ·intro W hSw;(try dsimp only at hSw);go_simp;first | done | with_reducible rfl
    simp only [Act.put,List.getElem_toArray,List.getElem_cons_zero,List.getElem_cons_succ,List.setIfInBounds_toArray,List.set_cons_zero,List.set_cons_succ]
    refine AnyG_take (i:=11) (oi:=_) (v:=?_) rfl (by kernel_rfl) (fun _ _ _ h=>h) (Or.inl ⟨by rfl,?_⟩) b10 ?_
    rotate_left
    ·intro W hSw;(try dsimp only at hSw);go_simp;first | done | with_reducible rfl
    simp only [Act.put,List.getElem_toArray,List.getElem_cons_zero,List.getElem_cons_succ,List.setIfInBounds_toArray,List.set_cons_zero,List.set_cons_succ]
    refine AnyG_take (i:=12) (oi:=_) (v:=?_) rfl (by kernel_rfl) (fun _ _ _ h=>h) (Or.inl ⟨by rfl,?_⟩) b10 ?_
    rotate_left
    ·intro W hSw;(try dsimp only at hSw);go_simp;first | done | with_reducible rfl
    simp only [Act.put,List.getElem_toArray,List.getElem_cons_zero,List.getElem_cons_succ,List.setIfInBounds_toArray,List.set_cons_zero,List.set_cons_succ]
    refine AnyG_take (i:=13) (oi:=_) (v:=?_) rfl (by kernel_rfl) (fun _ _ _ h=>h) (Or.inl ⟨by rfl,?_⟩) b10 ?_
    rotate_left
    ·intro W hSw;(try dsimp only at hSw);go_simp;first | done | with_reducible rfl
    simp only [Act.put,List.getElem_toArray,List.getElem_cons_zero,List.getElem_cons_succ,List.setIfInBounds_toArray,List.set_cons_zero,List.set_cons_succ]
    have hfin:=fin6 b10 x10 y10 hzs hB2 (a:=headA q) (v:=headV q) (gx:=wd.heap.size) (gb:=v6.heap.size) (Below.size b0) (Below.size b6)
    obtain⟨q0,q1,q2,q3,q4,q5,q6⟩:=hfin
    have HQ6:=Lib.hid q6
    clear q6
    refine AnyG_one (i:=16) rfl (by kernel_rfl) ?_
    refine wpOp_of rfl rfl ?_
    try simp only [Act.put,List.getElem_toArray,List.getElem_cons_zero,List.getElem_cons_succ,List.setIfInBounds_toArray,List.set_cons_zero,List.set_cons_succ]
    go_simp
    refine⟨HQ6.out.1,?_⟩
    try simp only [Act.put,List.getElem_toArray,List.getElem_cons_zero,List.getElem_cons_succ,List.setIfInBounds_toArray,List.set_cons_zero,List.set_cons_succ]
    refine AnyG_one (i:=17) rfl (by kernel_rfl) ?_
    refine wpOp_of rfl rfl ?_
    try simp only [Act.put,List.getElem_toArray,List.getElem_cons_zero,List.getElem_cons_succ,List.setIfInBounds_toArray,List.set_cons_zero,List.set_cons_succ]
    have hsn:cs2.size=n35:=hB2.1.trans HN35.out.symm
    go_simp
    refine⟨HQ6.out.2.1,?_⟩
    try simp only [Act.put,List.getElem_toArray,List.getElem_cons_zero,List.getElem_cons_succ,List.setIfInBounds_toArray,List.set_cons_zero,List.set_cons_succ]
    refine AnyG_one (i:=18) rfl (by kernel_rfl) ?_
    refine wpOp_of rfl rfl ?_
    try simp only [Act.put,List.getElem_toArray,List.getElem_cons_zero,List.getElem_cons_succ,List.setIfInBounds_toArray,List.set_cons_zero,List.set_cons_succ]
    go_simp
    refine⟨HQ6.out.2.1,?_⟩
    try simp only [Act.put,List.getElem_toArray,List.getElem_cons_zero,List.getElem_cons_succ,List.setIfInBounds_toArray,List.set_cons_zero,List.set_cons_succ]
    refine AnyG_done (by kernel_rfl) ?_ _
    go_wp2_with fail
    go_meet
    exact⟨_,_,cs2,rfl,rfl,rfl,Lib.hid ⟨HQ6.out.2.1,HQ6.out.2.2.1,HQ6.out.2.2.2,hB2⟩⟩
  ·refine wpOp_of rfl rfl ?_
   try simp only [Act.put,List.getElem_toArray,List.getElem_cons_zero,List.getElem_cons_succ,List.setIfInBounds_toArray,List.set_cons_zero,List.set_cons_succ]
   go_simp
   obtain⟨v11,hv11⟩:∃ W,World.alloc wd (.cells zr 127)=W:=⟨_,rfl⟩
   rw [hv11]
   have b11:Below w1.heap.size w1 v11:=by rw [←hv11];exact Below.alloc b0 (Below.size b0) _
   have y11:v11.heap[wd.heap.size]? = some (.cells zr 127 (0,0)):=by rw [←hv11];exact heap_alloc_new _ _
   refine⟨b11,?_⟩
   try simp only [Act.put,List.getElem_toArray,List.getElem_cons_zero,List.getElem_cons_succ,List.setIfInBounds_toArray,List.set_cons_zero,List.set_cons_succ]
   refine AnyG_two (i:=9) (j:=14) (by kernel_rfl) ?_ ?_
   ·refine wpOp_of rfl rfl ?_
    try simp only [Act.put,List.getElem_toArray,List.getElem_cons_zero,List.getElem_cons_succ,List.setIfInBounds_toArray,List.set_cons_zero,List.set_cons_succ]
    go_simp
    refine (buf_pop _ cs s.room q HB.out).mono ?_
    rintro _ v12 ⟨⟨cs2,rfl,hB2⟩,hb12⟩
    have b12:=Below.trans b11 (hb12.mono (Below.size b11))
    have y12:=up_bl hb12 (Array.getElem?_eq_some_iff.1 y11).1 y11
    refine⟨b12,?_⟩
    try simp only [Act.put,List.getElem_toArray,List.getElem_cons_zero,List.getElem_cons_succ,List.setIfInBounds_toArray,List.set_cons_zero,List.set_cons_succ]
    refine AnyG_take (i:=10) (oi:=_) (v:=?_) rfl (by kernel_rfl) (fun _ _ _ h=>h) (Or.inl ⟨by rfl,?_⟩) b12 ?_
    rotate_left
    ·intro W hSw;(try dsimp only at hSw);go_simp;first | done | with_reducible rfl
    simp only [Act.put,List.getElem_toArray,List.getElem_cons_zero,List.getElem_cons_succ,List.setIfInBounds_toArray,List.set_cons_zero,List.set_cons_succ]
    refine AnyG_take (i:=11) (oi:=_) (v:=?_) rfl (by kernel_rfl) (fun _ _ _ h=>h) (Or.inl ⟨by rfl,?_⟩) b12 ?_
    rotate_left
    ·intro W hSw;(try dsimp only at hSw);go_simp;first | done | with_reducible rfl
    simp only [Act.put,List.getElem_toArray,List.getElem_cons_zero,List.getElem_cons_succ,List.setIfInBounds_toArray,List.set_cons_zero,List.set_cons_succ]
    refine AnyG_take (i:=12) (oi:=_) (v:=?_) rfl (by kernel_rfl) (fun _ _ _ h=>h) (Or.inl ⟨by rfl,?_⟩) b12 ?_
    rotate_left
    ·intro W hSw;(try dsimp only at hSw);go_simp;first | done | with_reducible rfl
    simp only [Act.put,List.getElem_toArray,List.getElem_cons_zero,List.getElem_cons_succ,List.setIfInBounds_toArray,List.set_cons_zero,List.set_cons_succ]
    refine AnyG_take (i:=13) (oi:=_) (v:=?_) rfl (by kernel_rfl) (fun _ _ _ h=>h) (Or.inl ⟨by rfl,?_⟩) b12 ?_
    rotate_left
    ·intro W hSw;(try dsimp only at hSw);go_simp;first | done | with_reducible rfl
    simp only [Act.put,List.getElem_toArray,List.getElem_cons_zero,List.getElem_cons_succ,List.setIfInBounds_toArray,List.set_cons_zero,List.set_cons_succ]
    refine AnyG_one (i:=14) rfl (by kernel_rfl) ?_
    refine wpOp_of rfl rfl ?_
    try simp only [Act.put,List.getElem_toArray,List.getElem_cons_zero,List.getElem_cons_succ,List.setIfInBounds_toArray,List.set_cons_zero,List.set_cons_succ]
    go_simp
    obtain⟨v13,hv13⟩:∃ W,World.alloc v12 (.cells #[.int .i64 0,.int .u32 0] 124)=W:=⟨_,rfl⟩
    rw [hv13]
    have b13:Below w1.heap.size w1 v13:=by rw [←hv13];exact Below.alloc b12 (Below.size b12) _
    have x13:v13.heap[v12.heap.size]? = some (.cells #[.int .i64 0,.int .u32 0] 124 (0,0)):=by rw [←hv13];exact heap_alloc_new _ _
    have y13:v13.heap[wd.heap.size]? = some (.cells zr 127 (0,0)):=by rw [←hv13];exact up_al y12
    refine⟨b13,?_⟩
    try simp only [Act.put,List.getElem_toArray,List.getElem_cons_zero,List.getElem_cons_succ,List.setIfInBounds_toArray,List.set_cons_zero,List.set_cons_succ]
    have hfin:=fin6 b13 x13 y13 hzs hB2 (a:=headA q) (v:=headV q) (gx:=v12.heap.size) (gb:=wd.heap.size) (Below.size b12) (Below.size b0)
    obtain⟨q0,q1,q2,q3,q4,q5,q6⟩:=hfin
    have HQ6:=Lib.hid q6
    clear q6
    refine AnyG_one (i:=16) rfl (by kernel_rfl) ?_
    refine wpOp_of rfl rfl ?_
    try simp only [Act.put,List.getElem_toArray,List.getElem_cons_zero,List.getElem_cons_succ,List.setIfInBounds_toArray,List.set_cons_zero,List.set_cons_succ]
    go_simp
    refine⟨HQ6.out.1,?_⟩
    try simp only [Act.put,List.getElem_toArray,List.getElem_cons_zero,List.getElem_cons_succ,List.setIfInBounds_toArray,List.set_cons_zero,List.set_cons_succ]
    refine AnyG_one (i:=17) rfl (by kernel_rfl) ?_
    refine wpOp_of rfl rfl ?_
    try simp only [Act.put,List.getElem_toArray,List.getElem_cons_zero,List.getElem_cons_succ,List.setIfInBounds_toArray,List.set_cons_zero,List.set_cons_succ]
    have hsn:cs2.size=n35:=hB2.1.trans HN35.out.symm
    go_simp
    refine⟨HQ6.out.2.1,?_⟩
    try simp only [Act.put,List.getElem_toArray,List.getElem_cons_zero,List.getElem_cons_succ,List.setIfInBounds_toArray,List.set_cons_zero,List.set_cons_succ]
    refine AnyG_one (i:=18) rfl (by kernel_rfl) ?_
    refine wpOp_of rfl rfl ?_
    try simp only [Act.put,List.getElem_toArray,List.getElem_cons_zero,List.getElem_cons_succ,List.setIfInBounds_toArray,List.set_cons_zero,List.set_cons_succ]
    go_simp
    refine⟨HQ6.out.2.1,?_⟩
    try simp only [Act.put,List.getElem_toArray,List.getElem_cons_zero,List.getElem_cons_succ,List.setIfInBounds_toArray,List.set_cons_zero,List.set_cons_succ]
    refine AnyG_done (by kernel_rfl) ?_ _
    go_wp2_with fail
    go_meet
    exact⟨_,_,cs2,rfl,rfl,rfl,Lib.hid ⟨HQ6.out.2.1,HQ6.out.2.2.1,HQ6.out.2.2.2,hB2⟩⟩
   ·refine wpOp_of rfl rfl ?_
    try simp only [Act.put,List.getElem_toArray,List.getElem_cons_zero,List.getElem_cons_succ,List.setIfInBounds_toArray,List.set_cons_zero,List.set_cons_succ]
    go_simp
    obtain⟨v14,hv14⟩:∃ W,World.alloc v11 (.cells #[.int .i64 0,.int .u32 0] 124)=W:=⟨_,rfl⟩
    rw [hv14]
    have b14:Below w1.heap.size w1 v14:=by rw [←hv14];exact Below.alloc b11 (Below.size b11) _
    have x14:v14.heap[v11.heap.size]? = some (.cells #[.int .i64 0,.int .u32 0] 124 (0,0)):=by rw [←hv14];exact heap_alloc_new _ _
    have y14:v14.heap[wd.heap.size]? = some (.cells zr 127 (0,0)):=by rw [←hv14];exact up_al y11
    refine⟨b14,?_⟩
    try simp only [Act.put,List.getElem_toArray,List.getElem_cons_zero,List.getElem_cons_succ,List.setIfInBounds_toArray,List.set_cons_zero,List.set_cons_succ]
    refine AnyG_one (i:=9) rfl (by kernel_rfl) ?_
    refine wpOp_of rfl rfl ?_
    try simp only [Act.put,List.getElem_toArray,List.getElem_cons_zero,List.getElem_cons_succ,List.setIfInBounds_toArray,List.set_cons_zero,List.set_cons_succ]
    go_simp
    refine (buf_pop _ cs s.room q HB.out).mono ?_
    rintro _ v15 ⟨⟨cs2,rfl,hB2⟩,hb15⟩
    have b15:=Below.trans b14 (hb15.mono (Below.size b14))
    have x15:=up_bl hb15 (Array.getElem?_eq_some_iff.1 x14).1 x14
    have y15:=up_bl hb15 (Array.getElem?_eq_some_iff.1 y14).1 y14
    refine⟨b15,?_⟩
    try simp only [Act.put,List.getElem_toArray,List.getElem_cons_zero,List.getElem_cons_succ,List.setIfInBounds_toArray,List.set_cons_zero,List.set_cons_succ]
    refine AnyG_take (i:=10) (oi:=_) (v:=?_) rfl (by kernel_rfl) (fun _ _ _ h=>h) (Or.inl ⟨by rfl,?_⟩) b15 ?_
    rotate_left
    ·intro W hSw;(try dsimp only at hSw);go_simp;first | done | with_reducible rfl
    simp only [Act.put,List.getElem_toArray,List.getElem_cons_zero,List.getElem_cons_succ,List.setIfInBounds_toArray,List.set_cons_zero,List.set_cons_succ]
    refine AnyG_take (i:=11) (oi:=_) (v:=?_) rfl (by kernel_rfl) (fun _ _ _ h=>h) (Or.inl ⟨by rfl,?_⟩) b15 ?_
    rotate_left
    ·intro W hSw;(try dsimp only at hSw);go_simp;first | done | with_reducible rfl
    simp only [Act.put,List.getElem_toArray,List.getElem_cons_zero,List.getElem_cons_succ,List.setIfInBounds_toArray,List.set_cons_zero,List.set_cons_succ]
    refine AnyG_take (i:=12) (oi:=_) (v:=?_) rfl (by kernel_rfl) (fun _ _ _ h=>h) (Or.inl ⟨by rfl,?_⟩) b15 ?_
    rotate_left
    ·intro W hSw;(try dsimp only at hSw);go_simp;first | done | with_reducible rfl
    simp only [Act.put,List.getElem_toArray,List.getElem_cons_zero,List.getElem_cons_succ,List.setIfInBounds_toArray,List.set_cons_zero,List.set_cons_succ]
    refine AnyG_take (i:=13) (oi:=_) (v:=?_) rfl (by kernel_rfl) (fun _ _ _ h=>h) (Or.inl ⟨by rfl,?_⟩) b15 ?_
    rotate_left
    ·intro W hSw;(try dsimp only at hSw);go_simp;first | done | with_reducible rfl
    simp only [Act.put,List.getElem_toArray,List.getElem_cons_zero,List.getElem_cons_succ,List.setIfInBounds_toArray,List.set_cons_zero,List.set_cons_succ]
    have hfin:=fin6 b15 x15 y15 hzs hB2 (a:=headA q) (v:=headV q) (gx:=v11.heap.size) (gb:=wd.heap.size) (Below.size b11) (Below.size b0)
    obtain⟨q0,q1,q2,q3,q4,q5,q6⟩:=hfin
    have HQ6:=Lib.hid q6
    clear q6
    refine AnyG_one (i:=16) rfl (by kernel_rfl) ?_
    refine wpOp_of rfl rfl ?_
    try simp only [Act.put,List.getElem_toArray,List.getElem_cons_zero,List.getElem_cons_succ,List.setIfInBounds_toArray,List.set_cons_zero,List.set_cons_succ]
    go_simp
    refine⟨HQ6.out.1,?_⟩
    try simp only [Act.put,List.getElem_toArray,List.getElem_cons_zero,List.getElem_cons_succ,List.setIfInBounds_toArray,List.set_cons_zero,List.set_cons_succ]
    refine AnyG_one (i:=17) rfl (by kernel_rfl) ?_
    refine wpOp_of rfl rfl ?_
    try simp only [Act.put,List.getElem_toArray,List.getElem_cons_zero,List.getElem_cons_succ,List.setIfInBounds_toArray,List.set_cons_zero,List.set_cons_succ]
    have hsn:cs2.size=n35:=hB2.1.trans HN35.out.symm
    go_simp
    refine⟨HQ6.out.2.1,?_⟩
    try simp only [Act.put,List.getElem_toArray,List.getElem_cons_zero,List.getElem_cons_succ,List.setIfInBounds_toArray,List.set_cons_zero,List.set_cons_succ]
    refine AnyG_one (i:=18) rfl (by kernel_rfl) ?_
    refine wpOp_of rfl rfl ?_
    try simp only [Act.put,List.getElem_toArray,List.getElem_cons_zero,List.getElem_cons_succ,List.setIfInBounds_toArray,List.set_cons_zero,List.set_cons_succ]
    go_simp
    refine⟨HQ6.out.2.1,?_⟩
    try simp only [Act.put,List.getElem_toArray,List.getElem_cons_zero,List.getElem_cons_succ,List.setIfInBounds_toArray,List.set_cons_zero,List.set_cons_succ]
    refine AnyG_done (by kernel_rfl) ?_ _
    go_wp2_with fail
    go_meet
    exact⟨_,_,cs2,rfl,rfl,rfl,Lib.hid ⟨HQ6.out.2.1,HQ6.out.2.2.1,HQ6.out.2.2.2,hB2⟩⟩
 case rest=>
  obtain⟨gx,gb,cs2,rfl,rfl,rfl,HW⟩:=hcut
  have HMC:=Lib.hid (HM1.out.below HW.out.1)
  have HOC:Hid (Only (fun k=>¬Z k) w wc):=Lib.hid (HO1.out.trans (Only.of_below HW.out.1 (Nat.le_refl _)) (fun _ e=>.inl e))
  clear hzr hld b0
  by_cases hqe:q=[]
  ·subst hqe
   have hfl:s.flush t=s:=by unfold Ts.flush;rw [HBUF.out]
   have hde:(!decide (([]:List (Nat×Int))=[]))=false:=rfl
   rw [hde]
   go_wp2_with fail
   refine bodyPost_ret (results_none rfl _ _ _) rfl ?_
   exact⟨rfl,HMC.out,HOC.out⟩
  ·obtain⟨e0,r0,rfl⟩:∃ e r,q=e::r:=by cases q with | nil=>exact absurd rfl hqe | cons e r=>exact⟨e,r,rfl⟩
   have hde:(!decide (e0::r0=[]))=true:=rfl
   rw [hde]
   have hb1:=HW.out.1
   have hcB:BufIs cs2 s.room r0:=HW.out.2.2.2
   have hxW:wc.heap[gx]? = some (.cells #[.int .i64 (e0.1:Nat),.int .u32 e0.2] 124 (0,0)):=HW.out.2.1
   have hbW:=HW.out.2.2.1
   have d0:∀ W,Below wc.heap.size wc W→W.cell? ⟨w.heap.size,0,none⟩=some (.pointer (some ⟨K.mb,0,none⟩)):=fun W hW=>hc0 W (hb1.trans (hW.mono hb1.size))
   have d1:∀ W,Below wc.heap.size wc W→W.cell? ⟨w.heap.size,1,none⟩=some (.int .i64 t):=fun W hW=>hc1 W (hb1.trans (hW.mono hb1.size))
   have d2:∀ W,Below wc.heap.size wc W→W.cell? ⟨K.mb,2,none⟩=some (.slice (some ⟨K.bb,0,none⟩) s.bufs.length K.bc):=fun W hW=>hc2 W (hb1.trans (hW.mono hb1.size))
   have ld:∀ W,Below wc.heap.size wc W→Sem.run Tryz.prog (loadCellsFrom ⟨gb,0,none⟩ 0 n35 #[]) W=.ok cs2 W:=fun W hW=>ldR (up_bl hW (Array.getElem?_eq_some_iff.1 hbW).1 hbW) (hcB.1.trans HN35.out.symm)
   have hst2:∀ W,Below w1.heap.size w1 W→Sem.run Tryz.prog (storeCells ⟨K.bb,t*n35,none⟩ cs2.toList 0) W=.ok () (W.setCells K.bb (t*n35) cs2.toList):=fun W hW=>stRow (n:=n35) (by rw [HN35.out];exact HA1.out.there HQ.out hW) (hcB.1.trans HN35.out.symm) hcB.2.1
   have hsn:cs2.size=n35:=hcB.1.trans HN35.out.symm
   have bW:Below wc.heap.size wc wc.drew:=bl_drw (Below.refl _ _)
   have b1d:Below w1.heap.size w1 wc.drew:=bl_drw hb1
   have H4:=Lib.hid ((HMC.out.drew).setBuf ht3 hcB)
   have hs1:wc.heap[w.heap.size]? = some (.cells #[.pointer (some ⟨K.mb,0,none⟩),.int .i64 t] 153 (0,0)):=up_bl hb1 (Array.getElem?_eq_some_iff.1 HS0.out).1 HS0.out
   have hsb:w.heap.size≠K.bb:=fun q=>absurd (HA.out.flt K.bb (.inr (.inr (.inr (.inl rfl))))) (by omega)
   have hxb:gx≠K.bb:=fun q=>by
    have h:=(up_bl hb1 (Array.getElem?_eq_some_iff.1 HA1.out.hq).1 HA1.out.hq)
    rw [←q,hxW] at h
    injection h with h
    injection h with _ h
    exact absurd h (by decide)
   have HS1:=Lib.hid hs1
   have HXW:=Lib.hid hxW
   clear hs1 hxW hbW hcB hc0 hc1 hc2
   go_wp2_with fail
   refine wp_region_g (fun W=>Below wc.heap.size wc W) 9 (by kernel_rfl) ?_
   refine AnyG_take (i:=0) (oi:=_) (v:=?_) rfl (by kernel_rfl) (fun _ _ _ h=>h) (Or.inl ⟨by rfl,?_⟩) bW ?_
   rotate_left
   ·intro W hSw;(try dsimp only at hSw);go_simp;first | done | with_reducible rfl
   simp only [Act.put,List.getElem_toArray,List.getElem_cons_zero,List.getElem_cons_succ,List.setIfInBounds_toArray,List.set_cons_zero,List.set_cons_succ]
   refine AnyG_take (i:=1) (oi:=_) (v:=?_) rfl (by kernel_rfl) (fun _ _ _ h=>h) (Or.inl ⟨by rfl,?_⟩) bW ?_
   rotate_left
   ·intro W hSw;(try dsimp only at hSw);go_simp;first | done | with_reducible rfl
   simp only [Act.put,List.getElem_toArray,List.getElem_cons_zero,List.getElem_cons_succ,List.setIfInBounds_toArray,List.set_cons_zero,List.set_cons_succ]
   refine AnyG_take (i:=2) (oi:=_) (v:=?_) rfl (by kernel_rfl) (fun _ _ _ h=>h) (Or.inl ⟨by rfl,?_⟩) bW ?_
   rotate_left
   ·intro W hSw;(try dsimp only at hSw);go_simp;first | done | with_reducible rfl
   simp only [Act.put,List.getElem_toArray,List.getElem_cons_zero,List.getElem_cons_succ,List.setIfInBounds_toArray,List.set_cons_zero,List.set_cons_succ]
   refine AnyG_take (i:=3) (oi:=_) (v:=?_) rfl (by kernel_rfl) (fun _ _ _ h=>h) (Or.inl ⟨by rfl,?_⟩) bW ?_
   rotate_left
   ·intro W hSw;(try dsimp only at hSw);go_simp;first | done | with_reducible rfl
   simp only [Act.put,List.getElem_toArray,List.getElem_cons_zero,List.getElem_cons_succ,List.setIfInBounds_toArray,List.set_cons_zero,List.set_cons_succ]
   refine AnyG_take (i:=4) (oi:=_) (v:=?_) rfl (by kernel_rfl) (fun _ _ _ h=>h) (Or.inl ⟨by rfl,?_⟩) bW ?_
   rotate_left
   ·intro W hSw;(try dsimp only at hSw);go_simp;first | done | with_reducible rfl
   simp only [Act.put,List.getElem_toArray,List.getElem_cons_zero,List.getElem_cons_succ,List.setIfInBounds_toArray,List.set_cons_zero,List.set_cons_succ]
   refine AnyG_take (i:=5) (oi:=_) (v:=?_) rfl (by kernel_rfl) (fun _ _ _ h=>h) (Or.inl ⟨by rfl,?_⟩) bW ?_
   rotate_left
   ·intro W hSw;(try dsimp only at hSw);go_simp;first | done | with_reducible rfl
   simp only [Act.put,List.getElem_toArray,List.getElem_cons_zero,List.getElem_cons_succ,List.setIfInBounds_toArray,List.set_cons_zero,List.set_cons_succ]
   refine AnyG_take (i:=6) (oi:=_) (v:=?_) rfl (by kernel_rfl) (fun _ _ _ h=>h) (Or.inl ⟨by rfl,?_⟩) bW ?_
   rotate_left
   ·intro W hSw;(try dsimp only at hSw);go_simp;first | done | with_reducible rfl
   simp only [Act.put,List.getElem_toArray,List.getElem_cons_zero,List.getElem_cons_succ,List.setIfInBounds_toArray,List.set_cons_zero,List.set_cons_succ]
   refine AnyG_take (i:=7) (oi:=_) (v:=?_) rfl (by kernel_rfl) (fun _ _ _ h=>h) (Or.inl ⟨by rfl,?_⟩) bW ?_
   rotate_left
   ·intro W hSw;(try dsimp only at hSw);go_simp;first | done | with_reducible rfl
   simp only [Act.put,List.getElem_toArray,List.getElem_cons_zero,List.getElem_cons_succ,List.setIfInBounds_toArray,List.set_cons_zero,List.set_cons_succ]
   refine AnyG_take (i:=8) (oi:=_) (v:=?_) rfl (by kernel_rfl) (fun _ _ _ h=>h) (Or.inl ⟨by rfl,?_⟩) bW ?_
   rotate_left
   ·intro W hSw;(try dsimp only at hSw);go_simp;first | done | with_reducible rfl
   simp only [Act.put,List.getElem_toArray,List.getElem_cons_zero,List.getElem_cons_succ,List.setIfInBounds_toArray,List.set_cons_zero,List.set_cons_succ]
   refine AnyG_one (i:=9) rfl (by kernel_rfl) ?_
   refine wpOp_of rfl rfl ?_
   try simp only [Act.put,List.getElem_toArray,List.getElem_cons_zero,List.getElem_cons_succ,List.setIfInBounds_toArray,List.set_cons_zero,List.set_cons_succ]
   go_simp
   try simp only [Act.put,List.getElem_toArray,List.getElem_cons_zero,List.getElem_cons_succ,List.setIfInBounds_toArray,List.set_cons_zero,List.set_cons_succ]
   refine AnyG_done (by kernel_rfl) ?_ _
   obtain⟨W4,hW4⟩:∃ W,wc.drew.setCells K.bb (t*n35) cs2.toList=W:=⟨_,rfl⟩
   rw [hW4]
   have hW4':wc.drew.setCells K.bb (t*35) cs2.toList=W4:=by rw [←HN35.out];exact hW4
   rw [hW4'] at H4
   have hs4:W4.heap[w.heap.size]? = some (.cells #[.pointer (some ⟨K.mb,0,none⟩),.int .i64 t] 153 (0,0)):=by rw [←hW4];exact (setCells_other _ _ _ _ hsb).trans HS1.out
   have hx4:W4.heap[gx]? = some (.cells #[.int .i64 (e0.1:Nat),.int .u32 e0.2] 124 (0,0)):=by rw [←hW4];exact (setCells_other _ _ _ _ hxb).trans HXW.out
   clear hW4 hW4' d0 d1 d2 ld hst2 hsn bW b1d
   obtain⟨m1,m2,m3,m4,m5,ev4,kv4,ma4,ta4,ba4,A4,D4,Z4⟩:=H4.out.1
   have lt:∀ {k:Nat} {o:Obj},W4.heap[k]? = some o→k < W4.heap.size:=fun hk=>(Array.getElem?_eq_some_iff.1 hk).1
   have d0:∀ W,Below W4.heap.size W4 W→W.cell? ⟨w.heap.size,0,none⟩=some (.pointer (some ⟨K.mb,0,none⟩)):=fun W hW=>cell_of_row _ _ 0 _ _ _ (up_bl hW (lt hs4) hs4)
   have d3:∀ W,Below W4.heap.size W4 W→W.cell? ⟨K.mb,3,none⟩=some (.slice (some ⟨K.mm,0,none⟩) s.mem.length K.mc):=fun W hW=>cell_of_row _ _ 3 _ _ _ (up_bl hW (lt A4.hb) A4.hb)
   have y0:∀ W,Below W4.heap.size W4 W→W.cell? ⟨gx,0,none⟩=some (.int .i64 (e0.1:Nat)):=fun W hW=>cell_of_row _ _ 0 _ _ _ (up_bl hW (lt hx4) hx4)
   have y1:∀ W,Below W4.heap.size W4 W→W.cell? ⟨gx,1,none⟩=some (.int .u32 e0.2):=fun W hW=>cell_of_row _ _ 1 _ _ _ (up_bl hW (lt hx4) hx4)
   have hel:e0.1 < s.mem.length:=HBM.out e0 (by rw [HBUF.out];exact List.mem_cons_self)
   have hei:(e0.1:Int) < (s.mem.length:Int):=by omega
   obtain⟨mv,hmv⟩:∃ v,s.mem[e0.1]? = some v:=⟨_,List.getElem?_eq_getElem hel⟩
   have cmv:W4.cell? ⟨K.mm,e0.1,none⟩=some (.int .u32 mv):=(cell_of_row _ _ _ _ _ _ A4.hm).trans (A4.cm _ _ hmv)
   have fmv:W4.frozen? ⟨K.mm,e0.1,none⟩=false:=frozen_of_row _ _ _ _ _ A4.hm
   have b4:Below W4.heap.size W4 W4.drew:=bl_drw (Below.refl _ _)
   have h5':=TsM.swap H4.out.1 (s:={ s with bufs:=s.bufs.set t r0 }) hel e0.2
   have H5:=Lib.hid (And.intro h5'.1.drew (on_drw h5'.2))
   clear h5'
   have hsm:w.heap.size≠K.mm:=fun q=>absurd (HA.out.flt K.mm (.inr (.inl rfl))) (by omega)
   have hxm:gx≠K.mm:=fun q=>by
    have h:=A4.hm
    rw [←q,hx4] at h
    injection h with h
    injection h with _ h
    exact absurd h (by decide)
   have HS4:=Lib.hid hs4
   have HX4:=Lib.hid hx4
   have HO4:Hid (Only (fun k=>¬Z k) w W4):=Lib.hid ((on_drw HOC.out).trans H4.out.2 (fun _ q=>.inl q))
   clear hs4 hx4 A4 D4 Z4 m1 m2 m3 m4 m5 lt hmv hel
   go_wp2_with fail
   refine wp_region_g (fun W=>Below W4.heap.size W4 W) 10 (by kernel_rfl) ?_
   refine AnyG_take (i:=0) (oi:=_) (v:=?_) rfl (by kernel_rfl) (fun _ _ _ h=>h) (Or.inl ⟨by rfl,?_⟩) b4 ?_
   rotate_left
   ·intro W hSw;(try dsimp only at hSw);go_simp;first | done | with_reducible rfl
   simp only [Act.put,List.getElem_toArray,List.getElem_cons_zero,List.getElem_cons_succ,List.setIfInBounds_toArray,List.set_cons_zero,List.set_cons_succ]
   refine AnyG_take (i:=1) (oi:=_) (v:=?_) rfl (by kernel_rfl) (fun _ _ _ h=>h) (Or.inl ⟨by rfl,?_⟩) b4 ?_
   rotate_left
   ·intro W hSw;(try dsimp only at hSw);go_simp;first | done | with_reducible rfl
   simp only [Act.put,List.getElem_toArray,List.getElem_cons_zero,List.getElem_cons_succ,List.setIfInBounds_toArray,List.set_cons_zero,List.set_cons_succ]
   refine AnyG_take (i:=2) (oi:=_) (v:=?_) rfl (by kernel_rfl) (fun _ _ _ h=>h) (Or.inl ⟨by rfl,?_⟩) b4 ?_
   rotate_left
   ·intro W hSw;(try dsimp only at hSw);go_simp;first | done | with_reducible rfl
   simp only [Act.put,List.getElem_toArray,List.getElem_cons_zero,List.getElem_cons_succ,List.setIfInBounds_toArray,List.set_cons_zero,List.set_cons_succ]
   refine AnyG_take (i:=3) (oi:=_) (v:=?_) rfl (by kernel_rfl) (fun _ _ _ h=>h) (Or.inl ⟨by rfl,?_⟩) b4 ?_
   rotate_left
   ·intro W hSw;(try dsimp only at hSw);go_simp;first | done | with_reducible rfl
   simp only [Act.put,List.getElem_toArray,List.getElem_cons_zero,List.getElem_cons_succ,List.setIfInBounds_toArray,List.set_cons_zero,List.set_cons_succ]
   refine AnyG_take (i:=4) (oi:=_) (v:=?_) rfl (by kernel_rfl) (fun _ _ _ h=>h) (Or.inl ⟨by rfl,?_⟩) b4 ?_
   rotate_left
   ·intro W hSw;(try dsimp only at hSw);go_simp;first | done | with_reducible rfl
   simp only [Act.put,List.getElem_toArray,List.getElem_cons_zero,List.getElem_cons_succ,List.setIfInBounds_toArray,List.set_cons_zero,List.set_cons_succ]
   refine AnyG_take (i:=5) (oi:=_) (v:=?_) rfl (by kernel_rfl) (fun _ _ _ h=>h) (Or.inl ⟨by rfl,?_⟩) b4 ?_
   rotate_left
   ·intro W hSw;(try dsimp only at hSw);go_simp;first | done | with_reducible rfl
   simp only [Act.put,List.getElem_toArray,List.getElem_cons_zero,List.getElem_cons_succ,List.setIfInBounds_toArray,List.set_cons_zero,List.set_cons_succ]
   refine AnyG_take (i:=6) (oi:=_) (v:=?_) rfl (by kernel_rfl) (fun _ _ _ h=>h) (Or.inl ⟨by rfl,?_⟩) b4 ?_
   rotate_left
   ·intro W hSw;(try dsimp only at hSw);go_simp;first | done | with_reducible rfl
   simp only [Act.put,List.getElem_toArray,List.getElem_cons_zero,List.getElem_cons_succ,List.setIfInBounds_toArray,List.set_cons_zero,List.set_cons_succ]
   refine AnyG_take (i:=7) (oi:=_) (v:=?_) rfl (by kernel_rfl) (fun _ _ _ h=>h) (Or.inl ⟨by rfl,?_⟩) b4 ?_
   rotate_left
   ·intro W hSw;(try dsimp only at hSw);go_simp;first | done | with_reducible rfl
   simp only [Act.put,List.getElem_toArray,List.getElem_cons_zero,List.getElem_cons_succ,List.setIfInBounds_toArray,List.set_cons_zero,List.set_cons_succ]
   refine AnyG_take (i:=8) (oi:=_) (v:=?_) rfl (by kernel_rfl) (fun _ _ _ h=>h) (Or.inl ⟨by rfl,?_⟩) b4 ?_
   rotate_left
   ·intro W hSw;(try dsimp only at hSw);go_simp;first | done | with_reducible rfl
   simp only [Act.put,List.getElem_toArray,List.getElem_cons_zero,List.getElem_cons_succ,List.setIfInBounds_toArray,List.set_cons_zero,List.set_cons_succ]
   refine AnyG_take (i:=9) (oi:=_) (v:=?_) rfl (by kernel_rfl) (fun _ _ _ h=>h) (Or.inl ⟨by rfl,?_⟩) b4 ?_
   rotate_left
   ·intro W hSw;(try dsimp only at hSw);go_simp;first | done | with_reducible rfl
   simp only [Act.put,List.getElem_toArray,List.getElem_cons_zero,List.getElem_cons_succ,List.setIfInBounds_toArray,List.set_cons_zero,List.set_cons_succ]
   refine AnyG_one (i:=10) rfl (by kernel_rfl) ?_
   refine wpOp_of rfl rfl ?_
   try simp only [Act.put,List.getElem_toArray,List.getElem_cons_zero,List.getElem_cons_succ,List.setIfInBounds_toArray,List.set_cons_zero,List.set_cons_succ]
   go_simp
   try simp only [Act.put,List.getElem_toArray,List.getElem_cons_zero,List.getElem_cons_succ,List.setIfInBounds_toArray,List.set_cons_zero,List.set_cons_succ]
   refine AnyG_done (by kernel_rfl) ?_ _
   obtain⟨W5,hW5⟩:∃ W,(W4.setCell ⟨K.mm,e0.1,none⟩ (.int .u32 e0.2)).drew=W:=⟨_,rfl⟩
   rw [hW5]
   rw [hW5] at H5
   have hs5:W5.heap[w.heap.size]? = some (.cells #[.pointer (some ⟨K.mb,0,none⟩),.int .i64 t] 153 (0,0)):=by rw [←hW5];exact (heap_setCell_other _ _ _ _ hsm).trans HS4.out
   have hx5:W5.heap[gx]? = some (.cells #[.int .i64 (e0.1:Nat),.int .u32 e0.2] 124 (0,0)):=by rw [←hW5];exact (heap_setCell_other _ _ _ _ hxm).trans HX4.out
   have z0:W5.cell? ⟨w.heap.size,0,none⟩=some (.pointer (some ⟨K.mb,0,none⟩)):=cell_of_row _ _ 0 _ _ _ hs5
   have z1:W5.cell? ⟨w.heap.size,1,none⟩=some (.int .i64 t):=cell_of_row _ _ 1 _ _ _ hs5
   have z2:W5.cell? ⟨gx,0,none⟩=some (.int .i64 (e0.1:Nat)):=cell_of_row _ _ 0 _ _ _ hx5
   have z3:W5.cell? ⟨gx,1,none⟩=some (.int .u32 e0.2):=cell_of_row _ _ 1 _ _ _ hx5
   have hfl:s.flush t=Ts.note t { s with bufs:=s.bufs.set t r0,mem:=s.mem.set e0.1 e0.2 } ⟨3,0,0,e0.1,e0.2,0,0,false⟩:=by unfold Ts.flush;rw [HBUF.out]
   have HFL:=Lib.hid hfl
   clear hW5 hs5 hx5 d0 d3 y0 y1 cmv fmv b4 hfl
   go_wp2_with ((go_at_call 73;refine (note_ts Z _ K _ t H5.out.1 hn ⟨3,0,0,e0.1,e0.2,0,0,false⟩).mono ?_;rintro r w6 ⟨rfl,hM6,hO6⟩))
   go_end0
   exact⟨rfl,by rw [HFL.out];exact hM6,(HO4.out.trans H5.out.2 (fun _ q=>.inl q)).trans hO6 (fun _ q=>.inl q)⟩
end Go.Proofs.YtcnmhgblbikfkaaGreatDoor.As
