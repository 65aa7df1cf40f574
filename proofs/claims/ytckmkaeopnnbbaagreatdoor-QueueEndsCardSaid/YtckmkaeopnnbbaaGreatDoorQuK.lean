/- What the laws of the package queue share: awake,object,maker,codes. -/
import Derived.Test.YtckmkaeopnnbbaaGreatDoorTqG
import Derived.Test.YtckmkaeopnnbbaaGreatDoorQuF
import Derived.Test.YtckmkaeopnnbbaaGreatDoorQueC
import Derived.Deep.RegionHeld
import Derived.StillTailTactics
import Derived.Shelf.Abstract
set_option linter.unusedVariables false
set_option linter.unusedSimpArgs false
namespace Go.Proofs.YtckmkaeopnnbbaaGreatDoor.As.T
open Go.RowKit

theorem at_new{W:World}{g:Nat}{o:Obj}(h:g=W.heap.size):(W.alloc o).heap[g]? = some o:=by subst h;exact heap_alloc_new _ _
theorem at_alloc{W:World}{g:Nat}{o X:Obj}(h:W.heap[g]? = some o):(W.alloc X).heap[g]? = some o:=(Below.heap_alloc _ _ _ (Array.getElem?_eq_some_iff.1 h).1).trans h
theorem set4_cell{w:World}{R:Nat}{a:Addr}{v v0 v1 v2 v3:Value}(h:w.cell? a=some v)(hne:a.block≠R):
  ((((w.setCell ⟨R,0,none⟩ v0).setCell ⟨R,1,none⟩ v1).setCell ⟨R,2,none⟩ v2).setCell ⟨R,3,none⟩ v3).cell? a=some v:=by
 have e:∀ (W:World) (j:Nat) (v:Value),(W.setCell ⟨R,j,none⟩ v).heap[a.block]? = W.heap[a.block]? := fun W j v=>heap_setCell_other W ⟨R,j,none⟩ a.block v hne
 refine (World.cell?_of_block (w:=w) (a:=a) ?_).trans h
 rw [e,e,e,e]
theorem set4{w:World}{R:Nat}{o0 o1 o2 o3:Value}{t:TypeId}(h:w.heap[R]? = some (.cells #[o0,o1,o2,o3] t (0,0)))(v0 v1 v2 v3:Value):
  ((((w.setCell ⟨R,0,none⟩ v0).setCell ⟨R,1,none⟩ v1).setCell ⟨R,2,none⟩ v2).setCell ⟨R,3,none⟩ v3).heap[R]? = some (.cells #[v0,v1,v2,v3] t (0,0))∧Only (fun k=>k=R) w ((((w.setCell ⟨R,0,none⟩ v0).setCell ⟨R,1,none⟩ v1).setCell ⟨R,2,none⟩ v2).setCell ⟨R,3,none⟩ v3):=
 ⟨(heap_setCell_same _ R 3 _ t _ (heap_setCell_same _ R 2 _ t _ (heap_setCell_same _ R 1 _ t _ (heap_setCell_same _ R 0 _ t _ h)))).trans (by simp),Only.set1 (F:=fun k=>k=R) (p:=⟨R,3,none⟩) (Only.set1 (F:=fun k=>k=R) (p:=⟨R,2,none⟩) (Only.set1 (F:=fun k=>k=R) (p:=⟨R,1,none⟩) (Only.set1 (F:=fun k=>k=R) (p:=⟨R,0,none⟩) (Only.refl _ w) rfl _) rfl _) rfl _) rfl _⟩
theorem results_obj4{fn:Func}{p u1 u2 u3:Tmp}(h:fn.results=#[.cell p 27,.tmp u1,.tmp u2,.tmp u3])(tmps:Array Value)(w:World)(R:Nat)(a b c d:Value)(hb:w.heap[R]? = some (.cells #[a,b,c,d] 27 (0,0)))(hp:tmps.getD p undef=.pointer (some ⟨R,0,none⟩)):
  (results fn tmps).run Tryz.prog w=.ok (.tuple #[.agg #[a,b,c,d],tmps.getD u1 undef,tmps.getD u2 undef,tmps.getD u3 undef]) w:=by
 have hl:=run_loadVar_row (P := Tryz.prog) w R 27 27 _ _ _ hb Tryz.underlying27 rfl (by kernel_rfl)
 simp only [Array.getD_eq_getD_getElem?] at hp
 simp [results,h,hp,asAddr,hl]
theorem cellsQ4{w:World}{g:Nat}{a b c d:Value}{t:TypeId}(hx:w.heap[g]? = some (.cells #[a,b,c,d] t (0,0))):
  w.cell? ⟨g,0,none⟩=some a∧w.cell? ⟨g,1,none⟩=some b∧w.cell? ⟨g,2,none⟩=some c∧w.cell? ⟨g,3,none⟩=some d:=
 ⟨cell_of_row w g 0 _ _ _ hx,cell_of_row w g 1 _ _ _ hx,cell_of_row w g 2 _ _ _ hx,cell_of_row w g 3 _ _ _ hx⟩
theorem case_wrap(x:Int)(n:Int)(h:0≤x∧x≤255)(hn:0 < n∧n≤10):IntKind.i64.wrap (1+(IntKind.i64.wrap x).tmod n)=1+x % n:=by
 have e:IntKind.i64.wrap x=x:=by rw [IntKind.wrap_i64];omega
 have m1:=Int.emod_nonneg x (by omega:n≠0)
 have m2:=Int.emod_lt_of_pos x hn.1
 rw [e,Int.tmod_eq_emod_of_nonneg h.1,IntKind.wrap_i64]
 omega
theorem below_of_only{R B:Nat}{a w:World}(h:Only (fun k=>k=R) a w)(hB:B≤R)(hs:B≤a.heap.size):Below B a w:=⟨h.os,h.tape,h.output,h.size,fun k hk=>h.block k (by omega) (by omega)⟩
theorem ins_cells{w:World}{A:Option Addr}{n cap i:Nat}{l:List Ins}{x:Ins}(h:Rd w 5 (.slice A n cap) n (flat l))(hx:l[i]? = some x)(hn:0 < n):
  ∃ b off,A=some ⟨b,off,none⟩∧b < w.heap.size∧w.cell? ⟨b,off+i*5,none⟩=some (.int .i64 x.op)∧w.cell? ⟨b,off+i*5+1,none⟩=some (.int .i64 x.a)∧w.cell? ⟨b,off+i*5+2,none⟩=some (.int .i64 x.b)∧w.cell? ⟨b,off+i*5+3,none⟩=some (.int .i64 x.c)∧w.cell? ⟨b,off+i*5+4,none⟩=some (.int .u32 x.k):=by
 obtain⟨b,off,e,hb,hc⟩:=h.cells hn
 have g:=fun j hj=>flat_get l i x hx j hj
 exact⟨b,off,e,hb,hc _ _ (g 0 (by decide)),hc _ _ (g 1 (by decide)),hc _ _ (g 2 (by decide)),hc _ _ (g 3 (by decide)),hc _ _ (g 4 (by decide))⟩
set_option maxRecDepth 100000 in
set_option maxHeartbeats 8000000 in
theorem object16(w:World)(x0 x1 x2 x3:Int)(h0:0≤x0∧x0≤255)(h1:0≤x1∧x1≤255)(h2:0≤x2∧x2≤255)(h3:0≤x3∧x3≤255):
  Calls Tryz.prog 12 #[.agg #[.int .u8 x0,.int .u8 x1,.int .u8 x2,.int .u8 x3]] w fun e w'=>e=.returned (.tuple #[.agg #[.int .i64 (4+x0 % 2),.int .i64 0,.int .i64 0,.int .i64 0],.int .i64 (1+x1 % 4),.int .i64 (1+x2 % 3),.int .i64 (1+x3 % 4)])∧Below w.heap.size w w':=by
 go_enter Tryz.func12,Tryz.ntmps12
 go_wp2_with fail
 obtain⟨WR,hWR⟩:∃ WR,((w.alloc (.cells #[.int .u8 x0,.int .u8 x1,.int .u8 x2,.int .u8 x3] 23)).alloc (.cells #[.int .i64 0,.int .i64 0,.int .i64 0,.int .i64 0] 27))=WR:=⟨_,rfl⟩
 have hX:WR.heap[w.heap.size]? = some (.cells #[.int .u8 x0,.int .u8 x1,.int .u8 x2,.int .u8 x3] 23 (0,0)):=by rw [←hWR];exact (Below.heap_alloc _ _ _ (by simp)).trans (heap_alloc_new _ _)
 have hY:WR.heap[w.heap.size+1]? = some (.cells #[.int .i64 0,.int .i64 0,.int .i64 0,.int .i64 0] 27 (0,0)):=by rw [←hWR,←World.size_alloc w (.cells #[.int .u8 x0,.int .u8 x1,.int .u8 x2,.int .u8 x3] 23)];exact heap_alloc_new _ _
 have hBW:Below w.heap.size w WR:=by rw [←hWR];exact ((Below.refl _ w).alloc (Nat.le_refl _) _).alloc (by simp) _
 rw [hWR]
 clear hWR
 have HY:=Lib.hid hY
 obtain⟨a0,a1,a2,a3⟩:=cellsQ4 hX
 obtain⟨b0,b1,b2,b3⟩:=cellsQ4 hY
 have f0:=frozen_of_row WR _ 0 _ _ hY
 have f1:=frozen_of_row WR _ 1 _ _ hY
 have f2:=frozen_of_row WR _ 2 _ _ hY
 have f3:=frozen_of_row WR _ 3 _ _ hY
 have A0:WR.drew.cell? ⟨w.heap.size,0,none⟩=some (.int .u8 x0):=a0
 have A1:WR.drew.cell? ⟨w.heap.size,1,none⟩=some (.int .u8 x1):=a1
 have A2:WR.drew.cell? ⟨w.heap.size,2,none⟩=some (.int .u8 x2):=a2
 have A3:WR.drew.cell? ⟨w.heap.size,3,none⟩=some (.int .u8 x3):=a3
 clear hX hY
 go_region_held (fun w'=>w'.cell? ⟨w.heap.size,0,none⟩=some (.int .u8 x0)∧w'.cell? ⟨w.heap.size,1,none⟩=some (.int .u8 x1)∧w'.cell? ⟨w.heap.size,2,none⟩=some (.int .u8 x2)∧w'.cell? ⟨w.heap.size,3,none⟩=some (.int .u8 x3)) (first | exact⟨A0,A1,A2,A3⟩ | (refine⟨set4_cell ?_ ?_,set4_cell ?_ ?_,set4_cell ?_ ?_,set4_cell ?_ ?_⟩<;>first | assumption | (dsimp only;omega)) | go_keep) (fail)
 all_goals go_wp2_with fail
 all_goals
  obtain⟨hs1,hs2⟩:=set4 HY.out (.int .i64 (IntKind.i64.wrap (4+(IntKind.i64.wrap x0).tmod 2))) (.int .i64 0) (.int .i64 0) (.int .i64 0)
  refine bodyPost_ret (results_obj4 rfl _ _ (w.heap.size+1) _ _ _ _ hs1 rfl) rfl ?_
  have e0:IntKind.i64.wrap (4+(IntKind.i64.wrap x0).tmod 2)=4+x0 % 2:=by
   have e:IntKind.i64.wrap x0=x0:=by rw [IntKind.wrap_i64];omega
   rw [e,Int.tmod_eq_emod_of_nonneg h0.1,IntKind.wrap_i64]
   omega
  have e1:=case_wrap x1 4 h1 (by decide)
  have e2:=case_wrap x2 3 h2 (by decide)
  have e3:=case_wrap x3 4 h3 (by decide)
  refine⟨?_,hBW.trans (bl_drew (below_of_only hs2 (by omega) hBW.size))⟩
  rw [←e0,←e1,←e2,←e3]
  rfl
theorem truth_any(w:World):Calls Tryz.prog 35 #[.bool true] w fun e w'=>e=.returned (.int .i64 1)∧w'=w:=by
 go_enter Tryz.func35,Tryz.ntmps35
 go_wp2_with fail
 go_ret
 exact⟨rfl,rfl⟩

theorem awake16_any(w:World)(TI:TabI w)(TO:TabO w):Calls Tryz.prog 11 #[] w fun e w'=>e=.returned (.bool true)∧Below w.heap.size w w':=by
 have hc:=fun w TI TO=>codeMcsIn_any w TI TO 0 0 0 0 1 2 16 (by decide) (by omega) (by omega) (by omega)
 go_enter Tryz.func11,Tryz.ntmps11
 go_wp2_with fail
 refine (hc w TI TO).mono ?_;rintro e w1 ⟨⟨v,rfl,hv⟩,hb1⟩
 have h9:(resL (linMcsIn 16 2 1)).length=18:=rfl
 rw [h9] at hv
 have hR:=Rd.of_own hv
 obtain⟨A,cap,rfl⟩:=hR.form
 obtain⟨b1,o1,rfl,hlt1,c0,c1,c2,c3,c4⟩:=ins_cells (i:=17) (x:=⟨1,7,0,0,0⟩) hR rfl (by decide)
 have x0:w1.cell? ⟨b1,o1+85,none⟩=some (.int .i64 1):=c0
 have x1:w1.cell? ⟨b1,o1+85+1,none⟩=some (.int .i64 7):=c1
 have x2:w1.cell? ⟨b1,o1+85+2,none⟩=some (.int .i64 0):=c2
 have x3:w1.cell? ⟨b1,o1+85+3,none⟩=some (.int .i64 0):=c3
 have x4:w1.cell? ⟨b1,o1+85+4,none⟩=some (.int .u32 0):=c4
 clear c0 c1 c2 c3 c4
 clear hR hv h9 hc
 go_wp2_with fail
 go_ret
 exact⟨rfl,hb1⟩

theorem maker16_any(w:World)(k n a b th:Int):Calls Tryz.prog 14 #[.agg #[.int .i64 k,.int .i64 n,.int .i64 a,.int .i64 b],.int .i64 th] w fun e w'=>e=.returned (.func (.func 37) #[] #[.pointer (some ⟨w.heap.size,0,none⟩),.pointer (some ⟨w.heap.size+1,0,none⟩)])∧w'=(w.alloc (.cells #[.int .i64 k,.int .i64 n,.int .i64 a,.int .i64 b] 27)).alloc (.cells #[.int .i64 th] 3):=by
 go_enter Tryz.func14,Tryz.ntmps14
 go_wp2_with fail
 go_ret
 exact⟨rfl,rfl⟩
theorem maker16_1(W:World)(k n a b th c t:Int)(bo bt:Nat)(l:List Ins)(ho:W.heap[bo]? = some (.cells #[.int .i64 k,.int .i64 n,.int .i64 a,.int .i64 b] 27 (0,0)))(ht:W.heap[bt]? = some (.cells #[.int .i64 th] 3 (0,0)))
  (hc:Calls Tryz.prog 34 #[.agg #[.int .i64 k,.int .i64 n,.int .i64 a,.int .i64 b],.int .i64 c,.int .i64 th,.int .i64 t,.int .u32 16,.int .u32 0] W (CodeIs W l)):
  Calls Tryz.prog 37 #[.int .i64 c,.int .i64 t,.pointer (some ⟨bo,0,none⟩),.pointer (some ⟨bt,0,none⟩)] W (CodeIs W l):=by
 obtain⟨a0,a1,a2,a3⟩:=cellsQ4 ho
 have b0:W.cell? ⟨bt,0,none⟩=some (.int .i64 th):=cell_of_row W bt 0 _ _ _ ht
 clear ho ht
 go_enter Tryz.func37,Tryz.ntmps37
 go_wp2_with (go_at_call 34;refine hc.mono ?_;rintro r w1 ⟨⟨v,rfl,hv⟩,hb⟩)
 go_ret2
 exact⟨⟨_,rfl,hv⟩,hb⟩
def quF(k T t:Nat):List Ln:=if k=4 then linMcsIn 16 T t else linClhIn 16 T t
def quG(k T t:Nat):List Ln:=if k=4 then linMcsOut 16 T t else linClhOut 16 T t
def quM(k T:Nat):List Int:=if k=4 then List.replicate (2+2*T) 0 else clhMem T
theorem short_qu:∀ (k:Fin 2) (T:Fin 5) (t:Fin 4),shortL (resL (quF (k+4) T t))=true∧shortL (resL (quG (k+4) T t))=true:=by decide +kernel
theorem fine_qu:∀ (k:Fin 2) (T:Fin 5) (r t:Fin 4),fineL (roundsR (resL (quF (k+4) T t)) (resL (quG (k+4) T t)) (r+1) [])=true:=by decide +kernel
theorem mem_qu:∀ (k:Fin 2) (T:Fin 5),0 < (quM (k+4) T).length∧(quM (k+4) T).length≤500∧∀ v∈quM (k+4) T,wd v=true:=by decide +kernel
theorem k_finq{k:Nat}(h:k=4∨k=5):∃ q:Fin 2,k=q+4:=by
 rcases h with rfl | rfl
 ·exact⟨0,rfl⟩
 ·exact⟨1,rfl⟩
theorem qu1(w:World)(TI:TabI w)(TO:TabO w)(k T t:Nat)(hk:k=4∨k=5)(hT:T≤4)(ht:t < T)(bo bt:Nat)(ho:w.heap[bo]? = some (.cells #[.int .i64 (k:Int),.int .i64 0,.int .i64 0,.int .i64 0] 27 (0,0)))(hbt:w.heap[bt]? = some (.cells #[.int .i64 (T:Int)] 3 (0,0)))(W':World)(hW:Below w.heap.size w W'):
  Calls Tryz.prog 37 #[.int .i64 1,.int .i64 (t:Int),.pointer (some ⟨bo,0,none⟩),.pointer (some ⟨bt,0,none⟩)] W' (CodeIs W' (lim (quF k T) t)):=by
 have k1:=(hW.block bo (Array.getElem?_eq_some_iff.1 ho).1).trans ho
 have k2:=(hW.block bt (Array.getElem?_eq_some_iff.1 hbt).1).trans hbt
 rw [lim_eq _ (by omega)]
 rcases hk with rfl | rfl
 ·have hR:RightP 4 0 0 0 T:=by unfold RightP;omega
  exact maker16_1 W' 4 0 0 0 T 1 t bo bt _ k1 k2 (codeMcsIn_any W' (TI.below hW (Nat.le_refl _)) (TO.below hW (Nat.le_refl _)) 0 0 0 0 t T 16 ⟨hR,by omega,by omega,by decide⟩ (by omega) (by omega) (by omega))
 ·have hR:RightP 5 0 0 0 T:=by unfold RightP;omega
  exact maker16_1 W' 5 0 0 0 T 1 t bo bt _ k1 k2 (codeClhIn_any W' (TI.below hW (Nat.le_refl _)) (TO.below hW (Nat.le_refl _)) 0 0 0 0 t T 16 ⟨hR,by omega,by omega,by decide⟩ (by omega) (by omega) (by omega))
theorem qu2(w:World)(TI:TabI w)(TO:TabO w)(k T t:Nat)(hk:k=4∨k=5)(hT:T≤4)(ht:t < T)(bo bt:Nat)(ho:w.heap[bo]? = some (.cells #[.int .i64 (k:Int),.int .i64 0,.int .i64 0,.int .i64 0] 27 (0,0)))(hbt:w.heap[bt]? = some (.cells #[.int .i64 (T:Int)] 3 (0,0)))(W':World)(hW:Below w.heap.size w W'):
  Calls Tryz.prog 37 #[.int .i64 2,.int .i64 (t:Int),.pointer (some ⟨bo,0,none⟩),.pointer (some ⟨bt,0,none⟩)] W' (CodeIs W' (lim (quG k T) t)):=by
 have k1:=(hW.block bo (Array.getElem?_eq_some_iff.1 ho).1).trans ho
 have k2:=(hW.block bt (Array.getElem?_eq_some_iff.1 hbt).1).trans hbt
 rw [lim_eq _ (by omega)]
 rcases hk with rfl | rfl
 ·have hR:RightP 4 0 0 0 T:=by unfold RightP;omega
  exact maker16_1 W' 4 0 0 0 T 2 t bo bt _ k1 k2 (codeMcsOut_any W' (TI.below hW (Nat.le_refl _)) (TO.below hW (Nat.le_refl _)) 0 0 0 0 t T 16 ⟨hR,by omega,by omega,by decide⟩ (by omega) (by omega) (by omega))
 ·have hR:RightP 5 0 0 0 T:=by unfold RightP;omega
  exact maker16_1 W' 5 0 0 0 T 2 t bo bt _ k1 k2 (codeClhOut_any W' (TI.below hW (Nat.le_refl _)) (TO.below hW (Nat.le_refl _)) 0 0 0 0 t T 16 ⟨hR,by omega,by omega,by decide⟩ (by omega) (by omega) (by omega))
theorem quFirst(w:World)(TO:TabO w)(k T:Nat)(hk:k=4∨k=5)(hT:1≤T∧T≤4)(W:World)(hW:Below w.heap.size w W):Calls Tryz.prog 42 #[.agg #[.int .i64 (k:Int),.int .i64 0,.int .i64 0,.int .i64 0],.int .i64 (T:Int)] W (FirstOk W (quM k T)):=by
 have to_:=TO.below hW (Nat.le_refl _)
 rcases (show T=1∨T=2∨T=3∨T=4 by omega) with rfl | rfl | rfl | rfl<;>rcases hk with rfl | rfl
 ·exact first_4_1 W to_ 0 0 0 (by unfold RightP;omega)
 ·exact first_5_1 W to_ 0 0 0 (by unfold RightP;omega)
 ·exact first_4_2 W to_ 0 0 0 (by unfold RightP;omega)
 ·exact first_5_2 W to_ 0 0 0 (by unfold RightP;omega)
 ·exact first_4_3 W to_ 0 0 0 (by unfold RightP;omega)
 ·exact first_5_3 W to_ 0 0 0 (by unfold RightP;omega)
 ·exact first_4_4 W to_ 0 0 0 (by unfold RightP;omega)
 ·exact first_5_4 W to_ 0 0 0 (by unfold RightP;omega)
end Go.Proofs.YtckmkaeopnnbbaaGreatDoor.As.T
