/- What the laws of the package bias share: awake,object,maker,codes. -/
import Derived.Test.YtckmkaeopnnbbaaGreatDoorTqG
import Derived.Test.YtckmkaeopnnbbaaGreatDoorGd
import Derived.Test.YtckmkaeopnnbbaaGreatDoorBiasC
import Derived.Deep.RegionHeld
import Derived.StillTailTactics
import Derived.Shelf.Abstract
set_option linter.unusedVariables false
set_option linter.unusedSimpArgs false
namespace Go.Proofs.YtckmkaeopnnbbaaGreatDoor.As.T
open Go.RowKit

theorem at_new{W:World}{g:Nat}{o:Obj}(h:g=W.heap.size):(W.alloc o).heap[g]? = some o:=by subst h;exact heap_alloc_new _ _
theorem at_alloc{W:World}{g:Nat}{o X:Obj}(h:W.heap[g]? = some o):(W.alloc X).heap[g]? = some o:=(Below.heap_alloc _ _ _ (Array.getElem?_eq_some_iff.1 h).1).trans h
theorem set4_cell{w:World}{R:Nat}{a:Addr}{v v0 v1 v2 v3:Value}(h:w.cell? a=some v)(hne:a.block≠R):
  ((((w.setCell ⟨R,0,none⟩ v0).setCell ⟨R,1,none⟩ v1).setCell ⟨R,2,none⟩ v2).setCell ⟨R,3,none⟩ v3).cell? a=some v:=by
 have e:∀ (W:World) (j:Nat) (v:Value),(W.setCell ⟨R,j,none⟩ v).heap[a.block]? = W.heap[a.block]? := fun W j v=>heap_setCell_other W ⟨R,j,none⟩ a.block v hne
 refine (World.cell?_of_block (w:=w) (a:=a) ?_).trans h
 rw [e,e,e,e]
theorem set4{w:World}{R:Nat}{o0 o1 o2 o3:Value}{t:TypeId}(h:w.heap[R]? = some (.cells #[o0,o1,o2,o3] t (0,0)))(v0 v1 v2 v3:Value):
  ((((w.setCell ⟨R,0,none⟩ v0).setCell ⟨R,1,none⟩ v1).setCell ⟨R,2,none⟩ v2).setCell ⟨R,3,none⟩ v3).heap[R]? = some (.cells #[v0,v1,v2,v3] t (0,0))∧Only (fun k=>k=R) w ((((w.setCell ⟨R,0,none⟩ v0).setCell ⟨R,1,none⟩ v1).setCell ⟨R,2,none⟩ v2).setCell ⟨R,3,none⟩ v3):=
 ⟨(heap_setCell_same _ R 3 _ t _ (heap_setCell_same _ R 2 _ t _ (heap_setCell_same _ R 1 _ t _ (heap_setCell_same _ R 0 _ t _ h)))).trans (by simp),Only.set1 (F:=fun k=>k=R) (p:=⟨R,3,none⟩) (Only.set1 (F:=fun k=>k=R) (p:=⟨R,2,none⟩) (Only.set1 (F:=fun k=>k=R) (p:=⟨R,1,none⟩) (Only.set1 (F:=fun k=>k=R) (p:=⟨R,0,none⟩) (Only.refl _ w) rfl _) rfl _) rfl _) rfl _⟩
theorem results_obj4{fn:Func}{p u1 u2 u3:Tmp}(h:fn.results=#[.cell p 27,.tmp u1,.tmp u2,.tmp u3])(tmps:Array Value)(w:World)(R:Nat)(a b c d:Value)(hb:w.heap[R]? = some (.cells #[a,b,c,d] 27 (0,0)))(hp:tmps.getD p undef=.pointer (some ⟨R,0,none⟩)):
  (results fn tmps).run Tryz.prog w=.ok (.tuple #[.agg #[a,b,c,d],tmps.getD u1 undef,tmps.getD u2 undef,tmps.getD u3 undef]) w:=by
 have hl:=run_loadVar_row (P := Tryz.prog) w R 27 27 _ _ _ hb Tryz.underlying27 rfl (by kernel_rfl)
 simp only [Array.getD_eq_getD_getElem?] at hp
 simp [results,h,hp,asAddr,hl]
theorem cellsQ4{w:World}{g:Nat}{a b c d:Value}{t:TypeId}(hx:w.heap[g]? = some (.cells #[a,b,c,d] t (0,0))):
  w.cell? ⟨g,0,none⟩=some a∧w.cell? ⟨g,1,none⟩=some b∧w.cell? ⟨g,2,none⟩=some c∧w.cell? ⟨g,3,none⟩=some d:=
 ⟨cell_of_row w g 0 _ _ _ hx,cell_of_row w g 1 _ _ _ hx,cell_of_row w g 2 _ _ _ hx,cell_of_row w g 3 _ _ _ hx⟩
theorem case_wrap(x:Int)(n:Int)(h:0≤x∧x≤255)(hn:0 < n∧n≤10):IntKind.i64.wrap (1+(IntKind.i64.wrap x).tmod n)=1+x % n:=by
 have e:IntKind.i64.wrap x=x:=by rw [IntKind.wrap_i64];omega
 have m1:=Int.emod_nonneg x (by omega:n≠0)
 have m2:=Int.emod_lt_of_pos x hn.1
 rw [e,Int.tmod_eq_emod_of_nonneg h.1,IntKind.wrap_i64]
 omega
theorem below_of_only{R B:Nat}{a w:World}(h:Only (fun k=>k=R) a w)(hB:B≤R)(hs:B≤a.heap.size):Below B a w:=⟨h.os,h.tape,h.output,h.size,fun k hk=>h.block k (by omega) (by omega)⟩
theorem ins_cells{w:World}{A:Option Addr}{n cap i:Nat}{l:List Ins}{x:Ins}(h:Rd w 5 (.slice A n cap) n (flat l))(hx:l[i]? = some x)(hn:0 < n):
  ∃ b off,A=some ⟨b,off,none⟩∧b < w.heap.size∧w.cell? ⟨b,off+i*5,none⟩=some (.int .i64 x.op)∧w.cell? ⟨b,off+i*5+1,none⟩=some (.int .i64 x.a)∧w.cell? ⟨b,off+i*5+2,none⟩=some (.int .i64 x.b)∧w.cell? ⟨b,off+i*5+3,none⟩=some (.int .i64 x.c)∧w.cell? ⟨b,off+i*5+4,none⟩=some (.int .u32 x.k):=by
 obtain⟨b,off,e,hb,hc⟩:=h.cells hn
 have g:=fun j hj=>flat_get l i x hx j hj
 exact⟨b,off,e,hb,hc _ _ (g 0 (by decide)),hc _ _ (g 1 (by decide)),hc _ _ (g 2 (by decide)),hc _ _ (g 3 (by decide)),hc _ _ (g 4 (by decide))⟩
set_option maxRecDepth 100000 in
set_option maxHeartbeats 8000000 in
theorem object18(w:World)(x0 x1 x2 x3:Int)(h0:0≤x0∧x0≤255)(h1:0≤x1∧x1≤255)(h2:0≤x2∧x2≤255)(h3:0≤x3∧x3≤255):
  Calls Tryz.prog 31 #[.agg #[.int .u8 x0,.int .u8 x1,.int .u8 x2,.int .u8 x3]] w fun e w'=>e=.returned (.tuple #[.agg #[.int .i64 8,.int .i64 0,.int .i64 (x0 % (1+x1 % 4)),.int .i64 0],.int .i64 (1+x1 % 4),.int .i64 (1+x2 % 4),.int .i64 (1+x3 % 5)])∧Below w.heap.size w w':=by
 go_enter Tryz.func31,Tryz.ntmps31
 go_wp2_with fail
 obtain⟨WR,hWR⟩:∃ WR,((w.alloc (.cells #[.int .u8 x0,.int .u8 x1,.int .u8 x2,.int .u8 x3] 70)).alloc (.cells #[.int .i64 0,.int .i64 0,.int .i64 0,.int .i64 0] 27))=WR:=⟨_,rfl⟩
 have hX:WR.heap[w.heap.size]? = some (.cells #[.int .u8 x0,.int .u8 x1,.int .u8 x2,.int .u8 x3] 70 (0,0)):=by rw [←hWR];exact (Below.heap_alloc _ _ _ (by simp)).trans (heap_alloc_new _ _)
 have hY:WR.heap[w.heap.size+1]? = some (.cells #[.int .i64 0,.int .i64 0,.int .i64 0,.int .i64 0] 27 (0,0)):=by rw [←hWR,←World.size_alloc w (.cells #[.int .u8 x0,.int .u8 x1,.int .u8 x2,.int .u8 x3] 70)];exact heap_alloc_new _ _
 have hBW:Below w.heap.size w WR:=by rw [←hWR];exact ((Below.refl _ w).alloc (Nat.le_refl _) _).alloc (by simp) _
 rw [hWR]
 clear hWR
 have HY:=Lib.hid hY
 obtain⟨a0,a1,a2,a3⟩:=cellsQ4 hX
 obtain⟨b0,b1,b2,b3⟩:=cellsQ4 hY
 have f0:=frozen_of_row WR _ 0 _ _ hY
 have f1:=frozen_of_row WR _ 1 _ _ hY
 have f2:=frozen_of_row WR _ 2 _ _ hY
 have f3:=frozen_of_row WR _ 3 _ _ hY
 have A0:WR.drew.cell? ⟨w.heap.size,0,none⟩=some (.int .u8 x0):=a0
 have A1:WR.drew.cell? ⟨w.heap.size,1,none⟩=some (.int .u8 x1):=a1
 have A2:WR.drew.cell? ⟨w.heap.size,2,none⟩=some (.int .u8 x2):=a2
 have A3:WR.drew.cell? ⟨w.heap.size,3,none⟩=some (.int .u8 x3):=a3
 clear hX hY
 go_region_held (fun w'=>w'.cell? ⟨w.heap.size,0,none⟩=some (.int .u8 x0)∧w'.cell? ⟨w.heap.size,1,none⟩=some (.int .u8 x1)∧w'.cell? ⟨w.heap.size,2,none⟩=some (.int .u8 x2)∧w'.cell? ⟨w.heap.size,3,none⟩=some (.int .u8 x3)) (first | exact⟨A0,A1,A2,A3⟩ | (refine⟨set4_cell ?_ ?_,set4_cell ?_ ?_,set4_cell ?_ ?_,set4_cell ?_ ?_⟩<;>first | assumption | (dsimp only;omega)) | go_keep) (fail)
 all_goals go_wp2_with fail
 all_goals
  obtain⟨hs1,hs2⟩:=set4 HY.out (.int .i64 8) (.int .i64 0) (.int .i64 (x0 % (1+x1 % 4))) (.int .i64 0)
  refine bodyPost_ret (results_obj4 rfl _ _ (w.heap.size+1) _ _ _ _ hs1 rfl) rfl ?_
  exact⟨rfl,hBW.trans (bl_drew (below_of_only hs2 (by omega) hBW.size))⟩
theorem truth_any(w:World):Calls Tryz.prog 35 #[.bool true] w fun e w'=>e=.returned (.int .i64 1)∧w'=w:=by
 go_enter Tryz.func35,Tryz.ntmps35
 go_wp2_with fail
 go_ret
 exact⟨rfl,rfl⟩

theorem awake18_any(w:World)(TI:TabI w)(TO:TabO w):Calls Tryz.prog 30 #[] w fun e w'=>e=.returned (.bool true)∧Below w.heap.size w w':=by
 have hc:=fun w TI TO=>codeBiasOut_any w TI TO 0 0 0 2 0 1 16 (by decide) (by omega) (by omega) (by decide)
 go_enter Tryz.func30,Tryz.ntmps30
 go_wp2_with fail
 refine (hc w TI TO).mono ?_;rintro e w1 ⟨⟨v,rfl,hv⟩,hb1⟩
 have h9:(resL (linBiasOut 16 1)).length=11:=rfl
 rw [h9] at hv
 have hR:=Rd.of_own hv
 obtain⟨A,cap,rfl⟩:=hR.form
 clear hR hv h9 hc
 go_wp2_with fail
 go_ret
 exact⟨rfl,hb1⟩

theorem maker18_any(w:World)(k n a b th:Int):Calls Tryz.prog 33 #[.agg #[.int .i64 k,.int .i64 n,.int .i64 a,.int .i64 b],.int .i64 th] w fun e w'=>e=.returned (.func (.func 59) #[] #[.pointer (some ⟨w.heap.size,0,none⟩),.pointer (some ⟨w.heap.size+1,0,none⟩)])∧w'=(w.alloc (.cells #[.int .i64 k,.int .i64 n,.int .i64 a,.int .i64 b] 27)).alloc (.cells #[.int .i64 th] 3):=by
 go_enter Tryz.func33,Tryz.ntmps33
 go_wp2_with fail
 go_ret
 exact⟨rfl,rfl⟩
theorem maker18_1(W:World)(k n a b th c t:Int)(bo bt:Nat)(l:List Ins)(ho:W.heap[bo]? = some (.cells #[.int .i64 k,.int .i64 n,.int .i64 a,.int .i64 b] 27 (0,0)))(ht:W.heap[bt]? = some (.cells #[.int .i64 th] 3 (0,0)))
  (hc:Calls Tryz.prog 58 #[.agg #[.int .i64 k,.int .i64 n,.int .i64 a,.int .i64 b],.int .i64 c,.int .i64 th,.int .i64 t,.int .u32 16,.int .u32 0] W (CodeIs W l)):
  Calls Tryz.prog 59 #[.int .i64 c,.int .i64 t,.pointer (some ⟨bo,0,none⟩),.pointer (some ⟨bt,0,none⟩)] W (CodeIs W l):=by
 obtain⟨a0,a1,a2,a3⟩:=cellsQ4 ho
 have b0:W.cell? ⟨bt,0,none⟩=some (.int .i64 th):=cell_of_row W bt 0 _ _ _ ht
 clear ho ht
 go_enter Tryz.func59,Tryz.ntmps59
 go_wp2_with (go_at_call 58;refine hc.mono ?_;rintro r w1 ⟨⟨v,rfl,hv⟩,hb⟩)
 go_ret2
 exact⟨⟨_,rfl,hv⟩,hb⟩
def biF(A t:Nat):List Ln:=if t=A then linBiasOwn 16 t else linBiasOther 16 t
def biG(A t:Nat):List Ln:=if t=A then linBiasLeave 16 t else linBiasOut 16 t
theorem short_biF:∀ A t:Fin 4,shortL (resL (biF A t))=true:=by decide +kernel
theorem short_biG:∀ A t:Fin 4,shortL (resL (biG A t))=true:=by decide +kernel
theorem fine_bi:∀ (A:Fin 4) (r:Fin 4) (t:Fin 4),fineL (roundsR (resL (biF A t)) (resL (biG A t)) (r+1) [])=true:=by decide +kernel
theorem biA(w:World)(TI:TabI w)(TO:TabO w)(A T t:Nat)(hA:A < T)(hT:T≤4)(ht:t < T)(bo bt:Nat)(ho:w.heap[bo]? = some (.cells #[.int .i64 8,.int .i64 0,.int .i64 (A:Int),.int .i64 0] 27 (0,0)))(hbt:w.heap[bt]? = some (.cells #[.int .i64 (T:Int)] 3 (0,0)))(W':World)(hW:Below w.heap.size w W'):
  Calls Tryz.prog 59 #[.int .i64 1,.int .i64 (t:Int),.pointer (some ⟨bo,0,none⟩),.pointer (some ⟨bt,0,none⟩)] W' (CodeIs W' (lim (biF A) t)):=by
 have hR:RightP 8 0 A 0 T:=by unfold RightP;omega
 have hA1:AskP 8 0 A 0 1 T t:=⟨hR,by omega,by omega,by decide⟩
 have k1:=(hW.block bo (Array.getElem?_eq_some_iff.1 ho).1).trans ho
 have k2:=(hW.block bt (Array.getElem?_eq_some_iff.1 hbt).1).trans hbt
 rw [lim_eq _ (by omega)]
 unfold biF
 by_cases e:t=A
 ·rw [if_pos e];subst e
  exact maker18_1 W' 8 0 t 0 T 1 t bo bt _ k1 k2 (codeBiasOwn_any W' (TI.below hW (Nat.le_refl _)) (TO.below hW (Nat.le_refl _)) 0 0 T 0 t 16 hA1 (by omega) (by omega))
 ·rw [if_neg e]
  have he:((t:Int) == A)=false:=by simp;omega
  exact maker18_1 W' 8 0 A 0 T 1 t bo bt _ k1 k2 (codeBiasOther_any W' (TI.below hW (Nat.le_refl _)) (TO.below hW (Nat.le_refl _)) 0 A 0 T 0 t 16 hA1 (by omega) (by omega) he)
theorem biB(w:World)(TI:TabI w)(TO:TabO w)(A T t:Nat)(hA:A < T)(hT:T≤4)(ht:t < T)(bo bt:Nat)(ho:w.heap[bo]? = some (.cells #[.int .i64 8,.int .i64 0,.int .i64 (A:Int),.int .i64 0] 27 (0,0)))(hbt:w.heap[bt]? = some (.cells #[.int .i64 (T:Int)] 3 (0,0)))(W':World)(hW:Below w.heap.size w W'):
  Calls Tryz.prog 59 #[.int .i64 2,.int .i64 (t:Int),.pointer (some ⟨bo,0,none⟩),.pointer (some ⟨bt,0,none⟩)] W' (CodeIs W' (lim (biG A) t)):=by
 have hR:RightP 8 0 A 0 T:=by unfold RightP;omega
 have hA2:AskP 8 0 A 0 2 T t:=⟨hR,by omega,by omega,by decide⟩
 have k1:=(hW.block bo (Array.getElem?_eq_some_iff.1 ho).1).trans ho
 have k2:=(hW.block bt (Array.getElem?_eq_some_iff.1 hbt).1).trans hbt
 rw [lim_eq _ (by omega)]
 unfold biG
 by_cases e:t=A
 ·rw [if_pos e];subst e
  exact maker18_1 W' 8 0 t 0 T 2 t bo bt _ k1 k2 (codeBiasLeave_any W' (TI.below hW (Nat.le_refl _)) (TO.below hW (Nat.le_refl _)) 0 0 T 0 t 16 hA2 (by omega) (by omega))
 ·rw [if_neg e]
  have he:((t:Int) == A)=false:=by simp;omega
  exact maker18_1 W' 8 0 A 0 T 2 t bo bt _ k1 k2 (codeBiasOut_any W' (TI.below hW (Nat.le_refl _)) (TO.below hW (Nat.le_refl _)) 0 A 0 T 0 t 16 hA2 (by omega) (by omega) he)
theorem biFirst(w:World)(TO:TabO w)(A T:Nat)(hA:A < T)(hT:T≤4)(W:World)(hW:Below w.heap.size w W):Calls Tryz.prog 42 #[.agg #[.int .i64 8,.int .i64 0,.int .i64 (A:Int),.int .i64 0],.int .i64 (T:Int)] W (FirstOk W [0,0,0,0]):=
 first_8 W (TO.below hW (Nat.le_refl _)) 0 A 0 T (by unfold RightP;omega)
end Go.Proofs.YtckmkaeopnnbbaaGreatDoor.As.T
