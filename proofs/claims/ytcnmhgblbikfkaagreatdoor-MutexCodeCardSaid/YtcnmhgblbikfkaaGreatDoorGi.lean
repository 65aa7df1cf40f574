/- The walks of core.run.plain,by ways. The walk of core.run.plain on a machine tso: the operations of two words. The walks of core.run.plain,by ways. The walk of core.run.plain on a machine tso: a mark. -/
import Derived.Test.YtcnmhgblbikfkaaGreatDoorGh
import Derived.Test.YtcnmhgblbikfkaaGreatDoorGe
section
set_option linter.unusedVariables false
set_option linter.unusedSimpArgs false
set_option maxRecDepth 20000
namespace Go.Proofs.YtcnmhgblbikfkaaGreatDoor.As.T
open Go.RowKit

theorem aluNone_any(w:World)(a b:Int):Calls Tryz.prog 106 #[.int .i64 26,.int .u32 a,.int .u32 b] w fun e w'=>e=.returned (.tuple #[.int .u32 0,.bool false])∧Below w.heap.size w w':=by
 go_enter Tryz.func106,Tryz.ntmps106
 go_wp2
 go_ret2
 exact⟨rfl,Below.refl _ _⟩

set_option maxHeartbeats 4000000 in
theorem plain_set(Z:Nat→Prop)(w:World)(rb:Nat)(n:Int)(K:TsK)(tn:Nat)(s:Ts)(t:Th)(i:Ins)(ad:Int)(hR:RunB w rb n K.mb tn t i ad)(hM:TsM Z w K s)(hZ:Z rb)(hn:s.evs.length≤99999999999)(hop:i.op=1)(a:Nat)(ha:a < 8)(hia:i.a=a):
  Calls Tryz.prog 155 #[.pointer (some ⟨rb,0,none⟩)] w (RPost Z w rb n K tn i ad (t.put a i.k) (s)):=by
 have HM:=Lib.hid hM
 have HR:=Lib.hid hR
 have HZ:=Lib.hid hZ
 have hlt:=hR.lt
 obtain⟨c0,c9,c10,c11,c12,c13,c14,c15,c16,c17,c18,c19,c20,c21,c22,c23,c24,c25,c26⟩:=hR.cells
 rw [hop] at c10
 have hM1:=hM.alloc (.cells #[.int .i64 1,.int .i64 ((a:Nat):Int),.int .i64 i.b,.int .i64 i.c,.int .u32 i.k] 132)
 have hR1:=hR.alloc (.cells #[.int .i64 1,.int .i64 ((a:Nat):Int),.int .i64 i.b,.int .i64 i.c,.int .u32 i.k] 132)
 have HM1:=Lib.hid hM1
 have HR1:=Lib.hid hR1
 have y1:=hR1.reg a ha
 have y2:=hR1.frozen (1+a)
 have z1:=hR.reg a ha
 have z2:=hR.frozen (1+a)
 clear hR hM hZ hM1 hR1
 go_enter Tryz.func155,Tryz.ntmps155
 go_wp2_with fail
 go_region_with (go_at_call 172;refine (reg_run _ rb n K.mb tn t i ad (RunB.drew HR1.out) a ha hia).mono ?_;rintro r w1 ⟨rfl,m,hw1⟩;have hRx:RunB w1 rb n K.mb tn t i ad:=(by rw [hw1];exact RunB.drewN (RunB.drew HR1.out) m);have hMx:TsM Z w1 K s:=(by rw [hw1];exact TsM.drewN (TsM.drew HM1.out) m);have hOx:Only (fun k=>¬Z k∨k=rb) w w1:=(by rw [hw1];exact on_drewN (on_drew (on_alloc (Only.refl _ w) _)) _);have hix:w1.heap[w.heap.size]? = some (.cells #[.int .i64 1,.int .i64 ((a:Nat):Int),.int .i64 i.b,.int .i64 i.c,.int .u32 i.k] 132 (0,0)):=(by rw [hw1];exact heap_alloc_new _ _);have hi4:=cell_of_row w1 w.heap.size 4 _ _ _ hix;have hi2:=cell_of_row w1 w.heap.size 2 _ _ _ hix;have hrx:=hRx.reg a ha;  have hfx:=hRx.frozen (1+a);clear hw1 hix)
 all_goals (try go_wp2_with fail)
 all_goals go_end0
 all_goals exact⟨rfl,RunB.put hRx a ha _,TsM.runB hMx HZ.out _,Only.set1 (F:=fun k=>¬Z k∨k=rb) (p:=⟨rb,1+a,none⟩) hOx (.inr rfl) _⟩

set_option maxHeartbeats 4000000 in
theorem plain_move(Z:Nat→Prop)(w:World)(rb:Nat)(n:Int)(K:TsK)(tn:Nat)(s:Ts)(t:Th)(i:Ins)(ad:Int)(hR:RunB w rb n K.mb tn t i ad)(hM:TsM Z w K s)(hZ:Z rb)(hn:s.evs.length≤99999999999)(hop:i.op=2)(a:Nat)(ha:a < 8)(hia:i.a=a)(b:Nat)(hb:b < 8)(hib:i.b=b):
  Calls Tryz.prog 155 #[.pointer (some ⟨rb,0,none⟩)] w (RPost Z w rb n K tn i ad (t.put a (t.reg b)) (s)):=by
 have HM:=Lib.hid hM
 have HR:=Lib.hid hR
 have HZ:=Lib.hid hZ
 have hlt:=hR.lt
 obtain⟨c0,c9,c10,c11,c12,c13,c14,c15,c16,c17,c18,c19,c20,c21,c22,c23,c24,c25,c26⟩:=hR.cells
 rw [hop] at c10
 rw [hib] at c12
 have hM1:=hM.alloc (.cells #[.int .i64 2,.int .i64 ((a:Nat):Int),.int .i64 ((b:Nat):Int),.int .i64 i.c,.int .u32 i.k] 132)
 have hR1:=hR.alloc (.cells #[.int .i64 2,.int .i64 ((a:Nat):Int),.int .i64 ((b:Nat):Int),.int .i64 i.c,.int .u32 i.k] 132)
 have HM1:=Lib.hid hM1
 have HR1:=Lib.hid hR1
 have y1:=hR1.reg a ha
 have y2:=hR1.frozen (1+a)
 have z1:=hR.reg a ha
 have z2:=hR.frozen (1+a)
 have y3:=hR1.reg b hb
 have z3:=hR.reg b hb
 have b1:(b:Int) < 8:=by omega
 have b0':(0:Int)≤(b:Int):=by omega
 clear hR hM hZ hM1 hR1
 go_enter Tryz.func155,Tryz.ntmps155
 go_wp2_with fail
 go_region_with (go_at_call 172;refine (reg_run _ rb n K.mb tn t i ad (RunB.drew HR1.out) a ha hia).mono ?_;rintro r w1 ⟨rfl,m,hw1⟩;have hRx:RunB w1 rb n K.mb tn t i ad:=(by rw [hw1];exact RunB.drewN (RunB.drew HR1.out) m);have hMx:TsM Z w1 K s:=(by rw [hw1];exact TsM.drewN (TsM.drew HM1.out) m);have hOx:Only (fun k=>¬Z k∨k=rb) w w1:=(by rw [hw1];exact on_drewN (on_drew (on_alloc (Only.refl _ w) _)) _);have hix:w1.heap[w.heap.size]? = some (.cells #[.int .i64 2,.int .i64 ((a:Nat):Int),.int .i64 ((b:Nat):Int),.int .i64 i.c,.int .u32 i.k] 132 (0,0)):=(by rw [hw1];exact heap_alloc_new _ _);have hi4:=cell_of_row w1 w.heap.size 4 _ _ _ hix;have hi2:=cell_of_row w1 w.heap.size 2 _ _ _ hix;have hrx:=hRx.reg a ha;have hrb:=hRx.reg b hb;have hfx:=hRx.frozen (1+a);clear hw1 hix)
 all_goals (try go_wp2_with fail)
 all_goals go_end0
 all_goals exact⟨rfl,RunB.put hRx a ha _,TsM.runB hMx HZ.out _,Only.set1 (F:=fun k=>¬Z k∨k=rb) (p:=⟨rb,1+a,none⟩) hOx (.inr rfl) _⟩

set_option maxHeartbeats 4000000 in
theorem plain_fence(Z:Nat→Prop)(w:World)(rb:Nat)(n:Int)(K:TsK)(tn:Nat)(s:Ts)(t:Th)(i:Ins)(ad:Int)(hR:RunB w rb n K.mb tn t i ad)(hM:TsM Z w K s)(hZ:Z rb)(hn:s.evs.length≤99999999999)(hop:i.op=18):
  Calls Tryz.prog 155 #[.pointer (some ⟨rb,0,none⟩)] w (RPost Z w rb n K tn i ad (t) (s.note tn ⟨5,0,t.pc,ad,0,0,0,false⟩)):=by
 have HM:=Lib.hid hM
 have HR:=Lib.hid hR
 have HZ:=Lib.hid hZ
 have hlt:=hR.lt
 obtain⟨c0,c9,c10,c11,c12,c13,c14,c15,c16,c17,c18,c19,c20,c21,c22,c23,c24,c25,c26⟩:=hR.cells
 rw [hop] at c10
 have hM1:=hM.alloc (.cells #[.int .i64 18,.int .i64 i.a,.int .i64 i.b,.int .i64 i.c,.int .u32 i.k] 132)
 have hR1:=hR.alloc (.cells #[.int .i64 18,.int .i64 i.a,.int .i64 i.b,.int .i64 i.c,.int .u32 i.k] 132)
 have HM1:=Lib.hid hM1
 have HR1:=Lib.hid hR1
 clear hR hM hZ hM1 hR1
 go_enter Tryz.func155,Tryz.ntmps155
 go_wp2_with (go_at_call 171;refine (note_run Z _ rb n K tn s t i ad (HR1.out) (HM1.out) (by omega) ⟨5,0,0,0,0,0,0,false⟩).mono ?_;rintro r w2 ⟨rfl,hM2,hO2⟩)
 go_end0
 exact⟨rfl,RunB.only HR1.out hO2 (fun h=>h HZ.out),hM2,(on_alloc (Only.refl (fun k=>¬Z k∨k=rb) w) _).trans hO2 (fun k e=>.inl (.inl e))⟩

set_option maxHeartbeats 4000000 in
theorem plain_out(Z:Nat→Prop)(w:World)(rb:Nat)(n:Int)(K:TsK)(tn:Nat)(s:Ts)(t:Th)(i:Ins)(ad:Int)(hR:RunB w rb n K.mb tn t i ad)(hM:TsM Z w K s)(hZ:Z rb)(hn:s.evs.length≤99999999999)(hop:i.op=22)(a:Nat)(ha:a < 8)(hia:i.a=a):
  Calls Tryz.prog 155 #[.pointer (some ⟨rb,0,none⟩)] w (RPost Z w rb n K tn i ad (t) (s.note tn ⟨6,0,t.pc,ad,t.reg a,0,0,false⟩)):=by
 have HM:=Lib.hid hM
 have HR:=Lib.hid hR
 have HZ:=Lib.hid hZ
 have hlt:=hR.lt
 obtain⟨c0,c9,c10,c11,c12,c13,c14,c15,c16,c17,c18,c19,c20,c21,c22,c23,c24,c25,c26⟩:=hR.cells
 rw [hop] at c10
 have hM1:=hM.alloc (.cells #[.int .i64 22,.int .i64 ((a:Nat):Int),.int .i64 i.b,.int .i64 i.c,.int .u32 i.k] 132)
 have hR1:=hR.alloc (.cells #[.int .i64 22,.int .i64 ((a:Nat):Int),.int .i64 i.b,.int .i64 i.c,.int .u32 i.k] 132)
 have HM1:=Lib.hid hM1
 have HR1:=Lib.hid hR1
 have y1:=hR1.reg a ha
 have y2:=hR1.frozen (1+a)
 have z1:=hR.reg a ha
 have z2:=hR.frozen (1+a)
 clear hR hM hZ hM1 hR1
 go_enter Tryz.func155,Tryz.ntmps155
 go_wp2_with (first | (go_at_call 172;refine (reg_run _ rb n K.mb tn t i ad HR1.out a ha hia).mono ?_;rintro r w1 ⟨rfl,m,rfl⟩;have y5:((w.alloc (.cells #[.int .i64 22,.int .i64 ((a:Nat):Int),.int .i64 i.b,.int .i64 i.c,.int .u32 i.k] 132)).drewN m).cell? ⟨rb,1+a,none⟩=some (.int .u32 (t.reg a)):=y1) | (go_at_call 171;refine (note_run Z _ rb n K tn s t i ad (RunB.drewN HR1.out _) (TsM.keep HM1.out (F:=fun _=>False) ⟨rfl,rfl,rfl,Nat.le_refl _,fun _ _ _=>rfl⟩ (fun _ e=>e.elim)) (by omega) ⟨6,0,0,0,t.reg a,0,0,false⟩).mono ?_;rintro r w2 ⟨rfl,hM2,hO2⟩))
 go_end0
 exact⟨rfl,RunB.only (RunB.drewN HR1.out _) hO2 (fun h=>h HZ.out),hM2,(on_drewN (on_alloc (Only.refl (fun k=>¬Z k∨k=rb) w) _) _).trans hO2 (fun k e=>.inl (.inl e))⟩

end Go.Proofs.YtcnmhgblbikfkaaGreatDoor.As.T
end

section
set_option linter.unusedVariables false
set_option linter.unusedSimpArgs false
set_option maxRecDepth 20000
namespace Go.Proofs.YtcnmhgblbikfkaaGreatDoor.As.T
open Go.RowKit

set_option maxHeartbeats 8000000 in
theorem plain_alu(Z:Nat→Prop)(w:World)(rb:Nat)(n:Int)(K:TsK)(tn:Nat)(s:Ts)(t:Th)(i:Ins)(ad:Int)(hR:RunB w rb n K.mb tn t i ad)(hM:TsM Z w K s)(hZ:Z rb)(a:Nat)(ha:a < 8)(hia:i.a=a)(b:Nat)(hb:b < 8)(hib:i.b=b)(c:Nat)(hc:c < 8)(hic:i.c=c)
  (d1:(i.op == 1)=false) (d2:(i.op == 2)=false) (d3:(i.op == 18)=false) (d4:(i.op == 22)=false) (d5:(i.op == 27)=false) (d6:(i.op == 25)=false) (v:Int) (ok:Bool) (T':Th) (hT:T'=if ok=true then t.put a v else t)
  (hdo:∀ W,Calls Tryz.prog 106 #[.int .i64 i.op,.int .u32 (t.reg b),.int .u32 (t.reg c)] W fun e w'=>e=.returned (.tuple #[.int .u32 v,.bool ok])∧Below W.heap.size W w'):
  Calls Tryz.prog 155 #[.pointer (some ⟨rb,0,none⟩)] w (RPost Z w rb n K tn i ad T' s):=by
 have HM:=Lib.hid hM
 have HR:=Lib.hid hR
 have HZ:=Lib.hid hZ
 have HT':=Lib.hid hT
 clear hT
 obtain⟨c0,c9,c10,c11,c12,c13,c14,c15,c16,c17,c18,c19,c20,c21,c22,c23,c24,c25,c26⟩:=hR.cells
 rw [hia] at c11
 rw [hib] at c12
 rw [hic] at c13
 obtain⟨w1,hw1⟩:∃ W,w.alloc (.cells #[.int .i64 i.op,.int .i64 (a:Nat),.int .i64 (b:Nat),.int .i64 (c:Nat),.int .u32 i.k] 132)=W:=⟨_,rfl⟩
 have hi1:w1.heap[w.heap.size]? = some (.cells #[.int .i64 i.op,.int .i64 (a:Nat),.int .i64 (b:Nat),.int .i64 (c:Nat),.int .u32 i.k] 132 (0,0)):=by rw [←hw1];exact heap_alloc_new _ _
 have hB1:Below w.heap.size w w1:=by rw [←hw1];exact (Below.refl _ w).alloc (Nat.le_refl _) _
 have hR1:RunB w1 rb n K.mb tn t i ad:=hR.only (Only.of_below (F:=fun _=>False) hB1 (Nat.le_refl _)) (fun e=>e)
 have hM1:=hM.below hB1
 have lt:∀ {k:Nat} {o:Obj},w1.heap[k]? = some o→k < w1.heap.size:=fun hk=>(Array.getElem?_eq_some_iff.1 hk).1
 have e0:∀ W,Below w1.heap.size w1 W→W.cell? ⟨w.heap.size,0,none⟩=some (.int .i64 i.op):=fun W hW=>cell_of_row _ _ 0 _ _ _ (up_bl hW (lt hi1) hi1)
 have e2:∀ W,Below w1.heap.size w1 W→W.cell? ⟨w.heap.size,2,none⟩=some (.int .i64 (b:Nat)):=fun W hW=>cell_of_row _ _ 2 _ _ _ (up_bl hW (lt hi1) hi1)
 have e3:∀ W,Below w1.heap.size w1 W→W.cell? ⟨w.heap.size,3,none⟩=some (.int .i64 (c:Nat)):=fun W hW=>cell_of_row _ _ 3 _ _ _ (up_bl hW (lt hi1) hi1)
 have rR:∀ W,Below w1.heap.size w1 W→RunB W rb n K.mb tn t i ad:=fun W hW=>hR1.only (Only.of_below (F:=fun _=>False) hW (Nat.le_refl _)) (fun e=>e)
 have rbc:∀ W,Below w1.heap.size w1 W→W.cell? ⟨rb,1+b,none⟩=some (.int .u32 (t.reg b)):=fun W hW=>(rR W hW).reg b hb
 have rcc:∀ W,Below w1.heap.size w1 W→W.cell? ⟨rb,1+c,none⟩=some (.int .u32 (t.reg c)):=fun W hW=>(rR W hW).reg c hc
 have b0:Below w1.heap.size w1 w1.drew:=bl_drw (Below.refl _ _)
 have hbi:(b:Int) < 8:=by omega
 have hci:(c:Int) < 8:=by omega
 have HRR:=Lib.hid rR
 have HB1:=Lib.hid hB1
 have HM1:=Lib.hid hM1
 have HW1:=Lib.hid hw1
 have HI1:=Lib.hid hi1
 have HDO:=Lib.hid hdo
 clear hw1 hi1 hB1 hR1 hM1 rR lt hR hM hZ hdo
 go_enter Tryz.func155,Tryz.ntmps155
 go_wp2_with fail
 rw [HW1.out]
 clear HW1
 refine wp_region_g (fun W=>Below w1.heap.size w1 W) 99 (by kernel_rfl) ?_
 refine AnyG_take (i:=0) (oi:=_) (v:=?_) rfl (by kernel_rfl) (fun _ _ _ h=>h) (Or.inl ⟨by rfl,?_⟩) b0 ?_
 rotate_left
 ·intro W hSw;(try dsimp only at hSw);go_simp;first | done | with_reducible rfl
 simp only [Act.put,List.getElem_toArray,List.getElem_cons_zero,List.getElem_cons_succ,List.setIfInBounds_toArray,List.set_cons_zero,List.set_cons_succ]
 refine AnyG_take (i:=1) (oi:=_) (v:=?_) rfl (by kernel_rfl) (fun _ _ _ h=>h) (Or.inl ⟨by rfl,?_⟩) b0 ?_
 rotate_left
 ·intro W hSw;(try dsimp only at hSw);go_simp;first | done | with_reducible rfl
 simp only [Act.put,List.getElem_toArray,List.getElem_cons_zero,List.getElem_cons_succ,List.setIfInBounds_toArray,List.set_cons_zero,List.set_cons_succ]
 refine AnyG_take (i:=2) (oi:=_) (v:=?_) rfl (by kernel_rfl) (fun _ _ _ h=>h) (Or.inl ⟨by rfl,?_⟩) b0 ?_
 rotate_left
 ·intro W hSw;(try dsimp only at hSw);go_simp;first | done | with_reducible rfl
 simp only [Act.put,List.getElem_toArray,List.getElem_cons_zero,List.getElem_cons_succ,List.setIfInBounds_toArray,List.set_cons_zero,List.set_cons_succ]
 refine AnyG_take (i:=3) (oi:=_) (v:=?_) rfl (by kernel_rfl) (fun _ _ _ h=>h) (Or.inl ⟨by rfl,?_⟩) b0 ?_
 rotate_left
 ·intro W hSw;(try dsimp only at hSw);go_simp;first | done | with_reducible rfl
 simp only [Act.put,List.getElem_toArray,List.getElem_cons_zero,List.getElem_cons_succ,List.setIfInBounds_toArray,List.set_cons_zero,List.set_cons_succ]
 refine AnyG_take (i:=4) (oi:=_) (v:=?_) rfl (by kernel_rfl) (fun _ _ _ h=>h) (Or.inl ⟨by rfl,?_⟩) b0 ?_
 rotate_left
 ·intro W hSw;(try dsimp only at hSw);go_simp;first | done | with_reducible rfl
 simp only [Act.put,List.getElem_toArray,List.getElem_cons_zero,List.getElem_cons_succ,List.setIfInBounds_toArray,List.set_cons_zero,List.set_cons_succ]
 refine AnyG_take (i:=5) (oi:=_) (v:=?_) rfl (by kernel_rfl) (fun _ _ _ h=>h) (Or.inl ⟨by rfl,?_⟩) b0 ?_
 rotate_left
 ·intro W hSw;(try dsimp only at hSw);go_simp;first | done | with_reducible rfl
 simp only [Act.put,List.getElem_toArray,List.getElem_cons_zero,List.getElem_cons_succ,List.setIfInBounds_toArray,List.set_cons_zero,List.set_cons_succ]
 refine AnyG_take (i:=6) (oi:=_) (v:=?_) rfl (by kernel_rfl) (fun _ _ _ h=>h) (Or.inl ⟨by rfl,?_⟩) b0 ?_
 rotate_left
 ·intro W hSw;(try dsimp only at hSw);go_simp;first | done | with_reducible rfl
 simp only [Act.put,List.getElem_toArray,List.getElem_cons_zero,List.getElem_cons_succ,List.setIfInBounds_toArray,List.set_cons_zero,List.set_cons_succ]
 refine AnyG_take (i:=7) (oi:=_) (v:=?_) rfl (by kernel_rfl) (fun _ _ _ h=>h) (Or.inl ⟨by rfl,?_⟩) b0 ?_
 rotate_left
 ·intro W hSw;(try dsimp only at hSw);go_simp;first | done | with_reducible rfl
 simp only [Act.put,List.getElem_toArray,List.getElem_cons_zero,List.getElem_cons_succ,List.setIfInBounds_toArray,List.set_cons_zero,List.set_cons_succ]
 refine AnyG_take (i:=8) (oi:=_) (v:=?_) rfl (by kernel_rfl) (fun _ _ _ h=>h) (Or.inl ⟨by rfl,?_⟩) b0 ?_
 rotate_left
 ·intro W hSw;(try dsimp only at hSw);go_simp;first | done | with_reducible rfl
 simp only [Act.put,List.getElem_toArray,List.getElem_cons_zero,List.getElem_cons_succ,List.setIfInBounds_toArray,List.set_cons_zero,List.set_cons_succ]
 refine AnyG_take (i:=9) (oi:=_) (v:=?_) rfl (by kernel_rfl) (fun _ _ _ h=>h) (Or.inl ⟨by rfl,?_⟩) b0 ?_
 rotate_left
 ·intro W hSw;(try dsimp only at hSw);go_simp;first | done | with_reducible rfl
 simp only [Act.put,List.getElem_toArray,List.getElem_cons_zero,List.getElem_cons_succ,List.setIfInBounds_toArray,List.set_cons_zero,List.set_cons_succ]
 refine AnyG_take (i:=10) (oi:=_) (v:=?_) rfl (by kernel_rfl) (fun _ _ _ h=>h) (Or.inl ⟨by rfl,?_⟩) b0 ?_
 rotate_left
 ·intro W hSw;(try dsimp only at hSw);go_simp;first | done | with_reducible rfl
 simp only [Act.put,List.getElem_toArray,List.getElem_cons_zero,List.getElem_cons_succ,List.setIfInBounds_toArray,List.set_cons_zero,List.set_cons_succ]
 refine AnyG_take (i:=11) (oi:=_) (v:=?_) rfl (by kernel_rfl) (fun _ _ _ h=>h) (Or.inl ⟨by rfl,?_⟩) b0 ?_
 rotate_left
 ·intro W hSw;(try dsimp only at hSw);go_simp;first | done | with_reducible rfl
 simp only [Act.put,List.getElem_toArray,List.getElem_cons_zero,List.getElem_cons_succ,List.setIfInBounds_toArray,List.set_cons_zero,List.set_cons_succ]
 refine AnyG_take (i:=12) (oi:=_) (v:=?_) rfl (by kernel_rfl) (fun _ _ _ h=>h) (Or.inl ⟨by rfl,?_⟩) b0 ?_
 rotate_left
 ·intro W hSw;(try dsimp only at hSw);go_simp;first | done | with_reducible rfl
 simp only [Act.put,List.getElem_toArray,List.getElem_cons_zero,List.getElem_cons_succ,List.setIfInBounds_toArray,List.set_cons_zero,List.set_cons_succ]
 refine AnyG_take (i:=13) (oi:=_) (v:=?_) rfl (by kernel_rfl) (fun _ _ _ h=>h) (Or.inl ⟨by rfl,?_⟩) b0 ?_
 rotate_left
 ·intro W hSw;(try dsimp only at hSw);go_simp;first | done | with_reducible rfl
 simp only [Act.put,List.getElem_toArray,List.getElem_cons_zero,List.getElem_cons_succ,List.setIfInBounds_toArray,List.set_cons_zero,List.set_cons_succ]
 refine AnyG_take (i:=14) (oi:=_) (v:=?_) rfl (by kernel_rfl) (fun _ _ _ h=>h) (Or.inl ⟨by rfl,?_⟩) b0 ?_
 rotate_left
 ·intro W hSw;(try dsimp only at hSw);go_simp;first | done | with_reducible rfl
 simp only [Act.put,List.getElem_toArray,List.getElem_cons_zero,List.getElem_cons_succ,List.setIfInBounds_toArray,List.set_cons_zero,List.set_cons_succ]
 refine AnyG_take (i:=15) (oi:=_) (v:=?_) rfl (by kernel_rfl) (fun _ _ _ h=>h) (Or.inl ⟨by rfl,?_⟩) b0 ?_
 rotate_left
 ·intro W hSw;(try dsimp only at hSw);go_simp;first | done | with_reducible rfl
 simp only [Act.put,List.getElem_toArray,List.getElem_cons_zero,List.getElem_cons_succ,List.setIfInBounds_toArray,List.set_cons_zero,List.set_cons_succ]
 refine AnyG_take (i:=16) (oi:=_) (v:=?_) rfl (by kernel_rfl) (fun _ _ _ h=>h) (Or.inl ⟨by rfl,?_⟩) b0 ?_
 rotate_left
 ·intro W hSw;(try dsimp only at hSw);go_simp;first | done | with_reducible rfl
 simp only [Act.put,List.getElem_toArray,List.getElem_cons_zero,List.getElem_cons_succ,List.setIfInBounds_toArray,List.set_cons_zero,List.set_cons_succ]
 refine AnyG_take (i:=17) (oi:=_) (v:=?_) rfl (by kernel_rfl) (fun _ _ _ h=>h) (Or.inl ⟨by rfl,?_⟩) b0 ?_
 rotate_left
 ·intro W hSw;(try dsimp only at hSw);go_simp;first | done | with_reducible rfl
 simp only [Act.put,List.getElem_toArray,List.getElem_cons_zero,List.getElem_cons_succ,List.setIfInBounds_toArray,List.set_cons_zero,List.set_cons_succ]
 refine AnyG_one (i:=18) rfl (by kernel_rfl) ?_
 refine wpOp_of rfl rfl ?_
 try simp only [Act.put,List.getElem_toArray,List.getElem_cons_zero,List.getElem_cons_succ,List.setIfInBounds_toArray,List.set_cons_zero,List.set_cons_succ]
 go_simp
 refine (HDO.out _).mono ?_
 rintro _ w2 ⟨rfl,hb2⟩
 have b2:=Below.trans b0 (hb2.mono (Below.size b0))
 refine⟨b2,?_⟩
 try simp only [Act.put,List.getElem_toArray,List.getElem_cons_zero,List.getElem_cons_succ,List.setIfInBounds_toArray,List.set_cons_zero,List.set_cons_succ]
 refine AnyG_take (i:=19) (oi:=_) (v:=?_) rfl (by kernel_rfl) (fun _ _ _ h=>h) (Or.inl ⟨by rfl,?_⟩) b2 ?_
 rotate_left
 ·intro W hSw;(try dsimp only at hSw);go_simp;first | done | with_reducible rfl
 simp only [Act.put,List.getElem_toArray,List.getElem_cons_zero,List.getElem_cons_succ,List.setIfInBounds_toArray,List.set_cons_zero,List.set_cons_succ]
 refine AnyG_take (i:=20) (oi:=_) (v:=?_) rfl (by kernel_rfl) (fun _ _ _ h=>h) (Or.inl ⟨by rfl,?_⟩) b2 ?_
 rotate_left
 ·intro W hSw;(try dsimp only at hSw);go_simp;first | done | with_reducible rfl
 simp only [Act.put,List.getElem_toArray,List.getElem_cons_zero,List.getElem_cons_succ,List.setIfInBounds_toArray,List.set_cons_zero,List.set_cons_succ]
 refine AnyG_take (i:=21) (oi:=_) (v:=?_) rfl (by kernel_rfl) (fun _ _ _ h=>h) (Or.inl ⟨by rfl,?_⟩) b2 ?_
 rotate_left
 ·intro W hSw;(try dsimp only at hSw);go_simp;first | done | with_reducible rfl
 simp only [Act.put,List.getElem_toArray,List.getElem_cons_zero,List.getElem_cons_succ,List.setIfInBounds_toArray,List.set_cons_zero,List.set_cons_succ]
 refine AnyG_take (i:=22) (oi:=_) (v:=?_) rfl (by kernel_rfl) (fun _ _ _ h=>h) (Or.inl ⟨by rfl,?_⟩) b2 ?_
 rotate_left
 ·intro W hSw;(try dsimp only at hSw);go_simp;first | done | with_reducible rfl
 simp only [Act.put,List.getElem_toArray,List.getElem_cons_zero,List.getElem_cons_succ,List.setIfInBounds_toArray,List.set_cons_zero,List.set_cons_succ]
 refine AnyG_take (i:=23) (oi:=_) (v:=?_) rfl (by kernel_rfl) (fun _ _ _ h=>h) (Or.inl ⟨by rfl,?_⟩) b2 ?_
 rotate_left
 ·intro W hSw;(try dsimp only at hSw);go_simp;first | done | with_reducible rfl
 simp only [Act.put,List.getElem_toArray,List.getElem_cons_zero,List.getElem_cons_succ,List.setIfInBounds_toArray,List.set_cons_zero,List.set_cons_succ]
 refine AnyG_done (by kernel_rfl) ?_ _
 have hR2:=HRR.out w2 b2
 have HR2:=Lib.hid hR2
 have HM2:=Lib.hid (HM1.out.below b2)
 have hB2:Below w.heap.size w w2:=HB1.out.trans (b2.mono HB1.out.size)
 have HB2:=Lib.hid hB2
 clear hb2 hB2 hR2 e0 e2 e3 rbc rcc b0
 cases ok with
 | false=>
  go_wp2_with fail
  go_end0
  rw [HT'.out]
  exact⟨rfl,HR2.out,HM2.out,Only.of_below HB2.out (Nat.le_refl _)⟩
 | true=>
  have x1:=HR2.out.reg a ha
  have x2:=HR2.out.frozen (1+a)
  go_wp2_with (go_at_call 172;refine (reg_run _ rb n K.mb tn t i ad HR2.out a ha hia).mono ?_;rintro r w3 ⟨rfl,m,rfl⟩;have x3:(w2.drewN m).cell? ⟨rb,1+a,none⟩=some (.int .u32 (t.reg a)):=x1;have x4:(w2.drewN m).frozen? ⟨rb,1+a,none⟩=false:=x2)
  go_end0
  rw [HT'.out]
  exact⟨rfl,RunB.put (RunB.drewN HR2.out _) a ha _,TsM.runB (TsM.drewN HM2.out _) HZ.out _,Only.set1 (F:=fun k=>¬Z k∨k=rb) (p:=⟨rb,1+a,none⟩) (on_drewN (Only.of_below HB2.out (Nat.le_refl _)) _) (.inr rfl) _⟩
end Go.Proofs.YtcnmhgblbikfkaaGreatDoor.As.T
end

section
set_option linter.unusedVariables false
set_option linter.unusedSimpArgs false
set_option maxRecDepth 20000
namespace Go.Proofs.YtcnmhgblbikfkaaGreatDoor.As.T
open Go.RowKit

set_option maxHeartbeats 4000000 in
theorem plain_remote(Z:Nat→Prop)(w:World)(rb:Nat)(n:Int)(K:TsK)(tn:Nat)(s:Ts)(t:Th)(i:Ins)(ad:Int)(hR:RunB w rb n K.mb tn t i ad)(hM:TsM Z w K s)(hZ:Z rb)(hn:s.evs.length+s.pend≤99999999999)(htn:tn < s.ths.length)(hok:s.okB)(hT:s.ths.length≤1000)(hop:i.op=25):
  Calls Tryz.prog 155 #[.pointer (some ⟨rb,0,none⟩)] w (RPost Z w rb n K tn i ad (t) (s.remote.note tn ⟨10,0,t.pc,ad,0,0,0,false⟩)):=by
 have HM:=Lib.hid hM
 have HR:=Lib.hid hR
 have HZ:=Lib.hid hZ
 have hlt:=hR.lt
 obtain⟨c0,c9,c10,c11,c12,c13,c14,c15,c16,c17,c18,c19,c20,c21,c22,c23,c24,c25,c26⟩:=hR.cells
 rw [hop] at c10
 have hM1:=hM.alloc (.cells #[.int .i64 25,.int .i64 i.a,.int .i64 i.b,.int .i64 i.c,.int .u32 i.k] 132)
 have hR1:=hR.alloc (.cells #[.int .i64 25,.int .i64 i.a,.int .i64 i.b,.int .i64 i.c,.int .u32 i.k] 132)
 have HM1:=Lib.hid hM1
 have HR1:=Lib.hid hR1
 have HOK:=Lib.hid hok
 have HSM:=Lib.hid (Ts.remote_same s)
 clear hR hM hZ hM1 hR1 hok
 go_enter Tryz.func155,Tryz.ntmps155
 go_wp2_with (first | (go_at_call 163;refine (remote_ts Z _ K s tn HM1.out htn HOK.out (by omega) hT).mono ?_;rintro r w1 ⟨rfl,hMr,hOr⟩;have HMr:=Lib.hid hMr;have HOr:=Lib.hid hOr;clear hMr hOr;have HR2:=Lib.hid (RunB.only HR1.out HOr.out (fun h=>h HZ.out));have hc2:=HR2.out.cells) | (go_at_call 171;refine (note_run Z _ rb n K tn s.remote t i ad (HR2.out) (HMr.out) (by have:=HSM.out.n;omega) ⟨10,0,0,0,0,0,0,false⟩).mono ?_;rintro r w2 ⟨rfl,hM2,hO2⟩))
 go_end0
 exact⟨rfl,RunB.only HR2.out hO2 (fun h=>h HZ.out),hM2,((on_alloc (Only.refl (fun k=>¬Z k∨k=rb) w) _).trans HOr.out (fun k e=>.inl (.inl e))).trans hO2 (fun k e=>.inl (.inl e))⟩
end Go.Proofs.YtcnmhgblbikfkaaGreatDoor.As.T
end

section
set_option linter.unusedVariables false
set_option linter.unusedSimpArgs false
set_option maxRecDepth 20000
namespace Go.Proofs.YtcnmhgblbikfkaaGreatDoor.As.T
open Go.RowKit

def MarkS(g rb:Nat)(n:Int)(mb tn:Nat)(t:Th)(i:Ins)(ad:Int)(a:Nat)(W:World):Prop:=RunB W rb n mb tn t i ad∧W.heap[g]? = some (.cells #[.int .i64 27,.int .i64 (a:Nat),.int .i64 i.b,.int .i64 i.c,.int .u32 i.k] 132 (0,0))
set_option maxHeartbeats 8000000 in
theorem plain_mark(Z:Nat→Prop)(w:World)(rb:Nat)(n:Int)(K:TsK)(tn:Nat)(s:Ts)(t:Th)(i:Ins)(ad:Int)(hR:RunB w rb n K.mb tn t i ad)(hM:TsM Z w K s)(hZ:Z rb)(hn:s.evs.length≤99999999999)(hop:i.op=27)(a:Nat)(ha:a < 8)(hia:i.a=a):
  Calls Tryz.prog 155 #[.pointer (some ⟨rb,0,none⟩)] w (RPost Z w rb n K tn i ad t (s.note tn ⟨7,0,t.pc,ad,t.reg a,0,i.k,false⟩)):=by
 have HM:=Lib.hid hM
 have HR:=Lib.hid hR
 have HZ:=Lib.hid hZ
 obtain⟨c0,c9,c10,c11,c12,c13,c14,c15,c16,c17,c18,c19,c20,c21,c22,c23,c24,c25,c26⟩:=hR.cells
 rw [hop] at c10
 rw [hia] at c11
 obtain⟨w1,hw1⟩:∃ W,w.alloc (.cells #[.int .i64 27,.int .i64 (a:Nat),.int .i64 i.b,.int .i64 i.c,.int .u32 i.k] 132)=W:=⟨_,rfl⟩
 have hi1:w1.heap[w.heap.size]? = some (.cells #[.int .i64 27,.int .i64 (a:Nat),.int .i64 i.b,.int .i64 i.c,.int .u32 i.k] 132 (0,0)):=by rw [←hw1];exact heap_alloc_new _ _
 have hB1:Below w.heap.size w w1:=by rw [←hw1];exact (Below.refl _ w).alloc (Nat.le_refl _) _
 have hR1:RunB w1 rb n K.mb tn t i ad:=hR.only (Only.of_below (F:=fun _=>False) hB1 (Nat.le_refl _)) (fun e=>e)
 have hM1:TsM (fun k=>Z k∨k=w.heap.size) w1 K s:=by rw [←hw1];exact hM.guard _
 have e4:∀ W,MarkS w.heap.size rb n K.mb tn t i ad a W→W.cell? ⟨w.heap.size,4,none⟩=some (.int .u32 i.k):=fun W hW=>cell_of_row _ _ 4 _ _ _ hW.2
 have rac:∀ W,MarkS w.heap.size rb n K.mb tn t i ad a W→W.cell? ⟨rb,1+a,none⟩=some (.int .u32 (t.reg a)):=fun W hW=>hW.1.reg a ha
 have b0:MarkS w.heap.size rb n K.mb tn t i ad a w1.drew:=⟨RunB.drew hR1,hi1⟩
 have HB1:=Lib.hid hB1
 have HM1:=Lib.hid hM1
 have HW1:=Lib.hid hw1
 have HBB:=Lib.hid b0
 clear hw1 hi1 hB1 hR1 hM1 hR hM hZ
 go_enter Tryz.func155,Tryz.ntmps155
 go_wp2_with fail
 rw [HW1.out]
 clear HW1
 refine wp_region_g (fun W=>MarkS w.heap.size rb n K.mb tn t i ad a W) 99 (by kernel_rfl) ?_
 refine AnyG_take (i:=0) (oi:=_) (v:=?_) rfl (by kernel_rfl) (fun _ _ _ h=>h) (Or.inl ⟨by rfl,?_⟩) b0 ?_
 rotate_left
 ·intro W hSw;(try dsimp only at hSw);go_simp;first | done | with_reducible rfl
 simp only [Act.put,List.getElem_toArray,List.getElem_cons_zero,List.getElem_cons_succ,List.setIfInBounds_toArray,List.set_cons_zero,List.set_cons_succ]
 refine AnyG_take (i:=1) (oi:=_) (v:=?_) rfl (by kernel_rfl) (fun _ _ _ h=>h) (Or.inl ⟨by rfl,?_⟩) b0 ?_
 rotate_left
 ·intro W hSw;(try dsimp only at hSw);go_simp;first | done | with_reducible rfl
 simp only [Act.put,List.getElem_toArray,List.getElem_cons_zero,List.getElem_cons_succ,List.setIfInBounds_toArray,List.set_cons_zero,List.set_cons_succ]
 refine AnyG_take (i:=5) (oi:=_) (v:=?_) rfl (by kernel_rfl) (fun _ _ _ h=>h) (Or.inl ⟨by rfl,?_⟩) b0 ?_
 rotate_left
 ·intro W hSw;(try dsimp only at hSw);go_simp;first | done | with_reducible rfl
 simp only [Act.put,List.getElem_toArray,List.getElem_cons_zero,List.getElem_cons_succ,List.setIfInBounds_toArray,List.set_cons_zero,List.set_cons_succ]
 refine AnyG_take (i:=6) (oi:=_) (v:=?_) rfl (by kernel_rfl) (fun _ _ _ h=>h) (Or.inl ⟨by rfl,?_⟩) b0 ?_
 rotate_left
 ·intro W hSw;(try dsimp only at hSw);go_simp;first | done | with_reducible rfl
 simp only [Act.put,List.getElem_toArray,List.getElem_cons_zero,List.getElem_cons_succ,List.setIfInBounds_toArray,List.set_cons_zero,List.set_cons_succ]
 refine AnyG_one (i:=2) rfl (by kernel_rfl) ?_
 refine wpOp_of rfl rfl ?_
 try simp only [Act.put,List.getElem_toArray,List.getElem_cons_zero,List.getElem_cons_succ,List.setIfInBounds_toArray,List.set_cons_zero,List.set_cons_succ]
 go_simp
 refine (reg_run _ rb n K.mb tn t i ad HBB.out.1 a ha hia).mono ?_
 rintro _ w2 ⟨rfl,m,hw2⟩
 have b2:MarkS w.heap.size rb n K.mb tn t i ad a w2:=by rw [hw2];exact⟨RunB.drewN HBB.out.1 m,HBB.out.2⟩
 have HM2:Hid (TsM (fun k=>Z k∨k=w.heap.size) w2 K s):=Lib.hid (by rw [hw2];exact TsM.drewN (TsM.drew HM1.out) m)
 have HO2:Hid (Only (fun k=>¬Z k∨k=rb) w w2):=Lib.hid (by
  rw [hw2]
  have h0:Only (fun k=>¬Z k∨k=rb) w w1:=Only.of_below HB1.out (Nat.le_refl _)
  exact⟨h0.os,h0.tape,h0.output,h0.size,h0.block⟩)
 clear hw2
 have HB2:=Lib.hid b2
 refine⟨b2,?_⟩
 try simp only [Act.put,List.getElem_toArray,List.getElem_cons_zero,List.getElem_cons_succ,List.setIfInBounds_toArray,List.set_cons_zero,List.set_cons_succ]
 refine AnyG_take (i:=3) (oi:=_) (v:=?_) rfl (by kernel_rfl) (fun _ _ _ h=>h) (Or.inl ⟨by rfl,?_⟩) b2 ?_
 rotate_left
 ·intro W hSw;(try dsimp only at hSw);go_simp;first | done | with_reducible rfl
 simp only [Act.put,List.getElem_toArray,List.getElem_cons_zero,List.getElem_cons_succ,List.setIfInBounds_toArray,List.set_cons_zero,List.set_cons_succ]
 refine AnyG_take (i:=4) (oi:=_) (v:=?_) rfl (by kernel_rfl) (fun _ _ _ h=>h) (Or.inl ⟨by rfl,?_⟩) b2 ?_
 rotate_left
 ·intro W hSw;(try dsimp only at hSw);go_simp;first | done | with_reducible rfl
 simp only [Act.put,List.getElem_toArray,List.getElem_cons_zero,List.getElem_cons_succ,List.setIfInBounds_toArray,List.set_cons_zero,List.set_cons_succ]
 refine AnyG_take (i:=7) (oi:=_) (v:=?_) rfl (by kernel_rfl) (fun _ _ _ h=>h) (Or.inl ⟨by rfl,?_⟩) b2 ?_
 rotate_left
 ·intro W hSw;(try dsimp only at hSw);go_simp;first | done | with_reducible rfl
 simp only [Act.put,List.getElem_toArray,List.getElem_cons_zero,List.getElem_cons_succ,List.setIfInBounds_toArray,List.set_cons_zero,List.set_cons_succ]
 refine AnyG_one (i:=8) rfl (by kernel_rfl) ?_
 refine wpOp_of rfl rfl ?_
 try simp only [Act.put,List.getElem_toArray,List.getElem_cons_zero,List.getElem_cons_succ,List.setIfInBounds_toArray,List.set_cons_zero,List.set_cons_succ]
 go_simp
 refine (note_run (fun k=>Z k∨k=w.heap.size) _ rb n K tn s t i ad HB2.out.1 HM2.out (by omega) ⟨7,0,0,0,t.reg a,0,i.k,false⟩).mono ?_
 rintro _ w3 ⟨rfl,hM3,hO3⟩
 have b3:MarkS w.heap.size rb n K.mb tn t i ad a w3:=⟨RunB.only HB2.out.1 hO3 (fun q=>q (.inl HZ.out)),(hO3.block _ (Array.getElem?_eq_some_iff.1 HB2.out.2).1 (fun q=>q (.inr rfl))).trans HB2.out.2⟩
 refine⟨b3,?_⟩
 try simp only [Act.put,List.getElem_toArray,List.getElem_cons_zero,List.getElem_cons_succ,List.setIfInBounds_toArray,List.set_cons_zero,List.set_cons_succ]
 refine AnyG_done (by kernel_rfl) ?_ _
 go_wp2_with fail
 go_end0
 refine⟨rfl,b3.1,hM3.less (fun k q=>.inl q),?_⟩
 exact HO2.out.trans hO3 (fun k q=>.inl (.inl (fun hz=>q (.inl hz))))
end Go.Proofs.YtcnmhgblbikfkaaGreatDoor.As.T
end

