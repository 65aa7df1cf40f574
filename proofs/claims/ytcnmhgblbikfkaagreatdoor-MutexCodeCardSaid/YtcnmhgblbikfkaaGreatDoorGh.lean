/- A thread that does an instruction,in memory; the walks of its small methods. The walks of core.run's methods that ask memory. The walks of core.run.goes,halts,of core.Address. The walk of the port's remote: all buffers are flushed. The walk of a side's port. The walk of kern.Rouse where nobody sleeps. -/
import Derived.Test.YtcnmhgblbikfkaaGreatDoorTm6
import Derived.Test.YtcnmhgblbikfkaaGreatDoorGg
import Derived.Test.YtcnmhgblbikfkaaGreatDoorGe
import Derived.Deep.LoopGhost
import Derived.StillTailTactics
import Derived.Laws.EntriesVeiled
section
set_option linter.unusedVariables false
set_option linter.unusedSimpArgs false
set_option maxRecDepth 20000
namespace Go.Proofs.YtcnmhgblbikfkaaGreatDoor.As.T
open Go.RowKit

def portV(n:Int)(mb tn:Nat):List Value:=[.int .i64 n,.func (.func 156) #[.agg #[.pointer (some ⟨mb,0,none⟩),.int .i64 tn]] #[],.func (.func 157) #[.agg #[.pointer (some ⟨mb,0,none⟩),.int .i64 tn]] #[],.func (.func 158) #[.agg #[.pointer (some ⟨mb,0,none⟩),.int .i64 tn]] #[],.func (.func 159) #[.agg #[.pointer (some ⟨mb,0,none⟩),.int .i64 tn]] #[],.func (.func 71) #[.agg #[.pointer (some ⟨mb,0,none⟩),.int .i64 tn]] #[],.func (.func 160) #[.agg #[.pointer (some ⟨mb,0,none⟩),.int .i64 tn]] #[],.func (.func 161) #[.agg #[.pointer (some ⟨mb,0,none⟩),.int .i64 tn]] #[],.func (.func 162) #[.agg #[.pointer (some ⟨mb,0,none⟩),.int .i64 tn]] #[],.func (.func 163) #[.agg #[.pointer (some ⟨mb,0,none⟩),.int .i64 tn]] #[],.func (.func 73) #[.agg #[.pointer (some ⟨mb,0,none⟩),.int .i64 tn]] #[]]
def runCells(n:Int)(mb tn:Nat)(t:Th)(i:Ins)(ad:Int):List Value:=t.cells++([.int .i64 i.op,.int .i64 i.a,.int .i64 i.b,.int .i64 i.c,.int .u32 i.k]++(portV n mb tn++[.int .i64 ad]))
def RunB(w:World)(rb:Nat)(n:Int)(mb tn:Nat)(t:Th)(i:Ins)(ad:Int):Prop:=t.regs.length=8∧w.heap[rb]? = some (.cells (runCells n mb tn t i ad).toArray 229 (0,0))
theorem list8{α:Type}:∀ {l:List α},l.length=8→∃ a b c d e f g h,l=[a,b,c,d,e,f,g,h]
 | [a,b,c,d,e,f,g,h],_=>⟨a,b,c,d,e,f,g,h,rfl⟩
theorem RunB.cells{w:World}{rb:Nat}{n:Int}{mb tn:Nat}{t:Th}{i:Ins}{ad:Int}(h:RunB w rb n mb tn t i ad):w.cell? ⟨rb,0,none⟩=some (.int .i64 t.pc)∧w.cell? ⟨rb,9,none⟩=some (.int .i64 t.st)∧w.cell? ⟨rb,10,none⟩=some (.int .i64 i.op)∧w.cell? ⟨rb,11,none⟩=some (.int .i64 i.a)∧w.cell? ⟨rb,12,none⟩=some (.int .i64 i.b)∧w.cell? ⟨rb,13,none⟩=some (.int .i64 i.c)∧w.cell? ⟨rb,14,none⟩=some (.int .u32 i.k)∧w.cell? ⟨rb,15,none⟩=some (.int .i64 n)∧w.cell? ⟨rb,16,none⟩=some (.func (.func 156) #[.agg #[.pointer (some ⟨mb,0,none⟩),.int .i64 tn]] #[])∧w.cell? ⟨rb,17,none⟩=some (.func (.func 157) #[.agg #[.pointer (some ⟨mb,0,none⟩),.int .i64 tn]] #[])∧w.cell? ⟨rb,18,none⟩=some (.func (.func 158) #[.agg #[.pointer (some ⟨mb,0,none⟩),.int .i64 tn]] #[])∧w.cell? ⟨rb,19,none⟩=some (.func (.func 159) #[.agg #[.pointer (some ⟨mb,0,none⟩),.int .i64 tn]] #[])∧w.cell? ⟨rb,20,none⟩=some (.func (.func 71) #[.agg #[.pointer (some ⟨mb,0,none⟩),.int .i64 tn]] #[])∧w.cell? ⟨rb,21,none⟩=some (.func (.func 160) #[.agg #[.pointer (some ⟨mb,0,none⟩),.int .i64 tn]] #[])∧w.cell? ⟨rb,22,none⟩=some (.func (.func 161) #[.agg #[.pointer (some ⟨mb,0,none⟩),.int .i64 tn]] #[])∧w.cell? ⟨rb,23,none⟩=some (.func (.func 162) #[.agg #[.pointer (some ⟨mb,0,none⟩),.int .i64 tn]] #[])∧w.cell? ⟨rb,24,none⟩=some (.func (.func 163) #[.agg #[.pointer (some ⟨mb,0,none⟩),.int .i64 tn]] #[])∧w.cell? ⟨rb,25,none⟩=some (.func (.func 73) #[.agg #[.pointer (some ⟨mb,0,none⟩),.int .i64 tn]] #[])∧w.cell? ⟨rb,26,none⟩=some (.int .i64 ad):=by
 obtain⟨hl,h⟩:=h
 obtain⟨pc,regs,st⟩:=t
 obtain⟨r0,r1,r2,r3,r4,r5,r6,r7,rfl⟩:=list8 hl
 exact⟨cell_of_row w rb 0 _ _ _ h,cell_of_row w rb 9 _ _ _ h,cell_of_row w rb 10 _ _ _ h,cell_of_row w rb 11 _ _ _ h,cell_of_row w rb 12 _ _ _ h,cell_of_row w rb 13 _ _ _ h,cell_of_row w rb 14 _ _ _ h,cell_of_row w rb 15 _ _ _ h,cell_of_row w rb 16 _ _ _ h,cell_of_row w rb 17 _ _ _ h,cell_of_row w rb 18 _ _ _ h,cell_of_row w rb 19 _ _ _ h,cell_of_row w rb 20 _ _ _ h,cell_of_row w rb 21 _ _ _ h,cell_of_row w rb 22 _ _ _ h,cell_of_row w rb 23 _ _ _ h,cell_of_row w rb 24 _ _ _ h,cell_of_row w rb 25 _ _ _ h,cell_of_row w rb 26 _ _ _ h⟩
theorem RunB.reg{w:World}{rb:Nat}{n:Int}{mb tn:Nat}{t:Th}{i:Ins}{ad:Int}(h:RunB w rb n mb tn t i ad)(a:Nat)(ha:a < 8):w.cell? ⟨rb,1+a,none⟩=some (.int .u32 (t.reg a)):=by
 obtain⟨hl,h⟩:=h
 refine (cell_of_row w rb (1+a) _ _ _ h).trans ?_
 obtain⟨pc,regs,st⟩:=t
 obtain⟨r0,r1,r2,r3,r4,r5,r6,r7,rfl⟩:=list8 hl
 have h8:a=0∨a=1∨a=2∨a=3∨a=4∨a=5∨a=6∨a=7:=by omega
 rcases h8 with rfl | rfl | rfl | rfl | rfl | rfl | rfl | rfl<;>rfl
theorem RunB.frozen{w:World}{rb:Nat}{n:Int}{mb tn:Nat}{t:Th}{i:Ins}{ad:Int}(h:RunB w rb n mb tn t i ad)(j:Nat):w.frozen? ⟨rb,j,none⟩=false:=frozen_of_row w rb j _ _ h.2
theorem RunB.lt{w:World}{rb:Nat}{n:Int}{mb tn:Nat}{t:Th}{i:Ins}{ad:Int}(h:RunB w rb n mb tn t i ad):rb < w.heap.size:=(Array.getElem?_eq_some_iff.1 h.2).1
theorem RunB.only{w w':World}{rb:Nat}{n:Int}{mb tn:Nat}{t:Th}{i:Ins}{ad:Int}{F:Nat→Prop}(h:RunB w rb n mb tn t i ad)(ho:Only F w w')(hF:¬F rb):RunB w' rb n mb tn t i ad:=⟨h.1,(ho.block rb h.lt hF).trans h.2⟩
theorem RunB.put{w:World}{rb:Nat}{n:Int}{mb tn:Nat}{t:Th}{i:Ins}{ad:Int}(h:RunB w rb n mb tn t i ad)(a:Nat)(ha:a < 8)(v:Int):RunB (w.setCell ⟨rb,1+a,none⟩ (.int .u32 v)) rb n mb tn (t.put a v) i ad:=by
 obtain⟨hl,h⟩:=h
 refine⟨by simp [Th.put,hl],(heap_setCell_same _ rb (1+a) _ _ _ h).trans ?_⟩
 obtain⟨pc,regs,st⟩:=t
 obtain⟨r0,r1,r2,r3,r4,r5,r6,r7,rfl⟩:=list8 hl
 have h8:a=0∨a=1∨a=2∨a=3∨a=4∨a=5∨a=6∨a=7:=by omega
 rcases h8 with rfl | rfl | rfl | rfl | rfl | rfl | rfl | rfl<;>rfl
theorem RunB.pc{w:World}{rb:Nat}{n:Int}{mb tn:Nat}{t:Th}{i:Ins}{ad:Int}(h:RunB w rb n mb tn t i ad)(v:Int):RunB (w.setCell ⟨rb,0,none⟩ (.int .i64 v)) rb n mb tn { t with pc:=v } i ad:=by
 obtain⟨hl,h⟩:=h
 refine⟨hl,(heap_setCell_same _ rb 0 _ _ _ h).trans ?_⟩
 obtain⟨pc,regs,st⟩:=t
 obtain⟨r0,r1,r2,r3,r4,r5,r6,r7,rfl⟩:=list8 hl
 rfl
theorem RunB.st{w:World}{rb:Nat}{n:Int}{mb tn:Nat}{t:Th}{i:Ins}{ad:Int}(h:RunB w rb n mb tn t i ad)(v:Int):RunB (w.setCell ⟨rb,9,none⟩ (.int .i64 v)) rb n mb tn { t with st:=v } i ad:=by
 obtain⟨hl,h⟩:=h
 refine⟨hl,(heap_setCell_same _ rb 9 _ _ _ h).trans ?_⟩
 obtain⟨pc,regs,st⟩:=t
 obtain⟨r0,r1,r2,r3,r4,r5,r6,r7,rfl⟩:=list8 hl
 rfl
theorem reg_run(w:World)(rb:Nat)(n:Int)(mb tn:Nat)(t:Th)(i:Ins)(ad:Int)(hR:RunB w rb n mb tn t i ad)(a:Nat)(ha:a < 8)(hi:i.a=a):
  Calls Tryz.prog 172 #[.pointer (some ⟨rb,0,none⟩)] w fun e w'=>e=.returned (.pointer (some ⟨rb,1+a,none⟩))∧∃ m,w'=w.drewN m:=by
 obtain⟨c0,c9,c10,c11,c12,c13,c14,c15,c16,c17,c18,c19,c20,c21,c22,c23,c24,c25,c26⟩:=hR.cells
 rw [hi] at c11
 have h1:(a:Int) < 8:=by omega
 have h0:(0:Int)≤(a:Int):=by omega
 clear hR hi
 go_enter Tryz.func172,Tryz.ntmps172
 go_wp2_with fail
 go_quiet (fail)
 go_wp2_with fail
 go_ret
 exact⟨rfl,_,rfl⟩
theorem on_drew2{F:Nat→Prop}{a w:World}(h:Only F a w)(X:Obj):Only F a (w.alloc X).drew.drew:=
 ⟨h.os,h.tape,h.output,by have:=h.size;simp;omega,fun k hk hn=>by
  have hk2:k < w.heap.size:=Nat.lt_of_lt_of_le hk h.size
  exact (show (w.alloc X).heap[k]? = _ from Below.heap_alloc _ _ _ hk2).trans (h.block k hk hn)⟩
set_option maxHeartbeats 2000000 in
theorem note_run(Z:Nat→Prop)(w:World)(rb:Nat)(n:Int)(K:TsK)(tn:Nat)(s:Ts)(t:Th)(i:Ins)(ad:Int)(hR:RunB w rb n K.mb tn t i ad)(hM:TsM Z w K s)(hn:s.evs.length≤100000000000)(e:Ev):
  Calls Tryz.prog 171 #[.pointer (some ⟨rb,0,none⟩),.agg #[.int .i64 e.kind,.int .i64 e.who,.int .i64 e.pc,.int .i64 e.addr,.int .u32 e.val,.int .u32 e.old,.int .u32 e.k,.bool e.ok]] w fun r w'=>r=.returned (.tuple #[])∧TsM Z w' K (s.note tn { e with pc:=t.pc,addr:=ad })∧Only (fun k=>¬Z k) w w':=by
 have HM:=Lib.hid hM
 have HR:=Lib.hid hR
 obtain⟨c0,c9,c10,c11,c12,c13,c14,c15,c16,c17,c18,c19,c20,c21,c22,c23,c24,c25,c26⟩:=hR.cells
 have hlt:=hR.lt
 clear hR hM
 go_enter Tryz.func171,Tryz.ntmps171
 go_wp2_with fail
 go_region_with (fail)
 all_goals go_wp2_with fail
 all_goals go_region_with (go_at_call 73;refine (note_ts Z _ K s tn (HM.out.keep (F:=fun k=>k=w.heap.size) (on_drew2 (Only.refl _ w) _) (fun k e h=>absurd h (by omega))) hn ⟨e.kind,e.who,t.pc,ad,e.val,e.old,e.k,e.ok⟩).mono ?_;rintro r wN ⟨rfl,hMN,hON⟩)
 all_goals go_wp2_with fail
 all_goals go_end0
 all_goals exact⟨rfl,hMN,(on_drew2 (Only.refl _ w) _).trans hON (fun i h=>.inl h)⟩
end Go.Proofs.YtcnmhgblbikfkaaGreatDoor.As.T
end

section
set_option linter.unusedVariables false
set_option linter.unusedSimpArgs false
set_option maxRecDepth 20000
namespace Go.Proofs.YtcnmhgblbikfkaaGreatDoor.As.T
open Go.RowKit

theorem RunB.drewN{w:World}{rb:Nat}{n:Int}{mb tn:Nat}{t:Th}{i:Ins}{ad:Int}(h:RunB w rb n mb tn t i ad)(m:Nat):RunB (w.drewN m) rb n mb tn t i ad:=h
theorem RunB.drew{w:World}{rb:Nat}{n:Int}{mb tn:Nat}{t:Th}{i:Ins}{ad:Int}(h:RunB w rb n mb tn t i ad):RunB w.drew rb n mb tn t i ad:=h
theorem on_drew{F:Nat→Prop}{a w:World}(h:Only F a w):Only F a w.drew:=⟨h.os,h.tape,h.output,h.size,h.block⟩
def RPost(Z:Nat→Prop)(w:World)(rb:Nat)(n:Int)(K:TsK)(tn:Nat)(i:Ins)(ad:Int)(t:Th)(s:Ts)(e:Ending)(w':World):Prop:=
 e=.returned (.tuple #[])∧RunB w' rb n K.mb tn t i ad∧TsM Z w' K s∧Only (fun k=>¬Z k∨k=rb) w w'
theorem swap_evs(s:Ts)(ad:Nat)(v:Int):(s.swap ad v).evs=s.evs:=rfl
set_option maxHeartbeats 2000000 in
theorem locked_yes(Z:Nat→Prop)(w:World)(rb:Nat)(n:Int)(K:TsK)(tn:Nat)(s:Ts)(t:Th)(i:Ins)(ad:Int)(hR:RunB w rb n K.mb tn t i ad)(hM:TsM Z w K s)(hZ:Z rb)(hn:s.evs.length≤99999999999)(a:Nat)(ha:a < 8)(hia:i.a=a)(adn:Nat)(had:ad=adn)(hadn:adn < s.mem.length)(htn:tn < s.ths.length)(old v:Int):
  Calls Tryz.prog 173 #[.pointer (some ⟨rb,0,none⟩),.int .u32 old,.int .u32 v,.bool true] w (RPost Z w rb n K tn i ad (t.put a old) ((s.swap adn v).note tn ⟨4,0,t.pc,ad,v,old,0,true⟩)):=by
 have HM:=Lib.hid hM
 have HR:=Lib.hid hR
 have HZ:=Lib.hid hZ
 have hlt:=hR.lt
 obtain⟨c0,c9,c10,c11,c12,c13,c14,c15,c16,c17,c18,c19,c20,c21,c22,c23,c24,c25,c26⟩:=hR.cells
 subst had
 clear hR hM hZ
 go_enter Tryz.func173,Tryz.ntmps173
 go_wp2_with fail
 go_region_with (go_at_call 160;refine (swap_ts Z _ K s tn (TsM.drew HM.out) htn adn hadn v).mono ?_;rintro r w1 ⟨⟨u,rfl⟩,hM1,hO1⟩;have hR1:=(RunB.drew HR.out).only hO1 (fun h=>h HZ.out);have hO1b:Only (fun k=>¬Z k∨k=rb) w w1:=(on_drew (Only.refl _ w)).trans hO1 (fun k e=>.inl (.inl e)))
 all_goals (go_wp2_with (first
  | (go_at_call 171;refine (note_run Z _ rb n K tn _ t i _ hR1 hM1 (by rw [swap_evs];omega) ⟨4,0,0,0,v,old,0,true⟩).mono ?_;rintro r w2 ⟨rfl,hM2,hO2⟩;have hR2:=hR1.only hO2 (fun h=>h HZ.out);have hO:Only (fun k=>¬Z k∨k=rb) w w2:=hO1b.trans hO2 (fun k e=>.inl (.inl e)))
  | (go_at_call 172;refine (reg_run _ rb n K.mb tn t i _ hR2 a ha hia).mono ?_;rintro r w3 ⟨rfl,m,rfl⟩;have q1:(w2.drewN m).cell? ⟨rb,1+a,none⟩=some (.int .u32 (t.reg a)):=hR2.reg a ha;have q2:(w2.drewN m).frozen? ⟨rb,1+a,none⟩=false:=hR2.frozen (1+a))))
 all_goals go_end0
 all_goals exact⟨rfl,RunB.put (RunB.drewN hR2 _) a ha _,TsM.keep (TsM.drewN hM2 _) (Only.set1 (F:=fun k=>k=rb) (p:=⟨rb,1+a,none⟩) (Only.refl _ _) rfl _) (fun k e _=>by subst e;exact HZ.out),Only.set1 (p:=⟨rb,1+a,none⟩) (on_drewN hO _) (.inr rfl) _⟩
set_option maxHeartbeats 2000000 in
theorem locked_no(Z:Nat→Prop)(w:World)(rb:Nat)(n:Int)(K:TsK)(tn:Nat)(s:Ts)(t:Th)(i:Ins)(ad:Int)(hR:RunB w rb n K.mb tn t i ad)(hM:TsM Z w K s)(hZ:Z rb)(hn:s.evs.length≤99999999999)(a:Nat)(ha:a < 8)(hia:i.a=a)(old v:Int):
  Calls Tryz.prog 173 #[.pointer (some ⟨rb,0,none⟩),.int .u32 old,.int .u32 v,.bool false] w (RPost Z w rb n K tn i ad (t.put a old) (s.note tn ⟨4,0,t.pc,ad,old,old,0,false⟩)):=by
 have HM:=Lib.hid hM
 have HR:=Lib.hid hR
 have HZ:=Lib.hid hZ
 have hlt:=hR.lt
 obtain⟨c0,c9,c10,c11,c12,c13,c14,c15,c16,c17,c18,c19,c20,c21,c22,c23,c24,c25,c26⟩:=hR.cells
 clear hR hM hZ
 go_enter Tryz.func173,Tryz.ntmps173
 go_wp2_with (first
  | (go_at_call 171;refine (note_run Z _ rb n K tn _ t i _ HR.out HM.out (by omega) ⟨4,0,0,0,old,old,0,false⟩).mono ?_;rintro r w2 ⟨rfl,hM2,hO2⟩;have hR2:=HR.out.only hO2 (fun h=>h HZ.out);have hO:Only (fun k=>¬Z k∨k=rb) w w2:=hO2.mono (fun k e=>.inl e))
  | (go_at_call 172;refine (reg_run _ rb n K.mb tn t i _ hR2 a ha hia).mono ?_;rintro r w3 ⟨rfl,m,rfl⟩;have q1:(w2.drewN m).cell? ⟨rb,1+a,none⟩=some (.int .u32 (t.reg a)):=hR2.reg a ha;have q2:(w2.drewN m).frozen? ⟨rb,1+a,none⟩=false:=hR2.frozen (1+a)))
 all_goals go_end0
 all_goals exact⟨rfl,RunB.put (RunB.drewN hR2 _) a ha _,TsM.keep (TsM.drewN hM2 _) (Only.set1 (F:=fun k=>k=rb) (p:=⟨rb,1+a,none⟩) (Only.refl _ _) rfl _) (fun k e _=>by subst e;exact HZ.out),Only.set1 (p:=⟨rb,1+a,none⟩) (on_drewN hO _) (.inr rfl) _⟩
end Go.Proofs.YtcnmhgblbikfkaaGreatDoor.As.T
end

section
set_option linter.unusedVariables false
set_option linter.unusedSimpArgs false
set_option maxRecDepth 20000
namespace Go.Proofs.YtcnmhgblbikfkaaGreatDoor.As.T
open Go.RowKit

theorem TsM.runB{Z:Nat→Prop}{w:World}{K:TsK}{s:Ts}{rb j:Nat}(h:TsM Z w K s)(hZ:Z rb)(v:Value):TsM Z (w.setCell ⟨rb,j,none⟩ v) K s:=
 h.keep (Only.set1 (F:=fun k=>k=rb) (p:=⟨rb,j,none⟩) (Only.refl _ _) rfl _) (fun k e _=>by subst e;exact hZ)
theorem on_alloc{F:Nat→Prop}{a w:World}(h:Only F a w)(X:Obj):Only F a (w.alloc X):=
 ⟨h.os,h.tape,h.output,by have:=h.size;simp;omega,fun k hk hn=>by
  have hk2:k < w.heap.size:=Nat.lt_of_lt_of_le hk h.size
  exact (Below.heap_alloc _ _ _ hk2).trans (h.block k hk hn)⟩
theorem RunB.alloc{w:World}{rb:Nat}{n:Int}{mb tn:Nat}{t:Th}{i:Ins}{ad:Int}(h:RunB w rb n mb tn t i ad)(X:Obj):RunB (w.alloc X) rb n mb tn t i ad:=
 h.only (F:=fun _=>False) (on_alloc (Only.refl _ w) X) (fun e=>e)
theorem cells10{w:World}{g:Nat}{a b c d e f h i j k:Value}{t:TypeId}(hx:w.heap[g]? = some (.cells #[a,b,c,d,e,f,h,i,j,k] t (0,0))):
  w.cell? ⟨g,0,none⟩=some a∧w.cell? ⟨g,1,none⟩=some b∧w.cell? ⟨g,2,none⟩=some c∧w.cell? ⟨g,3,none⟩=some d∧w.cell? ⟨g,4,none⟩=some e∧w.cell? ⟨g,5,none⟩=some f∧w.cell? ⟨g,6,none⟩=some h∧w.cell? ⟨g,7,none⟩=some i∧w.cell? ⟨g,8,none⟩=some j∧w.cell? ⟨g,9,none⟩=some k:=
 ⟨cell_of_row w g 0 _ _ _ hx,cell_of_row w g 1 _ _ _ hx,cell_of_row w g 2 _ _ _ hx,cell_of_row w g 3 _ _ _ hx,cell_of_row w g 4 _ _ _ hx,cell_of_row w g 5 _ _ _ hx,cell_of_row w g 6 _ _ _ hx,cell_of_row w g 7 _ _ _ hx,cell_of_row w g 8 _ _ _ hx,cell_of_row w g 9 _ _ _ hx⟩
theorem cellsT{w:World}{rb:Nat}{n:Int}{mb tn:Nat}{pc st:Int}{r0 r1 r2 r3 r4 r5 r6 r7:Int}{i:Ins}{ad:Int}(h:RunB w rb n mb tn ⟨pc,[r0,r1,r2,r3,r4,r5,r6,r7],st⟩ i ad):
  w.cell? ⟨rb,0,none⟩=some (.int .i64 pc)∧w.cell? ⟨rb,1,none⟩=some (.int .u32 r0)∧w.cell? ⟨rb,2,none⟩=some (.int .u32 r1)∧w.cell? ⟨rb,3,none⟩=some (.int .u32 r2)∧w.cell? ⟨rb,4,none⟩=some (.int .u32 r3)∧w.cell? ⟨rb,5,none⟩=some (.int .u32 r4)∧w.cell? ⟨rb,6,none⟩=some (.int .u32 r5)∧w.cell? ⟨rb,7,none⟩=some (.int .u32 r6)∧w.cell? ⟨rb,8,none⟩=some (.int .u32 r7)∧w.cell? ⟨rb,9,none⟩=some (.int .i64 st):=
 ⟨cell_of_row w rb 0 _ _ _ h.2,cell_of_row w rb 1 _ _ _ h.2,cell_of_row w rb 2 _ _ _ h.2,cell_of_row w rb 3 _ _ _ h.2,cell_of_row w rb 4 _ _ _ h.2,cell_of_row w rb 5 _ _ _ h.2,cell_of_row w rb 6 _ _ _ h.2,cell_of_row w rb 7 _ _ _ h.2,cell_of_row w rb 8 _ _ _ h.2,cell_of_row w rb 9 _ _ _ h.2⟩
theorem set10{w:World}{R:Nat}{o0 o1 o2 o3 o4 o5 o6 o7 o8 o9:Value}{t:TypeId}(h:w.heap[R]? = some (.cells #[o0,o1,o2,o3,o4,o5,o6,o7,o8,o9] t (0,0)))(v0 v1 v2 v3 v4 v5 v6 v7 v8 v9:Value):
  ((((((((((w.setCell ⟨R,0,none⟩ v0).setCell ⟨R,1,none⟩ v1).setCell ⟨R,2,none⟩ v2).setCell ⟨R,3,none⟩ v3).setCell ⟨R,4,none⟩ v4).setCell ⟨R,5,none⟩ v5).setCell ⟨R,6,none⟩ v6).setCell ⟨R,7,none⟩ v7).setCell ⟨R,8,none⟩ v8).setCell ⟨R,9,none⟩ v9).heap[R]? = some (.cells #[v0,v1,v2,v3,v4,v5,v6,v7,v8,v9] t (0,0))∧Only (fun k=>k=R) w ((((((((((w.setCell ⟨R,0,none⟩ v0).setCell ⟨R,1,none⟩ v1).setCell ⟨R,2,none⟩ v2).setCell ⟨R,3,none⟩ v3).setCell ⟨R,4,none⟩ v4).setCell ⟨R,5,none⟩ v5).setCell ⟨R,6,none⟩ v6).setCell ⟨R,7,none⟩ v7).setCell ⟨R,8,none⟩ v8).setCell ⟨R,9,none⟩ v9):=
 ⟨(heap_setCell_same _ R 9 _ t _ (heap_setCell_same _ R 8 _ t _ (heap_setCell_same _ R 7 _ t _ (heap_setCell_same _ R 6 _ t _ (heap_setCell_same _ R 5 _ t _ (heap_setCell_same _ R 4 _ t _ (heap_setCell_same _ R 3 _ t _ (heap_setCell_same _ R 2 _ t _ (heap_setCell_same _ R 1 _ t _ (heap_setCell_same _ R 0 _ t _ (h))))))))))).trans (by simp),Only.set1 (F:=fun k=>k=R) (p:=⟨R,9,none⟩) (Only.set1 (F:=fun k=>k=R) (p:=⟨R,8,none⟩) (Only.set1 (F:=fun k=>k=R) (p:=⟨R,7,none⟩) (Only.set1 (F:=fun k=>k=R) (p:=⟨R,6,none⟩) (Only.set1 (F:=fun k=>k=R) (p:=⟨R,5,none⟩) (Only.set1 (F:=fun k=>k=R) (p:=⟨R,4,none⟩) (Only.set1 (F:=fun k=>k=R) (p:=⟨R,3,none⟩) (Only.set1 (F:=fun k=>k=R) (p:=⟨R,2,none⟩) (Only.set1 (F:=fun k=>k=R) (p:=⟨R,1,none⟩) (Only.set1 (F:=fun k=>k=R) (p:=⟨R,0,none⟩) (Only.refl _ w) rfl v0) rfl v1) rfl v2) rfl v3) rfl v4) rfl v5) rfl v6) rfl v7) rfl v8) rfl v9⟩
theorem results_th{fn:Func}{p:Tmp}(h:fn.results=#[.cell p 79])(tmps:Array Value)(w:World)(R:Nat)(a b c d e f g k l m:Value)(hb:w.heap[R]? = some (.cells #[a,b,c,d,e,f,g,k,l,m] 79 (0,0)))(hp:tmps.getD p undef=.pointer (some ⟨R,0,none⟩)):
  (results fn tmps).run Tryz.prog w=.ok (.agg #[a,b,c,d,e,f,g,k,l,m]) w:=by
 have hl:=run_loadVar_row (P := Tryz.prog) w R 79 79 _ _ _ hb Tryz.underlying79 rfl (by kernel_rfl)
 simp only [Array.getD_eq_getD_getElem?] at hp
 simp [results,h,hp,asAddr,hl]

theorem goes_jump(w:World)(rb:Nat)(n:Int)(mb tn:Nat)(t:Th)(i:Ins)(ad:Int)(hR:RunB w rb n mb tn t i ad)(hop:i.op=13):
  Calls Tryz.prog 153 #[.pointer (some ⟨rb,0,none⟩)] w fun e w'=>e=.returned (.bool (goesI i t))∧∃ m,w'=w.drewN m:=by
 have HR:=Lib.hid hR
 obtain⟨c0,c9,c10,c11,c12,c13,c14,c15,c16,c17,c18,c19,c20,c21,c22,c23,c24,c25,c26⟩:=hR.cells
 rw [hop] at c10
 have he:goesI i t=true:=by unfold goesI;rw [hop];rfl
 rw [he]
 clear hR he hop
 go_enter Tryz.func153,Tryz.ntmps153
 go_wp2_with fail
 go_ret
 exact⟨rfl,0,rfl⟩

theorem goes_zero(w:World)(rb:Nat)(n:Int)(mb tn:Nat)(t:Th)(i:Ins)(ad:Int)(hR:RunB w rb n mb tn t i ad)(hop:i.op=14)(a:Nat)(ha:a < 8)(hia:i.a=a):
  Calls Tryz.prog 153 #[.pointer (some ⟨rb,0,none⟩)] w fun e w'=>e=.returned (.bool (goesI i t))∧∃ m,w'=w.drewN m:=by
 have HR:=Lib.hid hR
 have z1:=hR.reg a ha
 obtain⟨c0,c9,c10,c11,c12,c13,c14,c15,c16,c17,c18,c19,c20,c21,c22,c23,c24,c25,c26⟩:=hR.cells
 rw [hop] at c10
 have he:goesI i t=decide (t.reg a=0):=by unfold goesI;rw [hop];rw [if_neg (by decide),if_pos rfl,hia]
 rw [he]
 clear hR he hop
 go_enter Tryz.func153,Tryz.ntmps153
 go_wp2_with (go_at_call 172;refine (reg_run _ rb n mb tn t i _ HR.out a ha hia).mono ?_;rintro r w1 ⟨rfl,m,rfl⟩;have y1:(w.drewN m).cell? ⟨rb,1+a,none⟩=some (.int .u32 (t.reg a)):=z1)
 go_ret
 refine⟨congrArg (fun x=>Ending.returned (.bool x)) ?_,m,rfl⟩
 rw [Bool.eq_iff_iff];simp

theorem goes_some(w:World)(rb:Nat)(n:Int)(mb tn:Nat)(t:Th)(i:Ins)(ad:Int)(hR:RunB w rb n mb tn t i ad)(hop:i.op=15)(a:Nat)(ha:a < 8)(hia:i.a=a):
  Calls Tryz.prog 153 #[.pointer (some ⟨rb,0,none⟩)] w fun e w'=>e=.returned (.bool (goesI i t))∧∃ m,w'=w.drewN m:=by
 have HR:=Lib.hid hR
 have z1:=hR.reg a ha
 obtain⟨c0,c9,c10,c11,c12,c13,c14,c15,c16,c17,c18,c19,c20,c21,c22,c23,c24,c25,c26⟩:=hR.cells
 rw [hop] at c10
 have he:goesI i t=decide (t.reg a≠0):=by unfold goesI;rw [hop];rw [if_neg (by decide),if_neg (by decide),hia]
 rw [he]
 clear hR he hop
 go_enter Tryz.func153,Tryz.ntmps153
 go_wp2_with (go_at_call 172;refine (reg_run _ rb n mb tn t i _ HR.out a ha hia).mono ?_;rintro r w1 ⟨rfl,m,rfl⟩;have y1:(w.drewN m).cell? ⟨rb,1+a,none⟩=some (.int .u32 (t.reg a)):=z1)
 go_ret
 refine⟨congrArg (fun x=>Ending.returned (.bool x)) ?_,m,rfl⟩
 rw [Bool.eq_iff_iff];simp

set_option maxHeartbeats 2000000 in
theorem halts_run(Z:Nat→Prop)(w:World)(rb:Nat)(n:Int)(K:TsK)(tn:Nat)(s:Ts)(t:Th)(i:Ins)(ad:Int)(hR:RunB w rb n K.mb tn t i ad)(hM:TsM Z w K s)(hZ:Z rb)(hn:s.evs.length≤99999999999):
  Calls Tryz.prog 148 #[.pointer (some ⟨rb,0,none⟩)] w fun e w'=>e=.returned (.agg ({ t with st:=2 }:Th).cells.toArray)∧TsM Z w' K (s.note tn ⟨12,0,t.pc,ad,0,0,0,false⟩)∧Only (fun k=>¬Z k∨k=rb) w w':=by
 have HM:=Lib.hid hM
 have HR:=Lib.hid hR
 have HZ:=Lib.hid hZ
 have hlt:=hR.lt
 have hsz:(w.setCell ⟨rb,9,none⟩ (.int .i64 2)).heap.size=w.heap.size:=by simp
 have hM2:=(TsM.runB hM (j:=9) hZ (.int .i64 2)).guard (.cells #[.int .i64 0,.int .u32 0,.int .u32 0,.int .u32 0,.int .u32 0,.int .u32 0,.int .u32 0,.int .u32 0,.int .u32 0,.int .i64 0] 79 (0,0))
 rw [hsz] at hM2
 have hR2:=(hR.st 2).alloc (.cells #[.int .i64 0,.int .u32 0,.int .u32 0,.int .u32 0,.int .u32 0,.int .u32 0,.int .u32 0,.int .u32 0,.int .u32 0,.int .i64 0] 79 (0,0))
 have hnew:=heap_alloc_new (w.setCell ⟨rb,9,none⟩ (.int .i64 2)) (.cells #[.int .i64 0,.int .u32 0,.int .u32 0,.int .u32 0,.int .u32 0,.int .u32 0,.int .u32 0,.int .u32 0,.int .u32 0,.int .i64 0] 79 (0,0))
 rw [hsz] at hnew
 have HNEW:=Lib.hid hnew
 have HSZ:=Lib.hid hsz
 clear hnew hsz
 have HM2:=Lib.hid hM2
 have HR2:=Lib.hid hR2
 have hfr:=hR.frozen 9
 obtain⟨c0,c9,c10,c11,c12,c13,c14,c15,c16,c17,c18,c19,c20,c21,c22,c23,c24,c25,c26⟩:=hR.cells
 clear hR hM hZ hM2 hR2
 go_enter Tryz.func148,Tryz.ntmps148
 go_wp2_with fail
 refine (note_run (fun k=>Z k∨k=w.heap.size) _ rb n K tn s { t with st:=2 } i _ HR2.out HM2.out (by omega) ⟨12,0,0,0,0,0,0,false⟩).mono ?_
 rintro r w2 ⟨rfl,hM3,hO3⟩
 have hR3:=HR2.out.only hO3 (fun h=>h (.inl HZ.out))
 have hN3:w2.heap[w.heap.size]? = _:=(hO3.block _ (by simp) (fun h=>h (.inr rfl))).trans HNEW.out
 obtain⟨v0,v1,v2,v3,v4,v5,v6,v7,v8,v9⟩:=cells10 hN3
 have g0:=fun j=>frozen_of_row w2 w.heap.size j _ _ hN3
 obtain⟨pc,regs,st⟩:=t
 obtain⟨r0,r1,r2,r3,r4,r5,r6,r7,rfl⟩:=list8 hR3.1
 obtain⟨x0,x1,x2,x3,x4,x5,x6,x7,x8,x9⟩:=cellsT hR3
 have G0:=g0 0
 have G1:=g0 1
 have G2:=g0 2
 have G3:=g0 3
 have G4:=g0 4
 have G5:=g0 5
 have G6:=g0 6
 have G7:=g0 7
 have G8:=g0 8
 have G9:=g0 9
 clear g0
 obtain⟨hs1,hs2⟩:=set10 hN3 (.int .i64 pc) (.int .u32 r0) (.int .u32 r1) (.int .u32 r2) (.int .u32 r3) (.int .u32 r4) (.int .u32 r5) (.int .u32 r6) (.int .u32 r7) (.int .i64 2)
 have HS1:=Lib.hid hs1
 have HS2:=Lib.hid hs2
 have HN3:=Lib.hid hN3
 clear hs1 hs2 hN3
 go_wp2_with fail
 refine bodyPost_ret (results_th rfl _ _ w.heap.size _ _ _ _ _ _ _ _ _ _ HS1.out rfl) rfl ?_
 refine⟨rfl,(hM3.keep HS2.out (fun k e _=>.inr e)).less (fun k h=>.inl h),?_⟩
 have h1:Only (fun k=>¬Z k∨k=rb) w ((w.setCell ⟨rb,9,none⟩ (.int .i64 2)).alloc (.cells #[.int .i64 0,.int .u32 0,.int .u32 0,.int .u32 0,.int .u32 0,.int .u32 0,.int .u32 0,.int .u32 0,.int .u32 0,.int .i64 0] 79 (0,0))):=on_alloc (Only.set1 (p:=⟨rb,9,none⟩) (Only.refl _ w) (.inr rfl) _) _
 have h2:=h1.trans hO3 (fun k e=>by
  by_cases hz:Z k
  ·right
   have hk:¬(Z k∨k=w.heap.size):=e
   exact absurd (.inl hz) hk
  ·exact .inl (.inl hz))
 exact h2.trans HS2.out (fun k e=>.inr (by subst e;exact Nat.le_refl _))

theorem addr_none(w:World)(t:Th)(i:Ins)(pc st r0 r1 r2 r3 r4 r5 r6 r7:Int)(h:i.b < 0∨8≤i.b):
  Calls Tryz.prog 151 #[.agg #[.int .i64 pc,.int .u32 r0,.int .u32 r1,.int .u32 r2,.int .u32 r3,.int .u32 r4,.int .u32 r5,.int .u32 r6,.int .u32 r7,.int .i64 st],.agg #[.int .i64 i.op,.int .i64 i.a,.int .i64 i.b,.int .i64 i.c,.int .u32 i.k]] w fun e w'=>e=.returned (.int .u32 i.k)∧Below w.heap.size w w':=by
 have hb:∀ X Y,Below w.heap.size w ((w.alloc X).alloc Y):=fun X Y=>((Below.refl _ w).alloc (Nat.le_refl _) X).alloc (by simp) Y
 rcases h with h | h
 ·have d:decide (i.b < 0)=true:=decide_eq_true h
  clear h
  go_enter Tryz.func151,Tryz.ntmps151
  go_wp2_with fail
  go_ret
  exact⟨rfl,hb _ _⟩
 ·have d:decide (i.b < 0)=false:=decide_eq_false (by omega)
  have d2:decide (8≤i.b)=true:=decide_eq_true h
  clear h
  go_enter Tryz.func151,Tryz.ntmps151
  go_wp2_with fail
  go_ret
  exact⟨rfl,hb _ _⟩
set_option maxHeartbeats 2000000 in
theorem addr_some(w:World)(i:Ins)(pc st r0 r1 r2 r3 r4 r5 r6 r7:Int)(b:Nat)(hb:b < 8)(hib:i.b=b)(hk:0≤i.k∧i.k≤4294967295)(hr:0≤(Th.mk pc [r0,r1,r2,r3,r4,r5,r6,r7] st).reg b∧(Th.mk pc [r0,r1,r2,r3,r4,r5,r6,r7] st).reg b≤4294967295):
  Calls Tryz.prog 151 #[.agg #[.int .i64 pc,.int .u32 r0,.int .u32 r1,.int .u32 r2,.int .u32 r3,.int .u32 r4,.int .u32 r5,.int .u32 r6,.int .u32 r7,.int .i64 st],.agg #[.int .i64 i.op,.int .i64 i.a,.int .i64 i.b,.int .i64 i.c,.int .u32 i.k]] w fun e w'=>e=.returned (.int .u32 (wr32 ((Th.mk pc [r0,r1,r2,r3,r4,r5,r6,r7] st).reg b+i.k)))∧Below w.heap.size w w':=by
 have hbl:∀ X Y,Below w.heap.size w ((w.alloc X).alloc Y):=fun X Y=>((Below.refl _ w).alloc (Nat.le_refl _) X).alloc (by simp) Y
 obtain⟨op,ia,ib,ic,ik⟩:=i
 dsimp only at hib hk ⊢
 subst hib
 obtain⟨v,hv⟩:∃ v,v=(Th.mk pc [r0,r1,r2,r3,r4,r5,r6,r7] st).reg b:=⟨_,rfl⟩
 have hw0:(w.alloc (.cells #[.int .i64 pc,.int .u32 r0,.int .u32 r1,.int .u32 r2,.int .u32 r3,.int .u32 r4,.int .u32 r5,.int .u32 r6,.int .u32 r7,.int .i64 st] 79 (0,0))).cell? ⟨w.heap.size,1+b,none⟩=some (.int .u32 v):=by
  rw [hv]
  refine (cell_of_row _ w.heap.size (1+b) _ _ _ (heap_alloc_new _ _)).trans ?_
  have h8:b=0∨b=1∨b=2∨b=3∨b=4∨b=5∨b=6∨b=7:=by omega
  rcases h8 with rfl | rfl | rfl | rfl | rfl | rfl | rfl | rfl<;>rfl
 rw [←hv] at hr ⊢
 have hw1:∀ Y,((w.alloc (.cells #[.int .i64 pc,.int .u32 r0,.int .u32 r1,.int .u32 r2,.int .u32 r3,.int .u32 r4,.int .u32 r5,.int .u32 r6,.int .u32 r7,.int .i64 st] 79 (0,0))).alloc Y).cell? ⟨w.heap.size,1+b,none⟩=some (.int .u32 v):=fun Y=>(World.cell?_of_block (a:=⟨w.heap.size,1+b,none⟩) (Below.heap_alloc _ Y _ (by simp))).trans hw0
 have hw2:∀ Y,((w.alloc (.cells #[.int .i64 pc,.int .u32 r0,.int .u32 r1,.int .u32 r2,.int .u32 r3,.int .u32 r4,.int .u32 r5,.int .u32 r6,.int .u32 r7,.int .i64 st] 79 (0,0))).alloc Y).drew.cell? ⟨w.heap.size,1+b,none⟩=some (.int .u32 v):=hw1
 have hw3:=hw1 (.cells #[.int .i64 op,.int .i64 ia,.int .i64 b,.int .i64 ic,.int .u32 ik] 132 (0,0))
 have hw4:=hw2 (.cells #[.int .i64 op,.int .i64 ia,.int .i64 b,.int .i64 ic,.int .u32 ik] 132 (0,0))
 have h1:(b:Int) < 8:=by omega
 have h0:(0:Int)≤(b:Int):=by omega
 have hdo:=fun W=>aluAdd_any W v ik hr.1 hr.2 hk.1 hk.2
 clear hv
 go_enter Tryz.func151,Tryz.ntmps151
 go_wp2_with fail
 go_region_with (go_at_call 106;refine (hdo _).mono ?_;rintro r w1 ⟨rfl,hb1⟩)
 all_goals go_wp2_with fail
 all_goals go_ret
 all_goals exact⟨rfl,(bl_drew (hbl _ _)).trans (hb1.mono (hbl _ _).size)⟩
end Go.Proofs.YtcnmhgblbikfkaaGreatDoor.As.T
end

section
set_option linter.unusedVariables false
set_option linter.unusedSimpArgs false
set_option maxRecDepth 20000
namespace Go.Proofs.YtcnmhgblbikfkaaGreatDoor.As
open Go.RowKit

def SideAt(w:World)(p mb t:Nat):Prop:=w.heap[p]? = some (.cells #[.pointer (some ⟨mb,0,none⟩),.int .i64 t] 153 (0,0))
theorem SideAt.cells{w:World}{p mb t:Nat}(h:SideAt w p mb t):w.cell? ⟨p,0,none⟩=some (.pointer (some ⟨mb,0,none⟩))∧w.cell? ⟨p,1,none⟩=some (.int .i64 t):=⟨cell_of_row _ _ 0 _ _ _ h,cell_of_row _ _ 1 _ _ _ h⟩
theorem SideAt.only{F:Nat→Prop}{w w':World}{p mb t:Nat}(h:SideAt w p mb t)(ho:Only F w w')(hF:¬F p):SideAt w' p mb t:=(ho.block _ (Array.getElem?_eq_some_iff.1 h).1 hF).trans h
theorem SideAt.below{w w':World}{p mb t:Nat}(h:SideAt w p mb t)(hb:Below w.heap.size w w'):SideAt w' p mb t:=(hb.block _ (Array.getElem?_eq_some_iff.1 h).1).trans h
theorem TsM.nb{Z:Nat→Prop}{w:World}{K:TsK}{s:Ts}(h:TsM Z w K s):s.bufs.length=s.ths.length:=h.2.2.1
set_option maxHeartbeats 4000000 in
theorem remote_ts(Z:Nat→Prop)(w:World)(K:TsK)(s:Ts)(t:Nat)(h:TsM Z w K s)(ht:t < s.ths.length)(hok:s.okB)(hn:s.evs.length+s.pend≤100000000000)(hT:s.ths.length≤1000):
  Calls Tryz.prog 163 #[.agg #[.pointer (some ⟨K.mb,0,none⟩),.int .i64 t]] w fun e w'=>e=.returned (.tuple #[])∧TsM Z w' K s.remote∧Only (fun k=>¬Z k) w w':=by
 obtain⟨w1,hw1⟩:∃ w1,w.alloc (.cells #[.pointer (some ⟨K.mb,0,none⟩),.int .i64 t] 153)=w1:=⟨_,rfl⟩
 have hA1:SideAt w1 w.heap.size K.mb t:=by rw [←hw1];exact heap_alloc_new _ _
 have hM1:TsM (fun k=>Z k∨k=w.heap.size) w1 K s:=by rw [←hw1];exact h.guard _
 have hB1:Below w.heap.size w w1:=by rw [←hw1];exact (Below.refl _ w).alloc (Nat.le_refl _) _
 have hO1:Only (fun k=>¬Z k) w w1:=Only.of_below hB1 (Nat.le_refl _)
 obtain⟨c0,c1⟩:=hA1.cells
 have c2:w1.cell? ⟨K.mb,2,none⟩=some (.slice (some ⟨K.bb,0,none⟩) s.bufs.length K.bc):=by
  obtain⟨_,_,_,_,_,ev,kv,ma,ta,ba,A,_⟩:=hM1
  exact cell_of_row _ _ 2 _ _ _ A.hb
 have HM1:=Lib.hid hM1
 have HA1:=Lib.hid hA1
 have HO1:=Lib.hid hO1
 have HOK:=Lib.hid hok
 have HW1:=Lib.hid hw1
 have HNB:=Lib.hid h.nb
 have HT:=Lib.hid hT
 have HN:=Lib.hid hn
 clear hw1 hB1 hM1 hA1 hO1 h
 go_enter Tryz.func163,Tryz.ntmps163
 go_upto_region 1 with fail
 rw [HW1.out]
 go_wp2_with fail
 clear HW1 c0 c1 c2
 obtain⟨N,hN⟩:∃ N,s.bufs.length=N:=⟨_,rfl⟩
 rw [hN]
 go_loopg [10] N (fun g iv wr=>∃ (i:Nat) (si:Ts),i+g=N∧iv=.int .i64 i∧Hid (TsM (fun k=>Z k∨k=w.heap.size) wr K si∧Ts.Same s si∧Ts.remoteFrom g i si=s.remote∧SideAt wr w.heap.size K.mb t∧Only (fun k=>¬Z k) w wr))
 case atStart=>exact⟨0,s,by omega,rfl,Lib.hid ⟨HM1.out,Ts.Same.refl s,by rw [←hN];rfl,HA1.out,HO1.out⟩⟩
 case round=>
  obtain⟨i,si,hi,rfl,HR⟩:=hrel
  obtain⟨c0,c1⟩:=HR.out.2.2.2.1.cells
  by_cases hlt:i < N
  ·obtain⟨g',rfl⟩:∃ g',gk=g'+1:=⟨gk - 1,by omega⟩
   have hil:(i:Int) < (N:Int):=by omega
   have hwr:wrap64 ((i:Int)+1)=(i:Int)+1:=by have h1:=HNB.out;have h2:=HT.out;unfold wrap64;omega
   have hib:i < si.bufs.length:=by rw [HR.out.2.1.nb];omega
   have HIB:=Lib.hid hib
   clear hib
   go_wp2_with fail
   go_loopg [3] (si.buf i).length (fun g2 pv wq=>∃ (p:Nat) (sj:Ts),pv=.pointer (some ⟨p,0,none⟩)∧Hid ((sj.buf i).length=g2∧TsM (fun k=>(Z k∨k=w.heap.size)∨k=p) wq K sj∧Ts.Same s sj∧Ts.drain i g2 sj=Ts.drain i (si.buf i).length si∧SideAt wq p K.mb i∧SideAt wq w.heap.size K.mb t∧Only (fun k=>¬Z k) w wq))
   case atStart=>
    refine⟨wr.heap.size,si,rfl,Lib.hid ⟨rfl,HR.out.1.guard _,HR.out.2.1,rfl,heap_alloc_new _ _,up_al HR.out.2.2.2.1,?_⟩⟩
    exact HR.out.2.2.2.2.trans (F:=fun k=>¬Z k) ⟨rfl,rfl,rfl,by simp,fun k hk _=>Below.heap_alloc _ _ _ hk⟩ (fun _ q=>.inl q)
   case round=>
    obtain⟨p,sj,rfl,HJ⟩:=hrel
    obtain⟨p0,p1⟩:=HJ.out.2.2.2.2.1.cells
    have hjb:i < sj.ths.length:=by
     have h1:=HJ.out.2.2.1.nb
     have h2:=HJ.out.2.1.nb
     omega
    have HJB:=Lib.hid hjb
    clear hjb
    have hn6:sj.evs.length≤100000000000:=by have h1:=HJ.out.2.2.1.n;have h2:=HN.out;omega
    have hadr:∀ e∈sj.buf i,e.1 < sj.mem.length:=HJ.out.2.2.1.ok HOK.out i (sj.buf i) (Ts.buf_get (by have h1:=HJ.out.2.1.nb;have h2:=HJB.out;omega))
    have HN6:=Lib.hid hn6
    have HAD:=Lib.hid hadr
    clear hn6 hadr
    cases he:sj.empty i with
    | false=>
     have hge:∃ n,gk=n+1:=⟨gk - 1,by
      have h1:=HJ.out.1
      have h2:¬(sj.buf i).length=0:=by unfold Ts.empty at he;simpa using he
      omega⟩
     obtain⟨n,rfl⟩:=hge
     go_wp2_with (first
      | (go_at_call 159;refine (empty_ts _ _ K sj i HJ.out.2.1 HJB.out).mono ?_;rintro r w5 ⟨rfl,hb5⟩;have HB5:=Lib.hid hb5;clear hb5;have hs5:=(HJ.out.2.2.2.2.1.below HB5.out).cells)
      | (go_at_call 71;refine (flush_ts _ _ K sj i (HJ.out.2.1.below HB5.out) HJB.out HN6.out HAD.out).mono ?_;rintro r w6 ⟨rfl,hM6,hO6⟩;have HM6:=Lib.hid hM6;have HO6:=Lib.hid hO6;clear hM6 hO6;have hs6:=((HJ.out.2.2.2.2.1.below HB5.out).only HO6.out (fun q=>q (.inr rfl))).cells))
     go_roundg n
     case rel=>
      have hib:i < sj.bufs.length:=by have h1:=HJ.out.2.1.nb;have h2:=HJB.out;omega
      refine⟨w6.heap.size,sj.flush i,rfl,Lib.hid ⟨?_,(HM6.out.less (fun k q=>.inl q)).guard _,HJ.out.2.2.1.trans (Ts.flush_same sj i hib),HJ.out.2.2.2.1,heap_alloc_new _ _,up_al ((HJ.out.2.2.2.2.2.1.below HB5.out).only HO6.out (fun q=>q (.inl (.inr rfl)))),?_⟩⟩
      ·rw [Ts.flush_buf sj i hib,List.length_tail,HJ.out.1];rfl
      ·exact (((HJ.out.2.2.2.2.2.2.trans (Only.of_below HB5.out (Nat.le_refl _)) (fun _ q=>.inl q)).trans HO6.out (fun k q=>.inl (fun hz=>q (.inl (.inl hz)))))).trans (F:=fun k=>¬Z k) ⟨rfl,rfl,rfl,by simp,fun k hk _=>Below.heap_alloc _ _ _ hk⟩ (fun _ q=>.inl q)
     case measure=>omega
    | true=>
     have hge:gk=0:=by
      have h1:=HJ.out.1
      have h2:(sj.buf i).length=0:=by unfold Ts.empty at he;simpa using he
      omega
     subst hge
     go_wp2_with (go_at_call 159;refine (empty_ts _ _ K sj i HJ.out.2.1 HJB.out).mono ?_;rintro r w5 ⟨rfl,hb5⟩;have HB5:=Lib.hid hb5;clear hb5)
     go_roundg g'
     case rel=>
      refine⟨i+1,sj,by omega,by rw [hwr];rfl,Lib.hid ⟨(HJ.out.2.1.below HB5.out).less (fun k q=>.inl q),HJ.out.2.2.1,?_,HJ.out.2.2.2.2.2.1.below HB5.out,HJ.out.2.2.2.2.2.2.trans (Only.of_below HB5.out (Nat.le_refl _)) (fun _ q=>.inl q)⟩⟩
      have h1:=HR.out.2.2.1
      have h2:=HJ.out.2.2.2.1
      have h3:sj=Ts.drain i (si.buf i).length si:=h2
      rw [h3]
      exact h1
     case measure=>omega
  ·have hg0:gk=0:=by omega
   subst hg0
   have hlf:¬(i:Int) < (N:Int):=by omega
   go_wp2_with fail
   go_end0
   have h1:si=s.remote:=HR.out.2.2.1
   rw [←h1]
   exact⟨rfl,HR.out.1.less (fun k q=>.inl q),HR.out.2.2.2.2⟩
end Go.Proofs.YtcnmhgblbikfkaaGreatDoor.As
end

section
set_option linter.unusedVariables false
set_option linter.unusedSimpArgs false
set_option maxRecDepth 20000
namespace Go.Proofs.YtcnmhgblbikfkaaGreatDoor.As.T
open Go.RowKit

theorem set11{w:World}{R:Nat}{o0 o1 o2 o3 o4 o5 o6 o7 o8 o9 o10:Value}{t:TypeId}(h:w.heap[R]? = some (.cells #[o0,o1,o2,o3,o4,o5,o6,o7,o8,o9,o10] t (0,0)))(v0 v1 v2 v3 v4 v5 v6 v7 v8 v9 v10:Value):
  ((((((((((((w.setCell ⟨R,0,none⟩ v0).setCell ⟨R,1,none⟩ v1).setCell ⟨R,2,none⟩ v2).setCell ⟨R,3,none⟩ v3).setCell ⟨R,4,none⟩ v4).setCell ⟨R,5,none⟩ v5).setCell ⟨R,6,none⟩ v6).setCell ⟨R,7,none⟩ v7).setCell ⟨R,8,none⟩ v8).setCell ⟨R,9,none⟩ v9).setCell ⟨R,10,none⟩ v10)).heap[R]? = some (.cells #[v0,v1,v2,v3,v4,v5,v6,v7,v8,v9,v10] t (0,0))∧Only (fun k=>k=R) w (((((((((((w.setCell ⟨R,0,none⟩ v0).setCell ⟨R,1,none⟩ v1).setCell ⟨R,2,none⟩ v2).setCell ⟨R,3,none⟩ v3).setCell ⟨R,4,none⟩ v4).setCell ⟨R,5,none⟩ v5).setCell ⟨R,6,none⟩ v6).setCell ⟨R,7,none⟩ v7).setCell ⟨R,8,none⟩ v8).setCell ⟨R,9,none⟩ v9).setCell ⟨R,10,none⟩ v10):=
 ⟨((heap_setCell_same _ R 10 _ t _ (heap_setCell_same _ R 9 _ t _ (heap_setCell_same _ R 8 _ t _ (heap_setCell_same _ R 7 _ t _ (heap_setCell_same _ R 6 _ t _ (heap_setCell_same _ R 5 _ t _ (heap_setCell_same _ R 4 _ t _ (heap_setCell_same _ R 3 _ t _ (heap_setCell_same _ R 2 _ t _ (heap_setCell_same _ R 1 _ t _ (heap_setCell_same _ R 0 _ t _ h)))))))))))).trans (by simp),(Only.set1 (F:=fun k=>k=R) (p:=⟨R,10,none⟩) (Only.set1 (F:=fun k=>k=R) (p:=⟨R,9,none⟩) (Only.set1 (F:=fun k=>k=R) (p:=⟨R,8,none⟩) (Only.set1 (F:=fun k=>k=R) (p:=⟨R,7,none⟩) (Only.set1 (F:=fun k=>k=R) (p:=⟨R,6,none⟩) (Only.set1 (F:=fun k=>k=R) (p:=⟨R,5,none⟩) (Only.set1 (F:=fun k=>k=R) (p:=⟨R,4,none⟩) (Only.set1 (F:=fun k=>k=R) (p:=⟨R,3,none⟩) (Only.set1 (F:=fun k=>k=R) (p:=⟨R,2,none⟩) (Only.set1 (F:=fun k=>k=R) (p:=⟨R,1,none⟩) (Only.set1 (F:=fun k=>k=R) (p:=⟨R,0,none⟩) (Only.refl _ w) rfl v0) rfl v1) rfl v2) rfl v3) rfl v4) rfl v5) rfl v6) rfl v7) rfl v8) rfl v9) rfl v10)⟩
theorem results_port{fn:Func}{p:Tmp}(h:fn.results=#[.cell p 196])(tmps:Array Value)(w:World)(R:Nat)(v0 v1 v2 v3 v4 v5 v6 v7 v8 v9 v10:Value)(hb:w.heap[R]? = some (.cells #[v0,v1,v2,v3,v4,v5,v6,v7,v8,v9,v10] 196 (0,0)))(hp:tmps.getD p undef=.pointer (some ⟨R,0,none⟩)):
  (results fn tmps).run Tryz.prog w=.ok (.agg #[v0,v1,v2,v3,v4,v5,v6,v7,v8,v9,v10]) w:=by
 have hl:=run_loadVar_row (P := Tryz.prog) w R 196 196 _ _ _ hb Tryz.underlying196 rfl (by kernel_rfl)
 simp only [Array.getD_eq_getD_getElem?] at hp
 simp [results,h,hp,asAddr,hl]
set_option maxHeartbeats 4000000 in
theorem port_ts(Z:Nat→Prop)(w:World)(K:TsK)(s:Ts)(t:Nat)(h:TsM Z w K s):
  Calls Tryz.prog 108 #[.agg #[.pointer (some ⟨K.mb,0,none⟩),.int .i64 t]] w fun e w'=>e=.returned (.agg (portV (s.mem.length:Int) K.mb t).toArray)∧Below w.heap.size w w':=by
 obtain⟨w1,hw1⟩:∃ w1,w.alloc (.cells #[.pointer (some ⟨K.mb,0,none⟩),.int .i64 t] 153)=w1:=⟨_,rfl⟩
 have hs0:w1.heap[w.heap.size]? = some (.cells #[.pointer (some ⟨K.mb,0,none⟩),.int .i64 t] 153 (0,0)):=by rw [←hw1];exact heap_alloc_new _ _
 have hB1:Below w.heap.size w w1:=by rw [←hw1];exact (Below.refl _ w).alloc (Nat.le_refl _) _
 obtain⟨w2,hw2⟩:∃ w2,w1.alloc (.cells #[.int .i64 0,.nilFunc,.nilFunc,.nilFunc,.nilFunc,.nilFunc,.nilFunc,.nilFunc,.nilFunc,.nilFunc,.nilFunc] 196)=w2:=⟨_,rfl⟩
 have hs2:w2.heap[w.heap.size+1]? = some (.cells #[.int .i64 0,.nilFunc,.nilFunc,.nilFunc,.nilFunc,.nilFunc,.nilFunc,.nilFunc,.nilFunc,.nilFunc,.nilFunc] 196 (0,0)):=by
  have e:w1.heap.size=w.heap.size+1:=by rw [←hw1];simp
  rw [←hw2,←e];exact heap_alloc_new _ _
 have hB2:Below w.heap.size w w2:=by rw [←hw2];exact hB1.alloc hB1.size _
 have hs1:w2.heap[w.heap.size]? = some (.cells #[.pointer (some ⟨K.mb,0,none⟩),.int .i64 t] 153 (0,0)):=by rw [←hw2];exact up_al hs0
 have hc0:w2.cell? ⟨w.heap.size,0,none⟩=some (.pointer (some ⟨K.mb,0,none⟩)):=cell_of_row _ _ 0 _ _ _ hs1
 have hc1:w2.cell? ⟨w.heap.size,1,none⟩=some (.int .i64 t):=cell_of_row _ _ 1 _ _ _ hs1
 have hM1:=h.below hB2
 have hc3:w2.cell? ⟨K.mb,3,none⟩=some (.slice (some ⟨K.mm,0,none⟩) s.mem.length K.mc):=by
  obtain⟨_,_,_,_,_,ev,kv,ma,ta,ba,A,_⟩:=hM1
  exact cell_of_row _ _ 3 _ _ _ A.hb
 have HS2:=Lib.hid hs2
 have HB2:=Lib.hid hB2
 have HW2:=Lib.hid hw2
 have HW1:=Lib.hid hw1
 clear hw1 hB1 hM1 h hs0 hs2 hB2 hw2 hs1
 go_enter Tryz.func108,Tryz.ntmps108
 go_upto_region 1 with fail
 rw [HW1.out]
 clear HW1
 rw [HW2.out]
 clear HW2
 go_still_tail 27,(by kernel_rfl)
 change wpList _ _ _ _ _ w2.drew
 have hs3:w2.drew.heap[w.heap.size+1]? = some (.cells #[.int .i64 0,.nilFunc,.nilFunc,.nilFunc,.nilFunc,.nilFunc,.nilFunc,.nilFunc,.nilFunc,.nilFunc,.nilFunc] 196 (0,0)):=HS2.out
 have hB3:Below w.heap.size w w2.drew:=bl_drw HB2.out
 generalize w2.drew=w3 at *
 have HS3:=Lib.hid hs3
 have HB3:=Lib.hid hB3
 have x0:=cell_of_row _ _ 0 _ _ _ hs3
 have y0:=frozen_of_row w3 (w.heap.size+1) 0 _ _ hs3
 have x1:=cell_of_row _ _ 1 _ _ _ hs3
 have y1:=frozen_of_row w3 (w.heap.size+1) 1 _ _ hs3
 have x2:=cell_of_row _ _ 2 _ _ _ hs3
 have y2:=frozen_of_row w3 (w.heap.size+1) 2 _ _ hs3
 have x3:=cell_of_row _ _ 3 _ _ _ hs3
 have y3:=frozen_of_row w3 (w.heap.size+1) 3 _ _ hs3
 have x4:=cell_of_row _ _ 4 _ _ _ hs3
 have y4:=frozen_of_row w3 (w.heap.size+1) 4 _ _ hs3
 have x5:=cell_of_row _ _ 5 _ _ _ hs3
 have y5:=frozen_of_row w3 (w.heap.size+1) 5 _ _ hs3
 have x6:=cell_of_row _ _ 6 _ _ _ hs3
 have y6:=frozen_of_row w3 (w.heap.size+1) 6 _ _ hs3
 have x7:=cell_of_row _ _ 7 _ _ _ hs3
 have y7:=frozen_of_row w3 (w.heap.size+1) 7 _ _ hs3
 have x8:=cell_of_row _ _ 8 _ _ _ hs3
 have y8:=frozen_of_row w3 (w.heap.size+1) 8 _ _ hs3
 have x9:=cell_of_row _ _ 9 _ _ _ hs3
 have y9:=frozen_of_row w3 (w.heap.size+1) 9 _ _ hs3
 have x10:=cell_of_row _ _ 10 _ _ _ hs3
 have y10:=frozen_of_row w3 (w.heap.size+1) 10 _ _ hs3
 clear hs3 hB3
 go_wp2_with fail
 obtain⟨hs1,hs2⟩:=set11 HS3.out (.int .i64 s.mem.length) (.func (.func 156) #[.agg #[.pointer (some ⟨K.mb,0,none⟩),.int .i64 t]] #[]) (.func (.func 157) #[.agg #[.pointer (some ⟨K.mb,0,none⟩),.int .i64 t]] #[]) (.func (.func 158) #[.agg #[.pointer (some ⟨K.mb,0,none⟩),.int .i64 t]] #[]) (.func (.func 159) #[.agg #[.pointer (some ⟨K.mb,0,none⟩),.int .i64 t]] #[]) (.func (.func 71) #[.agg #[.pointer (some ⟨K.mb,0,none⟩),.int .i64 t]] #[]) (.func (.func 160) #[.agg #[.pointer (some ⟨K.mb,0,none⟩),.int .i64 t]] #[]) (.func (.func 161) #[.agg #[.pointer (some ⟨K.mb,0,none⟩),.int .i64 t]] #[]) (.func (.func 162) #[.agg #[.pointer (some ⟨K.mb,0,none⟩),.int .i64 t]] #[]) (.func (.func 163) #[.agg #[.pointer (some ⟨K.mb,0,none⟩),.int .i64 t]] #[]) (.func (.func 73) #[.agg #[.pointer (some ⟨K.mb,0,none⟩),.int .i64 t]] #[])
 refine bodyPost_ret (results_port rfl _ _ (w.heap.size+1) _ _ _ _ _ _ _ _ _ _ _ hs1 rfl) rfl ?_
 exact⟨rfl,HB3.out.trans (hs2.below HB3.out.size (fun k e=>by omega))⟩
end Go.Proofs.YtcnmhgblbikfkaaGreatDoor.As.T
end

section
set_option linter.unusedVariables false
set_option linter.unusedSimpArgs false
set_option maxRecDepth 20000
namespace Go.Proofs.YtcnmhgblbikfkaaGreatDoor.As.T
open Go.RowKit

theorem TsM.kern0{Z:Nat→Prop}{w:World}{K:TsK}{s:Ts}(h:TsM Z w K s)(h0:s.slp=[]):∃ A cap,w.cell? ⟨K.mb,4,none⟩=some (.slice A 0 cap):=by
 obtain⟨_,_,_,_,_,ev,kv,ma,ta,ba,A,_⟩:=h
 have hc:w.cell? ⟨K.mb,4,none⟩=some kv:=cell_of_row _ _ 4 _ _ _ A.hb
 have ho:=A.ok
 rw [h0] at ho
 rcases ho.2 with⟨e,_⟩ | ⟨g,cap,cur,e,_⟩
 ·exact⟨none,0,by rw [hc,e]⟩
 ·exact⟨some ⟨g,0,none⟩,cap,by rw [hc,e];rfl⟩
theorem alloc_cell1{w:World}{a:Addr}{v:Value}{X:Obj}(h:w.cell? a=some v):(w.alloc X).cell? a=some v:=
 (Below.cell ((Below.refl w.heap.size w).alloc (Nat.le_refl _) X) (block_lt_of_cell h)).trans h
theorem index_none(w:World)(A:Option Addr)(cap:Nat)(fv:Value):
  Calls Tryz.prog 165 #[.slice A 0 cap,fv] w fun e w'=>e=.returned (.int .i64 (-1))∧Below w.heap.size w w':=by
 go_enter Tryz.func165,Tryz.ntmps165
 go_wp2_with fail
 go_loopw [8] (fun iv wr=>iv=.int .i64 0∧wr=w) (fun _ _=>1)
 case atStart=>exact⟨rfl,rfl⟩
 case round=>
  obtain⟨rfl,rfl⟩:=hrel
  go_wp2_with fail
  go_ret
  exact⟨rfl,Below.refl _ _⟩
set_option maxHeartbeats 4000000 in
theorem find_none(w:World)(mb who:Nat)(A:Option Addr)(cap:Nat)(h:w.cell? ⟨mb,4,none⟩=some (.slice A 0 cap)):
  Calls Tryz.prog 110 #[.pointer (some ⟨mb,4,none⟩),.int .i64 who] w fun e w'=>e=.returned (.int .i64 (-1))∧Below w.heap.size w w':=by
 have h2:∀ X,(w.alloc X).cell? ⟨mb,4,none⟩=some (.slice A 0 cap):=fun X=>alloc_cell1 h
 have hb:∀ X,Below w.heap.size w (w.alloc X):=fun X=>(Below.refl _ w).alloc (Nat.le_refl _) X
 have hi:=fun w fv=>index_none w A cap fv
 have HB:=Lib.hid hb
 clear h hb
 go_enter Tryz.func110,Tryz.ntmps110
 go_wp2_with (go_at_call 165;refine (hi _ _).mono ?_;rintro r w2 ⟨rfl,hb2⟩)
 go_ret
 exact⟨rfl,(HB.out _).trans (hb2.mono (by simp))⟩
theorem rouse_none(w:World)(mb who:Nat)(A:Option Addr)(cap:Nat)(h:w.cell? ⟨mb,4,none⟩=some (.slice A 0 cap)):
  Calls Tryz.prog 72 #[.pointer (some ⟨mb,4,none⟩),.int .i64 who] w fun e w'=>e=.returned (.bool false)∧Below w.heap.size w w':=by
 have hf:=find_none w mb who A cap h
 go_enter Tryz.func72,Tryz.ntmps72
 go_wp2_with (go_at_call 110;refine hf.mono ?_;rintro r w2 ⟨rfl,hb⟩)
 go_ret
 exact⟨rfl,hb⟩
end Go.Proofs.YtcnmhgblbikfkaaGreatDoor.As.T
end

