/- Threads and events in memory. The walks of the packages isa and alu: what an instruction is; two of the operations of two words. slices.Clone of words and of events; small laws on rows. The walk of isa.Moved; a slice of instructions. -/
import Derived.Test.YtcnmhgblbikfkaaGreatDoorGa
import Derived.Test.YtcnmhgblbikfkaaGreatDoorGb
import Derived.Deep.RegionWith
import Derived.Deep.RegionHeld
import Derived.Deep.RegionHeldLaw
import Derived.Deep.QuietTactic
import Derived.BigQuiet
import Derived.Deep.Slices
section
set_option linter.unusedVariables false
set_option linter.unusedSimpArgs false
set_option maxRecDepth 20000
namespace Go.Proofs.YtcnmhgblbikfkaaGreatDoor.As
open Go.RowKit

theorem bl_drew{B:Nat}{a w:World}(h:Below B a w):Below B a w.drew:=⟨h.os,h.tape,h.output,h.size,h.block⟩
theorem on_drewN{F:Nat→Prop}{a w:World}(h:Only F a w)(n:Nat):Only F a (w.drewN n):=⟨h.os,h.tape,h.output,h.size,h.block⟩
theorem Only.set1{F:Nat→Prop}{a w:World}(h:Only F a w){p:Addr}(hp:F p.block)(v:Value):Only F a (w.setCell p v):=by
 refine⟨h.os,h.tape,h.output,?_,fun k hk hn=>?_⟩
 ·have:=h.size;simpa using this
 ·obtain⟨g,i,sp⟩:=p
  exact (heap_setCell_other _ _ _ _ (fun e=>hn (by subst e;exact hp))).trans (h.block k hk hn)
def w32(l:List Int):List Value:=l.map (Value.int .u32)
def Th.cells(t:Th):List Value:=.int .i64 t.pc::(w32 t.regs++[.int .i64 t.st])
def Ev.cells(e:Ev):List Value:=[.int .i64 e.kind,.int .i64 e.who,.int .i64 e.pc,.int .i64 e.addr,.int .u32 e.val,.int .u32 e.old,.int .u32 e.k,.bool e.ok]
def flatE(l:List Ev):List Value:=l.flatMap Ev.cells
theorem flatE_snoc(l:List Ev)(e:Ev):flatE (l++[e])=flatE l++e.cells:=by simp [flatE]
theorem infoEv:(Tryz.prog.info? 136).map (fun i=>(i.zero,i.size,i.bytes))=some (some (.agg #[.int .i64 0,.int .i64 0,.int .i64 0,.int .i64 0,.int .u32 0,.int .u32 0,.int .u32 0,.bool false]),8,48):=by kernel_rfl
end Go.Proofs.YtcnmhgblbikfkaaGreatDoor.As
end

section
set_option linter.unusedVariables false
set_option linter.unusedSimpArgs false
set_option maxRecDepth 20000
namespace Go.Proofs.YtcnmhgblbikfkaaGreatDoor.As
open Go.RowKit

theorem asks_uses(i:Nat)(h:i < 28):(bits BinOp.and IntKind.i64 (opUses.getD i 0) 8 != 0)=decide (asksI (i:Int)):=by
 have:∀ i,i < 28→(bits BinOp.and IntKind.i64 (opUses.getD i 0) 8 != 0)=decide (asksI (i:Int)):=by decide
 exact this i h
theorem asks_any(op:Int)(w:World)(T:TabI w)(h0:0≤op)(h1:op < 28):
  Calls Tryz.prog 150 #[.int .i64 op] w fun e w'=>e=.returned (.bool (decide (asksI op)))∧w=w':=by
 obtain⟨i,rfl⟩:=Int.eq_ofNat_of_zero_le h0
 have HT:=Lib.hid T
 have hc:=T.uses i (by omega)
 have hu:=asks_uses i (by omega)
 have hem:=opName_in i h0 h1
 generalize opUses.getD i 0=u at *
 generalize decide (asksI (i:Int))=r at *
 generalize hz:bits BinOp.and IntKind.i64 u 8=z at *
 clear T
 go_enter Tryz.func150,Tryz.ntmps150
 go_wp2_with fail
 refine (iname_any _ _ HT.out).mono ?_;rintro e w' ⟨rfl,rfl⟩
 generalize opName (i:Int)=nm at *
 go_wp2
 go_ret
 exact⟨rfl,rfl⟩
theorem drains_any(op:Int)(w:World):Calls Tryz.prog 152 #[.int .i64 op] w fun e w'=>e=.returned (.bool (decide (drainsI op)))∧w=w':=by
 obtain⟨r,hr⟩:∃ r,r=decide (drainsI op):=⟨_,rfl⟩
 rw [←hr]
 have HR:=Lib.hid hr
 clear hr
 go_enter Tryz.func152,Tryz.ntmps152
 go_wp2_with fail
 all_goals (try go_wp2_with fail)
 all_goals go_ret
 all_goals refine⟨congrArg (fun x=>Ending.returned (.bool x)) ?_,rfl⟩
 all_goals rw [HR.out]
 all_goals clear HR
 all_goals rw [Bool.eq_iff_iff,decide_eq_true_iff (p:=drainsI _)]
 all_goals unfold drainsI
 all_goals simp only [beq_iff_eq,beq_eq_false_iff_ne,ne_eq,decide_eq_true_eq,Bool.false_eq_true,true_iff,false_iff,Bool.or_eq_true] at *
 all_goals omega
def fieldI(n:Int)(used:Bool)(most:Int):Bool:=if used then decide (0≤n) && decide (n≤most) else n == 0
theorem field_any(n:Int)(used:Bool)(most:Int)(w:World):Calls Tryz.prog 123 #[.int .i64 n,.bool used,.int .i64 most] w fun e w'=>e=.returned (.bool (fieldI n used most))∧w'=w:=by
 cases used with
 | false=>
  go_enter Tryz.func123,Tryz.ntmps123
  go_wp2_with fail
  go_ret
  exact⟨rfl,rfl⟩
 | true=>
  by_cases h:0≤n
  ·have d:decide (0≤n)=true:=decide_eq_true h
   have e1:fieldI n true most=decide (n≤most):=by unfold fieldI;rw [if_pos rfl,d,Bool.true_and]
   rw [e1]
   clear h e1
   go_enter Tryz.func123,Tryz.ntmps123
   go_wp2_with fail
   go_ret
   exact⟨rfl,rfl⟩
  ·have d:decide (0≤n)=false:=decide_eq_false h
   have e1:fieldI n true most=false:=by unfold fieldI;rw [if_pos rfl,d,Bool.false_and]
   rw [e1]
   clear h e1
   go_enter Tryz.func123,Tryz.ntmps123
   go_wp2_with fail
   go_ret
   exact⟨rfl,rfl⟩
def bitI(u m:Int):Bool:=bits BinOp.and IntKind.i64 u m != 0
def rightI(i:Ins)(size:Int):Bool:=
 decide (0≤i.op) && decide (i.op < 28) && decide (0≤i.k) && (let u:=opUses.getD i.op.toNat 0
  fieldI i.a (bitI u 1) 7 && fieldI i.b (bitI u 10) (if bitI u 8 then 8 else 7) && fieldI i.c (bitI u 4) 7 && (if bitI u 32 then decide (i.k≤size) else (bitI u 16 || i.k == 0)))
set_option maxHeartbeats 2000000 in
theorem right_isa(w:World)(T:TabI w)(i:Ins)(size:Int)(h0:0≤size)(h1:size≤1000000)(h:rightI i size=true):
  Calls Tryz.prog 92 #[.agg #[.int .i64 i.op,.int .i64 i.a,.int .i64 i.b,.int .i64 i.c,.int .u32 i.k],.int .i64 size] w fun e w'=>e=.returned (.bool true)∧Below w.heap.size w w':=by
 unfold rightI at h
 simp only [Bool.and_eq_true,decide_eq_true_eq] at h
 obtain⟨⟨⟨o0,o1⟩,k0⟩,⟨⟨hA,hB⟩,hC⟩,hK⟩:=h
 obtain⟨op,ia,ib,ic,ik⟩:=i
 dsimp only at *
 obtain⟨j,rfl⟩:=Int.eq_ofNat_of_zero_le o0
 have HT:=Lib.hid T
 have hb:=(Below.refl w.heap.size w).alloc (Nat.le_refl _) (.cells #[.int .i64 j,.int .i64 ia,.int .i64 ib,.int .i64 ic,.int .u32 ik] 132)
 have hc:=(T.below hb (Nat.le_refl _)).uses j (by omega)
 have HB:=Lib.hid hb
 have HT2:=Lib.hid (T.below hb (Nat.le_refl _))
 have hem:=opName_in j o0 o1
 rw [Int.toNat_natCast] at hA hB hC hK
 generalize opUses.getD j 0=u at *
 unfold bitI at hA hB hC hK
 clear T hb
 have c:=hc
 cases h8:(bits BinOp.and IntKind.i64 u 8 != 0)<;>cases h32:(bits BinOp.and IntKind.i64 u 32 != 0)
 all_goals rw [h8] at hB
 all_goals rw [h32] at hK
 all_goals simp only [if_true,if_false,Bool.false_eq_true,ite_true,ite_false,decide_eq_true_eq] at hB hK
 all_goals go_enter Tryz.func92,Tryz.ntmps92
 all_goals go_wp2_with (first | (go_at_call 116;refine (iname_any _ _ HT2.out).mono ?_;rintro e w' ⟨rfl,rfl⟩) | (go_at_call 123;refine (field_any _ _ _ _).mono ?_;rintro e w' ⟨rfl,rfl⟩))
 all_goals go_ret
 all_goals refine⟨congrArg (fun x=>Ending.returned (.bool x)) ?_,HB.out⟩
 all_goals first | rfl | (simp_all;done) | (simp at hK ⊢; omega)
theorem aluAdd_any(w:World)(a b:Int)(a0:0≤a)(a1:a≤4294967295)(b0:0≤b)(b1:b≤4294967295):
  Calls Tryz.prog 106 #[.int .i64 3,.int .u32 a,.int .u32 b] w fun e w'=>e=.returned (.tuple #[.int .u32 (wr32 (a+b)),.bool true])∧Below w.heap.size w w':=by
 have q:IntKind.u32.wrap (a+b)=wr32 (a+b):=by rw [IntKind.wrap_u32];unfold wr32;omega
 go_enter Tryz.func106,Tryz.ntmps106
 go_wp2_with go_in
 go_ret2
 exact⟨rfl,(Below.refl _ w).alloc (Nat.le_refl _) _⟩
theorem aluSame_any(w:World)(a b:Int):
  Calls Tryz.prog 106 #[.int .i64 12,.int .u32 a,.int .u32 b] w fun e w'=>e=.returned (.tuple #[.int .u32 (if a=b then 1 else 0),.bool true])∧Below w.heap.size w w':=by
 by_cases h:a=b
 ·rw [if_pos h]
  have d:(a == b)=true:=by simp [h]
  clear h
  go_enter Tryz.func106,Tryz.ntmps106
  go_wp2_with go_in
  go_ret2
  exact⟨rfl,(Below.refl _ w).alloc (Nat.le_refl _) _⟩
 ·rw [if_neg h]
  have d:(a == b)=false:=by simp [h]
  clear h
  go_enter Tryz.func106,Tryz.ntmps106
  go_wp2_with go_in
  go_ret2
  exact⟨rfl,(Below.refl _ w).alloc (Nat.le_refl _) _⟩
end Go.Proofs.YtcnmhgblbikfkaaGreatDoor.As
end

section
set_option linter.unusedVariables false
set_option linter.unusedSimpArgs false
set_option maxRecDepth 20000
namespace Go.Proofs.YtcnmhgblbikfkaaGreatDoor.As
open Go.RowKit

theorem infoW:(Tryz.prog.info? 25).map (fun i=>(i.zero,i.size,i.bytes))=some (some (.int .u32 0),1,4):=by kernel_rfl
set_option maxRecDepth 100000 in
set_option maxHeartbeats 400000 in
theorem cloneW_any(w:World)(v:Value)(n:Nat)(xs:List Value)(h:Rd w 1 v n xs)(hn:n < 2000000)(h1:∀ u∈xs,u.oneCell'=true):
  Calls Tryz.prog 54 #[v] w fun e w'=>∃ v',e=.returned v'∧w'.ownsRow w.heap.size 25 1 v' n xs∧Below w.heap.size w w':=by
 obtain⟨A,cap,rfl,hc,hl,h⟩:=h
 obtain⟨i0,hi,hz0,hz1,hz2⟩:=info_parts infoW
 rcases h with⟨rfl,rfl⟩ | ⟨b,off,rfl,hb,hcell⟩
 ·have hx:xs=[]:=List.eq_nil_of_length_eq_zero (by simpa using hl)
  subst hx
  have hnil:∀ W,(binOp .eql 43 (.slice none 0 cap) (.slice none 0 0)).run Tryz.prog W=.ok (.bool true) W:=fun W=>Lib.run_eql_slice_nil W _ _ _ _ _ _ _ Tryz.underlying43
  go_enter Tryz.func54,Tryz.ntmps54
  go_wp2_with fail
  go_ret
  exact⟨_,rfl,World.ownsRow_nil _ _ _ _,Below.refl _ _⟩
 ·have hnil:∀ W,(binOp .eql 43 (.slice (some ⟨b,off,none⟩) n cap) (.slice none 0 0)).run Tryz.prog W=.ok (.bool false) W:=fun W=>Lib.run_eql_slice_nil W _ _ _ _ _ _ _ Tryz.underlying43
  have hne:(World.ownsRow (w.alloc (.cells #[] 25)) w.heap.size 25 1 (.slice (some ⟨w.heap.size,0,none⟩) 0 0) 0 []):=⟨rfl,.inr ⟨w.heap.size,0,#[],rfl,Nat.le_refl _,heap_alloc_new _ _,Nat.le_refl _,Nat.zero_le _,rfl,rfl⟩⟩
  go_enter Tryz.func54,Tryz.ntmps54
  go_wp2_with (at_builtin;refine wpList_append_own _ rfl (.tmp 5) (.tmp 6) 43 rfl w.heap.size 25 i0 _ 1 4 Tryz.underlying43 hi hz0 hz1 hz2 rfl (by decide) _ 0 [] rfl hne ⟨b,off,none⟩ n cap xs rfl hl (fun j u hu=>by rw [add_at];exact (Below.cell ((Below.refl w.heap.size w).alloc (Nat.le_refl _) _) (p:=⟨b,off+j,none⟩) hb).trans (hcell j u hu)) h1 (by unfold maxLen;omega) (by omega) (by simp) ?_;intro v' w1 ho hgr hat)
  go_wp2_with fail
  go_ret
  have hgr2:(w.alloc (.cells #[] 25)).grownBy w1 (some w.heap.size):=hgr
  exact⟨_,rfl,by simpa using ho,((Below.refl w.heap.size w).alloc (Nat.le_refl _) _).grown hgr2 (by simp) (fun k hk=>by injection hk with hk;omega)⟩
set_option maxRecDepth 100000 in
set_option maxHeartbeats 400000 in
theorem cloneE_any(w:World)(v:Value)(n:Nat)(xs:List Value)(h:Rd w 8 v n xs)(hn:n < 2000000)(h1:∀ u∈xs,u.oneCell'=true):
  Calls Tryz.prog 58 #[v] w fun e w'=>∃ v',e=.returned v'∧w'.ownsRow w.heap.size 136 8 v' n xs∧Below w.heap.size w w':=by
 obtain⟨A,cap,rfl,hc,hl,h⟩:=h
 obtain⟨i0,hi,hz0,hz1,hz2⟩:=info_parts infoEv
 rcases h with⟨rfl,rfl⟩ | ⟨b,off,rfl,hb,hcell⟩
 ·have hx:xs=[]:=List.eq_nil_of_length_eq_zero (by simpa using hl)
  subst hx
  have hnil:∀ W,(binOp .eql 55 (.slice none 0 cap) (.slice none 0 0)).run Tryz.prog W=.ok (.bool true) W:=fun W=>Lib.run_eql_slice_nil W _ _ _ _ _ _ _ Tryz.underlying55
  go_enter Tryz.func58,Tryz.ntmps58
  go_wp2_with fail
  go_ret
  exact⟨_,rfl,World.ownsRow_nil _ _ _ _,Below.refl _ _⟩
 ·have hnil:∀ W,(binOp .eql 55 (.slice (some ⟨b,off,none⟩) n cap) (.slice none 0 0)).run Tryz.prog W=.ok (.bool false) W:=fun W=>Lib.run_eql_slice_nil W _ _ _ _ _ _ _ Tryz.underlying55
  have hne:(World.ownsRow (w.alloc (.cells #[] 136)) w.heap.size 136 8 (.slice (some ⟨w.heap.size,0,none⟩) 0 0) 0 []):=⟨rfl,.inr ⟨w.heap.size,0,#[],rfl,Nat.le_refl _,heap_alloc_new _ _,Nat.le_refl _,Nat.zero_le _,rfl,rfl⟩⟩
  go_enter Tryz.func58,Tryz.ntmps58
  go_wp2_with (at_builtin;refine wpList_append_own _ rfl (.tmp 5) (.tmp 6) 55 rfl w.heap.size 136 i0 _ 8 48 Tryz.underlying55 hi hz0 hz1 hz2 rfl (by decide) _ 0 [] rfl hne ⟨b,off,none⟩ n cap xs rfl hl (fun j u hu=>by rw [add_at];exact (Below.cell ((Below.refl w.heap.size w).alloc (Nat.le_refl _) _) (p:=⟨b,off+j,none⟩) hb).trans (hcell j u hu)) h1 (by unfold maxLen;omega) (by omega) (by simp) ?_;intro v' w1 ho hgr hat)
  go_wp2_with fail
  go_ret
  have hgr2:(w.alloc (.cells #[] 136)).grownBy w1 (some w.heap.size):=hgr
  exact⟨_,rfl,by simpa using ho,((Below.refl w.heap.size w).alloc (Nat.le_refl _) _).grown hgr2 (by simp) (fun k hk=>by injection hk with hk;omega)⟩
theorem one_w32(l:List Int):∀ u∈w32 l,u.oneCell'=true:=by
 intro u hu
 obtain⟨x,_,rfl⟩:=List.mem_map.1 hu
 rfl
theorem one_ev(l:List Ev):∀ u∈flatE l,u.oneCell'=true:=by
 intro u hu
 obtain⟨x,_,hx⟩:=List.mem_flatMap.1 hu
 simp only [Ev.cells,List.mem_cons,List.not_mem_nil,or_false] at hx
 rcases hx with rfl | rfl | rfl | rfl | rfl | rfl | rfl | rfl<;>rfl
theorem infoC:(Tryz.prog.info? 29).map (fun i=>(i.zero,i.size,i.bytes))=some (some (.slice none 0 0),1,24):=by kernel_rfl
theorem one_flat(l:List Ins):∀ u∈flat l,u.oneCell'=true:=by
 intro u hu
 obtain⟨x,_,hx⟩:=List.mem_flatMap.1 hu
 simp only [Ins.cells,List.mem_cons,List.not_mem_nil,or_false] at hx
 rcases hx with rfl | rfl | rfl | rfl | rfl<;>rfl
theorem own_form{W:World}{base:Nat}{e:TypeId}{size:Nat}{v:Value}{k:Nat}{xs:List Value}(h:W.ownsRow base e size v k xs)(hk:0 < k):∃ g cap,v=.slice (some ⟨g,0,none⟩) k cap:=by
 rcases h.2 with⟨_,h0⟩ | ⟨g,cap,_,rfl,_⟩
 ·omega
 ·exact⟨g,cap,rfl⟩
theorem own_mono{w:World}{b b':Nat}{e:TypeId}{size n:Nat}{v:Value}{xs:List Value}(h:w.ownsRow b e size v n xs)(hb:b'≤b):w.ownsRow b' e size v n xs:=by
 obtain⟨h1,h2⟩:=h
 refine⟨h1,h2.imp id ?_⟩
 rintro⟨g,cap,cur,a1,a2,a3⟩
 exact⟨g,cap,cur,a1,by omega,a3⟩
theorem own_eq{g n c k:Nat}(h:(Value.slice (some ⟨g,0,none⟩) n c).ownBlock=some k):g=k:=by simpa [Value.ownBlock] using h
theorem at_new{W:World}{g:Nat}{o:Obj}(h:g=W.heap.size):(W.alloc o).heap[g]? = some o:=by subst h;exact heap_alloc_new _ _
theorem below_at{A B:World}(h:Below A.heap.size A B)(g:Nat)(o:Obj)(hg:A.heap[g]? = some o):B.heap[g]? = some o:=(h.block g (Array.getElem?_eq_some_iff.1 hg).1).trans hg
theorem grown_at{A B:World}{row:Option Nat}(h:A.grownBy B row){M n c:Nat}(hr:row=(Value.slice (some ⟨M,0,none⟩) n c).ownBlock)(g:Nat)(o:Obj)(hne:M≠g)(hg:A.heap[g]? = some o):B.heap[g]? = some o:=(h.block g (Array.getElem?_eq_some_iff.1 hg).1 (by subst hr;simp [Value.ownBlock];exact fun e=>hne e.symm)).trans hg
theorem up_alloc{A B:World}(h:Below A.heap.size A B)(X:Obj):Below A.heap.size A (B.alloc X):=h.alloc h.size X
theorem up_grown{A B C:World}{row:Option Nat}(h:Below A.heap.size A B)(hg:B.grownBy C row){g n c:Nat}(hr:row=(Value.slice (some ⟨g,0,none⟩) n c).ownBlock)(hb:A.heap.size≤g):Below A.heap.size A C:=h.grown hg h.size (fun k e=>by subst hr;exact (show g=k by simpa [Value.ownBlock] using e) ▸ hb)
theorem at_alloc{W:World}{g:Nat}{o X:Obj}(h:W.heap[g]? = some o):(W.alloc X).heap[g]? = some o:=(Below.heap_alloc _ _ _ (Array.getElem?_eq_some_iff.1 h).1).trans h
theorem at_drew{W:World}{g:Nat}{o:Obj}(h:W.heap[g]? = some o):W.drew.heap[g]? = some o:=h
theorem own_made{W:World}{base g n:Nat}{e:TypeId}{arr:Array Value}(hb:base≤g)(h:W.heap[g]? = some (.cells arr e (0,0)))(hn:arr.size=n)(hm:n≤maxLen):W.ownsRow base e 1 (.slice (some ⟨g,0,none⟩) n n) n arr.toList:=
 ⟨by rw [Array.length_toList,hn,Nat.mul_one],.inr ⟨g,n,arr,rfl,hb,h,Nat.le_refl _,hm,by omega,by rw [Nat.mul_one];exact List.take_of_length_le (by rw [Array.length_toList];omega)⟩⟩
end Go.Proofs.YtcnmhgblbikfkaaGreatDoor.As
end

section
set_option linter.unusedVariables false
set_option linter.unusedSimpArgs false
set_option maxRecDepth 20000
namespace Go.Proofs.YtcnmhgblbikfkaaGreatDoor.As
open Go.RowKit

def movedI(l:List Ins)(by_:Nat):List Ins:=l.map fun i=>if jumpsI i.op then { i with k:=wr32 (i.k+by_) } else i
def moved1(by_:Nat)(i:Ins):Ins:=if jumpsI i.op then { i with k:=wr32 (i.k+by_) } else i
theorem jumps_iff(op:Int):jumps op=true↔jumpsI op:=by simp [jumps,jumpsI,or_assoc]
def InS(w:World)(v:Value)(n:Nat)(l:List Ins):Prop:=
 l.length=n∧∃ A cap,v=.slice A n cap∧(0 < n→∃ b off,A=some ⟨b,off,none⟩∧b < w.heap.size∧∀ j u,(flat l)[j]? = some u→w.cell? ⟨b,off+j,none⟩=some u)
theorem InS.at{w:World}{A:Option Addr}{n cap i:Nat}{l:List Ins}{x:Ins}(h:InS w (.slice A n cap) n l)(hx:l[i]? = some x):
  ∃ b off,A=some ⟨b,off,none⟩∧b < w.heap.size∧w.cell? ⟨b,off+i*5,none⟩=some (.int .i64 x.op)∧w.cell? ⟨b,off+i*5+1,none⟩=some (.int .i64 x.a)∧w.cell? ⟨b,off+i*5+2,none⟩=some (.int .i64 x.b)∧w.cell? ⟨b,off+i*5+3,none⟩=some (.int .i64 x.c)∧w.cell? ⟨b,off+i*5+4,none⟩=some (.int .u32 x.k):=by
 obtain⟨hl,A',cap',e,h⟩:=h
 injection e with e1 e2 e3
 subst e1
 have hi:i < l.length:=(List.getElem?_eq_some_iff.1 hx).1
 obtain⟨b,off,rfl,hb,hc⟩:=h (by omega)
 have g:=fun j hj=>flat_get l i x hx j hj
 exact⟨b,off,rfl,hb,hc _ _ (g 0 (by decide)),hc _ _ (g 1 (by decide)),hc _ _ (g 2 (by decide)),hc _ _ (g 3 (by decide)),hc _ _ (g 4 (by decide))⟩
theorem InS.below{w w':World}{B:Nat}{v:Value}{n:Nat}{l:List Ins}(h:InS w v n l)(hb:Below B w w')(hB:w.heap.size≤B):InS w' v n l:=by
 obtain⟨hl,A,cap,rfl,h⟩:=h
 refine⟨hl,A,cap,rfl,fun hn=>?_⟩
 obtain⟨b,off,rfl,hlt,hc⟩:=h hn
 exact⟨b,off,rfl,Nat.lt_of_lt_of_le hlt hb.size,fun j u hu=>(hb.cell (p:=⟨b,off+j,none⟩) (Nat.lt_of_lt_of_le hlt hB)).trans (hc j u hu)⟩

def set5(arr:Array Value)(i:Nat)(v0 v1 v2 v3 v4:Value):Array Value:=((((arr.setIfInBounds i v0).setIfInBounds (i+1) v1).setIfInBounds (i+2) v2).setIfInBounds (i+3) v3).setIfInBounds (i+4) v4
theorem set5_size(arr:Array Value)(i:Nat)(v0 v1 v2 v3 v4:Value):(set5 arr i v0 v1 v2 v3 v4).size=arr.size:=by simp [set5]
theorem set5_get(arr:Array Value)(i j:Nat)(v0 v1 v2 v3 v4:Value)(h:i+5≤arr.size):(set5 arr i v0 v1 v2 v3 v4)[j]? = if i≤j∧j < i+5 then [v0,v1,v2,v3,v4][j - i]? else arr[j]? := by
 unfold set5
 by_cases h1:i≤j∧j < i+5
 ·rw [if_pos h1]
  obtain⟨q,rfl⟩:∃ q,j=i+q:=⟨j - i,by omega⟩
  have hq:q=0∨q=1∨q=2∨q=3∨q=4:=by omega
  have hs:i+q < arr.size:=by omega
  rcases hq with rfl | rfl | rfl | rfl | rfl<;>simp [Array.getElem?_setIfInBounds]<;>omega
 ·rw [if_neg h1]
  have n0:¬i=j:=by omega
  have n1:¬i+1=j:=by omega
  have n2:¬i+2=j:=by omega
  have n3:¬i+3=j:=by omega
  have n4:¬i+4=j:=by omega
  simp [Array.getElem?_setIfInBounds,n0,n1,n2,n3,n4]
theorem set5_row{w:World}{g:Nat}{arr:Array Value}{t:TypeId}(h:w.heap[g]? = some (.cells arr t (0,0)))(i:Nat)(v0 v1 v2 v3 v4:Value):
  (((((w.setCell ⟨g,i,none⟩ v0).setCell ⟨g,i+1,none⟩ v1).setCell ⟨g,i+2,none⟩ v2).setCell ⟨g,i+3,none⟩ v3).setCell ⟨g,i+4,none⟩ v4).heap[g]? = some (.cells (set5 arr i v0 v1 v2 v3 v4) t (0,0)):=
 heap_setCell_same _ g _ _ t _ (heap_setCell_same _ g _ _ t _ (heap_setCell_same _ g _ _ t _ (heap_setCell_same _ g _ _ t _ (heap_setCell_same _ g _ _ t _ h))))
theorem set5_below{B:Nat}{w w':World}{g:Nat}(h:Below B w w')(hg:B≤g)(i:Nat)(v0 v1 v2 v3 v4:Value):
  Below B w (((((w'.setCell ⟨g,i,none⟩ v0).setCell ⟨g,i+1,none⟩ v1).setCell ⟨g,i+2,none⟩ v2).setCell ⟨g,i+3,none⟩ v3).setCell ⟨g,i+4,none⟩ v4):=
 ((((h.setCell hg _).setCell hg _).setCell hg _).setCell hg _).setCell hg _
theorem map_at{l:List Ins}{by_ k:Nat}{x:Ins}(h:l[k]? = some x):(movedI l by_)[k]? = some (moved1 by_ x):=by
 show (l.map (moved1 by_))[k]? = _
 rw [List.getElem?_map,h];rfl
theorem moved_cells(by_:Nat)(x:Ins):(moved1 by_ x).cells=[.int .i64 x.op,.int .i64 x.a,.int .i64 x.b,.int .i64 x.c,.int .u32 (moved1 by_ x).k]:=by
 unfold moved1 Ins.cells
 split<;>rfl
theorem set5_last(arr:Array Value)(i:Nat)(v0 v1 v2 v3 v4 v:Value):(set5 arr i v0 v1 v2 v3 v4).setIfInBounds (i+4) v=set5 arr i v0 v1 v2 v3 v:=by
 simp [set5]
theorem row_more{arr:Array Value}{l:List Ins}{n k by_:Nat}{x:Ins}(hs:arr.size=n*5)(hk:k < n)(hx:l[k]? = some x)(h:∀ j,j < k*5→arr[j]? = (flat (movedI l by_))[j]?)(y:Ins)(hy:y=moved1 by_ x):
  (set5 arr (k*5) (.int .i64 x.op) (.int .i64 x.a) (.int .i64 x.b) (.int .i64 x.c) (.int .u32 y.k)).size=n*5∧∀ j,j < (k+1)*5→(set5 arr (k*5) (.int .i64 x.op) (.int .i64 x.a) (.int .i64 x.b) (.int .i64 x.c) (.int .u32 y.k))[j]? = (flat (movedI l by_))[j]? := by
 refine⟨by rw [set5_size];exact hs,fun j hj=>?_⟩
 subst hy
 rw [set5_get _ _ _ _ _ _ _ _ (by omega)]
 split
 ·next hc=>
  obtain⟨q,rfl⟩:∃ q,j=k*5+q:=⟨j - k*5,by omega⟩
  rw [flat_get _ k _ (map_at hx) q (by omega),moved_cells,show k*5+q - k*5=q from by omega]
 ·next hc=>exact h j (by omega)

set_option maxHeartbeats 4000000 in
theorem moved_any(w:World)(T:TabI w)(by_:Nat)(hby:by_≤100000)(v:Value)(n:Nat)(l:List Ins)(h:InS w v n l)(hn:n≤3000)(hk:∀ x∈l,0≤x.k∧x.k≤4294967295):
  Calls Tryz.prog 69 #[v,.int .i64 (by_:Nat)] w fun e w'=>∃ u,e=.returned u∧w'.ownsRow w.heap.size 132 5 u n (flat (movedI l by_))∧Below w.heap.size w w':=by
 have HI:=Lib.hid h
 have HT:=Lib.hid T
 have HK:=Lib.hid hk
 clear T hk
 have qb:IntKind.u32.wrap (by_:Int)=by_:=by rw [IntKind.wrap_u32];omega
 obtain⟨hl,A,cap,rfl,hc⟩:=h
 have hle:(n:Int)≤3000:=by omega
 obtain⟨i0,hi,hz0,hz1,hz2⟩:=info_parts infoI
 clear hc
 go_enter Tryz.func69,Tryz.ntmps69
 go_wp2_with (at_make;refine wpList_make_full w rfl (.tmp 9) (.tmp 9) 29 rfl w.heap.size 132 i0 _ 5 Tryz.underlying29 hi hz0 hz1 .i64 .i64 n n n rfl rfl rfl rfl (by rw [hz2];omega) (by unfold maxLen;omega) (Nat.le_refl _) ?_;intro w1 ho hgr)
 have hb1:Below w.heap.size w w1:=(Below.refl w.heap.size w).grown hgr (Nat.le_refl _) (fun k hk=>by cases hk)
 obtain⟨g',cap',arr,e1,hbg,hrow,hnc,hcm,hcs,htk⟩:∃ g' cap' arr,(Value.slice (some ⟨w.heap.size,0,none⟩) n n)=.slice (some ⟨g',0,none⟩) n cap'∧w.heap.size≤g'∧w1.heap[g']? = some (.cells arr 132 (0,0))∧n≤cap'∧cap'≤maxLen∧arr.size=cap'*5∧arr.toList.take (n*5)=_:=by
  rcases ho.2 with⟨h',_⟩ | h'
  ·simp at h'
  ·exact h'
 simp only [Value.slice.injEq,Option.some.injEq,Addr.mk.injEq,and_true,true_and] at e1
 obtain⟨rfl,rfl⟩:=e1
 have HS:=Lib.hid hcs
 have HR:=Lib.hid hrow
 have HB:=Lib.hid hb1
 have hlt1:w.heap.size < w1.heap.size:=(Array.getElem?_eq_some_iff.1 hrow).1
 clear hcs hrow hb1 ho hgr htk hbg
 go_wp2_with fail
 go_loopw [13] (fun iv wr=>∃ (k:Nat) (arr:Array Value),k≤n∧iv=.int .i64 k∧Hid (arr.size=n*5)∧Hid (∀ j,j < k*5→arr[j]? = (flat (movedI l by_))[j]?)∧Hid (wr.heap[w.heap.size]? = some (.cells arr 132 (0,0)))∧Hid (Below w.heap.size w wr)) (fun i _=>n - (intOf i).toNat)
 case atStart=>exact⟨0,arr,by omega,rfl,HS,fun j hj=>by omega,HR,HB⟩
 case round=>
  clear HS HR HB hlt1
  obtain⟨k,arr,hkn,rfl,HS,HQ,HR,HB⟩:=hrel
  by_cases hlt:k < n
  ·obtain⟨x,hx⟩:∃ x,l[k]? = some x:=⟨_,List.getElem?_eq_getElem (by omega)⟩
   obtain⟨b,off,rfl,hbl,a0,a1,a2,a3,a4⟩:=InS.at HI.out hx
   have HX:=Lib.hid hx
   clear hx
   have hgw:w.heap.size < wr.heap.size:=(Array.getElem?_eq_some_iff.1 HR.out).1
   have hbw:b < wr.heap.size:=by omega
   have hne:¬wr.heap.size=w.heap.size:=by omega
   have hne2:¬w.heap.size=wr.heap.size:=by omega

   have x0:wr.cell? ⟨b,off+k*5,none⟩=some (.int .i64 x.op):=(HB.out.cell (p:=⟨b,off+k*5,none⟩) hbl).trans a0
   obtain⟨u0,o0⟩:∃ u,wr.cell? ⟨w.heap.size,k*5,none⟩=some u:=⟨_,(cell_of_row wr w.heap.size (k*5) arr _ _ HR.out).trans (Array.getElem?_eq_getElem (by have:=HS.out;omega))⟩
   have z0:wr.frozen? ⟨w.heap.size,k*5,none⟩=false:=frozen_of_row wr w.heap.size _ arr _ HR.out
   have x1:wr.cell? ⟨b,off+k*5+1,none⟩=some (.int .i64 x.a):=(HB.out.cell (p:=⟨b,off+k*5+1,none⟩) hbl).trans a1
   obtain⟨u1,o1⟩:∃ u,wr.cell? ⟨w.heap.size,k*5+1,none⟩=some u:=⟨_,(cell_of_row wr w.heap.size (k*5+1) arr _ _ HR.out).trans (Array.getElem?_eq_getElem (by have:=HS.out;omega))⟩
   have z1:wr.frozen? ⟨w.heap.size,k*5+1,none⟩=false:=frozen_of_row wr w.heap.size _ arr _ HR.out
   have x2:wr.cell? ⟨b,off+k*5+2,none⟩=some (.int .i64 x.b):=(HB.out.cell (p:=⟨b,off+k*5+2,none⟩) hbl).trans a2
   obtain⟨u2,o2⟩:∃ u,wr.cell? ⟨w.heap.size,k*5+2,none⟩=some u:=⟨_,(cell_of_row wr w.heap.size (k*5+2) arr _ _ HR.out).trans (Array.getElem?_eq_getElem (by have:=HS.out;omega))⟩
   have z2:wr.frozen? ⟨w.heap.size,k*5+2,none⟩=false:=frozen_of_row wr w.heap.size _ arr _ HR.out
   have x3:wr.cell? ⟨b,off+k*5+3,none⟩=some (.int .i64 x.c):=(HB.out.cell (p:=⟨b,off+k*5+3,none⟩) hbl).trans a3
   obtain⟨u3,o3⟩:∃ u,wr.cell? ⟨w.heap.size,k*5+3,none⟩=some u:=⟨_,(cell_of_row wr w.heap.size (k*5+3) arr _ _ HR.out).trans (Array.getElem?_eq_getElem (by have:=HS.out;omega))⟩
   have z3:wr.frozen? ⟨w.heap.size,k*5+3,none⟩=false:=frozen_of_row wr w.heap.size _ arr _ HR.out
   have x4:wr.cell? ⟨b,off+k*5+4,none⟩=some (.int .u32 x.k):=(HB.out.cell (p:=⟨b,off+k*5+4,none⟩) hbl).trans a4
   obtain⟨u4,o4⟩:∃ u,wr.cell? ⟨w.heap.size,k*5+4,none⟩=some u:=⟨_,(cell_of_row wr w.heap.size (k*5+4) arr _ _ HR.out).trans (Array.getElem?_eq_getElem (by have:=HS.out;omega))⟩
   have z4:wr.frozen? ⟨w.heap.size,k*5+4,none⟩=false:=frozen_of_row wr w.heap.size _ arr _ HR.out
   clear a0 a1 a2 a3 a4
   by_cases hj:jumps x.op=true
   ·have hkx:=HK.out x (List.mem_of_getElem? HX.out)
    have hmv:moved1 by_ x={ x with k:=wr32 (x.k+by_) }:=by unfold moved1;rw [if_pos ((jumps_iff _).1 hj)]
    go_wp2_with fail
    refine (jumps_any _ _ (HT.out.below ((set5_below HB.out (Nat.le_refl _) (k*5) _ _ _ _ _).alloc (set5_below HB.out (Nat.le_refl _) (k*5) _ _ _ _ _).size _) (Nat.le_refl _))).mono ?_
    rintro r w2 ⟨rfl,rfl⟩
    rw [hj]
    go_wp2_with fail
    refine (aluAdd_any _ _ _ hkx.1 hkx.2 (by omega) (by omega)).mono ?_
    rintro r w2 ⟨rfl,hb2⟩
    have hm:=row_more HS.out hlt HX.out HQ.out _ hmv.symm
    have hrow2:w2.heap[w.heap.size]? = some (.cells (set5 arr (k*5) (.int .i64 x.op) (.int .i64 x.a) (.int .i64 x.b) (.int .i64 x.c) (.int .u32 x.k)) 132 (0,0)):=(hb2.block _ (by simp;omega)).trans ((Below.heap_alloc _ _ _ (Array.getElem?_eq_some_iff.1 (set5_row HR.out (k*5) _ _ _ _ _)).1).trans (set5_row HR.out (k*5) _ _ _ _ _))
    have o9:w2.cell? ⟨w.heap.size,k*5+4,none⟩=some (.int .u32 x.k):=(cell_of_row w2 w.heap.size (k*5+4) _ _ _ hrow2).trans (by rw [set5_get _ _ _ _ _ _ _ _ (by have:=HS.out;omega),if_pos (by omega)];rw [show k*5+4 - k*5=4 from by omega];rfl)
    have z9:w2.frozen? ⟨w.heap.size,k*5+4,none⟩=false:=frozen_of_row w2 w.heap.size _ _ _ hrow2
    have HB2:=Lib.hid hb2
    have HR2:=Lib.hid hrow2
    have HM:=Lib.hid hm
    clear hb2 hrow2 hm
    go_wp2_with fail
    exact⟨⟨k+1,set5 arr (k*5) (.int .i64 x.op) (.int .i64 x.a) (.int .i64 x.b) (.int .i64 x.c) (.int .u32 (wr32 (x.k+by_))),by omega,by simp,(HM.out).1,(HM.out).2,(heap_setCell_same _ w.heap.size (k*5+4) _ _ _ HR2.out).trans (congrArg (fun a=>some (Obj.cells a 132 (0,0))) (set5_last _ _ _ _ _ _ _ _)),(((set5_below HB.out (Nat.le_refl _) (k*5) _ _ _ _ _).alloc (set5_below HB.out (Nat.le_refl _) (k*5) _ _ _ _ _).size _).trans (HB2.out.mono ((set5_below HB.out (Nat.le_refl _) (k*5) _ _ _ _ _).alloc (set5_below HB.out (Nat.le_refl _) (k*5) _ _ _ _ _).size _).size)).setCell (Nat.le_refl _) _⟩,by simp [intOf];omega⟩
   ·have hj':jumps x.op=false:=by simpa using hj
    have hmv:moved1 by_ x=x:=by unfold moved1;rw [if_neg (fun e=>hj ((jumps_iff _).2 e))]
    go_wp2_with fail
    refine (jumps_any _ _ (HT.out.below ((set5_below HB.out (Nat.le_refl _) (k*5) _ _ _ _ _).alloc (set5_below HB.out (Nat.le_refl _) (k*5) _ _ _ _ _).size _) (Nat.le_refl _))).mono ?_
    rintro r w2 ⟨rfl,rfl⟩
    rw [hj']
    go_wp2_with fail
    have hm:=row_more HS.out hlt HX.out HQ.out x hmv.symm
    exact⟨⟨k+1,set5 arr (k*5) (.int .i64 x.op) (.int .i64 x.a) (.int .i64 x.b) (.int .i64 x.c) (.int .u32 x.k),by omega,by simp,hm.1,hm.2,(Below.heap_alloc _ _ _ (Array.getElem?_eq_some_iff.1 (set5_row HR.out (k*5) _ _ _ _ _)).1).trans (set5_row HR.out (k*5) _ _ _ _ _),(set5_below HB.out (Nat.le_refl _) (k*5) _ _ _ _ _).alloc (set5_below HB.out (Nat.le_refl _) (k*5) _ _ _ _ _).size _⟩,by simp [intOf];omega⟩
  ·have hkk:k=n:=by omega
   subst hkk
   go_wp2_with fail
   go_ret
   have hfl:(flat (movedI l by_)).length=k*5:=by rw [flat_len,show (movedI l by_).length=l.length from List.length_map _,hl]
   refine⟨_,rfl,⟨hfl,.inr ⟨w.heap.size,k,arr,rfl,Nat.le_refl _,HR.out,Nat.le_refl _,by unfold maxLen;omega,HS.out,?_⟩⟩,HB.out⟩
   apply List.ext_getElem?
   intro j
   rw [List.getElem?_take]
   split
   ·next hj=>rw [Array.getElem?_toList];exact HQ.out j hj
   ·next hj=>rw [List.getElem?_eq_none (by omega)]
theorem insof{w:World}{v:Value}{n:Nat}{L:List Ins}(h:Rd w 5 v n (flat L))(hl:L.length=n):InS w v n L:=by
 obtain⟨A,cap,rfl,hc,hl2,h⟩:=h
 refine⟨hl,A,cap,rfl,fun hn=>?_⟩
 rcases h with⟨_,h⟩ | h
 ·omega
 ·exact h
end Go.Proofs.YtcnmhgblbikfkaaGreatDoor.As
end

