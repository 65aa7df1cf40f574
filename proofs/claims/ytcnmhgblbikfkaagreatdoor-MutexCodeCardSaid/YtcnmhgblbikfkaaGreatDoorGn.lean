/- The walks of pick.Of,pick.Read. The walks of a machine's Events and Mem,of deadlatchlaw15.one. The walk of a machine's Done. -/
import Derived.Test.YtcnmhgblbikfkaaGreatDoorGk
import Derived.Test.YtcnmhgblbikfkaaGreatDoorGm
import Derived.Deep.OwnRows
import Derived.Test.YtcnmhgblbikfkaaGreatDoorGc
import Derived.Test.YtcnmhgblbikfkaaGreatDoorTp5
import Derived.Deep.LoopGhost
import Derived.Test.YtcnmhgblbikfkaaGreatDoorTsV
import Derived.Test.YtcnmhgblbikfkaaGreatDoorGe
section
set_option linter.unusedVariables false
set_option linter.unusedSimpArgs false
set_option maxRecDepth 20000
namespace Go.Proofs.YtcnmhgblbikfkaaGreatDoor.As.T
open Go.RowKit

theorem infoP:(Tryz.prog.info? 92).map (fun i=>(i.zero,i.size,i.bytes))=some (some (.agg #[.int .i64 0,.int .i64 0]),2,16):=by kernel_rfl
theorem results_pick{fn:Func}{p:Tmp}(h:fn.results=#[.cell p 92])(tmps:Array Value)(w:World)(R:Nat)(a b:Value)(hb:w.heap[R]? = some (.cells #[a,b] 92 (0,0)))(hp:tmps.getD p undef=.pointer (some ⟨R,0,none⟩)):
  (results fn tmps).run Tryz.prog w=.ok (.agg #[a,b]) w:=by
 have hl:=run_loadVar_row (P := Tryz.prog) w R 92 92 _ _ _ hb Tryz.underlying92 rfl (by kernel_rfl)
 simp only [Array.getD_eq_getD_getElem?] at hp
 simp [results,h,hp,asAddr,hl]
theorem of_any(w:World)(b:Nat)(hb:b≤255):Calls Tryz.prog 57 #[.int .u8 b] w fun e w'=>e=.returned (.agg #[.int .i64 ((pickB b).1:Nat),.int .i64 ((pickB b).2:Nat)])∧Below w.heap.size w w':=by
 have h1:IntKind.i64.wrap (b:Int)=b:=by rw [IntKind.wrap_i64];omega
 have e1:((b:Int).tdiv 8).tmod 3=((pickB b).1:Nat):=by
  unfold pickB
  have:(b:Int).tdiv 8=((b / 8:Nat):Int):=by rw [Int.tdiv_eq_ediv_of_nonneg (by omega)];omega
  rw [this]
  show (((b / 8:Nat):Int)).tmod 3=((b / 8 % 3:Nat):Int)
  rw [Int.tmod_eq_emod_of_nonneg (by omega)];omega
 have e2:(b:Int).tmod 8=((pickB b).2:Nat):=by
  unfold pickB
  show (b:Int).tmod 8=((b % 8:Nat):Int)
  rw [Int.tmod_eq_emod_of_nonneg (by omega)];omega
 have f1:IntKind.i64.wrap ((b:Int).tdiv 8)=(b:Int).tdiv 8:=by
  rw [Int.tdiv_eq_ediv_of_nonneg (by omega),IntKind.wrap_i64];omega
 have f2:IntKind.i64.wrap (((b:Int).tdiv 8).tmod 3)=((b:Int).tdiv 8).tmod 3:=by
  rw [e1,IntKind.wrap_i64];unfold pickB;omega
 have f3:IntKind.i64.wrap ((b:Int).tmod 8)=(b:Int).tmod 8:=by
  rw [e2,IntKind.wrap_i64];unfold pickB;omega
 have HE:=Lib.hid (And.intro e1 e2)
 clear e1 e2
 go_enter Tryz.func57,Tryz.ntmps57
 go_wp2_with fail
 refine bodyPost_ret (results_pick rfl _ _ w.heap.size _ _ (heap_alloc_new _ _) rfl) rfl ?_
 have g1:(b:Int) / 8 % 3=((pickB b).1:Nat):=by unfold pickB;show (b:Int) / 8 % 3=((b / 8 % 3:Nat):Int);omega
 have g2:(b:Int) % 8=((pickB b).2:Nat):=by unfold pickB;show (b:Int) % 8=((b % 8:Nat):Int);omega
 exact⟨by rw [g1,g2],(Below.refl _ w).alloc (Nat.le_refl _) _⟩
def u8s(l:List Nat):List Value:=l.map fun b=>.int .u8 (b:Nat)
theorem set2_get(arr:Array Value)(i j:Nat)(v0 v1:Value)(h:i+2≤arr.size):((arr.setIfInBounds i v0).setIfInBounds (i+1) v1)[j]? = if j=i then some v0 else if j=i+1 then some v1 else arr[j]? := by
 rw [Array.getElem?_setIfInBounds,Array.getElem?_setIfInBounds]
 by_cases e1:i+1=j
 ·rw [if_pos e1,if_pos (by simp;omega),if_neg (by omega),if_pos (by omega)]
 ·rw [if_neg e1]
  by_cases e2:i=j
  ·rw [if_pos e2,if_pos (by omega),if_pos (by omega)]
  ·rw [if_neg e2,if_neg (by omega),if_neg (by omega)]
set_option maxHeartbeats 8000000 in
theorem readR_any(w:World)(v:Value)(bs:List Nat)(h:Rd w 1 v bs.length (u8s bs))(hb:∀ b∈bs,b≤255)(hn:bs.length≤100000):
  Calls Tryz.prog 18 #[v] w fun e w'=>∃ g,e=.returned (.slice (some ⟨g,0,none⟩) bs.length bs.length)∧PkS w' g (bs.map pickB)∧(∃ arr,w'.heap[g]? = some (.cells arr 92 (0,0)))∧w.heap.size≤g∧g < w'.heap.size∧Below w.heap.size w w':=by
 obtain⟨A,cap,rfl,hc,hl,hcell⟩:=h
 obtain⟨N,hN⟩:∃ N,bs.length=N:=⟨_,rfl⟩
 rw [hN] at hc hl hcell hn ⊢
 have hmk:∀ W,(Instr.makeSlice 53 (.int .i64 (N:Int)) (.int .i64 (N:Int))).run Tryz.prog W=.ok (.slice (some ⟨W.heap.size,0,none⟩) N N) (W.alloc (.cells (madeCells #[.int .i64 0,.int .i64 0] (N*2)) 92)):=fun W=>by
  obtain⟨i,hi,hz0,hz1,hz2⟩:=info_parts infoP
  have hb:(i.bytes:Int)*(N:Int)≤281474976710656:=by rw [hz2];omega
  have hr:=run_make (P := Tryz.prog) W 53 92 i _ Tryz.underlying53 hi hz0 .i64 .i64 N N (by omega) (Int.le_refl _) hb (by omega)
  simp only [Int.toNat_natCast,hz1] at hr
  exact hr
 have HCE:=Lib.hid hcell
 have HB:=Lib.hid hb
 have HN:=Lib.hid hN
 have HNL:=Lib.hid hn
 clear hcell hb hN hc hl hn
 go_enter Tryz.func18,Tryz.ntmps18
 go_wp2_with fail
 clear hmk
 go_loopg [11] N (fun g iv wr=>∃ (i:Nat) (arr:Array Value),i+g=N∧iv=.int .i64 i∧Hid (wr.heap[w.heap.size]? = some (.cells arr 92 (0,0))∧arr.size=N*2∧(∀ (j:Nat) p,j < i→(bs.map pickB)[j]? = some p→arr[j*2]? = some (.int .i64 p.1)∧arr[j*2+1]? = some (.int .i64 p.2))∧Below w.heap.size w wr))
 case atStart=>exact⟨0,_,by omega,rfl,Lib.hid ⟨heap_alloc_new _ _,size_madeCells _ _,fun j p hj=>absurd hj (by omega),(Below.refl _ w).alloc (Nat.le_refl _) _⟩⟩
 case round=>
  obtain⟨i,arr,hi,rfl,HR⟩:=hrel
  by_cases hlt:i < N
  ·obtain⟨g',rfl⟩:∃ g',gk=g'+1:=⟨gk - 1,by omega⟩
   have hil:(i:Int) < (N:Int):=by omega
   have hwr:wrap64 ((i:Int)+1)=(i:Int)+1:=by have:=HNL.out;unfold wrap64;omega
   obtain⟨bt,hbt⟩:∃ b,bs[i]? = some b:=⟨_,List.getElem?_eq_getElem (by rw [HN.out];exact hlt)⟩
   have hb5:=HB.out bt (List.mem_of_getElem? hbt)
   obtain⟨b,off,rfl,hbl,hce⟩:∃ b off,A=some ⟨b,off,none⟩∧b < w.heap.size∧∀ j u,(u8s bs)[j]? = some u→w.cell? ⟨b,off+j,none⟩=some u:=by
    rcases HCE.out with⟨_,h⟩ | h
    ·omega
    ·exact h
   have x0:wr.cell? ⟨b,off+i,none⟩=some (.int .u8 (bt:Nat)):=(HR.out.2.2.2.cell (p:=⟨b,off+i,none⟩) hbl).trans (hce i _ (by simp [u8s,hbt]))
   have hof:=fun W=>of_any W bt hb5
   have HOF:=Lib.hid hof
   have HBT:=Lib.hid hbt
   clear hof hbt hce hb5
   go_wp2_with (go_at_call 57;refine (HOF.out _).mono ?_;rintro r w3 ⟨rfl,hb3⟩;have hr3:w3.heap[w.heap.size]? = some (.cells arr 92 (0,0)):=(hb3.block _ (Array.getElem?_eq_some_iff.1 HR.out.1).1).trans HR.out.1;obtain⟨u0,o0⟩:∃ u,w3.cell? ⟨w.heap.size,i*2,none⟩=some u:=⟨_,(cell_of_row _ _ _ _ _ _ hr3).trans (Array.getElem?_eq_getElem (by have:=HR.out.2.1;omega))⟩;obtain⟨u1,o1⟩:∃ u,w3.cell? ⟨w.heap.size,i*2+1,none⟩=some u:=⟨_,(cell_of_row _ _ _ _ _ _ hr3).trans (Array.getElem?_eq_getElem (by have:=HR.out.2.1;omega))⟩;have z0:=frozen_of_row w3 w.heap.size (i*2) _ _ hr3;have z1:=frozen_of_row w3 w.heap.size (i*2+1) _ _ hr3;have HR3:=Lib.hid hr3;have HB3:=Lib.hid hb3;clear hr3 hb3)
   go_roundg g'
   case rel=>
    refine⟨i+1,(arr.setIfInBounds (i*2) (.int .i64 ((pickB bt).1:Nat))).setIfInBounds (i*2+1) (.int .i64 ((pickB bt).2:Nat)),by omega,by first | (simp;done) | (simp;exact hwr),Lib.hid ⟨?_,by simp;exact HR.out.2.1,fun j p hj hp=>?_,?_⟩⟩
    ·exact heap_setCell_same _ w.heap.size (i*2+1) _ _ _ (heap_setCell_same _ w.heap.size (i*2) _ _ _ HR3.out)
    ·rw [set2_get _ _ _ _ _ (by have:=HR.out.2.1;omega),set2_get _ _ _ _ _ (by have:=HR.out.2.1;omega)]
     by_cases e:j=i
     ·subst e
      rw [List.getElem?_map,HBT.out] at hp
      obtain rfl:=Option.some.inj hp
      rw [if_pos rfl,if_neg (by omega),if_pos rfl]
      exact⟨rfl,rfl⟩
     ·rw [if_neg (by omega),if_neg (by omega),if_neg (by omega),if_neg (by omega)]
      exact HR.out.2.2.1 j p (by omega) hp
    ·exact (HR.out.2.2.2.trans (HB3.out.mono HR.out.2.2.2.size)).trans ((Only.set1 (F:=fun k=>k=w.heap.size) (p:=⟨w.heap.size,i*2+1,none⟩) (Only.set1 (F:=fun k=>k=w.heap.size) (p:=⟨w.heap.size,i*2,none⟩) (Only.refl _ w3) rfl _) rfl _).below (Nat.le_trans HR.out.2.2.2.size HB3.out.size) (fun k e=>by omega))
   case measure=>omega
  ·have hil:¬((i:Int) < (N:Int)):=by omega
   have hiN:i=N:=by omega
   subst hiN
   go_wp2_with fail
   go_ret
   refine⟨_,rfl,fun j p hp=>?_,⟨_,HR.out.1⟩,Nat.le_refl _,(Array.getElem?_eq_some_iff.1 HR.out.1).1,HR.out.2.2.2⟩
   have hj:j < i:=by
    have:=(List.getElem?_eq_some_iff.1 hp).1
    rw [List.length_map,HN.out] at this
    exact this
   obtain⟨h1,h2⟩:=HR.out.2.2.1 j p hj hp
   exact⟨(cell_of_row _ _ _ _ _ _ HR.out.1).trans h1,(cell_of_row _ _ _ _ _ _ HR.out.1).trans h2⟩
theorem read_any(w:World)(v:Value)(bs:List Nat)(h:Rd w 1 v bs.length (u8s bs))(hb:∀ b∈bs,b≤255)(hn:bs.length≤100000):
  Calls Tryz.prog 18 #[v] w fun e w'=>∃ g,e=.returned (.slice (some ⟨g,0,none⟩) bs.length bs.length)∧PkS w' g (bs.map pickB)∧w.heap.size≤g∧g < w'.heap.size∧Below w.heap.size w w':=
 (readR_any w v bs h hb hn).mono fun e w' ⟨g,h1,h2,_,h3,h4,h5⟩=>⟨g,h1,h2,h3,h4,h5⟩
end Go.Proofs.YtcnmhgblbikfkaaGreatDoor.As.T
end

section
set_option linter.unusedVariables false
set_option linter.unusedSimpArgs false
set_option maxRecDepth 20000
namespace Go.Proofs.YtcnmhgblbikfkaaGreatDoor.As.T
open Go.RowKit

theorem events_ts{Z:Nat→Prop}{w:World}{K:TsK}{s:Ts}(h:TsM Z w K s)(hn:s.evs.length < 2000000):
  Calls Tryz.prog 19 #[.pointer (some ⟨K.mb,0,none⟩)] w fun e w'=>∃ v,e=.returned v∧w'.ownsRow w.heap.size 136 8 v s.evs.length (flatE s.evs)∧Below w.heap.size w w':=by
 obtain⟨_,_,_,_,_,ev,kv,ma,ta,ba,A,_⟩:=h
 have c0:w.cell? ⟨K.mb,5,none⟩=some ev:=cell_of_row _ _ 5 _ _ _ A.hb
 obtain⟨e1,e2,e3,rfl⟩:∃ a b c,ev=.slice a b c:=by
  rcases A.oe.2 with⟨e,_⟩ | ⟨g,cap,cur,e,_⟩
  ·exact⟨_,_,_,e⟩
  ·exact⟨_,_,_,e⟩
 have hcl:=cloneE_any w _ _ _ (Rd.of_own A.oe) hn (one_ev _)
 have HCL:=Lib.hid hcl
 clear hcl A
 go_enter Tryz.func19,Tryz.ntmps19
 go_wp2_with (go_at_call 58;refine HCL.out.mono ?_;rintro r w2 ⟨v,rfl,ho,hb⟩)
 go_ret
 exact⟨v,rfl,ho,hb⟩
theorem mem_ts{Z:Nat→Prop}{w:World}{K:TsK}{s:Ts}(h:TsM Z w K s)(hmc:s.mem.length≤K.mc)(hn:s.mem.length < 2000000):
  Calls Tryz.prog 28 #[.pointer (some ⟨K.mb,0,none⟩)] w fun e w'=>∃ v,e=.returned v∧w'.ownsRow w.heap.size 25 1 v s.mem.length (w32 s.mem)∧Below w.heap.size w w':=by
 obtain⟨_,_,_,_,_,ev,kv,ma,ta,ba,A,_⟩:=h
 have c0:w.cell? ⟨K.mb,3,none⟩=some (.slice (some ⟨K.mm,0,none⟩) s.mem.length K.mc):=cell_of_row _ _ 3 _ _ _ A.hb
 have hrd:Rd w 1 (.slice (some ⟨K.mm,0,none⟩) s.mem.length K.mc) s.mem.length (w32 s.mem):=by
  refine⟨_,_,rfl,hmc,by simp [w32],.inr ⟨K.mm,0,rfl,(Array.getElem?_eq_some_iff.1 A.hm).1,fun j u hu=>?_⟩⟩
  rw [Nat.zero_add,cell_of_row _ _ _ _ _ _ A.hm]
  unfold w32 at hu
  rw [List.getElem?_map] at hu
  cases hv:s.mem[j]? with
  | none=>rw [hv] at hu;cases hu
  | some x=>
   rw [hv] at hu
   rw [←Option.some.inj hu]
   exact A.cm j x hv
 have hcl:=cloneW_any w _ _ _ hrd hn (one_w32 _)
 have HCL:=Lib.hid hcl
 clear hcl hrd A
 go_enter Tryz.func28,Tryz.ntmps28
 go_wp2_with (go_at_call 54;refine HCL.out.mono ?_;rintro r w2 ⟨v,rfl,ho,hb⟩)
 go_ret
 exact⟨v,rfl,ho,hb⟩
theorem oneF_take{l:List Ev}{i:Nat}{x:Ev}(hx:l[i]? = some x):oneF (l.take (i+1))=oneS (oneF (l.take i)) x:=by
 have hlt:=(List.getElem?_eq_some_iff.1 hx).1
 rw [List.take_add_one,hx]
 exact oneF_snoc _ _
theorem oneF_none{l:List Ev}{i:Nat}(h:oneF (l.take i)=none):oneF l=none:=by
 have hfold:∀ (r:List Ev),r.foldl oneS none=none:=by
  intro r
  induction r with
  | nil=>rfl
  | cons a r ih=>exact ih
 have e:oneF l=(l.drop i).foldl oneS (oneF (l.take i)):=by
  unfold oneF
  rw [←List.foldl_append,List.take_append_drop]
 rw [e,h,hfold]
theorem flatE_get(l:List Ev)(i:Nat)(x:Ev)(h:l[i]? = some x)(j:Nat)(hj:j < 8):(flatE l)[i*8+j]? = x.cells[j]? := flatMap_get Ev.cells 8 (fun _=>rfl) l i x h j hj
theorem ev_cells{w:World}{b off i:Nat}{l:List Ev}{x:Ev}(h:∀ j u,(flatE l)[j]? = some u→w.cell? ⟨b,off+j,none⟩=some u)(hx:l[i]? = some x):w.cell? ⟨b,off+i*8,none⟩=some (.int .i64 x.kind)∧w.cell? ⟨b,off+i*8+1,none⟩=some (.int .i64 x.who)∧w.cell? ⟨b,off+i*8+2,none⟩=some (.int .i64 x.pc)∧w.cell? ⟨b,off+i*8+3,none⟩=some (.int .i64 x.addr)∧w.cell? ⟨b,off+i*8+4,none⟩=some (.int .u32 x.val)∧w.cell? ⟨b,off+i*8+5,none⟩=some (.int .u32 x.old)∧w.cell? ⟨b,off+i*8+6,none⟩=some (.int .u32 x.k)∧w.cell? ⟨b,off+i*8+7,none⟩=some (.bool x.ok):=by
 have q:=fun j hj=>flatE_get l i x hx j hj
 exact⟨h _ _ (q 0 (by decide)),h _ _ (q 1 (by decide)),h _ _ (q 2 (by decide)),h _ _ (q 3 (by decide)),h _ _ (q 4 (by decide)),h _ _ (q 5 (by decide)),h _ _ (q 6 (by decide)),h _ _ (q 7 (by decide))⟩
set_option maxHeartbeats 8000000 in
theorem one_any(w:World)(v:Value)(l:List Ev)(h:Rd w 8 v l.length (flatE l))(hn:l.length≤99999999999):
  Calls Tryz.prog 95 #[v] w fun e w'=>e=.returned (.bool (oneF l).isSome)∧Below w.heap.size w w':=by
 obtain⟨A,cap,rfl,hc,hl,hcell⟩:=h
 obtain⟨N,hN⟩:∃ N,l.length=N:=⟨_,rfl⟩
 rw [hN] at hc hl hcell hn ⊢
 have HCE:=Lib.hid hcell
 have HN:=Lib.hid hN
 have HNL:=Lib.hid hn
 clear hcell hN hc hl hn
 go_enter Tryz.func95,Tryz.ntmps95
 go_wp2_with fail
 go_loopg [4,3] N (fun g iv nv wr=>∃ (i:Nat) (inn:Int),i+g=N∧iv=.int .i64 i∧nv=.int .i64 inn∧Hid (oneF (l.take i)=some inn∧Below w.heap.size w wr))
 case atStart=>exact⟨0,-1,by omega,rfl,rfl,Lib.hid ⟨rfl,Below.refl _ _⟩⟩
 case round=>
  obtain⟨i,inn,hi,rfl,rfl,HR⟩:=hrel
  by_cases hlt:i < N
  ·obtain⟨g',rfl⟩:∃ g',gk=g'+1:=⟨gk - 1,by omega⟩
   have hil:(i:Int) < (N:Int):=by omega
   have hwr:wrap64 ((i:Int)+1)=(i:Int)+1:=by have:=HNL.out;unfold wrap64;omega
   obtain⟨x,hx⟩:∃ x,l[i]? = some x:=⟨_,List.getElem?_eq_getElem (by rw [HN.out];exact hlt)⟩
   obtain⟨b,off,rfl,hbl,hce⟩:∃ b off,A=some ⟨b,off,none⟩∧b < w.heap.size∧∀ j u,(flatE l)[j]? = some u→w.cell? ⟨b,off+j,none⟩=some u:=by
    rcases HCE.out with⟨_,h⟩ | h
    ·omega
    ·exact h
   obtain⟨y0,y1,y2,y3,y4,y5,y6,y7⟩:=ev_cells (w:=wr) (fun j u hu=>(HR.out.2.cell (p:=⟨b,off+j,none⟩) hbl).trans (hce j u hu)) hx
   have hst:=oneF_take hx
   rw [HR.out.1] at hst
   have HBT:=Lib.hid hx
   clear hx hce
   by_cases k7:x.kind=7
   ·have d7:(x.kind == 7)=true:=by rw [k7];rfl
    by_cases k1:x.k=1
    ·have e1:(x.k == 1)=true:=by rw [k1];rfl
     have e2:(x.k == 2)=false:=by rw [k1];rfl
     by_cases v0:x.val=0
     ·have e3:(x.val == 0)=true:=by rw [v0];rfl
      by_cases hin:0≤inn
      ·have hf:oneF (l.take (i+1))=none:=by
        rw [hst];simp only [oneS];rw [if_neg (fun e=>e k7),if_pos ⟨k1,v0⟩,if_pos hin]
       have HF:=Lib.hid (oneF_none hf)
       clear hst k7 k1 v0 hf
       go_wp2_with fail
       go_ret
       exact⟨by rw [HF.out];rfl,HR.out.2.alloc HR.out.2.size _⟩
      ·have hf:oneF (l.take (i+1))=some x.who:=by
        rw [hst];exact oneS_in k7 k1 v0 (by omega)
       have hin2:¬ 0≤inn:=hin
       have HF:=Lib.hid hf
       clear hst k7 k1 v0 hf hin
       go_wp2_with fail
       go_roundg g'
       case rel=>exact⟨i+1,x.who,by omega,by first | (simp;done) | (simp;exact hwr),rfl,Lib.hid ⟨HF.out,HR.out.2.alloc HR.out.2.size _⟩⟩
       case measure=>omega
     ·have e3:(x.val == 0)=false:=by simpa using v0
      have hf:oneF (l.take (i+1))=some inn:=by
       rw [hst];exact oneS_mark k7 (fun e=>v0 e.2) (by omega)
      have HF:=Lib.hid hf
      clear hst k7 k1 v0 hf
      go_wp2_with fail
      go_roundg g'
      case rel=>exact⟨i+1,inn,by omega,by first | (simp;done) | (simp;exact hwr),rfl,Lib.hid ⟨HF.out,HR.out.2.alloc HR.out.2.size _⟩⟩
      case measure=>omega
    ·have e1:(x.k == 1)=false:=by simpa using k1
     by_cases k2:x.k=2
     ·have e2:(x.k == 2)=true:=by rw [k2];rfl
      by_cases hw:inn=x.who
      ·have e3:(inn == x.who)=true:=by rw [hw];simp
       have hf:oneF (l.take (i+1))=some (-1):=by
        rw [hst];exact oneS_out k7 k2 hw
       have HF:=Lib.hid hf
       clear hst k7 k1 k2 hw hf
       go_wp2_with fail
       go_roundg g'
       case rel=>exact⟨i+1,-1,by omega,by first | (simp;done) | (simp;exact hwr),rfl,Lib.hid ⟨HF.out,HR.out.2.alloc HR.out.2.size _⟩⟩
       case measure=>omega
      ·have e3:(inn == x.who)=false:=by simpa using hw
       have hf:oneF (l.take (i+1))=none:=by
        rw [hst];simp only [oneS];rw [if_neg (fun e=>e k7),if_neg (fun e=>k1 e.1),if_pos k2,if_pos hw]
       have HF:=Lib.hid (oneF_none hf)
       clear hst k7 k1 k2 hw hf
       go_wp2_with fail
       go_ret
       exact⟨by rw [HF.out];rfl,HR.out.2.alloc HR.out.2.size _⟩
     ·have e2:(x.k == 2)=false:=by simpa using k2
      have hf:oneF (l.take (i+1))=some inn:=by
       rw [hst];exact oneS_mark k7 (fun e=>k1 e.1) k2
      have HF:=Lib.hid hf
      clear hst k7 k1 k2 hf
      go_wp2_with fail
      go_roundg g'
      case rel=>exact⟨i+1,inn,by omega,by first | (simp;done) | (simp;exact hwr),rfl,Lib.hid ⟨HF.out,HR.out.2.alloc HR.out.2.size _⟩⟩
      case measure=>omega
   ·have d7:(x.kind == 7)=false:=by simpa using k7
    have hf:oneF (l.take (i+1))=some inn:=by
     rw [hst];exact oneS_other k7
    have HF:=Lib.hid hf
    clear hst k7 hf
    go_wp2_with fail
    go_roundg g'
    case rel=>exact⟨i+1,inn,by omega,by first | (simp;done) | (simp;exact hwr),rfl,Lib.hid ⟨HF.out,HR.out.2.alloc HR.out.2.size _⟩⟩
    case measure=>omega
  ·have hil:¬((i:Int) < (N:Int)):=by omega
   have hiN:i=N:=by omega
   subst hiN
   go_wp2_with fail
   go_ret
   have h1:=HR.out.1
   rw [←HN.out,List.take_length] at h1
   exact⟨by rw [h1];rfl,HR.out.2⟩
end Go.Proofs.YtcnmhgblbikfkaaGreatDoor.As.T
end

section
set_option linter.unusedVariables false
set_option linter.unusedSimpArgs false
set_option maxRecDepth 20000
namespace Go.Proofs.YtcnmhgblbikfkaaGreatDoor.As.T
open Go.RowKit

def endedT(s:Ts)(t:Nat):Bool:=match s.ths[t]? with
 | some th => !(th.st == 0) && !(th.st == 1) && decide ((s.buf t).length=0)
 | none=>true
def endedTo(s:Ts)(n:Nat):Bool:=(List.range n).all (endedT s)
theorem endedTo_succ(s:Ts)(n:Nat):endedTo s (n+1)=(endedTo s n && endedT s n):=by
 unfold endedTo
 rw [List.range_succ,List.all_append]
 simp
theorem endedTo_false{s:Ts}{i N:Nat}(hi:i < N)(h:endedT s i=false):endedTo s N=false:=by
 unfold endedTo
 rw [List.all_eq_false]
 exact⟨i,List.mem_range.2 hi,by rw [h];decide⟩
set_option maxHeartbeats 8000000 in
theorem done_ts{Z:Nat→Prop}{w:World}{K:TsK}{s:Ts}(h:TsM Z w K s)(hT:s.ths.length≤1000):
  Calls Tryz.prog 26 #[.pointer (some ⟨K.mb,0,none⟩)] w fun e w'=>e=.returned (.bool (endedTo s s.ths.length))∧Below w.heap.size w w':=by
 obtain⟨N,hN⟩:∃ N,s.ths.length=N:=⟨_,rfl⟩
 rw [hN] at hT ⊢
 obtain⟨n35,hn35⟩:∃ n:Nat,n=35:=⟨_,rfl⟩
 have hsz:=sizeB hn35
 have c0:w.cell? ⟨K.mb,1,none⟩=some (.slice (some ⟨K.tb,0,none⟩) N K.tc):=by
  obtain⟨_,_,_,_,_,ev,kv,ma,ta,ba,A,_⟩:=h
  rw [←hN]
  exact cell_of_row _ _ 1 _ _ _ A.hb
 have H:=Lib.hid h
 have HN:=Lib.hid hN
 have HT:=Lib.hid hT
 have HN35:=Lib.hid hn35
 clear h hN hT hn35
 go_enter Tryz.func26,Tryz.ntmps26
 go_wp2_with fail
 clear c0
 go_loopg [10] N (fun g iv wr=>∃ (i:Nat),i+g=N∧iv=.int .i64 i∧Hid (endedTo s i=true∧Below w.heap.size w wr))
 case atStart=>exact⟨0,by omega,rfl,Lib.hid ⟨rfl,Below.refl _ _⟩⟩
 case round=>
  obtain⟨i,hi,rfl,HR⟩:=hrel
  by_cases hlt:i < N
  ·obtain⟨g',rfl⟩:∃ g',gk=g'+1:=⟨gk - 1,by omega⟩
   have hil:(i:Int) < (N:Int):=by omega
   have hwr:wrap64 ((i:Int)+1)=(i:Int)+1:=by have:=HT.out;unfold wrap64;omega
   have hM:=H.out.below (HR.out.2.mono (Nat.le_refl _))
   obtain⟨th,hth⟩:∃ th,s.ths[i]? = some th:=⟨_,List.getElem?_eq_getElem (by rw [HN.out];exact hlt)⟩
   obtain⟨_,_,hnb,_,_,ev,kv,ma,ta,ba,A,_⟩:=hM
   obtain⟨h8,hct⟩:=A.ct i th hth
   obtain⟨q,hq⟩:∃ q,s.bufs[i]? = some q:=⟨_,List.getElem?_eq_getElem (by rw [hnb,HN.out];exact hlt)⟩
   obtain⟨cs,hB,hcs⟩:=A.cq i q hq
   have hbuf:s.buf i=q:=by unfold Ts.buf;rw [List.getD_eq_getElem?_getD,hq];rfl
   obtain⟨pc,regs,st⟩:=th
   obtain⟨r0,r1,r2,r3,r4,r5,r6,r7,rfl⟩:=list8 h8
   have k:∀ j u,(Th.mk pc [r0,r1,r2,r3,r4,r5,r6,r7] st).cells[j]? = some u→wr.cell? ⟨K.tb,i*10+j,none⟩=some u:=fun j u hu=>(cell_of_row _ _ _ _ _ _ A.ht).trans (hct j u hu)
   have k0:=k 0 _ rfl
   have k1:=k 1 _ rfl
   have k2:=k 2 _ rfl
   have k3:=k 3 _ rfl
   have k4:=k 4 _ rfl
   have k5:=k 5 _ rfl
   have k6:=k 6 _ rfl
   have k7:=k 7 _ rfl
   have k8:=k 8 _ rfl
   have k9:=k 9 _ rfl
   simp only [Nat.add_zero] at k0
   have m2:∀ X,(wr.alloc X).cell? ⟨K.mb,2,none⟩=some (.slice (some ⟨K.bb,0,none⟩) s.bufs.length K.bc):=fun X=>cell_of_row _ _ 2 _ _ _ (up_al A.hb)
   have hld:∀ X,Sem.run Tryz.prog (loadCellsFrom ⟨K.bb,i*n35,none⟩ 0 n35 #[]) (wr.alloc X)=.ok cs (wr.alloc X):=fun X=>ldRow (by rw [HN35.out];exact rowMid (up_al A.hq) hcs) (hB.1.trans HN35.out.symm)
   have hib:(i:Int) < (s.bufs.length:Int):=by rw [hnb,HN.out];exact hil
   have hen:endedT s i=(!(st == 0) && !(st == 1) && decide (q.length=0)):=by unfold endedT;rw [hth,hbuf]
   have hln:=fun W=>buf_len W cs s.room q hB
   have HEN:=Lib.hid hen
   have HLN:=Lib.hid hln
   clear hct A hB hcs hbuf k hth hq hen hln hnb
   by_cases s0:st=0
   ·have d0:(st == 0)=true:=by rw [s0];rfl
    have HF:Hid (endedT s i=false):=Lib.hid (by rw [HEN.out,d0];rfl)
    clear s0
    go_wp2_with fail
    go_ret
    exact⟨by rw [endedTo_false hlt HF.out];rfl,HR.out.2.alloc HR.out.2.size _⟩
   ·have d0:(st == 0)=false:=by simpa using s0
    by_cases s1:st=1
    ·have d1:(st == 1)=true:=by rw [s1];rfl
     have HF:Hid (endedT s i=false):=Lib.hid (by rw [HEN.out,d0,d1];rfl)
     clear s0 s1
     go_wp2_with fail
     go_ret
     exact⟨by rw [endedTo_false hlt HF.out];rfl,HR.out.2.alloc HR.out.2.size _⟩
    ·have d1:(st == 1)=false:=by simpa using s1
     clear s0 s1
     cases hql:q.length with
     | zero=>
      have HF:Hid (endedT s i=true):=Lib.hid (by rw [HEN.out,d0,d1,hql];rfl)
      have HL0:Hid (∀ W,Calls Tryz.prog 65 #[.agg cs] W fun e w'=>e=.returned (.int .i64 0)∧Below W.heap.size W w'):=Lib.hid (fun W=>by have:=HLN.out W;rw [hql] at this;exact this)
      clear hql HLN HEN
      go_wp2_with (go_at_call 65;refine (HL0.out _).mono ?_;rintro r w3 ⟨rfl,hb3⟩)
      go_roundg g'
      case rel=>exact⟨i+1,by omega,by first | (simp;done) | (simp;exact hwr),Lib.hid ⟨by rw [endedTo_succ,HR.out.1,HF.out];rfl,(HR.out.2.alloc HR.out.2.size _).trans (hb3.mono (by have:=HR.out.2.size;simp;omega))⟩⟩
      case measure=>omega
     | succ ql=>
      have HF:Hid (endedT s i=false):=Lib.hid (by rw [HEN.out,d0,d1,hql];rfl)
      have HL0:Hid (∀ W,Calls Tryz.prog 65 #[.agg cs] W fun e w'=>e=.returned (.int .i64 ((ql:Int)+1))∧Below W.heap.size W w'):=Lib.hid (fun W=>by have:=HLN.out W;rw [hql] at this;exact this)
      have q1:(0:Int) < (ql:Int)+1:=by omega
      clear hql HLN HEN
      go_wp2_with (go_at_call 65;refine (HL0.out _).mono ?_;rintro r w3 ⟨rfl,hb3⟩)
      go_ret
      exact⟨by rw [endedTo_false hlt HF.out];rfl,(HR.out.2.alloc HR.out.2.size _).trans (hb3.mono (by have:=HR.out.2.size;simp;omega))⟩
  ·have hil:¬((i:Int) < (N:Int)):=by omega
   have hiN:i=N:=by omega
   subst hiN
   go_wp2_with fail
   go_ret
   exact⟨by rw [HR.out.1];rfl,HR.out.2⟩
end Go.Proofs.YtcnmhgblbikfkaaGreatDoor.As.T
end

