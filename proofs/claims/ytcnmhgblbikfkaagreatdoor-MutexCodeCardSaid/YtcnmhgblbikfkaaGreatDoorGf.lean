/- The walks of the package buf: a ring of entries that aren't in memory yet. The walks of buf.Put,buf.Pop,buf.New. The walk of buf.Pop. The walk of buf.New. A slice built of one buffer. -/
import Derived.Test.YtcnmhgblbikfkaaGreatDoorGa
import Derived.Test.YtcnmhgblbikfkaaGreatDoorGb
import Derived.Deep.RegionWith
import Derived.Deep.RegionHeld
import Derived.Deep.RegionHeldLaw
import Derived.Deep.QuietTactic
import Derived.BigQuiet
import Derived.Deep.MidRow
import Derived.Deep.Cut
section
set_option linter.unusedVariables false
set_option linter.unusedSimpArgs false
set_option maxRecDepth 20000
namespace Go.Proofs.YtcnmhgblbikfkaaGreatDoor.As
open Go.RowKit

theorem buf_at(w:World)(cs:Array Value)(f i:Int)(hs:cs.size=35)(hf:cs[32]? = some (.int .i64 f))(f0:0≤f∧f < 16)(i0:0≤i∧i≤16):
  Calls Tryz.prog 164 #[.agg cs,.int .i64 i] w fun e w'=>e=.returned (.int .i64 ((f+i) % 16))∧Below w.heap.size w w':=by
 have h32:cs[32]'(by omega)=.int .i64 f:=by rw [Array.getElem?_eq_getElem (by omega)] at hf;exact Option.some.inj hf
 clear hf
 go_enter Tryz.func164,Tryz.ntmps164
 go_wp2_with fail
 go_ret
 exact⟨rfl,(Below.refl _ w).alloc (Nat.le_refl _) _⟩
def BufIs(cs:Array Value)(room:Nat)(q:List (Nat×Int)):Prop:=
 cs.size=35∧cs.all (·.oneCell')=true∧room≤16∧1≤room∧q.length≤room∧∃ f:Nat,f < 16∧cs[32]? = some (.int .i64 f)∧cs[33]? = some (.int .i64 (q.length:Nat))∧cs[34]? = some (.int .i64 room)∧∀ i e,q[i]? = some e→cs[(f+i) % 16*2]? = some (.int .i64 (e.1:Nat))∧cs[(f+i) % 16*2+1]? = some (.int .u32 e.2)
theorem getA{cs:Array Value}{n:Nat}{v:Value}(h:cs[n]? = some v)(hn:n < cs.size):cs[n]'hn=v:=by rw [Array.getElem?_eq_getElem hn] at h;exact Option.some.inj h
theorem rowB{W:World}{g:Nat}{cs:Array Value}{t:TypeId}(h:W.heap[g]? = some (.cells cs t (0,0))):W.rangeAt g 0 cs.toList:=fun j v hv=>by rw [Nat.zero_add,cell_of_row W g j _ _ _ h];simpa using hv
theorem infoB{cs:Array Value}(hs:cs.size=35):(Tryz.prog.info? 127).map (·.size)=some cs.size:=by rw [hs];kernel_rfl
theorem sizeB{n:Nat}(hn:n=35)(W:World):Sem.run Tryz.prog (sizeOf 127) W=.ok n W:=by subst hn;go_simp
theorem ldRow{P:Program}{W:World}{b o n:Nat}{cs:Array Value}(h:W.rangeAt b o cs.toList)(hs:cs.size=n):Sem.run P (loadCellsFrom ⟨b,o,none⟩ 0 n #[]) W=.ok cs W:=by
 have:=run_loadCells_list (P:=P) W ⟨b,o,none⟩ cs.toList (fun j v hv=>by rw [Addr.add_mid];exact h j v hv)
 rw [Array.length_toList,hs,Array.toArray_toList] at this
 exact this
theorem stRow{P:Program}{W:World}{b o n:Nat}{cs:Array Value}(h:W.there b o n)(hs:cs.size=n)(h1:cs.all (·.oneCell')=true):Sem.run P (storeCells ⟨b,o,none⟩ cs.toList 0) W=.ok () (W.setCells b o cs.toList):=by
 have:=run_storeCells_cells (P:=P) b o cs.toList 0 W (fun j hj=>by simpa using (h j (by rw [←hs];simpa using hj)).1) (fun j hj=>by simpa using (h j (by rw [←hs];simpa using hj)).2) (fun v hv=>(Array.all_eq_true_iff_forall_mem.1 h1) v (by simpa using hv))
 simpa using this
theorem buf_len(w:World)(cs:Array Value)(room:Nat)(q:List (Nat×Int))(h:BufIs cs room q):
  Calls Tryz.prog 65 #[.agg cs] w fun e w'=>e=.returned (.int .i64 q.length)∧Below w.heap.size w w':=by
 obtain⟨hs,ho,hr,hr1,hq,f,hf,c32,c33,c34,hc⟩:=h
 have h33:=getA c33 (by omega)
 clear hc c32 c33 c34
 go_enter Tryz.func65,Tryz.ntmps65
 go_wp2_with fail
 go_ret
 exact⟨rfl,(Below.refl _ w).alloc (Nat.le_refl _) _⟩
theorem buf_full(w:World)(cs:Array Value)(room:Nat)(q:List (Nat×Int))(h:BufIs cs room q):
  Calls Tryz.prog 176 #[.agg cs] w fun e w'=>e=.returned (.bool (decide (room≤q.length)))∧Below w.heap.size w w':=by
 obtain⟨hs,ho,hr,hr1,hq,f,hf,c32,c33,c34,hc⟩:=h
 have h33:=getA c33 (by omega)
 have h34:=getA c34 (by omega)
 clear hc c32 c33 c34
 go_enter Tryz.func176,Tryz.ntmps176
 go_wp2_with fail
 go_ret
 refine⟨?_,(Below.refl _ w).alloc (Nat.le_refl _) _⟩
 simp
def findQ(q:List (Nat×Int))(a:Nat):Option Int:=(q.reverse.find? (fun e=>e.1 == a)).map (·.2)
theorem findQ_last{q:List (Nat×Int)}{a k:Nat}{e:Nat×Int}(he:q[k]? = some e)(hea:e.1=a)(hn:∀ j x,k+1≤j→q[j]? = some x→x.1≠a):findQ q a=some e.2:=by
 have hk:=(List.getElem?_eq_some_iff.1 he).1
 have hsp:q=q.take k++e::q.drop (k+1):=by
  have h1:=(List.take_append_drop k q).symm
  rw [List.drop_eq_getElem_cons hk,(List.getElem?_eq_some_iff.1 he).2] at h1
  exact h1
 have hd:∀ x∈q.drop (k+1),¬(x.1 == a)=true:=by
  intro x hx
  obtain⟨j,hj⟩:=List.getElem?_of_mem hx
  rw [List.getElem?_drop] at hj
  simpa using hn _ x (by omega) hj
 unfold findQ
 rw [hsp,List.reverse_append,List.reverse_cons,List.find?_append,List.find?_append,List.find?_eq_none.2 (fun x hx=>hd x (List.mem_reverse.1 hx))]
 simp [hea]
set_option maxHeartbeats 2000000 in
theorem buf_find(w:World)(cs:Array Value)(room:Nat)(q:List (Nat×Int))(a:Nat)(h:BufIs cs room q):
  Calls Tryz.prog 175 #[.agg cs,.int .i64 (a:Nat)] w fun e w'=>(∃ v,e=.returned (.tuple #[.int .u32 v,.bool (findQ q a).isSome])∧(∀ u,findQ q a=some u→v=u))∧Below w.heap.size w w':=by
 obtain⟨hs,ho,hr,hr1,hq,f,hf,c32,c33,c34,hc⟩:=h
 have h33:=getA c33 (by omega)
 have C32:=Lib.hid c32
 have HC:=Lib.hid hc
 clear hc c32 c33 c34
 obtain⟨w1,hw1⟩:∃ w1,w1=w.alloc (.cells cs 127):=⟨_,rfl⟩
 have hb1:Below w.heap.size w w1:=by rw [hw1];exact (Below.refl _ w).alloc (Nat.le_refl _) _
 have hg1:w1.heap[w.heap.size]? = some (.cells cs 127 (0,0)):=by rw [hw1];exact heap_alloc_new _ _
 have HB1:=Lib.hid hb1
 have HG1:=Lib.hid hg1
 have HS:=Lib.hid hs
 obtain⟨n35,hn35⟩:∃ n:Nat,n=35:=⟨_,rfl⟩
 have hsz:=sizeB hn35
 have HN35:=Lib.hid hn35
 clear hn35
 go_enter Tryz.func175,Tryz.ntmps175
 go_wp2_with fail
 rw [←hw1]
 clear hw1 hg1 hb1
 go_loopw [6] (fun iv wr=>∃ k:Nat,k≤q.length∧iv=.int .i64 ((k:Int) - 1)∧Hid (Below w1.heap.size w1 wr)∧Hid (∀ j e,k≤j→q[j]? = some e→e.1≠a)) (fun i _=>(intOf i+1).toNat)
 case atStart=>
  refine⟨q.length,Nat.le_refl _,rfl,Lib.hid (Below.refl _ _),Lib.hid (fun j e hj he=>?_)⟩
  rw [List.getElem?_eq_none hj] at he
  cases he
 case round=>
  obtain⟨k,hk,rfl,HW,HN⟩:=hrel
  have hgk:wr.heap[w.heap.size]? = some (.cells cs 127 (0,0)):=(HW.out.block _ (Array.getElem?_eq_some_iff.1 HG1.out).1).trans HG1.out
  have HGK:=Lib.hid hgk
  have hld:Sem.run Tryz.prog (loadCellsFrom ⟨w.heap.size,0,none⟩ 0 n35 #[]) wr=.ok cs wr:=ldRow (rowB hgk) (HS.out.trans HN35.out.symm)
  clear hgk
  by_cases hk0:k=0
  ·subst hk0
   have hnone:findQ q a=none:=by
    unfold findQ
    rw [List.find?_eq_none.2 (fun e he=>by
     obtain⟨j,hj⟩:=List.getElem?_of_mem (List.mem_reverse.1 he)
     simpa using HN.out j e (Nat.zero_le _) hj)]
    rfl
   go_wp2_with fail
   go_ret2
   exact⟨⟨0,by rw [hnone];rfl,fun u hu=>by rw [hnone] at hu;cases hu⟩,HB1.out.trans (HW.out.mono HB1.out.size)⟩
  ·obtain⟨e,he⟩:∃ e,q[k-1]? = some e:=⟨_,List.getElem?_eq_getElem (by omega)⟩
   have HD:=Lib.hid (HC.out _ _ he)
   have HE:=Lib.hid he
   clear he
   have hgz:w.heap.size < wr.heap.size:=(Array.getElem?_eq_some_iff.1 HGK.out).1
   by_cases hea:e.1=a
   ·have hb:((e.1:Int) == (a:Int))=true:=by simp [hea]
    have hsome:=Lib.hid (findQ_last HE.out hea (fun j x hj hx=>HN.out j x (by omega) hx))
    go_wp2_with ((go_at_call 164;refine (buf_at _ cs f ((k:Int) - 1) HS.out C32.out (by omega) (by omega)).mono ?_;rintro r w2 ⟨rfl,hb2⟩;have hg2:=(hb2.block _ (Array.getElem?_eq_some_iff.1 HGK.out).1).trans HGK.out;have d0:w2.cell? ⟨w.heap.size,(f+(k - 1)) % 16*2,none⟩=some (.int .i64 (e.1:Nat)):=(cell_of_row _ _ _ _ _ _ hg2).trans HD.out.1;have d1:w2.cell? ⟨w.heap.size,(f+(k - 1)) % 16*2+1,none⟩=some (.int .u32 e.2):=(cell_of_row _ _ _ _ _ _ hg2).trans HD.out.2;clear hg2))
    go_ret2
    refine⟨⟨e.2,by rw [hsome.out];rfl,fun u hu=>by rw [hsome.out] at hu;exact Option.some.inj hu⟩,?_⟩
    have h1:Below w.heap.size w wr:=HB1.out.trans (HW.out.mono HB1.out.size)
    have h2:Below w.heap.size w w2:=h1.trans (hb2.mono h1.size)
    exact h2.alloc h2.size _
   ·have hb:((e.1:Int) == (a:Int))=false:=by simp;omega
    go_wp2_with ((go_at_call 164;refine (buf_at _ cs f ((k:Int) - 1) HS.out C32.out (by omega) (by omega)).mono ?_;rintro r w2 ⟨rfl,hb2⟩;have hg2:=(hb2.block _ (Array.getElem?_eq_some_iff.1 HGK.out).1).trans HGK.out;have d0:w2.cell? ⟨w.heap.size,(f+(k - 1)) % 16*2,none⟩=some (.int .i64 (e.1:Nat)):=(cell_of_row _ _ _ _ _ _ hg2).trans HD.out.1;have d1:w2.cell? ⟨w.heap.size,(f+(k - 1)) % 16*2+1,none⟩=some (.int .u32 e.2):=(cell_of_row _ _ _ _ _ _ hg2).trans HD.out.2;clear hg2))
    go_roundw
    case rel=>
     have h1:Below w1.heap.size w1 w2:=HW.out.trans (hb2.mono HW.out.size)
     refine⟨k - 1,by omega,congrArg _ (by omega),Lib.hid (h1.alloc h1.size _),Lib.hid (fun j x hj hx=>?_)⟩
     by_cases hjk:j=k - 1
     ·subst hjk
      rw [HE.out] at hx
      injection hx with hx
      subst hx
      exact hea
     ·exact HN.out j x (by omega) hx
    case measure=>simp [intOf]<;>omega
theorem up_al{W:World}{g:Nat}{o X:Obj}(h:W.heap[g]? = some o):(W.alloc X).heap[g]? = some o:=(Below.heap_alloc _ _ _ (Array.getElem?_eq_some_iff.1 h).1).trans h
theorem up_bl{A B:World}{N:Nat}(h:Below N A B){g:Nat}{o:Obj}(hn:g < N)(hg:A.heap[g]? = some o):B.heap[g]? = some o:=(h.block g hn).trans hg
theorem new_at{W:World}{g:Nat}{o:Obj}(h:g=W.heap.size):(W.alloc o).heap[g]? = some o:=by subst h;exact heap_alloc_new _ _
theorem results_ab{fn:Func}{p u1:Tmp}(h:fn.results=#[.cell p 127,.tmp u1])(tmps:Array Value)(w:World)(R:Nat)(cs:Array Value)(hs:cs.size=35)(hb:w.heap[R]? = some (.cells cs 127 (0,0)))(hp:tmps.getD p undef=.pointer (some ⟨R,0,none⟩)):
  (results fn tmps).run Tryz.prog w=.ok (.tuple #[.agg cs,tmps.getD u1 undef]) w:=by
 have hl:=run_loadVar_row (P := Tryz.prog) w R 127 127 _ _ _ hb Tryz.underlying127 rfl (infoB hs)
 simp only [Array.getD_eq_getD_getElem?] at hp
 simp [results,h,hp,asAddr,hl]
theorem stRow0{P:Program}{W:World}{g:Nat}{t:TypeId}{old cs:Array Value}(h:W.heap[g]? = some (.cells old t (0,0)))(hs:old.size=cs.size)(h1:cs.all (·.oneCell')=true):Sem.run P (storeCells ⟨g,0,none⟩ cs.toList 0) W=.ok () (W.setRow g cs):=by
 have:=run_storeCells_from (P:=P) g t cs.toList 0 old W h (by simp;omega) (fun v hv=>(Array.all_eq_true_iff_forall_mem.1 h1) v (by simpa using hv))
 simpa using this
theorem all_set{cs:Array Value}{i:Nat}{v:Value}(h:cs.all (·.oneCell')=true)(hv:v.oneCell'=true):(cs.setIfInBounds i v).all (·.oneCell')=true:=by
 rw [Array.all_eq_true_iff_forall_mem] at h ⊢
 intro x hx
 obtain⟨j,hj,rfl⟩:=Array.mem_iff_getElem.1 hx
 rw [Array.getElem_setIfInBounds (by simpa using hj)]
 split
 ·exact hv
 ·exact h _ (Array.getElem_mem _)
theorem BufIs.put{cs:Array Value}{room:Nat}{q:List (Nat×Int)}(h:BufIs cs room q)(hl:q.length < room)(a:Nat)(v:Int){f:Nat}(hf:f < 16)(hc:cs[32]? = some (.int .i64 f)):
  BufIs (((cs.setIfInBounds ((f+q.length) % 16*2) (.int .i64 (a:Nat))).setIfInBounds ((f+q.length) % 16*2+1) (.int .u32 v)).setIfInBounds 33 (.int .i64 ((q.length:Nat)+1))) room (q++[(a,v)]):=by
 obtain⟨hs,ho,hr,hr1,hq,f',hf',c32,c33,c34,hcc⟩:=h
 rw [hc] at c32
 have:f'=f:=by
  injection c32 with c32
  injection c32 with _ c32
  omega
 subst this
 have hm:=Nat.mod_lt (f'+q.length) (show 0 < 16 by decide)
 refine⟨by simpa using hs,all_set (all_set (all_set ho rfl) rfl) rfl,hr,hr1,by simp;omega,f',hf',?_,?_,?_,?_⟩
 ·rw [Array.getElem?_setIfInBounds_ne (by omega),Array.getElem?_setIfInBounds_ne (by omega),Array.getElem?_setIfInBounds_ne (by omega)];exact hc
 ·rw [Array.getElem?_setIfInBounds_self_of_lt (by simp;omega)];simp
 ·rw [Array.getElem?_setIfInBounds_ne (by omega),Array.getElem?_setIfInBounds_ne (by omega),Array.getElem?_setIfInBounds_ne (by omega)];exact c34
 ·intro i e he
  by_cases hi:i < q.length
  ·rw [List.getElem?_append_left hi] at he
   obtain⟨d0,d1⟩:=hcc i e he
   have hmi:=Nat.mod_lt (f'+i) (show 0 < 16 by decide)
   have hne:(f'+i) % 16≠(f'+q.length) % 16:=by omega
   constructor
   ·rw [Array.getElem?_setIfInBounds_ne (by omega),Array.getElem?_setIfInBounds_ne (by omega),Array.getElem?_setIfInBounds_ne (by omega)];exact d0
   ·rw [Array.getElem?_setIfInBounds_ne (by omega),Array.getElem?_setIfInBounds_ne (by omega),Array.getElem?_setIfInBounds_ne (by omega)];exact d1
  ·have hlt:=(List.getElem?_eq_some_iff.1 he).1
   have hie:i=q.length:=by simp at hlt;omega
   subst hie
   rw [List.getElem?_append_right (Nat.le_refl _),Nat.sub_self] at he
   injection he with he
   subst he
   constructor
   ·rw [Array.getElem?_setIfInBounds_ne (by omega),Array.getElem?_setIfInBounds_ne (by omega),Array.getElem?_setIfInBounds_self_of_lt (by omega)]
   ·rw [Array.getElem?_setIfInBounds_ne (by omega),Array.getElem?_setIfInBounds_self_of_lt (by simp;omega)]
theorem bl_drw{B:Nat}{a w:World}(h:Below B a w):Below B a w.drew:=⟨h.os,h.tape,h.output,h.size,h.block⟩
theorem bl_set{B:Nat}{a w:World}(h:Below B a w){p:Addr}(hp:B≤p.block)(v:Value):Below B a (w.setCell p v):=by
 refine⟨h.os,h.tape,h.output,?_,fun k hk=>?_⟩
 ·have:=h.size;simpa using this
 ·obtain⟨g,i,sp⟩:=p
  exact (heap_setCell_other _ _ _ _ (fun e=>by subst e;dsimp only at hp;omega)).trans (h.block k hk)
theorem BufIs.pop{cs:Array Value}{room:Nat}{q:List (Nat×Int)}{e0:Nat×Int}(h:BufIs cs room (e0::q)){f:Nat}(hf:f < 16)(hc:cs[32]? = some (.int .i64 f)):
  BufIs ((((cs.setIfInBounds (f*2) (.int .i64 0)).setIfInBounds (f*2+1) (.int .u32 0)).setIfInBounds 32 (.int .i64 (((f:Int)+1) % 16))).setIfInBounds 33 (.int .i64 (((q.length+1:Nat):Int) - 1))) room q:=by
 obtain⟨hs,ho,hr,hr1,hq,f',hf',c32,c33,c34,hcc⟩:=h
 rw [hc] at c32
 have:f'=f:=by
  injection c32 with c32
  injection c32 with _ c32
  omega
 subst this
 simp only [List.length_cons] at hq
 refine⟨by simpa using hs,all_set (all_set (all_set (all_set ho rfl) rfl) rfl) rfl,hr,hr1,by omega,(f'+1) % 16,Nat.mod_lt _ (by decide),?_,?_,?_,?_⟩
 ·rw [Array.getElem?_setIfInBounds_ne (by omega),Array.getElem?_setIfInBounds_self_of_lt (by simp;omega)];first | rfl | (congr 2;omega) | (congr 2)
 ·rw [Array.getElem?_setIfInBounds_self_of_lt (by simp;omega)];first | rfl | (congr 2;omega) | (congr 2)
 ·rw [Array.getElem?_setIfInBounds_ne (by omega),Array.getElem?_setIfInBounds_ne (by omega),Array.getElem?_setIfInBounds_ne (by omega),Array.getElem?_setIfInBounds_ne (by omega)];exact c34
 ·intro i e he
  have hi:=(List.getElem?_eq_some_iff.1 he).1
  obtain⟨d0,d1⟩:=hcc (i+1) e (by simpa using he)
  have hmi:=Nat.mod_lt (f'+(i+1)) (show 0 < 16 by decide)
  have hne:(f'+(i+1)) % 16≠f':=by omega
  have heq:((f'+1) % 16+i) % 16=(f'+(i+1)) % 16:=by omega
  rw [heq]
  constructor
  ·rw [Array.getElem?_setIfInBounds_ne (by omega),Array.getElem?_setIfInBounds_ne (by omega),Array.getElem?_setIfInBounds_ne (by omega),Array.getElem?_setIfInBounds_ne (by omega)];exact d0
  ·rw [Array.getElem?_setIfInBounds_ne (by omega),Array.getElem?_setIfInBounds_ne (by omega),Array.getElem?_setIfInBounds_ne (by omega),Array.getElem?_setIfInBounds_ne (by omega)];exact d1
def Row35(W:World)(g:Nat):Prop:=∃ z:Array Value,W.heap[g]? = some (.cells z 127 (0,0))∧z.size=35
def RowIs(W:World)(g:Nat)(cs:Array Value):Prop:=W.heap[g]? = some (.cells cs 127 (0,0))
theorem ldR{W:World}{g n:Nat}{cs:Array Value}(h:RowIs W g cs)(hs:cs.size=n):Sem.run Tryz.prog (loadCellsFrom ⟨g,0,none⟩ 0 n #[]) W=.ok cs W:=ldRow (rowB h) hs
theorem stR{W:World}{g:Nat}{cs:Array Value}(h:Row35 W g)(hs:cs.size=35)(h1:cs.all (·.oneCell')=true):Sem.run Tryz.prog (storeCells ⟨g,0,none⟩ cs.toList 0) W=.ok () (W.setRow g cs):=by
 obtain⟨z,hz,hzs⟩:=h
 exact stRow0 hz (by omega) h1
theorem RowIs.some{W:World}{g:Nat}{cs:Array Value}(h:RowIs W g cs)(hs:cs.size=35):Row35 W g:=⟨cs,h,hs⟩
theorem RowIs.set{W:World}{g:Nat}{cs:Array Value}(h:RowIs W g cs){p:Addr}(hp:p.block≠g)(v:Value):RowIs (W.setCell p v) g cs:=by
 obtain⟨b,i,sp⟩:=p
 exact (heap_setCell_other _ _ _ _ (fun e=>hp e.symm)).trans h
theorem RowIs.setRow{W:World}{g k:Nat}{cs:Array Value}(h:RowIs W g cs)(hp:g≠k)(c:Array Value):RowIs (W.setRow k c) g cs:=(setRow_other _ _ _ _ hp).trans h
theorem Row35.set{W:World}{g:Nat}(h:Row35 W g){p:Addr}(hp:p.block≠g)(v:Value):Row35 (W.setCell p v) g:=by
 obtain⟨z,hz,hs⟩:=h
 exact⟨z,RowIs.set hz hp v,hs⟩
theorem Row35.setRow{W:World}{g:Nat}(h:Row35 W g){c:Array Value}(hc:c.size=35):Row35 (W.setRow g c) g:=by
 obtain⟨z,hz,hs⟩:=h
 exact⟨c,setRow_heap _ _ _ _ _ _ hz,hc⟩
theorem keepC{W:World}{g h:Nat}{cs:Array Value}(k:RowIs W g cs∧Row35 W h){p:Addr}(h1:p.block≠g)(h2:p.block≠h)(v:Value):RowIs (W.setCell p v) g cs∧Row35 (W.setCell p v) h:=⟨k.1.set h1 v,k.2.set h2 v⟩
theorem keepR{W:World}{g h:Nat}{cs:Array Value}(k:RowIs W g cs∧Row35 W h)(h1:g≠h){c:Array Value}(h2:c.size=35):RowIs (W.setRow h c) g cs∧Row35 (W.setRow h c) h:=⟨k.1.setRow h1 c,k.2.setRow h2⟩
theorem bl_row{B g:Nat}{w0 w:World}(hb:Below B w0 w)(hBg:B≤g)(cs:Array Value):Below B w0 (w.setRow g cs):=⟨hb.os,hb.tape,hb.output,by rw [size_setRow];exact hb.size,fun k hk=>(setRow_other _ _ _ _ (by omega)).trans (hb.block k hk)⟩
end Go.Proofs.YtcnmhgblbikfkaaGreatDoor.As
end

section
set_option linter.unusedVariables false
set_option linter.unusedSimpArgs false
set_option maxRecDepth 20000
namespace Go.Proofs.YtcnmhgblbikfkaaGreatDoor.As
open Go.RowKit

set_option maxHeartbeats 4000000 in
theorem buf_put(w:World)(cs:Array Value)(room:Nat)(q:List (Nat×Int))(a:Nat)(v:Int)(h:BufIs cs room q)(hl:q.length < room):
  Calls Tryz.prog 177 #[.agg cs,.agg #[.int .i64 (a:Nat),.int .u32 v]] w fun e w'=>(∃ cs',e=.returned (.tuple #[.agg cs',.bool true])∧BufIs cs' room (q++[(a,v)]))∧Below w.heap.size w w':=by
 have HB:=Lib.hid h
 obtain⟨hs,ho,hr,hr1,hq,f,hf,c32,c33,c34,hc⟩:=h
 have C32:=Lib.hid c32
 have C33:=Lib.hid c33
 have C34:=Lib.hid c34
 have HC:=Lib.hid hc
 clear hc c32 c33 c34
 have HS:=Lib.hid hs
 have HO:=Lib.hid ho
 obtain⟨n35,hn35⟩:∃ n:Nat,n=35:=⟨_,rfl⟩
 have hsz:=sizeB hn35
 have HN35:=Lib.hid hn35
 clear hn35
 clear hs ho
 have hd:decide (room≤q.length)=false:=decide_eq_false (by omega)
 obtain⟨w3,hw3⟩:∃ w3,((w.alloc (.cells cs 127)).alloc (.cells #[.int .i64 (a:Nat),.int .u32 v] 124)).alloc (.cells #[.int .i64 0,.int .u32 0,.int .i64 0,.int .u32 0,.int .i64 0,.int .u32 0,.int .i64 0,.int .u32 0,.int .i64 0,.int .u32 0,.int .i64 0,.int .u32 0,.int .i64 0,.int .u32 0,.int .i64 0,.int .u32 0,.int .i64 0,.int .u32 0,.int .i64 0,.int .u32 0,.int .i64 0,.int .u32 0,.int .i64 0,.int .u32 0,.int .i64 0,.int .u32 0,.int .i64 0,.int .u32 0,.int .i64 0,.int .u32 0,.int .i64 0,.int .u32 0,.int .i64 0,.int .i64 0,.int .i64 0] 127)=w3:=⟨_,rfl⟩
 have hg:w3.heap[w.heap.size]? = some (.cells cs 127 (0,0)):=by rw [←hw3];exact up_al (up_al (heap_alloc_new _ _))
 have hx:w3.heap[w.heap.size+1]? = some (.cells #[.int .i64 (a:Nat),.int .u32 v] 124 (0,0)):=by rw [←hw3];exact up_al (new_at (by simp))
 have hy:w3.heap[w.heap.size+1+1]? = some (.cells #[.int .i64 0,.int .u32 0,.int .i64 0,.int .u32 0,.int .i64 0,.int .u32 0,.int .i64 0,.int .u32 0,.int .i64 0,.int .u32 0,.int .i64 0,.int .u32 0,.int .i64 0,.int .u32 0,.int .i64 0,.int .u32 0,.int .i64 0,.int .u32 0,.int .i64 0,.int .u32 0,.int .i64 0,.int .u32 0,.int .i64 0,.int .u32 0,.int .i64 0,.int .u32 0,.int .i64 0,.int .u32 0,.int .i64 0,.int .u32 0,.int .i64 0,.int .u32 0,.int .i64 0,.int .i64 0,.int .i64 0] 127 (0,0)):=by rw [←hw3];exact new_at (by simp)
 have hB3:Below w.heap.size w w3:=by rw [←hw3];exact (((Below.refl _ w).alloc (Nat.le_refl _) _).alloc (by simp) _).alloc (by simp;omega) _
 have hz3:w.heap.size+1+1 < w3.heap.size:=(Array.getElem?_eq_some_iff.1 hy).1
 obtain⟨zr,hzr,hzs⟩:∃ zr:Array Value,#[.int .i64 0,.int .u32 0,.int .i64 0,.int .u32 0,.int .i64 0,.int .u32 0,.int .i64 0,.int .u32 0,.int .i64 0,.int .u32 0,.int .i64 0,.int .u32 0,.int .i64 0,.int .u32 0,.int .i64 0,.int .u32 0,.int .i64 0,.int .u32 0,.int .i64 0,.int .u32 0,.int .i64 0,.int .u32 0,.int .i64 0,.int .u32 0,.int .i64 0,.int .u32 0,.int .i64 0,.int .u32 0,.int .i64 0,.int .u32 0,.int .i64 0,.int .u32 0,.int .i64 0,.int .i64 0,.int .i64 0]=zr∧zr.size=35:=⟨_,rfl,rfl⟩
 rw [show (#[.int .i64 0,.int .u32 0,.int .i64 0,.int .u32 0,.int .i64 0,.int .u32 0,.int .i64 0,.int .u32 0,.int .i64 0,.int .u32 0,.int .i64 0,.int .u32 0,.int .i64 0,.int .u32 0,.int .i64 0,.int .u32 0,.int .i64 0,.int .u32 0,.int .i64 0,.int .u32 0,.int .i64 0,.int .u32 0,.int .i64 0,.int .u32 0,.int .i64 0,.int .u32 0,.int .i64 0,.int .u32 0,.int .i64 0,.int .u32 0,.int .i64 0,.int .u32 0,.int .i64 0,.int .i64 0,.int .i64 0]:Array Value)=zr from hzr] at hy
 have hld:Sem.run Tryz.prog (loadCellsFrom ⟨w.heap.size,0,none⟩ 0 n35 #[]) w3=.ok cs w3:=ldRow (rowB hg) (HS.out.trans HN35.out.symm)
 rw [←hw3] at hld
 have HW3:=Lib.hid hw3
 have HG:=Lib.hid hg
 have HX:=Lib.hid hx
 have HY:=Lib.hid hy
 clear hw3 hg hx hy hzr
 go_enter Tryz.func177,Tryz.ntmps177
 go_wp2_with fail
 rw [HW3.out]
 clear HW3 hld
 refine (buf_full _ cs room q HB.out).mono ?_
 rintro r w4 ⟨rfl,hb4⟩
 have HG4:=Lib.hid (up_bl hb4 (by omega) HG.out)
 have HX4:=Lib.hid (up_bl hb4 (by omega) HX.out)
 have HY4:=Lib.hid (up_bl hb4 (by omega) HY.out)
 have hB4:Below w.heap.size w w4:=hB3.trans (hb4.mono (by omega))
 have hz4:w.heap.size+1+1 < w4.heap.size:=(Array.getElem?_eq_some_iff.1 HY4.out).1
 clear HG HX HY hb4 hB3 hz3
 have hld:Sem.run Tryz.prog (loadCellsFrom ⟨w.heap.size,0,none⟩ 0 n35 #[]) w4.drew=.ok cs w4.drew:=ldRow (rowB (W:=w4.drew) HG4.out) (HS.out.trans HN35.out.symm)
 have g33:w4.cell? ⟨w.heap.size,33,none⟩=some (.int .i64 (q.length:Nat)):=(cell_of_row _ _ _ _ _ _ HG4.out).trans C33.out
 have x0:w4.cell? ⟨w.heap.size+1,0,none⟩=some (.int .i64 (a:Nat)):=cell_of_row _ _ _ _ _ _ HX4.out
 have x1:w4.cell? ⟨w.heap.size+1,1,none⟩=some (.int .u32 v):=cell_of_row _ _ _ _ _ _ HX4.out
 have hcall:∀ W,Calls Tryz.prog 164 #[.agg cs,.int .i64 (q.length:Nat)] W fun e w'=>e=.returned (.int .i64 (((f:Int)+(q.length:Nat)) % 16))∧Below W.heap.size W w':=fun W=>buf_at W cs f (q.length:Nat) HS.out C32.out (by omega) (by omega)
 go_wp2_with fail
 have hm16:(f+q.length) % 16 < 16:=Nat.mod_lt _ (by decide)
 obtain⟨c0,hc0⟩:∃ c,cs[(f+q.length) % 16*2]? = some c:=⟨_,Array.getElem?_eq_getElem (by rw [HS.out];omega)⟩
 obtain⟨c1,hc1⟩:∃ c,cs[(f+q.length) % 16*2+1]? = some c:=⟨_,Array.getElem?_eq_getElem (by rw [HS.out];omega)⟩
 have hsz4:w4.drew.heap.size=w4.heap.size:=rfl
 have hu5:∀ w5:World,Below w4.heap.size w4.drew w5→w5.cell? ⟨w.heap.size+1,0,none⟩=some (.int .i64 (a:Nat))∧w5.cell? ⟨w.heap.size+1,1,none⟩=some (.int .u32 v)∧w5.cell? ⟨w.heap.size,(f+q.length) % 16*2,none⟩=some c0∧w5.cell? ⟨w.heap.size,(f+q.length) % 16*2+1,none⟩=some c1∧∀ j,w5.frozen? ⟨w.heap.size,j,none⟩=false:=fun w5 hb=>by
  have h:=up_bl (A:=w4.drew) hb (by omega) HX4.out
  have h2:=up_bl (A:=w4.drew) hb (by omega) HG4.out
  exact⟨cell_of_row _ _ _ _ _ _ h,cell_of_row _ _ _ _ _ _ h,(cell_of_row _ _ _ _ _ _ h2).trans hc0,(cell_of_row _ _ _ _ _ _ h2).trans hc1,fun j=>frozen_of_row _ _ j _ _ h2⟩
 clear hc0 hc1 hsz4
 have hd0:w4.drew.heap.size=w4.heap.size:=rfl
 have HREL:=Lib.hid (show ∀ w5,Below w4.heap.size w4.drew w5→∀ W6,W6=(w5.setCell ⟨w.heap.size,(f+q.length) % 16*2,none⟩ (.int .i64 (a:Nat))).setCell ⟨w.heap.size,(f+q.length) % 16*2+1,none⟩ (.int .u32 v)→W6.heap[w.heap.size]? = some (.cells ((cs.setIfInBounds ((f+q.length) % 16*2) (.int .i64 (a:Nat))).setIfInBounds ((f+q.length) % 16*2+1) (.int .u32 v)) 127 (0,0))∧W6.heap[w.heap.size+1+1]? = some (.cells zr 127 (0,0))∧Below w.heap.size w W6 from fun w5 hb5 W6 hW6=>by
  have hG5:=up_bl (A:=w4.drew) hb5 (by omega) HG4.out
  have hY5:=up_bl (A:=w4.drew) hb5 (by omega) HY4.out
  rw [hW6]
  refine⟨heap_setCell_same _ _ _ _ _ _ (heap_setCell_same _ _ _ _ _ _ hG5),(heap_setCell_other _ _ _ _ (by show w.heap.size+1+1≠w.heap.size;omega)).trans ((heap_setCell_other _ _ _ _ (by show w.heap.size+1+1≠w.heap.size;omega)).trans hY5),bl_set (bl_set ((bl_drw hB4).trans (hb5.mono (by omega))) (Nat.le_refl _) _) (Nat.le_refl _) _⟩)
 have HU5:=Lib.hid hu5
 clear hu5 hd0
 go_cut [] from 9 (fun wx=>Hid (wx.heap[w.heap.size]? = some (.cells ((cs.setIfInBounds ((f+q.length) % 16*2) (.int .i64 (a:Nat))).setIfInBounds ((f+q.length) % 16*2+1) (.int .u32 v)) 127 (0,0))∧wx.heap[w.heap.size+1+1]? = some (.cells zr 127 (0,0))∧Below w.heap.size w wx))
 case first=>
  go_region_with ((go_at_call 164;refine (hcall _).mono ?_;rintro r w5 ⟨rfl,hb5⟩;have hu6:=HU5.out w5 hb5))
  all_goals go_wp2_with fail
  all_goals go_meet
  all_goals exact Lib.hid (HREL.out _ hb5 _ rfl)
 case rest=>
  have hG6:=hcut.out.1
  have HY6:=Lib.hid hcut.out.2.1
  have HB6:=Lib.hid hcut.out.2.2
  have g33:wc.cell? ⟨w.heap.size,33,none⟩=some (.int .i64 (q.length:Nat)):=(cell_of_row _ _ _ _ _ _ hG6).trans (by
   rw [Array.getElem?_setIfInBounds_ne (by omega),Array.getElem?_setIfInBounds_ne (by omega)];exact C33.out)
  have gfr:wc.frozen? ⟨w.heap.size,33,none⟩=false:=frozen_of_row _ _ _ _ _ hG6
  have hput:=HB.out.put hl a v hf C32.out
  obtain⟨W7,hW7⟩:∃ W,wc.setCell ⟨w.heap.size,33,none⟩ (.int .i64 ((q.length:Nat)+1))=W:=⟨_,rfl⟩
  have hG7:W7.heap[w.heap.size]? = some (.cells (((cs.setIfInBounds ((f+q.length) % 16*2) (.int .i64 (a:Nat))).setIfInBounds ((f+q.length) % 16*2+1) (.int .u32 v)).setIfInBounds 33 (.int .i64 ((q.length:Nat)+1))) 127 (0,0)):=by rw [←hW7];exact heap_setCell_same _ _ _ _ _ _ hG6
  have hY7:W7.heap[w.heap.size+1+1]? = some (.cells zr 127 (0,0)):=by rw [←hW7];exact (heap_setCell_other _ _ _ _ (by show w.heap.size+1+1≠w.heap.size;omega)).trans HY6.out
  have hB7:Below w.heap.size w W7:=by rw [←hW7];exact bl_set HB6.out (Nat.le_refl _) _
  obtain⟨cs',hcs'⟩:∃ c,(((cs.setIfInBounds ((f+q.length) % 16*2) (.int .i64 (a:Nat))).setIfInBounds ((f+q.length) % 16*2+1) (.int .u32 v)).setIfInBounds 33 (.int .i64 ((q.length:Nat)+1)))=c:=⟨_,rfl⟩
  rw [hcs'] at hput hG7
  have hs':cs'.size=n35:=hput.1.trans HN35.out.symm
  have hl7:Sem.run Tryz.prog (loadCellsFrom ⟨w.heap.size,0,none⟩ 0 n35 #[]) W7=.ok cs' W7:=ldRow (rowB hG7) hs'
  have hst:Sem.run Tryz.prog (storeCells ⟨w.heap.size+1+1,0,none⟩ cs'.toList 0) W7=.ok () (W7.setRow (w.heap.size+1+1) cs'):=stRow0 hY7 (hzs.trans hput.1.symm) hput.2.1
  rw [←hW7] at hl7 hst
  have HPUT:=Lib.hid hput
  have HW7:=Lib.hid hW7
  have HG7:=Lib.hid hG7
  have HY7:=Lib.hid hY7
  have HB7:=Lib.hid hB7
  clear hput hW7 hG7 hY7 hB7 hcs' hG6 hcut hcall hld x0 x1
  go_wp2_with fail
  rw [HW7.out]
  refine bodyPost_ret (results_ab rfl _ _ (w.heap.size+1+1) cs' HPUT.out.1 (setRow_heap _ _ _ _ _ _ HY7.out) rfl) rfl ?_
  exact⟨⟨cs',rfl,HPUT.out⟩,bl_row HB7.out (by omega) _⟩
end Go.Proofs.YtcnmhgblbikfkaaGreatDoor.As
end

section
set_option linter.unusedVariables false
set_option linter.unusedSimpArgs false
set_option maxRecDepth 20000
namespace Go.Proofs.YtcnmhgblbikfkaaGreatDoor.As
open Go.RowKit

theorem results_pop{fn:Func}{p p2 u1:Tmp}(h:fn.results=#[.cell p2 124,.cell p 127,.tmp u1])(tmps:Array Value)(w:World)(R R2:Nat)(a b:Value)(cs:Array Value)(hs:cs.size=35)(hb2:w.heap[R2]? = some (.cells #[a,b] 124 (0,0)))(hb:w.heap[R]? = some (.cells cs 127 (0,0)))(hp2:tmps.getD p2 undef=.pointer (some ⟨R2,0,none⟩))(hp:tmps.getD p undef=.pointer (some ⟨R,0,none⟩)):
  (results fn tmps).run Tryz.prog w=.ok (.tuple #[.agg #[a,b],.agg cs,tmps.getD u1 undef]) w:=by
 have hl:=run_loadVar_row (P := Tryz.prog) w R 127 127 _ _ _ hb Tryz.underlying127 rfl (infoB hs)
 have hl2:=run_loadVar_row (P := Tryz.prog) w R2 124 124 _ _ _ hb2 Tryz.underlying124 rfl (by kernel_rfl)
 simp only [Array.getD_eq_getD_getElem?] at hp hp2
 simp [results,h,hp,hp2,asAddr,hl,hl2]
theorem set2_at{w:World}{R:Nat}{o0 o1:Value}{t:TypeId}(h:w.heap[R]? = some (.cells #[o0,o1] t (0,0)))(v0 v1:Value):((w.setCell ⟨R,0,none⟩ v0).setCell ⟨R,1,none⟩ v1).heap[R]? = some (.cells #[v0,v1] t (0,0)):=
 (heap_setCell_same _ R 1 _ t _ (heap_setCell_same _ R 0 _ t _ h)).trans (by simp)
set_option maxHeartbeats 4000000 in
theorem buf_pop0(w:World)(cs:Array Value)(room:Nat)(h:BufIs cs room []):
  Calls Tryz.prog 109 #[.agg cs] w fun e w'=>e=.returned (.tuple #[.agg #[.int .i64 0,.int .u32 0],.agg cs,.bool false])∧Below w.heap.size w w':=by
 have HB:=Lib.hid h
 obtain⟨hs,ho,hr,hr1,hq,f,hf,c32,c33,c34,hc⟩:=h
 have h33:=getA c33 (by omega)
 have C32:=Lib.hid c32
 have C33:=Lib.hid c33
 have HC:=Lib.hid hc
 clear hc c32 c33 c34
 have HS:=Lib.hid hs
 have HO:=Lib.hid ho
 clear ho
 obtain⟨n35,hn35⟩:∃ n:Nat,n=35:=⟨_,rfl⟩
 have hsz:=sizeB hn35
 have HN35:=Lib.hid hn35
 clear hn35
 obtain⟨w3,hw3⟩:∃ w3,((w.alloc (.cells cs 127)).alloc (.cells #[.int .i64 0,.int .u32 0] 124)).alloc (.cells #[.int .i64 0,.int .u32 0,.int .i64 0,.int .u32 0,.int .i64 0,.int .u32 0,.int .i64 0,.int .u32 0,.int .i64 0,.int .u32 0,.int .i64 0,.int .u32 0,.int .i64 0,.int .u32 0,.int .i64 0,.int .u32 0,.int .i64 0,.int .u32 0,.int .i64 0,.int .u32 0,.int .i64 0,.int .u32 0,.int .i64 0,.int .u32 0,.int .i64 0,.int .u32 0,.int .i64 0,.int .u32 0,.int .i64 0,.int .u32 0,.int .i64 0,.int .u32 0,.int .i64 0,.int .i64 0,.int .i64 0] 127)=w3:=⟨_,rfl⟩
 have hg:w3.heap[w.heap.size]? = some (.cells cs 127 (0,0)):=by rw [←hw3];exact up_al (up_al (heap_alloc_new _ _))
 have hx:w3.heap[w.heap.size+1]? = some (.cells #[.int .i64 0,.int .u32 0] 124 (0,0)):=by rw [←hw3];exact up_al (new_at (by simp))
 have hy:w3.heap[w.heap.size+1+1]? = some (.cells #[.int .i64 0,.int .u32 0,.int .i64 0,.int .u32 0,.int .i64 0,.int .u32 0,.int .i64 0,.int .u32 0,.int .i64 0,.int .u32 0,.int .i64 0,.int .u32 0,.int .i64 0,.int .u32 0,.int .i64 0,.int .u32 0,.int .i64 0,.int .u32 0,.int .i64 0,.int .u32 0,.int .i64 0,.int .u32 0,.int .i64 0,.int .u32 0,.int .i64 0,.int .u32 0,.int .i64 0,.int .u32 0,.int .i64 0,.int .u32 0,.int .i64 0,.int .u32 0,.int .i64 0,.int .i64 0,.int .i64 0] 127 (0,0)):=by rw [←hw3];exact new_at (by simp)
 have hB3:Below w.heap.size w w3:=by rw [←hw3];exact (((Below.refl _ w).alloc (Nat.le_refl _) _).alloc (by simp) _).alloc (by simp;omega) _
 have hz3:w.heap.size+1+1 < w3.heap.size:=(Array.getElem?_eq_some_iff.1 hy).1
 have HY:Hid (Row35 w3 (w.heap.size+1+1)):=Lib.hid ⟨_,hy,rfl⟩
 have HW3:=Lib.hid hw3
 have HG:=Lib.hid hg
 have HX:=Lib.hid hx
 have HB3:=Lib.hid hB3
 clear hw3 hg hx hy hB3
 have h33':cs[33]'(by omega)=.int .i64 0:=h33
 clear h33
 go_enter Tryz.func109,Tryz.ntmps109
 go_wp2_with fail
 rw [HW3.out]
 have x0:w3.cell? ⟨w.heap.size+1,0,none⟩=some (.int .i64 0):=cell_of_row _ _ _ _ _ _ HX.out
 have x1:w3.cell? ⟨w.heap.size+1,1,none⟩=some (.int .u32 0):=cell_of_row _ _ _ _ _ _ HX.out
 have f0:w3.frozen? ⟨w.heap.size+1,0,none⟩=false:=frozen_of_row _ _ _ _ _ HX.out
 have f1:w3.frozen? ⟨w.heap.size+1,1,none⟩=false:=frozen_of_row _ _ _ _ _ HX.out
 have hld:∀ W,RowIs W w.heap.size cs→Sem.run Tryz.prog (loadCellsFrom ⟨w.heap.size,0,none⟩ 0 n35 #[]) W=.ok cs W:=fun W h=>ldR h (HS.out.trans HN35.out.symm)
 have hst:∀ W,Row35 W (w.heap.size+1+1)→Sem.run Tryz.prog (storeCells ⟨w.heap.size+1+1,0,none⟩ cs.toList 0) W=.ok () (W.setRow (w.heap.size+1+1) cs):=fun W h=>stR h HS.out HO.out
 have hsn:cs.size=n35:=HS.out.trans HN35.out.symm
 have hcr:∀ (W:World) (j:Nat),(W.setRow (w.heap.size+1+1) cs).cell? ⟨w.heap.size+1,j,none⟩=W.cell? ⟨w.heap.size+1,j,none⟩:=fun W j=>cell_setRow_other _ _ _ _ (by show w.heap.size+1≠_;omega)
 have hfr:∀ (W:World) (j:Nat),(W.setRow (w.heap.size+1+1) cs).frozen? ⟨w.heap.size+1,j,none⟩=W.frozen? ⟨w.heap.size+1,j,none⟩:=fun W j=>by
  simp only [World.frozen?,setRow_other _ _ _ _ (show w.heap.size+1≠w.heap.size+1+1 by omega)]
 have k0:RowIs w3.drew w.heap.size cs:=HG.out
 have k1:Row35 w3.drew (w.heap.size+1+1):=HY.out
 clear HW3
 have n1:w.heap.size+1≠w.heap.size:=by omega
 have n2:w.heap.size+1≠w.heap.size+1+1:=by omega
 have n3:w.heap.size≠w.heap.size+1+1:=by omega
 go_region_held (fun w'=>RowIs w' w.heap.size cs∧Row35 w' (w.heap.size+1+1)) (first | exact⟨k0,k1⟩ | exact keepC (keepC (by assumption) n1 n2 _) n1 n2 _ | exact keepR (by assumption) n3 HS.out) (fail)
 all_goals go_wp2_with fail
 all_goals
  have hx2:=set2_at (w:=w3.drew) HX.out (.int .i64 0) (.int .u32 0)
  have hy2:Row35 ((w3.drew.setCell ⟨w.heap.size+1,0,none⟩ (.int .i64 0)).setCell ⟨w.heap.size+1,1,none⟩ (.int .u32 0)) (w.heap.size+1+1):=(k1.set n2 _).set n2 _
  obtain⟨z,hz,hzs⟩:=hy2
  refine bodyPost_ret (results_pop rfl _ _ (w.heap.size+1+1) (w.heap.size+1) _ _ cs HS.out ((setRow_other _ _ _ _ n2).trans hx2) (setRow_heap _ _ _ _ _ _ hz) rfl rfl) rfl ?_
  exact⟨rfl,bl_row (bl_set (bl_set (bl_drw HB3.out) (by show w.heap.size≤w.heap.size+1;omega) _) (by show w.heap.size≤w.heap.size+1;omega) _) (by omega) _⟩
set_option maxHeartbeats 4000000 in
theorem buf_pop1(w:World)(cs:Array Value)(room:Nat)(a:Nat)(v:Int)(r:List (Nat×Int))(h:BufIs cs room ((a,v)::r)):
  Calls Tryz.prog 109 #[.agg cs] w fun e w'=>(∃ cs',e=.returned (.tuple #[.agg #[.int .i64 (a:Nat),.int .u32 v],.agg cs',.bool true])∧BufIs cs' room r)∧Below w.heap.size w w':=by
 have HB:=Lib.hid h
 obtain⟨hs,ho,hr,hr1,hq,f,hf,c32,c33,c34,hc⟩:=h
 have h33:=getA c33 (by omega)
 have C32:=Lib.hid c32
 have C33:=Lib.hid c33
 have HC:=Lib.hid hc
 clear hc c32 c33 c34
 have HS:=Lib.hid hs
 have HO:=Lib.hid ho
 clear ho
 obtain⟨n35,hn35⟩:∃ n:Nat,n=35:=⟨_,rfl⟩
 have hsz:=sizeB hn35
 have HN35:=Lib.hid hn35
 clear hn35
 obtain⟨w3,hw3⟩:∃ w3,((w.alloc (.cells cs 127)).alloc (.cells #[.int .i64 0,.int .u32 0] 124)).alloc (.cells #[.int .i64 0,.int .u32 0,.int .i64 0,.int .u32 0,.int .i64 0,.int .u32 0,.int .i64 0,.int .u32 0,.int .i64 0,.int .u32 0,.int .i64 0,.int .u32 0,.int .i64 0,.int .u32 0,.int .i64 0,.int .u32 0,.int .i64 0,.int .u32 0,.int .i64 0,.int .u32 0,.int .i64 0,.int .u32 0,.int .i64 0,.int .u32 0,.int .i64 0,.int .u32 0,.int .i64 0,.int .u32 0,.int .i64 0,.int .u32 0,.int .i64 0,.int .u32 0,.int .i64 0,.int .i64 0,.int .i64 0] 127)=w3:=⟨_,rfl⟩
 have hg:w3.heap[w.heap.size]? = some (.cells cs 127 (0,0)):=by rw [←hw3];exact up_al (up_al (heap_alloc_new _ _))
 have hx:w3.heap[w.heap.size+1]? = some (.cells #[.int .i64 0,.int .u32 0] 124 (0,0)):=by rw [←hw3];exact up_al (new_at (by simp))
 have hy:w3.heap[w.heap.size+1+1]? = some (.cells #[.int .i64 0,.int .u32 0,.int .i64 0,.int .u32 0,.int .i64 0,.int .u32 0,.int .i64 0,.int .u32 0,.int .i64 0,.int .u32 0,.int .i64 0,.int .u32 0,.int .i64 0,.int .u32 0,.int .i64 0,.int .u32 0,.int .i64 0,.int .u32 0,.int .i64 0,.int .u32 0,.int .i64 0,.int .u32 0,.int .i64 0,.int .u32 0,.int .i64 0,.int .u32 0,.int .i64 0,.int .u32 0,.int .i64 0,.int .u32 0,.int .i64 0,.int .u32 0,.int .i64 0,.int .i64 0,.int .i64 0] 127 (0,0)):=by rw [←hw3];exact new_at (by simp)
 have hB3:Below w.heap.size w w3:=by rw [←hw3];exact (((Below.refl _ w).alloc (Nat.le_refl _) _).alloc (by simp) _).alloc (by simp;omega) _
 have hz3:w.heap.size+1+1 < w3.heap.size:=(Array.getElem?_eq_some_iff.1 hy).1
 have HY:Hid (Row35 w3 (w.heap.size+1+1)):=Lib.hid ⟨_,hy,rfl⟩
 have HW3:=Lib.hid hw3
 have HG:=Lib.hid hg
 have HX:=Lib.hid hx
 have HB3:=Lib.hid hB3
 clear hw3 hg hx hy hB3
 have hn0:(((((a,v)::r).length:Nat):Int) == 0)=false:=by simp;omega
 have HE:=Lib.hid (HC.out 0 (a,v) rfl)
 have HP:=Lib.hid (HB.out.pop hf C32.out)
 have hff:(f+0) % 16=f:=by omega
 rw [hff] at HE
 have HL:=Lib.hid hq
 clear hn0 hff
 go_enter Tryz.func109,Tryz.ntmps109
 go_upto_region 3 with fail
 rw [HW3.out]
 have y0:w3.cell? ⟨w.heap.size,f*2,none⟩=some (.int .i64 (a:Nat)):=(cell_of_row _ _ _ _ _ _ HG.out).trans HE.out.1
 have y1:w3.cell? ⟨w.heap.size,f*2+1,none⟩=some (.int .u32 v):=(cell_of_row _ _ _ _ _ _ HG.out).trans HE.out.2
 have y32:w3.cell? ⟨w.heap.size,32,none⟩=some (.int .i64 f):=(cell_of_row _ _ _ _ _ _ HG.out).trans C32.out
 have yf:∀ j,w3.frozen? ⟨w.heap.size,j,none⟩=false:=fun j=>frozen_of_row _ _ _ _ _ HG.out
 obtain⟨W4,hW4⟩:∃ W,((w3.setCell ⟨w.heap.size,f*2,none⟩ (.int .i64 0)).setCell ⟨w.heap.size,f*2+1,none⟩ (.int .u32 0)).alloc (.cells #[.int .i64 (a:Nat),.int .u32 v] 124)=W:=⟨_,rfl⟩
 have k4:RowIs W4 w.heap.size ((cs.setIfInBounds (f*2) (.int .i64 0)).setIfInBounds (f*2+1) (.int .u32 0)):=by rw [←hW4];exact up_al (heap_setCell_same _ _ _ _ _ _ (heap_setCell_same _ _ _ _ _ _ HG.out))
 have K4:=Lib.hid k4
 have hs2:((cs.setIfInBounds (f*2) (.int .i64 0)).setIfInBounds (f*2+1) (.int .u32 0)).size=35:=by simp [HS.out]
 have hl4:Sem.run Tryz.prog (loadCellsFrom ⟨w.heap.size,0,none⟩ 0 n35 #[]) W4=.ok ((cs.setIfInBounds (f*2) (.int .i64 0)).setIfInBounds (f*2+1) (.int .u32 0)) W4:=ldR k4 (hs2.trans HN35.out.symm)
 rw [←hW4] at hl4
 have HE5:Hid (W4.heap[w3.heap.size]? = some (.cells #[.int .i64 (a:Nat),.int .u32 v] 124 (0,0))):=Lib.hid (by rw [←hW4];exact new_at (by simp))
 have HX4:Hid (W4.heap[w.heap.size+1]? = some (.cells #[.int .i64 0,.int .u32 0] 124 (0,0))):=Lib.hid (by rw [←hW4];exact up_al ((heap_setCell_other _ _ _ _ (by show w.heap.size+1≠w.heap.size;omega)).trans ((heap_setCell_other _ _ _ _ (by show w.heap.size+1≠w.heap.size;omega)).trans HX.out)))
 have HY4:Hid (Row35 W4 (w.heap.size+1+1)):=Lib.hid (by
  rw [←hW4]
  obtain⟨z,hz,hzs⟩:=Row35.set (Row35.set HY.out (p:=⟨w.heap.size,f*2,none⟩) (by show w.heap.size≠w.heap.size+1+1;omega) (.int .i64 0)) (p:=⟨w.heap.size,f*2+1,none⟩) (by show w.heap.size≠w.heap.size+1+1;omega) (.int .u32 0)
  exact⟨z,up_al hz,hzs⟩)
 have HB4:Hid (Below w.heap.size w W4):=Lib.hid (by rw [←hW4];exact Below.alloc (bl_set (bl_set HB3.out (Nat.le_refl _) _) (Nat.le_refl _) _) (by simp;omega) _)
 have HW4:=Lib.hid hW4
 have HZ4:w3.heap.size < W4.heap.size:=(Array.getElem?_eq_some_iff.1 HE5.out).1
 have H32:Hid (((cs.setIfInBounds (f*2) (.int .i64 0)).setIfInBounds (f*2+1) (.int .u32 0))[32]? = some (.int .i64 f)):=Lib.hid (by rw [Array.getElem?_setIfInBounds_ne (by omega),Array.getElem?_setIfInBounds_ne (by omega)];exact C32.out)
 have H33:Hid (((cs.setIfInBounds (f*2) (.int .i64 0)).setIfInBounds (f*2+1) (.int .u32 0))[33]? = some (.int .i64 ((r.length+1:Nat)))):=Lib.hid (by rw [Array.getElem?_setIfInBounds_ne (by omega),Array.getElem?_setIfInBounds_ne (by omega)];exact C33.out)
 clear hW4 k4 h33
 have hz0:w.heap.size < w3.heap.size:=by omega
 go_wp2_with fail
 rw [HW4.out]
 clear hl4 HW4 hz0 y0 y1 y32 yf
 refine (buf_at _ ((cs.setIfInBounds (f*2) (.int .i64 0)).setIfInBounds (f*2+1) (.int .u32 0)) f 1 hs2 H32.out (by omega) (by omega)).mono ?_
 rintro _ w5 ⟨rfl,hb5⟩
 have K5:=Lib.hid (show RowIs w5 w.heap.size ((cs.setIfInBounds (f*2) (.int .i64 0)).setIfInBounds (f*2+1) (.int .u32 0)) from up_bl hb5 (by omega) K4.out)
 have HE6:=Lib.hid (up_bl hb5 (by omega) HE5.out)
 have HX5:=Lib.hid (up_bl hb5 (by omega) HX4.out)
 have HY5:Hid (Row35 w5 (w.heap.size+1+1)):=Lib.hid (by obtain⟨z,hz,hzs⟩:=HY4.out;exact⟨z,up_bl hb5 (by omega) hz,hzs⟩)
 have HB5:=Lib.hid (HB4.out.trans (hb5.mono (by omega)))
 have HZ5:=hb5.size
 clear hb5 HE5 HX4 HY4 HB4 K4
 have z32:w5.cell? ⟨w.heap.size,32,none⟩=some (.int .i64 f):=(cell_of_row _ _ _ _ _ _ K5.out).trans H32.out
 have z33:w5.cell? ⟨w.heap.size,33,none⟩=some (.int .i64 ((r.length+1:Nat))):=(cell_of_row _ _ _ _ _ _ K5.out).trans H33.out
 have zf:∀ j,w5.frozen? ⟨w.heap.size,j,none⟩=false:=fun j=>frozen_of_row _ _ _ _ _ K5.out
 have hwr:wrap64 (r.length:Int)=(r.length:Int):=by
  have:=HL.out
  simp only [List.length_cons] at this
  unfold wrap64
  omega
 go_wp2_with fail
 have hrl:(((r.length+1:Nat):Int) - 1)=(r.length:Int):=by omega
 rw [hrl] at HP
 obtain⟨W6,hW6⟩:∃ W,(w5.setCell ⟨w.heap.size,32,none⟩ (.int .i64 (((f:Int)+1) % 16))).setCell ⟨w.heap.size,33,none⟩ (.int .i64 (r.length:Int))=W:=⟨_,rfl⟩
 obtain⟨c4,hc4⟩:∃ c,(((cs.setIfInBounds (f*2) (.int .i64 0)).setIfInBounds (f*2+1) (.int .u32 0)).setIfInBounds 32 (.int .i64 (((f:Int)+1) % 16))).setIfInBounds 33 (.int .i64 (r.length:Int))=c:=⟨_,rfl⟩
 have K6:Hid (RowIs W6 w.heap.size c4):=Lib.hid (by rw [←hW6,←hc4];exact heap_setCell_same _ _ _ _ _ _ (heap_setCell_same _ _ _ _ _ _ K5.out))
 rw [hc4] at HP
 have n1:w.heap.size+1≠w.heap.size:=by omega
 have n2:w.heap.size+1≠w.heap.size+1+1:=by omega
 have n3:w.heap.size≠w.heap.size+1+1:=by omega
 have n4:w.heap.size+1≠w3.heap.size:=by omega
 have n5:w3.heap.size≠w.heap.size+1+1:=by omega
 have hh:∀ k o,k≠w.heap.size→w5.heap[k]? = some o→W6.heap[k]? = some o:=fun k o hk h=>by rw [←hW6];exact (heap_setCell_other _ _ _ _ hk).trans ((heap_setCell_other _ _ _ _ hk).trans h)
 have HX6:=Lib.hid (hh _ _ n1 HX5.out)
 have HE7:=Lib.hid (hh _ _ (by omega) HE6.out)
 have HY6:Hid (Row35 W6 (w.heap.size+1+1)):=Lib.hid (by obtain⟨z,hz,hzs⟩:=HY5.out;exact⟨z,hh _ _ (by omega) hz,hzs⟩)
 have HB6:Hid (Below w.heap.size w W6):=Lib.hid (by rw [←hW6];exact bl_set (bl_set HB5.out (Nat.le_refl _) _) (Nat.le_refl _) _)
 rw [hW6]
 clear hW6 hc4 hh K5 HE6 HX5 HY5 HB5 z32 z33 zf hwr hrl
 have x0:W6.cell? ⟨w.heap.size+1,0,none⟩=some (.int .i64 0):=cell_of_row _ _ _ _ _ _ HX6.out
 have x1:W6.cell? ⟨w.heap.size+1,1,none⟩=some (.int .u32 0):=cell_of_row _ _ _ _ _ _ HX6.out
 have f0:W6.frozen? ⟨w.heap.size+1,0,none⟩=false:=frozen_of_row _ _ _ _ _ HX6.out
 have f1:W6.frozen? ⟨w.heap.size+1,1,none⟩=false:=frozen_of_row _ _ _ _ _ HX6.out
 have hld:∀ W,RowIs W w.heap.size c4→Sem.run Tryz.prog (loadCellsFrom ⟨w.heap.size,0,none⟩ 0 n35 #[]) W=.ok c4 W:=fun W h=>ldR h (HP.out.1.trans HN35.out.symm)
 have hst:∀ W,Row35 W (w.heap.size+1+1)→Sem.run Tryz.prog (storeCells ⟨w.heap.size+1+1,0,none⟩ c4.toList 0) W=.ok () (W.setRow (w.heap.size+1+1) c4):=fun W h=>stR h HP.out.1 HP.out.2.1
 have hsn:c4.size=n35:=HP.out.1.trans HN35.out.symm
 have k0:RowIs W6.drew w.heap.size c4:=K6.out
 have k1:Row35 W6.drew (w.heap.size+1+1):=HY6.out
 have k2:W6.drew.cell? ⟨w3.heap.size,0,none⟩=some (.int .i64 (a:Nat)):=cell_of_row _ _ _ _ _ _ HE7.out
 have k3:W6.drew.cell? ⟨w3.heap.size,1,none⟩=some (.int .u32 v):=cell_of_row _ _ _ _ _ _ HE7.out
 have q0:((W6.drew.setCell ⟨w.heap.size+1,0,none⟩ (.int .i64 (a:Nat))).setCell ⟨w.heap.size+1,1,none⟩ (.int .u32 v)).cell? ⟨w3.heap.size,0,none⟩=some (.int .i64 (a:Nat)):=(World.cell?_setCell_far _ _ _ _ n4).trans ((World.cell?_setCell_far _ _ _ _ n4).trans k2)
 have q1:((W6.drew.setCell ⟨w.heap.size+1,0,none⟩ (.int .i64 (a:Nat))).setCell ⟨w.heap.size+1,1,none⟩ (.int .u32 v)).cell? ⟨w3.heap.size,1,none⟩=some (.int .u32 v):=(World.cell?_setCell_far _ _ _ _ n4).trans ((World.cell?_setCell_far _ _ _ _ n4).trans k3)
 have r0:=(cell_setRow_other ((W6.drew.setCell ⟨w.heap.size+1,0,none⟩ (.int .i64 (a:Nat))).setCell ⟨w.heap.size+1,1,none⟩ (.int .u32 v)) (w.heap.size+1+1) c4 ⟨w3.heap.size,0,none⟩ n5).trans q0
 have r1:=(cell_setRow_other ((W6.drew.setCell ⟨w.heap.size+1,0,none⟩ (.int .i64 (a:Nat))).setCell ⟨w.heap.size+1,1,none⟩ (.int .u32 v)) (w.heap.size+1+1) c4 ⟨w3.heap.size,1,none⟩ n5).trans q1
 go_region_held (fun w'=>(RowIs w' w.heap.size c4∧Row35 w' (w.heap.size+1+1))∧w'.cell? ⟨w3.heap.size,0,none⟩=some (.int .i64 (a:Nat))∧w'.cell? ⟨w3.heap.size,1,none⟩=some (.int .u32 v)) (first | exact⟨⟨k0,k1⟩,k2,k3⟩ | exact⟨keepC (keepC ⟨k0,k1⟩ n1 n2 _) n1 n2 _,q0,q1⟩ | exact⟨keepR (keepC (keepC ⟨k0,k1⟩ n1 n2 _) n1 n2 _) n3 HP.out.1,r0,r1⟩) (fail)
 all_goals go_wp2_with fail
 all_goals
  have hx2:=set2_at (w:=W6.drew) HX6.out (.int .i64 (a:Nat)) (.int .u32 v)
  obtain⟨z,hz,hzs⟩:=(Row35.set k1 (p:=⟨w.heap.size+1,0,none⟩) n2 (.int .i64 (a:Nat))).set (p:=⟨w.heap.size+1,1,none⟩) n2 (.int .u32 v)
  refine bodyPost_ret (results_pop rfl _ _ (w.heap.size+1+1) (w.heap.size+1) _ _ c4 HP.out.1 ((setRow_other _ _ _ _ n2).trans hx2) (setRow_heap _ _ _ _ _ _ hz) rfl rfl) rfl ?_
  exact⟨⟨c4,rfl,HP.out⟩,bl_row (bl_set (bl_set (bl_drw HB6.out) (by show w.heap.size≤w.heap.size+1;omega) _) (by show w.heap.size≤w.heap.size+1;omega) _) (by omega) _⟩
def headA(q:List (Nat×Int)):Nat:=match q with | []=>0 | e::_=>e.1
def headV(q:List (Nat×Int)):Int:=match q with | []=>0 | e::_=>e.2
theorem buf_pop(w:World)(cs:Array Value)(room:Nat)(q:List (Nat×Int))(h:BufIs cs room q):
  Calls Tryz.prog 109 #[.agg cs] w fun e w'=>(∃ cs',e=.returned (.tuple #[.agg #[.int .i64 (headA q:Nat),.int .u32 (headV q)],.agg cs',.bool (decide (q≠[]))])∧BufIs cs' room q.tail)∧Below w.heap.size w w':=by
 cases q with
 | nil=>exact (buf_pop0 w cs room h).mono fun e w' q=>⟨⟨cs,q.1,h⟩,q.2⟩
 | cons e r=>
  obtain⟨a,v⟩:=e
  refine (buf_pop1 w cs room a v r h).mono fun e w' q=>?_
  obtain⟨⟨cs',h1,h2⟩,h3⟩:=q
  exact⟨⟨cs',by rw [h1];simp [headA,headV],h2⟩,h3⟩
end Go.Proofs.YtcnmhgblbikfkaaGreatDoor.As
end

section
set_option linter.unusedVariables false
set_option linter.unusedSimpArgs false
set_option maxRecDepth 20000
namespace Go.Proofs.YtcnmhgblbikfkaaGreatDoor.As
open Go.RowKit

theorem buf_new(w:World)(room:Nat)(h:1≤room∧room≤16):
  Calls Tryz.prog 55 #[.int .i64 room] w fun e w'=>(∃ cs,e=.returned (.tuple #[.agg cs,.int .i64 0])∧BufIs cs room [])∧Below w.heap.size w w':=by
 have h1:(1:Int)≤(room:Int):=by omega
 have h2:(room:Int)≤16:=by omega
 obtain⟨cs,hcs⟩:∃ cs:Array Value,#[.int .i64 0,.int .u32 0,.int .i64 0,.int .u32 0,.int .i64 0,.int .u32 0,.int .i64 0,.int .u32 0,.int .i64 0,.int .u32 0,.int .i64 0,.int .u32 0,.int .i64 0,.int .u32 0,.int .i64 0,.int .u32 0,.int .i64 0,.int .u32 0,.int .i64 0,.int .u32 0,.int .i64 0,.int .u32 0,.int .i64 0,.int .u32 0,.int .i64 0,.int .u32 0,.int .i64 0,.int .u32 0,.int .i64 0,.int .u32 0,.int .i64 0,.int .u32 0,.int .i64 0,.int .i64 0,.int .i64 (room:Nat)]=cs:=⟨_,rfl⟩
 have hb:BufIs cs room []:=by
  rw [←hcs]
  refine⟨rfl,?_,h.2,h.1,Nat.zero_le _,0,by decide,rfl,rfl,rfl,fun i e he=>by simp at he⟩
  simp [Value.oneCell']
 have hst:Sem.run Tryz.prog (storeCells ⟨w.heap.size,0,none⟩ cs.toList 0) (w.alloc (.cells #[.int .i64 0,.int .u32 0,.int .i64 0,.int .u32 0,.int .i64 0,.int .u32 0,.int .i64 0,.int .u32 0,.int .i64 0,.int .u32 0,.int .i64 0,.int .u32 0,.int .i64 0,.int .u32 0,.int .i64 0,.int .u32 0,.int .i64 0,.int .u32 0,.int .i64 0,.int .u32 0,.int .i64 0,.int .u32 0,.int .i64 0,.int .u32 0,.int .i64 0,.int .u32 0,.int .i64 0,.int .u32 0,.int .i64 0,.int .u32 0,.int .i64 0,.int .u32 0,.int .i64 0,.int .i64 0,.int .i64 0] 127))=.ok () ((w.alloc (.cells #[.int .i64 0,.int .u32 0,.int .i64 0,.int .u32 0,.int .i64 0,.int .u32 0,.int .i64 0,.int .u32 0,.int .i64 0,.int .u32 0,.int .i64 0,.int .u32 0,.int .i64 0,.int .u32 0,.int .i64 0,.int .u32 0,.int .i64 0,.int .u32 0,.int .i64 0,.int .u32 0,.int .i64 0,.int .u32 0,.int .i64 0,.int .u32 0,.int .i64 0,.int .u32 0,.int .i64 0,.int .u32 0,.int .i64 0,.int .u32 0,.int .i64 0,.int .u32 0,.int .i64 0,.int .i64 0,.int .i64 0] 127)).setRow w.heap.size cs):=stRow0 (heap_alloc_new _ _) (by rw [hb.1];rfl) hb.2.1
 have hsn:=hb.1
 have HB:=Lib.hid hb
 clear hb
 have d1:decide ((room:Int) < 1)=false:=decide_eq_false (by omega)
 have d2:decide ((16:Int) < (room:Int))=false:=decide_eq_false (by omega)
 go_enter Tryz.func55,Tryz.ntmps55
 go_wp2_with fail
 refine bodyPost_ret (results_ab rfl _ _ w.heap.size cs HB.out.1 (setRow_heap _ _ _ _ _ _ (heap_alloc_new _ _)) rfl) rfl ?_
 exact⟨⟨cs,rfl,HB.out⟩,bl_row ((Below.refl _ w).alloc (Nat.le_refl _) _) (Nat.le_refl _) _⟩
end Go.Proofs.YtcnmhgblbikfkaaGreatDoor.As
end

section
set_option linter.unusedVariables false
set_option linter.unusedSimpArgs false
set_option maxRecDepth 20000
namespace Go.Proofs.YtcnmhgblbikfkaaGreatDoor.As.T
open Go.RowKit

theorem fold_get:∀ (l:List Value) (k:Nat) (acc:Array Value),k+l.length≤acc.size→((l.zipIdx k).foldl (fun a x=>a.setIfInBounds x.2 x.1) acc).size=acc.size∧∀ j:Nat,((l.zipIdx k).foldl (fun a x=>a.setIfInBounds x.2 x.1) acc)[j]? = if k≤j∧j < k+l.length then l[j - k]? else acc[j]?
 | [],k,acc,h=>⟨rfl,fun j=>by simp;omega⟩
 | v::l,k,acc,h=>by
  simp only [List.length_cons] at h
  obtain⟨i1,i2⟩:=fold_get l (k+1) (acc.setIfInBounds k v) (by simp;omega)
  rw [List.zipIdx_cons,List.foldl_cons]
  refine⟨by rw [i1];simp,fun j=>?_⟩
  rw [i2]
  simp only [List.length_cons]
  by_cases e:j=k
  ·subst e
   rw [if_neg (by omega),if_pos (by omega),Nat.sub_self,List.getElem?_cons_zero,Array.getElem?_setIfInBounds,if_pos rfl,if_pos (by omega)]
  ·by_cases e2:k+1≤j∧j < k+1+l.length
   ·rw [if_pos e2,if_pos (by omega),show j - k=(j - (k+1))+1 by omega,List.getElem?_cons_succ]
   ·rw [if_neg e2,if_neg (by omega),Array.getElem?_setIfInBounds,if_neg (by omega)]
theorem fold_all(cs acc:Array Value)(h:acc.size=cs.size):(cs.zipIdx.foldl (fun a x=>a.setIfInBounds x.2 x.1) acc)=cs:=by
 rw [←Array.foldl_toList,Array.toList_zipIdx]
 obtain⟨i1,i2⟩:=fold_get cs.toList 0 acc (by simp [h])
 apply Array.ext
 ·rw [i1,h]
 ·intro j h1 h2
  have:=i2 j
  rw [if_pos (by simp;omega),Nat.sub_zero] at this
  rw [Array.getElem?_eq_getElem h1] at this
  have e:cs.toList[j]? = some cs[j]:=by simp [h2]
  rw [e] at this
  exact Option.some.inj this
theorem fold_all2(cs acc:Array Value)(n:Nat)(hn:cs.size=n)(h:acc.size=cs.size):Array.foldl (fun a x=>a.setIfInBounds x.2 x.1) acc cs.zipIdx 0 n=cs:=by
 have e:n=cs.zipIdx.size:=by rw [Array.size_zipIdx,hn]
 subst e
 exact fold_all cs acc h
theorem bs_run(W:World)(cs:Array Value)(hs:cs.size=35):(Instr.buildSlice 117 1 #[(0,.agg cs)]).run Tryz.prog W=.ok (.slice (some ⟨W.heap.size,0,none⟩) 1 1) (W.alloc (.cells cs 127)):=by
 obtain⟨n35,hn35⟩:∃ n:Nat,n=35:=⟨_,rfl⟩
 have hsz:=sizeB hn35
 have hsn:cs.size=n35:=by omega
 have h1:¬(16777216 < n35):=by omega
 have h2:¬(n35=0):=by omega
 have HS:=Lib.hid hs
 have HN:=Lib.hid hn35
 clear hs hn35
 unfold Instr.buildSlice
 go_simp
 rw [fold_all2 _ _ _ hsn]
 rw [hsn]
 simp
theorem wp_bs{o:Oper}{a:Act}{w:World}{K:Act→World→Prop}{Q:Exit→Act→World→Prop}(x:Operand)(cs:Array Value)(ho:o.op=Op.buildSlice 117 1 #[(0,x)])(hx:a.eval x=.agg cs)(hs:cs.size=35)(h:K (a.put o.dst (.slice (some ⟨w.heap.size,0,none⟩) 1 1)) (w.alloc (.cells cs 127))):o.wp Tryz.prog a w K Q:=by
 have hrun:=bs_run w cs hs
 unfold Oper.wp
 simp [execOp,ho,hx,hrun,Result.andThen]
 exact h
end Go.Proofs.YtcnmhgblbikfkaaGreatDoor.As.T
end

