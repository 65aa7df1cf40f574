/- The walk of deadlatchlaw15.Rounds: a program of threads that go through rounds. -/
import Derived.Test.YtcnmhgblbikfkaaGreatDoorGe
import Derived.Test.YtcnmhgblbikfkaaGreatDoorGd
import Derived.Test.YtcnmhgblbikfkaaGreatDoorGf
import Derived.Deep.DeepCutAuto
import Derived.Deep.LoopGhost
set_option linter.unusedVariables false
set_option linter.unusedSimpArgs false
set_option maxRecDepth 20000
namespace Go.Proofs.YtcnmhgblbikfkaaGreatDoor.As.T
open Go.RowKit

theorem cells3{w:World}{g:Nat}{a b c:Value}{t:TypeId}(hx:w.heap[g]? = some (.cells #[a,b,c] t (0,0))):w.cell? ⟨g,0,none⟩=some a∧w.cell? ⟨g,1,none⟩=some b∧w.cell? ⟨g,2,none⟩=some c:=⟨cell_of_row w g 0 _ _ _ hx,cell_of_row w g 1 _ _ _ hx,cell_of_row w g 2 _ _ _ hx⟩
def CodeIs(w:World)(c:List Ins)(e:Ending)(w':World):Prop:=(∃ v,e=.returned (.tuple #[v,.bool true])∧w'.ownsRow w.heap.size 132 5 v c.length (flat c))∧Below w.heap.size w w'
theorem own_cap{W:World}{b g n c:Nat}{e:TypeId}{s:Nat}{xs:List Value}(h:W.ownsRow b e s (.slice (some ⟨g,0,none⟩) n c) n xs):n≤c:=by
 obtain⟨A,cap,e,hc,_⟩:=Rd.of_own h
 injection e with _ _ e
 omega
theorem roundsR_snoc(a b:List Ins):∀ (n:Nat) (l:List Ins),roundsR a b (n+1) l=roundR a b (roundsR a b n l)
 | 0,l=>rfl
 | n+1,l=>by
  rw [roundsR,roundsR_snoc a b n (roundR a b l),roundsR]
def mem0(mem:List Int):List Int:=List.replicate 16 0++mem
theorem w32_mem0(mem:List Int):w32 (mem0 mem)=[.int .u32 0,.int .u32 0,.int .u32 0,.int .u32 0,.int .u32 0,.int .u32 0,.int .u32 0,.int .u32 0,.int .u32 0,.int .u32 0,.int .u32 0,.int .u32 0,.int .u32 0,.int .u32 0,.int .u32 0,.int .u32 0]++w32 mem:=by
 unfold mem0 w32
 rw [List.map_append]
 rfl
structure PrW(w W:World)(gp:Nat)(cv:Value)(room:Int)(mem:List Int):Prop where
 hgp:w.heap.size≤gp
 row:∃ g5 p5,W.heap[gp]? = some (.cells #[cv,.slice (some ⟨g5,0,none⟩) (16+mem.length) p5,.int .i64 room] 45 (0,0))∧W.ownsRow w.heap.size 25 1 (.slice (some ⟨g5,0,none⟩) (16+mem.length) p5) (16+mem.length) (w32 (mem0 mem))∧g5≠gp∧g5≠w.heap.size+1
 res:W.heap[w.heap.size+1]? = some (.cells #[.slice none 0 0,.slice none 0 0,.int .i64 0] 45 (0,0))
 ne:gp≠w.heap.size+1
 bel:Below w.heap.size w W
theorem PrW.below{w W W':World}{gp:Nat}{cv:Value}{room:Int}{mem:List Int}(h:PrW w W gp cv room mem)(hb:Below W.heap.size W W'):PrW w W' gp cv room mem:=by
 obtain⟨h1,⟨g5,p5,h2,h3,h4,h6⟩,h5,h7,h8⟩:=h
 have lt:∀ {k:Nat} {o:Obj},W.heap[k]? = some o→W'.heap[k]? = some o:=fun hk=>(hb.block _ (Array.getElem?_eq_some_iff.1 hk).1).trans hk
 exact⟨h1,⟨g5,p5,lt h2,own_only h3 (Only.of_below (F:=fun _=>False) hb (Nat.le_refl _)) (fun _ _ f=>f),h4,h6⟩,lt h5,h7,h8.trans (hb.mono h8.size)⟩
theorem PrW.fin{w w1 W:World}{gp g5 p5:Nat}{room:Int}{mem:List Int}(hb:Below w1.heap.size w1 W)(hw:Below w.heap.size w w1)(hz:w1.heap.size=w.heap.size+1+1)(hr1:w1.heap[w.heap.size+1]? = some (.cells #[.slice none 0 0,.slice none 0 0,.int .i64 0] 45 (0,0)))(hp:W.heap[gp]? = some (.cells #[.slice none 0 0,.slice none 0 0,.int .i64 0] 45 (0,0)))(hgp:w1.heap.size≤gp)(hv:W.ownsRow w1.heap.size 25 1 (.slice (some ⟨g5,0,none⟩) (16+mem.length) p5) (16+mem.length) ([.int .u32 0,.int .u32 0,.int .u32 0,.int .u32 0,.int .u32 0,.int .u32 0,.int .u32 0,.int .u32 0,.int .u32 0,.int .u32 0,.int .u32 0,.int .u32 0,.int .u32 0,.int .u32 0,.int .u32 0,.int .u32 0]++w32 mem))(hne:g5≠gp):
  PrW w (((W.setCell ⟨gp,0,none⟩ (.slice none 0 0)).setCell ⟨gp,1,none⟩ (.slice (some ⟨g5,0,none⟩) (16+mem.length) p5)).setCell ⟨gp,2,none⟩ (.int .i64 room)) gp (.slice none 0 0) room mem:=by
 have hO:Only (fun k=>k=gp) W (((W.setCell ⟨gp,0,none⟩ (.slice none 0 0)).setCell ⟨gp,1,none⟩ (.slice (some ⟨g5,0,none⟩) (16+mem.length) p5)).setCell ⟨gp,2,none⟩ (.int .i64 room)):=Only.set1 (F:=fun k=>k=gp) (p:=⟨gp,2,none⟩) (Only.set1 (F:=fun k=>k=gp) (p:=⟨gp,1,none⟩) (Only.set1 (F:=fun k=>k=gp) (p:=⟨gp,0,none⟩) (Only.refl _ W) rfl _) rfl _) rfl _
 have h5:=(hv.lt g5 rfl).1
 have hr2:W.heap[w.heap.size+1]? = some (.cells #[.slice none 0 0,.slice none 0 0,.int .i64 0] 45 (0,0)):=(hb.block _ (by omega)).trans hr1
 refine⟨by omega,⟨g5,p5,?_,?_,hne,by omega⟩,?_,by omega,?_⟩
 ·exact (heap_setCell_same _ gp 2 _ _ _ (heap_setCell_same _ gp 1 _ _ _ (heap_setCell_same _ gp 0 _ _ _ hp))).trans (by simp)
 ·rw [w32_mem0]
  exact own_mono (own_only hv hO (fun k e f=>by have:=own_eq e;omega)) (by omega)
 ·exact (hO.block _ (Array.getElem?_eq_some_iff.1 hr2).1 (by omega)).trans hr2
 ·exact (hw.trans (hb.mono hw.size)).trans (hO.below (Nat.le_trans hw.size hb.size) (fun k e=>by omega))
structure CsW(w W:World)(gp:Nat)(cv:Value)(f:Nat→List Ins)(i:Nat):Prop where
 ex:∃ (g:Nat→Nat) (cap:Nat→Nat),W.ownsRow w.heap.size 29 1 cv i ((List.range i).map fun t=>.slice (some ⟨g t,0,none⟩) (f t).length (cap t))∧(∀ t,t < i→FlatB W (g t) (f t)∧w.heap.size≤g t∧g t≠gp∧g t≠w.heap.size+1∧cv.ownBlock≠some (g t)∧(f t).length≤cap t)
 ne:cv.ownBlock≠some gp∧cv.ownBlock≠some (w.heap.size+1)
theorem CsW.below{w W W':World}{gp:Nat}{cv:Value}{f:Nat→List Ins}{i:Nat}(h:CsW w W gp cv f i)(hb:Below W.heap.size W W'):CsW w W' gp cv f i:=by
 obtain⟨⟨g,cap,h1,h2⟩,h3⟩:=h
 have hO:Only (fun _=>False) W W':=Only.of_below hb (Nat.le_refl _)
 exact⟨⟨g,cap,own_only h1 hO (fun _ _ f=>f),fun t ht=>⟨(h2 t ht).1.only hO (fun e=>e),(h2 t ht).2⟩⟩,h3⟩
theorem set3{w:World}{R:Nat}{o0 o1 o2:Value}{t:TypeId}(h:w.heap[R]? = some (.cells #[o0,o1,o2] t (0,0)))(v0 v1 v2:Value):
  (((w.setCell ⟨R,0,none⟩ v0).setCell ⟨R,1,none⟩ v1).setCell ⟨R,2,none⟩ v2).heap[R]? = some (.cells #[v0,v1,v2] t (0,0))∧Only (fun k=>k=R) w (((w.setCell ⟨R,0,none⟩ v0).setCell ⟨R,1,none⟩ v1).setCell ⟨R,2,none⟩ v2):=
 ⟨(heap_setCell_same _ R 2 _ t _ (heap_setCell_same _ R 1 _ t _ (heap_setCell_same _ R 0 _ t _ h))).trans (by simp),Only.set1 (F:=fun k=>k=R) (p:=⟨R,2,none⟩) (Only.set1 (F:=fun k=>k=R) (p:=⟨R,1,none⟩) (Only.set1 (F:=fun k=>k=R) (p:=⟨R,0,none⟩) (Only.refl _ w) rfl v0) rfl v1) rfl v2⟩
theorem results_prog{fn:Func}{p u1:Tmp}(h:fn.results=#[.cell p 45,.tmp u1])(tmps:Array Value)(w:World)(R:Nat)(a b c:Value)(hb:w.heap[R]? = some (.cells #[a,b,c] 45 (0,0)))(hp:tmps.getD p undef=.pointer (some ⟨R,0,none⟩)):
  (results fn tmps).run Tryz.prog w=.ok (.tuple #[.agg #[a,b,c],tmps.getD u1 undef]) w:=by
 have hl:=run_loadVar_row (P := Tryz.prog) w R 45 45 _ _ _ hb Tryz.underlying45 rfl (by kernel_rfl)
 simp only [Array.getD_eq_getD_getElem?] at hp
 simp [results,h,hp,asAddr,hl]
theorem codes_mid{w W0 W1 W2:World}{gp i:Nat}{cv:Value}{room:Int}{mem:List Int}{f:Nat→List Ins}(hP:PrW w W0 gp cv room mem)(hC:CsW w W0 gp cv f i)(h1:Only (fun _=>False) W0 W1)(hgr:W1.grownBy W2 cv.ownBlock):W2.cell? ⟨gp,0,none⟩=some cv∧W2.frozen? ⟨gp,0,none⟩=false:=by
 obtain⟨g5,p5,hr,_⟩:=hP.row
 have hl:=(Array.getElem?_eq_some_iff.1 hr).1
 have e:=(hgr.block gp (Nat.lt_of_lt_of_le hl h1.size) (fun e=>hC.ne.1 e.symm)).trans ((h1.block gp hl (fun e=>e)).trans hr)
 exact⟨cell_of_row _ _ 0 _ _ _ e,frozen_of_row _ _ _ _ _ e⟩
theorem codes_app{w W0 W1 W2:World}{gp i gl pl g7 p7:Nat}{cv:Value}{room:Int}{mem:List Int}{f:Nat→List Ins}{gg cp:Nat→Nat}(hP:PrW w W0 gp cv room mem)(hC:CsW w W0 gp cv f i)(hco:W0.ownsRow w.heap.size 29 1 cv i ((List.range i).map fun t=>.slice (some ⟨gg t,0,none⟩) (f t).length (cp t)))
  (hcf:∀ t,t < i→FlatB W0 (gg t) (f t)∧w.heap.size≤gg t∧gg t≠gp∧gg t≠w.heap.size+1∧cv.ownBlock≠some (gg t)∧(f t).length≤cp t) (hF:FlatB W0 gl (f i)) (hgl:gl≠gp∧gl≠w.heap.size+1∧cv.ownBlock≠some gl∧w.heap.size≤gl∧(f i).length≤pl)
  (h1:Only (fun _=>False) W0 W1) (ho7:W2.ownsRow w.heap.size 29 1 (.slice (some ⟨g7,0,none⟩) (i+1) p7) (i+1) (((List.range i).map fun t=>.slice (some ⟨gg t,0,none⟩) (f t).length (cp t))++[.slice (some ⟨gl,0,none⟩) (f i).length pl])) (hgr:W1.grownBy W2 cv.ownBlock) (hat:cv.ownBlock=some g7∨g7=W1.heap.size):
  PrW w (W2.setCell ⟨gp,0,none⟩ (.slice (some ⟨g7,0,none⟩) (i+1) p7)) gp (.slice (some ⟨g7,0,none⟩) (i+1) p7) room mem∧CsW w (W2.setCell ⟨gp,0,none⟩ (.slice (some ⟨g7,0,none⟩) (i+1) p7)) gp (.slice (some ⟨g7,0,none⟩) (i+1) p7) f (i+1):=by
 obtain⟨hgp,⟨g5,p5,hr,ho5,n5,n6⟩,hres,hne,hbel⟩:=hP
 have hl:=(Array.getElem?_eq_some_iff.1 hr).1
 have hO2:Only (fun k=>cv.ownBlock=some k) W0 W2:=by
  refine⟨hgr.os.trans h1.os,hgr.tape.trans h1.tape,hgr.output.trans h1.output,Nat.le_trans h1.size hgr.size,fun k hk hn=>?_⟩
  exact (hgr.block k (Nat.lt_of_lt_of_le hk h1.size) (fun e=>hn e.symm)).trans (h1.block k hk (fun e=>e))
 have hO3:Only (fun k=>k=gp) W2 (W2.setCell ⟨gp,0,none⟩ (.slice (some ⟨g7,0,none⟩) (i+1) p7)):=Only.set1 (F:=fun k=>k=gp) (p:=⟨gp,0,none⟩) (Only.refl _ _) rfl _
 have hO:Only (fun k=>k=gp∨cv.ownBlock=some k) W0 (W2.setCell ⟨gp,0,none⟩ (.slice (some ⟨g7,0,none⟩) (i+1) p7)):=by
  refine⟨hO3.os.trans hO2.os,hO3.tape.trans hO2.tape,hO3.output.trans hO2.output,Nat.le_trans hO2.size hO3.size,fun k hk hn=>?_⟩
  exact (hO3.block k (Nat.lt_of_lt_of_le hk hO2.size) (fun e=>hn (.inl e))).trans (hO2.block k hk (fun e=>hn (.inr e)))
 have hcv5:cv.ownBlock≠some g5:=by
  intro e
  rcases hco.2 with⟨e2,_⟩ | ⟨g',cap',cur,e2,_,hh,_⟩
  ·rw [e2] at e;simp [Value.ownBlock] at e
  ·rw [e2] at e
   have:=own_eq e
   subst this
   rcases ho5.2 with⟨e3,_⟩ | ⟨g'',cap'',cur',e3,_,hh',_⟩
   ·cases e3
   ·injection e3 with e3 _ _
    injection e3 with e3
    injection e3 with e3 _
    subst e3
    rw [hh] at hh'
    injection hh' with hh'
    injection hh' with _ hh' _
    exact absurd hh' (by decide)
 have hg7:g7≠gp∧g7≠w.heap.size+1:=by
  have hr2:=(Array.getElem?_eq_some_iff.1 hres).1
  have hz:=h1.size
  rcases hat with e | e
  ·exact⟨fun q=>hC.ne.1 (by rw [e,q]),fun q=>hC.ne.2 (by rw [e,q])⟩
  ·exact⟨by omega,by omega⟩
 have e2:W2.heap[gp]? = some (.cells #[cv,.slice (some ⟨g5,0,none⟩) (16+mem.length) p5,.int .i64 room] 45 (0,0)):=(hO2.block gp hl hC.ne.1).trans hr
 constructor
 ·refine⟨hgp,⟨g5,p5,(heap_setCell_same _ gp 0 _ _ _ e2).trans (by simp),own_only ho5 hO (fun k e fk=>?_),n5,n6⟩,(hO.block _ (Array.getElem?_eq_some_iff.1 hres).1 (fun e=>?_)).trans hres,hne,?_⟩
  ·have:=own_eq e
   subst this
   rcases fk with fk | fk
   ·exact n5 fk
   ·exact hcv5 fk
  ·rcases e with e | e
   ·exact hne e.symm
   ·exact hC.ne.2 e
  ·exact hbel.trans (hO.below hbel.size (fun k e=>by
    rcases e with e | e
    ·omega
    ·exact (hco.lt k e).1))
 ·have hfr:∀ k,(Value.slice (some ⟨g7,0,none⟩) (i+1) p7).ownBlock=some k→cv.ownBlock=some k∨W1.heap.size≤k:=fun k e=>by
   have:=own_eq e
   subst this
   rcases hat with e | e
   ·exact .inl e
   ·exact .inr (by omega)
  have hz:=h1.size
  refine⟨⟨fun t=>if t=i then gl else gg t,fun t=>if t=i then pl else cp t,?_,fun t ht=>?_⟩,fun e=>hg7.1 (own_eq e),fun e=>hg7.2 (own_eq e)⟩
  ·have hlist:((List.range (i+1)).map fun t=>Value.slice (some ⟨if t=i then gl else gg t,0,none⟩) (f t).length (if t=i then pl else cp t))=((List.range i).map fun t=>.slice (some ⟨gg t,0,none⟩) (f t).length (cp t))++[.slice (some ⟨gl,0,none⟩) (f i).length pl]:=by
    rw [List.range_succ,List.map_append]
    congr 1
    ·refine List.map_congr_left (fun t ht=>?_)
     have:=List.mem_range.1 ht
     rw [if_neg (by omega),if_neg (by omega)]
    ·simp
   rw [hlist]
   exact own_only ho7 hO3 (fun k e fk=>by subst fk;exact hg7.1 (own_eq e))
  ·by_cases e:t=i
   ·subst e
    dsimp only
    rw [if_pos rfl]
    refine⟨hF.only hO (by rintro (e | e);exact hgl.1 e;exact hgl.2.2.1 e),hgl.2.2.2.1,hgl.1,hgl.2.1,fun e=>?_,by simpa using hgl.2.2.2.2⟩
    rcases hfr _ e with e | e
    ·exact hgl.2.2.1 e
    ·have:=hF.1;omega
   ·dsimp only
    rw [if_neg e]
    obtain⟨a1,a2,a3,a4,a5,a6⟩:=hcf t (by omega)
    refine⟨a1.only hO (by rintro (e | e);exact a3 e;exact a5 e),a2,a3,a4,fun e=>?_,by rw [if_neg e];exact a6⟩
    rcases hfr _ e with e | e
    ·exact a5 e
    ·have:=a1.1;omega
theorem on_al{F:Nat→Prop}(W:World)(X:Obj):Only F W (W.alloc X):=⟨rfl,rfl,rfl,by simp,fun k hk _=>Below.heap_alloc _ _ _ hk⟩
theorem rounds_len_le{a b:List Ins}(ha:a.length≤200)(hb:b.length≤200)(n:Nat):(roundsR a b n []).length≤n*408:=by
 rw [roundsR_len,baseR_len,List.length_nil]
 have:n*(a.length+b.length+8)≤n*408:=Nat.mul_le_mul (Nat.le_refl _) (by omega)
 omega
theorem add2{w wr wi w2 w3 w4 w5:World}{gb g5 p5 N:Nat}{lv lv4:Value}{L b:List Ins}(hG:LRow w5 wr.heap.size wr.heap.size (.slice (some ⟨g5,0,none⟩) N p5) L∧Only (fun k=>k=wr.heap.size∨lv4.ownBlock=some k) w4 w5∧∀ k,(Value.slice (some ⟨g5,0,none⟩) N p5).ownBlock=some k→lv4.ownBlock=some k∨w4.heap.size≤k)
  (O4:Only (fun k=>k=wr.heap.size∨lv.ownBlock=some k) w3 w4) (F4:∀ k,lv4.ownBlock=some k→lv.ownBlock=some k∨w3.heap.size≤k) (B3:Below w.heap.size w w3) (TI:TabI w) (hNI:∀ k,wr.heap.size≤k→NoI k) (hwr:w.heap.size≤wr.heap.size) (hFB:FlatB w3 gb b)
  (hN1:gb≠wr.heap.size∧(∀ k,lv.ownBlock=some k→k < wi.heap.size)∧w2.heap.size≤gb∧wi.heap.size≤w2.heap.size∧gb < w3.heap.size∧wr.heap.size < wi.heap.size) (hOL:∀ k,lv.ownBlock=some k→wr.heap.size≤k) (hb:b.length≤200∧0 < b.length∧∀ x∈b,0≤x.k∧x.k≤4294967295) (hL:L.length≤50000) (pb:Nat):
  Calls Tryz.prog 125 #[.int .u32 2,.slice (some ⟨gb,0,none⟩) b.length pb,.pointer (some ⟨wr.heap.size,0,none⟩)] w5 fun e w'=>e=.returned (.tuple #[])∧∃ lv7,LRow w' wr.heap.size wr.heap.size lv7 (addR L 2 b)∧Below wr.heap.size w3 w':=by
 obtain⟨R5,O5,F5⟩:=hG
 obtain⟨n1,n2,n3,n4,n5,n6⟩:=hN1
 have z4:=O4.size
 have ge4:∀ k,lv4.ownBlock=some k→wr.heap.size≤k:=fun k e=>by
  rcases F4 k e with e | e
  ·exact hOL k e
  ·omega
 have hO35:Only (fun k=>wr.heap.size≤k∧k≠gb) w3 w5:=by
  refine⟨O5.os.trans O4.os,O5.tape.trans O4.tape,O5.output.trans O4.output,Nat.le_trans z4 O5.size,fun k hk hn=>?_⟩
  refine (O5.block k (Nat.lt_of_lt_of_le hk z4) (fun e=>?_)).trans (O4.block k hk (fun e=>?_))
  ·rcases e with e | e
   ·exact hn ⟨by omega,by omega⟩
   ·rcases F4 k e with e2 | e2
    ·exact hn ⟨hOL k e2,by have:=n2 k e2;omega⟩
    ·omega
  ·rcases e with e | e
   ·exact hn ⟨by omega,by omega⟩
   ·exact hn ⟨hOL k e,by have:=n2 k e;omega⟩
 have hFB5:FlatB w5 gb b:=hFB.only hO35 (fun e=>e.2 rfl)
 have hT5:TabI w5:=(TI.below B3 (Nat.le_refl _)).only hO35 (fun k e=>hNI k e.1)
 have hgb5:(Value.slice (some ⟨g5,0,none⟩) N p5).ownBlock≠some gb:=fun e=>by
  rcases F5 gb e with e | e
  ·rcases F4 gb e with e | e
   ·have:=n2 gb e;omega
   ·omega
  ·omega
 refine (add_any w5 hT5 wr.heap.size wr.heap.size _ L b 2 (by omega) gb pb R5 hFB5 n1 hgb5 hb.2.1 (by omega) hL hb.2.2 (Nat.le_refl _) hNI).mono ?_
 rintro e w7 ⟨rfl,lv7,R7,O7,F7⟩
 refine⟨rfl,lv7,R7,?_⟩
 have z5:=O5.size
 have ge5:∀ k,(Value.slice (some ⟨g5,0,none⟩) N p5).ownBlock=some k→wr.heap.size≤k:=fun k e=>by
  rcases F5 k e with e | e
  ·exact ge4 k e
  ·omega
 refine⟨O7.os.trans hO35.os,O7.tape.trans hO35.tape,O7.output.trans hO35.output,Nat.le_trans hO35.size O7.size,fun k hk=>?_⟩
 have hk3:k < w3.heap.size:=by omega
 refine (O7.block k (Nat.lt_of_lt_of_le hk3 hO35.size) (fun e=>?_)).trans (hO35.block k hk3 (fun e=>by omega))
 rcases e with e | e
 ·omega
 ·have:=ge5 k e;omega
set_option maxHeartbeats 16000000 in
theorem rounds_any(w:World)(TI:TabI w)(k n a b:Int)(T rounds room:Nat)(N:Nat)(caps:Array Value)(ca cb:Nat→List Ins)(mem:List Int)
  (hA:∀ t,t < T→∀ W,Below w.heap.size w W→Calls Tryz.prog N (#[.int .i64 1,.int .i64 (t:Int)]++caps) W (CodeIs W (ca t)))
  (hB:∀ t,t < T→∀ W,Below w.heap.size w W→Calls Tryz.prog N (#[.int .i64 2,.int .i64 (t:Int)]++caps) W (CodeIs W (cb t)))
  (hF:∀ W,Below w.heap.size w W→Calls Tryz.prog 99 #[.agg #[.int .i64 k,.int .i64 n,.int .i64 a,.int .i64 b],.int .i64 (T:Int)] W (FirstOk W mem))
  (eN:∀ args w,(callFunc N args).run Tryz.prog w=.ok (.enter N args) w) (hm0:0 < mem.length) (hm1:mem.length≤1000) (hT0:0 < T) (hT:T≤8) (hR0:0 < rounds) (hR:rounds≤10)
  (hla:∀ t,(ca t).length≤200∧0 < (ca t).length∧∀ x∈ca t,0≤x.k∧x.k≤4294967295) (hlb:∀ t,(cb t).length≤200∧0 < (cb t).length∧∀ x∈cb t,0≤x.k∧x.k≤4294967295):
  Calls Tryz.prog 94 #[.agg #[.int .i64 k,.int .i64 n,.int .i64 a,.int .i64 b],.int .i64 T,.int .i64 rounds,.int .i64 room,.func (.func N) #[] caps] w fun e w'=>∃ cv mv,e=.returned (.tuple #[.agg #[cv,mv,.int .i64 room],.bool true])∧w'.ownsRow w.heap.size 25 1 mv (16+mem.length) (w32 (mem0 mem))∧CsW w w' (w.heap.size+1) cv (fun t=>roundsR (ca t) (cb t) rounds []) T∧Below w.heap.size w w':=by
 obtain⟨i0,hi0,hz0,hz1,hz2⟩:=info_parts infoI
 obtain⟨i1,hi',hy0,hy1,hy2⟩:=info_parts infoW
 have h32:(w32 mem).length=mem.length*1:=by simp [w32]
 have hmm:16+mem.length≤maxLen:=by unfold maxLen;omega
 have ha4:(16+mem.length)*4≤140737488355328:=by omega
 have h16:16≤maxLen:=by decide
 have hmk:∀ W,(Instr.makeSlice 43 (.int .i64 16) (.int .i64 16)).run Tryz.prog W=.ok (.slice (some ⟨W.heap.size,0,none⟩) 16 16) (W.alloc (.cells #[.int .u32 0,.int .u32 0,.int .u32 0,.int .u32 0,.int .u32 0,.int .u32 0,.int .u32 0,.int .u32 0,.int .u32 0,.int .u32 0,.int .u32 0,.int .u32 0,.int .u32 0,.int .u32 0,.int .u32 0,.int .u32 0] 25)):=fun _=>by kernel_rfl
 obtain⟨w1,hw1⟩:∃ W,(w.alloc (.cells #[.int .i64 k,.int .i64 n,.int .i64 a,.int .i64 b] 23)).alloc (.cells #[.slice none 0 0,.slice none 0 0,.int .i64 0] 45)=W:=⟨_,rfl⟩
 have hsz1:w1.heap.size=w.heap.size+1+1:=by rw [←hw1];simp
 have hbw:Below w.heap.size w w1:=by rw [←hw1];exact ((Below.refl _ w).alloc (Nat.le_refl _) _).alloc (by simp) _
 have hob:w1.heap[w.heap.size]? = some (.cells #[.int .i64 k,.int .i64 n,.int .i64 a,.int .i64 b] 23 (0,0)):=by rw [←hw1];exact up_al (heap_alloc_new _ _)
 have hrs:w1.heap[w.heap.size+1]? = some (.cells #[.slice none 0 0,.slice none 0 0,.int .i64 0] 45 (0,0)):=by
  have e:(w.alloc (.cells #[.int .i64 k,.int .i64 n,.int .i64 a,.int .i64 b] 23)).heap.size=w.heap.size+1:=by simp
  rw [←hw1,←e];exact heap_alloc_new _ _
 have lt:∀ {k:Nat} {o:Obj},w1.heap[k]? = some o→k < w1.heap.size:=fun hk=>(Array.getElem?_eq_some_iff.1 hk).1
 have x0:∀ W,Below w1.heap.size w1 W→W.cell? ⟨w.heap.size,0,none⟩=some (.int .i64 k):=fun W hW=>cell_of_row _ _ 0 _ _ _ (up_bl hW (lt hob) hob)
 have x1:∀ W,Below w1.heap.size w1 W→W.cell? ⟨w.heap.size,1,none⟩=some (.int .i64 n):=fun W hW=>cell_of_row _ _ 1 _ _ _ (up_bl hW (lt hob) hob)
 have x2:∀ W,Below w1.heap.size w1 W→W.cell? ⟨w.heap.size,2,none⟩=some (.int .i64 a):=fun W hW=>cell_of_row _ _ 2 _ _ _ (up_bl hW (lt hob) hob)
 have x3:∀ W,Below w1.heap.size w1 W→W.cell? ⟨w.heap.size,3,none⟩=some (.int .i64 b):=fun W hW=>cell_of_row _ _ 3 _ _ _ (up_bl hW (lt hob) hob)
 have HF:=Lib.hid (fun W (hW:Below w1.heap.size w1 W)=>hF W (hbw.trans (hW.mono hbw.size)))
 have HAB:=Lib.hid (And.intro hA hB)
 have HTI:=Lib.hid TI
 have HLA:=Lib.hid hla
 have HLB:=Lib.hid hlb
 have HW1:=Lib.hid hw1
 have HSZ:=Lib.hid hsz1
 have HBW:=Lib.hid hbw
 have HRS:=Lib.hid hrs
 clear hA hB hF TI hla hlb hw1 hsz1 hbw hob hrs lt
 go_enter Tryz.func94,Tryz.ntmps94
 go_upto_region 1 with fail
 rw [HW1.out]
 clear HW1
 go_cut [10,12] (fun v10 v12 wx=>v10=.pointer (some ⟨w.heap.size+1,0,none⟩)∧∃ gp:Nat,v12=.pointer (some ⟨gp,0,none⟩)∧Hid (PrW w wx gp (.slice none 0 0) room mem))
 case first=>
  have b0:Below w1.heap.size w1 w1.drew:=bl_drw (Below.refl _ _)
  refine wp_region_g (fun W=>Below w1.heap.size w1 W) 8 (by kernel_rfl) ?_
  generalize w1.drew=wd at *
  refine AnyG_take (i:=0) (oi:=_) (v:=?_) rfl (by kernel_rfl) (fun _ _ _ h=>h) (Or.inl ⟨by rfl,?_⟩) b0 ?_
  rotate_left
  ·intro W hSw;(try dsimp only at hSw);go_simp;first | done | with_reducible rfl
  simp only [Act.put,List.getElem_toArray,List.getElem_cons_zero,List.getElem_cons_succ,List.setIfInBounds_toArray,List.set_cons_zero,List.set_cons_succ]
  refine AnyG_take (i:=2) (oi:=_) (v:=?_) rfl (by kernel_rfl) (fun _ _ _ h=>h) (Or.inl ⟨by rfl,?_⟩) b0 ?_
  rotate_left
  ·intro W hSw;(try dsimp only at hSw);go_simp;first | done | with_reducible rfl
  simp only [Act.put,List.getElem_toArray,List.getElem_cons_zero,List.getElem_cons_succ,List.setIfInBounds_toArray,List.set_cons_zero,List.set_cons_succ]
  refine AnyG_take (i:=3) (oi:=_) (v:=?_) rfl (by kernel_rfl) (fun _ _ _ h=>h) (Or.inl ⟨by rfl,?_⟩) b0 ?_
  rotate_left
  ·intro W hSw;(try dsimp only at hSw);go_simp;first | done | with_reducible rfl
  simp only [Act.put,List.getElem_toArray,List.getElem_cons_zero,List.getElem_cons_succ,List.setIfInBounds_toArray,List.set_cons_zero,List.set_cons_succ]
  refine AnyG_three (i:=1) (j:=4) (k:=7) (by kernel_rfl) ?_ ?_ ?_
  ·skip
   refine wpOp_of rfl rfl ?_
   try simp only [Act.put,List.getElem_toArray,List.getElem_cons_zero,List.getElem_cons_succ,List.setIfInBounds_toArray,List.set_cons_zero,List.set_cons_succ]
   go_simp
   obtain⟨v1,hv1⟩:∃ W,World.alloc wd (.cells #[.int .u32 0,.int .u32 0,.int .u32 0,.int .u32 0,.int .u32 0,.int .u32 0,.int .u32 0,.int .u32 0,.int .u32 0,.int .u32 0,.int .u32 0,.int .u32 0,.int .u32 0,.int .u32 0,.int .u32 0,.int .u32 0] 25)=W:=⟨_,rfl⟩
   rw [hv1]
   have b1:Below w1.heap.size w1 v1:=by rw [←hv1];exact Below.alloc b0 (Below.size b0) _
   have M1:Hid (v1.heap[wd.heap.size]? = some (.cells #[.int .u32 0,.int .u32 0,.int .u32 0,.int .u32 0,.int .u32 0,.int .u32 0,.int .u32 0,.int .u32 0,.int .u32 0,.int .u32 0,.int .u32 0,.int .u32 0,.int .u32 0,.int .u32 0,.int .u32 0,.int .u32 0] 25 (0,0))∧w1.heap.size≤wd.heap.size):=Lib.hid ⟨by rw [←hv1];exact heap_alloc_new _ _,Below.size b0⟩
   clear hv1
   refine⟨b1,?_⟩
   try simp only [Act.put,List.getElem_toArray,List.getElem_cons_zero,List.getElem_cons_succ,List.setIfInBounds_toArray,List.set_cons_zero,List.set_cons_succ]
   refine AnyG_two (i:=4) (j:=7) (by kernel_rfl) ?_ ?_
   ·skip
    refine wpOp_of rfl rfl ?_
    try simp only [Act.put,List.getElem_toArray,List.getElem_cons_zero,List.getElem_cons_succ,List.setIfInBounds_toArray,List.set_cons_zero,List.set_cons_succ]
    go_simp
    refine (HF.out v1 b1).mono ?_
    rintro _ v2 ⟨v4,rfl,o4,c2⟩
    obtain⟨gf,pf,rfl⟩:=own_form o4 hm0
    have b2:Below w1.heap.size w1 v2:=Below.trans b1 (c2.mono (Below.size b1))
    have F2:Hid (v2.ownsRow w1.heap.size 25 1 (.slice (some ⟨gf,0,none⟩) mem.length pf) mem.length (w32 mem)):=Lib.hid (own_mono o4 (Below.size b1))
    have M2:Hid (v2.heap[wd.heap.size]? = some (.cells #[.int .u32 0,.int .u32 0,.int .u32 0,.int .u32 0,.int .u32 0,.int .u32 0,.int .u32 0,.int .u32 0,.int .u32 0,.int .u32 0,.int .u32 0,.int .u32 0,.int .u32 0,.int .u32 0,.int .u32 0,.int .u32 0] 25 (0,0))∧w1.heap.size≤wd.heap.size):=Lib.hid ⟨(c2.block _ (Array.getElem?_eq_some_iff.1 M1.out.1).1).trans M1.out.1,M1.out.2⟩
    clear o4 c2
    refine⟨b2,?_⟩
    try simp only [Act.put,List.getElem_toArray,List.getElem_cons_zero,List.getElem_cons_succ,List.setIfInBounds_toArray,List.set_cons_zero,List.set_cons_succ]
    refine AnyG_two (i:=5) (j:=7) (by kernel_rfl) ?_ ?_
    ·skip
     refine wpOp_of rfl rfl ?_
     try simp only [Act.put,List.getElem_toArray,List.getElem_cons_zero,List.getElem_cons_succ,List.setIfInBounds_toArray,List.set_cons_zero,List.set_cons_succ]
     refine wp_append_lies _ (.tmp 23) (.tmp 26) 43 (by rfl) w1.heap.size 25 i1 _ 1 4 Tryz.underlying43 hi' hy0 hy1 hy2 rfl (by decide) (.slice (some ⟨wd.heap.size,0,none⟩) 16 16) 16 [.int .u32 0,.int .u32 0,.int .u32 0,.int .u32 0,.int .u32 0,.int .u32 0,.int .u32 0,.int .u32 0,.int .u32 0,.int .u32 0,.int .u32 0,.int .u32 0,.int .u32 0,.int .u32 0,.int .u32 0,.int .u32 0] (by rfl) (own_made (arr:=#[.int .u32 0,.int .u32 0,.int .u32 0,.int .u32 0,.int .u32 0,.int .u32 0,.int .u32 0,.int .u32 0,.int .u32 0,.int .u32 0,.int .u32 0,.int .u32 0,.int .u32 0,.int .u32 0,.int .u32 0,.int .u32 0]) M2.out.2 M2.out.1 rfl h16) ⟨gf,0,none⟩ mem.length pf (w32 mem) (by rfl) h32 (fun q u hu=>F2.out.cells (g:=gf) rfl q u hu) (one_w32 _) hm0 hmm ha4 (Below.size b2) _ rfl ?_
     intro g5 p5 v3 o5 gr5 at5 lt5
     have b3:Below w1.heap.size w1 v3:=Below.grown b2 gr5 (Below.size b2) (fun k hk=>by have:=own_eq hk;have:=M2.out.2;omega)
     have V3:Hid (v3.ownsRow w1.heap.size 25 1 (.slice (some ⟨g5,0,none⟩) (16+mem.length) p5) (16+mem.length) ([.int .u32 0,.int .u32 0,.int .u32 0,.int .u32 0,.int .u32 0,.int .u32 0,.int .u32 0,.int .u32 0,.int .u32 0,.int .u32 0,.int .u32 0,.int .u32 0,.int .u32 0,.int .u32 0,.int .u32 0,.int .u32 0]++w32 mem)):=Lib.hid o5
     clear o5 gr5 at5 lt5
     refine⟨fun _ _=>b3,?_⟩
     try simp only [Act.put,List.getElem_toArray,List.getElem_cons_zero,List.getElem_cons_succ,List.setIfInBounds_toArray,List.set_cons_zero,List.set_cons_succ]
     refine AnyG_take (i:=6) (oi:=_) (v:=?_) rfl (by kernel_rfl) (fun _ _ _ h=>h) (Or.inl ⟨by rfl,?_⟩) b3 ?_
     rotate_left
     ·intro W hSw;(try dsimp only at hSw);go_simp;first | done | with_reducible rfl
     simp only [Act.put,List.getElem_toArray,List.getElem_cons_zero,List.getElem_cons_succ,List.setIfInBounds_toArray,List.set_cons_zero,List.set_cons_succ]
     refine AnyG_one (i:=7) rfl (by kernel_rfl) ?_
     refine wpOp_of rfl rfl ?_
     try simp only [Act.put,List.getElem_toArray,List.getElem_cons_zero,List.getElem_cons_succ,List.setIfInBounds_toArray,List.set_cons_zero,List.set_cons_succ]
     go_simp
     obtain⟨v4,hv4⟩:∃ W,World.alloc v3 (.cells #[.slice none 0 0,.slice none 0 0,.int .i64 0] 45)=W:=⟨_,rfl⟩
     rw [hv4]
     have b4:Below w1.heap.size w1 v4:=by rw [←hv4];exact Below.alloc b3 (Below.size b3) _
     have V4:Hid (v4.ownsRow w1.heap.size 25 1 (.slice (some ⟨g5,0,none⟩) (16+mem.length) p5) (16+mem.length) ([.int .u32 0,.int .u32 0,.int .u32 0,.int .u32 0,.int .u32 0,.int .u32 0,.int .u32 0,.int .u32 0,.int .u32 0,.int .u32 0,.int .u32 0,.int .u32 0,.int .u32 0,.int .u32 0,.int .u32 0,.int .u32 0]++w32 mem)):=Lib.hid (by rw [←hv4];exact own_only V3.out (F:=fun _=>False) ⟨rfl,rfl,rfl,by simp,fun k hk _=>Below.heap_alloc _ _ _ hk⟩ (fun _ _ f=>f))
     have P4:Hid (v4.heap[v3.heap.size]? = some (.cells #[.slice none 0 0,.slice none 0 0,.int .i64 0] 45 (0,0))∧w1.heap.size≤v3.heap.size):=Lib.hid ⟨by rw [←hv4];exact heap_alloc_new _ _,Below.size b3⟩
     have nf4:g5≠v3.heap.size:=by have:=(World.ownsRow.lt V3.out g5 rfl).2;omega
     clear hv4
     refine⟨b4,?_⟩
     try simp only [Act.put,List.getElem_toArray,List.getElem_cons_zero,List.getElem_cons_succ,List.setIfInBounds_toArray,List.set_cons_zero,List.set_cons_succ]
     obtain⟨z0,z1,z2⟩:=cells3 P4.out.1
     have f0:=frozen_of_row v4 (v3.heap.size) 0 _ _ P4.out.1
     have f1:=frozen_of_row v4 (v3.heap.size) 1 _ _ P4.out.1
     have f2:=frozen_of_row v4 (v3.heap.size) 2 _ _ P4.out.1
     have HFIN:=Lib.hid (PrW.fin (room:=room) b4 HBW.out HSZ.out HRS.out P4.out.1 P4.out.2 V4.out nf4)
     refine AnyG_one (i:=8) rfl (by kernel_rfl) ?_
     refine wpOp_of rfl rfl ?_
     try simp only [Act.put,List.getElem_toArray,List.getElem_cons_zero,List.getElem_cons_succ,List.setIfInBounds_toArray,List.set_cons_zero,List.set_cons_succ]
     go_simp
     try simp only [Act.put,List.getElem_toArray,List.getElem_cons_zero,List.getElem_cons_succ,List.setIfInBounds_toArray,List.set_cons_zero,List.set_cons_succ]
     refine AnyG_done (by kernel_rfl) ?_ _
     go_wp2_with fail
     go_meet
     exact⟨rfl,_,rfl,HFIN⟩
    ·skip
     refine wpOp_of rfl rfl ?_
     try simp only [Act.put,List.getElem_toArray,List.getElem_cons_zero,List.getElem_cons_succ,List.setIfInBounds_toArray,List.set_cons_zero,List.set_cons_succ]
     go_simp
     obtain⟨v5,hv5⟩:∃ W,World.alloc v2 (.cells #[.slice none 0 0,.slice none 0 0,.int .i64 0] 45)=W:=⟨_,rfl⟩
     rw [hv5]
     have b5:Below w1.heap.size w1 v5:=by rw [←hv5];exact Below.alloc b2 (Below.size b2) _
     have M5:Hid (v5.heap[wd.heap.size]? = some (.cells #[.int .u32 0,.int .u32 0,.int .u32 0,.int .u32 0,.int .u32 0,.int .u32 0,.int .u32 0,.int .u32 0,.int .u32 0,.int .u32 0,.int .u32 0,.int .u32 0,.int .u32 0,.int .u32 0,.int .u32 0,.int .u32 0] 25 (0,0))∧w1.heap.size≤wd.heap.size):=Lib.hid ⟨by rw [←hv5];exact up_al M2.out.1,M2.out.2⟩
     have F5:Hid (v5.ownsRow w1.heap.size 25 1 (.slice (some ⟨gf,0,none⟩) mem.length pf) mem.length (w32 mem)):=Lib.hid (by rw [←hv5];exact own_only F2.out (F:=fun _=>False) ⟨rfl,rfl,rfl,by simp,fun k hk _=>Below.heap_alloc _ _ _ hk⟩ (fun _ _ f=>f))
     have P5:Hid (v5.heap[v2.heap.size]? = some (.cells #[.slice none 0 0,.slice none 0 0,.int .i64 0] 45 (0,0))∧w1.heap.size≤v2.heap.size):=Lib.hid ⟨by rw [←hv5];exact heap_alloc_new _ _,Below.size b2⟩
     have ne5:v2.heap.size≠wd.heap.size:=by have:=(Array.getElem?_eq_some_iff.1 M2.out.1).1;omega
     clear hv5
     refine⟨b5,?_⟩
     try simp only [Act.put,List.getElem_toArray,List.getElem_cons_zero,List.getElem_cons_succ,List.setIfInBounds_toArray,List.set_cons_zero,List.set_cons_succ]
     refine AnyG_one (i:=5) rfl (by kernel_rfl) ?_
     refine wpOp_of rfl rfl ?_
     try simp only [Act.put,List.getElem_toArray,List.getElem_cons_zero,List.getElem_cons_succ,List.setIfInBounds_toArray,List.set_cons_zero,List.set_cons_succ]
     refine wp_append_lies _ (.tmp 23) (.tmp 26) 43 (by rfl) w1.heap.size 25 i1 _ 1 4 Tryz.underlying43 hi' hy0 hy1 hy2 rfl (by decide) (.slice (some ⟨wd.heap.size,0,none⟩) 16 16) 16 [.int .u32 0,.int .u32 0,.int .u32 0,.int .u32 0,.int .u32 0,.int .u32 0,.int .u32 0,.int .u32 0,.int .u32 0,.int .u32 0,.int .u32 0,.int .u32 0,.int .u32 0,.int .u32 0,.int .u32 0,.int .u32 0] (by rfl) (own_made (arr:=#[.int .u32 0,.int .u32 0,.int .u32 0,.int .u32 0,.int .u32 0,.int .u32 0,.int .u32 0,.int .u32 0,.int .u32 0,.int .u32 0,.int .u32 0,.int .u32 0,.int .u32 0,.int .u32 0,.int .u32 0,.int .u32 0]) M5.out.2 M5.out.1 rfl h16) ⟨gf,0,none⟩ mem.length pf (w32 mem) (by rfl) h32 (fun q u hu=>F5.out.cells (g:=gf) rfl q u hu) (one_w32 _) hm0 hmm ha4 (Below.size b5) _ rfl ?_
     intro g5 p5 v6 o5 gr5 at5 lt5
     have b6:Below w1.heap.size w1 v6:=Below.grown b5 gr5 (Below.size b5) (fun k hk=>by have:=own_eq hk;have:=M5.out.2;omega)
     have V6:Hid (v6.ownsRow w1.heap.size 25 1 (.slice (some ⟨g5,0,none⟩) (16+mem.length) p5) (16+mem.length) ([.int .u32 0,.int .u32 0,.int .u32 0,.int .u32 0,.int .u32 0,.int .u32 0,.int .u32 0,.int .u32 0,.int .u32 0,.int .u32 0,.int .u32 0,.int .u32 0,.int .u32 0,.int .u32 0,.int .u32 0,.int .u32 0]++w32 mem)):=Lib.hid o5
     have P6:Hid (v6.heap[v2.heap.size]? = some (.cells #[.slice none 0 0,.slice none 0 0,.int .i64 0] 45 (0,0))∧w1.heap.size≤v2.heap.size):=Lib.hid ⟨(gr5.block _ (Array.getElem?_eq_some_iff.1 P5.out.1).1 (fun e=>ne5 (own_eq e.symm).symm)).trans P5.out.1,P5.out.2⟩
     have nf6:g5≠v2.heap.size:=by
      rcases at5 with e | e
      ·have:=own_eq e;intro e2;exact ne5 (by omega)
      ·have:=(Array.getElem?_eq_some_iff.1 P5.out.1).1;omega
     clear o5 gr5 at5 lt5
     refine⟨fun _ _=>b6,?_⟩
     try simp only [Act.put,List.getElem_toArray,List.getElem_cons_zero,List.getElem_cons_succ,List.setIfInBounds_toArray,List.set_cons_zero,List.set_cons_succ]
     refine AnyG_take (i:=6) (oi:=_) (v:=?_) rfl (by kernel_rfl) (fun _ _ _ h=>h) (Or.inl ⟨by rfl,?_⟩) b6 ?_
     rotate_left
     ·intro W hSw;(try dsimp only at hSw);go_simp;first | done | with_reducible rfl
     simp only [Act.put,List.getElem_toArray,List.getElem_cons_zero,List.getElem_cons_succ,List.setIfInBounds_toArray,List.set_cons_zero,List.set_cons_succ]
     obtain⟨z0,z1,z2⟩:=cells3 P6.out.1
     have f0:=frozen_of_row v6 (v2.heap.size) 0 _ _ P6.out.1
     have f1:=frozen_of_row v6 (v2.heap.size) 1 _ _ P6.out.1
     have f2:=frozen_of_row v6 (v2.heap.size) 2 _ _ P6.out.1
     have HFIN:=Lib.hid (PrW.fin (room:=room) b6 HBW.out HSZ.out HRS.out P6.out.1 P6.out.2 V6.out nf6)
     refine AnyG_one (i:=8) rfl (by kernel_rfl) ?_
     refine wpOp_of rfl rfl ?_
     try simp only [Act.put,List.getElem_toArray,List.getElem_cons_zero,List.getElem_cons_succ,List.setIfInBounds_toArray,List.set_cons_zero,List.set_cons_succ]
     go_simp
     try simp only [Act.put,List.getElem_toArray,List.getElem_cons_zero,List.getElem_cons_succ,List.setIfInBounds_toArray,List.set_cons_zero,List.set_cons_succ]
     refine AnyG_done (by kernel_rfl) ?_ _
     go_wp2_with fail
     go_meet
     exact⟨rfl,_,rfl,HFIN⟩
   ·skip
    refine wpOp_of rfl rfl ?_
    try simp only [Act.put,List.getElem_toArray,List.getElem_cons_zero,List.getElem_cons_succ,List.setIfInBounds_toArray,List.set_cons_zero,List.set_cons_succ]
    go_simp
    obtain⟨v7,hv7⟩:∃ W,World.alloc v1 (.cells #[.slice none 0 0,.slice none 0 0,.int .i64 0] 45)=W:=⟨_,rfl⟩
    rw [hv7]
    have b7:Below w1.heap.size w1 v7:=by rw [←hv7];exact Below.alloc b1 (Below.size b1) _
    have M7:Hid (v7.heap[wd.heap.size]? = some (.cells #[.int .u32 0,.int .u32 0,.int .u32 0,.int .u32 0,.int .u32 0,.int .u32 0,.int .u32 0,.int .u32 0,.int .u32 0,.int .u32 0,.int .u32 0,.int .u32 0,.int .u32 0,.int .u32 0,.int .u32 0,.int .u32 0] 25 (0,0))∧w1.heap.size≤wd.heap.size):=Lib.hid ⟨by rw [←hv7];exact up_al M1.out.1,M1.out.2⟩
    have P7:Hid (v7.heap[v1.heap.size]? = some (.cells #[.slice none 0 0,.slice none 0 0,.int .i64 0] 45 (0,0))∧w1.heap.size≤v1.heap.size):=Lib.hid ⟨by rw [←hv7];exact heap_alloc_new _ _,Below.size b1⟩
    have ne7:v1.heap.size≠wd.heap.size:=by have:=(Array.getElem?_eq_some_iff.1 M1.out.1).1;omega
    clear hv7
    refine⟨b7,?_⟩
    try simp only [Act.put,List.getElem_toArray,List.getElem_cons_zero,List.getElem_cons_succ,List.setIfInBounds_toArray,List.set_cons_zero,List.set_cons_succ]
    refine AnyG_one (i:=4) rfl (by kernel_rfl) ?_
    refine wpOp_of rfl rfl ?_
    try simp only [Act.put,List.getElem_toArray,List.getElem_cons_zero,List.getElem_cons_succ,List.setIfInBounds_toArray,List.set_cons_zero,List.set_cons_succ]
    go_simp
    refine (HF.out v7 b7).mono ?_
    rintro _ v8 ⟨v4,rfl,o4,c8⟩
    obtain⟨gf,pf,rfl⟩:=own_form o4 hm0
    have b8:Below w1.heap.size w1 v8:=Below.trans b7 (c8.mono (Below.size b7))
    have F8:Hid (v8.ownsRow w1.heap.size 25 1 (.slice (some ⟨gf,0,none⟩) mem.length pf) mem.length (w32 mem)):=Lib.hid (own_mono o4 (Below.size b7))
    have M8:Hid (v8.heap[wd.heap.size]? = some (.cells #[.int .u32 0,.int .u32 0,.int .u32 0,.int .u32 0,.int .u32 0,.int .u32 0,.int .u32 0,.int .u32 0,.int .u32 0,.int .u32 0,.int .u32 0,.int .u32 0,.int .u32 0,.int .u32 0,.int .u32 0,.int .u32 0] 25 (0,0))∧w1.heap.size≤wd.heap.size):=Lib.hid ⟨(c8.block _ (Array.getElem?_eq_some_iff.1 M7.out.1).1).trans M7.out.1,M7.out.2⟩
    have P8:Hid (v8.heap[v1.heap.size]? = some (.cells #[.slice none 0 0,.slice none 0 0,.int .i64 0] 45 (0,0))∧w1.heap.size≤v1.heap.size):=Lib.hid ⟨(c8.block _ (Array.getElem?_eq_some_iff.1 P7.out.1).1).trans P7.out.1,P7.out.2⟩
    clear o4 c8
    refine⟨b8,?_⟩
    try simp only [Act.put,List.getElem_toArray,List.getElem_cons_zero,List.getElem_cons_succ,List.setIfInBounds_toArray,List.set_cons_zero,List.set_cons_succ]
    refine AnyG_one (i:=5) rfl (by kernel_rfl) ?_
    refine wpOp_of rfl rfl ?_
    try simp only [Act.put,List.getElem_toArray,List.getElem_cons_zero,List.getElem_cons_succ,List.setIfInBounds_toArray,List.set_cons_zero,List.set_cons_succ]
    refine wp_append_lies _ (.tmp 23) (.tmp 26) 43 (by rfl) w1.heap.size 25 i1 _ 1 4 Tryz.underlying43 hi' hy0 hy1 hy2 rfl (by decide) (.slice (some ⟨wd.heap.size,0,none⟩) 16 16) 16 [.int .u32 0,.int .u32 0,.int .u32 0,.int .u32 0,.int .u32 0,.int .u32 0,.int .u32 0,.int .u32 0,.int .u32 0,.int .u32 0,.int .u32 0,.int .u32 0,.int .u32 0,.int .u32 0,.int .u32 0,.int .u32 0] (by rfl) (own_made (arr:=#[.int .u32 0,.int .u32 0,.int .u32 0,.int .u32 0,.int .u32 0,.int .u32 0,.int .u32 0,.int .u32 0,.int .u32 0,.int .u32 0,.int .u32 0,.int .u32 0,.int .u32 0,.int .u32 0,.int .u32 0,.int .u32 0]) M8.out.2 M8.out.1 rfl h16) ⟨gf,0,none⟩ mem.length pf (w32 mem) (by rfl) h32 (fun q u hu=>F8.out.cells (g:=gf) rfl q u hu) (one_w32 _) hm0 hmm ha4 (Below.size b8) _ rfl ?_
    intro g5 p5 v9 o5 gr5 at5 lt5
    have b9:Below w1.heap.size w1 v9:=Below.grown b8 gr5 (Below.size b8) (fun k hk=>by have:=own_eq hk;have:=M8.out.2;omega)
    have V9:Hid (v9.ownsRow w1.heap.size 25 1 (.slice (some ⟨g5,0,none⟩) (16+mem.length) p5) (16+mem.length) ([.int .u32 0,.int .u32 0,.int .u32 0,.int .u32 0,.int .u32 0,.int .u32 0,.int .u32 0,.int .u32 0,.int .u32 0,.int .u32 0,.int .u32 0,.int .u32 0,.int .u32 0,.int .u32 0,.int .u32 0,.int .u32 0]++w32 mem)):=Lib.hid o5
    have P9:Hid (v9.heap[v1.heap.size]? = some (.cells #[.slice none 0 0,.slice none 0 0,.int .i64 0] 45 (0,0))∧w1.heap.size≤v1.heap.size):=Lib.hid ⟨(gr5.block _ (Array.getElem?_eq_some_iff.1 P8.out.1).1 (fun e=>ne7 (own_eq e.symm).symm)).trans P8.out.1,P8.out.2⟩
    have nf9:g5≠v1.heap.size:=by
     rcases at5 with e | e
     ·have:=own_eq e;intro e2;exact ne7 (by omega)
     ·have:=(Array.getElem?_eq_some_iff.1 P8.out.1).1;omega
    clear o5 gr5 at5 lt5
    refine⟨fun _ _=>b9,?_⟩
    try simp only [Act.put,List.getElem_toArray,List.getElem_cons_zero,List.getElem_cons_succ,List.setIfInBounds_toArray,List.set_cons_zero,List.set_cons_succ]
    refine AnyG_take (i:=6) (oi:=_) (v:=?_) rfl (by kernel_rfl) (fun _ _ _ h=>h) (Or.inl ⟨by rfl,?_⟩) b9 ?_
    rotate_left
    ·intro W hSw;(try dsimp only at hSw);go_simp;first | done | with_reducible rfl
    simp only [Act.put,List.getElem_toArray,List.getElem_cons_zero,List.getElem_cons_succ,List.setIfInBounds_toArray,List.set_cons_zero,List.set_cons_succ]
    obtain⟨z0,z1,z2⟩:=cells3 P9.out.1
    have f0:=frozen_of_row v9 (v1.heap.size) 0 _ _ P9.out.1
    have f1:=frozen_of_row v9 (v1.heap.size) 1 _ _ P9.out.1
    have f2:=frozen_of_row v9 (v1.heap.size) 2 _ _ P9.out.1
    have HFIN:=Lib.hid (PrW.fin (room:=room) b9 HBW.out HSZ.out HRS.out P9.out.1 P9.out.2 V9.out nf9)
    refine AnyG_one (i:=8) rfl (by kernel_rfl) ?_
    refine wpOp_of rfl rfl ?_
    try simp only [Act.put,List.getElem_toArray,List.getElem_cons_zero,List.getElem_cons_succ,List.setIfInBounds_toArray,List.set_cons_zero,List.set_cons_succ]
    go_simp
    try simp only [Act.put,List.getElem_toArray,List.getElem_cons_zero,List.getElem_cons_succ,List.setIfInBounds_toArray,List.set_cons_zero,List.set_cons_succ]
    refine AnyG_done (by kernel_rfl) ?_ _
    go_wp2_with fail
    go_meet
    exact⟨rfl,_,rfl,HFIN⟩
  ·skip
   refine wpOp_of rfl rfl ?_
   try simp only [Act.put,List.getElem_toArray,List.getElem_cons_zero,List.getElem_cons_succ,List.setIfInBounds_toArray,List.set_cons_zero,List.set_cons_succ]
   go_simp
   refine (HF.out wd b0).mono ?_
   rintro _ v10 ⟨v4,rfl,o4,c10⟩
   obtain⟨gf,pf,rfl⟩:=own_form o4 hm0
   have b10:Below w1.heap.size w1 v10:=Below.trans b0 (c10.mono (Below.size b0))
   have F10:Hid (v10.ownsRow w1.heap.size 25 1 (.slice (some ⟨gf,0,none⟩) mem.length pf) mem.length (w32 mem)):=Lib.hid (own_mono o4 (Below.size b0))
   clear o4 c10
   refine⟨b10,?_⟩
   try simp only [Act.put,List.getElem_toArray,List.getElem_cons_zero,List.getElem_cons_succ,List.setIfInBounds_toArray,List.set_cons_zero,List.set_cons_succ]
   refine AnyG_two (i:=1) (j:=7) (by kernel_rfl) ?_ ?_
   ·skip
    refine wpOp_of rfl rfl ?_
    try simp only [Act.put,List.getElem_toArray,List.getElem_cons_zero,List.getElem_cons_succ,List.setIfInBounds_toArray,List.set_cons_zero,List.set_cons_succ]
    go_simp
    obtain⟨v11,hv11⟩:∃ W,World.alloc v10 (.cells #[.int .u32 0,.int .u32 0,.int .u32 0,.int .u32 0,.int .u32 0,.int .u32 0,.int .u32 0,.int .u32 0,.int .u32 0,.int .u32 0,.int .u32 0,.int .u32 0,.int .u32 0,.int .u32 0,.int .u32 0,.int .u32 0] 25)=W:=⟨_,rfl⟩
    rw [hv11]
    have b11:Below w1.heap.size w1 v11:=by rw [←hv11];exact Below.alloc b10 (Below.size b10) _
    have F11:Hid (v11.ownsRow w1.heap.size 25 1 (.slice (some ⟨gf,0,none⟩) mem.length pf) mem.length (w32 mem)):=Lib.hid (by rw [←hv11];exact own_only F10.out (F:=fun _=>False) ⟨rfl,rfl,rfl,by simp,fun k hk _=>Below.heap_alloc _ _ _ hk⟩ (fun _ _ f=>f))
    have M11:Hid (v11.heap[v10.heap.size]? = some (.cells #[.int .u32 0,.int .u32 0,.int .u32 0,.int .u32 0,.int .u32 0,.int .u32 0,.int .u32 0,.int .u32 0,.int .u32 0,.int .u32 0,.int .u32 0,.int .u32 0,.int .u32 0,.int .u32 0,.int .u32 0,.int .u32 0] 25 (0,0))∧w1.heap.size≤v10.heap.size):=Lib.hid ⟨by rw [←hv11];exact heap_alloc_new _ _,Below.size b10⟩
    clear hv11
    refine⟨b11,?_⟩
    try simp only [Act.put,List.getElem_toArray,List.getElem_cons_zero,List.getElem_cons_succ,List.setIfInBounds_toArray,List.set_cons_zero,List.set_cons_succ]
    refine AnyG_two (i:=5) (j:=7) (by kernel_rfl) ?_ ?_
    ·skip
     refine wpOp_of rfl rfl ?_
     try simp only [Act.put,List.getElem_toArray,List.getElem_cons_zero,List.getElem_cons_succ,List.setIfInBounds_toArray,List.set_cons_zero,List.set_cons_succ]
     refine wp_append_lies _ (.tmp 23) (.tmp 26) 43 (by rfl) w1.heap.size 25 i1 _ 1 4 Tryz.underlying43 hi' hy0 hy1 hy2 rfl (by decide) (.slice (some ⟨v10.heap.size,0,none⟩) 16 16) 16 [.int .u32 0,.int .u32 0,.int .u32 0,.int .u32 0,.int .u32 0,.int .u32 0,.int .u32 0,.int .u32 0,.int .u32 0,.int .u32 0,.int .u32 0,.int .u32 0,.int .u32 0,.int .u32 0,.int .u32 0,.int .u32 0] (by rfl) (own_made (arr:=#[.int .u32 0,.int .u32 0,.int .u32 0,.int .u32 0,.int .u32 0,.int .u32 0,.int .u32 0,.int .u32 0,.int .u32 0,.int .u32 0,.int .u32 0,.int .u32 0,.int .u32 0,.int .u32 0,.int .u32 0,.int .u32 0]) M11.out.2 M11.out.1 rfl h16) ⟨gf,0,none⟩ mem.length pf (w32 mem) (by rfl) h32 (fun q u hu=>F11.out.cells (g:=gf) rfl q u hu) (one_w32 _) hm0 hmm ha4 (Below.size b11) _ rfl ?_
     intro g5 p5 v12 o5 gr5 at5 lt5
     have b12:Below w1.heap.size w1 v12:=Below.grown b11 gr5 (Below.size b11) (fun k hk=>by have:=own_eq hk;have:=M11.out.2;omega)
     have V12:Hid (v12.ownsRow w1.heap.size 25 1 (.slice (some ⟨g5,0,none⟩) (16+mem.length) p5) (16+mem.length) ([.int .u32 0,.int .u32 0,.int .u32 0,.int .u32 0,.int .u32 0,.int .u32 0,.int .u32 0,.int .u32 0,.int .u32 0,.int .u32 0,.int .u32 0,.int .u32 0,.int .u32 0,.int .u32 0,.int .u32 0,.int .u32 0]++w32 mem)):=Lib.hid o5
     clear o5 gr5 at5 lt5
     refine⟨fun _ _=>b12,?_⟩
     try simp only [Act.put,List.getElem_toArray,List.getElem_cons_zero,List.getElem_cons_succ,List.setIfInBounds_toArray,List.set_cons_zero,List.set_cons_succ]
     refine AnyG_take (i:=6) (oi:=_) (v:=?_) rfl (by kernel_rfl) (fun _ _ _ h=>h) (Or.inl ⟨by rfl,?_⟩) b12 ?_
     rotate_left
     ·intro W hSw;(try dsimp only at hSw);go_simp;first | done | with_reducible rfl
     simp only [Act.put,List.getElem_toArray,List.getElem_cons_zero,List.getElem_cons_succ,List.setIfInBounds_toArray,List.set_cons_zero,List.set_cons_succ]
     refine AnyG_one (i:=7) rfl (by kernel_rfl) ?_
     refine wpOp_of rfl rfl ?_
     try simp only [Act.put,List.getElem_toArray,List.getElem_cons_zero,List.getElem_cons_succ,List.setIfInBounds_toArray,List.set_cons_zero,List.set_cons_succ]
     go_simp
     obtain⟨v13,hv13⟩:∃ W,World.alloc v12 (.cells #[.slice none 0 0,.slice none 0 0,.int .i64 0] 45)=W:=⟨_,rfl⟩
     rw [hv13]
     have b13:Below w1.heap.size w1 v13:=by rw [←hv13];exact Below.alloc b12 (Below.size b12) _
     have V13:Hid (v13.ownsRow w1.heap.size 25 1 (.slice (some ⟨g5,0,none⟩) (16+mem.length) p5) (16+mem.length) ([.int .u32 0,.int .u32 0,.int .u32 0,.int .u32 0,.int .u32 0,.int .u32 0,.int .u32 0,.int .u32 0,.int .u32 0,.int .u32 0,.int .u32 0,.int .u32 0,.int .u32 0,.int .u32 0,.int .u32 0,.int .u32 0]++w32 mem)):=Lib.hid (by rw [←hv13];exact own_only V12.out (F:=fun _=>False) ⟨rfl,rfl,rfl,by simp,fun k hk _=>Below.heap_alloc _ _ _ hk⟩ (fun _ _ f=>f))
     have P13:Hid (v13.heap[v12.heap.size]? = some (.cells #[.slice none 0 0,.slice none 0 0,.int .i64 0] 45 (0,0))∧w1.heap.size≤v12.heap.size):=Lib.hid ⟨by rw [←hv13];exact heap_alloc_new _ _,Below.size b12⟩
     have nf13:g5≠v12.heap.size:=by have:=(World.ownsRow.lt V12.out g5 rfl).2;omega
     clear hv13
     refine⟨b13,?_⟩
     try simp only [Act.put,List.getElem_toArray,List.getElem_cons_zero,List.getElem_cons_succ,List.setIfInBounds_toArray,List.set_cons_zero,List.set_cons_succ]
     obtain⟨z0,z1,z2⟩:=cells3 P13.out.1
     have f0:=frozen_of_row v13 (v12.heap.size) 0 _ _ P13.out.1
     have f1:=frozen_of_row v13 (v12.heap.size) 1 _ _ P13.out.1
     have f2:=frozen_of_row v13 (v12.heap.size) 2 _ _ P13.out.1
     have HFIN:=Lib.hid (PrW.fin (room:=room) b13 HBW.out HSZ.out HRS.out P13.out.1 P13.out.2 V13.out nf13)
     refine AnyG_one (i:=8) rfl (by kernel_rfl) ?_
     refine wpOp_of rfl rfl ?_
     try simp only [Act.put,List.getElem_toArray,List.getElem_cons_zero,List.getElem_cons_succ,List.setIfInBounds_toArray,List.set_cons_zero,List.set_cons_succ]
     go_simp
     try simp only [Act.put,List.getElem_toArray,List.getElem_cons_zero,List.getElem_cons_succ,List.setIfInBounds_toArray,List.set_cons_zero,List.set_cons_succ]
     refine AnyG_done (by kernel_rfl) ?_ _
     go_wp2_with fail
     go_meet
     exact⟨rfl,_,rfl,HFIN⟩
    ·skip
     refine wpOp_of rfl rfl ?_
     try simp only [Act.put,List.getElem_toArray,List.getElem_cons_zero,List.getElem_cons_succ,List.setIfInBounds_toArray,List.set_cons_zero,List.set_cons_succ]
     go_simp
     obtain⟨v14,hv14⟩:∃ W,World.alloc v11 (.cells #[.slice none 0 0,.slice none 0 0,.int .i64 0] 45)=W:=⟨_,rfl⟩
     rw [hv14]
     have b14:Below w1.heap.size w1 v14:=by rw [←hv14];exact Below.alloc b11 (Below.size b11) _
     have M14:Hid (v14.heap[v10.heap.size]? = some (.cells #[.int .u32 0,.int .u32 0,.int .u32 0,.int .u32 0,.int .u32 0,.int .u32 0,.int .u32 0,.int .u32 0,.int .u32 0,.int .u32 0,.int .u32 0,.int .u32 0,.int .u32 0,.int .u32 0,.int .u32 0,.int .u32 0] 25 (0,0))∧w1.heap.size≤v10.heap.size):=Lib.hid ⟨by rw [←hv14];exact up_al M11.out.1,M11.out.2⟩
     have F14:Hid (v14.ownsRow w1.heap.size 25 1 (.slice (some ⟨gf,0,none⟩) mem.length pf) mem.length (w32 mem)):=Lib.hid (by rw [←hv14];exact own_only F11.out (F:=fun _=>False) ⟨rfl,rfl,rfl,by simp,fun k hk _=>Below.heap_alloc _ _ _ hk⟩ (fun _ _ f=>f))
     have P14:Hid (v14.heap[v11.heap.size]? = some (.cells #[.slice none 0 0,.slice none 0 0,.int .i64 0] 45 (0,0))∧w1.heap.size≤v11.heap.size):=Lib.hid ⟨by rw [←hv14];exact heap_alloc_new _ _,Below.size b11⟩
     have ne14:v11.heap.size≠v10.heap.size:=by have:=(Array.getElem?_eq_some_iff.1 M11.out.1).1;omega
     clear hv14
     refine⟨b14,?_⟩
     try simp only [Act.put,List.getElem_toArray,List.getElem_cons_zero,List.getElem_cons_succ,List.setIfInBounds_toArray,List.set_cons_zero,List.set_cons_succ]
     refine AnyG_one (i:=5) rfl (by kernel_rfl) ?_
     refine wpOp_of rfl rfl ?_
     try simp only [Act.put,List.getElem_toArray,List.getElem_cons_zero,List.getElem_cons_succ,List.setIfInBounds_toArray,List.set_cons_zero,List.set_cons_succ]
     refine wp_append_lies _ (.tmp 23) (.tmp 26) 43 (by rfl) w1.heap.size 25 i1 _ 1 4 Tryz.underlying43 hi' hy0 hy1 hy2 rfl (by decide) (.slice (some ⟨v10.heap.size,0,none⟩) 16 16) 16 [.int .u32 0,.int .u32 0,.int .u32 0,.int .u32 0,.int .u32 0,.int .u32 0,.int .u32 0,.int .u32 0,.int .u32 0,.int .u32 0,.int .u32 0,.int .u32 0,.int .u32 0,.int .u32 0,.int .u32 0,.int .u32 0] (by rfl) (own_made (arr:=#[.int .u32 0,.int .u32 0,.int .u32 0,.int .u32 0,.int .u32 0,.int .u32 0,.int .u32 0,.int .u32 0,.int .u32 0,.int .u32 0,.int .u32 0,.int .u32 0,.int .u32 0,.int .u32 0,.int .u32 0,.int .u32 0]) M14.out.2 M14.out.1 rfl h16) ⟨gf,0,none⟩ mem.length pf (w32 mem) (by rfl) h32 (fun q u hu=>F14.out.cells (g:=gf) rfl q u hu) (one_w32 _) hm0 hmm ha4 (Below.size b14) _ rfl ?_
     intro g5 p5 v15 o5 gr5 at5 lt5
     have b15:Below w1.heap.size w1 v15:=Below.grown b14 gr5 (Below.size b14) (fun k hk=>by have:=own_eq hk;have:=M14.out.2;omega)
     have V15:Hid (v15.ownsRow w1.heap.size 25 1 (.slice (some ⟨g5,0,none⟩) (16+mem.length) p5) (16+mem.length) ([.int .u32 0,.int .u32 0,.int .u32 0,.int .u32 0,.int .u32 0,.int .u32 0,.int .u32 0,.int .u32 0,.int .u32 0,.int .u32 0,.int .u32 0,.int .u32 0,.int .u32 0,.int .u32 0,.int .u32 0,.int .u32 0]++w32 mem)):=Lib.hid o5
     have P15:Hid (v15.heap[v11.heap.size]? = some (.cells #[.slice none 0 0,.slice none 0 0,.int .i64 0] 45 (0,0))∧w1.heap.size≤v11.heap.size):=Lib.hid ⟨(gr5.block _ (Array.getElem?_eq_some_iff.1 P14.out.1).1 (fun e=>ne14 (own_eq e.symm).symm)).trans P14.out.1,P14.out.2⟩
     have nf15:g5≠v11.heap.size:=by
      rcases at5 with e | e
      ·have:=own_eq e;intro e2;exact ne14 (by omega)
      ·have:=(Array.getElem?_eq_some_iff.1 P14.out.1).1;omega
     clear o5 gr5 at5 lt5
     refine⟨fun _ _=>b15,?_⟩
     try simp only [Act.put,List.getElem_toArray,List.getElem_cons_zero,List.getElem_cons_succ,List.setIfInBounds_toArray,List.set_cons_zero,List.set_cons_succ]
     refine AnyG_take (i:=6) (oi:=_) (v:=?_) rfl (by kernel_rfl) (fun _ _ _ h=>h) (Or.inl ⟨by rfl,?_⟩) b15 ?_
     rotate_left
     ·intro W hSw;(try dsimp only at hSw);go_simp;first | done | with_reducible rfl
     simp only [Act.put,List.getElem_toArray,List.getElem_cons_zero,List.getElem_cons_succ,List.setIfInBounds_toArray,List.set_cons_zero,List.set_cons_succ]
     obtain⟨z0,z1,z2⟩:=cells3 P15.out.1
     have f0:=frozen_of_row v15 (v11.heap.size) 0 _ _ P15.out.1
     have f1:=frozen_of_row v15 (v11.heap.size) 1 _ _ P15.out.1
     have f2:=frozen_of_row v15 (v11.heap.size) 2 _ _ P15.out.1
     have HFIN:=Lib.hid (PrW.fin (room:=room) b15 HBW.out HSZ.out HRS.out P15.out.1 P15.out.2 V15.out nf15)
     refine AnyG_one (i:=8) rfl (by kernel_rfl) ?_
     refine wpOp_of rfl rfl ?_
     try simp only [Act.put,List.getElem_toArray,List.getElem_cons_zero,List.getElem_cons_succ,List.setIfInBounds_toArray,List.set_cons_zero,List.set_cons_succ]
     go_simp
     try simp only [Act.put,List.getElem_toArray,List.getElem_cons_zero,List.getElem_cons_succ,List.setIfInBounds_toArray,List.set_cons_zero,List.set_cons_succ]
     refine AnyG_done (by kernel_rfl) ?_ _
     go_wp2_with fail
     go_meet
     exact⟨rfl,_,rfl,HFIN⟩
   ·skip
    refine wpOp_of rfl rfl ?_
    try simp only [Act.put,List.getElem_toArray,List.getElem_cons_zero,List.getElem_cons_succ,List.setIfInBounds_toArray,List.set_cons_zero,List.set_cons_succ]
    go_simp
    obtain⟨v16,hv16⟩:∃ W,World.alloc v10 (.cells #[.slice none 0 0,.slice none 0 0,.int .i64 0] 45)=W:=⟨_,rfl⟩
    rw [hv16]
    have b16:Below w1.heap.size w1 v16:=by rw [←hv16];exact Below.alloc b10 (Below.size b10) _
    have F16:Hid (v16.ownsRow w1.heap.size 25 1 (.slice (some ⟨gf,0,none⟩) mem.length pf) mem.length (w32 mem)):=Lib.hid (by rw [←hv16];exact own_only F10.out (F:=fun _=>False) ⟨rfl,rfl,rfl,by simp,fun k hk _=>Below.heap_alloc _ _ _ hk⟩ (fun _ _ f=>f))
    have P16:Hid (v16.heap[v10.heap.size]? = some (.cells #[.slice none 0 0,.slice none 0 0,.int .i64 0] 45 (0,0))∧w1.heap.size≤v10.heap.size):=Lib.hid ⟨by rw [←hv16];exact heap_alloc_new _ _,Below.size b10⟩
    clear hv16
    refine⟨b16,?_⟩
    try simp only [Act.put,List.getElem_toArray,List.getElem_cons_zero,List.getElem_cons_succ,List.setIfInBounds_toArray,List.set_cons_zero,List.set_cons_succ]
    refine AnyG_one (i:=1) rfl (by kernel_rfl) ?_
    refine wpOp_of rfl rfl ?_
    try simp only [Act.put,List.getElem_toArray,List.getElem_cons_zero,List.getElem_cons_succ,List.setIfInBounds_toArray,List.set_cons_zero,List.set_cons_succ]
    go_simp
    obtain⟨v17,hv17⟩:∃ W,World.alloc v16 (.cells #[.int .u32 0,.int .u32 0,.int .u32 0,.int .u32 0,.int .u32 0,.int .u32 0,.int .u32 0,.int .u32 0,.int .u32 0,.int .u32 0,.int .u32 0,.int .u32 0,.int .u32 0,.int .u32 0,.int .u32 0,.int .u32 0] 25)=W:=⟨_,rfl⟩
    rw [hv17]
    have b17:Below w1.heap.size w1 v17:=by rw [←hv17];exact Below.alloc b16 (Below.size b16) _
    have P17:Hid (v17.heap[v10.heap.size]? = some (.cells #[.slice none 0 0,.slice none 0 0,.int .i64 0] 45 (0,0))∧w1.heap.size≤v10.heap.size):=Lib.hid ⟨by rw [←hv17];exact up_al P16.out.1,P16.out.2⟩
    have F17:Hid (v17.ownsRow w1.heap.size 25 1 (.slice (some ⟨gf,0,none⟩) mem.length pf) mem.length (w32 mem)):=Lib.hid (by rw [←hv17];exact own_only F16.out (F:=fun _=>False) ⟨rfl,rfl,rfl,by simp,fun k hk _=>Below.heap_alloc _ _ _ hk⟩ (fun _ _ f=>f))
    have M17:Hid (v17.heap[v16.heap.size]? = some (.cells #[.int .u32 0,.int .u32 0,.int .u32 0,.int .u32 0,.int .u32 0,.int .u32 0,.int .u32 0,.int .u32 0,.int .u32 0,.int .u32 0,.int .u32 0,.int .u32 0,.int .u32 0,.int .u32 0,.int .u32 0,.int .u32 0] 25 (0,0))∧w1.heap.size≤v16.heap.size):=Lib.hid ⟨by rw [←hv17];exact heap_alloc_new _ _,Below.size b16⟩
    have ne17:v10.heap.size≠v16.heap.size:=by have:=(Array.getElem?_eq_some_iff.1 P16.out.1).1;omega
    clear hv17
    refine⟨b17,?_⟩
    try simp only [Act.put,List.getElem_toArray,List.getElem_cons_zero,List.getElem_cons_succ,List.setIfInBounds_toArray,List.set_cons_zero,List.set_cons_succ]
    refine AnyG_one (i:=5) rfl (by kernel_rfl) ?_
    refine wpOp_of rfl rfl ?_
    try simp only [Act.put,List.getElem_toArray,List.getElem_cons_zero,List.getElem_cons_succ,List.setIfInBounds_toArray,List.set_cons_zero,List.set_cons_succ]
    refine wp_append_lies _ (.tmp 23) (.tmp 26) 43 (by rfl) w1.heap.size 25 i1 _ 1 4 Tryz.underlying43 hi' hy0 hy1 hy2 rfl (by decide) (.slice (some ⟨v16.heap.size,0,none⟩) 16 16) 16 [.int .u32 0,.int .u32 0,.int .u32 0,.int .u32 0,.int .u32 0,.int .u32 0,.int .u32 0,.int .u32 0,.int .u32 0,.int .u32 0,.int .u32 0,.int .u32 0,.int .u32 0,.int .u32 0,.int .u32 0,.int .u32 0] (by rfl) (own_made (arr:=#[.int .u32 0,.int .u32 0,.int .u32 0,.int .u32 0,.int .u32 0,.int .u32 0,.int .u32 0,.int .u32 0,.int .u32 0,.int .u32 0,.int .u32 0,.int .u32 0,.int .u32 0,.int .u32 0,.int .u32 0,.int .u32 0]) M17.out.2 M17.out.1 rfl h16) ⟨gf,0,none⟩ mem.length pf (w32 mem) (by rfl) h32 (fun q u hu=>F17.out.cells (g:=gf) rfl q u hu) (one_w32 _) hm0 hmm ha4 (Below.size b17) _ rfl ?_
    intro g5 p5 v18 o5 gr5 at5 lt5
    have b18:Below w1.heap.size w1 v18:=Below.grown b17 gr5 (Below.size b17) (fun k hk=>by have:=own_eq hk;have:=M17.out.2;omega)
    have V18:Hid (v18.ownsRow w1.heap.size 25 1 (.slice (some ⟨g5,0,none⟩) (16+mem.length) p5) (16+mem.length) ([.int .u32 0,.int .u32 0,.int .u32 0,.int .u32 0,.int .u32 0,.int .u32 0,.int .u32 0,.int .u32 0,.int .u32 0,.int .u32 0,.int .u32 0,.int .u32 0,.int .u32 0,.int .u32 0,.int .u32 0,.int .u32 0]++w32 mem)):=Lib.hid o5
    have P18:Hid (v18.heap[v10.heap.size]? = some (.cells #[.slice none 0 0,.slice none 0 0,.int .i64 0] 45 (0,0))∧w1.heap.size≤v10.heap.size):=Lib.hid ⟨(gr5.block _ (Array.getElem?_eq_some_iff.1 P17.out.1).1 (fun e=>ne17 (own_eq e.symm).symm)).trans P17.out.1,P17.out.2⟩
    have nf18:g5≠v10.heap.size:=by
     rcases at5 with e | e
     ·have:=own_eq e;intro e2;exact ne17 (by omega)
     ·have:=(Array.getElem?_eq_some_iff.1 P17.out.1).1;omega
    clear o5 gr5 at5 lt5
    refine⟨fun _ _=>b18,?_⟩
    try simp only [Act.put,List.getElem_toArray,List.getElem_cons_zero,List.getElem_cons_succ,List.setIfInBounds_toArray,List.set_cons_zero,List.set_cons_succ]
    refine AnyG_take (i:=6) (oi:=_) (v:=?_) rfl (by kernel_rfl) (fun _ _ _ h=>h) (Or.inl ⟨by rfl,?_⟩) b18 ?_
    rotate_left
    ·intro W hSw;(try dsimp only at hSw);go_simp;first | done | with_reducible rfl
    simp only [Act.put,List.getElem_toArray,List.getElem_cons_zero,List.getElem_cons_succ,List.setIfInBounds_toArray,List.set_cons_zero,List.set_cons_succ]
    obtain⟨z0,z1,z2⟩:=cells3 P18.out.1
    have f0:=frozen_of_row v18 (v10.heap.size) 0 _ _ P18.out.1
    have f1:=frozen_of_row v18 (v10.heap.size) 1 _ _ P18.out.1
    have f2:=frozen_of_row v18 (v10.heap.size) 2 _ _ P18.out.1
    have HFIN:=Lib.hid (PrW.fin (room:=room) b18 HBW.out HSZ.out HRS.out P18.out.1 P18.out.2 V18.out nf18)
    refine AnyG_one (i:=8) rfl (by kernel_rfl) ?_
    refine wpOp_of rfl rfl ?_
    try simp only [Act.put,List.getElem_toArray,List.getElem_cons_zero,List.getElem_cons_succ,List.setIfInBounds_toArray,List.set_cons_zero,List.set_cons_succ]
    go_simp
    try simp only [Act.put,List.getElem_toArray,List.getElem_cons_zero,List.getElem_cons_succ,List.setIfInBounds_toArray,List.set_cons_zero,List.set_cons_succ]
    refine AnyG_done (by kernel_rfl) ?_ _
    go_wp2_with fail
    go_meet
    exact⟨rfl,_,rfl,HFIN⟩
  ·skip
   refine wpOp_of rfl rfl ?_
   try simp only [Act.put,List.getElem_toArray,List.getElem_cons_zero,List.getElem_cons_succ,List.setIfInBounds_toArray,List.set_cons_zero,List.set_cons_succ]
   go_simp
   obtain⟨v19,hv19⟩:∃ W,World.alloc wd (.cells #[.slice none 0 0,.slice none 0 0,.int .i64 0] 45)=W:=⟨_,rfl⟩
   rw [hv19]
   have b19:Below w1.heap.size w1 v19:=by rw [←hv19];exact Below.alloc b0 (Below.size b0) _
   have P19:Hid (v19.heap[wd.heap.size]? = some (.cells #[.slice none 0 0,.slice none 0 0,.int .i64 0] 45 (0,0))∧w1.heap.size≤wd.heap.size):=Lib.hid ⟨by rw [←hv19];exact heap_alloc_new _ _,Below.size b0⟩
   clear hv19
   refine⟨b19,?_⟩
   try simp only [Act.put,List.getElem_toArray,List.getElem_cons_zero,List.getElem_cons_succ,List.setIfInBounds_toArray,List.set_cons_zero,List.set_cons_succ]
   refine AnyG_two (i:=1) (j:=4) (by kernel_rfl) ?_ ?_
   ·skip
    refine wpOp_of rfl rfl ?_
    try simp only [Act.put,List.getElem_toArray,List.getElem_cons_zero,List.getElem_cons_succ,List.setIfInBounds_toArray,List.set_cons_zero,List.set_cons_succ]
    go_simp
    obtain⟨v20,hv20⟩:∃ W,World.alloc v19 (.cells #[.int .u32 0,.int .u32 0,.int .u32 0,.int .u32 0,.int .u32 0,.int .u32 0,.int .u32 0,.int .u32 0,.int .u32 0,.int .u32 0,.int .u32 0,.int .u32 0,.int .u32 0,.int .u32 0,.int .u32 0,.int .u32 0] 25)=W:=⟨_,rfl⟩
    rw [hv20]
    have b20:Below w1.heap.size w1 v20:=by rw [←hv20];exact Below.alloc b19 (Below.size b19) _
    have P20:Hid (v20.heap[wd.heap.size]? = some (.cells #[.slice none 0 0,.slice none 0 0,.int .i64 0] 45 (0,0))∧w1.heap.size≤wd.heap.size):=Lib.hid ⟨by rw [←hv20];exact up_al P19.out.1,P19.out.2⟩
    have M20:Hid (v20.heap[v19.heap.size]? = some (.cells #[.int .u32 0,.int .u32 0,.int .u32 0,.int .u32 0,.int .u32 0,.int .u32 0,.int .u32 0,.int .u32 0,.int .u32 0,.int .u32 0,.int .u32 0,.int .u32 0,.int .u32 0,.int .u32 0,.int .u32 0,.int .u32 0] 25 (0,0))∧w1.heap.size≤v19.heap.size):=Lib.hid ⟨by rw [←hv20];exact heap_alloc_new _ _,Below.size b19⟩
    have ne20:wd.heap.size≠v19.heap.size:=by have:=(Array.getElem?_eq_some_iff.1 P19.out.1).1;omega
    clear hv20
    refine⟨b20,?_⟩
    try simp only [Act.put,List.getElem_toArray,List.getElem_cons_zero,List.getElem_cons_succ,List.setIfInBounds_toArray,List.set_cons_zero,List.set_cons_succ]
    refine AnyG_one (i:=4) rfl (by kernel_rfl) ?_
    refine wpOp_of rfl rfl ?_
    try simp only [Act.put,List.getElem_toArray,List.getElem_cons_zero,List.getElem_cons_succ,List.setIfInBounds_toArray,List.set_cons_zero,List.set_cons_succ]
    go_simp
    refine (HF.out v20 b20).mono ?_
    rintro _ v21 ⟨v4,rfl,o4,c21⟩
    obtain⟨gf,pf,rfl⟩:=own_form o4 hm0
    have b21:Below w1.heap.size w1 v21:=Below.trans b20 (c21.mono (Below.size b20))
    have F21:Hid (v21.ownsRow w1.heap.size 25 1 (.slice (some ⟨gf,0,none⟩) mem.length pf) mem.length (w32 mem)):=Lib.hid (own_mono o4 (Below.size b20))
    have M21:Hid (v21.heap[v19.heap.size]? = some (.cells #[.int .u32 0,.int .u32 0,.int .u32 0,.int .u32 0,.int .u32 0,.int .u32 0,.int .u32 0,.int .u32 0,.int .u32 0,.int .u32 0,.int .u32 0,.int .u32 0,.int .u32 0,.int .u32 0,.int .u32 0,.int .u32 0] 25 (0,0))∧w1.heap.size≤v19.heap.size):=Lib.hid ⟨(c21.block _ (Array.getElem?_eq_some_iff.1 M20.out.1).1).trans M20.out.1,M20.out.2⟩
    have P21:Hid (v21.heap[wd.heap.size]? = some (.cells #[.slice none 0 0,.slice none 0 0,.int .i64 0] 45 (0,0))∧w1.heap.size≤wd.heap.size):=Lib.hid ⟨(c21.block _ (Array.getElem?_eq_some_iff.1 P20.out.1).1).trans P20.out.1,P20.out.2⟩
    clear o4 c21
    refine⟨b21,?_⟩
    try simp only [Act.put,List.getElem_toArray,List.getElem_cons_zero,List.getElem_cons_succ,List.setIfInBounds_toArray,List.set_cons_zero,List.set_cons_succ]
    refine AnyG_one (i:=5) rfl (by kernel_rfl) ?_
    refine wpOp_of rfl rfl ?_
    try simp only [Act.put,List.getElem_toArray,List.getElem_cons_zero,List.getElem_cons_succ,List.setIfInBounds_toArray,List.set_cons_zero,List.set_cons_succ]
    refine wp_append_lies _ (.tmp 23) (.tmp 26) 43 (by rfl) w1.heap.size 25 i1 _ 1 4 Tryz.underlying43 hi' hy0 hy1 hy2 rfl (by decide) (.slice (some ⟨v19.heap.size,0,none⟩) 16 16) 16 [.int .u32 0,.int .u32 0,.int .u32 0,.int .u32 0,.int .u32 0,.int .u32 0,.int .u32 0,.int .u32 0,.int .u32 0,.int .u32 0,.int .u32 0,.int .u32 0,.int .u32 0,.int .u32 0,.int .u32 0,.int .u32 0] (by rfl) (own_made (arr:=#[.int .u32 0,.int .u32 0,.int .u32 0,.int .u32 0,.int .u32 0,.int .u32 0,.int .u32 0,.int .u32 0,.int .u32 0,.int .u32 0,.int .u32 0,.int .u32 0,.int .u32 0,.int .u32 0,.int .u32 0,.int .u32 0]) M21.out.2 M21.out.1 rfl h16) ⟨gf,0,none⟩ mem.length pf (w32 mem) (by rfl) h32 (fun q u hu=>F21.out.cells (g:=gf) rfl q u hu) (one_w32 _) hm0 hmm ha4 (Below.size b21) _ rfl ?_
    intro g5 p5 v22 o5 gr5 at5 lt5
    have b22:Below w1.heap.size w1 v22:=Below.grown b21 gr5 (Below.size b21) (fun k hk=>by have:=own_eq hk;have:=M21.out.2;omega)
    have V22:Hid (v22.ownsRow w1.heap.size 25 1 (.slice (some ⟨g5,0,none⟩) (16+mem.length) p5) (16+mem.length) ([.int .u32 0,.int .u32 0,.int .u32 0,.int .u32 0,.int .u32 0,.int .u32 0,.int .u32 0,.int .u32 0,.int .u32 0,.int .u32 0,.int .u32 0,.int .u32 0,.int .u32 0,.int .u32 0,.int .u32 0,.int .u32 0]++w32 mem)):=Lib.hid o5
    have P22:Hid (v22.heap[wd.heap.size]? = some (.cells #[.slice none 0 0,.slice none 0 0,.int .i64 0] 45 (0,0))∧w1.heap.size≤wd.heap.size):=Lib.hid ⟨(gr5.block _ (Array.getElem?_eq_some_iff.1 P21.out.1).1 (fun e=>ne20 (own_eq e.symm).symm)).trans P21.out.1,P21.out.2⟩
    have nf22:g5≠wd.heap.size:=by
     rcases at5 with e | e
     ·have:=own_eq e;intro e2;exact ne20 (by omega)
     ·have:=(Array.getElem?_eq_some_iff.1 P21.out.1).1;omega
    clear o5 gr5 at5 lt5
    refine⟨fun _ _=>b22,?_⟩
    try simp only [Act.put,List.getElem_toArray,List.getElem_cons_zero,List.getElem_cons_succ,List.setIfInBounds_toArray,List.set_cons_zero,List.set_cons_succ]
    refine AnyG_take (i:=6) (oi:=_) (v:=?_) rfl (by kernel_rfl) (fun _ _ _ h=>h) (Or.inl ⟨by rfl,?_⟩) b22 ?_
    rotate_left
    ·intro W hSw;(try dsimp only at hSw);go_simp;first | done | with_reducible rfl
    simp only [Act.put,List.getElem_toArray,List.getElem_cons_zero,List.getElem_cons_succ,List.setIfInBounds_toArray,List.set_cons_zero,List.set_cons_succ]
    obtain⟨z0,z1,z2⟩:=cells3 P22.out.1
    have f0:=frozen_of_row v22 (wd.heap.size) 0 _ _ P22.out.1
    have f1:=frozen_of_row v22 (wd.heap.size) 1 _ _ P22.out.1
    have f2:=frozen_of_row v22 (wd.heap.size) 2 _ _ P22.out.1
    have HFIN:=Lib.hid (PrW.fin (room:=room) b22 HBW.out HSZ.out HRS.out P22.out.1 P22.out.2 V22.out nf22)
    refine AnyG_one (i:=8) rfl (by kernel_rfl) ?_
    refine wpOp_of rfl rfl ?_
    try simp only [Act.put,List.getElem_toArray,List.getElem_cons_zero,List.getElem_cons_succ,List.setIfInBounds_toArray,List.set_cons_zero,List.set_cons_succ]
    go_simp
    try simp only [Act.put,List.getElem_toArray,List.getElem_cons_zero,List.getElem_cons_succ,List.setIfInBounds_toArray,List.set_cons_zero,List.set_cons_succ]
    refine AnyG_done (by kernel_rfl) ?_ _
    go_wp2_with fail
    go_meet
    exact⟨rfl,_,rfl,HFIN⟩
   ·skip
    refine wpOp_of rfl rfl ?_
    try simp only [Act.put,List.getElem_toArray,List.getElem_cons_zero,List.getElem_cons_succ,List.setIfInBounds_toArray,List.set_cons_zero,List.set_cons_succ]
    go_simp
    refine (HF.out v19 b19).mono ?_
    rintro _ v23 ⟨v4,rfl,o4,c23⟩
    obtain⟨gf,pf,rfl⟩:=own_form o4 hm0
    have b23:Below w1.heap.size w1 v23:=Below.trans b19 (c23.mono (Below.size b19))
    have F23:Hid (v23.ownsRow w1.heap.size 25 1 (.slice (some ⟨gf,0,none⟩) mem.length pf) mem.length (w32 mem)):=Lib.hid (own_mono o4 (Below.size b19))
    have P23:Hid (v23.heap[wd.heap.size]? = some (.cells #[.slice none 0 0,.slice none 0 0,.int .i64 0] 45 (0,0))∧w1.heap.size≤wd.heap.size):=Lib.hid ⟨(c23.block _ (Array.getElem?_eq_some_iff.1 P19.out.1).1).trans P19.out.1,P19.out.2⟩
    clear o4 c23
    refine⟨b23,?_⟩
    try simp only [Act.put,List.getElem_toArray,List.getElem_cons_zero,List.getElem_cons_succ,List.setIfInBounds_toArray,List.set_cons_zero,List.set_cons_succ]
    refine AnyG_one (i:=1) rfl (by kernel_rfl) ?_
    refine wpOp_of rfl rfl ?_
    try simp only [Act.put,List.getElem_toArray,List.getElem_cons_zero,List.getElem_cons_succ,List.setIfInBounds_toArray,List.set_cons_zero,List.set_cons_succ]
    go_simp
    obtain⟨v24,hv24⟩:∃ W,World.alloc v23 (.cells #[.int .u32 0,.int .u32 0,.int .u32 0,.int .u32 0,.int .u32 0,.int .u32 0,.int .u32 0,.int .u32 0,.int .u32 0,.int .u32 0,.int .u32 0,.int .u32 0,.int .u32 0,.int .u32 0,.int .u32 0,.int .u32 0] 25)=W:=⟨_,rfl⟩
    rw [hv24]
    have b24:Below w1.heap.size w1 v24:=by rw [←hv24];exact Below.alloc b23 (Below.size b23) _
    have P24:Hid (v24.heap[wd.heap.size]? = some (.cells #[.slice none 0 0,.slice none 0 0,.int .i64 0] 45 (0,0))∧w1.heap.size≤wd.heap.size):=Lib.hid ⟨by rw [←hv24];exact up_al P23.out.1,P23.out.2⟩
    have F24:Hid (v24.ownsRow w1.heap.size 25 1 (.slice (some ⟨gf,0,none⟩) mem.length pf) mem.length (w32 mem)):=Lib.hid (by rw [←hv24];exact own_only F23.out (F:=fun _=>False) ⟨rfl,rfl,rfl,by simp,fun k hk _=>Below.heap_alloc _ _ _ hk⟩ (fun _ _ f=>f))
    have M24:Hid (v24.heap[v23.heap.size]? = some (.cells #[.int .u32 0,.int .u32 0,.int .u32 0,.int .u32 0,.int .u32 0,.int .u32 0,.int .u32 0,.int .u32 0,.int .u32 0,.int .u32 0,.int .u32 0,.int .u32 0,.int .u32 0,.int .u32 0,.int .u32 0,.int .u32 0] 25 (0,0))∧w1.heap.size≤v23.heap.size):=Lib.hid ⟨by rw [←hv24];exact heap_alloc_new _ _,Below.size b23⟩
    have ne24:wd.heap.size≠v23.heap.size:=by have:=(Array.getElem?_eq_some_iff.1 P23.out.1).1;omega
    clear hv24
    refine⟨b24,?_⟩
    try simp only [Act.put,List.getElem_toArray,List.getElem_cons_zero,List.getElem_cons_succ,List.setIfInBounds_toArray,List.set_cons_zero,List.set_cons_succ]
    refine AnyG_one (i:=5) rfl (by kernel_rfl) ?_
    refine wpOp_of rfl rfl ?_
    try simp only [Act.put,List.getElem_toArray,List.getElem_cons_zero,List.getElem_cons_succ,List.setIfInBounds_toArray,List.set_cons_zero,List.set_cons_succ]
    refine wp_append_lies _ (.tmp 23) (.tmp 26) 43 (by rfl) w1.heap.size 25 i1 _ 1 4 Tryz.underlying43 hi' hy0 hy1 hy2 rfl (by decide) (.slice (some ⟨v23.heap.size,0,none⟩) 16 16) 16 [.int .u32 0,.int .u32 0,.int .u32 0,.int .u32 0,.int .u32 0,.int .u32 0,.int .u32 0,.int .u32 0,.int .u32 0,.int .u32 0,.int .u32 0,.int .u32 0,.int .u32 0,.int .u32 0,.int .u32 0,.int .u32 0] (by rfl) (own_made (arr:=#[.int .u32 0,.int .u32 0,.int .u32 0,.int .u32 0,.int .u32 0,.int .u32 0,.int .u32 0,.int .u32 0,.int .u32 0,.int .u32 0,.int .u32 0,.int .u32 0,.int .u32 0,.int .u32 0,.int .u32 0,.int .u32 0]) M24.out.2 M24.out.1 rfl h16) ⟨gf,0,none⟩ mem.length pf (w32 mem) (by rfl) h32 (fun q u hu=>F24.out.cells (g:=gf) rfl q u hu) (one_w32 _) hm0 hmm ha4 (Below.size b24) _ rfl ?_
    intro g5 p5 v25 o5 gr5 at5 lt5
    have b25:Below w1.heap.size w1 v25:=Below.grown b24 gr5 (Below.size b24) (fun k hk=>by have:=own_eq hk;have:=M24.out.2;omega)
    have V25:Hid (v25.ownsRow w1.heap.size 25 1 (.slice (some ⟨g5,0,none⟩) (16+mem.length) p5) (16+mem.length) ([.int .u32 0,.int .u32 0,.int .u32 0,.int .u32 0,.int .u32 0,.int .u32 0,.int .u32 0,.int .u32 0,.int .u32 0,.int .u32 0,.int .u32 0,.int .u32 0,.int .u32 0,.int .u32 0,.int .u32 0,.int .u32 0]++w32 mem)):=Lib.hid o5
    have P25:Hid (v25.heap[wd.heap.size]? = some (.cells #[.slice none 0 0,.slice none 0 0,.int .i64 0] 45 (0,0))∧w1.heap.size≤wd.heap.size):=Lib.hid ⟨(gr5.block _ (Array.getElem?_eq_some_iff.1 P24.out.1).1 (fun e=>ne24 (own_eq e.symm).symm)).trans P24.out.1,P24.out.2⟩
    have nf25:g5≠wd.heap.size:=by
     rcases at5 with e | e
     ·have:=own_eq e;intro e2;exact ne24 (by omega)
     ·have:=(Array.getElem?_eq_some_iff.1 P24.out.1).1;omega
    clear o5 gr5 at5 lt5
    refine⟨fun _ _=>b25,?_⟩
    try simp only [Act.put,List.getElem_toArray,List.getElem_cons_zero,List.getElem_cons_succ,List.setIfInBounds_toArray,List.set_cons_zero,List.set_cons_succ]
    refine AnyG_take (i:=6) (oi:=_) (v:=?_) rfl (by kernel_rfl) (fun _ _ _ h=>h) (Or.inl ⟨by rfl,?_⟩) b25 ?_
    rotate_left
    ·intro W hSw;(try dsimp only at hSw);go_simp;first | done | with_reducible rfl
    simp only [Act.put,List.getElem_toArray,List.getElem_cons_zero,List.getElem_cons_succ,List.setIfInBounds_toArray,List.set_cons_zero,List.set_cons_succ]
    obtain⟨z0,z1,z2⟩:=cells3 P25.out.1
    have f0:=frozen_of_row v25 (wd.heap.size) 0 _ _ P25.out.1
    have f1:=frozen_of_row v25 (wd.heap.size) 1 _ _ P25.out.1
    have f2:=frozen_of_row v25 (wd.heap.size) 2 _ _ P25.out.1
    have HFIN:=Lib.hid (PrW.fin (room:=room) b25 HBW.out HSZ.out HRS.out P25.out.1 P25.out.2 V25.out nf25)
    refine AnyG_one (i:=8) rfl (by kernel_rfl) ?_
    refine wpOp_of rfl rfl ?_
    try simp only [Act.put,List.getElem_toArray,List.getElem_cons_zero,List.getElem_cons_succ,List.setIfInBounds_toArray,List.set_cons_zero,List.set_cons_succ]
    go_simp
    try simp only [Act.put,List.getElem_toArray,List.getElem_cons_zero,List.getElem_cons_succ,List.setIfInBounds_toArray,List.set_cons_zero,List.set_cons_succ]
    refine AnyG_done (by kernel_rfl) ?_ _
    go_wp2_with fail
    go_meet
    exact⟨rfl,_,rfl,HFIN⟩
 case rest=>
  obtain⟨rfl,gp,rfl,HP⟩:=hcut
  clear x0 x1 x2 x3 HSZ HRS HBW HF hmk h32 hmm ha4 h16 hm0 hm1 hy0 hy1 hy2 hi'
  go_wp2_with fail
  go_loopg [14,13] T (fun g iv okv wr=>∃ (i:Nat) (cv:Value),i+g=T∧iv=.int .i64 i∧okv=.bool true∧Hid (PrW w wr gp cv room mem∧CsW w wr gp cv (fun t=>roundsR (ca t) (cb t) rounds []) i))
  case atStart=>exact⟨0,.slice none 0 0,by omega,rfl,rfl,Lib.hid ⟨HP.out,⟨⟨fun _=>0,fun _=>0,World.ownsRow_nil _ _ _ _,fun t ht=>absurd ht (by omega)⟩,by simp [Value.ownBlock],by simp [Value.ownBlock]⟩⟩⟩
  case round=>
   obtain⟨i,cv,hi,rfl,rfl,HR⟩:=hrel
   obtain⟨wo,hwo⟩:∃ x,x=wr:=⟨_,rfl⟩
   subst hwo
   by_cases hlt:i < T
   ·obtain⟨g',rfl⟩:∃ g',gk=g'+1:=⟨gk - 1,by omega⟩
    have hil:(i:Int) < (T:Int):=by omega
    have hwr:wrap64 ((i:Int)+1)=(i:Int)+1:=by unfold wrap64;omega
    go_wp2_with fail
    go_loopg [17,13] rounds (fun g nv okv wi=>∃ (n:Nat) (lv:Value),n+g=rounds∧nv=.int .i64 n∧okv=.bool true∧Hid (LRow wi wo.heap.size wo.heap.size lv (roundsR (ca i) (cb i) n [])∧Below wo.heap.size wo wi))
    case atStart=>exact⟨0,.slice none 0 0,by omega,rfl,rfl,Lib.hid ⟨⟨heap_alloc_new _ _,World.ownsRow_nil _ _ _ _,by simp [Value.ownBlock],by simp⟩,(Below.refl _ wo).alloc (Nat.le_refl _) _⟩⟩
    case round=>
     obtain⟨n,lv,hn,rfl,rfl,HL⟩:=hrel
     obtain⟨wi,hwi⟩:∃ x,x=wr:=⟨_,rfl⟩
     subst hwi
     by_cases hln:n < rounds
     ·obtain⟨g2,rfl⟩:∃ g2,gk=g2+1:=⟨gk - 1,by omega⟩
      have hnl:(n:Int) < (rounds:Int):=by omega
      have hwn:wrap64 ((n:Int)+1)=(n:Int)+1:=by unfold wrap64;omega
      have hL3:(roundsR (ca i) (cb i) n []).length≤n*408:=rounds_len_le (HLA.out i).1 (HLB.out i).1 n
      have hbwi:Below w.heap.size w wi:=HR.out.1.bel.trans (HL.out.2.mono HR.out.1.bel.size)
      go_wp2_with fail
      with_reducible refine (HAB.out.1 i hlt wi hbwi).mono ?_
      rintro r w2 ⟨⟨va,rfl,hva⟩,hb2⟩
      have hbw2:Below w.heap.size w w2:=hbwi.trans (hb2.mono hbwi.size)
      obtain⟨ga,pa,rfl⟩:=own_form hva (HLA.out i).2.1
      have HVA:=Lib.hid hva
      have HB2:=Lib.hid hb2
      clear hva hb2
      go_wp2_with fail
      with_reducible refine (HAB.out.2 i hlt w2 hbw2).mono ?_
      rintro r w3 ⟨⟨vb,rfl,hvb⟩,hb3⟩
      have hbw3:Below w.heap.size w w3:=hbw2.trans (hb3.mono hbw2.size)
      obtain⟨gb,pb,rfl⟩:=own_form hvb (HLB.out i).2.1
      have hO3:Only (fun _=>False) wi w3:=(Only.of_below (F:=fun _=>False) HB2.out (Nat.le_refl _)).trans (Only.of_below (F:=fun _=>False) hb3 (Nat.le_refl _)) (fun _ e=>e.elim)
      have hR3:LRow w3 wo.heap.size wo.heap.size lv (roundsR (ca i) (cb i) n []):=HL.out.1.only hO3 (fun _ e=>e.elim)
      have hga:=HVA.out.lt ga rfl
      have hgb:=hvb.lt gb rfl
      have hz2:=HB2.out.size
      have hz3:=hb3.size
      have hzi:=HL.out.2.size
      have hown:∀ k,lv.ownBlock=some k→k < wi.heap.size:=fun k e=>(HL.out.1.ho.lt k e).2
      have hlbz:wo.heap.size < wi.heap.size:=(Array.getElem?_eq_some_iff.1 HL.out.1.hb).1
      have hFA:FlatB w3 ga (ca i):=FlatB.own (own_only HVA.out (Only.of_below (F:=fun _=>False) hb3 (Nat.le_refl _)) (fun _ _ f=>f))
      have hFB:FlatB w3 gb (cb i):=FlatB.own hvb
      have hNI:∀ k,wo.heap.size≤k→NoI k:=fun k hk=>HTI.out.new (by have:=HR.out.1.bel.size;omega)
      have hadd1:Calls Tryz.prog 125 #[.int .u32 0,.slice (some ⟨ga,0,none⟩) (ca i).length pa,.pointer (some ⟨wo.heap.size,0,none⟩)] w3 fun e w'=>e=.returned (.tuple #[])∧LGrow w3 wo.heap.size wo.heap.size lv w' (addR (roundsR (ca i) (cb i) n []) 0 (ca i)):=add_any w3 (HTI.out.below hbw3 (Nat.le_refl _)) wo.heap.size wo.heap.size lv _ (ca i) 0 (by omega) ga pa hR3 hFA (by omega) (fun e=>by have:=hown ga e;omega) (HLA.out i).2.1 (by have:=(HLA.out i).1;omega) (by omega) (HLA.out i).2.2 (Nat.le_refl _) hNI
      have HADD1:=Lib.hid hadd1
      have HFB:=Lib.hid hFB
      have HNI:=Lib.hid hNI
      have HN1:Hid (gb≠wo.heap.size∧(∀ k,lv.ownBlock=some k→k < wi.heap.size)∧w2.heap.size≤gb∧wi.heap.size≤w2.heap.size∧gb < w3.heap.size∧wo.heap.size < wi.heap.size):=Lib.hid ⟨by omega,hown,hgb.1,hz2,hgb.2,hlbz⟩
      have HBW3:=Lib.hid hbw3
      have HBR3:Hid (Below wo.heap.size wo w3):=Lib.hid (HL.out.2.trans ((HB2.out.trans (hb3.mono HB2.out.size)).mono HL.out.2.size))
      have hL4:(addR (roundsR (ca i) (cb i) n []) 0 (ca i)).length≤n*408+202:=by
       have:=(HLA.out i).1
       rw [addR_len];omega
      have HLL:=Lib.hid hL4
      have HLL3:=Lib.hid hL3
      clear hvb hb3 hO3 hR3 hga hgb hz2 hz3 hzi hown hlbz hFA hFB hNI hadd1 hbwi hbw2 hbw3 HVA HB2 hL3
      go_wp2_with fail
      refine HADD1.out.mono ?_
      rintro r w4 ⟨rfl,lv4,hr4,ho4,hf4⟩
      have R4:=Lib.hid hr4
      have O4:=Lib.hid ho4
      have F4:=Lib.hid hf4
      clear hr4 ho4 hf4
      have c4:w4.cell? ⟨wo.heap.size,0,none⟩=some lv4:=cell_of_row _ _ 0 _ _ _ R4.out.hb
      have c4a:∀ X,(w4.alloc X).cell? ⟨wo.heap.size,0,none⟩=some lv4:=fun X=>(Below.cell ((Below.refl w4.heap.size w4).alloc (Nat.le_refl _) X) (Array.getElem?_eq_some_iff.1 R4.out.hb).1).trans c4
      go_wp2_with (first
       | (at_builtin;go_must (refine wpList_append_lies _ rfl (.tmp 62) (.tmp 67) 29 rfl wo.heap.size 132 i0 _ 5 40 Tryz.underlying29 hi0 hz0 hz1 hz2 rfl (by decide) lv4 (addR (roundsR (ca i) (cb i) n []) 0 (ca i)).length (flat (addR (roundsR (ca i) (cb i) n []) 0 (ca i))) rfl (own_only R4.out.ho (on_al (F:=fun _=>False) _ _) (fun _ _ f=>f)) ⟨w4.heap.size,0,none⟩ 4 4 (flat incR) rfl rfl (World.news_of_block (heap_alloc_new _ _)) (one_flat _) (by decide) (by unfold maxLen;omega) (by omega) (by have:=R4.out.le;simp;omega) _ rfl ?_;intro g5 p5 w5 ho5 hgr5 hat5 hlt5;have HG:=Lib.hid (R4.out.app (L':=addR (roundsR (ca i) (cb i) n []) 0 (ca i)++incR) (on_al _ _) (by rw [flat_app];exact ho5) (by simp [incR]) hgr5 hat5);obtain⟨c5,f5⟩:=R4.out.mid (on_al _ _) hgr5;clear ho5 hgr5 hat5 hlt5)))
      refine (add2 HG.out O4.out F4.out HBW3.out HTI.out HNI.out HR.out.1.bel.size HFB.out HN1.out (fun k e=>(HL.out.1.ho.lt k e).1) (HLB.out i) (by have:=HLL.out;simp [incR];omega) pb).mono ?_
      rintro r w7 ⟨rfl,lv7,hr7,hb7⟩
      have HR7:=Lib.hid hr7
      have HB7:=Lib.hid hb7
      clear hr7 hb7
      go_wp2_with fail
      go_roundg g2
      case rel=>exact⟨n+1,lv7,by omega,by simp,rfl,Lib.hid ⟨by rw [roundsR_snoc];exact HR7.out,HBR3.out.trans HB7.out⟩⟩
      case measure=>omega
     ·have hnl:¬((n:Int) < (rounds:Int)):=by omega
      have hnR:n=rounds:=by omega
      subst hnR
      obtain⟨iC,hiC,hc0,hc1,hc2⟩:=info_parts infoC
      have hlen0:0 < (roundsR (ca i) (cb i) n []).length:=by
       rw [roundsR_len,baseR_len]
       have:1*((ca i).length+(cb i).length+8)≤n*((ca i).length+(cb i).length+8):=Nat.mul_le_mul (by omega) (Nat.le_refl _)
       omega
      obtain⟨gl,pl,rfl⟩:=own_form HL.out.1.ho hlen0
      have hP:=HR.out.1.below HL.out.2
      have hC:=HR.out.2.below HL.out.2
      obtain⟨gg,cp,hco,hcf⟩:=hC.ex
      obtain⟨g5,p5,hrow,hown5,hn5,hn6⟩:=hP.row
      have d0:wi.cell? ⟨gp,0,none⟩=some cv:=cell_of_row _ _ 0 _ _ _ hrow
      have d1:wi.cell? ⟨wo.heap.size,0,none⟩=some (.slice (some ⟨gl,0,none⟩) (roundsR (ca i) (cb i) n []).length pl):=cell_of_row _ _ 0 _ _ _ HL.out.1.hb
      have hgl:=HL.out.1.ho.lt gl rfl
      have hgpo:gp < wo.heap.size:=by
       obtain⟨_,_,hr,_⟩:=HR.out.1.row
       exact (Array.getElem?_eq_some_iff.1 hr).1
      have hcvo:∀ k,cv.ownBlock=some k→k < wo.heap.size:=fun k e=>by
       obtain⟨_,_,h1,_⟩:=HR.out.2.ex
       exact (h1.lt k e).2
      have hreso:w.heap.size+1 < wo.heap.size:=(Array.getElem?_eq_some_iff.1 HR.out.1.res).1
      have HGL:Hid (gl≠gp∧gl≠w.heap.size+1∧cv.ownBlock≠some gl∧w.heap.size≤gl∧(roundsR (ca i) (cb i) n []).length≤pl):=Lib.hid ⟨by omega,by omega,fun e=>by have:=hcvo gl e;omega,by have:=HR.out.1.bel.size;omega,own_cap HL.out.1.ho⟩
      have HPP:=Lib.hid hP
      have HCC:=Lib.hid hC
      have HCO:=Lib.hid hco
      have HCF:=Lib.hid hcf
      have HLF:Hid (FlatB wi gl (roundsR (ca i) (cb i) n [])):=Lib.hid (FlatB.own HL.out.1.ho)
      clear hP hC hco hcf hrow hown5 hn5 hn6 hgl hgpo hcvo hreso hlen0
      go_wp2_with (at_builtin;go_must (refine wpList_append_lies _ rfl (.tmp 73) (.tmp 75) 42 rfl w.heap.size 29 iC _ 1 24 Tryz.underlying42 hiC hc0 hc1 hc2 rfl (by decide) cv i ((List.range i).map fun t=>.slice (some ⟨gg t,0,none⟩) (roundsR (ca t) (cb t) n []).length (cp t)) rfl (own_only HCO.out (on_al (F:=fun _=>False) _ _) (fun _ _ f=>f)) ⟨wi.heap.size,0,none⟩ 1 1 [.slice (some ⟨gl,0,none⟩) (roundsR (ca i) (cb i) n []).length pl] rfl rfl (World.news_of_block (heap_alloc_new _ _)) (by simp [Value.oneCell']) (by decide) (by unfold maxLen;omega) (by omega) (by have:=HPP.out.bel.size;simp;omega) _ rfl ?_;intro g7 p7 w7 ho7 hgr7 hat7 hlt7;have HG:=Lib.hid (codes_app HPP.out HCC.out HCO.out HCF.out HLF.out HGL.out (on_al _ _) ho7 hgr7 hat7);obtain⟨c7,f7⟩:=codes_mid HPP.out HCC.out (on_al _ _) hgr7;clear ho7 hgr7 hat7 hlt7))
      go_roundg g'
      case rel=>exact⟨i+1,_,by omega,by simp,rfl,HG⟩
      case measure=>omega
   ·have hil:¬((i:Int) < (T:Int)):=by omega
    have hiT:i=T:=by omega
    subst hiT
    obtain⟨ggx,cpx,hcox,_⟩:=HR.out.2.ex
    obtain⟨gv,pv,rfl⟩:=own_form hcox hT0
    clear hcox
    obtain⟨g5,p5,hrow,hown5,hn5,hn6⟩:=HR.out.1.row
    have hres:=HR.out.1.res
    obtain⟨c0,c1,c2⟩:=cells3 hrow
    obtain⟨d0,d1,d2⟩:=cells3 hres
    have f0:=frozen_of_row wo (w.heap.size+1) 0 _ _ hres
    have f1:=frozen_of_row wo (w.heap.size+1) 1 _ _ hres
    have f2:=frozen_of_row wo (w.heap.size+1) 2 _ _ hres
    have HRES:=Lib.hid hres
    have HOWN:=Lib.hid hown5
    have HN6:=Lib.hid hn6
    clear hrow hres hown5 hn5 hn6
    go_wp2_with fail
    obtain⟨hs1,hs2⟩:=set3 HRES.out (.slice (some ⟨gv,0,none⟩) i pv) (.slice (some ⟨g5,0,none⟩) (16+mem.length) p5) (.int .i64 room)
    refine bodyPost_ret (results_prog rfl _ _ (w.heap.size+1) _ _ _ hs1 rfl) rfl ?_
    refine⟨_,_,rfl,own_only HOWN.out hs2 (fun k e f=>by have:=own_eq e;exact HN6.out (by omega)),?_,HR.out.1.bel.trans (hs2.below HR.out.1.bel.size (fun k e=>by omega))⟩
    obtain⟨gg,cp,hco,hcf⟩:=HR.out.2.ex
    exact⟨⟨gg,cp,own_only hco hs2 (fun k e f=>HR.out.2.ne.2 (by rw [e,f])),fun t ht=>⟨(hcf t ht).1.only hs2 (hcf t ht).2.2.2.1,(hcf t ht).2.1,(hcf t ht).2.2.2.1,(hcf t ht).2.2.2.1,(hcf t ht).2.2.2.2⟩⟩,HR.out.2.ne.2,HR.out.2.ne.2⟩
end Go.Proofs.YtcnmhgblbikfkaaGreatDoor.As.T
