/- The walk of isa.Check: a program of some codes. What tso.New lays,step by step: a machine without codes,with some,with all. No walk. The walk of tso.New. -/
import Derived.Test.YtcnmhgblbikfkaaGreatDoorTrB
import Derived.Test.YtcnmhgblbikfkaaGreatDoorGk
import Derived.Test.YtcnmhgblbikfkaaGreatDoorGf
import Derived.Deep.DeepCutAuto
import Derived.Deep.LoopGhost
import Derived.Deep.OwnRows
section
set_option linter.unusedVariables false
set_option linter.unusedSimpArgs false
set_option maxRecDepth 20000
namespace Go.Proofs.YtcnmhgblbikfkaaGreatDoor.As.T
open Go.RowKit

def CdP(w:World)(gcs:Nat)(codes:List (List Ins)):Prop:=∀ (t:Nat) L,codes[t]? = some L→∃ g cap,w.cell? ⟨gcs,t,none⟩=some (.slice (some ⟨g,0,none⟩) L.length cap)∧FlatB w g L∧L.length≤cap
theorem rd_flat{w:World}{g cap:Nat}{L:List Ins}(h:FlatB w g L)(hc:L.length≤cap):Rd w 5 (.slice (some ⟨g,0,none⟩) L.length cap) L.length (flat L):=
 ⟨_,_,rfl,hc,by rw [flat_len],.inr ⟨g,0,rfl,h.1,fun j u hu=>by rw [Nat.zero_add];exact h.2 j u hu⟩⟩
theorem CdP.below{w w':World}{gcs:Nat}{codes:List (List Ins)}(h:CdP w gcs codes)(hb:Below w.heap.size w w'):CdP w' gcs codes:=fun t L hL=>by
 obtain⟨g,cap,h1,h2⟩:=h t L hL
 exact⟨g,cap,(Below.cell hb (block_lt_of_cell h1)).trans h1,h2.1.only (Only.of_below (F:=fun _=>False) hb (Nat.le_refl _)) (fun e=>e),h2.2⟩
theorem FlatB.five{w:World}{g:Nat}{L:List Ins}(h:FlatB w g L){i:Nat}{x:Ins}(hx:L[i]? = some x):w.cell? ⟨g,i*5,none⟩=some (.int .i64 x.op)∧w.cell? ⟨g,i*5+1,none⟩=some (.int .i64 x.a)∧w.cell? ⟨g,i*5+2,none⟩=some (.int .i64 x.b)∧w.cell? ⟨g,i*5+3,none⟩=some (.int .i64 x.c)∧w.cell? ⟨g,i*5+4,none⟩=some (.int .u32 x.k):=by
 have q:=fun j hj=>flat_get L i x hx j hj
 exact⟨h.2 _ _ (q 0 (by decide)),h.2 _ _ (q 1 (by decide)),h.2 _ _ (q 2 (by decide)),h.2 _ _ (q 3 (by decide)),h.2 _ _ (q 4 (by decide))⟩
set_option maxHeartbeats 8000000 in
theorem check_ts(w:World)(TI:TabI w)(gcs ccap room ml mc:Nat)(ma:Option Addr)(codes:List (List Ins))(hC:CdP w gcs codes)(h0:0 < codes.length)(h8:codes.length≤8)(hm:ml≤1024)(hr0:0 < room)(hr:room≤16)(hok:∀ L∈codes,L.length≤4000∧∀ x∈L,rightI x L.length=true):
  Calls Tryz.prog 53 #[.agg #[.slice (some ⟨gcs,0,none⟩) codes.length ccap,.slice ma ml mc,.int .i64 room]] w fun e w'=>e=.returned (.tuple #[.int .i64 0,.int .i64 0,.int .i64 0])∧Below w.heap.size w w':=by
 obtain⟨T,hT⟩:∃ T,codes.length=T:=⟨_,rfl⟩
 rw [hT]
 have a1:((T:Int) < 1)=False:=by simp;omega
 have a2:((8:Int) < (T:Int))=False:=by simp;omega
 have a3:((room:Int) < 1)=False:=by simp;omega
 have a4:((16:Int) < (room:Int))=False:=by simp;omega
 have a5:((1024:Int) < (ml:Int))=False:=by simp;omega
 have HC:=Lib.hid hC
 have HTI:=Lib.hid TI
 have HOK:=Lib.hid hok
 have HT:=Lib.hid hT
 clear hC TI hok hT h0 h8
 go_enter Tryz.func53,Tryz.ntmps53
 go_wp2_with fail
 go_loopg [36] T (fun g iv wr=>∃ (i:Nat),i+g=T∧iv=.int .i64 i∧Hid (Below w.heap.size w wr))
 case atStart=>exact⟨0,by omega,rfl,Lib.hid ((Below.refl _ w).alloc (Nat.le_refl _) _)⟩
 case round=>
  obtain⟨i,hi,rfl,HR⟩:=hrel
  obtain⟨wo,hwo⟩:∃ x,x=wr:=⟨_,rfl⟩
  subst hwo
  by_cases hlt:i < T
  ·obtain⟨g',rfl⟩:∃ g',gk=g'+1:=⟨gk - 1,by omega⟩
   have hil:(i:Int) < (T:Int):=by omega
   have hwr:wrap64 ((i:Int)+1)=(i:Int)+1:=by have:=HT.out;unfold wrap64;simp at a2;omega
   obtain⟨L,hL⟩:∃ L,codes[i]? = some L:=⟨_,List.getElem?_eq_getElem (by rw [HT.out];exact hlt)⟩
   obtain⟨g,cap,c1,c2,_⟩:=(HC.out.below (HR.out.mono (Nat.le_refl _))) i L hL
   obtain⟨l1,l2⟩:=HOK.out L (List.mem_of_getElem? hL)
   obtain⟨N,hN⟩:∃ N,L.length=N:=⟨_,rfl⟩
   have hN1:(N:Int)≤1000000:=by omega
   have hN0:(0:Int)≤(N:Int):=by omega
   have b1:((4000:Int) < (N:Int))=False:=by simp;omega
   have HN1:=Lib.hid hN1
   have HN0:=Lib.hid hN0
   clear hN1 hN0
   rw [hN] at c1
   have HF:=Lib.hid c2
   have HL2:=Lib.hid l2
   have HN:=Lib.hid hN
   clear c2 l2 hL hN
   go_wp2_with fail
   go_loopg [47] N (fun g2 nv wq=>∃ (n:Nat),n+g2=N∧nv=.int .i64 n∧Hid (Below wo.heap.size wo wq))
   case atStart=>exact⟨0,by omega,rfl,Lib.hid (Below.refl _ _)⟩
   case round=>
    obtain⟨n,hn,rfl,HQ⟩:=hrel
    obtain⟨wi,hwi⟩:∃ x,x=wr:=⟨_,rfl⟩
    subst hwi
    by_cases hln:n < N
    ·obtain⟨g2,rfl⟩:∃ g2,gk=g2+1:=⟨gk - 1,by omega⟩
     have hnl:(n:Int) < (N:Int):=by omega
     have hwn:wrap64 ((n:Int)+1)=(n:Int)+1:=by simp at b1;unfold wrap64;omega
     obtain⟨x,hx⟩:∃ x,L[n]? = some x:=⟨_,List.getElem?_eq_getElem (by rw [HN.out];exact hln)⟩
     obtain⟨c0,c1,c2,c3,c4⟩:=(HF.out.only (Only.of_below (F:=fun _=>False) HQ.out (Nat.le_refl _)) (fun e=>e)).five hx
     have hri:=HL2.out x (List.mem_of_getElem? hx)
     rw [HN.out] at hri
     have hright:∀ X,Calls Tryz.prog 92 #[.agg #[.int .i64 x.op,.int .i64 x.a,.int .i64 x.b,.int .i64 x.c,.int .u32 x.k],.int .i64 N] (wi.alloc X) fun e w'=>e=.returned (.bool true)∧Below (wi.alloc X).heap.size (wi.alloc X) w':=fun X=>right_isa _ ((HTI.out.below HR.out (Nat.le_refl _)).only (Only.of_below (F:=fun _=>False) (HQ.out.alloc HQ.out.size X) (Nat.le_refl _)) (fun _ e=>e.elim)) x N HN0.out HN1.out hri
     have HRT:=Lib.hid hright
     clear hright hri hx
     go_wp2_with (go_at_call 92;refine (HRT.out _).mono ?_;rintro r w5 ⟨rfl,hb5⟩)
     go_roundg g2
     case rel=>exact⟨n+1,by omega,by first | (simp;done) | (simp;exact hwn),Lib.hid ((HQ.out.alloc HQ.out.size _).trans (hb5.mono (by have:=HQ.out.size;simp;omega)))⟩
     case measure=>omega
    ·have hnl:¬((n:Int) < (N:Int)):=by omega
     go_wp2_with fail
     go_roundg g'
     case rel=>exact⟨i+1,by omega,by first | (simp;done) | (simp;exact hwr),Lib.hid (HR.out.trans (HQ.out.mono HR.out.size))⟩
     case measure=>omega
  ·have hil:¬((i:Int) < (T:Int)):=by omega
   go_wp2_with fail
   refine bodyPost_ret (results_tmp3 rfl _ _ _) rfl ?_
   exact⟨rfl,HR.out⟩
end Go.Proofs.YtcnmhgblbikfkaaGreatDoor.As.T
end

section
set_option linter.unusedVariables false
set_option linter.unusedSimpArgs false
set_option maxRecDepth 20000
namespace Go.Proofs.YtcnmhgblbikfkaaGreatDoor.As.T
open Go.RowKit

def TyB(W:World)(k:Nat)(t:TypeId):Prop:=∃ arr,W.heap[k]? = some (.cells arr t (0,0))
theorem TyB.lt{W:World}{k:Nat}{t:TypeId}(h:TyB W k t):k < W.heap.size:=by obtain⟨_,h⟩:=h;exact (Array.getElem?_eq_some_iff.1 h).1
theorem TyB.ne{W:World}{k k':Nat}{t t':TypeId}(h:TyB W k t)(h':TyB W k' t')(hn:t≠t'):k≠k':=by
 intro e
 subst e
 obtain⟨a,h⟩:=h
 obtain⟨b,h'⟩:=h'
 rw [h] at h'
 injection h' with h'
 injection h' with _ h' _
 exact hn h'
theorem ty_own{W:World}{b s n k:Nat}{e:TypeId}{v:Value}{xs:List Value}(h:W.ownsRow b e s v n xs)(hk:v.ownBlock=some k):TyB W k e:=by
 rcases h.2 with⟨e2,_⟩ | ⟨g,cap,cur,e2,_,hh,_⟩
 ·rw [e2] at hk;simp [Value.ownBlock] at hk
 ·rw [e2] at hk
  have:=own_eq hk
  subst this
  exact⟨cur,hh⟩
theorem TyB.only{F:Nat→Prop}{W W':World}{k:Nat}{t:TypeId}(h:TyB W k t)(ho:Only F W W')(hF:¬F k):TyB W' k t:=by
 obtain⟨a,hh⟩:=h
 exact⟨a,(ho.block k (Array.getElem?_eq_some_iff.1 hh).1 hF).trans hh⟩
structure NwW(w W:World)(gm tb mm mc room T:Nat)(mem:List Int)(codes:List (List Ins))(cv bv:Value)(ic ib:Nat):Prop where
 hm:W.heap[gm]? = some (.cells #[cv,.slice (some ⟨tb,0,none⟩) T T,bv,.slice (some ⟨mm,0,none⟩) mem.length mc,.slice none 0 0,.slice none 0 0] 122 (0,0))
 gmle:w.heap.size≤gm
 ht:W.heap[tb]? = some (.cells (madeCells zTh.toArray (T*10)) 79 (0,0))
 tble:w.heap.size≤tb
 hmem:W.ownsRow w.heap.size 25 1 (.slice (some ⟨mm,0,none⟩) mem.length mc) mem.length (w32 mem)
 hcs:∃ (g:Nat→Nat) (cap:Nat→Nat),W.ownsRow w.heap.size 29 1 cv ic ((List.range ic).map fun t=>.slice (some ⟨g t,0,none⟩) (codes.getD t []).length (cap t))∧∀ t,t < ic→FlatB W (g t) (codes.getD t [])∧w.heap.size≤g t∧TyB W (g t) 132
 hbs:∃ bs:List (Array Value),bs.length=ib∧(∀ c∈bs,BufIs c room [])∧W.ownsRow w.heap.size 127 35 bv ib (bs.flatMap Array.toList)
 bel:Below w.heap.size w W
section
variable{w W W0 W1 W2:World}{gm tb mm mc room T ic ib:Nat}{mem:List Int}{codes:List (List Ins)}{cv bv:Value}
theorem NwW.only{F:Nat→Prop}(h:NwW w W gm tb mm mc room T mem codes cv bv ic ib)(ho:Only F W W1)(hF:∀ k,F k→W.heap.size≤k):NwW w W1 gm tb mm mc room T mem codes cv bv ic ib:=by
 obtain⟨h1,h2,h3,h4,h5,⟨g,cap,h6,h7⟩,⟨bs,h8,h9,h10⟩,h11⟩:=h
 have lt:∀ {k:Nat} {o:Obj},W.heap[k]? = some o→W1.heap[k]? = some o:=fun hk=>(ho.block _ (Array.getElem?_eq_some_iff.1 hk).1 (fun e=>by have:=hF _ e;have:=(Array.getElem?_eq_some_iff.1 hk).1;omega)).trans hk
 have own:∀ {b s n:Nat} {e:TypeId} {v:Value} {xs:List Value},W.ownsRow b e s v n xs→W1.ownsRow b e s v n xs:=fun hr=>own_only hr ho (fun k e f=>by have:=hF k f;have:=(hr.lt k e).2;omega)
 refine⟨lt h1,h2,lt h3,h4,own h5,⟨g,cap,own h6,fun t ht=>?_⟩,⟨bs,h8,h9,own h10⟩,h11.trans (ho.below h11.size (fun k e=>by have:=hF k e;have:=h11.size;omega))⟩
 obtain⟨a,b,c⟩:=h7 t ht
 exact⟨a.only ho (fun e=>by have:=hF _ e;have:=a.1;omega),b,c.only ho (fun e=>by have:=hF _ e;have:=c.lt;omega)⟩
theorem NwW.code{gc pc g7 p7:Nat}(h:NwW w W gm tb mm mc room T mem codes cv bv ic ib)(hF:FlatB W gc (codes.getD ic []))(hgc:w.heap.size≤gc)(hty:TyB W gc 132)(h1:Only (fun _=>False) W W1)
  (hgr:W1.grownBy W2 cv.ownBlock) (hat:cv.ownBlock=some g7∨g7=W1.heap.size) (gg cp:Nat→Nat) (hco:W.ownsRow w.heap.size 29 1 cv ic ((List.range ic).map fun t=>.slice (some ⟨gg t,0,none⟩) (codes.getD t []).length (cp t))) (hcf:∀ t,t < ic→FlatB W (gg t) (codes.getD t [])∧w.heap.size≤gg t∧TyB W (gg t) 132)
  (ho7:W2.ownsRow w.heap.size 29 1 (.slice (some ⟨g7,0,none⟩) (ic+1) p7) (ic+1) (((List.range ic).map fun t=>.slice (some ⟨gg t,0,none⟩) (codes.getD t []).length (cp t))++[.slice (some ⟨gc,0,none⟩) (codes.getD ic []).length pc])):
  NwW w (W2.setCell ⟨gm,0,none⟩ (.slice (some ⟨g7,0,none⟩) (ic+1) p7)) gm tb mm mc room T mem codes (.slice (some ⟨g7,0,none⟩) (ic+1) p7) bv (ic+1) ib∧W2.cell? ⟨gm,0,none⟩=some cv∧W2.frozen? ⟨gm,0,none⟩=false∧∀ (k:Nat) (o:Array Value) (t:TypeId),W.heap[k]? = some (Obj.cells o t (0,0))→t≠122→t≠29→(W2.setCell ⟨gm,0,none⟩ (.slice (some ⟨g7,0,none⟩) (ic+1) p7)).heap[k]? = some (Obj.cells o t (0,0)):=by
 obtain⟨e1,e2,e3,e4,e5,_,⟨bs,e8,e9,e10⟩,e11⟩:=h
 have tcv:∀ k,cv.ownBlock=some k→TyB W k 29:=fun k e=>ty_own hco e
 have ngm:cv.ownBlock≠some gm:=fun e=>TyB.ne (tcv gm e) ⟨_,e1⟩ (by decide) rfl
 have hO2:Only (fun k=>cv.ownBlock=some k) W W2:=by
  refine⟨hgr.os.trans h1.os,hgr.tape.trans h1.tape,hgr.output.trans h1.output,Nat.le_trans h1.size hgr.size,fun k hk hn=>?_⟩
  exact (hgr.block k (Nat.lt_of_lt_of_le hk h1.size) (fun e=>hn e.symm)).trans (h1.block k hk (fun e=>e))
 have hO3:Only (fun k=>k=gm) W2 (W2.setCell ⟨gm,0,none⟩ (.slice (some ⟨g7,0,none⟩) (ic+1) p7)):=Only.set1 (F:=fun k=>k=gm) (p:=⟨gm,0,none⟩) (Only.refl _ _) rfl _
 have hO:Only (fun k=>k=gm∨cv.ownBlock=some k) W (W2.setCell ⟨gm,0,none⟩ (.slice (some ⟨g7,0,none⟩) (ic+1) p7)):=by
  refine⟨hO3.os.trans hO2.os,hO3.tape.trans hO2.tape,hO3.output.trans hO2.output,Nat.le_trans hO2.size hO3.size,fun k hk hn=>?_⟩
  exact (hO3.block k (Nat.lt_of_lt_of_le hk hO2.size) (fun e=>hn (.inl e))).trans (hO2.block k hk (fun e=>hn (.inr e)))
 have em:W2.heap[gm]? = some (.cells #[cv,.slice (some ⟨tb,0,none⟩) T T,bv,.slice (some ⟨mm,0,none⟩) mem.length mc,.slice none 0 0,.slice none 0 0] 122 (0,0)):=(hO2.block gm (Array.getElem?_eq_some_iff.1 e1).1 ngm).trans e1
 have off:∀ {k:Nat} {t:TypeId},TyB W k t→t≠122→t≠29→¬(k=gm∨cv.ownBlock=some k):=fun hk n1 n2 e=>by
  rcases e with e | e
  ·exact TyB.ne hk ⟨_,e1⟩ n1 e
  ·exact TyB.ne hk (tcv _ e) n2 rfl
 have hg7:g7≠gm:=by
  rcases hat with e | e
  ·intro q;subst q;exact ngm e
  ·have:=(Array.getElem?_eq_some_iff.1 e1).1;have:=h1.size;omega
 have hfr:∀ k,TyB W k 132→(∃ a,W.heap[k]? = some a):=fun k ⟨a,h⟩=>⟨_,h⟩
 refine⟨⟨?_,e2,?_,e4,own_only e5 hO (fun k e f=>off (ty_own e5 e) (by decide) (by decide) f),⟨fun t=>if t=ic then gc else gg t,fun t=>if t=ic then pc else cp t,?_,fun t ht=>?_⟩,⟨bs,e8,e9,own_only e10 hO (fun k e f=>off (ty_own e10 e) (by decide) (by decide) f)⟩,?_⟩,cell_of_row _ _ 0 _ _ _ em,frozen_of_row _ _ _ _ _ em,fun k o t hk n1 n2=>(hO.block k (Array.getElem?_eq_some_iff.1 hk).1 (off ⟨_,hk⟩ n1 n2)).trans hk⟩
 ·exact (heap_setCell_same _ gm 0 _ _ _ em).trans (by simp)
 ·exact (hO.block tb (Array.getElem?_eq_some_iff.1 e3).1 (off ⟨_,e3⟩ (by decide) (by decide))).trans e3
 ·have hlist:((List.range (ic+1)).map fun t=>Value.slice (some ⟨if t=ic then gc else gg t,0,none⟩) (codes.getD t []).length (if t=ic then pc else cp t))=((List.range ic).map fun t=>.slice (some ⟨gg t,0,none⟩) (codes.getD t []).length (cp t))++[.slice (some ⟨gc,0,none⟩) (codes.getD ic []).length pc]:=by
   rw [List.range_succ,List.map_append]
   congr 1
   ·refine List.map_congr_left (fun t ht=>?_)
    have:=List.mem_range.1 ht
    rw [if_neg (by omega),if_neg (by omega)]
   ·simp
  rw [hlist]
  exact own_only ho7 hO3 (fun k e fk=>by subst fk;exact hg7 (own_eq e))
 ·by_cases e:t=ic
  ·subst e
   dsimp only
   rw [if_pos rfl]
   exact⟨hF.only hO (off hty (by decide) (by decide)),hgc,hty.only hO (off hty (by decide) (by decide))⟩
  ·dsimp only
   rw [if_neg e]
   obtain⟨a,b,c⟩:=hcf t (by omega)
   exact⟨a.only hO (off c (by decide) (by decide)),b,c.only hO (off c (by decide) (by decide))⟩
 ·exact e11.trans (hO.below e11.size (fun k e=>by
   rcases e with e | e
   ·omega
   ·exact (hco.lt k e).1))
theorem NwW.buf{g7 p7:Nat}{cs:Array Value}(h:NwW w W gm tb mm mc room T mem codes cv bv ic ib)(hB:BufIs cs room [])(h1:Only (fun _=>False) W W1)
  (hgr:W1.grownBy W2 bv.ownBlock) (hat:bv.ownBlock=some g7∨g7=W1.heap.size) (bs:List (Array Value)) (hl:bs.length=ib) (hbs:∀ c∈bs,BufIs c room []) (hco:W.ownsRow w.heap.size 127 35 bv ib (bs.flatMap Array.toList))
  (ho7:W2.ownsRow w.heap.size 127 35 (.slice (some ⟨g7,0,none⟩) (ib+1) p7) (ib+1) (bs.flatMap Array.toList++cs.toList)):
  NwW w (W2.setCell ⟨gm,2,none⟩ (.slice (some ⟨g7,0,none⟩) (ib+1) p7)) gm tb mm mc room T mem codes cv (.slice (some ⟨g7,0,none⟩) (ib+1) p7) ic (ib+1)∧W2.cell? ⟨gm,2,none⟩=some bv∧W2.frozen? ⟨gm,2,none⟩=false:=by
 obtain⟨e1,e2,e3,e4,e5,⟨gg,cp,e6,e7⟩,_,e11⟩:=h
 have tbv:∀ k,bv.ownBlock=some k→TyB W k 127:=fun k e=>ty_own hco e
 have ngm:bv.ownBlock≠some gm:=fun e=>TyB.ne (tbv gm e) ⟨_,e1⟩ (by decide) rfl
 have hO2:Only (fun k=>bv.ownBlock=some k) W W2:=by
  refine⟨hgr.os.trans h1.os,hgr.tape.trans h1.tape,hgr.output.trans h1.output,Nat.le_trans h1.size hgr.size,fun k hk hn=>?_⟩
  exact (hgr.block k (Nat.lt_of_lt_of_le hk h1.size) (fun e=>hn e.symm)).trans (h1.block k hk (fun e=>e))
 have hO3:Only (fun k=>k=gm) W2 (W2.setCell ⟨gm,2,none⟩ (.slice (some ⟨g7,0,none⟩) (ib+1) p7)):=Only.set1 (F:=fun k=>k=gm) (p:=⟨gm,2,none⟩) (Only.refl _ _) rfl _
 have hO:Only (fun k=>k=gm∨bv.ownBlock=some k) W (W2.setCell ⟨gm,2,none⟩ (.slice (some ⟨g7,0,none⟩) (ib+1) p7)):=by
  refine⟨hO3.os.trans hO2.os,hO3.tape.trans hO2.tape,hO3.output.trans hO2.output,Nat.le_trans hO2.size hO3.size,fun k hk hn=>?_⟩
  exact (hO3.block k (Nat.lt_of_lt_of_le hk hO2.size) (fun e=>hn (.inl e))).trans (hO2.block k hk (fun e=>hn (.inr e)))
 have em:W2.heap[gm]? = some (.cells #[cv,.slice (some ⟨tb,0,none⟩) T T,bv,.slice (some ⟨mm,0,none⟩) mem.length mc,.slice none 0 0,.slice none 0 0] 122 (0,0)):=(hO2.block gm (Array.getElem?_eq_some_iff.1 e1).1 ngm).trans e1
 have off:∀ {k:Nat} {t:TypeId},TyB W k t→t≠122→t≠127→¬(k=gm∨bv.ownBlock=some k):=fun hk n1 n2 e=>by
  rcases e with e | e
  ·exact TyB.ne hk ⟨_,e1⟩ n1 e
  ·exact TyB.ne hk (tbv _ e) n2 rfl
 have hg7:g7≠gm:=by
  rcases hat with e | e
  ·intro q;subst q;exact ngm e
  ·have:=(Array.getElem?_eq_some_iff.1 e1).1;have:=h1.size;omega
 refine⟨⟨?_,e2,?_,e4,own_only e5 hO (fun k e f=>off (ty_own e5 e) (by decide) (by decide) f),⟨gg,cp,own_only e6 hO (fun k e f=>off (ty_own e6 e) (by decide) (by decide) f),fun t ht=>?_⟩,⟨bs++[cs],by simp [hl],fun c hc=>?_,?_⟩,?_⟩,cell_of_row _ _ 2 _ _ _ em,frozen_of_row _ _ _ _ _ em⟩
 ·exact (heap_setCell_same _ gm 2 _ _ _ em).trans (by simp)
 ·exact (hO.block tb (Array.getElem?_eq_some_iff.1 e3).1 (off ⟨_,e3⟩ (by decide) (by decide))).trans e3
 ·obtain⟨a,b,c⟩:=e7 t ht
  exact⟨a.only hO (off c (by decide) (by decide)),b,c.only hO (off c (by decide) (by decide))⟩
 ·rcases List.mem_append.1 hc with hc | hc
  ·exact hbs c hc
  ·rw [List.mem_singleton.1 hc];exact hB
 ·rw [List.flatMap_append]
  simp only [List.flatMap_cons,List.flatMap_nil,List.append_nil]
  exact own_only ho7 hO3 (fun k e fk=>by subst fk;exact hg7 (own_eq e))
 ·exact e11.trans (hO.below e11.size (fun k e=>by
   rcases e with e | e
   ·omega
   ·exact (hco.lt k e).1))
end
def th0:Th:=⟨0,[0,0,0,0,0,0,0,0],0⟩
def ts0(mem:List Int)(room T:Nat):Ts:=⟨mem,[],List.replicate T [],room,List.replicate T th0,[]⟩
theorem made_at(T j i:Nat)(hj:j < T)(u:Value)(hu:th0.cells[i]? = some u):(madeCells zTh.toArray (T*10))[j*10+i]? = some u:=by
 have hi:i < 10:=(List.getElem?_eq_some_iff.1 hu).1
 have hs:(madeCells zTh.toArray (T*10)).size=T*10:=size_madeCells _ _
 rw [Array.getElem?_eq_getElem (by rw [hs];omega)]
 unfold madeCells
 simp only [Array.getElem_map,Array.getElem_range]
 have e:(j*10+i) % zTh.toArray.size=i:=by
  show (j*10+i) % 10=i
  omega
 rw [e]
 have:th0.cells=zTh:=rfl
 rw [this] at hu
 rw [←hu]
 have h10:i < zTh.toArray.size:=hi
 rw [getElem!_pos zTh.toArray i h10]
 rw [List.getElem_toArray,List.getElem?_eq_getElem (show i < zTh.length from hi)]
theorem flat35{bs:List (Array Value)}{room:Nat}(h:∀ c∈bs,BufIs c room []):∀ {j:Nat} {c:Array Value},bs[j]? = some c→∀ i u,c[i]? = some u→(bs.flatMap Array.toList)[j*35+i]? = some u:=by
 induction bs with
 | nil=>intro j c hj;simp at hj
 | cons a l ih=>
  intro j c hj i u hu
  have ha:a.toList.length=35:=by rw [Array.length_toList];exact (h a (by simp)).1
  rw [List.flatMap_cons]
  cases j with
  | zero=>
   simp only [List.getElem?_cons_zero,Option.some.injEq] at hj
   subst hj
   rw [Nat.zero_mul,Nat.zero_add,List.getElem?_append_left (by rw [Array.length_toList];exact (Array.getElem?_eq_some_iff.1 hu).1)]
   simpa using hu
  | succ j=>
   rw [List.getElem?_append_right (by omega),ha,show (j+1)*35+i - 35=j*35+i by omega]
   exact ih (fun c hc=>h c (by simp [hc])) (by simpa using hj) i u hu
theorem NwW.done{w W:World}{gm tb mm mc room T:Nat}{mem:List Int}{codes:List (List Ins)}{cv bv:Value}(h:NwW w W gm tb mm mc room T mem codes cv bv T T)(hT:codes.length=T)(hT0:0 < T)(hr:1≤room∧room≤16)(TI:TabI w):
  ∃ (Z:Nat→Prop) (K:TsK),K.mb=gm∧Mch Z W K codes (ts0 mem room T)∧(∀ k,k < w.heap.size→Z k)∧K.b0=w.heap.size∧mem.length≤K.mc:=by
 obtain⟨e1,e2,e3,e4,e5,⟨gg,cp,e6,e7⟩,⟨bs,e8,e9,e10⟩,e11⟩:=h
 obtain⟨cb,ccap,rfl⟩:=own_form e6 hT0
 obtain⟨bb,bcap,rfl⟩:=own_form e10 hT0
 have tcv:=ty_own e6 (show (Value.slice (some ⟨cb,0,none⟩) T ccap).ownBlock=some cb from rfl)
 have tbv:=ty_own e10 (show (Value.slice (some ⟨bb,0,none⟩) T bcap).ownBlock=some bb from rfl)
 have tmm:=ty_own e5 (show (Value.slice (some ⟨mm,0,none⟩) mem.length mc).ownBlock=some mm from rfl)
 have tgm:TyB W gm 122:=⟨_,e1⟩
 have ttb:TyB W tb 79:=⟨_,e3⟩
 obtain⟨marr,hm1,hm2⟩:∃ marr,W.heap[mm]? = some (.cells marr 25 (0,0))∧∀ (j:Nat) v,mem[j]? = some v→marr[j]? = some (.int .u32 v):=by
  rcases e5.2 with⟨e,_⟩ | ⟨g',cap',cur,e,_,hh,hcc,_,hsz,ht⟩
  ·cases e
  ·injection e with e _ _
   injection e with e
   injection e with e _
   subst e
   refine⟨cur,hh,fun j v hv=>?_⟩
   have hj:j < mem.length:=(List.getElem?_eq_some_iff.1 hv).1
   have e5:(cur.toList.take (mem.length*1))[j]? = some (.int .u32 v):=by
    rw [ht];simp [w32,hv]
   rw [List.getElem?_take,if_pos (by omega)] at e5
   simpa using e5
 have hmc:mem.length≤mc:=by
  rcases e5.2 with⟨e,_⟩ | ⟨g',cap',cur,e,_,hh,hcc,_,hsz,ht⟩
  ·cases e
  ·injection e with _ _ e
   omega
 obtain⟨barr,hb1,hb2⟩:∃ barr,W.heap[bb]? = some (.cells barr 127 (0,0))∧∀ (j:Nat) c,bs[j]? = some c→∀ i u,c[i]? = some u→barr[j*35+i]? = some u:=by
  rcases e10.2 with⟨e,_⟩ | ⟨g',cap',cur,e,_,hh,hcc,_,hsz,ht⟩
  ·cases e
  ·injection e with e _ _
   injection e with e
   injection e with e _
   subst e
   refine⟨cur,hh,fun j c hj i u hu=>?_⟩
   have h1:=flat35 e9 hj i u hu
   have hlt:=(List.getElem?_eq_some_iff.1 h1).1
   rw [←ht] at h1
   rw [List.getElem?_take] at h1
   split at h1
   ·simpa using h1
   ·cases h1
 refine⟨fun k=>k < w.heap.size∨k=cb∨∃ t,t < T∧k=gg t,⟨gm,mm,tb,bb,mc,T,bcap,w.heap.size,.slice (some ⟨cb,0,none⟩) T ccap⟩,rfl,⟨?_,TI.below e11 (Nat.le_refl _),?_,?_⟩,fun k hk=>.inl hk,rfl,hmc⟩
 ·refine⟨fun k hk=>?_,e11.size,by simp [ts0],hr.1,hr.2,.slice none 0 0,.slice none 0 0,marr,madeCells zTh.toArray (T*10),barr,⟨?_,hm1,hm2,e3,fun j th hj=>?_,hb1,fun j q hj=>?_,World.ownsRow_nil _ _ _ _,World.ownsRow_nil _ _ _ _⟩,?_,fun k hk hf=>?_⟩
  ·rcases hk with hk | hk | ⟨t,ht,hk⟩
   ·have:=e11.size;omega
   ·rw [hk];exact tcv.lt
   ·rw [hk];exact (e7 t ht).2.2.lt
  ·show W.heap[gm]? = _
   rw [e1]
   simp [ts0]
  ·have hj2:(List.replicate T th0)[j]? = some th:=hj
   rw [List.getElem?_replicate] at hj2
   split at hj2
   ·injection hj2 with hj2
    subst hj2
    exact⟨rfl,fun i u hu=>made_at T j i (by assumption) u hu⟩
   ·cases hj2
  ·have hj2:(List.replicate T ([]:List (Nat×Int)))[j]? = some q:=hj
   rw [List.getElem?_replicate] at hj2
   split at hj2
   ·injection hj2 with hj2
    subst hj2
    obtain⟨c,hc⟩:∃ c,bs[j]? = some c:=⟨_,List.getElem?_eq_getElem (by rw [e8];assumption)⟩
    exact⟨c,e9 c (List.mem_of_getElem? hc),hb2 j c hc⟩
   ·cases hj2
  ·exact⟨TyB.ne tgm tmm (by decide),TyB.ne tgm ttb (by decide),TyB.ne tgm tbv (by decide),TyB.ne tmm ttb (by decide),TyB.ne tmm tbv (by decide),TyB.ne ttb tbv (by decide),fun k e=>by simp [Value.ownBlock] at e,fun k e=>by simp [Value.ownBlock] at e⟩
  ·have hge:w.heap.size≤k:=by
    rcases hf with e | e | e | e | e | e
    ·rw [e];exact e2
    ·rw [e];exact (e5.lt mm rfl).1
    ·rw [e];exact e4
    ·rw [e];exact (e10.lt bb rfl).1
    ·simp [Value.ownBlock] at e
    ·simp [Value.ownBlock] at e
   have hty:TyB W k 122∨TyB W k 25∨TyB W k 79∨TyB W k 127:=by
    rcases hf with e | e | e | e | e | e
    ·rw [e];exact .inl tgm
    ·rw [e];exact .inr (.inl tmm)
    ·rw [e];exact .inr (.inr (.inl ttb))
    ·rw [e];exact .inr (.inr (.inr tbv))
    ·simp [Value.ownBlock] at e
    ·simp [Value.ownBlock] at e
   have hty2:TyB W k 29∨TyB W k 132:=by
    rcases hk with hk | hk | ⟨t,ht,hk⟩
    ·omega
    ·rw [hk];exact .inl tcv
    ·rw [hk];exact .inr (e7 t ht).2.2
   rcases hty with a | a | a | a<;>rcases hty2 with b | b<;>exact TyB.ne a b (by decide) rfl
 ·refine⟨cb,ccap,by rw [hT],.inr (.inl rfl),fun t L hL=>?_⟩
  have ht:t < T:=by rw [←hT];exact (List.getElem?_eq_some_iff.1 hL).1
  have hgd:codes.getD t []=L:=by rw [List.getD_eq_getElem?_getD,hL];rfl
  obtain⟨a,b,c⟩:=e7 t ht
  rw [hgd] at a
  refine⟨gg t,cp t,?_,.inr (.inr ⟨t,ht,rfl⟩),a.1,fun i x hx j u hu=>?_⟩
  ·have:=e6.cells (g:=cb) rfl t (.slice (some ⟨gg t,0,none⟩) L.length (cp t)) (by rw [List.getElem?_map,List.getElem?_range ht];exact congrArg (fun l=>some (Value.slice (some ⟨gg t,0,none⟩) (List.length l) (cp t))) hgd)
   rwa [add_at,Nat.zero_add] at this
  ·have hj:j < 5:=(List.getElem?_eq_some_iff.1 hu).1
   exact a.2 (i*5+j) u ((flat_get L i x hx j hj).trans hu)
 ·intro k hk
  exact TI.new (by
   rcases Nat.lt_or_ge k w.heap.size with h | h
   ·exact absurd (.inl h) hk
   ·exact h)
end Go.Proofs.YtcnmhgblbikfkaaGreatDoor.As.T
end

section
set_option linter.unusedVariables false
set_option linter.unusedSimpArgs false
set_option maxRecDepth 20000
namespace Go.Proofs.YtcnmhgblbikfkaaGreatDoor.As.T
open Go.RowKit

theorem infoT:(Tryz.prog.info? 79).map (fun i=>(i.zero,i.size,i.bytes))=some (some (.agg zTh.toArray),10,48):=by kernel_rfl
theorem infoB2:(Tryz.prog.info? 127).map (fun i=>(i.zero,i.size,i.bytes))=some (some (.agg #[.int .i64 0,.int .u32 0,.int .i64 0,.int .u32 0,.int .i64 0,.int .u32 0,.int .i64 0,.int .u32 0,.int .i64 0,.int .u32 0,.int .i64 0,.int .u32 0,.int .i64 0,.int .u32 0,.int .i64 0,.int .u32 0,.int .i64 0,.int .u32 0,.int .i64 0,.int .u32 0,.int .i64 0,.int .u32 0,.int .i64 0,.int .u32 0,.int .i64 0,.int .u32 0,.int .i64 0,.int .u32 0,.int .i64 0,.int .u32 0,.int .i64 0,.int .u32 0,.int .i64 0,.int .i64 0,.int .i64 0]),35,280):=by kernel_rfl
theorem mk_threads(W:World)(T:Nat)(hT:T≤8):(Instr.makeSlice 75 (.int .i64 (T:Int)) (.int .i64 (T:Int))).run Tryz.prog W=.ok (.slice (some ⟨W.heap.size,0,none⟩) T T) (W.alloc (.cells (madeCells zTh.toArray (T*10)) 79)):=by
 obtain⟨i,hi,hz0,hz1,hz2⟩:=info_parts infoT
 have hb:(i.bytes:Int)*(T:Int)≤281474976710656:=by rw [hz2];omega
 have hr:=run_make (P := Tryz.prog) W 75 79 i _ Tryz.underlying75 hi hz0 .i64 .i64 T T (by omega) (Int.le_refl _) hb (by omega)
 simp only [Int.toNat_natCast,hz1] at hr
 exact hr
set_option maxHeartbeats 16000000 in
theorem new_ts(w:World)(TI:TabI w)(gcs ccap room mcap:Nat)(ma:Option Addr)(mem:List Int)(codes:List (List Ins))(hC:CdP w gcs codes)(hM:Rd w 1 (.slice ma mem.length mcap) mem.length (w32 mem))(h0:0 < codes.length)(h8:codes.length≤8)(hm0:0 < mem.length)(hm:mem.length≤1024)(hr0:0 < room)(hr:room≤16)(hok:∀ L∈codes,L.length≤4000∧∀ x∈L,rightI x L.length=true)(hne:∀ L∈codes,0 < L.length):
  Calls Tryz.prog 16 #[.agg #[.slice (some ⟨gcs,0,none⟩) codes.length ccap,.slice ma mem.length mcap,.int .i64 room]] w fun e w'=>∃ (Z:Nat→Prop) (K:TsK),e=.returned (.tuple #[.pointer (some ⟨K.mb,0,none⟩),.int .i64 0])∧Mch Z w' K codes (ts0 mem room codes.length)∧(∀ k,k < w.heap.size→Z k)∧Below w.heap.size w w'∧mem.length≤K.mc:=by
 obtain⟨T,hT⟩:∃ T,codes.length=T:=⟨_,rfl⟩
 have hck:=fun W (hW:Below w.heap.size w W)=>check_ts W (TI.below hW (Nat.le_refl _)) gcs ccap room mem.length mcap ma codes (hC.below hW) h0 h8 hm hr0 hr hok
 rw [hT] at hck h0 h8 ⊢
 have HC:=Lib.hid hC
 have HM:=Lib.hid hM
 have HTI:=Lib.hid TI
 have HT:=Lib.hid hT
 have HNE:=Lib.hid hne
 have HR0:=Lib.hid (And.intro hr0 hr)
 have HT0:=Lib.hid h0
 have HOK:=Lib.hid hok
 clear hC hM TI hT hne hr0 hr hok
 go_enter Tryz.func16,Tryz.ntmps16
 go_wp2_with fail
 refine (hck _ ((Below.refl _ w).alloc (Nat.le_refl _) _)).mono ?_
 rintro r w2 ⟨rfl,hb2⟩
 have hrow:w2.heap[w.heap.size]? = some (.cells #[.slice (some ⟨gcs,0,none⟩) T ccap,.slice ma mem.length mcap,.int .i64 room] 45 (0,0)):=(hb2.block _ (by simp)).trans (heap_alloc_new _ _)
 have hbw2:Below w.heap.size w w2:=((Below.refl _ w).alloc (Nat.le_refl _) _).trans (hb2.mono (by simp))
 have hlt2:=(Array.getElem?_eq_some_iff.1 hrow).1
 have x0:∀ W,Below w2.heap.size w2 W→W.cell? ⟨w.heap.size,0,none⟩=some (.slice (some ⟨gcs,0,none⟩) T ccap):=fun W hW=>cell_of_row _ _ 0 _ _ _ (up_bl hW hlt2 hrow)
 have x1:∀ W,Below w2.heap.size w2 W→W.cell? ⟨w.heap.size,1,none⟩=some (.slice ma mem.length mcap):=fun W hW=>cell_of_row _ _ 1 _ _ _ (up_bl hW hlt2 hrow)
 have x2:∀ W,Below w2.heap.size w2 W→W.cell? ⟨w.heap.size,2,none⟩=some (.int .i64 room):=fun W hW=>cell_of_row _ _ 2 _ _ _ (up_bl hW hlt2 hrow)
 have hmk:=fun W=>mk_threads W T h8
 have HB2:=Lib.hid hbw2
 have hcl:∀ W,Below w2.heap.size w2 W→Calls Tryz.prog 54 #[.slice ma mem.length mcap] W fun e w'=>∃ v',e=.returned v'∧w'.ownsRow W.heap.size 25 1 v' mem.length (w32 mem)∧Below W.heap.size W w':=fun W hW=>cloneW_any W _ _ _ (HM.out.below (hbw2.trans (hW.mono hbw2.size)) (Nat.le_refl _)) (by omega) (one_w32 _)
 have HCL:=Lib.hid hcl
 have HX:=Lib.hid (And.intro x0 (And.intro x1 x2))
 clear hck hb2 hrow hbw2 hlt2 hcl
 go_wp2_with fail
 go_cut [1,7] (fun v1 v7 wx=>v1=.pointer (some ⟨w.heap.size,0,none⟩)∧∃ gm tb mm mc:Nat,v7=.pointer (some ⟨gm,0,none⟩)∧Hid (NwW w2 wx gm tb mm mc room T mem codes (.slice none 0 0) (.slice none 0 0) 0 0))
 case first=>
  have b0:Below w2.heap.size w2 w2.drew:=bl_drw (Below.refl _ _)
  refine wp_region_g (fun W=>Below w2.heap.size w2 W) 9 (by kernel_rfl) ?_
  generalize w2.drew=wd at *
  refine AnyG_take (i:=0) (oi:=_) (v:=?_) rfl (by kernel_rfl) (fun _ _ _ h=>h) (Or.inl ⟨by rfl,?_⟩) b0 ?_
  rotate_left
  ·intro W hSw;(try dsimp only at hSw);go_simp;first | done | with_reducible rfl
  simp only [Act.put,List.getElem_toArray,List.getElem_cons_zero,List.getElem_cons_succ,List.setIfInBounds_toArray,List.set_cons_zero,List.set_cons_succ]
  refine AnyG_take (i:=1) (oi:=_) (v:=?_) rfl (by kernel_rfl) (fun _ _ _ h=>h) (Or.inl ⟨by rfl,?_⟩) b0 ?_
  rotate_left
  ·intro W hSw;(try dsimp only at hSw);go_simp;first | done | with_reducible rfl
  simp only [Act.put,List.getElem_toArray,List.getElem_cons_zero,List.getElem_cons_succ,List.setIfInBounds_toArray,List.set_cons_zero,List.set_cons_succ]
  refine AnyG_take (i:=3) (oi:=_) (v:=?_) rfl (by kernel_rfl) (fun _ _ _ h=>h) (Or.inl ⟨by rfl,?_⟩) b0 ?_
  rotate_left
  ·intro W hSw;(try dsimp only at hSw);go_simp;first | done | with_reducible rfl
  simp only [Act.put,List.getElem_toArray,List.getElem_cons_zero,List.getElem_cons_succ,List.setIfInBounds_toArray,List.set_cons_zero,List.set_cons_succ]
  refine AnyG_take (i:=4) (oi:=_) (v:=?_) rfl (by kernel_rfl) (fun _ _ _ h=>h) (Or.inl ⟨by rfl,?_⟩) b0 ?_
  rotate_left
  ·intro W hSw;(try dsimp only at hSw);go_simp;first | done | with_reducible rfl
  simp only [Act.put,List.getElem_toArray,List.getElem_cons_zero,List.getElem_cons_succ,List.setIfInBounds_toArray,List.set_cons_zero,List.set_cons_succ]
  refine AnyG_take (i:=5) (oi:=_) (v:=?_) rfl (by kernel_rfl) (fun _ _ _ h=>h) (Or.inl ⟨by rfl,?_⟩) b0 ?_
  rotate_left
  ·intro W hSw;(try dsimp only at hSw);go_simp;first | done | with_reducible rfl
  simp only [Act.put,List.getElem_toArray,List.getElem_cons_zero,List.getElem_cons_succ,List.setIfInBounds_toArray,List.set_cons_zero,List.set_cons_succ]
  refine AnyG_two (i:=2) (j:=6) (by kernel_rfl) ?_ ?_
  ·skip
   refine wpOp_of rfl rfl ?_
   try simp only [Act.put,List.getElem_toArray,List.getElem_cons_zero,List.getElem_cons_succ,List.setIfInBounds_toArray,List.set_cons_zero,List.set_cons_succ]
   go_simp
   refine (HCL.out wd b0).mono ?_
   rintro _ v1 ⟨v4,rfl,o4,c4⟩
   obtain⟨mm,mc,rfl⟩:=own_form o4 hm0
   have b1:Below w2.heap.size w2 v1:=Below.trans b0 (c4.mono (Below.size b0))
   have HO1:Hid (v1.ownsRow w2.heap.size 25 1 (.slice (some ⟨mm,0,none⟩) mem.length mc) mem.length (w32 mem)):=Lib.hid (own_mono o4 (Below.size b0))
   clear o4 c4
   refine⟨b1,?_⟩
   try simp only [Act.put,List.getElem_toArray,List.getElem_cons_zero,List.getElem_cons_succ,List.setIfInBounds_toArray,List.set_cons_zero,List.set_cons_succ]
   refine AnyG_one (i:=6) rfl (by kernel_rfl) ?_
   refine wpOp_of rfl rfl ?_
   try simp only [Act.put,List.getElem_toArray,List.getElem_cons_zero,List.getElem_cons_succ,List.setIfInBounds_toArray,List.set_cons_zero,List.set_cons_succ]
   go_simp
   obtain⟨v2,hv2⟩:∃ W,World.alloc v1 (.cells (madeCells zTh.toArray (T*10)) 79)=W:=⟨_,rfl⟩
   rw [hv2]
   have b2:Below w2.heap.size w2 v2:=by rw [←hv2];exact Below.alloc b1 (Below.size b1) _
   have HTB2:Hid (v2.heap[v1.heap.size]? = some (.cells (madeCells zTh.toArray (T*10)) 79 (0,0))∧w2.heap.size≤v1.heap.size):=Lib.hid ⟨by rw [←hv2];exact heap_alloc_new _ _,Below.size b1⟩
   have HO2:Hid (v2.ownsRow w2.heap.size 25 1 (.slice (some ⟨mm,0,none⟩) mem.length mc) mem.length (w32 mem)):=Lib.hid (by rw [←hv2];exact own_only HO1.out (on_al (F:=fun _=>False) _ _) (fun _ _ f=>f))
   clear hv2
   refine⟨b2,?_⟩
   try simp only [Act.put,List.getElem_toArray,List.getElem_cons_zero,List.getElem_cons_succ,List.setIfInBounds_toArray,List.set_cons_zero,List.set_cons_succ]
   refine AnyG_one (i:=7) rfl (by kernel_rfl) ?_
   refine wpOp_of rfl rfl ?_
   try simp only [Act.put,List.getElem_toArray,List.getElem_cons_zero,List.getElem_cons_succ,List.setIfInBounds_toArray,List.set_cons_zero,List.set_cons_succ]
   go_simp
   try simp only [Act.put,List.getElem_toArray,List.getElem_cons_zero,List.getElem_cons_succ,List.setIfInBounds_toArray,List.set_cons_zero,List.set_cons_succ]
   refine AnyG_one (i:=8) rfl (by kernel_rfl) ?_
   refine wpOp_of rfl rfl ?_
   try simp only [Act.put,List.getElem_toArray,List.getElem_cons_zero,List.getElem_cons_succ,List.setIfInBounds_toArray,List.set_cons_zero,List.set_cons_succ]
   go_simp
   have HF:Hid (NwW w2 (v2.alloc (.cells #[.slice none 0 0,.slice (some ⟨v1.heap.size,0,none⟩) T T,.slice none 0 0,.slice (some ⟨mm,0,none⟩) mem.length mc,.slice none 0 0,.slice none 0 0] 122)) v2.heap.size v1.heap.size mm mc room T mem codes (.slice none 0 0) (.slice none 0 0) 0 0):=Lib.hid ⟨heap_alloc_new _ _,Below.size b2,up_al HTB2.out.1,HTB2.out.2,own_only HO2.out (on_al (F:=fun _=>False) _ _) (fun _ _ f=>f),⟨fun _=>0,fun _=>0,World.ownsRow_nil _ _ _ _,fun t ht=>absurd ht (by omega)⟩,⟨[],rfl,fun c hc=>by simp at hc,World.ownsRow_nil _ _ _ _⟩,Below.alloc b2 (Below.size b2) _⟩
   refine⟨Below.alloc b2 (Below.size b2) _,?_⟩
   try simp only [Act.put,List.getElem_toArray,List.getElem_cons_zero,List.getElem_cons_succ,List.setIfInBounds_toArray,List.set_cons_zero,List.set_cons_succ]
   refine AnyG_one (i:=9) rfl (by kernel_rfl) ?_
   refine wpOp_of rfl rfl ?_
   try simp only [Act.put,List.getElem_toArray,List.getElem_cons_zero,List.getElem_cons_succ,List.setIfInBounds_toArray,List.set_cons_zero,List.set_cons_succ]
   go_simp
   try simp only [Act.put,List.getElem_toArray,List.getElem_cons_zero,List.getElem_cons_succ,List.setIfInBounds_toArray,List.set_cons_zero,List.set_cons_succ]
   refine AnyG_done (by kernel_rfl) ?_ _
   go_wp2_with fail
   go_meet
   exact⟨rfl,_,_,mm,mc,rfl,HF⟩
  ·skip
   refine wpOp_of rfl rfl ?_
   try simp only [Act.put,List.getElem_toArray,List.getElem_cons_zero,List.getElem_cons_succ,List.setIfInBounds_toArray,List.set_cons_zero,List.set_cons_succ]
   go_simp
   obtain⟨v1,hv1⟩:∃ W,World.alloc wd (.cells (madeCells zTh.toArray (T*10)) 79)=W:=⟨_,rfl⟩
   rw [hv1]
   have b1:Below w2.heap.size w2 v1:=by rw [←hv1];exact Below.alloc b0 (Below.size b0) _
   have HTB1:Hid (v1.heap[wd.heap.size]? = some (.cells (madeCells zTh.toArray (T*10)) 79 (0,0))∧w2.heap.size≤wd.heap.size):=Lib.hid ⟨by rw [←hv1];exact heap_alloc_new _ _,Below.size b0⟩
   clear hv1
   refine⟨b1,?_⟩
   try simp only [Act.put,List.getElem_toArray,List.getElem_cons_zero,List.getElem_cons_succ,List.setIfInBounds_toArray,List.set_cons_zero,List.set_cons_succ]
   refine AnyG_one (i:=2) rfl (by kernel_rfl) ?_
   refine wpOp_of rfl rfl ?_
   try simp only [Act.put,List.getElem_toArray,List.getElem_cons_zero,List.getElem_cons_succ,List.setIfInBounds_toArray,List.set_cons_zero,List.set_cons_succ]
   go_simp
   refine (HCL.out v1 b1).mono ?_
   rintro _ v2 ⟨v4,rfl,o4,c4⟩
   obtain⟨mm,mc,rfl⟩:=own_form o4 hm0
   have b2:Below w2.heap.size w2 v2:=Below.trans b1 (c4.mono (Below.size b1))
   have HO2:Hid (v2.ownsRow w2.heap.size 25 1 (.slice (some ⟨mm,0,none⟩) mem.length mc) mem.length (w32 mem)):=Lib.hid (own_mono o4 (Below.size b1))
   have HTB2:Hid (v2.heap[wd.heap.size]? = some (.cells (madeCells zTh.toArray (T*10)) 79 (0,0))∧w2.heap.size≤wd.heap.size):=Lib.hid ⟨(c4.block _ (Array.getElem?_eq_some_iff.1 HTB1.out.1).1).trans HTB1.out.1,HTB1.out.2⟩
   clear o4 c4
   refine⟨b2,?_⟩
   try simp only [Act.put,List.getElem_toArray,List.getElem_cons_zero,List.getElem_cons_succ,List.setIfInBounds_toArray,List.set_cons_zero,List.set_cons_succ]
   refine AnyG_one (i:=7) rfl (by kernel_rfl) ?_
   refine wpOp_of rfl rfl ?_
   try simp only [Act.put,List.getElem_toArray,List.getElem_cons_zero,List.getElem_cons_succ,List.setIfInBounds_toArray,List.set_cons_zero,List.set_cons_succ]
   go_simp
   try simp only [Act.put,List.getElem_toArray,List.getElem_cons_zero,List.getElem_cons_succ,List.setIfInBounds_toArray,List.set_cons_zero,List.set_cons_succ]
   refine AnyG_one (i:=8) rfl (by kernel_rfl) ?_
   refine wpOp_of rfl rfl ?_
   try simp only [Act.put,List.getElem_toArray,List.getElem_cons_zero,List.getElem_cons_succ,List.setIfInBounds_toArray,List.set_cons_zero,List.set_cons_succ]
   go_simp
   have HF:Hid (NwW w2 (v2.alloc (.cells #[.slice none 0 0,.slice (some ⟨wd.heap.size,0,none⟩) T T,.slice none 0 0,.slice (some ⟨mm,0,none⟩) mem.length mc,.slice none 0 0,.slice none 0 0] 122)) v2.heap.size wd.heap.size mm mc room T mem codes (.slice none 0 0) (.slice none 0 0) 0 0):=Lib.hid ⟨heap_alloc_new _ _,Below.size b2,up_al HTB2.out.1,HTB2.out.2,own_only HO2.out (on_al (F:=fun _=>False) _ _) (fun _ _ f=>f),⟨fun _=>0,fun _=>0,World.ownsRow_nil _ _ _ _,fun t ht=>absurd ht (by omega)⟩,⟨[],rfl,fun c hc=>by simp at hc,World.ownsRow_nil _ _ _ _⟩,Below.alloc b2 (Below.size b2) _⟩
   refine⟨Below.alloc b2 (Below.size b2) _,?_⟩
   try simp only [Act.put,List.getElem_toArray,List.getElem_cons_zero,List.getElem_cons_succ,List.setIfInBounds_toArray,List.set_cons_zero,List.set_cons_succ]
   refine AnyG_one (i:=9) rfl (by kernel_rfl) ?_
   refine wpOp_of rfl rfl ?_
   try simp only [Act.put,List.getElem_toArray,List.getElem_cons_zero,List.getElem_cons_succ,List.setIfInBounds_toArray,List.set_cons_zero,List.set_cons_succ]
   go_simp
   try simp only [Act.put,List.getElem_toArray,List.getElem_cons_zero,List.getElem_cons_succ,List.setIfInBounds_toArray,List.set_cons_zero,List.set_cons_succ]
   refine AnyG_done (by kernel_rfl) ?_ _
   go_wp2_with fail
   go_meet
   exact⟨rfl,_,_,mm,mc,rfl,HF⟩
 case rest=>
  obtain⟨rfl,gm,tb,mm,mc,rfl,HN⟩:=hcut
  clear hmk HCL
  have c0:=x0 wc HN.out.bel
  go_wp2_with fail
  clear c0
  obtain⟨n35,hn35⟩:∃ n:Nat,n=35:=⟨_,rfl⟩
  have hsz:=sizeB hn35
  have HN35:=Lib.hid hn35
  clear hn35
  obtain⟨iC,hiC,hc0,hc1,hc2⟩:=info_parts infoC
  obtain⟨iB,hiB,hd0,hd1,hd2⟩:=info_parts infoB2
  go_loopg [33] T (fun g iv wr=>∃ (i:Nat) (cv bv:Value),i+g=T∧iv=.int .i64 i∧Hid (NwW w2 wr gm tb mm mc room T mem codes cv bv i i))
  case atStart=>exact⟨0,.slice none 0 0,.slice none 0 0,by omega,rfl,HN⟩
  case round=>
   obtain⟨i,cv,bv,hi,rfl,HR⟩:=hrel
   obtain⟨wo,hwo⟩:∃ x,x=wr:=⟨_,rfl⟩
   subst hwo
   by_cases hlt:i < T
   ·obtain⟨g',rfl⟩:∃ g',gk=g'+1:=⟨gk - 1,by omega⟩
    have hil:(i:Int) < (T:Int):=by omega
    have hwr:wrap64 ((i:Int)+1)=(i:Int)+1:=by unfold wrap64;omega
    obtain⟨L,hL⟩:∃ L,codes[i]? = some L:=⟨_,List.getElem?_eq_getElem (by rw [HT.out];exact hlt)⟩
    have hgd:codes.getD i []=L:=by rw [List.getD_eq_getElem?_getD,hL];rfl
    obtain⟨g,cap,c1,c2,ccp⟩:=(HC.out.below HB2.out).below HR.out.bel i L hL
    have hL0:=HNE.out L (List.mem_of_getElem? hL)
    have hL4:=(HOK.out L (List.mem_of_getElem? hL)).1
    have cR:wo.cell? ⟨w.heap.size,2,none⟩=some (.int .i64 room):=HX.out.2.2 wo HR.out.bel
    have hbn:=buf_new wo room HR0.out
    have HBN:=Lib.hid hbn
    have HF:=Lib.hid c2
    have HGD:=Lib.hid hgd
    have HL:=Lib.hid (And.intro hL0 hL4)
    obtain⟨zr,hzr,hzs⟩:∃ zr:Array Value,#[.int .i64 0,.int .u32 0,.int .i64 0,.int .u32 0,.int .i64 0,.int .u32 0,.int .i64 0,.int .u32 0,.int .i64 0,.int .u32 0,.int .i64 0,.int .u32 0,.int .i64 0,.int .u32 0,.int .i64 0,.int .u32 0,.int .i64 0,.int .u32 0,.int .i64 0,.int .u32 0,.int .i64 0,.int .u32 0,.int .i64 0,.int .u32 0,.int .i64 0,.int .u32 0,.int .i64 0,.int .u32 0,.int .i64 0,.int .u32 0,.int .i64 0,.int .u32 0,.int .i64 0,.int .i64 0,.int .i64 0]=zr∧zr.size=35:=⟨_,rfl,rfl⟩
    clear hbn c2 hgd hL hL0 hL4 x0 x1 x2
    go_wp2_with (go_at_call 55;refine HBN.out.mono ?_;rintro r w3 ⟨⟨cs,rfl,hB⟩,hb3⟩;have HBB:=Lib.hid hB;have HB3:=Lib.hid hb3;have hsn:cs.size=n35:=hB.1.trans HN35.out.symm;have hst:Sem.run Tryz.prog (storeCells ⟨w3.heap.size,0,none⟩ cs.toList 0) (w3.alloc (.cells zr 127))=.ok () ((w3.alloc (.cells zr 127)).setRow w3.heap.size cs):=stRow0 (heap_alloc_new _ _) (hzs.trans hB.1.symm) hB.2.1;clear hb3 hB)
    have hB5:Below wo.heap.size wo ((w3.alloc (.cells zr 127)).setRow w3.heap.size cs):=bl_row (HB3.out.alloc HB3.out.size _) HB3.out.size _
    have hrow5:((w3.alloc (.cells zr 127)).setRow w3.heap.size cs).heap[w3.heap.size]? = some (.cells cs 127 (0,0)):=setRow_heap _ _ _ _ _ _ (heap_alloc_new _ _)
    have HN5:=Lib.hid (HR.out.only (Only.of_below (F:=fun _=>False) hB5 (Nat.le_refl _)) (fun _ e=>e.elim))
    have HF5:=Lib.hid (HF.out.only (Only.of_below (F:=fun _=>False) hB5 (Nat.le_refl _)) (fun e=>e))
    obtain⟨gb,hgb⟩:∃ gb,gb=w3.heap.size:=⟨_,rfl⟩
    rw [←hgb] at hrow5 ⊢
    have HROW5:=Lib.hid hrow5
    rw [←hgb] at HN5 HF5
    have HGB:Hid (∀ k,bv.ownBlock=some k→k≠gb):=Lib.hid (fun k e=>by
     obtain⟨_,_,_,h1⟩:=HR.out.hbs
     have:=(h1.lt k e).2
     have:=HB3.out.size
     omega)
    clear hst hzr hzs cR c1 hsz hB5 hrow5 HB3 hgb
    generalize ((w3.alloc (.cells zr 127)).setRow gb cs)=w5 at *
    -- the code
    obtain⟨gg,cp,hco,hcf⟩:=HN5.out.hcs
    have HCO:=Lib.hid hco
    have HCF:=Lib.hid hcf
    clear hco hcf
    have b0:w5.drew.cell? ⟨gm,0,none⟩=some cv:=cell_of_row _ _ 0 _ _ _ HN5.out.hm
    have HN5:Hid (NwW w2 w5.drew gm tb mm mc room T mem codes cv bv i i):=Lib.hid (HN5.out.only (F:=fun _=>False) ⟨rfl,rfl,rfl,Nat.le_refl _,fun _ _ _=>rfl⟩ (fun _ e=>e.elim))
    have HF5:Hid (FlatB w5.drew g L):=HF5
    have HROW5:Hid (w5.drew.heap[gb]? = some (.cells cs 127 (0,0))):=HROW5
    have HCO:Hid (w5.drew.ownsRow w2.heap.size 29 1 cv i ((List.range i).map fun t=>.slice (some ⟨gg t,0,none⟩) (codes.getD t []).length (cp t))):=HCO
    have HCF:Hid (∀ t,t < i→FlatB w5.drew (gg t) (codes.getD t [])∧w2.heap.size≤gg t∧TyB w5.drew (gg t) 132):=HCF
    refine wp_region_g (fun W=>W.cell? ⟨gm,0,none⟩=some cv) 11 (by kernel_rfl) ?_
    generalize w5.drew=wd at *
    refine AnyG_take (i:=0) (oi:=_) (v:=?_) rfl (by kernel_rfl) (fun _ _ _ h=>h) (Or.inl ⟨by rfl,?_⟩) b0 ?_
    rotate_left
    ·intro W hSw;(try dsimp only at hSw);go_simp;first | done | with_reducible rfl
    simp only [Act.put,List.getElem_toArray,List.getElem_cons_zero,List.getElem_cons_succ,List.setIfInBounds_toArray,List.set_cons_zero,List.set_cons_succ]
    refine AnyG_take (i:=1) (oi:=_) (v:=?_) rfl (by kernel_rfl) (fun _ _ _ h=>h) (Or.inl ⟨by rfl,?_⟩) b0 ?_
    rotate_left
    ·intro W hSw;(try dsimp only at hSw);go_simp;first | done | with_reducible rfl
    simp only [Act.put,List.getElem_toArray,List.getElem_cons_zero,List.getElem_cons_succ,List.setIfInBounds_toArray,List.set_cons_zero,List.set_cons_succ]
    refine AnyG_take (i:=2) (oi:=_) (v:=?_) rfl (by kernel_rfl) (fun _ _ _ h=>h) (Or.inl ⟨by rfl,?_⟩) b0 ?_
    rotate_left
    ·intro W hSw;(try dsimp only at hSw);go_simp;first | done | with_reducible rfl
    simp only [Act.put,List.getElem_toArray,List.getElem_cons_zero,List.getElem_cons_succ,List.setIfInBounds_toArray,List.set_cons_zero,List.set_cons_succ]
    refine AnyG_take (i:=3) (oi:=_) (v:=?_) rfl (by kernel_rfl) (fun _ _ _ h=>h) (Or.inl ⟨by rfl,?_⟩) b0 ?_
    rotate_left
    ·intro W hSw;(try dsimp only at hSw);go_simp;first | done | with_reducible rfl
    simp only [Act.put,List.getElem_toArray,List.getElem_cons_zero,List.getElem_cons_succ,List.setIfInBounds_toArray,List.set_cons_zero,List.set_cons_succ]
    refine AnyG_take (i:=4) (oi:=_) (v:=?_) rfl (by kernel_rfl) (fun _ _ _ h=>h) (Or.inl ⟨by rfl,?_⟩) b0 ?_
    rotate_left
    ·intro W hSw;(try dsimp only at hSw);go_simp;first | done | with_reducible rfl
    simp only [Act.put,List.getElem_toArray,List.getElem_cons_zero,List.getElem_cons_succ,List.setIfInBounds_toArray,List.set_cons_zero,List.set_cons_succ]
    refine AnyG_take (i:=5) (oi:=_) (v:=?_) rfl (by kernel_rfl) (fun _ _ _ h=>h) (Or.inl ⟨by rfl,?_⟩) b0 ?_
    rotate_left
    ·intro W hSw;(try dsimp only at hSw);go_simp;first | done | with_reducible rfl
    simp only [Act.put,List.getElem_toArray,List.getElem_cons_zero,List.getElem_cons_succ,List.setIfInBounds_toArray,List.set_cons_zero,List.set_cons_succ]
    refine AnyG_one (i:=6) rfl (by kernel_rfl) ?_
    refine wpOp_of rfl rfl ?_
    try simp only [Act.put,List.getElem_toArray,List.getElem_cons_zero,List.getElem_cons_succ,List.setIfInBounds_toArray,List.set_cons_zero,List.set_cons_succ]
    go_simp
    refine (clone_any wd _ L.length (flat L) (rd_flat HF5.out ccp) (by have:=HL.out.2;omega) (one_flat _)).mono ?_
    rintro _ w6 ⟨v6,rfl,o6,b6⟩
    obtain⟨g6,p6,rfl⟩:=own_form o6 HL.out.1
    have HN6:=Lib.hid (HN5.out.only (Only.of_below (F:=fun _=>False) b6 (Nat.le_refl _)) (fun _ e=>e.elim))
    have HROW6:Hid (w6.heap[gb]? = some (.cells cs 127 (0,0))):=Lib.hid ((b6.block _ (Array.getElem?_eq_some_iff.1 HROW5.out).1).trans HROW5.out)
    have HCO6:=Lib.hid (own_only HCO.out (Only.of_below (F:=fun _=>False) b6 (Nat.le_refl _)) (fun _ _ f=>f))
    have HCF6:Hid (∀ t,t < i→FlatB w6 (gg t) (codes.getD t [])∧w2.heap.size≤gg t∧TyB w6 (gg t) 132):=Lib.hid (fun t ht=>⟨(HCF.out t ht).1.only (Only.of_below (F:=fun _=>False) b6 (Nat.le_refl _)) (fun e=>e),(HCF.out t ht).2.1,(HCF.out t ht).2.2.only (Only.of_below (F:=fun _=>False) b6 (Nat.le_refl _)) (fun e=>e)⟩)
    have HG6:Hid (FlatB w6 g6 L∧w2.heap.size≤g6∧TyB w6 g6 132):=Lib.hid ⟨FlatB.own o6,by have:=(o6.lt g6 rfl).1;have:=HN5.out.bel.size;omega,ty_own o6 rfl⟩
    have e6:w6.cell? ⟨gm,0,none⟩=some cv:=cell_of_row _ _ 0 _ _ _ HN6.out.hm
    clear o6 b6 HN5 HROW5 HCO HCF HF5 b0
    refine⟨e6,?_⟩
    try simp only [Act.put,List.getElem_toArray,List.getElem_cons_zero,List.getElem_cons_succ,List.setIfInBounds_toArray,List.set_cons_zero,List.set_cons_succ]
    refine AnyG_one (i:=7) rfl (by kernel_rfl) ?_
    refine wpOp_of rfl rfl ?_
    try simp only [Act.put,List.getElem_toArray,List.getElem_cons_zero,List.getElem_cons_succ,List.setIfInBounds_toArray,List.set_cons_zero,List.set_cons_succ]
    go_simp
    have e7:(w6.alloc (.cells #[.slice (some ⟨g6,0,none⟩) L.length p6] 29)).cell? ⟨gm,0,none⟩=some cv:=cell_of_row _ _ 0 _ _ _ (up_al HN6.out.hm)
    refine⟨e7,?_⟩
    try simp only [Act.put,List.getElem_toArray,List.getElem_cons_zero,List.getElem_cons_succ,List.setIfInBounds_toArray,List.set_cons_zero,List.set_cons_succ]
    refine AnyG_one (i:=8) rfl (by kernel_rfl) ?_
    refine wpOp_of rfl rfl ?_
    try simp only [Act.put,List.getElem_toArray,List.getElem_cons_zero,List.getElem_cons_succ,List.setIfInBounds_toArray,List.set_cons_zero,List.set_cons_succ]
    refine wp_append_lies _ (.tmp 47) (.tmp 50) 42 (by rfl) w2.heap.size 29 iC _ 1 24 Tryz.underlying42 hiC hc0 hc1 hc2 rfl (by decide) cv i ((List.range i).map fun t=>.slice (some ⟨gg t,0,none⟩) (codes.getD t []).length (cp t)) (by rfl) (own_only HCO6.out (on_al (F:=fun _=>False) _ _) (fun _ _ f=>f)) ⟨w6.heap.size,0,none⟩ 1 1 [.slice (some ⟨g6,0,none⟩) L.length p6] (by rfl) rfl (World.news_of_block (heap_alloc_new _ _)) (by simp [Value.oneCell']) (by decide) (by unfold maxLen;omega) (by omega) (by have:=HN6.out.bel.size;simp;omega) _ rfl ?_
    intro g7 p7 w7 ho7 hgr7 hat7 hlt7
    have hgl:codes.getD i []=L:=HGD.out
    have hcd:=HN6.out.code (gc:=g6) (pc:=p6) (by rw [hgl];exact HG6.out.1) HG6.out.2.1 HG6.out.2.2 (on_al _ _) hgr7 hat7 gg cp HCO6.out HCF6.out (by rw [hgl];exact ho7)
    have HN8:=Lib.hid hcd.1
    have q8:=hcd.2.1
    have f8:=hcd.2.2.1
    have HROW8:=Lib.hid (hcd.2.2.2 gb cs 127 HROW6.out (by decide) (by decide))
    clear hcd ho7 hgr7 hat7 hlt7 HN6 HROW6 HCO6 HCF6 HG6 e6 e7
    refine⟨fun _ _=>q8,?_⟩
    try simp only [Act.put,List.getElem_toArray,List.getElem_cons_zero,List.getElem_cons_succ,List.setIfInBounds_toArray,List.set_cons_zero,List.set_cons_succ]
    refine AnyG_one (i:=9) rfl (by kernel_rfl) ?_
    refine wpOp_of rfl rfl ?_
    try simp only [Act.put,List.getElem_toArray,List.getElem_cons_zero,List.getElem_cons_succ,List.setIfInBounds_toArray,List.set_cons_zero,List.set_cons_succ]
    go_simp
    try simp only [Act.put,List.getElem_toArray,List.getElem_cons_zero,List.getElem_cons_succ,List.setIfInBounds_toArray,List.set_cons_zero,List.set_cons_succ]
    refine AnyG_one (i:=10) rfl (by kernel_rfl) ?_
    refine wpOp_of rfl rfl ?_
    try simp only [Act.put,List.getElem_toArray,List.getElem_cons_zero,List.getElem_cons_succ,List.setIfInBounds_toArray,List.set_cons_zero,List.set_cons_succ]
    go_simp
    try simp only [Act.put,List.getElem_toArray,List.getElem_cons_zero,List.getElem_cons_succ,List.setIfInBounds_toArray,List.set_cons_zero,List.set_cons_succ]
    refine AnyG_one (i:=11) rfl (by kernel_rfl) ?_
    refine wpOp_of rfl rfl ?_
    try simp only [Act.put,List.getElem_toArray,List.getElem_cons_zero,List.getElem_cons_succ,List.setIfInBounds_toArray,List.set_cons_zero,List.set_cons_succ]
    go_simp
    try simp only [Act.put,List.getElem_toArray,List.getElem_cons_zero,List.getElem_cons_succ,List.setIfInBounds_toArray,List.set_cons_zero,List.set_cons_succ]
    refine AnyG_done (by kernel_rfl) ?_ _
    generalize (w7.setCell ⟨gm,0,none⟩ (.slice (some ⟨g7,0,none⟩) (i+1) p7))=w8 at *
    clear q8 f8
    go_wp2_with fail
    obtain⟨bs,hbl,hbq,hbo⟩:=HN8.out.hbs
    have HBO:=Lib.hid hbo
    have HBQ:=Lib.hid (And.intro hbl hbq)
    clear hbo hbq hbl
    have hsz:=sizeB HN35.out
    have b0:w8.drew.cell? ⟨gm,2,none⟩=some bv∧w8.drew.heap[gb]? = some (.cells cs 127 (0,0)):=⟨cell_of_row _ _ 2 _ _ _ HN8.out.hm,HROW8.out⟩
    have c2:∀ W:World,(W.cell? ⟨gm,2,none⟩=some bv∧W.heap[gb]? = some (.cells cs 127 (0,0)))→W.cell? ⟨gm,2,none⟩=some bv:=fun W h=>h.1
    have hld:∀ W:World,(W.cell? ⟨gm,2,none⟩=some bv∧W.heap[gb]? = some (.cells cs 127 (0,0)))→Sem.run Tryz.prog (loadCellsFrom ⟨gb,0,none⟩ 0 n35 #[]) W=.ok cs W:=fun W h=>ldRow (rowB h.2) hsn
    have HN9:Hid (NwW w2 w8.drew gm tb mm mc room T mem codes (.slice (some ⟨g7,0,none⟩) (i+1) p7) bv (i+1) i):=Lib.hid (HN8.out.only (F:=fun _=>False) ⟨rfl,rfl,rfl,Nat.le_refl _,fun _ _ _=>rfl⟩ (fun _ e=>e.elim))
    have HBO:Hid (w8.drew.ownsRow w2.heap.size 127 35 bv i (bs.flatMap Array.toList)):=HBO
    refine wp_region_g (fun W=>W.cell? ⟨gm,2,none⟩=some bv∧W.heap[gb]? = some (.cells cs 127 (0,0))) 10 (by kernel_rfl) ?_
    clear HN8 HROW8
    generalize w8.drew=wd at *
    refine AnyG_take (i:=0) (oi:=_) (v:=?_) rfl (by kernel_rfl) (fun _ _ _ h=>h) (Or.inl ⟨by rfl,?_⟩) b0 ?_
    rotate_left
    ·intro W hSw;(try dsimp only at hSw);go_simp;first | done | with_reducible rfl
    simp only [Act.put,List.getElem_toArray,List.getElem_cons_zero,List.getElem_cons_succ,List.setIfInBounds_toArray,List.set_cons_zero,List.set_cons_succ]
    refine AnyG_take (i:=1) (oi:=_) (v:=?_) rfl (by kernel_rfl) (fun _ _ _ h=>h) (Or.inl ⟨by rfl,?_⟩) b0 ?_
    rotate_left
    ·intro W hSw;(try dsimp only at hSw);go_simp;first | done | with_reducible rfl
    simp only [Act.put,List.getElem_toArray,List.getElem_cons_zero,List.getElem_cons_succ,List.setIfInBounds_toArray,List.set_cons_zero,List.set_cons_succ]
    refine AnyG_take (i:=2) (oi:=_) (v:=?_) rfl (by kernel_rfl) (fun _ _ _ h=>h) (Or.inl ⟨by rfl,?_⟩) b0 ?_
    rotate_left
    ·intro W hSw;(try dsimp only at hSw);go_simp;first | done | with_reducible rfl
    simp only [Act.put,List.getElem_toArray,List.getElem_cons_zero,List.getElem_cons_succ,List.setIfInBounds_toArray,List.set_cons_zero,List.set_cons_succ]
    refine AnyG_take (i:=3) (oi:=_) (v:=?_) rfl (by kernel_rfl) (fun _ _ _ h=>h) (Or.inl ⟨by rfl,?_⟩) b0 ?_
    rotate_left
    ·intro W hSw;(try dsimp only at hSw);go_simp;first | done | with_reducible rfl
    simp only [Act.put,List.getElem_toArray,List.getElem_cons_zero,List.getElem_cons_succ,List.setIfInBounds_toArray,List.set_cons_zero,List.set_cons_succ]
    refine AnyG_take (i:=4) (oi:=_) (v:=?_) rfl (by kernel_rfl) (fun _ _ _ h=>h) (Or.inl ⟨by rfl,?_⟩) b0 ?_
    rotate_left
    ·intro W hSw;(try dsimp only at hSw);go_simp;first | done | with_reducible rfl
    simp only [Act.put,List.getElem_toArray,List.getElem_cons_zero,List.getElem_cons_succ,List.setIfInBounds_toArray,List.set_cons_zero,List.set_cons_succ]
    refine AnyG_take (i:=5) (oi:=_) (v:=?_) rfl (by kernel_rfl) (fun _ _ _ h=>h) (Or.inl ⟨by rfl,?_⟩) b0 ?_
    rotate_left
    ·intro W hSw;(try dsimp only at hSw);go_simp;first | done | with_reducible rfl
    simp only [Act.put,List.getElem_toArray,List.getElem_cons_zero,List.getElem_cons_succ,List.setIfInBounds_toArray,List.set_cons_zero,List.set_cons_succ]
    refine AnyG_one (i:=6) rfl (by kernel_rfl) ?_
    refine wpOp_of rfl rfl ?_
    try simp only [Act.put,List.getElem_toArray,List.getElem_cons_zero,List.getElem_cons_succ,List.setIfInBounds_toArray,List.set_cons_zero,List.set_cons_succ]
    refine wp_bs (.tmp 59) cs rfl (by rfl) (hsn.trans HN35.out) ?_
    try simp only [Act.put,List.getElem_toArray,List.getElem_cons_zero,List.getElem_cons_succ,List.setIfInBounds_toArray,List.set_cons_zero,List.set_cons_succ]
    clear hsz hld
    have hA10:∀ X,((wd.alloc X).cell? ⟨gm,2,none⟩=some bv∧(wd.alloc X).heap[gb]? = some (.cells cs 127 (0,0))):=fun X=>⟨cell_of_row _ _ 2 _ _ _ (up_al HN9.out.hm),up_al b0.2⟩
    clear c2
    refine⟨fun _ _=>hA10 _,?_⟩
    try simp only [Act.put,List.getElem_toArray,List.getElem_cons_zero,List.getElem_cons_succ,List.setIfInBounds_toArray,List.set_cons_zero,List.set_cons_succ]
    refine AnyG_one (i:=7) rfl (by kernel_rfl) ?_
    refine wpOp_of rfl rfl ?_
    try simp only [Act.put,List.getElem_toArray,List.getElem_cons_zero,List.getElem_cons_succ,List.setIfInBounds_toArray,List.set_cons_zero,List.set_cons_succ]
    refine wp_append_lies _ (.tmp 58) (.tmp 60) 117 (by rfl) w2.heap.size 127 iB _ 35 280 Tryz.underlying117 hiB hd0 hd1 hd2 rfl (by decide) bv i (bs.flatMap Array.toList) (by rfl) (own_only HBO.out (on_al (F:=fun _=>False) _ _) (fun _ _ f=>f)) ⟨wd.heap.size,0,none⟩ 1 1 cs.toList (by rfl) (by rw [Array.length_toList,hsn,HN35.out]) (World.news_of_block (heap_alloc_new _ _)) (fun u hu=>Array.all_eq_true'.1 HBB.out.2.1 u (by simpa using hu)) (by decide) (by unfold maxLen;omega) (by omega) (by have:=HN9.out.bel.size;simp;omega) _ rfl ?_
    intro gA pA wA hoA hgrA hatA hltA
    have hcd:=HN9.out.buf HBB.out (on_al _ _) hgrA hatA bs HBQ.out.1 HBQ.out.2 HBO.out hoA
    have HNA:=Lib.hid hcd.1
    have qA:=hcd.2.1
    have fA:=hcd.2.2
    have rA:wA.heap[gb]? = some (.cells cs 127 (0,0)):=(hgrA.block gb (by have:=(Array.getElem?_eq_some_iff.1 b0.2).1;simp;omega) (fun e=>HGB.out gb e.symm rfl)).trans (up_al b0.2)
    clear hcd hoA hgrA hatA hltA
    refine⟨fun _ _=>⟨qA,rA⟩,?_⟩
    try simp only [Act.put,List.getElem_toArray,List.getElem_cons_zero,List.getElem_cons_succ,List.setIfInBounds_toArray,List.set_cons_zero,List.set_cons_succ]
    refine AnyG_one (i:=8) rfl (by kernel_rfl) ?_
    refine wpOp_of rfl rfl ?_
    try simp only [Act.put,List.getElem_toArray,List.getElem_cons_zero,List.getElem_cons_succ,List.setIfInBounds_toArray,List.set_cons_zero,List.set_cons_succ]
    go_simp
    try simp only [Act.put,List.getElem_toArray,List.getElem_cons_zero,List.getElem_cons_succ,List.setIfInBounds_toArray,List.set_cons_zero,List.set_cons_succ]
    refine AnyG_one (i:=9) rfl (by kernel_rfl) ?_
    refine wpOp_of rfl rfl ?_
    try simp only [Act.put,List.getElem_toArray,List.getElem_cons_zero,List.getElem_cons_succ,List.setIfInBounds_toArray,List.set_cons_zero,List.set_cons_succ]
    go_simp
    try simp only [Act.put,List.getElem_toArray,List.getElem_cons_zero,List.getElem_cons_succ,List.setIfInBounds_toArray,List.set_cons_zero,List.set_cons_succ]
    refine AnyG_one (i:=10) rfl (by kernel_rfl) ?_
    refine wpOp_of rfl rfl ?_
    try simp only [Act.put,List.getElem_toArray,List.getElem_cons_zero,List.getElem_cons_succ,List.setIfInBounds_toArray,List.set_cons_zero,List.set_cons_succ]
    go_simp
    try simp only [Act.put,List.getElem_toArray,List.getElem_cons_zero,List.getElem_cons_succ,List.setIfInBounds_toArray,List.set_cons_zero,List.set_cons_succ]
    refine AnyG_done (by kernel_rfl) ?_ _
    generalize (wA.setCell ⟨gm,2,none⟩ (.slice (some ⟨gA,0,none⟩) (i+1) pA))=wB at *
    clear qA fA rA
    go_wp2_with fail
    go_roundg g'
    case rel=>exact⟨i+1,_,_,by omega,by first | (simp;done) | (simp;exact hwr),HNA⟩
    case measure=>omega
   ·have hil:¬((i:Int) < (T:Int)):=by omega
    have hiT:i=T:=by omega
    subst hiT
    go_wp2_with fail
    refine bodyPost_ret (results_tmp2 rfl _ _ _) rfl ?_
    obtain⟨Z,K,hK1,hK2,hK3,hK4,hK5⟩:=HR.out.done HT.out HT0.out ⟨HR0.out.1,HR0.out.2⟩ (HTI.out.below HB2.out (Nat.le_refl _))
    rw [←HT.out] at hK2 ⊢
    refine⟨Z,K,by rw [hK1];rfl,hK2,fun k hk=>hK3 k (by have:=HB2.out.size;omega),HB2.out.trans (HR.out.bel.mono HB2.out.size),hK5⟩
end Go.Proofs.YtcnmhgblbikfkaaGreatDoor.As.T
end

