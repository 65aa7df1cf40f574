/- The walk of pick.Even. -/
import Derived.Test.YtckmkaeopnnbbaaGreatDoorEvF
set_option linter.unusedVariables false
set_option linter.unusedSimpArgs false
set_option maxRecDepth 20000
namespace Go.Proofs.YtckmkaeopnnbbaaGreatDoor.As.T
open Go.RowKit

def flatK:List (Nat×Nat)→List Value
 | []=>[]
 | x::l=>.int .i64 (x.1:Nat)::.int .i64 (x.2:Nat)::flatK l
theorem wr_id{x:Int}(h0:0≤x)(h1:x≤1000000):wrap64 x=x:=by unfold wrap64;omega
theorem flatK_snoc:∀ (l:List (Nat×Nat)) (x:Nat×Nat),flatK (l++[x])=flatK l++[.int .i64 (x.1:Nat),.int .i64 (x.2:Nat)]
 | [],x=>rfl
 | y::l,x=>by show _::_::flatK (l++[x])=_;rw [flatK_snoc l x];rfl
theorem flatK_get:∀ (l:List (Nat×Nat)) (j:Nat) (x:Nat×Nat),l[j]? = some x→(flatK l)[j*2]? = some (.int .i64 (x.1:Nat))∧(flatK l)[j*2+1]? = some (.int .i64 (x.2:Nat))
 | [],j,x,h=>by cases h
 | y::l,0,x,h=>by obtain rfl:=Option.some.inj h;exact⟨rfl,rfl⟩
 | y::l,j+1,x,h=>by
  have ih:=flatK_get l j x h
  rw [show (j+1)*2=j*2+1+1 by omega]
  exact ih
theorem duO_start(w:World):DuO ((w.alloc (.cells #[] 159)).alloc (.cells #[.slice (some ⟨w.heap.size,0,none⟩) 0 0] 156)) (w.heap.size+1) w.heap.size (.slice (some ⟨w.heap.size,0,none⟩) 0 0) []:=by
 refine⟨?_,⟨rfl,.inr ⟨w.heap.size,0,#[],rfl,Nat.le_refl _,?_,by decide,by decide,rfl,rfl⟩⟩,?_,by omega,by simp;omega⟩
 ·have:=heap_alloc_new (w.alloc (.cells #[] 159)) (.cells #[.slice (some ⟨w.heap.size,0,none⟩) 0 0] 156)
  simpa using this
 ·exact (Below.heap_alloc _ _ _ (by simp)).trans (heap_alloc_new _ _)
 ·intro e
  have:w.heap.size=w.heap.size+1:=Option.some.inj e
  omega
structure EvW(W0 W:World)(gd gs cap B2:Nat)(l:List It)(vo:Value)(out:List (Nat×Nat)):Prop where
 du:DuH W gd gs cap l
 own:W.ownsRow B2 104 2 vo out.length (flatK out)
 bel:Below W0.heap.size W0 W
 lt:gd < B2∧gs < B2∧B2≤W.heap.size∧W0.heap.size≤gd∧W0.heap.size≤gs
theorem own_slice{W:World}{B s n:Nat}{e:TypeId}{v:Value}{xs:List Value}(h:W.ownsRow B e s v n xs):∃ A c,v=.slice A n c:=by
 rcases h.2 with⟨rfl,rfl⟩ | ⟨g,cap,cur,rfl,_⟩
 ·exact⟨none,0,rfl⟩
 ·exact⟨_,_,rfl⟩
theorem EvW.same{W0 W W':World}{gd gs cap B2:Nat}{l:List It}{vo:Value}{out:List (Nat×Nat)}(h:EvW W0 W gd gs cap B2 l vo out)(B:Nat)(hB:W.heap.size≤B)(ho:Only (fun b=>B≤b) W W'):EvW W0 W' gd gs cap B2 l vo out:=by
 obtain⟨l1,l2,l3,l4,l5⟩:=h.lt
 have hb:Below W.heap.size W W':=ho.below (Nat.le_refl _) (fun k e=>by omega)
 refine⟨h.du.below hb h.du.lt.1 h.du.lt.2,own_only h.own ho fun k hk e=>?_,h.bel.trans (hb.mono h.bel.size),⟨l1,l2,by have:=hb.size;omega,l4,l5⟩⟩
 have:=(h.own.lt k hk).2
 omega
theorem EvW.keep{W0 W W':World}{gd gs cap B2 bx:Nat}{l:List It}{vo:Value}{out:List (Nat×Nat)}(h:EvW W0 W gd gs cap B2 l vo out)(h1:B2≤bx)(h3:∀ g,vo.ownBlock=some g→g≠bx)(ho:Only (fun b=>b=bx) W W'):EvW W0 W' gd gs cap B2 l vo out:=by
 obtain⟨l1,l2,l3,l4,l5⟩:=h.lt
 obtain⟨arr,a1,a2⟩:=h.du.is
 refine⟨⟨(ho.block _ h.du.lt.1 (by omega)).trans h.du.hd,⟨arr,(ho.block _ h.du.lt.2 (by omega)).trans a1,a2⟩,h.du.ne⟩,own_only h.own ho fun k hk e=>h3 k hk e,h.bel.trans (ho.below h.bel.size (fun k e=>by omega)),⟨l1,l2,by have:=ho.size;omega,l4,l5⟩⟩
theorem EvW.app{W0 W W2:World}{o:Obj}{gd gs cap B2 g n c:Nat}{l:List It}{vo:Value}{out:List (Nat×Nat)}(x:Nat×Nat)(h:EvW W0 W gd gs cap B2 l vo out)(hn:out.length+1=n)(ho:W2.ownsRow B2 104 2 (.slice (some ⟨g,0,none⟩) n c) n (flatK out++[.int .i64 (x.1:Nat),.int .i64 (x.2:Nat)]))(hgr:(W.alloc o).grownBy W2 vo.ownBlock):
  EvW W0 W2 gd gs cap B2 l (.slice (some ⟨g,0,none⟩) n c) (out++[x])∧∀ bx,B2≤bx→bx < W.heap.size→(∀ g,vo.ownBlock=some g→g≠bx)→W2.heap[bx]? = W.heap[bx]? := by
 obtain⟨l1,l2,l3,l4,l5⟩:=h.lt
 obtain⟨arr,a1,a2⟩:=h.du.is
 have hv:∀ k,k < B2→some k≠vo.ownBlock:=fun k hk e=>by
  have:=(h.own.lt k e.symm).1
  omega
 have hb:∀ k,k < W.heap.size→some k≠vo.ownBlock→W2.heap[k]? = W.heap[k]? := fun k hk hne=>(hgr.block k (by simp;omega) hne).trans (Below.heap_alloc _ _ _ hk)
 have hsz:=hgr.size
 simp at hsz
 refine⟨⟨⟨(hb _ h.du.lt.1 (hv _ l1)).trans h.du.hd,⟨arr,(hb _ h.du.lt.2 (hv _ l2)).trans a1,a2⟩,h.du.ne⟩,?_,h.bel.trans ⟨hgr.os,hgr.tape,hgr.output,by omega,fun k hk=>hb k (by have:=h.bel.size;omega) (hv k (by omega))⟩,⟨l1,l2,by omega,l4,l5⟩⟩,fun bx h1 h2 h3=>hb bx h2 (fun e=>h3 bx e.symm rfl)⟩
 have e:(out++[x]).length=n:=by simp;exact hn
 rw [e,flatK_snoc];exact ho
theorem DuH.put{W:World}{gd gs cap:Nat}{l:List It}(h:DuH W gd gs cap l){j:Nat}{y:It}(hy:l[j]? = some y)(d:Int):DuH (W.setCell ⟨gs,j*3+2,none⟩ (.int .i64 d)) gd gs cap (l.set j { y with due:=d }):=by
 obtain⟨arr,a1,a2,a3,a4⟩:=h.is
 have hjl:j < l.length:=(List.getElem?_eq_some_iff.1 hy).1
 have ho:Only (fun b=>b=gs) W (W.setCell ⟨gs,j*3+2,none⟩ (.int .i64 d)):=Only.set1 (F:=fun k=>k=gs) (p:=⟨gs,j*3+2,none⟩) (Only.refl _ W) rfl _
 refine⟨(ho.block _ h.lt.1 (fun e=>h.ne e.symm)).trans (by rw [List.length_set];exact h.hd),⟨_,heap_setCell_same W gs (j*3+2) _ _ _ a1,by rw [Array.size_setIfInBounds];exact a2,by rw [List.length_set];exact a3,fun k x hx=>?_⟩,h.ne⟩
 rw [Array.getElem?_setIfInBounds_ne (by omega),Array.getElem?_setIfInBounds_ne (by omega)]
 by_cases e:k=j
 ·subst e
  rw [List.getElem?_set_self hjl] at hx
  have hx:=Option.some.inj hx
  obtain⟨f0,f1,f2⟩:=a4 k y hy
  rw [←hx,Array.getElem?_setIfInBounds_self_of_lt (by omega)]
  exact⟨f0,f1,rfl⟩
 ·rw [List.getElem?_set_ne (fun c=>e c.symm)] at hx
  rw [Array.getElem?_setIfInBounds_ne (by omega)]
  exact a4 k x hx
theorem pks_of{W:World}{B g n c:Nat}{l:List (Nat×Nat)}(h:W.ownsRow B 104 2 (.slice (some ⟨g,0,none⟩) n c) l.length (flatK l)):PkS W g l:=fun i p hp=>by
 have hi:i < l.length:=(List.getElem?_eq_some_iff.1 hp).1
 rcases h.2 with⟨e,_⟩ | ⟨g',cap,cur,e,hb,hg,hc,hm,hs,ht⟩
 ·cases e
 ·injection e with e1 e2 e3
  injection e1 with e1
  injection e1 with e1
  subst e1
  obtain⟨k1,k2⟩:=flatK_get l i p hp
  have key:∀ u,u < l.length*2→cur[u]? = (flatK l)[u]? := fun u hu=>by
   rw [←ht,List.getElem?_take,if_pos hu,Array.getElem?_toList]
  exact⟨(cell_of_row _ _ _ _ _ _ hg).trans ((key _ (by omega)).trans k1),(cell_of_row _ _ _ _ _ _ hg).trans ((key _ (by omega)).trans k2)⟩
theorem EvW.du_to{W0 W W':World}{gd gs cap B2:Nat}{l l':List It}{vo:Value}{out:List (Nat×Nat)}(h:EvW W0 W gd gs cap B2 l vo out)(hd:DuH W' gd gs cap l')(ho:Only (fun b=>b=gs) W W'):EvW W0 W' gd gs cap B2 l' vo out:=by
 obtain⟨l1,l2,l3,l4,l5⟩:=h.lt
 refine⟨hd,own_only h.own ho fun k hk e=>?_,h.bel.trans (ho.below h.bel.size (fun k e=>by omega)),⟨l1,l2,by have:=ho.size;omega,l4,l5⟩⟩
 have:=(h.own.lt k hk).1
 have e:k=gs:=e
 omega
set_option maxHeartbeats 8000000 in
theorem even_any(w:World)(gw cw T w0 n:Nat)(ws:List (Nat×Nat))(hws:PkS w gw ws)(hgw:gw < w.heap.size)(hT1:1≤T)(hT8:T≤8)(hw0:4*T≤w0)(hw9:w0≤1000)(hn1:1≤n)(hn:n≤100000)(hwl:ws.length≤100000):
  Calls Tryz.prog 54 #[.slice (some ⟨gw,0,none⟩) ws.length cw,.int .i64 (T:Nat),.int .i64 (w0:Nat),.int .i64 (n:Nat)] w fun e w'=>∃ g cap,e=.returned (.tuple #[.slice (some ⟨g,0,none⟩) n cap,.int .i64 0])∧PkS w' g (evenP T w0 ws n)∧w.heap.size≤g∧g < w'.heap.size∧Below w.heap.size w w':=by
 obtain⟨N,hN⟩:∃ N,ws.length=N:=⟨_,rfl⟩
 rw [hN] at hwl ⊢
 have HNW:=Lib.hid hN
 clear hN
 have hr:=right_any w T w0 hT1 hT8 hw0 (by omega)
 have HR:=Lib.hid hr
 have h1:¬((n:Int) < 0):=by omega
 have h2:¬(100000 < (n:Int)):=by omega
 clear hr
 go_enter Tryz.func54,Tryz.ntmps54
 go_wp2_with (go_at_call 89;refine (HR.out).mono ?_;clear HR;rintro r w3 ⟨rfl,rfl⟩)
 have h0:=duO_start w3
 have hb0:Below w3.heap.size w3 ((w3.alloc (.cells #[] 159)).alloc (.cells #[.slice (some ⟨w3.heap.size,0,none⟩) 0 0] 156)):=((Below.refl _ w3).alloc (Nat.le_refl _) _).alloc (by simp) _
 generalize hA:(w3.alloc (.cells #[] 159)).alloc (.cells #[.slice (some ⟨w3.heap.size,0,none⟩) 0 0] 156)=wA at *
 obtain⟨gd,hgd⟩:∃ gd,w3.heap.size+1=gd:=⟨_,rfl⟩
 rw [hgd] at h0 ⊢
 have HW:=Lib.hid (And.intro hws (And.intro hgw hwl))
 have HN:=Lib.hid hn
 have HN1:=Lib.hid hn1
 have HT:=Lib.hid (And.intro (And.intro hT1 hT8) (And.intro hw0 hw9))
 have H0:=Lib.hid h0
 have HB0:=Lib.hid hb0
 have HGD:=Lib.hid hgd
 clear hws hgw hwl hn hn1 hT1 hT8 hw0 hw9 h0 hb0 hA hgd
 go_loopg [32] T (fun g iv wr=>∃ (i:Nat) (v:Value),i+g=T∧iv=.int .i64 i∧Hid (DuO wr gd w3.heap.size v (startP w0 i)∧Below w3.heap.size w3 wr))
 case atStart=>exact⟨0,_,by omega,rfl,Lib.hid ⟨H0.out,HB0.out⟩⟩
 case round=>
  obtain⟨i,v,hi,rfl,HR⟩:=hrel
  by_cases hlt:i < T
  ·obtain⟨g',rfl⟩:∃ g',gk=g'+1:=⟨gk - 1,by omega⟩
   have hil:(i:Int) < (T:Int):=by omega
   obtain⟨a2,ha2⟩:∃ a2,a2=2*i:=⟨_,rfl⟩
   obtain⟨d1,hd1⟩:∃ d1,d1=w0 - a2:=⟨_,rfl⟩
   obtain⟨d2,hd2⟩:∃ d2,d2=d1 - 1:=⟨_,rfl⟩
   have e0:wrap64 ((i:Int)+1)=(i:Int)+1:=by have:=HT.out;unfold wrap64;omega
   have e1:wrap64 (2*(i:Int))=(a2:Nat):=by have:=HT.out;unfold wrap64;omega
   have e2:wrap64 ((w0:Int) - (a2:Int))=(d1:Nat):=by have:=HT.out;unfold wrap64;omega
   have e3:wrap64 ((d1:Int) - 1)=(d2:Nat):=by have:=HT.out;unfold wrap64;omega
   have hsl:=(startP_facts w0 i).1
   have p1:=hpush_any wr gd w3.heap.size v (startP w0 i) ⟨0,i,(d1:Nat)⟩ HR.out.1 (by have:=HT.out;omega)
   have p2:=fun W v' h=>hpush_any W gd w3.heap.size v' (pushP (startP w0 i) ⟨0,i,(d1:Nat)⟩) ⟨1,i,(d2:Nat)⟩ h (by rw [pushP_len];have:=HT.out;omega)
   unfold ifV at p1 p2
   have P1:=Lib.hid p1
   have P2:=Lib.hid p2
   have HD:=Lib.hid (And.intro ha2 (And.intro hd1 hd2))
   have HLT:=Lib.hid hlt
   clear p1 p2 hsl ha2 hd1 hd2 hlt
   go_wp2_with (first | (go_at_call 90;refine (P1.out).mono ?_;clear P1;rintro r w4 ⟨rfl,⟨v4,hD4⟩,ho4⟩;have HD4:=Lib.hid hD4;have HO4:=Lib.hid ho4;have P3:=Lib.hid (P2.out w4 v4 hD4);clear hD4 ho4 P2) | (go_at_call 90;refine (P3.out).mono ?_;clear P3;rintro r w5 ⟨rfl,⟨v5,hD5⟩,ho5⟩;have HD5:=Lib.hid hD5;have HO5:=Lib.hid ho5;clear hD5 ho5))
   go_roundg g'
   case rel=>
    refine⟨i+1,v5,by omega,by first | (simp;done) | (simp;exact e0),Lib.hid ⟨?_,?_⟩⟩
    ·have e:pushP (pushP (startP w0 i) ⟨0,i,(d1:Nat)⟩) ⟨1,i,(d2:Nat)⟩=startP w0 (i+1):=by
      have:=HD.out
      have:=HT.out
      have:=HLT.out
      have f1:((d1:Nat):Int)=(w0:Int) - 2*(i:Int):=by omega
      have f2:((d2:Nat):Int)=(w0:Int) - 2*(i:Int) - 1:=by omega
      rw [startP,f1,f2]
     rw [←e];exact HD5.out
    ·exact HR.out.2.trans ((HO4.out.trans HO5.out (fun k h=>.inl h)).below HR.out.2.size (fun k h=>h))
   case measure=>omega
  ·have hil:¬((i:Int) < (T:Int)):=by omega
   have hiT:i=T:=by omega
   subst hiT
   clear hlt hi hil
   obtain⟨gs,cap,hv,hg1,hg2,hg3,hD⟩:=HR.out.1.duH (by rw [(startP_facts w0 i).1];have:=HT.out;omega)
   have HD:=Lib.hid hD
   have HGS:=Lib.hid (And.intro hg1 (And.intro hg2 hg3))
   have HI:=Lib.hid (fun N=>evenS_inv (T:=i) (w:=w0) ws (by have:=HT.out;omega) (by have:=HT.out;omega) N)
   have HK:=Lib.hid (fun N=>(show (evenS i w0 ws N).k≤N from by
    induction N with
    | zero=>exact Nat.le_refl _
    | succ N ih=>
     show (nextP i ws (evenS i w0 ws N).l (evenS i w0 ws N).k (evenS i w0 ws N).out.length).2≤N+1
     unfold nextP
     split
     ·exact Nat.le_succ_of_le ih
     ·exact Nat.succ_le_succ ih))
   obtain⟨B2,hB2⟩:∃ B,wr.heap.size=B:=⟨_,rfl⟩
   have HOUT0:=Lib.hid (show wr.ownsRow B2 104 2 (.slice none 0 0) 0 (flatK []) from⟨rfl,.inl ⟨rfl,rfl⟩⟩)
   have HB2:=Lib.hid hB2
   clear hv hg1 hg2 hg3 hD hB2
   go_wp2_with fail
   go_loopg [12,13] n (fun g ov kv wq=>∃ (m:Nat),m+g=n∧kv=.int .i64 ((evenS i w0 ws m).k:Nat)∧Hid (EvW w3 wq gd gs cap B2 (evenS i w0 ws m).l ov (evenS i w0 ws m).out))
   case atStart=>
    refine⟨0,by omega,rfl,Lib.hid ⟨HD.out,HOUT0.out,HR.out.2,?_⟩⟩
    have:=HD.out.lt
    have:=HGS.out
    have:=HGD.out
    have:=HB2.out
    exact⟨by omega,by omega,by omega,by omega,by omega⟩
   case round=>
    obtain⟨m,hm,rfl,HQ⟩:=hrel
    by_cases hlt:m < n
    ·obtain⟨g',rfl⟩:∃ g',gk=g'+1:=⟨gk - 1,by omega⟩
     have hInv:=HI.out m
     have hkm:=HK.out m
     have hol:(evenS i w0 ws m).out.length=m:=evenP_len i w0 ws m
     have hstep:evenS i w0 ws (m+1)=(evenS i w0 ws m).step i w0 ws:=rfl
     obtain⟨S,hS⟩:∃ S,evenS i w0 ws m=S:=⟨_,rfl⟩
     rw [hS] at HQ hInv hkm hol hstep ⊢
     have HS:=Lib.hid (And.intro hS hstep)
     clear hS hstep
     obtain⟨l,k,out⟩:=S
     have hQ:EvW w3 wr gd gs cap B2 l u12 out:=HQ.out
     have hol:out.length=m:=hol
     have hkm:k≤m:=hkm
     have hll:l.length=2*i:=hInv.len
     obtain⟨A,c,rfl⟩:=own_slice hQ.own
     rw [hol] at hQ ⊢
     have HQ:=Lib.hid hQ
     have HINV:=Lib.hid hInv
     have HOL:=Lib.hid hol
     have HKM:=Lib.hid hkm
     have HLL:=Lib.hid hll
     have HM:=Lib.hid hm
     have HLT:=Lib.hid hlt
     have hmn:(m:Int) < (n:Int):=by omega
     have HM9:Hid (m+1+g'=n):=Lib.hid (by omega)
     clear hQ hInv hol hkm hll hm hlt
     go_upto_region 15 with fail
     have hX:EvW w3 (wr.alloc (.cells #[.int .i64 0,.int .i64 0] 104)) gd gs cap B2 l (.slice A m c) out:=HQ.out.same wr.heap.size (Nat.le_refl _) (Only.of_below ((Below.refl _ wr).alloc (Nat.le_refl _) _) (Nat.le_refl _))
     have hxb:(wr.alloc (.cells #[.int .i64 0,.int .i64 0] 104)).heap[wr.heap.size]? = some (.cells #[.int .i64 0,.int .i64 0] 104 (0,0)):=heap_alloc_new _ _
     have hbx:∀ g,(Value.slice A m c).ownBlock=some g→g < wr.heap.size:=fun g hg=>(HQ.out.own.lt g hg).2
     have hb2:=HQ.out.lt
     obtain⟨wx,hwx⟩:∃ W,wr.alloc (.cells #[.int .i64 0,.int .i64 0] 104)=W:=⟨_,rfl⟩
     obtain⟨bx,hbxx⟩:∃ b,wr.heap.size=b:=⟨_,rfl⟩
     rw [hwx] at hX hxb ⊢
     rw [hbxx] at hxb hbx hb2 ⊢
     obtain⟨x0,hx0⟩:∃ x,l[0]? = some x:=⟨_,List.getElem?_eq_getElem (by have:=HLL.out;have:=HT.out;omega)⟩
     obtain⟨arr,a1,a2,a3,a4⟩:=hX.du.is
     obtain⟨f0,f1,f2⟩:=a4 0 x0 hx0
     have c0:wx.cell? ⟨gs,0,none⟩=some (.int .i64 (x0.k:Nat)):=(cell_of_row _ _ _ _ _ _ a1).trans f0
     have c1:wx.cell? ⟨gs,1,none⟩=some (.int .i64 (x0.t:Nat)):=(cell_of_row _ _ _ _ _ _ a1).trans f1
     have c2:wx.cell? ⟨gs,2,none⟩=some (.int .i64 x0.due):=(cell_of_row _ _ _ _ _ _ a1).trans f2
     have cd:=hX.du.cell
     unfold duV at cd
     have hdl:=HINV.out.due_le x0 (List.mem_of_getElem? hx0)
     have hdg:=HINV.out.due_gt x0 (List.mem_of_getElem? hx0)
     have hdl:x0.due≤(out.length:Int)+w0:=hdl
     have hdg:(out.length:Int) < x0.due:=hdg
     obtain⟨dd,hdd⟩:∃ d:Int,x0.due - m=d:=⟨_,rfl⟩
     obtain⟨i2,hi2⟩:∃ d:Nat,2*i=d:=⟨_,rfl⟩
     have e1:wrap64 (x0.due - (m:Int))=dd:=by have:=HOL.out;have:=HT.out;unfold wrap64;omega
     have e2:wrap64 (2*(i:Int))=(i2:Nat):=by have:=HT.out;unfold wrap64;omega
     have hlen0:0 < l.length:=by have:=HLL.out;have:=HT.out;omega
     have HX:=Lib.hid hX
     have HXB:=Lib.hid hxb
     have HBX:=Lib.hid (And.intro hbx hb2)
     have HX0:=Lib.hid hx0
     have HDD:=Lib.hid (And.intro hdd hi2)
     have HE:=Lib.hid (And.intro e1 e2)
     have HCD:=Lib.hid (And.intro cd (And.intro c0 (And.intro c1 c2)))
     obtain⟨cb,hcb⟩:∃ cb,decide (dd≤(i2:Int)∨N=0)=cb:=⟨_,rfl⟩
     have HCB:=Lib.hid hcb
     clear hX hxb hbx hb2 hwx hbxx hx0 a1 a2 a3 a4 f0 f1 f2 hdl hdg hdd hi2 hcb
     go_cut [80] from 65 to 80 (fun cv wz=>cv=.bool cb∧wz=wx)
     case first=>
      by_cases hd:dd≤(i2:Int)
      ·have hcb:=Lib.hid <| show true=cb by rw [←HCB.out];exact (decide_eq_true (.inl hd)).symm
       go_wp2_with fail
       go_meet
       exact⟨congrArg Value.bool hcb.out,rfl⟩
      ·have hcb:Hid (((N:Int) == 0)=cb):=Lib.hid (by
        rw [←HCB.out,Bool.eq_iff_iff,beq_iff_eq,decide_eq_true_iff]
        constructor
        ·intro h;right;omega
        ·rintro (h | h)
         ·exact absurd h hd
         ·omega)
       go_wp2_with fail
       go_meet
       exact⟨congrArg Value.bool hcb.out,rfl⟩
     case rest=>
      obtain⟨rfl,rfl⟩:=hcut
      generalize wc=wx at *
      clear e1 e2 c2 c0 c1 cd
      have cd:=HCD.out.1
      have c0:=HCD.out.2.1
      have c1:=HCD.out.2.2.1
      obtain⟨q,hq⟩:∃ q,nextP i ws l k out.length=q:=⟨_,rfl⟩
      have HQN:=Lib.hid hq
      clear hq
      go_upto_if 80 with fail
      go_cut [13] from 81 to 95 (fun kv wz=>kv=.int .i64 (q.2:Nat)∧Hid (EvW w3 wz gd gs cap B2 l (.slice A m c) out∧wz.heap[bx]? = some (.cells #[.int .i64 (q.1.1:Nat),.int .i64 (q.1.2:Nat)] 104 (0,0))))
      case first=>
       have z0:=frozen_of_row wx bx 0 _ _ HXB.out
       have z1:=frozen_of_row wx bx 1 _ _ HXB.out
       have o0:wx.cell? ⟨bx,0,none⟩=some (.int .i64 0):=cell_of_row wx bx 0 _ _ _ HXB.out
       have o1:wx.cell? ⟨bx,1,none⟩=some (.int .i64 0):=cell_of_row wx bx 1 _ _ _ HXB.out
       have hset:∀ a b:Value,EvW w3 ((wx.setCell ⟨bx,0,none⟩ a).setCell ⟨bx,1,none⟩ b) gd gs cap B2 l (.slice A m c) out∧((wx.setCell ⟨bx,0,none⟩ a).setCell ⟨bx,1,none⟩ b).heap[bx]? = some (.cells #[a,b] 104 (0,0)):=fun a b=>by
        refine⟨HX.out.keep (bx:=bx) (by have:=HBX.out.2;omega) (fun g hg=>by have:=HBX.out.1 g hg;omega) (Only.set1 (F:=fun k=>k=bx) (p:=⟨bx,1,none⟩) (Only.set1 (F:=fun k=>k=bx) (p:=⟨bx,0,none⟩) (Only.refl _ wx) rfl _) rfl _),?_⟩
        exact heap_setCell_same _ bx 1 _ _ _ (heap_setCell_same _ bx 0 _ _ _ HXB.out)
       have HSET:=Lib.hid hset
       clear hset
       by_cases hcb:cb=true
       ·subst hcb
        have hd:=of_decide_eq_true HCB.out
        have hqq:((x0.k,x0.t),k)=q:=by
         rw [←HQN.out]
         have e0:dueP l 0=x0.due:=by unfold dueP;rw [HX0.out]
         have hdd:=HDD.out
         have hol:=HOL.out
         unfold nextP
         rw [e0,HNW.out,if_pos (by omega),HX0.out];rfl
        subst hqq
        clear hd
        go_wp2_with fail
        go_meet
        exact⟨rfl,HSET.out _ _⟩
       ·have hcb:cb=false:=by cases cb;rfl;exact absurd rfl hcb
        subst hcb
        have hd:=of_decide_eq_false HCB.out
        have hz:N≠0:=fun e=>hd (.inr e)
        obtain⟨r,hr⟩:∃ r,k % N=r:=⟨_,rfl⟩
        have hrl:r < N:=by rw [←hr];exact Nat.mod_lt _ (by omega)
        obtain⟨y,hy⟩:∃ y,ws[r]? = some y:=⟨_,List.getElem?_eq_getElem (by rw [HNW.out];exact hrl)⟩
        have hqq:(y,k+1)=q:=by
         rw [←HQN.out]
         have e0:dueP l 0=x0.due:=by unfold dueP;rw [HX0.out]
         have hdd:=HDD.out
         have hol:=HOL.out
         unfold nextP
         rw [e0,HNW.out,if_neg (by rintro (h | h);(exact hd (.inl (by omega)));exact hz h),hr,List.getD_eq_getElem?_getD,hy];rfl
        subst hqq
        obtain⟨g0,g1⟩:=HW.out.1 r y hy
        have y0:wx.cell? ⟨gw,r*2,none⟩=some (.int .i64 (y.1:Nat)):=(HX.out.bel.cell (p:=⟨gw,r*2,none⟩) HW.out.2.1).trans g0
        have y1:wx.cell? ⟨gw,r*2+1,none⟩=some (.int .i64 (y.2:Nat)):=(HX.out.bel.cell (p:=⟨gw,r*2+1,none⟩) HW.out.2.1).trans g1
        have hr1:(0:Int)≤(r:Int)∧(r:Int)≤1000000:=by have:=HW.out.2.2;omega
        have hk1:(0:Int)≤(k:Int)+1∧(k:Int)+1≤1000000:=by have:=HKM.out;have:=HLT.out;have:=HN.out;omega
        have er2:(k:Int) % (N:Int)=(r:Nat):=by rw [←hr];first | exact (Int.natCast_emod k N).symm | exact (Int.ofNat_emod k N).symm | rfl
        have er:(k:Int).tmod (N:Int)=(r:Nat):=by rw [Int.tmod_eq_emod_of_nonneg (Int.natCast_nonneg k)];exact er2
        have hzi:((N:Int) == 0)=false:=beq_eq_false_iff_ne.2 (fun e=>hz (Int.ofNat_eq_zero.1 e))
        have hzj:¬((N:Int)=0):=fun e=>hz (Int.ofNat_eq_zero.1 e)
        have hri:(r:Int) < (N:Int):=Int.ofNat_lt.2 hrl
        have ew:wrap64 (r:Int)=(r:Nat):=wr_id hr1.1 hr1.2
        have ek:wrap64 ((k:Int)+1)=(k:Int)+1:=wr_id hk1.1 hk1.2
        clear hd hr hy g0 g1 hr1 hk1
        go_wp2_with fail
        go_meet
        exact⟨by simp,HSET.out _ _⟩
      case rest=>
       obtain⟨rfl,HY⟩:=hcut
       generalize wc=wy at *
       obtain⟨i0,hi,hz0,hz1,hz2⟩:=info_parts infoP
       have hbx:∀ g,(Value.slice A m c).ownBlock=some g→g≠bx:=fun g hg=>by have:=HBX.out.1 g hg;omega
       have hb2:=HBX.out.2
       have hbl:bx < wy.heap.size:=(Array.getElem?_eq_some_iff.1 HY.out.2).1
       have hown:∀ o,(wy.alloc o).ownsRow B2 104 2 (.slice A m c) m (flatK out):=fun o=>by
        have h:=HY.out.1.own
        rw [HOL.out] at h
        exact own_only (F:=fun _=>False) h (Only.of_below ((Below.refl _ wy).alloc (Nat.le_refl _) _) (Nat.le_refl _)) (fun _ _ f=>f)
       have p0:wy.cell? ⟨bx,0,none⟩=some (.int .i64 (q.1.1:Nat)):=cell_of_row wy bx 0 _ _ _ HY.out.2
       have p1:wy.cell? ⟨bx,1,none⟩=some (.int .i64 (q.1.2:Nat)):=cell_of_row wy bx 1 _ _ _ HY.out.2
       have hmb:m < 100000:=by have:=HLT.out;have:=HN.out;omega
       have HOWN:=Lib.hid hown
       have HBX2:=Lib.hid (And.intro hbx (And.intro hb2 (And.intro hbl hmb)))
       clear hown hbx hb2 hbl hmb
       go_upto_region 20 with (at_builtin;refine wpList_append_lies _ rfl (.tmp 96) (.tmp 98) 54 rfl B2 104 i0 _ 2 16 Tryz.underlying54 hi hz0 hz1 hz2 rfl (by decide) (.slice A m c) m (flatK out) rfl (HOWN.out _) ⟨wy.heap.size,0,none⟩ 1 1 [.int .i64 (q.1.1:Nat),.int .i64 (q.1.2:Nat)] rfl rfl (World.news_of_block (heap_alloc_new _ _)) (by simp [Value.oneCell']) (by decide) (by have:=HBX2.out;unfold maxLen;omega) (by have:=HBX2.out;omega) (by have:=HBX2.out;have:=HY.out.1.lt;simp;omega) _ rfl ?_;intro g6 c6 w6 ho6 hgr6 hat6 hlt6)
       have happ:=EvW.app (c:=c6) (g:=g6) (n:=m+1) q.1 HY.out.1 (by rw [HOL.out]) ho6 hgr6
       have hX6:=(happ.2 bx HBX2.out.2.1.2.2.1 HBX2.out.2.2.1 HBX2.out.1).trans HY.out.2
       have H6:=Lib.hid (And.intro happ.1 hX6)
       clear ho6 hgr6 hat6 hlt6 happ hX6 p0 p1
       obtain⟨L,hL⟩:∃ L,l.length=L:=⟨_,rfl⟩
       have HL:=Lib.hid hL
       have cd6:=H6.out.1.du.cell
       unfold duV at cd6
       rw [hL] at cd6
       obtain⟨x,hx⟩:∃ x,q.1=x:=⟨_,rfl⟩
       have HXQ:=Lib.hid hx
       rw [hx] at H6
       have hnx:evenS i w0 ws (m+1)=⟨bumpP l (idxP l x) ((m:Int)+1+(w0:Int)),q.2,out++[x]⟩:=by
        rw [HS.out.2]
        unfold EvS.step
        rw [HQN.out,HOL.out]
        show (⟨bumpP l (idxP l q.1) ((m:Int)+1+(w0:Int)),q.2,out++[q.1]⟩:EvS)=_
        rw [hx]
       have HNX:=Lib.hid hnx
       clear hL hx cd hlen0 hnx
       go_wp2_with fail
       clear cd6
       go_loopg [104] L (fun g jv wz=>∃ (j:Nat),j+g=L∧jv=.int .i64 j∧Hid (EvW w3 wz gd gs cap B2 l (.slice (some ⟨g6,0,none⟩) (m+1) c6) (out++[x])∧wz.heap[bx]? = some (.cells #[.int .i64 (x.1:Nat),.int .i64 (x.2:Nat)] 104 (0,0))∧∀ j' y,j' < j→l[j']? = some y→keyP y≠x))
       case atStart=>exact⟨0,by omega,rfl,Lib.hid ⟨H6.out.1,H6.out.2,fun j' y h=>absurd h (by omega)⟩⟩
       case round=>
        obtain⟨j,hj,rfl,HZ⟩:=hrel
        have cd:=HZ.out.1.du.cell
        unfold duV at cd
        rw [HL.out] at cd
        by_cases hjl:j < L
        ·obtain⟨y,hy⟩:∃ y,l[j]? = some y:=⟨_,List.getElem?_eq_getElem (by rw [HL.out];exact hjl)⟩
         obtain⟨arr,a1,a2,a3,a4⟩:=HZ.out.1.du.is
         obtain⟨f0,f1,f2⟩:=a4 j y hy
         have c0:wr.cell? ⟨gs,j*3,none⟩=some (.int .i64 (y.k:Nat)):=(cell_of_row _ _ _ _ _ _ a1).trans f0
         have c1:wr.cell? ⟨gs,j*3+1,none⟩=some (.int .i64 (y.t:Nat)):=(cell_of_row _ _ _ _ _ _ a1).trans f1
         have p0:wr.cell? ⟨bx,0,none⟩=some (.int .i64 (x.1:Nat)):=cell_of_row wr bx 0 _ _ _ HZ.out.2.1
         have p1:wr.cell? ⟨bx,1,none⟩=some (.int .i64 (x.2:Nat)):=cell_of_row wr bx 1 _ _ _ HZ.out.2.1
         have hji:(j:Int) < (L:Int):=Int.ofNat_lt.2 hjl
         have HY2:=Lib.hid hy
         have HJ:=Lib.hid (And.intro hj hjl)
         clear a1 a2 a3 a4 f0 f1 f2 hy hj hjl
         by_cases hk:keyP y=x
         ·have hk1:y.k=x.1:=by rw [←hk];rfl
          have hk2:y.t=x.2:=by rw [←hk];rfl
          rw [hk1] at c0
          rw [hk2] at c1
          have HKX:=Lib.hid hk
          clear hk hk1 hk2
          go_wp2_with fail
          go_quiet (fail)
          go_upto_region 24 with fail
          obtain⟨dn,hdn⟩:∃ d:Int,(m:Int)+1+(w0:Int)=d:=⟨_,rfl⟩
          have hm1:(0:Int)≤(m:Int)+1∧(m:Int)+1≤1000000∧0≤dn∧dn≤1000000:=by have:=HLT.out;have:=HN.out;have:=HT.out;omega
          have hfx:=fun W (hW:DuH W gd gs cap (l.set j { y with due:=dn }))=>hfix_any W gd gs cap (l.set j { y with due:=dn }) j hW (by rw [List.length_set,HL.out];exact HJ.out.2) (by rw [List.length_set];have:=HLL.out;have:=HT.out;omega)
          have hbp:bumpP l j dn=(downP l.length (l.set j { y with due:=dn }) j l.length).1:=by unfold bumpP;rw [HY2.out]
          have hhp:=bumpP_heap HINV.out.heap j dn (fun z hz=>by have h9:z.due≤(out.length:Int)+w0:=HINV.out.due_le z hz;have:=HOL.out;omega)
          rw [hbp] at hhp
          have hfe:=fixP_eq (l:=l.set j { y with due:=dn }) (i:=j) (by rw [List.length_set];exact hhp) (by rw [List.length_set,HL.out];exact HJ.out.2)
          simp only [hfe] at hfx
          simp only [List.length_set] at hfx
          rw [←hbp] at hfx
          unfold ifV at hfx
          have hix:idxP l x=j:=idxP_of l j (by rw [HL.out];exact Nat.le_of_lt HJ.out.2) HZ.out.2.2 (fun y' hy'=>by rw [HY2.out] at hy';rw [←Option.some.inj hy'];exact HKX.out)
          have w1:wrap64 ((m:Int)+1)=(m:Int)+1:=wr_id hm1.1 hm1.2.1
          have w2:wrap64 ((m:Int)+1+(w0:Int))=dn:=by rw [hdn];exact wr_id hm1.2.2.1 hm1.2.2.2
          have hW:EvW w3 (wr.drewN nq) gd gs cap B2 l (.slice (some ⟨g6,0,none⟩) (m+1) c6) (out++[x]):=HZ.out.1.same wr.heap.size (Nat.le_refl _) (Only.of_below (bl_drewN (Below.refl _ wr) nq) (Nat.le_refl _))
          have hDN:=hW.du.put HY2.out dn
          obtain⟨arr,a1,a2,a3,a4⟩:=hW.du.is
          have c2:(wr.drewN nq).cell? ⟨gs,j*3+2,none⟩=some (.int .i64 y.due):=(cell_of_row _ _ _ _ _ _ a1).trans (a4 j y HY2.out).2.2
          have z2:(wr.drewN nq).frozen? ⟨gs,j*3+2,none⟩=false:=frozen_of_row _ _ _ _ _ a1
          have cd2:=hW.du.cell
          unfold duV at cd2
          rw [HL.out] at cd2
          generalize wr.drewN nq=wn at *
          have HFX:=Lib.hid hfx
          have HW2:=Lib.hid hW
          have HDN2:=Lib.hid hDN
          have HIX:=Lib.hid (And.intro hix hdn)
          clear hfx hbp hhp hfe hix hW hDN hm1 hdn a1 a2 a3 a4 c0 c1 p0 p1 cd
          go_wp2_with (go_at_call 91;refine (HFX.out _ HDN2.out).mono ?_;rintro r w9 ⟨rfl,hd9,ho9⟩;have HD9:=Lib.hid hd9;have HO9:=Lib.hid ho9;clear hd9 ho9)
          go_roundg g'
          case rel=>
           refine⟨m+1,HM9.out,by rw [HNX.out],Lib.hid ?_⟩
           rw [HNX.out,HIX.out.1,HIX.out.2]
           exact HW2.out.du_to HD9.out ((Only.set1 (F:=fun k=>k=gs) (p:=⟨gs,j*3+2,none⟩) (Only.refl _ wn) rfl _).trans HO9.out (fun k f=>.inl f))
          case measure=>exact Nat.lt_succ_self _
         ·have HKX:=Lib.hid hk
          obtain⟨yk,hyk⟩:∃ z:Int,(y.k:Int)=z:=⟨_,rfl⟩
          obtain⟨yt,hyt⟩:∃ z:Int,(y.t:Int)=z:=⟨_,rfl⟩
          obtain⟨xk,hxk⟩:∃ z:Int,(x.1:Int)=z:=⟨_,rfl⟩
          obtain⟨xt,hxt⟩:∃ z:Int,(x.2:Int)=z:=⟨_,rfl⟩
          rw [hyk] at c0
          rw [hyt] at c1
          rw [hxk] at p0
          rw [hxt] at p1
          have HLE:=Lib.hid (And.intro hyk (And.intro hyt (And.intro hxk hxt)))
          by_cases hne:yk=xk
          ·have hne2:¬yt=xt:=fun e=>hk (by
            have e1:y.k=x.1:=by omega
            have e2:y.t=x.2:=by omega
            show (y.k,y.t)=x
            rw [e1,e2])
           subst hne
           have hnb:(yt == xt)=false:=beq_eq_false_iff_ne.2 hne2
           clear hk hyk hyt hxk hxt
           go_wp2_with fail
           go_quiet (fail)
           obtain⟨g2,rfl⟩:∃ g2,gk=g2+1:=⟨gk - 1,by have:=HJ.out;omega⟩
           have HG2:Hid (j+1+g2=L):=Lib.hid (by have:=HJ.out;omega)
           have HALL:Hid (∀ j' y',j' < j+1→l[j']? = some y'→keyP y'≠x):=Lib.hid (fun j' y' hj' hy'=>by
            rcases Nat.lt_or_eq_of_le (Nat.le_of_lt_succ hj') with e | e
            ·exact HZ.out.2.2 j' y' e hy'
            ·subst e
             rw [HY2.out] at hy'
             rw [←Option.some.inj hy'];exact HKX.out)
           have hj1:(0:Int)≤(j:Int)+1∧(j:Int)+1≤1000000:=by have:=HJ.out;have:=HL.out;have:=HLL.out;have:=HT.out;omega
           have wj:wrap64 ((j:Int)+1)=(j:Int)+1:=wr_id hj1.1 hj1.2
           clear hj1
           go_wp2_with fail
           go_roundg g2
           case rel=>exact⟨j+1,HG2.out,by first | (simp;done) | (simp;exact wj),Lib.hid ⟨HZ.out.1.same wr.heap.size (Nat.le_refl _) (Only.of_below (bl_drewN (Below.refl _ wr) nq) (Nat.le_refl _)),HZ.out.2.1,HALL.out⟩⟩
           case measure=>exact Nat.lt_succ_self _
          ·have hnb:(yk == xk)=false:=beq_eq_false_iff_ne.2 hne
           clear hk hyk hyt hxk hxt
           go_wp2_with fail
           go_quiet (fail)
           obtain⟨g2,rfl⟩:∃ g2,gk=g2+1:=⟨gk - 1,by have:=HJ.out;omega⟩
           have HG2:Hid (j+1+g2=L):=Lib.hid (by have:=HJ.out;omega)
           have HALL:Hid (∀ j' y',j' < j+1→l[j']? = some y'→keyP y'≠x):=Lib.hid (fun j' y' hj' hy'=>by
            rcases Nat.lt_or_eq_of_le (Nat.le_of_lt_succ hj') with e | e
            ·exact HZ.out.2.2 j' y' e hy'
            ·subst e
             rw [HY2.out] at hy'
             rw [←Option.some.inj hy'];exact HKX.out)
           have hj1:(0:Int)≤(j:Int)+1∧(j:Int)+1≤1000000:=by have:=HJ.out;have:=HL.out;have:=HLL.out;have:=HT.out;omega
           have wj:wrap64 ((j:Int)+1)=(j:Int)+1:=wr_id hj1.1 hj1.2
           clear hj1
           go_wp2_with fail
           go_roundg g2
           case rel=>exact⟨j+1,HG2.out,by first | (simp;done) | (simp;exact wj),Lib.hid ⟨HZ.out.1.same wr.heap.size (Nat.le_refl _) (Only.of_below (bl_drewN (Below.refl _ wr) nq) (Nat.le_refl _)),HZ.out.2.1,HALL.out⟩⟩
           case measure=>exact Nat.lt_succ_self _
        ·have hje:j=L:=by omega
         subst hje
         have hji:¬((j:Int) < (j:Int)):=by omega
         have hix:idxP l x=j:=idxP_of l j (by rw [HL.out];exact Nat.le_refl _) HZ.out.2.2 (fun y' hy'=>by rw [List.getElem?_eq_none (by rw [HL.out];exact Nat.le_refl _)] at hy';cases hy')
         have hbp:∀ d,bumpP l j d=l:=fun d=>by unfold bumpP;rw [List.getElem?_eq_none (by rw [HL.out];exact Nat.le_refl _)]
         have HIX:=Lib.hid (And.intro hix hbp)
         clear hix hbp hjl hj
         go_wp2_with fail
         go_roundg g'
         case rel=>
          refine⟨m+1,HM9.out,by rw [HNX.out],Lib.hid ?_⟩
          rw [HNX.out,HIX.out.1,HIX.out.2]
          exact HZ.out.1
         case measure=>exact Nat.lt_succ_self _
    ·have hmn:m=n:=by omega
     subst hmn
     obtain⟨A,c,rfl⟩:=own_slice HQ.out.own
     have hol:(evenS i w0 ws m).out.length=m:=evenP_len i w0 ws m
     have hQ:=HQ.out
     have hpk:∃ g,A=some ⟨g,0,none⟩∧w3.heap.size≤g∧g < wr.heap.size:=by
      obtain⟨g,cp,e,h1,h2⟩:=hQ.own.form (by rw [hol];exact HN1.out)
      injection e with e1
      exact⟨g,e1,by have:=hQ.lt;omega,h2⟩
     obtain⟨g,rfl,hg1,hg2⟩:=hpk
     rw [hol]
     have hp:=pks_of hQ.own
     have HP:=Lib.hid (And.intro hp (And.intro hg1 (And.intro hg2 hQ.bel)))
     clear hlt hm hQ hol hp hg1 hg2
     go_wp2_with fail
     refine bodyPost_ret (results_tmp2 rfl _ _ _) rfl ?_
     exact⟨g,c,rfl,HP.out⟩
end Go.Proofs.YtckmkaeopnnbbaaGreatDoor.As.T
