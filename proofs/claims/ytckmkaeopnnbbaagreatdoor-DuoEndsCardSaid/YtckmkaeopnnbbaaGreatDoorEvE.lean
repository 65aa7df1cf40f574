/- The walk of container/heap's down over a row of dues. -/
import Derived.Test.YtckmkaeopnnbbaaGreatDoorGs
set_option linter.unusedVariables false
set_option linter.unusedSimpArgs false
set_option maxRecDepth 20000
namespace Go.Proofs.YtckmkaeopnnbbaaGreatDoor.As.T
open Go.RowKit

theorem downP_fuel:∀ (f g:Nat) (l:List It) (i n:Nat),n≤i+f→n≤i+g→downP f l i n=downP g l i n
 | 0,0,_,_,_,_,_=>rfl
 | 0,g+1,l,i,n,h,_=>by unfold downP;rw [if_pos (by omega)]
 | f+1,0,l,i,n,_,h=>by
  conv=>lhs;unfold downP
  rw [if_pos (by omega)];rfl
 | f+1,g+1,l,i,n,h1,h2=>by
  unfold downP
  split
  ·rfl
  ·rename_i hc
   split
   ·rfl
   ·obtain⟨k1,k2,_⟩:=kidP_lt (l:=l) (i:=i) (n:=n) (by omega)
    exact downP_fuel f g _ _ _ (by omega) (by omega)
set_option maxHeartbeats 8000000 in
theorem down_any(w:World)(gd gs cap:Nat)(l:List It)(i0:Nat)(h:DuH w gd gs cap l)(hj:i0 < l.length)(hn:l.length≤100):Calls Tryz.prog 138 #[ifV gd,.int .i64 (i0:Nat),.int .i64 (l.length:Nat)] w fun e w'=>∃ b:Bool,e=.returned (.bool b)∧(b=true↔i0 < (downP l.length l i0 l.length).2)∧DuH w' gd gs cap (downP l.length l i0 l.length).1∧Only (fun b=>b=gs) w w':=by
 unfold ifV
 obtain⟨n,hN⟩:∃ n,l.length=n:=⟨_,rfl⟩
 rw [hN] at hj ⊢
 have HH:=Lib.hid h
 have HN:=Lib.hid hN
 have HJ:=Lib.hid hj
 have HB:=Lib.hid (show n≤100 by omega)
 clear h hN hj hn
 go_enter Tryz.func138,Tryz.ntmps138
 go_wp2_with fail
 go_loopg [7] n (fun g iv wr=>∃ (i:Nat) (l':List It),n≤g+i∧iv=.int .i64 i∧Hid (i < n∧i0≤i∧l'.length=n∧DuH wr gd gs cap l'∧downP n l' i n=downP n l i0 n∧Only (fun b=>b=gs) w wr))
 case atStart=>exact⟨i0,l,by omega,rfl,Lib.hid ⟨HJ.out,Nat.le_refl _,HN.out,HH.out,rfl,Only.refl _ w⟩⟩
 case round=>
  obtain⟨i,l',hi,rfl,HR⟩:=hrel
  have hb1:=HB.out
  have hb2:=HR.out.1
  obtain⟨j1,hj1⟩:∃ j1,2*i+1=j1:=⟨_,rfl⟩
  have e1:wrap64 (2*(i:Int))=2*(i:Int):=by unfold wrap64;omega
  have e2:wrap64 (2*(i:Int)+1)=(j1:Int):=by unfold wrap64;omega
  have hgw:=fun W (hb:Below wr.heap.size wr W)=>HR.out.2.2.2.1.below hb HR.out.2.2.2.1.lt.1 HR.out.2.2.2.1.lt.2
  have mL:=fun W (hb:Below wr.heap.size wr W)=>(hgw W hb).less
  have mL0:=mL wr (Below.refl _ wr)
  rw [tsz] at mL0
  simp only [tsz] at mL
  have HML:=Lib.hid mL
  have HGW:=Lib.hid hgw
  have hout:∀ (i':Nat) (L:List It) (W:World),downP n l' i n=(L,i')→DuH W gd gs cap L→i0≤i'→Only (fun b=>b=gs) w W→((decide (i0 < i')=true↔i0 < (downP n l i0 n).2)∧DuH W gd gs cap (downP n l i0 n).1∧Only (fun b=>b=gs) w W):=fun i' L W he hd hle ho=>by
   rw [←HR.out.2.2.2.2.1,he]
   exact⟨decide_eq_true_iff,hd,ho⟩
  have HOUT:=Lib.hid hout
  clear mL hgw hout
  by_cases hA:n≤j1
  ·have hA2:(n:Int)≤(j1:Int):=by omega
   have hz:downP n l' i n=(l',i):=by
    cases n with
    | zero=>omega
    | succ n'=>unfold downP;rw [if_pos (by omega)]
   have hO:=HOUT.out i l' wr hz HR.out.2.2.2.1 HR.out.2.1 HR.out.2.2.2.2.2
   have HO:=Lib.hid hO
   clear hA hb2 hb1 hj1 hO hz
   go_wp2_with fail
   go_ret
   exact⟨_,rfl,HO.out⟩
  ·have hA2:(j1:Int) < (n:Int):=by omega
   have hA3:¬(j1:Int) < 0:=by omega
   obtain⟨j2,hj2⟩:∃ j2,j1+1=j2:=⟨_,rfl⟩
   have e3:wrap64 ((j1:Int)+1)=(j2:Int):=by unfold wrap64;omega
   have hstop:∀ k,kidP l' i n=k→¬dueP l' k < dueP l' i→downP n l' i n=(l',i):=fun k hk hd=>by
    obtain⟨n',hn'⟩:∃ n',n=n'+1:=⟨n - 1,by omega⟩
    conv=>lhs;arg 1;rw [hn']
    unfold downP
    rw [if_neg (by omega),hk,if_pos hd]
   have hgo:∀ k,kidP l' i n=k→dueP l' k < dueP l' i→downP n l' i n=downP n (swapP l' i k) k n:=fun k hk hd=>by
    obtain⟨n',hn'⟩:∃ n',n=n'+1:=⟨n - 1,by omega⟩
    have hk2:=(kidP_lt (l:=l') (i:=i) (n:=n) (by omega)).2.1
    conv=>lhs;arg 1;rw [hn']
    conv=>lhs;unfold downP
    rw [if_neg (by omega),hk,if_neg (by omega)]
    exact downP_fuel _ _ _ _ _ (by omega) (by omega)
   have HSTOP:=Lib.hid hstop
   have HGO:=Lib.hid hgo
   have HJ1:=Lib.hid hj1
   have HJ2:=Lib.hid hj2
   have hlen:=HR.out.2.2.1
   have hls:=fun W (hb:Below wr.heap.size wr W) (a b:Nat) (ha:a < n) (hb2:b < n)=>less_any W gs cap l' a b (HGW.out W hb).is (by omega) (by omega) (by omega)
   have hsw:=fun W (hb:Below wr.heap.size wr W) (a b:Nat) (ha:a < n) (hb2:b < n) (hne:a≠b)=>swap_any W gs cap l' a b (HGW.out W hb).is (by omega) (by omega) (by omega) hne
   have HLS:=Lib.hid hls
   have HSW:=Lib.hid hsw
   have HA:=Lib.hid hA
   have HB2:=Lib.hid hb2
   clear hlen hls hsw hstop hgo hj1 hA
   by_cases hC:j2 < n
   ·have hC2:(j2:Int) < (n:Int):=by omega
    have HC:=Lib.hid hC
    by_cases hD:dueP l' j2 < dueP l' j1
    ·have hk:kidP l' i n=j2:=by
      have:=HJ1.out;unfold kidP;rw [if_pos (by rw [show 2*i+2=j2 by omega,show 2*i+1=j1 by omega];exact⟨hC,hD⟩)];omega
     have hkl:j2 < n:=by omega
     have hki:i < j2:=by have:=HJ1.out;have:=HJ2.out;omega
     have HK:=Lib.hid (And.intro hk (And.intro hkl hki))
     have hl1:=HLS.out wr (Below.refl _ wr) j2 j1 (by have:=HC.out;omega) (by have:=HA.out;omega)
     rw [decide_eq_true hD] at hl1
     have HL1:=Lib.hid hl1
     have hl2:=fun W hb=>HLS.out W hb j2 i HK.out.2.1 HB2.out
     by_cases hE:dueP l' j2 < dueP l' i
     ·simp only [decide_eq_true hE] at hl2
      have HL2:=Lib.hid hl2
      have HE:=Lib.hid hE
      have HS:=Lib.hid (fun W hb=>HSW.out W hb i j2 HB2.out HK.out.2.1 (by have:=HK.out.2.2;omega))
      clear hl2 hE hk hkl hki hb1 hb2 hj2 hD hl1
      go_wp2_with (first | (go_at_call 190;refine (HL1.out).mono ?_;clear HL1;rintro r w3 ⟨rfl,hb3⟩;have mL3:=HML.out w3 hb3;have HB3:=Lib.hid hb3;clear hb3) | (go_at_call 190;refine (HL2.out _ HB3.out).mono ?_;rintro r w4 ⟨rfl,hb4⟩;have hb5:=HB3.out.trans (hb4.mono HB3.out.size);have mS:=(HGW.out w4 hb5).swap;rw [tsz] at mS;have HB5:=Lib.hid hb5;clear hb4 hb5) | (go_at_call 192;refine (HS.out _ HB5.out).mono ?_;rintro r w6 ⟨rfl,hd6,ho6⟩;have HD6:=Lib.hid hd6;have HO6:=Lib.hid ho6;clear hd6 ho6))
      obtain⟨g',rfl⟩:∃ g',gk=g'+1:=⟨gk - 1,by have:=HB2.out;omega⟩
      go_roundg g'
      case rel=>
       refine⟨j2,swapP l' i j2,by have:=HK.out.2.2;omega,rfl,Lib.hid ⟨HK.out.2.1,by have:=HK.out.2.2;have:=HR.out.2.1;omega,by rw [swapP_len];exact HR.out.2.2.1,(HGW.out _ HB5.out).swapped HO6.out HD6.out (swapP_len _ _ _),?_,?_⟩⟩
       ·rw [←HR.out.2.2.2.2.1];exact (HGO.out _ HK.out.1 HE.out).symm
       ·exact (HR.out.2.2.2.2.2.trans (Only.of_below HB5.out (Nat.le_refl _)) (fun k f=>.inl f)).trans HO6.out (fun k f=>.inl f)
      case measure=>omega
     ·simp only [decide_eq_false hE] at hl2
      have HL2:=Lib.hid hl2
      have HE:=Lib.hid hE
      clear hl2 hE hk hkl hki hb1 hb2 hj2 hD hl1
      go_wp2_with (first | (go_at_call 190;refine (HL1.out).mono ?_;clear HL1;rintro r w3 ⟨rfl,hb3⟩;have mL3:=HML.out w3 hb3;have HB3:=Lib.hid hb3;clear hb3) | (go_at_call 190;refine (HL2.out _ HB3.out).mono ?_;rintro r w4 ⟨rfl,hb4⟩;have hb5:=HB3.out.trans (hb4.mono HB3.out.size);have mS:=(HGW.out w4 hb5).swap;rw [tsz] at mS;have HB5:=Lib.hid hb5;clear hb4 hb5))
      have hO:=HOUT.out i l' w4 (HSTOP.out _ HK.out.1 HE.out) (HGW.out _ HB5.out) HR.out.2.1 (HR.out.2.2.2.2.2.trans (Only.of_below HB5.out (Nat.le_refl _)) (fun k f=>.inl f))
      go_ret
      exact⟨_,rfl,hO⟩
    ·have hk:kidP l' i n=j1:=by
      have:=HJ1.out;unfold kidP;rw [if_neg (by rw [show 2*i+2=j2 by omega,show 2*i+1=j1 by omega];exact fun e=>hD e.2)];omega
     have hkl:j1 < n:=by have:=HA.out;omega
     have hki:i < j1:=by have:=HJ1.out;have:=HJ2.out;omega
     have HK:=Lib.hid (And.intro hk (And.intro hkl hki))
     have hl1:=HLS.out wr (Below.refl _ wr) j2 j1 (by have:=HC.out;omega) (by have:=HA.out;omega)
     rw [decide_eq_false hD] at hl1
     have HL1:=Lib.hid hl1
     have hl2:=fun W hb=>HLS.out W hb j1 i HK.out.2.1 HB2.out
     by_cases hE:dueP l' j1 < dueP l' i
     ·simp only [decide_eq_true hE] at hl2
      have HL2:=Lib.hid hl2
      have HE:=Lib.hid hE
      have HS:=Lib.hid (fun W hb=>HSW.out W hb i j1 HB2.out HK.out.2.1 (by have:=HK.out.2.2;omega))
      clear hl2 hE hk hkl hki hb1 hb2 hj2 hD hl1
      go_wp2_with (first | (go_at_call 190;refine (HL1.out).mono ?_;clear HL1;rintro r w3 ⟨rfl,hb3⟩;have mL3:=HML.out w3 hb3;have HB3:=Lib.hid hb3;clear hb3) | (go_at_call 190;refine (HL2.out _ HB3.out).mono ?_;rintro r w4 ⟨rfl,hb4⟩;have hb5:=HB3.out.trans (hb4.mono HB3.out.size);have mS:=(HGW.out w4 hb5).swap;rw [tsz] at mS;have HB5:=Lib.hid hb5;clear hb4 hb5) | (go_at_call 192;refine (HS.out _ HB5.out).mono ?_;rintro r w6 ⟨rfl,hd6,ho6⟩;have HD6:=Lib.hid hd6;have HO6:=Lib.hid ho6;clear hd6 ho6))
      obtain⟨g',rfl⟩:∃ g',gk=g'+1:=⟨gk - 1,by have:=HB2.out;omega⟩
      go_roundg g'
      case rel=>
       refine⟨j1,swapP l' i j1,by have:=HK.out.2.2;omega,rfl,Lib.hid ⟨HK.out.2.1,by have:=HK.out.2.2;have:=HR.out.2.1;omega,by rw [swapP_len];exact HR.out.2.2.1,(HGW.out _ HB5.out).swapped HO6.out HD6.out (swapP_len _ _ _),?_,?_⟩⟩
       ·rw [←HR.out.2.2.2.2.1];exact (HGO.out _ HK.out.1 HE.out).symm
       ·exact (HR.out.2.2.2.2.2.trans (Only.of_below HB5.out (Nat.le_refl _)) (fun k f=>.inl f)).trans HO6.out (fun k f=>.inl f)
      case measure=>omega
     ·simp only [decide_eq_false hE] at hl2
      have HL2:=Lib.hid hl2
      have HE:=Lib.hid hE
      clear hl2 hE hk hkl hki hb1 hb2 hj2 hD hl1
      go_wp2_with (first | (go_at_call 190;refine (HL1.out).mono ?_;clear HL1;rintro r w3 ⟨rfl,hb3⟩;have mL3:=HML.out w3 hb3;have HB3:=Lib.hid hb3;clear hb3) | (go_at_call 190;refine (HL2.out _ HB3.out).mono ?_;rintro r w4 ⟨rfl,hb4⟩;have hb5:=HB3.out.trans (hb4.mono HB3.out.size);have mS:=(HGW.out w4 hb5).swap;rw [tsz] at mS;have HB5:=Lib.hid hb5;clear hb4 hb5))
      have hO:=HOUT.out i l' w4 (HSTOP.out _ HK.out.1 HE.out) (HGW.out _ HB5.out) HR.out.2.1 (HR.out.2.2.2.2.2.trans (Only.of_below HB5.out (Nat.le_refl _)) (fun k f=>.inl f))
      go_ret
      exact⟨_,rfl,hO⟩
   ·have hC2:(n:Int)≤(j2:Int):=by omega
    have hk:kidP l' i n=j1:=by
     have:=HJ1.out;unfold kidP;rw [if_neg (by omega)];omega
    have hkl:j1 < n:=by have:=HA.out;omega
    have hki:i < j1:=by have:=HJ1.out;have:=HJ2.out;omega
    have HK:=Lib.hid (And.intro hk (And.intro hkl hki))
    have hl2:=fun W hb=>HLS.out W hb j1 i HK.out.2.1 HB2.out
    by_cases hE:dueP l' j1 < dueP l' i
    ·simp only [decide_eq_true hE] at hl2
     have HL2:=Lib.hid hl2
     have HE:=Lib.hid hE
     have HS:=Lib.hid (fun W hb=>HSW.out W hb i j1 HB2.out HK.out.2.1 (by have:=HK.out.2.2;omega))
     clear hl2 hE hk hkl hki hb1 hb2 hj2
     go_wp2_with (first | (go_at_call 190;refine (HL2.out _ (Below.refl _ wr)).mono ?_;rintro r w4 ⟨rfl,hb5⟩;have mS:=(HGW.out w4 hb5).swap;rw [tsz] at mS;have HB5:=Lib.hid hb5;clear hb5) | (go_at_call 192;refine (HS.out _ HB5.out).mono ?_;rintro r w6 ⟨rfl,hd6,ho6⟩;have HD6:=Lib.hid hd6;have HO6:=Lib.hid ho6;clear hd6 ho6))
     obtain⟨g',rfl⟩:∃ g',gk=g'+1:=⟨gk - 1,by have:=HB2.out;omega⟩
     go_roundg g'
     case rel=>
      refine⟨j1,swapP l' i j1,by have:=HK.out.2.2;omega,rfl,Lib.hid ⟨HK.out.2.1,by have:=HK.out.2.2;have:=HR.out.2.1;omega,by rw [swapP_len];exact HR.out.2.2.1,(HGW.out _ HB5.out).swapped HO6.out HD6.out (swapP_len _ _ _),?_,?_⟩⟩
      ·rw [←HR.out.2.2.2.2.1];exact (HGO.out _ HK.out.1 HE.out).symm
      ·exact (HR.out.2.2.2.2.2.trans (Only.of_below HB5.out (Nat.le_refl _)) (fun k f=>.inl f)).trans HO6.out (fun k f=>.inl f)
     case measure=>omega
    ·simp only [decide_eq_false hE] at hl2
     have HL2:=Lib.hid hl2
     have HE:=Lib.hid hE
     clear hl2 hE hk hkl hki hb1 hb2 hj2
     go_wp2_with (first | (go_at_call 190;refine (HL2.out _ (Below.refl _ wr)).mono ?_;rintro r w4 ⟨rfl,hb5⟩;have mS:=(HGW.out w4 hb5).swap;rw [tsz] at mS;have HB5:=Lib.hid hb5;clear hb5))
     have hO:=HOUT.out i l' w4 (HSTOP.out _ HK.out.1 HE.out) (HGW.out _ HB5.out) HR.out.2.1 (HR.out.2.2.2.2.2.trans (Only.of_below HB5.out (Nat.le_refl _)) (fun k f=>.inl f))
     go_ret
     exact⟨_,rfl,hO⟩
end Go.Proofs.YtckmkaeopnnbbaaGreatDoor.As.T
