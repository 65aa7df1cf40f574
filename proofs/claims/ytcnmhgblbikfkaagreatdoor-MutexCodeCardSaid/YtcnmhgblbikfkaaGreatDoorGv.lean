/- The walks of the package deadlatchref15: numbers. The walks of the package deadlatchref15: what is filled in. The walks of the package deadlatchref15: the lines of its calls. The walks of the package deadlatchref20: the lines of its calls. -/
import Derived.Test.YtcnmhgblbikfkaaGreatDoorGo
import Derived.Test.YtcnmhgblbikfkaaGreatDoorGu
import Derived.Test.YtcnmhgblbikfkaaGreatDoorGb
import Derived.BigQuiet
import Derived.Deep.QuietTactic
import Derived.Deep.RegionWith
import Derived.Laws.BytesString
import Derived.Laws.IdiomStrings
section
set_option linter.unusedVariables false
set_option maxRecDepth 2000
namespace Go.Proofs.YtcnmhgblbikfkaaGreatDoor.As
open Go.RowKit

theorem conv1(W:World)(b:Nat)(d:Nat)(hd:d < 256)(hc:W.cell? ⟨b,0,none⟩=some (.int .u8 (d:Int))):(convert 41 9 (.slice (some ⟨b,0,none⟩) 1 1)).run Tryz.prog W=.ok (.string ⟨#[UInt8.ofNat d]⟩) W:=by
 have h1:=run_convert_bytes_back (P := Tryz.prog) W 41 9 5 ⟨b,0,none⟩ 1 [UInt8.ofNat d] (by kernel_rfl) (by kernel_rfl) (by kernel_rfl) (fun j hj=>by
  have:j=0:=by simp at hj;omega
  subst this
  have e:(UInt8.ofNat d).toNat=d:=by rw [UInt8.toNat_ofNat'];omega
  show W.cell? ⟨b,0+0,none⟩=some (.int .u8 (((UInt8.ofNat d).toNat:Nat):Int))
  rw [e];exact hc)
 exact h1
theorem keepB{W w':World}{B:Nat}(hb:Below B W w')(hB:W.heap.size≤B):∀ b,b < W.heap.size→w'.cell? ⟨b,0,none⟩=W.cell? ⟨b,0,none⟩:=fun b h=>World.cell?_of_block (w:=W) (a:=⟨b,0,none⟩) (hb.block b (by omega))
theorem bl_drew{B:Nat}{a w:World}(h:Below B a w):Below B a w.drew:=⟨h.os,h.tape,h.output,h.size,h.block⟩
theorem num15_small(n:Nat)(w:World)(h:n < 10):Calls Tryz.prog 50 #[.int .i64 n] w fun e w'=>e=.returned (.string ⟨(decB n).toArray⟩)∧Below w.heap.size w w':=by
 have e1:IntKind.i64.wrap (48+(n:Int))=((48+n:Nat):Int):=by rw [IntKind.wrap_i64];omega
 have e2:IntKind.u8.wrap ((48+n:Nat):Int)=((48+n:Nat):Int):=by rw [IntKind.wrap_u8];omega
 have hC:∀ W b,W.cell? ⟨b,0,none⟩=some (.int .u8 ((48+n:Nat):Int))→(convert 41 9 (.slice (some ⟨b,0,none⟩) 1 1)).run Tryz.prog W=.ok (.string ⟨(decB n).toArray⟩) W:=fun W b hc=>by rw [conv1 W b _ (by omega) hc,decB_small h]
 generalize ((48+n:Nat):Int)=x at *
 go_enter Tryz.func50,Tryz.ntmps50
 go_wp2_with fail
 go_ret
 exact⟨rfl,(Below.refl _ w).alloc (Nat.le_refl _) _⟩
set_option maxHeartbeats 4000000 in
theorem num15_big(n:Nat)(w:World)(h:¬n < 10)(hb:n≤1000000000)(ih:∀ w:World,Calls Tryz.prog 50 #[.int .i64 ((n / 10:Nat):Int)] w fun e w'=>e=.returned (.string ⟨(decB (n / 10)).toArray⟩)∧Below w.heap.size w w'):Calls Tryz.prog 50 #[.int .i64 n] w fun e w'=>e=.returned (.string ⟨(decB n).toArray⟩)∧Below w.heap.size w w':=by
 obtain⟨r,hr⟩:∃ r:ByteArray,r=⟨(decB n).toArray⟩:=⟨_,rfl⟩
 obtain⟨d,hd⟩:∃ d:ByteArray,d=⟨#[UInt8.ofNat (48+n % 10)]⟩:=⟨_,rfl⟩
 obtain⟨p,hp⟩:∃ p:ByteArray,p=⟨(decB (n / 10)).toArray⟩:=⟨_,rfl⟩
 have hrd:p++d=r:=by
  rw [hr,hd,hp,decB_big h]
  apply ByteArray.ext
  rw [ByteArray.data_append]
  simp
 have hps:p.size≤1000000:=by
  have h1:=decB_len 9 (n / 10) (by omega)
  have h2:p.size=(decB (n / 10)).length:=by rw [hp];rfl
  omega
 have hds:d.size≤1000000:=by
  have h2:d.size=1:=by rw [hd];rfl
  omega
 have q1:(n:Int).tdiv 10=((n / 10:Nat):Int):=rfl
 have q2:(n:Int).tmod 10=((n % 10:Nat):Int):=rfl
 have q3:IntKind.i64.wrap ((n / 10:Nat):Int)=((n / 10:Nat):Int):=by rw [IntKind.wrap_i64];omega
 have q4:IntKind.i64.wrap ((n % 10:Nat):Int)=((n % 10:Nat):Int):=by rw [IntKind.wrap_i64];omega
 have e1:IntKind.i64.wrap (48+((n % 10:Nat):Int))=((48+n % 10:Nat):Int):=by rw [IntKind.wrap_i64];omega
 have e2:IntKind.u8.wrap ((48+n % 10:Nat):Int)=((48+n % 10:Nat):Int):=by rw [IntKind.wrap_u8];omega
 have hC:∀ W b,W.cell? ⟨b,0,none⟩=some (.int .u8 ((48+n % 10:Nat):Int))→(convert 41 9 (.slice (some ⟨b,0,none⟩) 1 1)).run Tryz.prog W=.ok (.string d) W:=fun W b hc=>by rw [conv1 W b _ (by omega) hc,hd]
 have hn:(10:Int)≤(n:Int):=by omega
 rw [←hp] at ih
 rw [←hr]
 clear hr hd hp h hb
 generalize ((48+n % 10:Nat):Int)=x at *
 generalize ((n % 10:Nat):Int)=y at *
 generalize ((n / 10:Nat):Int)=z at *
 generalize (n:Int)=m at *
 go_enter Tryz.func50,Tryz.ntmps50
 go_wp2_with fail
 go_region_with (go_at_call 50;refine (ih _).mono ?_;rintro e w' ⟨rfl,hb'⟩;have hk:=keepB hb' (Nat.le_refl _))
 all_goals go_wp2_with fail
 all_goals go_ret
 all_goals refine⟨rfl,?_⟩
 all_goals first
  | exact ((bl_drew (Below.refl _ w)).trans (hb'.mono (Nat.le_refl _))).alloc (show w.heap.size≤w'.heap.size from hb'.size) _
  | exact (bl_drew ((Below.refl _ w).alloc (Nat.le_refl _) _)).trans (hb'.mono (by simp))
theorem num15_go(m:Nat):∀ (n:Nat) (w:World),n≤m→n≤1000000000→Calls Tryz.prog 50 #[.int .i64 n] w fun e w'=>e=.returned (.string ⟨(decB n).toArray⟩)∧Below w.heap.size w w':=by
 induction m with
 | zero=>intro n w hn _;exact num15_small n w (by omega)
 | succ m ih=>
  intro n w hn hb
  by_cases h:n < 10
  ·exact num15_small n w h
  ·exact num15_big n w h hb (fun w=>ih (n / 10) w (by omega) (by omega))
theorem num15_any(n:Nat)(w:World)(h:n≤1000000000):Calls Tryz.prog 50 #[.int .i64 n] w fun e w'=>e=.returned (.string ⟨(decB n).toArray⟩)∧Below w.heap.size w w':=num15_go n n w (Nat.le_refl _) h
end Go.Proofs.YtcnmhgblbikfkaaGreatDoor.As
end

section
set_option linter.unusedVariables false
namespace Go.Proofs.YtcnmhgblbikfkaaGreatDoor.As
open Go.RowKit

theorem app_toList(a b:ByteArray):(a++b).data.toList=a.data.toList++b.data.toList:=by rw [ByteArray.data_append,Array.toList_append]
theorem mid_toList(s:ByteArray)(i j:Nat):(s.extract i j).data.toList=(s.data.toList.drop i).take (j - i):=by rw [Lib.extract_data]
theorem size_toList(a:ByteArray):a.size=a.data.toList.length:=(Array.length_toList).symm
theorem inBr_short{l:B8}(h:l.length≤1):inBr l=true→False:=by
 match l,h with
 | [],_=>intro e;cases e
 | [x],_=>intro e;simp [inBr] at e
set_option maxHeartbeats 8000000 in
theorem fill15_any(w:World)(s:ByteArray)(base t:Nat)(hs:s.size≤100000)(hb:base≤1000000)(ht:t≤1000000):
  Calls Tryz.prog 46 #[.string s,.int .i64 base,.int .i64 t] w fun e w'=>(∃ o:ByteArray,e=.returned (.string o)∧o.data.toList=fillB base t s.data.toList)∧Below w.heap.size w w':=by
 have hsz:s.data.toList.length=s.size:=Array.length_toList
 obtain⟨r,hr⟩:∃ r,r=fillB base t s.data.toList:=⟨_,rfl⟩
 rw [←hr]
 have HR:=Lib.hid hr
 clear hr
 have g1:IntKind.i64.wrap ((t:Int)+1)=((t+1:Nat):Int):=by rw [IntKind.wrap_i64];omega
 go_enter Tryz.func46,Tryz.ntmps46
 go_wp2_with fail
 go_loopw [7,8] (fun ov iv wr=>∃ (i:Nat) (o:ByteArray),i≤s.size∧iv=.int .i64 i∧ov=.string o∧o.size≤15*i∧Hid (r=o.data.toList++fillB base t (s.data.toList.drop i))∧Hid (Below w.heap.size w wr)) (fun _ i _=>s.size - (intOf i).toNat)
 case atStart=>exact⟨0,_,by omega,rfl,rfl,by decide,HR,Below.refl _ _⟩
 case round=>
  obtain⟨i,o,hil,rfl,rfl,hol,HE,HB⟩:=hrel
  have hHB:=HB.out.size
  by_cases hlt:i < s.size
  ·obtain⟨c,hc⟩:∃ c,s.data.toList[i]? = some c:=⟨_,List.getElem?_eq_getElem (by omega)⟩
   obtain⟨hi',hcc⟩:=at_byte hc
   have hE:=HE.out
   rw [drop_at _ i c hc,fillB_cons] at hE
   by_cases h36:c=36
   ·rw [if_pos h36] at hE
    have d1:((c.toNat:Int) == 36)=true:=by rw [h36];rfl
    obtain⟨p,hp⟩:∃ p:ByteArray,p=⟨(decB (t+1)).toArray⟩:=⟨_,rfl⟩
    have hpz:p.size≤10:=by rw [hp];exact decB_len 9 (t+1) (by omega)
    have hpl:p.data.toList=decB (t+1):=by rw [hp]
    rw [←hpl,←List.append_assoc,←app_toList] at hE
    have HE1:=Lib.hid hE
    have hnum:=fun w=>num15_any (t+1) w (by omega)
    rw [←hp] at hnum
    have hoz:(o++p).size≤15*(i+1):=by rw [ByteArray.size_append];omega
    clear hp hE hc HE hpl
    go_wp2_with (go_at_call 50;refine (hnum _).mono ?_;rintro e w' ⟨rfl,hb'⟩)
    exact⟨⟨i+1,_,by omega,by simp,rfl,hoz,HE1,HB.out.trans (hb'.mono hHB)⟩,by simp [intOf];omega⟩
   ·rw [if_neg h36] at hE
    have d1:((c.toNat:Int) == 36)=false:=byte_ne (d:=36) h36
    have f2:IntKind.i64.wrap ((i:Int)+2)=((i+2:Nat):Int):=by rw [IntKind.wrap_i64];omega
    have f3:IntKind.i64.wrap ((i:Int)+1)=((i+1:Nat):Int):=by rw [IntKind.wrap_i64];omega
    have hoz:(o++s.extract i (i+1)).size≤15*(i+1):=by
     rw [ByteArray.size_append,size_toList (s.extract i (i+1)),mid_toList,List.length_take];omega
    have hlast:fillB base t (s.data.toList.drop (i+1))=fillB base t (s.data.toList.drop (i+1))→¬(c=91∧inBr (s.data.toList.drop (i+1))=true)→r=(o++s.extract i (i+1)).data.toList++fillB base t (s.data.toList.drop (i+1)):=by
     intro _ hn
     rw [if_neg hn] at hE
     rw [hE,app_toList,mid_toList,drop_at _ i c hc,show i+1 - i=1 from by omega]
     simp
    by_cases h91:c=91
    ·have d2:((c.toNat:Int) == 91)=true:=by rw [h91];rfl
     by_cases h2:i+2 < s.size
     ·have d3:(((i+2:Nat):Int) < (s.size:Int))=True:=by simp;omega
      obtain⟨x,hx⟩:∃ x,s.data.toList[i+1]? = some x:=⟨_,List.getElem?_eq_getElem (by omega)⟩
      obtain⟨y,hy⟩:∃ y,s.data.toList[i+2]? = some y:=⟨_,List.getElem?_eq_getElem (by omega)⟩
      obtain⟨hix,hcx⟩:=at_byte hx
      obtain⟨hiy,hcy⟩:=at_byte hy
      have hdr:s.data.toList.drop (i+1)=x::y::s.data.toList.drop (i+1+2):=by rw [drop_at _ _ x hx,drop_at _ _ y hy]
      have hbr:inBr (s.data.toList.drop (i+1))=(decide (97≤x.toNat) && (decide (x.toNat≤113) && decide (y=93))):=by rw [hdr];rfl
      by_cases h97:97≤x.toNat
      ·have d4:decide ((97:Int)≤(x.toNat:Int))=true:=decide_eq_true (by omega)
       by_cases h113:x.toNat≤113
       ·have d5:decide ((x.toNat:Int)≤(113:Int))=true:=decide_eq_true (by omega)
        by_cases h93:y=93
        ·have d6:((y.toNat:Int) == 93)=true:=by rw [h93];rfl
         rw [if_pos ⟨h91,by rw [hbr];simp [h97,h113,h93]⟩,hdr] at hE
         have q1:IntKind.u8.wrap ((x.toNat:Int) - 97)=((x.toNat - 97:Nat):Int):=by rw [IntKind.wrap_u8];omega
         have q2:IntKind.i64.wrap ((x.toNat - 97:Nat):Int)=((x.toNat - 97:Nat):Int):=by rw [IntKind.wrap_i64];omega
         have q3:IntKind.i64.wrap ((base:Int)+((x.toNat - 97:Nat):Int))=((base+(x.toNat - 97):Nat):Int):=by rw [IntKind.wrap_i64];omega
         have q4:IntKind.i64.wrap (((i+2:Nat):Int)+1)=((i+3:Nat):Int):=by rw [IntKind.wrap_i64];omega
         obtain⟨p,hp⟩:∃ p:ByteArray,p=⟨(decB (base+(x.toNat - 97))).toArray⟩:=⟨_,rfl⟩
         have hpz:p.size≤10:=by rw [hp];exact decB_len 9 _ (by omega)
         have hpl:p.data.toList=decB (base+(x.toNat - 97)):=by rw [hp]
         have hnum:=fun w=>num15_any (base+(x.toNat - 97)) w (by omega)
         rw [←hp] at hnum
         have HE1:Hid (r=(o++⟨#[91]⟩++p++⟨#[93]⟩).data.toList++fillB base t (s.data.toList.drop (i+3))):=by
          show _=_
          rw [hE,app_toList,app_toList,app_toList,hpl]
          simp [List.append_assoc]
         have hz1:ByteArray.size ⟨#[91]⟩=1:=rfl
         have hz2:ByteArray.size ⟨#[93]⟩=1:=rfl
         have z1:(o++⟨#[91]⟩:ByteArray).size=o.size+1:=by rw [ByteArray.size_append,hz1]
         have z2:(o++⟨#[91]⟩++p:ByteArray).size=o.size+1+p.size:=by rw [ByteArray.size_append,z1]
         have hoz3:(o++⟨#[91]⟩++p++⟨#[93]⟩).size≤15*(i+3):=by rw [ByteArray.size_append,z2,hz2];omega
         clear hp hE hc HE hpl hlast hx hy hdr hbr hoz hz1 hz2
         go_wp2_with (go_at_call 50;refine (hnum _).mono ?_;rintro e w' ⟨rfl,hb'⟩)
         exact⟨⟨i+3,_,by omega,congrArg (Value.int IntKind.i64) (by omega),rfl,hoz3,HE1,HB.out.trans (hb'.mono hHB)⟩,by simp [intOf];omega⟩
        ·have HE1:=Lib.hid (hlast rfl (by rintro⟨_,e⟩;rw [hbr] at e;simp [h93] at e))
         have d6:((y.toNat:Int) == 93)=false:=byte_ne (d:=93) h93
         clear hE hc HE hlast hx hy hdr hbr
         go_wp2_with fail
         all_goals exact⟨⟨i+1,_,by omega,by simp,rfl,hoz,HE1,HB⟩,by simp [intOf];omega⟩
       ·have HE1:=Lib.hid (hlast rfl (by rintro⟨_,e⟩;rw [hbr] at e;simp at e;omega))
        have d5:decide ((x.toNat:Int)≤(113:Int))=false:=decide_eq_false (by omega)
        clear hE hc HE hlast hx hy hdr hbr
        go_wp2_with fail
        all_goals exact⟨⟨i+1,_,by omega,by simp,rfl,hoz,HE1,HB⟩,by simp [intOf];omega⟩
      ·have HE1:=Lib.hid (hlast rfl (by rintro⟨_,e⟩;rw [hbr] at e;simp at e;omega))
       have d4:decide ((97:Int)≤(x.toNat:Int))=false:=decide_eq_false (by omega)
       clear hE hc HE hlast hx hy hdr hbr
       go_wp2_with fail
       all_goals exact⟨⟨i+1,_,by omega,by simp,rfl,hoz,HE1,HB⟩,by simp [intOf];omega⟩
     ·have HE1:=Lib.hid (hlast rfl (by rintro⟨_,e⟩;exact inBr_short (by rw [List.length_drop];omega) e))
      clear hE hc HE hlast
      go_wp2_with fail
      all_goals exact⟨⟨i+1,_,by omega,by simp,rfl,hoz,HE1,HB⟩,by simp [intOf];omega⟩
    ·have HE1:=Lib.hid (hlast rfl (fun e=>h91 e.1))
     have d2:((c.toNat:Int) == 91)=false:=byte_ne (d:=91) h91
     clear hE hc HE hlast
     go_wp2_with fail
     all_goals exact⟨⟨i+1,_,by omega,by simp,rfl,hoz,HE1,HB⟩,by simp [intOf];omega⟩
  ·have hie:i=s.size:=by omega
   have hE:=HE.out
   rw [List.drop_eq_nil_of_le (by omega),fillB_nil,List.append_nil] at hE
   have HE1:=Lib.hid hE
   clear hE HE
   go_wp2_with fail
   go_ret
   exact⟨⟨o,rfl,HE1.out.symm⟩,HB.out⟩
end Go.Proofs.YtcnmhgblbikfkaaGreatDoor.As
end

section
set_option linter.unusedVariables false
namespace Go.Proofs.YtcnmhgblbikfkaaGreatDoor.As
open Go.RowKit

def claimT(o:B8):B8:=[108,111,97,100,32,114,52,32,91]++o++[93,10,115,101,116,32,114,53,32,36,10,115,97,109,101,32,114,54,32,114,52,32,114,53,10,122,101,114,111,32,114,54,32,64,102,114,101,101,10,115,101,116,32,114,55,32,49,10,106,117,109,112,32,64,101,110,100,10,102,114,101,101,58,10]
def proveT(o:B8):B8:=[108,111,97,100,32,114,52,32,91]++o++[93,10,115,101,116,32,114,53,32,36,10,115,97,109,101,32,114,54,32,114,52,32,114,53,10,115,111,109,101,32,114,54,32,64,109,105,110,101,10,115,101,116,32,114,55,32,50,10,106,117,109,112,32,64,101,110,100,10,109,105,110,101,58,10]
def endT:B8:=[115,101,116,32,114,55,32,48,10,101,110,100,58,10]
def TextPost(w:World)(t:B8)(e:Ending)(w':World):Prop:=(∃ o:ByteArray,e=.returned (.string o)∧o.data.toList=t)∧Below w.heap.size w w'

theorem claim15_any(w:World)(s:ByteArray)(hs:s.size≤1000):Calls Tryz.prog 47 #[.string s] w (TextPost w (claimT s.data.toList)):=by
 go_enter Tryz.func47,Tryz.ntmps47
 go_wp2_with fail
 go_ret
 exact⟨⟨_,rfl,by rw [app_toList,app_toList];rfl⟩,Below.refl _ _⟩
theorem prove15_any(w:World)(s:ByteArray)(hs:s.size≤1000):Calls Tryz.prog 49 #[.string s] w (TextPost w (proveT s.data.toList)):=by
 go_enter Tryz.func49,Tryz.ntmps49
 go_wp2_with fail
 go_ret
 exact⟨⟨_,rfl,by rw [app_toList,app_toList];rfl⟩,Below.refl _ _⟩
theorem end15_any(w:World):Calls Tryz.prog 48 #[] w (TextPost w endT):=by
 go_enter Tryz.func48,Tryz.ntmps48
 go_wp2_with fail
 go_ret
 exact⟨⟨_,rfl,rfl⟩,Below.refl _ _⟩

end Go.Proofs.YtcnmhgblbikfkaaGreatDoor.As
end

section
set_option linter.unusedVariables false
set_option linter.unusedSimpArgs false
set_option maxRecDepth 20000
namespace Go.Proofs.YtcnmhgblbikfkaaGreatDoor.As
open Go.RowKit

theorem text20_MutIn(w:World)(most:Int):Calls Tryz.prog 13 #[.int .i64 10,.int .i64 1,.int .i64 most] w (TextPost w (unl srcMutIn)):=by
 go_enter Tryz.func13,Tryz.ntmps13
 go_wp2_with (first
  | (go_at_call 47;refine (claim15_any _ _ (by decide)).mono ?_;rintro e w1 ⟨⟨o1,rfl,ho1⟩,hb1⟩;have z1:o1.size≤2000:=by (rw [size_toList,ho1];decide))
  | (go_at_call 49;refine (prove15_any _ _ (by decide)).mono ?_;rintro e w1 ⟨⟨o1,rfl,ho1⟩,hb1⟩;have z1:o1.size≤2000:=by (rw [size_toList,ho1];decide))
  | (go_at_call 48;refine (end15_any _).mono ?_;rintro e w2 ⟨⟨o2,rfl,ho2⟩,hb2⟩;have z2:o2.size≤2000:=by (rw [size_toList,ho2];decide)))
 go_ret
 exact⟨⟨_,rfl,by (simp only [app_toList,ho1,ho2];rfl)⟩,hb1.trans (hb2.mono hb1.size)⟩
theorem text20_MutOut(w:World)(most:Int):Calls Tryz.prog 13 #[.int .i64 10,.int .i64 2,.int .i64 most] w (TextPost w (unl srcMutOut)):=by
 go_enter Tryz.func13,Tryz.ntmps13
 go_wp2_with (first
  | (go_at_call 47;refine (claim15_any _ _ (by decide)).mono ?_;rintro e w1 ⟨⟨o1,rfl,ho1⟩,hb1⟩;have z1:o1.size≤2000:=by (rw [size_toList,ho1];decide))
  | (go_at_call 49;refine (prove15_any _ _ (by decide)).mono ?_;rintro e w1 ⟨⟨o1,rfl,ho1⟩,hb1⟩;have z1:o1.size≤2000:=by (rw [size_toList,ho1];decide))
  | (go_at_call 48;refine (end15_any _).mono ?_;rintro e w2 ⟨⟨o2,rfl,ho2⟩,hb2⟩;have z2:o2.size≤2000:=by (rw [size_toList,ho2];decide)))
 go_ret
 exact⟨⟨_,rfl,by (simp only [app_toList,ho1,ho2];rfl)⟩,hb1.trans (hb2.mono hb1.size)⟩
theorem text20_SemIn(w:World)(most:Int):Calls Tryz.prog 13 #[.int .i64 11,.int .i64 1,.int .i64 most] w (TextPost w (unl srcSemIn)):=by
 go_enter Tryz.func13,Tryz.ntmps13
 go_wp2_with (first
  | (go_at_call 47;refine (claim15_any _ _ (by decide)).mono ?_;rintro e w1 ⟨⟨o1,rfl,ho1⟩,hb1⟩;have z1:o1.size≤2000:=by (rw [size_toList,ho1];decide))
  | (go_at_call 49;refine (prove15_any _ _ (by decide)).mono ?_;rintro e w1 ⟨⟨o1,rfl,ho1⟩,hb1⟩;have z1:o1.size≤2000:=by (rw [size_toList,ho1];decide))
  | (go_at_call 48;refine (end15_any _).mono ?_;rintro e w2 ⟨⟨o2,rfl,ho2⟩,hb2⟩;have z2:o2.size≤2000:=by (rw [size_toList,ho2];decide)))
 go_ret
 exact⟨⟨_,rfl,by (simp only [app_toList,ho2];rfl)⟩,hb2⟩
theorem text20_SemOut(w:World)(m:Nat)(hm:m≤1000):Calls Tryz.prog 13 #[.int .i64 11,.int .i64 2,.int .i64 (m:Int)] w (TextPost w (unl (srcSemOut m))):=by
 obtain⟨p,hp,zp,lp⟩:∃ p:ByteArray,p=⟨(decB m).toArray⟩∧p.size≤10∧p.data.toList=decB m:=⟨⟨(decB m).toArray⟩,rfl,decB_len 9 m (by omega),rfl⟩
 have hn:=fun W=>num15_any m W (by omega)
 rw [←hp] at hn
 clear hp
 go_enter Tryz.func13,Tryz.ntmps13
 go_wp2_with (go_at_call 50;refine (hn _).mono ?_;rintro e w1 ⟨rfl,hb1⟩)
 go_ret
 exact⟨⟨_,rfl,by (simp only [app_toList,lp];rfl)⟩,hb1⟩
end Go.Proofs.YtcnmhgblbikfkaaGreatDoor.As
end

