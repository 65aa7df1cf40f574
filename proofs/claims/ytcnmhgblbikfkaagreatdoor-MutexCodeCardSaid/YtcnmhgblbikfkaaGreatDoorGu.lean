/- The walks of the package deadlatchref04: texts parted,numbers,registers. The walks of the package deadlatchref04: numbers,registers,names. The walks of the package deadlatchref04: registers,names,what asks memory. The walks of the package deadlatchref02: a kind's name and fields. The walks of the package deadlatchref04: names of places. The walks of the package deadlatchref04: addresses. The walks of the package deadlatchref04: places among lines. -/
import Derived.Test.YtcnmhgblbikfkaaGreatDoorGb
import Derived.Test.YtcnmhgblbikfkaaGreatDoorGo
import Derived.Lib.Strings
import Derived.BigQuiet
import Derived.Deep.QuietTactic
section
set_option linter.unusedVariables false
namespace Go.Proofs.YtcnmhgblbikfkaaGreatDoor.As
open Go.RowKit

def str(l:B8):Value:=.string ⟨l.toArray⟩
theorem infoS:(Tryz.prog.info? 9).map (fun i=>(i.zero,i.size,i.bytes))=some (some (.string ByteArray.empty),1,16):=by kernel_rfl

/-! ### split -/
def glue(p:B8):List B8→List B8
 | h::t=>(p++h)::t
 | []=>[p]
theorem splitB_ne(b:UInt8):∀ l:B8,splitB b l≠[]
 | []=>by simp [splitB]
 | c::r=>by
  unfold splitB
  split
  ·simp
  ·cases h:splitB b r with
   | nil=>simp
   | cons x y=>simp
theorem glue_nil(b:UInt8)(l:B8):glue [] (splitB b l)=splitB b l:=by
 cases h:splitB b l with
 | nil=>exact absurd h (splitB_ne b l)
 | cons x y=>rfl
theorem split_hit(b:UInt8)(p r:B8):glue p (splitB b (b::r))=p::splitB b r:=by
 rw [splitB,if_pos rfl];simp [glue]
theorem split_miss(b c:UInt8)(p r:B8)(h:c≠b):glue p (splitB b (c::r))=glue (p++[c]) (splitB b r):=by
 rw [splitB,if_neg h]
 cases hs:splitB b r with
 | nil=>exact absurd hs (splitB_ne b r)
 | cons x y=>simp [glue]
theorem take_next(l:B8)(a i:Nat)(c:UInt8)(h:l[i]? = some c)(ha:a≤i):(l.drop a).take (i+1 - a)=(l.drop a).take (i - a)++[c]:=by
 have hl:i < l.length:=(List.getElem?_eq_some_iff.1 h).1
 rw [show i+1 - a=(i - a)+1 from by omega,List.take_succ_eq_append_getElem (by rw [List.length_drop];omega)]
 congr 2
 rw [List.getElem_drop]
 have e:l[i]=c:=(List.getElem?_eq_some_iff.1 h).2
 rw [←e]
 congr 1
 omega
theorem drop_at(l:B8)(i:Nat)(c:UInt8)(h:l[i]? = some c):l.drop i=c::l.drop (i+1):=by
 have hl:i < l.length:=(List.getElem?_eq_some_iff.1 h).1
 rw [List.drop_eq_getElem_cons hl,(List.getElem?_eq_some_iff.1 h).2]

set_option maxRecDepth 100000 in
set_option maxHeartbeats 1000000 in
theorem split_any(s:ByteArray)(b:UInt8)(w:World)(hl:s.size≤1000000):
  Calls Tryz.prog 87 #[.string s,.int .u8 b.toNat] w fun e w'=>∃ v,e=.returned v∧w'.ownsRow w.heap.size 9 1 v (splitB b s.data.toList).length ((splitB b s.data.toList).map str)∧Below w.heap.size w w':=by
 obtain⟨i0,hi,hz0,hz1,hz2⟩:=info_parts infoS
 have hsz:s.data.toList.length=s.size:=Array.length_toList
 go_enter Tryz.func87,Tryz.ntmps87
 go_wp2_with fail
 go_loopw [5,6,7] (fun ov fv iv wr=>∃ (i a:Nat) (os:List B8),i≤s.size∧a≤i∧os.length≤i∧iv=.int .i64 i∧fv=.int .i64 a∧Hid (splitB b s.data.toList=os++glue ((s.data.toList.drop a).take (i - a)) (splitB b (s.data.toList.drop i)))∧Hid (wr.ownsRow w.heap.size 9 1 ov os.length (os.map str))∧Hid (Below w.heap.size w wr)) (fun _ _ i _=>s.size - (intOf i).toNat)
 case atStart=>exact⟨0,0,[],by omega,by omega,by simp,rfl,rfl,by show splitB b s.data.toList=_;simp [glue_nil],World.ownsRow_nil _ _ _ _,Below.refl _ _⟩
 case round=>
  obtain⟨i,a,os,hil,hai,hos,rfl,rfl,HEQ,HOW,HB⟩:=hrel
  by_cases hlt:i < s.size
  ·obtain⟨c,hc⟩:∃ c,s.data.toList[i]? = some c:=⟨_,List.getElem?_eq_getElem (by omega)⟩
   have hcc:s[i]=c:=by
    have:=(List.getElem?_eq_some_iff.1 hc).2
    rw [←this];rfl
   have HC:=Lib.hid hc
   clear hc
   have hos':os.length < 2000000:=by omega
   have hHB:=HB.out.size
   by_cases hcb:c=b
   ·have hcb':((c.toNat:Int) == (b.toNat:Int))=true:=by simp [hcb]
    have hext:(.string (s.extract a i):Value)=str ((s.data.toList.drop a).take (i - a)):=by
     unfold str
     rw [←Lib.extract_data]
    have HX:=Lib.hid hext
    clear hext
    go_wp2_with (at_builtin;refine wpList_append_own _ rfl (.tmp 19) (.tmp 24) 167 rfl w.heap.size 9 i0 _ 1 16 Tryz.underlying167 hi hz0 hz1 hz2 rfl (by decide) _ _ _ rfl (HOW.out.alloc _) ⟨wr.heap.size,0,none⟩ 1 1 [.string (s.extract a i)] rfl rfl (cell_one_new _ _ _) (by simp [Value.oneCell']) (by unfold maxLen;omega) (by omega) (by simp;omega) ?_;intro v' w1 ho hgr hat)
    refine⟨⟨i+1,i+1,os++[(s.data.toList.drop a).take (i - a)],by omega,by omega,by simp;omega,by simp,by simp,?_,?_,?_⟩,by simp [intOf];omega⟩
    ·show _=_
     rw [HEQ.out,drop_at _ i c HC.out,hcb,split_hit]
     simp [glue_nil]
    ·show World.ownsRow _ _ _ _ _ _ _
     rw [List.map_append,List.map_singleton,←HX.out]
     simpa using ho
    ·exact (HB.out.alloc hHB _).grown hgr (by simp;omega) (fun k hk=>(HOW.out.lt k hk).1)
   ·have hcb':((c.toNat:Int) == (b.toNat:Int))=false:=by
     have:c.toNat≠b.toNat:=fun h=>hcb (UInt8.toNat_inj.1 h)
     simp;omega
    go_wp2_with fail
    refine⟨⟨i+1,a,os,by omega,by omega,by omega,by simp,by simp,?_,HOW,HB⟩,by simp [intOf];omega⟩
    show _=_
    rw [HEQ.out,drop_at _ i c HC.out,split_miss _ _ _ _ hcb,take_next _ a i c HC.out hai]
  ·have hie:i=s.size:=by omega
   have hHB:=HB.out.size
   have hext:(.string (s.extract a s.size):Value)=str (s.data.toList.drop a):=by
    unfold str
    rw [←List.take_of_length_le (show (s.data.toList.drop a).length≤s.size - a from by rw [List.length_drop];omega),←Lib.extract_data]
   have HX:=Lib.hid hext
   clear hext
   have hos':os.length < 2000000:=by omega
   go_wp2_with (at_builtin;refine wpList_append_own _ rfl (.tmp 28) (.tmp 32) 167 rfl w.heap.size 9 i0 _ 1 16 Tryz.underlying167 hi hz0 hz1 hz2 rfl (by decide) _ _ _ rfl (HOW.out.alloc _) ⟨wr.heap.size,0,none⟩ 1 1 [.string (s.extract a s.size)] rfl rfl (cell_one_new _ _ _) (by simp [Value.oneCell']) (by unfold maxLen;omega) (by omega) (by simp;omega) ?_;intro v' w1 ho hgr hat)
   go_ret
   refine⟨_,rfl,?_,(HB.out.alloc hHB _).grown hgr (by simp;omega) (fun k hk=>(HOW.out.lt k hk).1)⟩
   have e:splitB b s.data.toList=os++[s.data.toList.drop a]:=by
    rw [HEQ.out,List.drop_eq_nil_of_le (show s.data.toList.length≤i from by omega),List.take_of_length_le (by rw [List.length_drop];omega)]
    simp [splitB,glue]
   rw [e,List.map_append,List.map_singleton,←HX.out]
   simpa using ho
end Go.Proofs.YtcnmhgblbikfkaaGreatDoor.As
end

section
set_option linter.unusedVariables false
namespace Go.Proofs.YtcnmhgblbikfkaaGreatDoor.As
open Go.RowKit

theorem at_byte{s:ByteArray}{i:Nat}{c:UInt8}(h:s.data.toList[i]? = some c):∃ hi:i < s.size,s[i]'hi=c:=by
 have hl:i < s.data.toList.length:=(List.getElem?_eq_some_iff.1 h).1
 refine⟨by simpa using hl,?_⟩
 exact (List.getElem?_eq_some_iff.1 h).2
theorem toList_len(s:ByteArray):s.data.toList.length=s.size:=Array.length_toList
theorem valB_snoc(l:B8)(c:UInt8):valB (l++[c])=10*valB l+(c.toNat - 48):=by simp [valB]
theorem valB_lt_go(l:B8)(h:∀ c∈l,isDig c=true):∀ n m,n < 10 ^ m→l.foldl (fun n c=>10*n+(c.toNat - 48)) n < 10 ^ (m+l.length):=by
 induction l with
 | nil=>intro n m hn;simpa using hn
 | cons c l ih=>
  intro n m hn
  have h2:=(dig_iff c).1 (h c (by simp))
  have:=ih (fun x hx=>h x (by simp [hx])) (10*n+(c.toNat - 48)) (m+1) (by rw [Nat.pow_succ];omega)
  rw [List.foldl_cons,List.length_cons,show m+(l.length+1)=m+1+l.length from by omega]
  exact this
theorem valB_lt(l:B8)(h:∀ c∈l,isDig c=true):valB l < 10 ^ l.length:=by
 have:=valB_lt_go l h 0 0 (by simp)
 simpa [valB] using this
theorem take_succ_at{l:B8}{i:Nat}{c:UInt8}(h:l[i]? = some c):l.take (i+1)=l.take i++[c]:=by
 have:=take_next l 0 i c h (Nat.zero_le _)
 simpa using this
theorem pow_le10(n:Nat)(h:n≤10):10 ^ n≤10000000000:=Nat.pow_le_pow_right (by omega) h

set_option maxHeartbeats 800000 in
theorem number_any(w:World)(s:ByteArray)(hm:s.size≤1000000):
  Calls Tryz.prog 122 #[.string s] w fun e w'=>e=.returned (.int .i64 (numB s.data.toList))∧w'=w:=by
 have hlen:=toList_len s
 obtain⟨r,hr⟩:∃ r,r=numB s.data.toList:=⟨_,rfl⟩
 rw [←hr]
 have HR:=Lib.hid hr
 clear hr
 by_cases h0:s.size=0
 ·have e:r = -1:=by rw [HR.out];unfold numB;rw [if_pos (.inl (by omega))]
  have d0:((s.size:Int) == 0)=true:=by rw [h0];rfl
  have E:=Lib.hid e
  clear e h0
  go_enter Tryz.func122,Tryz.ntmps122
  go_wp2
  go_ret
  exact⟨by rw [E.out]<;>rfl,rfl⟩
 ·have d0:((s.size:Int) == 0)=false:=by rw [beq_eq_false_iff_ne];omega
  by_cases h10:10 < s.size
  ·have e:r = -1:=by rw [HR.out];unfold numB;rw [if_pos (.inr (.inl (by omega)))]
   have E:=Lib.hid e
   clear e
   go_enter Tryz.func122,Tryz.ntmps122
   go_wp2
   go_ret
   exact⟨by rw [E.out]<;>rfl,rfl⟩
  ·by_cases hz:1 < s.size∧s.data.toList[0]? = some 48
   ·have e:r = -1:=by rw [HR.out];unfold numB;rw [if_pos (.inr (.inr ⟨by omega,hz.2⟩))]
    obtain⟨h1,hz⟩:=hz
    obtain⟨hi,hz'⟩:=at_byte hz
    have E:=Lib.hid e
    clear e hz
    go_enter Tryz.func122,Tryz.ntmps122
    go_wp2
    go_ret
    exact⟨by rw [E.out]<;>rfl,rfl⟩
   ·have e:r=if s.data.toList.all isDig then (if 4294967295 < valB s.data.toList then -1 else (valB s.data.toList:Int)) else -1:=by
     rw [HR.out];unfold numB;rw [if_neg (by intro h;rcases h with h | h | h;omega;omega;exact hz ⟨by omega,h.2⟩)]
    have E:=Lib.hid e
    clear e HR
    have hcase:(∃ hg:1 < s.size,(((s[0]'(by omega)).toNat:Int) == 48)=false)∨s.size≤1:=by
     by_cases hg:1 < s.size
     ·refine .inl ⟨hg,?_⟩
      rw [beq_eq_false_iff_ne]
      intro h
      apply hz
      refine⟨hg,?_⟩
      rw [byte_at s 0 (by omega)]
      congr 1
      apply UInt8.toNat_inj.1
      have:(48:UInt8).toNat=48:=rfl
      omega
     ·exact .inr (by omega)
    clear hz
    rcases hcase with⟨hg,hn48⟩ | hg
    all_goals
     go_enter Tryz.func122,Tryz.ntmps122
     go_wp2
     go_loopw [3,4] (fun nv iv wr=>∃ (i:Nat),wr=w∧i≤s.size∧iv=.int .i64 i∧nv=.int .i64 (valB (s.data.toList.take i))∧Hid (∀ c∈s.data.toList.take i,isDig c=true)) (fun _ i _=>s.size - (intOf i).toNat)
     case atStart=>exact⟨0,rfl,by omega,rfl,rfl,fun c hc=>by simp at hc⟩
     case round=>
      obtain⟨i,rfl,hil,rfl,rfl,HD⟩:=hrel
      by_cases hlt:i < s.size
      ·obtain⟨c,hc⟩:∃ c,s.data.toList[i]? = some c:=⟨_,List.getElem?_eq_getElem (by omega)⟩
       obtain⟨hi,hcc⟩:=at_byte hc
       have hv:=valB_lt _ HD.out
       rw [List.length_take] at hv
       have hv2:=pow_le10 (min i s.data.toList.length) (by omega)
       have hvv:valB (s.data.toList.take i) < 10000000000:=by omega
       have HC:=Lib.hid hc
       clear hc hv hv2
       by_cases hd:isDig c=true
       ·obtain⟨q1,q2⟩:=(dig_iff c).1 hd
        have HDD:=Lib.hid hd
        clear hd
        generalize hV:valB (s.data.toList.take i)=V at hvv ⊢
        have HV:=Lib.hid hV
        clear hV
        go_wp2
        have ht:=take_succ_at HC.out
        refine⟨⟨i+1,True.intro,by omega,by simp,?_,?_⟩,by simp [intOf];omega⟩
        ·rw [ht,valB_snoc,HV.out]
         congr 1
         omega
        ·rw [ht]
         intro x hx
         rcases List.mem_append.1 hx with hx | hx
         ·exact HD.out x hx
         ·have:x=c:=by simpa using hx
          rw [this];exact HDD.out
       ·have hd':isDig c=false:=by simpa using hd
        have hno:¬(48≤c.toNat∧c.toNat≤57):=fun h=>hd ((dig_iff c).2 h)
        have hall:s.data.toList.all isDig=false:=by
         rw [List.all_eq_false];exact⟨c,List.mem_of_getElem? HC.out,by simp [hd']⟩
        have HA:=Lib.hid hall
        clear hd hd' hall
        by_cases q1:c.toNat < 48
        ·go_wp2
         go_ret
         exact⟨by rw [E.out,HA.out]<;>rfl,rfl⟩
        ·have q2:57 < c.toNat:=by omega
         go_wp2
         go_ret
         exact⟨by rw [E.out,HA.out]<;>rfl,rfl⟩
      ·have hie:i=s.size:=by omega
       have hta:s.data.toList.take i=s.data.toList:=List.take_of_length_le (by omega)
       have hall:s.data.toList.all isDig=true:=by
        rw [List.all_eq_true];intro c hc;exact HD.out c (by rw [hta];exact hc)
       rw [hta]
       have hv:=E.out
       rw [hall] at hv
       simp only [if_true] at hv
       have hv2:=valB_lt s.data.toList (by rw [←hta];exact HD.out)
       have hv3:=pow_le10 s.data.toList.length (by omega)
       have hvv:valB s.data.toList < 10000000000:=by omega
       clear hv2 hv3 hta hall HD E
       generalize valB s.data.toList=V at hv hvv ⊢
       have HV:=Lib.hid hv
       clear hv
       by_cases hb:4294967295 < V
       ·go_wp2
        go_ret
        exact⟨by rw [HV.out,if_pos hb]<;>rfl,rfl⟩
       ·go_wp2
        go_ret
        exact⟨by rw [HV.out,if_neg hb]<;>rfl,rfl⟩
end Go.Proofs.YtcnmhgblbikfkaaGreatDoor.As
end

section
set_option linter.unusedVariables false
namespace Go.Proofs.YtcnmhgblbikfkaaGreatDoor.As
open Go.RowKit

theorem ext_take(s:ByteArray)(i:Nat):(.string (s.extract 0 i):Value)=str (s.data.toList.take i):=by
 unfold str
 have h:=Lib.extract_data s 0 i
 rw [List.drop_zero,Nat.sub_zero] at h
 rw [←h]
theorem ext_drop(s:ByteArray)(i:Nat):(.string (s.extract i s.size):Value)=str (s.data.toList.drop i):=by
 unfold str
 rw [←List.take_of_length_le (show (s.data.toList.drop i).length≤s.size - i from by rw [List.length_drop,toList_len];omega),←Lib.extract_data]
theorem ext_mid(s:ByteArray)(i j:Nat):(.string (s.extract i j):Value)=str ((s.data.toList.drop i).take (j - i)):=by
 unfold str
 rw [←Lib.extract_data]
theorem str_of(s:ByteArray):(.string s:Value)=str s.data.toList:=rfl
theorem byte_ne{c d:UInt8}(h:¬c=d):((c.toNat:Int) == (d.toNat:Int))=false:=by
 rw [beq_eq_false_iff_ne];intro e;exact h (UInt8.toNat_inj.1 (by omega))
theorem below_drewN{B:Nat}{w W:World}(n:Nat)(h:Below B w W):Below B w (W.drewN n):=h.trans ⟨rfl,rfl,rfl,Nat.le_refl _,fun _ _=>rfl⟩

theorem register_any(w:World)(s:ByteArray)(hm:s.size≤1000000):
  Calls Tryz.prog 120 #[.string s] w fun e w'=>e=.returned (.int .i64 (regB s.data.toList))∧w'=w:=by
 have hlen:=toList_len s
 by_cases h2:s.size=2
 ·obtain⟨a,b,hab⟩:∃ a b,s.data.toList=[a,b]:=by
   match hs:s.data.toList,hlen with
   | [],h=>simp at h;omega
   | [_],h=>simp at h;omega
   | [a,b],_=>exact⟨a,b,rfl⟩
   | _::_::_::_,h=>simp at h;omega
  have d0:((s.size:Int) == 2)=true:=by rw [h2];rfl
  obtain⟨i0,e0⟩:=at_byte (s:=s) (i:=0) (c:=a) (by rw [hab];rfl)
  obtain⟨i1,e1⟩:=at_byte (s:=s) (i:=1) (c:=b) (by rw [hab];rfl)
  rw [hab]
  have ev:regB [a,b]=if a=114∧48≤b.toNat∧b.toNat≤55 then (b.toNat:Int) - 48 else -1:=rfl
  have EV:=Lib.hid ev
  clear ev hab
  generalize regB [a,b]=r at EV ⊢
  by_cases ha:a=114
  ·have d1:((a.toNat:Int) == 114)=true:=by rw [ha];rfl
   by_cases q1:48≤b.toNat
   ·by_cases q2:b.toNat≤55
    ·go_enter Tryz.func120,Tryz.ntmps120
     go_wp2
     go_ret
     exact⟨by rw [EV.out,if_pos ⟨ha,q1,q2⟩]<;>rfl,rfl⟩
    ·go_enter Tryz.func120,Tryz.ntmps120
     go_wp2
     go_ret
     exact⟨by rw [EV.out,if_neg (fun h=>q2 h.2.2)]<;>rfl,rfl⟩
   ·go_enter Tryz.func120,Tryz.ntmps120
    go_wp2
    go_ret
    exact⟨by rw [EV.out,if_neg (fun h=>q1 h.2.1)]<;>rfl,rfl⟩
  ·have d1:((a.toNat:Int) == 114)=false:=by
    rw [beq_eq_false_iff_ne];intro h;exact ha (UInt8.toNat_inj.1 (by have:(114:UInt8).toNat=114:=rfl;omega))
   go_enter Tryz.func120,Tryz.ntmps120
   go_wp2
   go_ret
   exact⟨by rw [EV.out,if_neg (fun h=>ha h.1)]<;>rfl,rfl⟩
 ·have d0:((s.size:Int) == 2)=false:=by rw [beq_eq_false_iff_ne];omega
  have e:regB s.data.toList = -1:=by
   match hs:s.data.toList,hlen with
   | [],h=>rfl
   | [_],h=>rfl
   | [a,b],h=>simp at h;omega
   | _::_::_::_,h=>rfl
  rw [e]
  go_enter Tryz.func120,Tryz.ntmps120
  go_wp2
  go_ret
  exact⟨rfl,rfl⟩

theorem ifMem_any(w:World)(s:ByteArray)(hm:s.size≤1000000):
  Calls Tryz.prog 119 #[.string s] w fun e w'=>e=.returned (.int .i64 (ifMemB s.data.toList))∧w'=w:=by
 have hlen:=toList_len s
 obtain⟨r,hr⟩:∃ r,r=ifMemB s.data.toList:=⟨_,rfl⟩
 rw [←hr]
 have HR:=Lib.hid hr
 clear hr
 go_enter Tryz.func119,Tryz.ntmps119
 go_wp2
 go_loopw [3] (fun iv wr=>∃ (i:Nat),wr=w∧i≤s.size∧iv=.int .i64 i∧Hid (∀ c∈s.data.toList.take i,c≠77)) (fun i _=>s.size - (intOf i).toNat)
 case atStart=>exact⟨0,rfl,by omega,rfl,fun c hc=>by simp at hc⟩
 case round=>
  obtain⟨i,rfl,hil,rfl,HD⟩:=hrel
  by_cases hlt:i < s.size
  ·obtain⟨c,hc⟩:∃ c,s.data.toList[i]? = some c:=⟨_,List.getElem?_eq_getElem (by omega)⟩
   obtain⟨hi,hcc⟩:=at_byte hc
   have HC:=Lib.hid hc
   clear hc
   by_cases hd:c=77
   ·have d0:((c.toNat:Int) == 77)=true:=by rw [hd];rfl
    have hall:ifMemB s.data.toList=1:=by
     unfold ifMemB
     rw [if_pos]
     rw [List.contains_iff_mem]
     rw [←hd];exact List.mem_of_getElem? HC.out
    have HV:=Lib.hid hall
    clear hall
    go_wp2
    go_ret
    exact⟨by rw [HR.out,HV.out]<;>rfl,rfl⟩
   ·have d0:((c.toNat:Int) == 77)=false:=by
     rw [beq_eq_false_iff_ne];intro h;exact hd (UInt8.toNat_inj.1 (by have:(77:UInt8).toNat=77:=rfl;omega))
    go_wp2
    have ht:=take_succ_at HC.out
    refine⟨⟨i+1,True.intro,by omega,by simp,?_⟩,by simp [intOf];omega⟩
    rw [ht]
    intro x hx
    rcases List.mem_append.1 hx with hx | hx
    ·exact HD.out x hx
    ·have:x=c:=by simpa using hx
     rw [this];exact hd
  ·have hta:s.data.toList.take i=s.data.toList:=List.take_of_length_le (by omega)
   have hall:ifMemB s.data.toList=0:=by
    unfold ifMemB
    rw [if_neg]
    rw [List.contains_iff_mem]
    intro h
    exact HD.out 77 (by rw [hta];exact h) rfl
   have HV:=Lib.hid hall
   clear hall
   go_wp2
   go_ret
   exact⟨by rw [HR.out,HV.out]<;>rfl,rfl⟩

end Go.Proofs.YtcnmhgblbikfkaaGreatDoor.As
end

section
set_option linter.unusedVariables false
namespace Go.Proofs.YtcnmhgblbikfkaaGreatDoor.As
open Go.RowKit

theorem rows_all:∀ i,i < 28→opName (i:Nat)=(opRows.getD i []).takeWhile (· != 32)∧opField (i:Nat)=((opRows.getD i []).dropWhile (· != 32)).drop 1∧(opRows.getD i []).length≤20:=by decide +kernel
theorem takeWhile_hit(l:B8)(i:Nat)(b:UInt8)(h:l[i]? = some b)(hn:∀ c∈l.take i,c≠b):l.takeWhile (· != b)=l.take i∧l.dropWhile (· != b)=l.drop i:=by
 induction l generalizing i with
 | nil=>simp at h
 | cons c l ih=>
  cases i with
  | zero=>
   have:c=b:=by simpa using h
   simp [this]
  | succ i=>
   have hc:c≠b:=hn c (by simp)
   have:=ih i (by simpa using h) (fun x hx=>hn x (by simp [hx]))
   have hb:(c != b)=true:=by simp [hc]
   rw [List.takeWhile_cons,List.dropWhile_cons,hb]
   simp [this]
theorem takeWhile_miss(l:B8)(b:UInt8)(hn:∀ c∈l,c≠b):l.takeWhile (· != b)=l∧l.dropWhile (· != b)=[]:=by
 induction l with
 | nil=>simp
 | cons c l ih=>
  have hc:c≠b:=hn c (by simp)
  have:=ih (fun x hx=>hn x (by simp [hx]))
  have hb:(c != b)=true:=by simp [hc]
  rw [List.takeWhile_cons,List.dropWhile_cons,hb]
  simp [this]
theorem cell_new_at{w:World}{cs:Array Value}{t:TypeId}{k:Nat}{v:Value}(h:cs[k]? = some v):(w.alloc (.cells cs t)).cell? ⟨w.heap.size,k,none⟩=some v:=by
 unfold World.cell?
 rw [heap_alloc_new]
 simp [h]
theorem rowsArr:(#[.string ⟨#[104,97,108,116]⟩,.string ⟨#[115,101,116,32,65,75]⟩,.string ⟨#[109,111,118,101,32,65,66]⟩,.string ⟨#[97,100,100,32,65,66,67]⟩,.string ⟨#[115,117,98,32,65,66,67]⟩,.string ⟨#[109,117,108,32,65,66,67]⟩,.string ⟨#[97,110,100,32,65,66,67]⟩,.string ⟨#[111,114,32,65,66,67]⟩,.string ⟨#[120,111,114,32,65,66,67]⟩,.string ⟨#[115,104,108,32,65,66,67]⟩,.string ⟨#[115,104,114,32,65,66,67]⟩,.string ⟨#[108,101,115,115,32,65,66,67]⟩,.string ⟨#[115,97,109,101,32,65,66,67]⟩,.string ⟨#[106,117,109,112,32,84]⟩,.string ⟨#[122,101,114,111,32,65,84]⟩,.string ⟨#[115,111,109,101,32,65,84]⟩,.string ⟨#[108,111,97,100,32,65,77,75]⟩,.string ⟨#[115,116,111,114,101,32,65,77,75]⟩,.string ⟨#[102,101,110,99,101]⟩,.string ⟨#[115,119,97,112,32,65,77,75]⟩,.string ⟨#[102,101,116,99,104,32,65,77,75]⟩,.string ⟨#[99,97,115,32,65,67,77,75]⟩,.string ⟨#[111,117,116,32,65]⟩,.string ⟨#[119,97,105,116,32,65,77,75]⟩,.string ⟨#[119,97,107,101,32,65,77,75]⟩,.string ⟨#[114,101,109,111,116,101]⟩,.string ⟨#[121,105,101,108,100]⟩,.string ⟨#[109,97,114,107,32,65,75]⟩]:Array Value).toList=opRows.map str:=rfl

theorem name2_out(w:World)(op:Int)(h:op < 0∨28≤op):
  Calls Tryz.prog 118 #[.int .i64 op] w fun e w'=>e=.returned (.tuple #[str (opName op),str (opField op)])∧Below w.heap.size w w':=by
 have e1:opName op=[]:=by unfold opName;rw [if_neg (by omega)]
 have e2:opField op=[]:=by unfold opField;rw [if_neg (by omega)]
 rw [e1,e2]
 rcases h with h | h
 ·go_enter Tryz.func118,Tryz.ntmps118
  go_wp2_with fail
  go_ret2
  exact⟨rfl,(Below.refl _ _).alloc (Nat.le_refl _) _⟩
 ·have d:decide (op < 0)=false:=by simp;omega
  have d2:decide (28≤op)=true:=by simp;omega
  go_enter Tryz.func118,Tryz.ntmps118
  go_wp2_with fail
  go_ret2
  exact⟨rfl,(Below.refl _ _).alloc (Nat.le_refl _) _⟩
set_option maxHeartbeats 800000 in
theorem name2_in(w:World)(k:Nat)(h:k < 28):
  Calls Tryz.prog 118 #[.int .i64 k] w fun e w'=>e=.returned (.tuple #[str (opName k),str (opField k)])∧Below w.heap.size w w':=by
 obtain⟨s,hs,hcell⟩:∃ s:ByteArray,s.data.toList=opRows.getD k []∧(w.alloc (.cells #[.string ⟨#[104,97,108,116]⟩,.string ⟨#[115,101,116,32,65,75]⟩,.string ⟨#[109,111,118,101,32,65,66]⟩,.string ⟨#[97,100,100,32,65,66,67]⟩,.string ⟨#[115,117,98,32,65,66,67]⟩,.string ⟨#[109,117,108,32,65,66,67]⟩,.string ⟨#[97,110,100,32,65,66,67]⟩,.string ⟨#[111,114,32,65,66,67]⟩,.string ⟨#[120,111,114,32,65,66,67]⟩,.string ⟨#[115,104,108,32,65,66,67]⟩,.string ⟨#[115,104,114,32,65,66,67]⟩,.string ⟨#[108,101,115,115,32,65,66,67]⟩,.string ⟨#[115,97,109,101,32,65,66,67]⟩,.string ⟨#[106,117,109,112,32,84]⟩,.string ⟨#[122,101,114,111,32,65,84]⟩,.string ⟨#[115,111,109,101,32,65,84]⟩,.string ⟨#[108,111,97,100,32,65,77,75]⟩,.string ⟨#[115,116,111,114,101,32,65,77,75]⟩,.string ⟨#[102,101,110,99,101]⟩,.string ⟨#[115,119,97,112,32,65,77,75]⟩,.string ⟨#[102,101,116,99,104,32,65,77,75]⟩,.string ⟨#[99,97,115,32,65,67,77,75]⟩,.string ⟨#[111,117,116,32,65]⟩,.string ⟨#[119,97,105,116,32,65,77,75]⟩,.string ⟨#[119,97,107,101,32,65,77,75]⟩,.string ⟨#[114,101,109,111,116,101]⟩,.string ⟨#[121,105,101,108,100]⟩,.string ⟨#[109,97,114,107,32,65,75]⟩] 9)).cell? ⟨w.heap.size,k,none⟩=some (.string s):=by
  refine⟨⟨(opRows.getD k []).toArray⟩,rfl,?_⟩
  have e:(#[.string ⟨#[104,97,108,116]⟩,.string ⟨#[115,101,116,32,65,75]⟩,.string ⟨#[109,111,118,101,32,65,66]⟩,.string ⟨#[97,100,100,32,65,66,67]⟩,.string ⟨#[115,117,98,32,65,66,67]⟩,.string ⟨#[109,117,108,32,65,66,67]⟩,.string ⟨#[97,110,100,32,65,66,67]⟩,.string ⟨#[111,114,32,65,66,67]⟩,.string ⟨#[120,111,114,32,65,66,67]⟩,.string ⟨#[115,104,108,32,65,66,67]⟩,.string ⟨#[115,104,114,32,65,66,67]⟩,.string ⟨#[108,101,115,115,32,65,66,67]⟩,.string ⟨#[115,97,109,101,32,65,66,67]⟩,.string ⟨#[106,117,109,112,32,84]⟩,.string ⟨#[122,101,114,111,32,65,84]⟩,.string ⟨#[115,111,109,101,32,65,84]⟩,.string ⟨#[108,111,97,100,32,65,77,75]⟩,.string ⟨#[115,116,111,114,101,32,65,77,75]⟩,.string ⟨#[102,101,110,99,101]⟩,.string ⟨#[115,119,97,112,32,65,77,75]⟩,.string ⟨#[102,101,116,99,104,32,65,77,75]⟩,.string ⟨#[99,97,115,32,65,67,77,75]⟩,.string ⟨#[111,117,116,32,65]⟩,.string ⟨#[119,97,105,116,32,65,77,75]⟩,.string ⟨#[119,97,107,101,32,65,77,75]⟩,.string ⟨#[114,101,109,111,116,101]⟩,.string ⟨#[121,105,101,108,100]⟩,.string ⟨#[109,97,114,107,32,65,75]⟩]:Array Value)[k]? = some (str (opRows.getD k [])):=by
   rw [←Array.getElem?_toList,rowsArr,List.getElem?_map,List.getD_eq_getElem?_getD]
   have:k < opRows.length:=h
   rw [List.getElem?_eq_getElem this]
   rfl
  generalize (#[.string ⟨#[104,97,108,116]⟩,.string ⟨#[115,101,116,32,65,75]⟩,.string ⟨#[109,111,118,101,32,65,66]⟩,.string ⟨#[97,100,100,32,65,66,67]⟩,.string ⟨#[115,117,98,32,65,66,67]⟩,.string ⟨#[109,117,108,32,65,66,67]⟩,.string ⟨#[97,110,100,32,65,66,67]⟩,.string ⟨#[111,114,32,65,66,67]⟩,.string ⟨#[120,111,114,32,65,66,67]⟩,.string ⟨#[115,104,108,32,65,66,67]⟩,.string ⟨#[115,104,114,32,65,66,67]⟩,.string ⟨#[108,101,115,115,32,65,66,67]⟩,.string ⟨#[115,97,109,101,32,65,66,67]⟩,.string ⟨#[106,117,109,112,32,84]⟩,.string ⟨#[122,101,114,111,32,65,84]⟩,.string ⟨#[115,111,109,101,32,65,84]⟩,.string ⟨#[108,111,97,100,32,65,77,75]⟩,.string ⟨#[115,116,111,114,101,32,65,77,75]⟩,.string ⟨#[102,101,110,99,101]⟩,.string ⟨#[115,119,97,112,32,65,77,75]⟩,.string ⟨#[102,101,116,99,104,32,65,77,75]⟩,.string ⟨#[99,97,115,32,65,67,77,75]⟩,.string ⟨#[111,117,116,32,65]⟩,.string ⟨#[119,97,105,116,32,65,77,75]⟩,.string ⟨#[119,97,107,101,32,65,77,75]⟩,.string ⟨#[114,101,109,111,116,101]⟩,.string ⟨#[121,105,101,108,100]⟩,.string ⟨#[109,97,114,107,32,65,75]⟩]:Array Value)=arr at e ⊢
  exact cell_new_at e
 obtain⟨h1,h2,h3⟩:=rows_all k h
 rw [←hs] at h1 h2 h3
 clear hs
 have hlen:=toList_len s
 rw [hlen] at h3
 generalize opName k=nm at h1 ⊢
 generalize opField k=fd at h2 ⊢
 have H1:=Lib.hid h1
 have H2:=Lib.hid h2
 clear h1 h2
 have d:decide ((k:Int) < 0)=false:=by simp
 have d2:decide (28≤(k:Int))=false:=by simp;omega
 go_enter Tryz.func118,Tryz.ntmps118
 go_wp2_with fail
 have HB:Hid (Below w.heap.size w (w.alloc (.cells #[.string ⟨#[104,97,108,116]⟩,.string ⟨#[115,101,116,32,65,75]⟩,.string ⟨#[109,111,118,101,32,65,66]⟩,.string ⟨#[97,100,100,32,65,66,67]⟩,.string ⟨#[115,117,98,32,65,66,67]⟩,.string ⟨#[109,117,108,32,65,66,67]⟩,.string ⟨#[97,110,100,32,65,66,67]⟩,.string ⟨#[111,114,32,65,66,67]⟩,.string ⟨#[120,111,114,32,65,66,67]⟩,.string ⟨#[115,104,108,32,65,66,67]⟩,.string ⟨#[115,104,114,32,65,66,67]⟩,.string ⟨#[108,101,115,115,32,65,66,67]⟩,.string ⟨#[115,97,109,101,32,65,66,67]⟩,.string ⟨#[106,117,109,112,32,84]⟩,.string ⟨#[122,101,114,111,32,65,84]⟩,.string ⟨#[115,111,109,101,32,65,84]⟩,.string ⟨#[108,111,97,100,32,65,77,75]⟩,.string ⟨#[115,116,111,114,101,32,65,77,75]⟩,.string ⟨#[102,101,110,99,101]⟩,.string ⟨#[115,119,97,112,32,65,77,75]⟩,.string ⟨#[102,101,116,99,104,32,65,77,75]⟩,.string ⟨#[99,97,115,32,65,67,77,75]⟩,.string ⟨#[111,117,116,32,65]⟩,.string ⟨#[119,97,105,116,32,65,77,75]⟩,.string ⟨#[119,97,107,101,32,65,77,75]⟩,.string ⟨#[114,101,109,111,116,101]⟩,.string ⟨#[121,105,101,108,100]⟩,.string ⟨#[109,97,114,107,32,65,75]⟩] 9))):=(Below.refl _ _).alloc (Nat.le_refl _) _
 generalize w.alloc (.cells #[.string ⟨#[104,97,108,116]⟩,.string ⟨#[115,101,116,32,65,75]⟩,.string ⟨#[109,111,118,101,32,65,66]⟩,.string ⟨#[97,100,100,32,65,66,67]⟩,.string ⟨#[115,117,98,32,65,66,67]⟩,.string ⟨#[109,117,108,32,65,66,67]⟩,.string ⟨#[97,110,100,32,65,66,67]⟩,.string ⟨#[111,114,32,65,66,67]⟩,.string ⟨#[120,111,114,32,65,66,67]⟩,.string ⟨#[115,104,108,32,65,66,67]⟩,.string ⟨#[115,104,114,32,65,66,67]⟩,.string ⟨#[108,101,115,115,32,65,66,67]⟩,.string ⟨#[115,97,109,101,32,65,66,67]⟩,.string ⟨#[106,117,109,112,32,84]⟩,.string ⟨#[122,101,114,111,32,65,84]⟩,.string ⟨#[115,111,109,101,32,65,84]⟩,.string ⟨#[108,111,97,100,32,65,77,75]⟩,.string ⟨#[115,116,111,114,101,32,65,77,75]⟩,.string ⟨#[102,101,110,99,101]⟩,.string ⟨#[115,119,97,112,32,65,77,75]⟩,.string ⟨#[102,101,116,99,104,32,65,77,75]⟩,.string ⟨#[99,97,115,32,65,67,77,75]⟩,.string ⟨#[111,117,116,32,65]⟩,.string ⟨#[119,97,105,116,32,65,77,75]⟩,.string ⟨#[119,97,107,101,32,65,77,75]⟩,.string ⟨#[114,101,109,111,116,101]⟩,.string ⟨#[121,105,101,108,100]⟩,.string ⟨#[109,97,114,107,32,65,75]⟩] 9)=W at HB hcell ⊢
 clear hcell
 go_loopw [6] (fun iv wr=>∃ (i:Nat),wr=W∧i≤s.size∧iv=.int .i64 i∧Hid (∀ c∈s.data.toList.take i,c≠32)) (fun i _=>s.size - (intOf i).toNat)
 case atStart=>exact⟨0,rfl,by omega,rfl,fun c hc=>by simp at hc⟩
 case round=>
  obtain⟨i,rfl,hil,rfl,HD⟩:=hrel
  by_cases hlt:i < s.size
  ·obtain⟨c,hc⟩:∃ c,s.data.toList[i]? = some c:=⟨_,List.getElem?_eq_getElem (by omega)⟩
   obtain⟨hi,hcc⟩:=at_byte hc
   have HC:=Lib.hid hc
   clear hc
   by_cases hd:c=32
   ·have d0:((c.toNat:Int) == 32)=true:=by rw [hd];rfl
    have hh:=takeWhile_hit s.data.toList i 32 (by rw [HC.out,hd]) HD.out
    have HH:=Lib.hid hh
    clear hh
    go_wp2_with fail
    go_quiet (fail)
    go_wp2_with fail
    go_ret2
    refine⟨?_,below_drewN nq HB.out⟩
    rw [H1.out,H2.out,HH.out.1,HH.out.2,List.drop_drop,←ext_take,←ext_drop]
    rfl
   ·have d0:((c.toNat:Int) == 32)=false:=by
     rw [beq_eq_false_iff_ne];intro h;exact hd (UInt8.toNat_inj.1 (by have:(32:UInt8).toNat=32:=rfl;omega))
    go_wp2_with fail
    have ht:=take_succ_at HC.out
    refine⟨⟨i+1,True.intro,by omega,by simp,?_⟩,by simp [intOf];omega⟩
    rw [ht]
    intro x hx
    rcases List.mem_append.1 hx with hx | hx
    ·exact HD.out x hx
    ·have:x=c:=by simpa using hx
     rw [this];exact hd
  ·have hta:s.data.toList.take i=s.data.toList:=List.take_of_length_le (by omega)
   have hh:=takeWhile_miss s.data.toList 32 (by rw [←hta];exact HD.out)
   have HH:=Lib.hid hh
   clear hh hta
   go_wp2_with fail
   go_ret2
   refine⟨?_,HB.out⟩
   rw [H1.out,H2.out,HH.out.1,HH.out.2]
   rfl
theorem name2_any(w:World)(op:Int):
  Calls Tryz.prog 118 #[.int .i64 op] w fun e w'=>∃ sn sf:ByteArray,sn.data.toList=opName op∧sf.data.toList=opField op∧e=.returned (.tuple #[.string sn,.string sf])∧Below w.heap.size w w':=by
 by_cases h:op < 0∨28≤op
 ·exact (name2_out w op h).mono fun e w' h=>⟨⟨(opName op).toArray⟩,⟨(opField op).toArray⟩,rfl,rfl,h⟩
 ·obtain⟨k,rfl⟩:=Int.eq_ofNat_of_zero_le (show 0≤op by omega)
  exact (name2_in w k (by omega)).mono fun e w' h=>⟨⟨(opName k).toArray⟩,⟨(opField k).toArray⟩,rfl,rfl,h⟩
theorem field_len(op:Int):(opField op).length≤20:=by
 unfold opField
 split
 ·next h=>
  obtain⟨k,rfl⟩:=Int.eq_ofNat_of_zero_le h.1
  have:∀ k,k < 28→(opFields.getD k []).length≤20:=by decide
  exact this k (by omega)
 ·simp
theorem has_any(w:World)(op:Int)(b:UInt8):
  Calls Tryz.prog 91 #[.int .i64 op,.int .u8 b.toNat] w fun e w'=>e=.returned (.bool (hasB op b))∧Below w.heap.size w w':=by
 obtain⟨r,hr0⟩:∃ r,r=hasB op b:=⟨_,rfl⟩
 rw [←hr0]
 have HR0:=Lib.hid hr0
 clear hr0
 go_enter Tryz.func91,Tryz.ntmps91
 go_wp2_with fail
 refine (name2_any _ _).mono ?_;rintro e w' ⟨sn,s,-,hs,rfl,HB⟩
 have hm:=field_len op
 have hr:r=s.data.toList.contains b:=by rw [HR0.out];unfold hasB;rw [hs]
 have hlen:=toList_len s
 rw [←hs,hlen] at hm
 clear hs
 have HR:=Lib.hid hr
 clear HR0
 have HB:=Lib.hid HB
 clear hr
 go_wp2_with fail
 go_loopw [7] (fun iv wr=>∃ (i:Nat),wr=w'∧i≤s.size∧iv=.int .i64 i∧Hid (∀ c∈s.data.toList.take i,c≠b)) (fun i _=>s.size - (intOf i).toNat)
 case atStart=>exact⟨0,rfl,by omega,rfl,fun c hc=>by simp at hc⟩
 case round=>
  obtain⟨i,rfl,hil,rfl,HD⟩:=hrel
  by_cases hlt:i < s.size
  ·obtain⟨c,hc⟩:∃ c,s.data.toList[i]? = some c:=⟨_,List.getElem?_eq_getElem (by omega)⟩
   obtain⟨hi,hcc⟩:=at_byte hc
   have HC:=Lib.hid hc
   clear hc
   by_cases hd:c=b
   ·have d0:((c.toNat:Int) == (b.toNat:Int))=true:=by rw [hd];simp
    have hall:s.data.toList.contains b=true:=by
     rw [List.contains_iff_mem,←hd];exact List.mem_of_getElem? HC.out
    have HV:=Lib.hid hall
    clear hall hd
    go_wp2_with fail
    go_ret
    exact⟨by rw [HR.out,HV.out]<;>rfl,HB.out⟩
   ·have d0:=byte_ne hd
    go_wp2_with fail
    have ht:=take_succ_at HC.out
    refine⟨⟨i+1,True.intro,by omega,by simp,?_⟩,by simp [intOf];omega⟩
    rw [ht]
    intro x hx
    rcases List.mem_append.1 hx with hx | hx
    ·exact HD.out x hx
    ·have:x=c:=by simpa using hx
     rw [this];exact hd
  ·have hta:s.data.toList.take i=s.data.toList:=List.take_of_length_le (by omega)
   have hall:s.data.toList.contains b=false:=by
    cases e:s.data.toList.contains b with
    | false=>rfl
    | true=>exact absurd rfl (HD.out b (by rw [hta];exact List.contains_iff_mem.1 e))
   have HV:=Lib.hid hall
   clear hall hta
   go_wp2_with fail
   go_ret
   exact⟨by rw [HR.out,HV.out]<;>rfl,HB.out⟩
theorem idx_first(l:List B8)(x:B8)(i:Nat)(h:l[i]? = some x)(hn:∀ j,j < i→l.getD j []≠x):l.contains x=true∧l.idxOf x=i:=by
 refine⟨List.contains_iff_mem.2 (List.mem_of_getElem? h),?_⟩
 induction l generalizing i with
 | nil=>simp at h
 | cons y l ih=>
  cases i with
  | zero=>
   have:y=x:=by simpa using h
   rw [this];simp
  | succ i=>
   have h0:y≠x:=hn 0 (by omega)
   have:=ih i (by simpa using h) (fun j hj=>hn (j+1) (by omega))
   have hb:(y == x)=false:=beq_eq_false_iff_ne.2 h0
   simp [List.idxOf_cons,hb,this]
theorem op_any(w:World)(s:ByteArray)(hm:s.size≤1000000):
  Calls Tryz.prog 117 #[.string s] w fun e w'=>e=.returned (.int .i64 (opB s.data.toList))∧Below w.heap.size w w':=by
 go_enter Tryz.func117,Tryz.ntmps117
 go_wp2_with fail
 go_loopw [3] (fun iv wr=>∃ (i:Nat),Hid (Below w.heap.size w wr)∧i≤28∧iv=.int .i64 i∧Hid (∀ j,j < i→opNames.getD j []≠s.data.toList)) (fun i _=>28 - (intOf i).toNat)
 case atStart=>exact⟨0,Below.refl _ _,by omega,rfl,fun c hc=>absurd hc (by omega)⟩
 case round=>
  obtain⟨i,HB,hil,rfl,HD⟩:=hrel
  by_cases hlt:i < 28
  ·go_wp2_with fail
   refine (name2_any _ _).mono ?_;rintro e w' ⟨t,sf,ht,-,rfl,HB2⟩
   have en:opName (i:Int)=opNames.getD i []:=by unfold opName;rw [if_pos ⟨by omega,by omega⟩];rfl
   have eg:opNames[i]? = some (opNames.getD i []):=by
    rw [List.getD_eq_getElem?_getD,List.getElem?_eq_getElem (show i < opNames.length from hlt)];rfl
   rw [en] at ht
   by_cases heq:opNames.getD i []=s.data.toList
   ·have hb:(t.toList == s.toList)=true:=by rw [ByteArray.toList_eq,ByteArray.toList_eq,ht,heq];simp
    rw [heq] at eg
    obtain⟨g1,g2⟩:=idx_first _ _ _ eg HD.out
    have hv:opB s.data.toList=i:=by unfold opB;rw [if_pos g1,g2]
    have HV:=Lib.hid hv
    clear heq eg g1 g2 hv ht en
    go_wp2_with fail
    go_ret
    exact⟨by rw [HV.out]<;>rfl,HB.out.trans (HB2.mono HB.out.size)⟩
   ·have hb:(t.toList == s.toList)=false:=by rw [ByteArray.toList_eq,ByteArray.toList_eq,ht];exact beq_eq_false_iff_ne.2 heq
    have HE:=Lib.hid heq
    clear heq eg ht en
    go_wp2_with fail
    refine⟨⟨i+1,HB.out.trans (HB2.mono HB.out.size),by omega,by simp,?_⟩,by simp [intOf];omega⟩
    intro j hj
    by_cases e:j=i
    ·rw [e];exact HE.out
    ·exact HD.out j (by omega)
  ·have hi:i=28:=by omega
   subst hi
   have hv:opB s.data.toList = -1:=by
    unfold opB
    rw [if_neg]
    intro h
    obtain⟨j,hj⟩:=List.getElem?_of_mem (List.contains_iff_mem.1 h)
    have hl:j < 28:=(List.getElem?_eq_some_iff.1 hj).1
    apply HD.out j hl
    rw [List.getD_eq_getElem?_getD,hj];rfl
   have HV:=Lib.hid hv
   clear hv
   go_wp2_with fail
   go_ret
   exact⟨by rw [HV.out]<;>rfl,HB.out⟩
end Go.Proofs.YtcnmhgblbikfkaaGreatDoor.As
end

section
set_option linter.unusedVariables false
namespace Go.Proofs.YtcnmhgblbikfkaaGreatDoor.As
open Go.RowKit

set_option maxHeartbeats 800000 in
theorem rname_any(w:World)(s:ByteArray)(hm:s.size≤1000000):
  Calls Tryz.prog 88 #[.string s] w fun e w'=>e=.returned (.bool (nameOk s.data.toList))∧w'=w:=by
 have hlen:=toList_len s
 obtain⟨r,hr⟩:∃ r,r=nameOk s.data.toList:=⟨_,rfl⟩
 rw [←hr]
 have HR:=Lib.hid hr
 clear hr
 go_enter Tryz.func88,Tryz.ntmps88
 go_wp2
 go_loopw [3] (fun iv wr=>∃ (i:Nat),wr=w∧i≤s.size∧iv=.int .i64 i∧Hid (∀ j,j < i→okAt s.data.toList j)) (fun i _=>s.size - (intOf i).toNat)
 case atStart=>exact⟨0,rfl,by omega,rfl,fun c hc=>absurd hc (by omega)⟩
 case round=>
  obtain⟨i,rfl,hil,rfl,HOK⟩:=hrel
  by_cases hlt:i < s.size
  ·obtain⟨c,hc⟩:∃ c,s.data.toList[i]? = some c:=⟨_,List.getElem?_eq_getElem (by omega)⟩
   obtain⟨hi,hcc⟩:=at_byte hc
   have HC:=Lib.hid hc
   clear hc
   have step:isLet c=true∨(0 < i∧isDig c=true)→∀ j,j < i+1→okAt s.data.toList j:=by
    intro h j hj
    by_cases e:j=i
    ·subst e
     intro x hx
     rw [HC.out] at hx
     injection hx with hx
     subst hx
     exact h
    ·exact HOK.out j (by omega)
   have STEP:=Lib.hid step
   clear step
   by_cases hle:97≤c.toNat∧c.toNat≤122
   ·have hq:=Lib.hid ((let_iff c).2 hle)
    obtain⟨q1,q2⟩:=hle
    go_wp2
    exact⟨⟨i+1,True.intro,by omega,by simp,STEP.out (.inl hq.out)⟩,by simp [intOf];omega⟩
   ·have hq:=Lib.hid (let_no c hle)
    have hsp:c.toNat < 97∨(97≤c.toNat∧122 < c.toNat):=by omega
    clear hle
    by_cases hdg:(48≤c.toNat∧c.toNat≤57)
    ·have hq2:=Lib.hid ((dig_iff c).2 hdg)
     obtain⟨q1,q2⟩:=hdg
     have q3:c.toNat < 97:=by omega
     clear hsp
     by_cases h00:i=0
     ·have hbad:=Lib.hid (nameOk_bad _ _ _ HC.out hq.out (.inl h00))
      have d0:((i:Int) == 0)=true:=by rw [h00];rfl
      clear h00
      go_wp2
      go_ret
      exact⟨by rw [HR.out,hbad.out]<;>rfl,rfl⟩
     ·have d0:((i:Int) == 0)=false:=by rw [beq_eq_false_iff_ne];omega
      go_wp2
      exact⟨⟨i+1,True.intro,by omega,by simp,STEP.out (.inr ⟨by omega,hq2.out⟩)⟩,by simp [intOf];omega⟩
    ·have hbad:=Lib.hid (nameOk_bad _ _ _ HC.out hq.out (.inr (dig_no _ hdg)))
     have hsp2:c.toNat < 48∨(48≤c.toNat∧57 < c.toNat):=by omega
     clear hdg
     rcases hsp with q1 | ⟨q1,q2⟩
     ·rcases hsp2 with q3 | ⟨q3,q4⟩
      ·go_wp2
       go_ret
       exact⟨by rw [HR.out,hbad.out]<;>rfl,rfl⟩
      ·go_wp2
       go_ret
       exact⟨by rw [HR.out,hbad.out]<;>rfl,rfl⟩
     ·have q3:48≤c.toNat:=by omega
      have q4:57 < c.toNat:=by omega
      have d1:decide ((c.toNat:Int)≤122)=false:=by simp;omega
      clear hsp2
      go_wp2
      go_ret
      exact⟨by rw [HR.out,hbad.out]<;>rfl,rfl⟩
  ·have hie:i=s.size:=by omega
   by_cases h0:s.size=0
   ·have hv:nameOk s.data.toList=false:=by rw [nm_nil s h0];rfl
    have HV:=Lib.hid hv
    clear hv
    go_wp2
    go_ret
    exact⟨by rw [HR.out,HV.out]<;>rfl,rfl⟩
   ·by_cases h20:s.size≤20
    ·have d1:decide ((s.size:Int)≤20)=true:=by simp;omega
     have hv:nameOk s.data.toList=true:=nameOk_yes s.data.toList (by intro e;rw [e] at hlen;simp at hlen;omega) (by omega) (fun j=>by
      by_cases hj:j < i
      ·exact HOK.out j hj
      ·intro c hc
       have:=(List.getElem?_eq_some_iff.1 hc).1
       omega)
     have HV:=Lib.hid hv
     clear hv
     go_wp2
     go_ret
     exact⟨by rw [HR.out,HV.out]<;>rfl,rfl⟩
    ·have d1:decide ((s.size:Int)≤20)=false:=by simp;omega
     have hv:nameOk s.data.toList=false:=nameOk_long _ (by omega)
     have HV:=Lib.hid hv
     clear hv
     go_wp2
     go_ret
     exact⟨by rw [HR.out,HV.out]<;>rfl,rfl⟩
end Go.Proofs.YtcnmhgblbikfkaaGreatDoor.As
end

section
set_option linter.unusedVariables false
namespace Go.Proofs.YtcnmhgblbikfkaaGreatDoor.As
open Go.RowKit

theorem idx_at(l:B8)(b:UInt8)(i:Nat)(h:l[i]? = some b)(hn:∀ c∈l.take i,c≠b):l.contains b=true∧l.idxOf b=i:=by
 refine⟨List.contains_iff_mem.2 (List.mem_of_getElem? h),?_⟩
 induction l generalizing i with
 | nil=>simp at h
 | cons y l ih=>
  cases i with
  | zero=>
   have:y=b:=by simpa using h
   rw [this];simp
  | succ i=>
   have h0:y≠b:=hn y (by simp)
   have:=ih i (by simpa using h) (fun j hj=>hn j (by simp [hj]))
   have hb:(y == b)=false:=beq_eq_false_iff_ne.2 h0
   simp [List.idxOf_cons,hb,this]
theorem not_there(l:B8)(b:UInt8)(hn:∀ c∈l,c≠b):l.contains b=false:=by
 cases e:l.contains b with
 | false=>rfl
 | true=>exact absurd rfl (hn b (List.contains_iff_mem.1 e))
set_option maxHeartbeats 800000 in
theorem address_any(w:World)(s:ByteArray)(hm:s.size≤1000000):
  Calls Tryz.prog 121 #[.string s] w fun e w'=>e=.returned (.tuple #[.int .i64 (addrB s.data.toList).1,.int .i64 (addrB s.data.toList).2])∧Below w.heap.size w w':=by
 have hlen:=toList_len s
 by_cases h3:s.size < 3
 ·have e:addrB s.data.toList=(-1,-1):=by unfold addrB;rw [if_pos (.inl (by omega))]
  rw [e]
  clear e
  go_enter Tryz.func121,Tryz.ntmps121
  go_wp2_with fail
  go_ret2
  exact⟨rfl,Below.refl _ _⟩
 ·obtain⟨a,ha⟩:∃ c,s.data.toList[0]? = some c:=⟨_,List.getElem?_eq_getElem (by omega)⟩
  obtain⟨z,hz⟩:∃ c,s.data.toList[s.size - 1]? = some c:=⟨_,List.getElem?_eq_getElem (by omega)⟩
  obtain⟨i0,e0⟩:=at_byte ha
  obtain⟨i1,e1⟩:=at_byte hz
  by_cases q0:a=91
  ·by_cases q1:z=93
   ·obtain⟨t,ht⟩:∃ t,t=s.extract 1 (s.size - 1):=⟨_,rfl⟩
    have htl:t.data.toList=(s.data.toList.drop 1).take (s.size - 2):=by
     rw [ht,Lib.extract_data]
     congr 1
    have htn:=toList_len t
    have hts:t.size≤1000000:=by
     rw [←htn,htl,List.length_take];omega
    have e:addrB s.data.toList=if t.data.toList.contains 43 then
       if regB (t.data.toList.take (t.data.toList.idxOf 43)) < 0 then (-1,-1) else (regB (t.data.toList.take (t.data.toList.idxOf 43)),numB (t.data.toList.drop (t.data.toList.idxOf 43+1)))
      else (8,numB t.data.toList):=by
     unfold addrB
     rw [if_neg (by rw [hlen,ha,hz];simp [q0,q1];omega),htl,hlen]
    have d0:((a.toNat:Int) != 91)=false:=by rw [q0];rfl
    have d1:((z.toNat:Int) != 93)=false:=by rw [q1];rfl
    generalize addrB s.data.toList=r at e ⊢
    have E:=Lib.hid e
    clear e ha hz q0 q1 htl
    go_enter Tryz.func121,Tryz.ntmps121
    go_wp2_with fail
    rw [←ht]
    clear ht
    go_loopw [4] (fun iv wr=>∃ (i:Nat),wr=w∧i≤t.size∧iv=.int .i64 i∧Hid (∀ c∈t.data.toList.take i,c≠43)) (fun i _=>t.size - (intOf i).toNat)
    case atStart=>exact⟨0,rfl,by omega,rfl,fun c hc=>by simp at hc⟩
    case round=>
     obtain⟨i,rfl,hil,rfl,HD⟩:=hrel
     by_cases hlt:i < t.size
     ·obtain⟨c,hc⟩:∃ c,t.data.toList[i]? = some c:=⟨_,List.getElem?_eq_getElem (by omega)⟩
      obtain⟨hi,hcc⟩:=at_byte hc
      have HC:=Lib.hid hc
      clear hc
      by_cases hd:c=43
      ·have d2:((c.toNat:Int) == 43)=true:=by rw [hd];rfl
       have hx:=idx_at t.data.toList 43 i (by rw [HC.out,hd]) HD.out
       have HX:=Lib.hid hx
       clear hx
       have hq1:(t.extract 0 i).size≤1000000:=by rw [←toList_len,Lib.extract_data,List.length_take,List.length_drop];omega
       have hq2:(t.extract (i+1) t.size).size≤1000000:=by rw [←toList_len,Lib.extract_data,List.length_take,List.length_drop];omega
       have hw:IntKind.i64.wrap ((i:Int)+1)=(i:Int)+1:=by rw [IntKind.wrap_i64];omega
       have hb1:(0:Int)≤(i:Int)+1:=by omega
       have hb2:(i:Int)+1≤(t.size:Int):=by omega
       have hb3:((i:Int)+1).toNat=i+1:=by omega
       go_wp2_with fail
       go_quiet (first | (go_at_call 120;exact Calls.quiet_of_same (register_any _ _ hq1)) | (go_at_call 122;exact Calls.quiet_of_same (number_any _ _ hq2)))
       have ex1:(t.extract 0 i).data.toList=t.data.toList.take i:=by rw [Lib.extract_data,List.drop_zero,Nat.sub_zero]
       have ex2:(t.extract (i+1) t.size).data.toList=t.data.toList.drop (i+1):=by
        rw [Lib.extract_data];exact List.take_of_length_le (by rw [List.length_drop];omega)
       rw [ex1,ex2]
       have hE:=E.out
       rw [HX.out.1,HX.out.2] at hE
       clear ex1 ex2 hb1 hb2 hb3 hw hq1 hq2
       generalize regB (t.data.toList.take i)=rb at hE ⊢
       generalize numB (t.data.toList.drop (i+1))=nb at hE ⊢
       have HE:=Lib.hid hE
       clear hE
       by_cases hrb:rb < 0
       ·go_wp2_with fail
        go_ret2
        refine⟨?_,below_drewN nq (Below.refl _ _)⟩
        rw [HE.out,if_pos True.intro,if_pos hrb]
        rfl
       ·go_wp2_with fail
        go_ret2
        refine⟨?_,below_drewN nq (Below.refl _ _)⟩
        rw [HE.out,if_pos True.intro,if_neg (by omega)]
        rfl
      ·have d2:((c.toNat:Int) == 43)=false:=byte_ne hd
       go_wp2_with fail
       have ht:=take_succ_at HC.out
       refine⟨⟨i+1,True.intro,by omega,by simp,?_⟩,by simp [intOf];omega⟩
       rw [ht]
       intro x hx
       rcases List.mem_append.1 hx with hx | hx
       ·exact HD.out x hx
       ·have:x=c:=by simpa using hx
        rw [this];exact hd
     ·have hta:t.data.toList.take i=t.data.toList:=List.take_of_length_le (by omega)
      have hx:=not_there t.data.toList 43 (by rw [←hta];exact HD.out)
      have HX:=Lib.hid hx
      clear hx hta
      go_wp2_with fail
      refine (number_any _ _ hts).mono ?_;rintro e w' ⟨rfl,rfl⟩
      go_wp2_with fail
      go_ret2
      refine⟨?_,Below.refl _ _⟩
      rw [E.out,HX.out]
      rfl
   ·have e:addrB s.data.toList=(-1,-1):=by unfold addrB;rw [if_pos (.inr (.inr (by rw [hlen,hz];simp [q1])))]
    rw [e]
    have d0:((a.toNat:Int) != 91)=false:=by rw [q0];rfl
    have d1:((z.toNat:Int) != 93)=true:=by have:=byte_ne q1;exact (congrArg not this:_)
    clear e ha hz q0 q1
    go_enter Tryz.func121,Tryz.ntmps121
    go_wp2_with fail
    go_ret2
    exact⟨rfl,Below.refl _ _⟩
  ·have e:addrB s.data.toList=(-1,-1):=by unfold addrB;rw [if_pos (.inr (.inl (by rw [ha];simp [q0])))]
   rw [e]
   have d0:((a.toNat:Int) != 91)=true:=by have:=byte_ne q0;exact (congrArg not this:_)
   clear e ha hz q0
   go_enter Tryz.func121,Tryz.ntmps121
   go_wp2_with fail
   go_ret2
   exact⟨rfl,Below.refl _ _⟩
end Go.Proofs.YtcnmhgblbikfkaaGreatDoor.As
end

section
set_option linter.unusedVariables false
namespace Go.Proofs.YtcnmhgblbikfkaaGreatDoor.As
open Go.RowKit

theorem place_any(w:World)(v:Value)(ls:List B8)(nm:ByteArray)(q:Nat)(hq:ls.length=q)(h:Rd w 1 v q (ls.map str))(hn:ls.length < 1000000)(hm:nm.size≤1000000)(hls:∀ l∈ls,l.length≤1000000):
  Calls Tryz.prog 89 #[v,.string nm] w fun e w'=>e=.returned (.int .i64 (placeB ls nm.data.toList))∧∃ m,w'=w.drewN m:=by
 subst hq
 obtain⟨A,cap,rfl⟩:=h.form
 have HR:=Lib.hid h
 clear h
 obtain⟨r,hr⟩:∃ r,r=placeB ls nm.data.toList:=⟨_,rfl⟩
 rw [←hr]
 have HR0:=Lib.hid hr
 clear hr
 go_enter Tryz.func89,Tryz.ntmps89
 go_wp2_with fail
 go_loopw [5,6] (fun nv iv wr=>∃ (i n:Nat),Hid (∃ m,wr=w.drewN m)∧Hid (Rd wr 1 (.slice A ls.length cap) ls.length (ls.map str))∧i≤ls.length∧n≤i∧iv=.int .i64 i∧nv=.int .i64 n∧Hid (r=placeGo nm.data.toList n (ls.drop i))) (fun _ i _=>ls.length - (intOf i).toNat)
 case atStart=>exact⟨0,0,⟨0,rfl⟩,HR,by omega,by omega,rfl,rfl,HR0⟩
 case round=>
  obtain⟨i,n,HB,HRW,hil,hni,rfl,rfl,HE⟩:=hrel
  by_cases hlt:i < ls.length
  ·obtain⟨b,off,rfl,hb,hcell⟩:=HRW.out.cells (by omega)
   obtain⟨l,hl⟩:∃ l,ls[i]? = some l:=⟨_,List.getElem?_eq_getElem hlt⟩
   obtain⟨t,ht⟩:∃ t:ByteArray,t.data.toList=l:=⟨⟨l.toArray⟩,rfl⟩
   have hc:wr.cell? ⟨b,off+i,none⟩=some (.string t):=by
    rw [hcell i (str l) (by rw [List.getElem?_map,hl];rfl),←ht];rfl
   have htn:=toList_len t
   have htm:t.size≤1000000:=by rw [←htn,ht];exact hls l (List.mem_of_getElem? hl)
   have hdr:ls.drop i=l::ls.drop (i+1):=by
    rw [List.drop_eq_getElem_cons hlt,(List.getElem?_eq_some_iff.1 hl).2]
   have hE:=HE.out
   rw [hdr,placeGo] at hE
   clear hcell hl hdr HE
   by_cases h0:l=[]
   ·rw [if_pos h0] at hE
    have HE:=Lib.hid hE
    have hemp:t.toList.isEmpty=true:=by rw [ByteArray.toList_eq,ht,h0];rfl
    clear hE h0 ht
    go_wp2_with fail
    exact⟨⟨i+1,n,HB,HRW,by omega,by omega,by simp,rfl,HE⟩,by simp [intOf];omega⟩
   ·rw [if_neg h0] at hE
    have hemp:t.toList.isEmpty=false:=by rw [ByteArray.toList_eq,ht];exact List.isEmpty_eq_false_iff.2 h0
    have h1:0 < t.size:=by rw [←htn,ht];exact List.length_pos_iff.2 h0
    by_cases heq:l=nm.data.toList++[58]
    ·rw [if_pos heq] at hE
     have hb2:(t.toList == (nm++⟨#[58]⟩).toList)=true:=by
      rw [ByteArray.toList_eq,ByteArray.toList_eq,ht,heq,ByteArray.data_append,Array.toList_append]
      exact beq_self_eq_true _
     have HE:=Lib.hid hE
     clear hE h0 heq ht
     go_wp2_with fail
     go_ret
     exact⟨by rw [HE.out]<;>rfl,HB.out⟩
    ·rw [if_neg heq] at hE
     have hb2:(t.toList == (nm++⟨#[58]⟩).toList)=false:=by
      rw [ByteArray.toList_eq,ByteArray.toList_eq,ht,ByteArray.data_append,Array.toList_append]
      exact beq_eq_false_iff_ne.2 heq
     obtain⟨c,hcl⟩:∃ c,t.data.toList[t.size - 1]? = some c:=⟨_,List.getElem?_eq_getElem (by omega)⟩
     have hla:l.getLast? = some c:=by rw [List.getLast?_eq_getElem?,←ht,htn];exact hcl
     obtain⟨hi',hcc⟩:=at_byte hcl
     rw [hla] at hE
     clear hcl hla h0 heq ht
     have f1:IntKind.i64.wrap ((t.size:Int) - 1)=(t.size:Int) - 1:=by rw [IntKind.wrap_i64];omega
     have f2:(0:Int)≤(t.size:Int) - 1:=by omega
     have f3:(t.size:Int) - 1 < (t.size:Int):=by omega
     have f4:((t.size:Int) - 1).toNat=t.size - 1:=by omega
     by_cases hd:c=58
     ·have d2:((c.toNat:Int) != 58)=false:=by rw [hd];rfl
      rw [if_pos (by rw [hd])] at hE
      have HE:=Lib.hid hE
      clear hE hd
      go_wp2_with fail
      go_quiet (fail)
      go_wp2_with fail
      exact⟨⟨i+1,n,(by obtain⟨m,e⟩:=HB.out;exact⟨m+nq,by rw [e,World.drewN_drewN]⟩),HRW.out.below (below_drewN nq (Below.refl _ _)) (Nat.le_refl _),by omega,by omega,by simp,rfl,HE⟩,by simp [intOf];omega⟩
     ·have d2:((c.toNat:Int) != 58)=true:=by have:=byte_ne hd;exact (congrArg not this:_)
      rw [if_neg (by intro e;injection e with e;exact hd e)] at hE
      have HE:=Lib.hid hE
      clear hE hd
      go_wp2_with fail
      go_quiet (fail)
      go_wp2_with fail
      exact⟨⟨i+1,n+1,(by obtain⟨m,e⟩:=HB.out;exact⟨m+nq,by rw [e,World.drewN_drewN]⟩),HRW.out.below (below_drewN nq (Below.refl _ _)) (Nat.le_refl _),by omega,by omega,by simp,by simp,by show _=_;rw [HE.out];simp⟩,by simp [intOf];omega⟩
  ·have hE:=HE.out
   rw [List.drop_eq_nil_of_le (by omega),placeGo] at hE
   have HE:=Lib.hid hE
   clear hE
   go_wp2_with fail
   go_ret
   exact⟨by rw [HE.out]<;>rfl,HB.out⟩
end Go.Proofs.YtcnmhgblbikfkaaGreatDoor.As
end

