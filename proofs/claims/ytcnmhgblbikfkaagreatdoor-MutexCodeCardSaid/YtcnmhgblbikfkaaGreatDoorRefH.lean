/- The walks of the package deadlatchref04: a text,the first going through. -/
import Derived.Test.YtcnmhgblbikfkaaGreatDoorGu
import Derived.Test.YtcnmhgblbikfkaaGreatDoorRefG
import Derived.Test.YtcnmhgblbikfkaaGreatDoorGb
set_option linter.unusedVariables false
set_option linter.unusedSimpArgs false
namespace Go.Proofs.YtcnmhgblbikfkaaGreatDoor.As
open Go.RowKit

theorem modify_set(l:List Ins)(k:Nat)(x:Ins)(m:Int)(h:l[k]? = some x):l.modify k (fun x=>{ x with k:=m })=l.set k { x with k:=m }:=by
 induction l generalizing k with
 | nil=>simp at h
 | cons y l ih=>
  cases k with
  | zero=>
   have:y=x:=by simpa using h
   rw [this];rfl
  | succ k=>
   have:=ih k (by simpa using h)
   rw [List.modify_succ_cons,List.set_cons_succ,this]
theorem own_base{w:World}{b0 b1:Nat}{e:TypeId}{size n:Nat}{v:Value}{xs:List Value}(h:w.ownsRow b1 e size v n xs)(hb:b0≤b1):w.ownsRow b0 e size v n xs:=by
 refine⟨h.1,?_⟩
 rcases h.2 with h | ⟨g,cap,cs,e1,e2,e3⟩
 ·exact .inl h
 ·exact .inr ⟨g,cap,cs,e1,Nat.le_trans hb e2,e3⟩
def ParsePost(w:World)(r:List Ins×Int×Int)(e:Ending)(w':World):Prop:=
 ∃ v,e=.returned (.tuple #[v,.int .i64 r.2.1,.int .i64 r.2.2])∧w'.ownsRow w.heap.size 132 5 v r.1.length (flat r.1)∧Below w.heap.size w w'
theorem parse_nil{w w':World}{n e:Int}(hb:Below w.heap.size w w'):ParsePost w ([],n,e) (.returned (.tuple #[.slice none 0 0,.int .i64 n,.int .i64 e])) w':=
 ⟨_,rfl,World.ownsRow_nil _ _ _ _,hb⟩
theorem take_map{lines:List B8}{w:World}{bb off cap k:Nat}(h:Rd w 1 (.slice (some ⟨bb,off,none⟩) lines.length cap) lines.length (lines.map str))(hk:k≤lines.length):Rd w 1 (.slice (some ⟨bb,off,none⟩) k cap) k ((lines.take k).map str):=by
 obtain⟨A,cap',e,hc,hl,h⟩:=h
 injection e with e1 e2 e3
 subst e1;subst e3
 rcases h with⟨h,_⟩ | ⟨b,o,h1,hb,h2⟩
 ·cases h
 ·injection h1 with h1;injection h1 with h3 h4;subst h3;subst h4
  refine⟨_,_,rfl,by omega,by simp;omega,.inr ⟨_,_,rfl,hb,fun j u hu=>h2 j u ?_⟩⟩
  rw [List.map_take,List.getElem?_take] at hu
  split at hu
  ·exact hu
  ·cases hu

set_option maxHeartbeats 4000000 in
set_option maxRecDepth 100000 in
theorem parse_few(w:World)(s:ByteArray)(hm:s.size≤20000):
  Calls Tryz.prog 45 #[.string s] w fun e w'=>ParsePost w (parseB s.data.toList) e w':=by
 obtain⟨i0,hi,hz0,hz1,hz2⟩:=info_parts infoI
 obtain⟨r,hr⟩:∃ r,r=parseB s.data.toList:=⟨_,rfl⟩
 rw [←hr]
 have HRES:=Lib.hid hr
 clear hr
 go_enter Tryz.func45,Tryz.ntmps45
 go_wp2_with fail
 refine (split_any s 10 _ (by omega)).mono ?_;rintro e w1 ⟨v,rfl,HO,HB⟩
 have hrd:=Rd.of_own HO
 obtain⟨A,cap,rfl⟩:=hrd.form
 have hlen2:=splitB_len 10 s.data.toList
 rw [toList_len] at hlen2
 have hws:=splitB_ne 10 s.data.toList
 have h1:0 < (splitB 10 s.data.toList).length:=List.length_pos_iff.2 hws
 obtain⟨bb,off,rfl,hbb,hcells⟩:=hrd.cells h1
 have hcap:(splitB 10 s.data.toList).length≤cap:=by obtain⟨_,_,e,h,_⟩:=hrd;injection e with e1 e2 e3;omega
 have herr:∀ n e,pass1 (splitB 10 s.data.toList) n=.error e→n≤(splitB 10 s.data.toList).length→r=([],e.1,e.2):=fun n e h hn=>by
  rw [HRES.out];exact parse_err1 (by rw [toList_len];omega) h hn
 have HERR:=Lib.hid herr
 have HRD:=Lib.hid hrd
 have HB1:=Lib.hid HB
 have HLS:Hid (∀ l∈splitB 10 s.data.toList,l.length≤1000000):=fun l hl=>Nat.le_trans (hlen2.2 l hl) (by omega)
 have hwl:(splitB 10 s.data.toList).length≤20001:=by omega
 clear hcells herr hrd HO hlen2 hws HB
 have HSW:Hid (∃ ws,ws=splitB 10 s.data.toList):=⟨_,rfl⟩
 generalize hwse:splitB 10 s.data.toList=ws at *
 have HWSE:=Lib.hid hwse
 clear hwse HSW
 go_wp2_with fail
 go_loopw [6,7] (fun ov nv wr=>∃ (n:Nat) (out:List Ins),n≤ws.length∧out.length≤n∧nv=.int .i64 n∧Hid (pass1 ws n=.ok out)∧Hid (wr.ownsRow w1.heap.size 132 5 ov out.length (flat out))∧Hid (Below w1.heap.size w1 wr)) (fun _ n _=>ws.length - (intOf n).toNat)
 case atStart=>exact⟨0,[],by omega,by simp,rfl,rfl,World.ownsRow_nil _ _ _ _,Below.refl _ _⟩
 case round=>
  obtain⟨n,out,hn,hon,rfl,HP,HOW,HB7⟩:=hrel
  have HRDn:=Lib.hid (HRD.out.below HB7.out (Nat.le_refl _))
  have HBn:=Lib.hid (HB1.out.trans (HB7.out.mono HB1.out.size))
  have hsz1:=HB7.out.size
  by_cases hlt:n < ws.length
  ·obtain⟨l,hl⟩:∃ l,ws[n]? = some l:=⟨_,List.getElem?_eq_getElem hlt⟩
   obtain⟨bb',off',t,hA,hbb',ht,hc⟩:=word_at HRDn.out hl
   injection hA with hA;injection hA with hA1 hA2;subst hA1;subst hA2
   have hts:t.size≤1000000:=by rw [←toList_len,ht];exact HLS.out l (List.mem_of_getElem? hl)
   have htn:=toList_len t
   have hstep:=pass1_succ HP.out
   rw [show ws.getD n []=l from by rw [List.getD_eq_getElem?_getD,hl];rfl] at hstep
   clear hl
   by_cases h0:l=[]
   ·have hemp:t.toList.isEmpty=true:=by rw [ByteArray.toList_eq,ht,h0];rfl
    rw [h0,lineB,if_pos rfl] at hstep
    have HSTEP:=Lib.hid hstep
    clear hstep h0 ht
    go_wp2_with fail
    exact⟨⟨n+1,out,by omega,by omega,by simp,HSTEP,HOW,HB7⟩,by simp [intOf];omega⟩
   ·have hemp:t.toList.isEmpty=false:=by rw [ByteArray.toList_eq,ht];exact List.isEmpty_eq_false_iff.2 h0
    have h1:0 < t.size:=by rw [←htn,ht];exact List.length_pos_iff.2 h0
    obtain⟨c,hcl⟩:∃ c,t.data.toList[t.size - 1]? = some c:=⟨_,List.getElem?_eq_getElem (by omega)⟩
    have hla:l.getLast? = some c:=by rw [List.getLast?_eq_getElem?,←ht,htn];exact hcl
    obtain⟨hi',hcc⟩:=at_byte hcl
    rw [lineB,if_neg h0,hla] at hstep
    have f1:IntKind.i64.wrap ((t.size:Int) - 1)=(t.size:Int) - 1:=by rw [IntKind.wrap_i64];omega
    have f2:(0:Int)≤(t.size:Int) - 1:=by omega
    have f3:(t.size:Int) - 1 < (t.size:Int):=by omega
    have f4:((t.size:Int) - 1).toNat=t.size - 1:=by omega
    by_cases hd:c=58
    ·have d2:((c.toNat:Int) == 58)=true:=by rw [hd];rfl
     rw [if_pos (by rw [hd])] at hstep
     obtain⟨u,hu0⟩:∃ u,u=t.extract 0 (t.size - 1):=⟨_,rfl⟩
     have hu:u.data.toList=l.dropLast:=by
      rw [hu0,Lib.extract_data,List.drop_zero,List.dropLast_eq_take,←ht,htn,Nat.sub_zero]
     have hus:u.size≤1000000:=by rw [←toList_len,hu,List.length_dropLast,←ht,htn];omega
     have hrn:=rname_any wr u hus
     have hpl:=fun m=>place_any (wr.drewN m) (.slice (some ⟨bb,off,none⟩) n cap) (ws.take n) u n (by simp;omega) (take_map (HRDn.out.below (below_drewN m (Below.refl _ _)) (Nat.le_refl _)) hn) (by simp;omega) hus (fun l hl=>HLS.out l (List.mem_of_mem_take hl))
     rw [←hu] at hstep
     clear hcl hla hd hu ht h0
     generalize placeB (ws.take n) u.data.toList=P at hstep hpl
     generalize nameOk u.data.toList=b at hstep hrn
     cases b with
     | false=>
      rw [if_pos rfl] at hstep
      have HR2:=Lib.hid (HERR.out _ _ hstep (by omega))
      clear hstep hpl
      go_wp2_with fail
      rw [←hu0]
      refine hrn.mono ?_;rintro e w5 ⟨rfl,rfl⟩
      clear hrn
      go_wp2_with fail
      go_ret3
      rw [HR2.out]
      exact parse_nil HBn.out
     | true=>
      rw [if_neg (by simp)] at hstep
      go_wp2_with fail
      rw [←hu0]
      refine hrn.mono ?_;rintro e w5 ⟨rfl,rfl⟩
      clear hrn
      have hn1:(n:Int)≤(cap:Int):=by omega
      have hn0:(0:Int)≤(n:Int):=by omega
      by_cases hP:0≤P
      ·rw [if_pos hP] at hstep
       have HR2:=Lib.hid (HERR.out _ _ hstep (by omega))
       clear hstep
       rw [hu0] at hpl
       go_wp2_with fail
       go_quiet ((go_at_call 89;exact Calls.quiet_of (hpl _)))
       clear hpl
       go_wp2_with fail
       go_ret3
       rw [HR2.out]
       exact parse_nil (below_drewN _ HBn.out)
      ·rw [if_neg hP] at hstep
       have HSTEP:=Lib.hid hstep
       clear hstep
       rw [hu0] at hpl
       go_wp2_with fail
       go_quiet ((go_at_call 89;exact Calls.quiet_of (hpl _)))
       clear hpl
       go_wp2_with fail
       exact⟨⟨n+1,out,by omega,by omega,by simp,HSTEP,HOW.out,below_drewN _ HB7.out⟩,by simp [intOf];omega⟩
    ·have d2:((c.toNat:Int) == 58)=false:=byte_ne hd
     rw [if_neg (by intro e;injection e with e;exact hd e)] at hstep
     rw [←ht] at hstep
     clear hcl hla hd ht h0
     go_wp2_with fail
     obtain⟨A,cap2,rfl⟩:=(Rd.of_own HOW.out).form
     refine (read_any _ t hts).mono ?_;rintro e w5 ⟨hrp,HB5⟩
     have HO5:=Lib.hid (own_only HOW.out (Only.of_below (F:=fun _=>False) HB5 (Nat.le_refl _)) (fun _ _ e=>e))
     have HB6:=Lib.hid (HBn.out.trans (HB5.mono HBn.out.size))
     have HB8:=Lib.hid (HB7.out.trans (HB5.mono HB7.out.size))
     have hsz5:=HB5.size
     have hszn:=HBn.out.size
     cases hrb:readB t.data.toList with
     | none=>
      rw [hrb] at hrp hstep
      obtain⟨j,rfl⟩:=hrp
      have HR2:=Lib.hid (HERR.out _ _ hstep (by omega))
      clear hstep hrb
      unfold Ins.val
      go_wp2_with fail
      go_ret3
      rw [HR2.out]
      exact parse_nil (HB6.out.alloc (by omega) _)
     | some x=>
      obtain⟨j,to⟩:=x
      rw [hrb] at hrp hstep
      have hrp':e=.returned (.tuple #[j.val,str to,.int .i64 1]):=hrp
      subst hrp'
      clear hrp hrb
      have hstep':pass1 ws (n+1)=if 4000≤out.length then .error ((n:Int)+1,4) else .ok (out++[j]):=hstep
      clear hstep
      by_cases h4:4000≤out.length
      ·rw [if_pos h4] at hstep'
       have HR2:=Lib.hid (HERR.out _ _ hstep' (by omega))
       clear hstep'
       unfold Ins.val
       go_wp2_with fail
       go_ret3
       rw [HR2.out]
       exact parse_nil (HB6.out.alloc (by omega) _)
      ·rw [if_neg h4] at hstep'
       have HSTEP:=Lib.hid hstep'
       clear hstep'
       unfold Ins.val
       go_wp2_with (at_builtin;refine wpList_append_own _ rfl (.tmp 78) (.tmp 80) 29 rfl w1.heap.size 132 i0 _ 5 40 Tryz.underlying29 hi hz0 hz1 hz2 rfl (by decide) _ _ _ rfl ((HO5.out.alloc _).alloc _) ⟨w5.heap.size+1,0,none⟩ 1 1 [.int .i64 j.op,.int .i64 j.a,.int .i64 j.b,.int .i64 j.c,.int .u32 j.k] rfl rfl (World.news_of_block (heap_alloc2_new _ _ _)) (by simp [Value.oneCell']) (by unfold maxLen;omega) (by omega) (by simp;omega) ?_;intro v' w6 ho hgr hat)
       refine⟨⟨n+1,out++[j],by omega,by simp;omega,by simp,HSTEP,?_,?_⟩,by simp [intOf];omega⟩
       ·show World.ownsRow _ _ _ _ _ _ _
        rw [flat_snoc,List.length_append,List.length_singleton]
        exact ho
       ·exact ((HB8.out.alloc (by omega) _).alloc (by simp;omega) _).grown hgr (by simp;omega) (fun k hk=>(HO5.out.lt k hk).1)
  ·have hne:n=ws.length:=by omega
   subst hne
   obtain⟨A,cap2,rfl⟩:=(Rd.of_own HOW.out).form
   have herr2:∀ n e,pass2 ws out n=.error e→n≤ws.length→r=([],e.1,e.2):=fun n e h hn=>by
    have h1:=HP.out
    rw [←HWSE.out] at h h1 hn
    rw [HRES.out];exact parse_err2 (by rw [toList_len];omega) h1 h hn
   have hok2:∀ x,pass2 ws out ws.length=.ok x→r=(x.2,0,0):=fun x h=>by
    have h1:=HP.out
    rw [←HWSE.out] at h h1
    rw [HRES.out];exact parse_ok (by rw [toList_len];omega) h1 h
   have HERR2:=Lib.hid herr2
   have HOK2:=Lib.hid hok2
   have HK0:=Lib.hid (pass1_k HP.out)
   clear herr2 hok2 HERR
   go_wp2_with fail
   go_loopw [12,13] (fun kv nv w2=>∃ (n k:Nat) (cur:List Ins),n≤ws.length∧k≤n∧kv=.int .i64 k∧nv=.int .i64 n∧Hid (k=cntI ws n)∧Hid (cur.length=out.length)∧Hid (pass2 ws out n=.ok (k,cur))∧Hid (∀ x∈cur,0≤x.k∧x.k≤4294967295)∧Hid (w2.ownsRow w1.heap.size 132 5 (.slice A out.length cap2) out.length (flat cur))∧Hid (Below w1.heap.size w1 w2)) (fun _ n _=>ws.length - (intOf n).toNat)
   case atStart=>exact⟨0,0,out,by omega,by omega,rfl,rfl,rfl,rfl,rfl,HK0,HOW,HB7⟩
   case round=>
    obtain⟨n,k,cur,hn2,hkn,rfl,rfl,HCN,HCL,HP2,HK,HOWc,HBc⟩:=hrel
    have HRDn2:=Lib.hid (HRD.out.below HBc.out (Nat.le_refl _))
    have HBw:=Lib.hid (HB1.out.trans (HBc.out.mono HB1.out.size))
    have hszc:=HBc.out.size
    have hszw:=HBw.out.size
    clear HB7 HRDn HBn hsz1 HOW hlt HK0
    by_cases hlt:n < ws.length
    ·obtain⟨l,hl⟩:∃ l,ws[n]? = some l:=⟨_,List.getElem?_eq_getElem hlt⟩
     obtain⟨bb',off',t,hA,hbb',ht,hc⟩:=word_at HRDn2.out hl
     injection hA with hA;injection hA with hA1 hA2;subst hA1;subst hA2
     have hts:t.size≤1000000:=by rw [←toList_len,ht];exact HLS.out l (List.mem_of_getElem? hl)
     have htn:=toList_len t
     have hgd:ws.getD n []=l:=by rw [List.getD_eq_getElem?_getD,hl];rfl
     have hstep:=pass2_succ HP2.out
     rw [hgd] at hstep
     have hcnt:isI l=false→k=cntI ws (n+1):=fun h=>by rw [cntI,hgd,h,HCN.out];simp
     have hcnt1:isI l=true→k+1=cntI ws (n+1):=fun h=>by rw [cntI,hgd,h,HCN.out];simp
     have hins:=fun h=>pass1_ins hlt (show isI (ws.getD n [])=true from by rw [hgd];exact h) HP.out
     rw [hgd,←HCN.out] at hins
     clear hl
     by_cases h0:l=[]
     ·have hemp:t.toList.isEmpty=true:=by rw [ByteArray.toList_eq,ht,h0];rfl
      have HC2:=Lib.hid (hcnt (isI_no (.inl h0)))
      rw [jumpB,if_pos (.inl h0)] at hstep
      have HSTEP:=Lib.hid hstep
      clear hstep h0 ht hcnt hcnt1 hins hgd
      go_wp2_with fail
      exact⟨⟨n+1,k,cur,by omega,by omega,rfl,by simp,HC2,HCL,HSTEP,HK,HOWc,HBc⟩,by simp [intOf];omega⟩
     ·have hemp:t.toList.isEmpty=false:=by rw [ByteArray.toList_eq,ht];exact List.isEmpty_eq_false_iff.2 h0
      have h1:0 < t.size:=by rw [←htn,ht];exact List.length_pos_iff.2 h0
      obtain⟨c,hcl⟩:∃ c,t.data.toList[t.size - 1]? = some c:=⟨_,List.getElem?_eq_getElem (by omega)⟩
      have hla:l.getLast? = some c:=by rw [List.getLast?_eq_getElem?,←ht,htn];exact hcl
      obtain⟨hi',hcc⟩:=at_byte hcl
      have f1:IntKind.i64.wrap ((t.size:Int) - 1)=(t.size:Int) - 1:=by rw [IntKind.wrap_i64];omega
      have f2:(0:Int)≤(t.size:Int) - 1:=by omega
      have f3:(t.size:Int) - 1 < (t.size:Int):=by omega
      have f4:((t.size:Int) - 1).toNat=t.size - 1:=by omega
      by_cases hd:c=58
      ·have d2:((c.toNat:Int) == 58)=true:=by rw [hd];rfl
       have HC2:=Lib.hid (hcnt (isI_no (.inr (by rw [hla,hd]))))
       rw [jumpB,if_pos (.inr (by rw [hla,hd]))] at hstep
       have HSTEP:=Lib.hid hstep
       clear hstep h0 ht hcnt hcnt1 hins hgd hcl hla hd
       go_wp2_with fail
       exact⟨⟨n+1,k,cur,by omega,by omega,rfl,by simp,HC2,HCL,HSTEP,HK,HOWc,HBc⟩,by simp [intOf];omega⟩
      ·have d2:((c.toNat:Int) == 58)=false:=byte_ne hd
       have hli:l.getLast? ≠ some 58:=by rw [hla];intro e;injection e with e;exact hd e
       have hI:=isI_yes h0 hli
       have HC2:=Lib.hid (hcnt1 hI)
       obtain⟨⟨⟨j,to⟩,hrb⟩,hkl⟩:=hins hI
       rw [jumpB,if_neg (by intro h;rcases h with h | h;exact h0 h;exact hli h),hrb] at hstep
       have hstep':pass2 ws out (n+1)=if hasB j.op 84 then (if to≠[]∧placeB ws to < 0 then .error ((n:Int)+1,5) else if (cur.length:Int) < ((if to=[] then cur else cur.modify k (fun x=>{ x with k:=placeB ws to })).getD k ⟨0,0,0,0,0⟩).k then .error ((n:Int)+1,5) else .ok (k+1,(if to=[] then cur else cur.modify k (fun x=>{ x with k:=placeB ws to })))) else .ok (k+1,cur):=hstep
       rw [←ht] at hrb
       clear hstep h0 ht hcnt hcnt1 hins hgd hcl hla hd hli hI
       have HSTEP:=Lib.hid hstep'
       clear hstep'
       go_wp2_with fail
       refine (read_any _ t hts).mono ?_;rintro e w5 ⟨hrp,HB5⟩
       rw [hrb] at hrp
       have hrp':e=.returned (.tuple #[j.val,str to,.int .i64 1]):=hrp
       subst hrp'
       have hto2:=readB_to hrb
       clear hrp hrb
       obtain⟨tb,htb⟩:∃ tb:ByteArray,tb.data.toList=to:=⟨⟨to.toArray⟩,rfl⟩
       have htbs:tb.size≤1000000:=by rw [←toList_len,htb];exact Nat.le_trans hto2 (by rw [toList_len];exact hts)
       clear hto2
       rw [←htb,←str_of]
       unfold Ins.val
       go_wp2_with fail
       refine (has_any _ _ 84).mono ?_;rintro e w6 ⟨rfl,HB6⟩
       have hsz5:=HB5.size
       have hsz6:=HB6.size
       simp at hsz6
       have hb56:Below wr.heap.size wr w6:=(HB5.alloc hsz5 _).trans (HB6.mono (by simp;omega))
       have HO6:=Lib.hid (own_only HOWc.out (Only.of_below (F:=fun _=>False) hb56 (Nat.le_refl _)) (fun _ _ e=>e))
       have HB16:=Lib.hid (HBc.out.trans (hb56.mono hszc))
       have HBw6:=Lib.hid (HBw.out.trans (hb56.mono hszw))
       have HRD6:=Lib.hid (HRDn2.out.below hb56 (Nat.le_refl _))
       clear HB5 HB6 hb56 hc hcc hi' f1 f2 f3 f4 d2 hemp
       cases hh:hasB j.op 84 with
       | false=>
        have hs:=HSTEP.out
        rw [hh,if_neg (by simp)] at hs
        have HS:=Lib.hid hs
        clear hs hh HSTEP
        go_wp2_with fail
        exact⟨⟨n+1,k+1,cur,by omega,by omega,by simp,by simp,HC2,HCL,HS,HK,HO6,HB16⟩,by simp [intOf];omega⟩
       | true=>
        have hs:=HSTEP.out
        rw [hh,if_pos rfl] at hs
        obtain⟨ob,oc2,heq,hob,hob2⟩:=HO6.out.form (by omega:0 < out.length)
        injection heq with heq1 _ heq3
        subst heq1
        subst heq3
        obtain⟨x,hx⟩:∃ x,cur[k]? = some x:=⟨_,List.getElem?_eq_getElem (by rw [HCL.out];exact hkl)⟩
        obtain⟨hx0,hx1⟩:=HK.out x (List.mem_of_getElem? hx)
        have x4:w6.cell? ⟨ob,k*5+4,none⟩=some (.int .u32 x.k):=by
         rw [HO6.out.cellAt _ (by omega)]
         exact (flat_get cur k x hx 4 (by omega)).trans rfl
        have z4:w6.frozen? ⟨ob,k*5+4,none⟩=false:=HO6.out.frozenAt _
        have HX:=Lib.hid hx
        have hcl:=HCL.out
        by_cases hto:to=[]
        ·have hemp2:tb.toList.isEmpty=true:=by rw [ByteArray.toList_eq,htb,hto];rfl
         rw [if_neg (by rw [hto];simp),if_pos hto,List.getD_eq_getElem?_getD,hx,hcl] at hs
         have hs':pass2 ws out (n+1)=if (out.length:Int) < x.k then .error ((n:Int)+1,5) else .ok (k+1,cur):=hs
         clear hs hto htb hx hcl hh HSTEP
         by_cases hov:(out.length:Int) < x.k
         ·rw [if_pos hov] at hs'
          have HR2:=Lib.hid (HERR2.out _ _ hs' (by omega))
          clear hs'
          go_wp2_with fail
          go_ret3
          rw [HR2.out]
          exact parse_nil HBw6.out
         ·rw [if_neg hov] at hs'
          have HS:=Lib.hid hs'
          clear hs'
          go_wp2_with fail
          exact⟨⟨n+1,k+1,cur,by omega,by omega,by simp,by simp,HC2,HCL,HS,HK,HO6,HB16⟩,by simp [intOf];omega⟩
        ·have hemp2:tb.toList.isEmpty=false:=by rw [ByteArray.toList_eq,htb];exact List.isEmpty_eq_false_iff.2 hto
         have hpl:=place_any w6 _ ws tb ws.length rfl HRD6.out (by omega) htbs HLS.out
         rw [htb] at hpl
         have hple:=placeB_le ws to
         have hmod:cur.modify k (fun x=>{ x with k:=placeB ws to })=cur.set k { x with k:=placeB ws to }:=modify_set cur k x _ hx
         rw [hmod] at hs
         have hs':pass2 ws out (n+1)=if placeB ws to < 0 then .error ((n:Int)+1,5) else if (out.length:Int) < placeB ws to then .error ((n:Int)+1,5) else .ok (k+1,cur.set k { x with k:=placeB ws to }):=by
          rw [hs,hcl,if_neg hto]
          by_cases hp:placeB ws to < 0
          ·rw [if_pos ⟨hto,hp⟩,if_pos hp]
          ·rw [if_neg (fun h=>hp h.2),if_neg hp,List.getD_eq_getElem?_getD,List.getElem?_set_self (by omega)]
           rfl
         generalize placeB ws to=P at hs' hple hpl
         clear hs hmod hto htb hx hcl hh HSTEP
         by_cases hp:P < 0
         ·rw [if_pos hp] at hs'
          have HR2:=Lib.hid (HERR2.out _ _ hs' (by omega))
          clear hs'
          go_wp2_with fail
          refine hpl.mono ?_;rintro e w7 ⟨rfl,q,rfl⟩
          clear hpl
          go_wp2_with fail
          go_ret3
          rw [HR2.out]
          exact parse_nil (below_drewN _ HBw6.out)
         ·rw [if_neg hp] at hs'
          go_wp2_with fail
          refine hpl.mono ?_;rintro e w7 ⟨rfl,q,rfl⟩
          clear hpl
          have x4q:∀ q,(w6.drewN q).cell? ⟨ob,k*5+4,none⟩=some (.int .u32 x.k):=fun _=>x4
          have z4q:∀ q,(w6.drewN q).frozen? ⟨ob,k*5+4,none⟩=false:=fun _=>z4
          have hobw:w.heap.size≤ob:=Nat.le_trans HB1.out.size hob
          by_cases hov:(out.length:Int) < P
          ·rw [if_pos hov] at hs'
           have HR2:=Lib.hid (HERR2.out _ _ hs' (by omega))
           clear hs'
           go_wp2_with fail
           go_ret3
           rw [HR2.out]
           exact parse_nil ((below_drewN _ HBw6.out).setCell (p:=⟨ob,k*5+4,none⟩) hobw _)
          ·rw [if_neg hov] at hs'
           have HS:=Lib.hid hs'
           clear hs'
           go_wp2_with fail
           have hst:=(show (w6.drewN q).ownsRow w1.heap.size 132 5 (.slice (some ⟨ob,0,none⟩) out.length cap2) out.length (flat cur) from HO6.out).stored (k*5+4) (.int .u32 P)
           refine⟨⟨n+1,k+1,cur.set k { x with k:=P },by omega,by omega,by simp,by simp,HC2,?_,HS,?_,?_,(below_drewN _ HB16.out).setCell (p:=⟨ob,k*5+4,none⟩) hob _⟩,by simp [intOf];omega⟩
           ·show (cur.set k _).length=_
            rw [List.length_set];exact HCL.out
           ·intro y hy
            rcases List.mem_or_eq_of_mem_set hy with hy | hy
            ·exact HK.out y hy
            ·rw [hy];simp only [];omega
           ·show World.ownsRow _ _ _ _ _ _ _
            rw [flat_setK cur k x P HX.out]
            exact hst.1
    ·have hne:n=ws.length:=by omega
     subst hne
     have HR2:=Lib.hid (HOK2.out _ HP2.out)
     go_wp2_with fail
     go_ret3
     rw [HR2.out]
     refine⟨_,rfl,?_,HBw.out⟩
     rw [show ((k,cur).2,(0:Int),(0:Int)).1.length=out.length from HCL.out]
     exact own_base HOWc.out HB1.out.size
theorem parse_many(w:World)(s:ByteArray)(hm:20000 < s.size)(hx:s.size≤maxLen):
  Calls Tryz.prog 45 #[.string s] w fun e w'=>ParsePost w (parseB s.data.toList) e w':=by
 have hv:parseB s.data.toList=([],0,4):=by unfold parseB;rw [if_pos (by rw [toList_len];exact hm)]
 rw [hv]
 go_enter Tryz.func45,Tryz.ntmps45
 go_wp2_with fail
 go_ret3
 exact parse_nil (Below.refl _ _)
theorem parse_any(w:World)(s:ByteArray)(hx:s.size≤maxLen):
  Calls Tryz.prog 45 #[.string s] w fun e w'=>ParsePost w (parseB s.data.toList) e w':=by
 by_cases h:s.size≤20000
 ·exact parse_few w s h
 ·exact parse_many w s (by omega) hx
end Go.Proofs.YtcnmhgblbikfkaaGreatDoor.As
