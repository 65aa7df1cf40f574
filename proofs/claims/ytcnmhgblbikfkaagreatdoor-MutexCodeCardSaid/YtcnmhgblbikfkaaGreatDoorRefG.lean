/- The walks of the package deadlatchref04: a line. -/
import Derived.Test.YtcnmhgblbikfkaaGreatDoorGu
import Derived.Test.YtcnmhgblbikfkaaGreatDoorGo
import Derived.Test.YtcnmhgblbikfkaaGreatDoorGb
set_option linter.unusedVariables false
set_option linter.unusedSimpArgs false
namespace Go.Proofs.YtcnmhgblbikfkaaGreatDoor.As
open Go.RowKit

def ReadPost(rd:Option (Ins×B8))(e:Ending):Prop:=match rd with
 | some (i,to)=>e=.returned (.tuple #[i.val,str to,.int .i64 1])
 | none=>∃ i:Ins,e=.returned (.tuple #[i.val,str [],.int .i64 0])
theorem word_at{w:World}{A:Option Addr}{n cap:Nat}{ls:List B8}(h:Rd w 1 (.slice A n cap) n (ls.map str)){k:Nat}{l:B8}(hl:ls[k]? = some l):∃ b off t,A=some ⟨b,off,none⟩∧b < w.heap.size∧t.data.toList=l∧w.cell? ⟨b,off+k,none⟩=some (.string t):=by
 have hlen:=h.len
 rw [List.length_map] at hlen
 have:k < ls.length:=(List.getElem?_eq_some_iff.1 hl).1
 obtain⟨b,off,e,hb,hc⟩:=h.cells (by omega)
 exact⟨b,off,⟨l.toArray⟩,e,hb,rfl,hc k (str l) (by rw [List.getElem?_map,hl];rfl)⟩

theorem field_chars(op:Int):∀ c∈opField op,c=65∨c=66∨c=67∨c=77∨c=75∨c=84:=by
 unfold opField
 split
 ·next h=>
  obtain⟨k,rfl⟩:=Int.eq_ofNat_of_zero_le h.1
  have:∀ k,k < 28→∀ c∈opFields.getD k [],c=65∨c=66∨c=67∨c=77∨c=75∨c=84:=by decide
  exact this k (by omega)
 ·simp
theorem field_ok(op:Int):∀ k,k < (opField op).length→(∀ j,j < k→(opField op)[j]? ≠ some 77)→(k:Int)+1 < (opField op).length+1 - ifMemB (opField op):=by
 unfold opField
 split
 ·next h=>
  obtain⟨n,rfl⟩:=Int.eq_ofNat_of_zero_le h.1
  have:∀ n,n < 28→∀ k,k < (opFields.getD n []).length→(∀ j,j < k→(opFields.getD n [])[j]? ≠ some 77)→(k:Int)+1 < (opFields.getD n []).length+1 - ifMemB (opFields.getD n []):=by decide +kernel
  exact this n (by omega)
 ·intro k hk;simp at hk

theorem fieldsB_A(r:B8)(w:B8)(ws:List B8)(i:Ins)(to:B8):fieldsB (65::r) (w::ws) i to=if regB w < 0 then none else fieldsB r ws { i with a:=regB w } to:=by simp [fieldsB]
theorem fieldsB_B(r:B8)(w:B8)(ws:List B8)(i:Ins)(to:B8):fieldsB (66::r) (w::ws) i to=if regB w < 0 then none else fieldsB r ws { i with b:=regB w } to:=by simp [fieldsB]
theorem fieldsB_C(r:B8)(w:B8)(ws:List B8)(i:Ins)(to:B8):fieldsB (67::r) (w::ws) i to=if regB w < 0 then none else fieldsB r ws { i with c:=regB w } to:=by simp [fieldsB]
theorem fieldsB_M(r:B8)(w:B8)(ws:List B8)(i:Ins)(to:B8):fieldsB (77::r) (w::ws) i to=if (addrB w).1 < 0∨(addrB w).2 < 0 then none else some ({ i with b:=(addrB w).1,k:=(addrB w).2 },[]):=by simp [fieldsB]
theorem fieldsB_K(r:B8)(w:B8)(ws:List B8)(i:Ins)(to:B8):fieldsB (75::r) (w::ws) i to=if numB w < 0 then none else fieldsB r ws { i with k:=numB w } to:=by simp [fieldsB]
theorem fieldsB_T(r:B8)(w:B8)(ws:List B8)(i:Ins)(to:B8):fieldsB (84::r) (w::ws) i to=if w.length < 2∨w[0]? ≠ some 64 then none else if 0≤numB (w.drop 1) then fieldsB r ws { i with k:=numB (w.drop 1) } to else if nameOk (w.drop 1) then fieldsB r ws i (w.drop 1) else none:=by simp [fieldsB]
theorem Rd.setOther{w:World}{bb off n cap I j size:Nat}{xs:List Value}(h:Rd w size (.slice (some ⟨bb,off,none⟩) n cap) n xs)(hne:bb≠I)(u:Value):Rd (w.setCell ⟨I,j,none⟩ u) size (.slice (some ⟨bb,off,none⟩) n cap) n xs:=
 h.keep (by simp [World.setCell]) (fun b o c e=>by injection e with e;injection e with e;injection e with e;subst e;exact Below.heap_setCell _ _ _ _ hne)

set_option maxHeartbeats 4000000 in
set_option maxRecDepth 100000 in
theorem read_any(w:World)(t:ByteArray)(hm:t.size≤1000000):
  Calls Tryz.prog 90 #[.string t] w fun e w'=>ReadPost (readB t.data.toList) e∧Below w.heap.size w w':=by
 obtain⟨rd,hrd⟩:∃ rd,rd=readB t.data.toList:=⟨_,rfl⟩
 rw [←hrd]
 have HRD0:=Lib.hid hrd
 clear hrd
 go_enter Tryz.func90,Tryz.ntmps90
 go_wp2_with fail
 refine (split_any t 32 _ hm).mono ?_;rintro e w1 ⟨v,rfl,HO,HB⟩
 have hrd:=Rd.of_own HO
 obtain⟨A,cap,rfl⟩:=hrd.form
 have hlen2:=splitB_len 32 t.data.toList
 rw [toList_len] at hlen2
 have hws:=splitB_ne 32 t.data.toList
 obtain⟨x,hx⟩:∃ x,(splitB 32 t.data.toList)[0]? = some x:=by
  cases h:splitB 32 t.data.toList with
  | nil=>exact absurd h hws
  | cons y z=>exact⟨y,rfl⟩
 obtain⟨bb,off,t0,rfl,hbb,ht0,hc0⟩:=word_at hrd hx
 rw [Nat.add_zero] at hc0
 have h1:0 < (splitB 32 t.data.toList).length:=List.length_pos_iff.2 hws
 have ht0s:t0.size≤1000000:=by rw [←toList_len,ht0];exact Nat.le_trans (hlen2.2 x (List.mem_of_getElem? hx)) hm
 go_wp2_with fail
 refine (op_any _ _ ht0s).mono ?_;rintro e w2 ⟨rfl,HB2⟩
 have hR0:Blk w2 w.heap.size ⟨0,0,0,0,0⟩:=((Blk.new w ⟨0,0,0,0,0⟩).below HB (by simp)).below HB2 (by have:=HB.size;simp at this;omega)
 have hc:∀ o,Blk (w2.alloc o) w.heap.size ⟨0,0,0,0,0⟩:=fun o=>hR0.alloc o
 have g0:=fun o=>(hc o).c.1
 have g1:=fun o=>(hc o).c.2.1
 have g2:=fun o=>(hc o).c.2.2.1
 have g3:=fun o=>(hc o).c.2.2.2.1
 have g4:=fun o=>(hc o).c.2.2.2.2
 have gf:=fun o=>(hc o).f
 have HB1:=Lib.hid HB
 have HB2':=Lib.hid HB2
 have HC:=Lib.hid hc
 have hhd:(splitB 32 t.data.toList).headD []=x:=by
  cases h:splitB 32 t.data.toList with
  | nil=>exact absurd h hws
  | cons y z=>rw [h] at hx;simpa using hx
 have hsz:w.heap.size≤w2.heap.size:=by have a:=HB.size;have b:=HB2.size;simp at a;omega
 have hbw:∀ o,Below w.heap.size w (w2.alloc o):=fun o=>(((((Below.refl w.heap.size w).alloc (Nat.le_refl _) _).trans (HB.mono (by simp))).trans (HB2.mono (by have:=HB.size;simp at this;omega))).alloc hsz o)
 have HBW:=Lib.hid hbw
 clear hbw
 clear hR0 hc HB HB2
 by_cases hop:opB x < 0
 ·have hrd0:rd=none:=by
   rw [HRD0.out]
   unfold readB
   simp only []
   rw [hhd,if_pos hop]
  have HRD:=Lib.hid hrd0
  clear hrd0
  go_wp2_with fail
  refine bodyPost_ret (results_ins rfl _ _ w.heap.size ⟨opB x,0,0,0,0⟩ ((HC.out _).all ⟨opB x,0,0,0,0⟩) rfl) rfl ?_
  refine⟨?_,below_all (HBW.out _) (Nat.le_refl _) ⟨opB x,0,0,0,0⟩⟩
  rw [HRD.out]
  exact⟨_,rfl⟩
 ·go_wp2_with fail
  refine (name2_any _ _).mono ?_;rintro e w3 ⟨sn,f,-,hf,rfl,HB3⟩
  have hfl:=field_len (opB x)
  rw [←hf,toList_len] at hfl
  have hfm:f.size≤1000000:=by omega
  have hI3:Blk w3 w2.heap.size ⟨opB x,0,0,0,0⟩:=(Blk.new w2 ⟨opB x,0,0,0,0⟩).below HB3 (by simp)
  have hRI:w.heap.size < w2.heap.size:=by have a:=HB1.out.size;have b:=HB2'.out.size;simp at a;omega
  have hR3:Blk w3 w.heap.size ⟨0,0,0,0,0⟩:=(HC.out _).below HB3 (by simp;omega)
  have hW3:Below w.heap.size w w3:=(HBW.out _).trans (HB3.mono (by simp;omega))
  have hrd3:=((hrd.below HB2'.out (Nat.le_refl _)).alloc (.cells #[.int .i64 (opB x),.int .i64 0,.int .i64 0,.int .i64 0,.int .u32 0] 132)).below HB3 (Nat.le_refl _)
  have hread:rd=if ((splitB 32 t.data.toList).length:Int)≠f.size+1 - ifMemB f.data.toList then none else fieldsB f.data.toList (splitB 32 t.data.toList).tail ⟨opB x,0,0,0,0⟩ []:=by
   have hfs:(opField (opB x)).length=f.size:=by rw [←hf,toList_len]
   rw [HRD0.out]
   unfold readB
   simp only []
   rw [hhd,if_neg (by omega),hfs,hf]
  have hfok:∀ k,k < f.size→(∀ j,j < k→f.data.toList[j]? ≠ some 77)→(k:Int)+1 < f.size+1 - ifMemB f.data.toList:=by
   have:=field_ok (opB x)
   rw [←hf,toList_len] at this
   exact this
  have hm01:0≤ifMemB f.data.toList∧ifMemB f.data.toList≤1:=by unfold ifMemB;split<;>simp
  have hmi:=ifMem_any w3 f hfm
  have hbI:bb≠w2.heap.size:=by have:=HB2'.out.size;omega
  have HF:=Lib.hid hf
  have HI:=Lib.hid hI3
  have HR:=Lib.hid hR3
  have HW:=Lib.hid hW3
  have HRD:=Lib.hid hrd3
  have HREAD:=Lib.hid hread
  have HOK:=Lib.hid hfok
  have cI:=hI3.c
  have fI:=hI3.f
  have cR:=hR3.c
  have fR:=hR3.f
  have hhd0:=hhd
  clear HRD0 hf hread hfok hhd hrd3 HB3 HC HBW HB1 HB2' g0 g1 g2 g3 g4 gf HO hrd hc0 ht0 ht0s hx hW3 hR3 hI3 hsz hbb
  generalize w2.heap.size=I at *
  generalize splitB 32 t.data.toList=ws at *
  generalize ifMemB f.data.toList=m at *
  obtain⟨c0,c1,c2,c3,c4⟩:=cI
  obtain⟨r0,r1,r2,r3,r4⟩:=cR
  have hwr:wrap64 ((f.size:Int)+1 - m)=(f.size:Int)+1 - m:=by unfold wrap64;omega
  go_wp2_with fail
  refine hmi.mono ?_;rintro e w4 ⟨rfl,rfl⟩
  clear hmi
  by_cases hne:(ws.length:Int)=f.size+1 - m
  ·have d1:((ws.length:Int) != (f.size:Int)+1 - m)=false:=by rw [hne];simp
   rw [if_neg (fun h=>h hne)] at HREAD
   have hwl:ws.length≤1000001:=by omega
   have HWS:Hid (∀ l∈ws,l.length≤1000000):=fun l hl=>Nat.le_trans (hlen2.2 l hl) hm
   have HCH:Hid (∀ c∈f.data.toList,c=65∨c=66∨c=67∨c=77∨c=75∨c=84):=by
    show ∀ c∈f.data.toList,_
    rw [HF.out];exact field_chars (opB x)
   go_wp2_with fail
   clear c0 c1 c2 c3 c4 r0 r1 r2 r3 r4 fI fR hwr d1
   go_loopw [9,10,11] (fun av tv kv wr=>∃ (k:Nat) (cur:Ins) (to:ByteArray),k≤f.size∧av=.int .i64 ((k:Int)+1)∧tv=.string to∧kv=.int .i64 k∧Hid (Blk wr w.heap.size ⟨0,0,0,0,0⟩)∧Hid (Blk wr I cur)∧Hid (Rd wr 1 (.slice (some ⟨bb,off,none⟩) ws.length cap) ws.length (ws.map str))∧Hid (Below w.heap.size w wr)∧Hid (∀ j,j < k→f.data.toList[j]? ≠ some 77)∧Hid (rd=fieldsB (f.data.toList.drop k) (ws.drop (k+1)) cur to.data.toList)) (fun _ _ k _=>f.size - (intOf k).toNat)
   case atStart=>
    refine⟨0,⟨opB x,0,0,0,0⟩,⟨#[]⟩,by omega,rfl,rfl,rfl,HR,HI,HRD,HW,fun j hj=>absurd hj (by omega),?_⟩
    show rd=_
    rw [HREAD.out]
    simp
   case round=>
    obtain⟨k,cur,to,hk,rfl,rfl,rfl,HRk,HIk,HRDk,HWk,HNM,HE⟩:=hrel
    obtain⟨c0,c1,c2,c3,c4⟩:=HIk.out.c
    have fI:=HIk.out.f
    obtain⟨r0,r1,r2,r3,r4⟩:=HRk.out.c
    have fR:=HRk.out.f
    by_cases hlt:k < f.size
    ·obtain⟨c,hc⟩:∃ c,f.data.toList[k]? = some c:=⟨_,List.getElem?_eq_getElem (by rw [toList_len];omega)⟩
     obtain⟨hi,hcc⟩:=at_byte hc
     have hk1:k+1 < ws.length:=by have:=HOK.out k hlt HNM.out;omega
     obtain⟨l,hl⟩:∃ l,ws[k+1]? = some l:=⟨_,List.getElem?_eq_getElem hk1⟩
     obtain⟨bb',off',tk,hA,hbb',htk,hck⟩:=word_at HRDk.out hl
     injection hA with hA;injection hA with hA1 hA2;subst hA1;subst hA2
     have htks:tk.size≤1000000:=by rw [←toList_len,htk];exact HWS.out l (List.mem_of_getElem? hl)
     have hd1:f.data.toList.drop k=c::f.data.toList.drop (k+1):=drop_at _ k c hc
     have hd2:ws.drop (k+1)=l::ws.drop (k+2):=by rw [List.drop_eq_getElem_cons hk1,(List.getElem?_eq_some_iff.1 hl).2]
     have hE:=HE.out
     rw [hd1,hd2,←htk] at hE
     have hch:=HCH.out c (List.mem_of_getElem? hc)
     have hnm:c≠77→∀ j,j < k+1→f.data.toList[j]? ≠ some 77:=by
      intro h j hj
      by_cases e:j=k
      ·rw [e,hc];intro e2;injection e2 with e2;exact h e2
      ·exact HNM.out j (by omega)
     have HN2:=Lib.hid hnm
     clear hnm hd1 hd2 HE HNM hl hc htk
     have hi1:(k:Int)+1 < (ws.length:Int):=by omega
     have hkt:((k:Int)+1).toNat=k+1:=by omega
     rcases hch with rfl | rfl | rfl | rfl | rfl | rfl
     ·rw [fieldsB_A] at hE
      go_wp2_with fail
      refine (register_any _ _ htks).mono ?_;rintro e w5 ⟨rfl,rfl⟩
      generalize regB tk.data.toList=n at hE ⊢
      have HE:=Lib.hid hE
      clear hE
      by_cases hn:n < 0
      ·go_wp2_with fail
       refine bodyPost_ret (results_ins rfl _ _ w.heap.size cur (HRk.out.all cur) rfl) rfl ?_
       refine⟨?_,below_all HWk.out (Nat.le_refl _) cur⟩
       rw [HE.out,if_pos hn]
       exact⟨_,rfl⟩
      ·go_wp2_with fail
       refine⟨⟨k+1,{ cur with a:=n },to,by omega,by simp,rfl,by simp,HRk.out.other _ (by omega),HIk.out.set1 n,HRDk.out.setOther hbI _,HWk.out.setCell (by show w.heap.size≤I;omega) _,HN2.out (by decide),?_⟩,by simp [intOf];omega⟩
       show rd=_
       rw [HE.out,if_neg (by omega)]
     ·rw [fieldsB_B] at hE
      go_wp2_with fail
      refine (register_any _ _ htks).mono ?_;rintro e w5 ⟨rfl,rfl⟩
      generalize regB tk.data.toList=n at hE ⊢
      have HE:=Lib.hid hE
      clear hE
      by_cases hn:n < 0
      ·go_wp2_with fail
       refine bodyPost_ret (results_ins rfl _ _ w.heap.size cur (HRk.out.all cur) rfl) rfl ?_
       refine⟨?_,below_all HWk.out (Nat.le_refl _) cur⟩
       rw [HE.out,if_pos hn]
       exact⟨_,rfl⟩
      ·go_wp2_with fail
       refine⟨⟨k+1,{ cur with b:=n },to,by omega,by simp,rfl,by simp,HRk.out.other _ (by omega),HIk.out.set2 n,HRDk.out.setOther hbI _,HWk.out.setCell (by show w.heap.size≤I;omega) _,HN2.out (by decide),?_⟩,by simp [intOf];omega⟩
       show rd=_
       rw [HE.out,if_neg (by omega)]
     ·rw [fieldsB_C] at hE
      go_wp2_with fail
      refine (register_any _ _ htks).mono ?_;rintro e w5 ⟨rfl,rfl⟩
      generalize regB tk.data.toList=n at hE ⊢
      have HE:=Lib.hid hE
      clear hE
      by_cases hn:n < 0
      ·go_wp2_with fail
       refine bodyPost_ret (results_ins rfl _ _ w.heap.size cur (HRk.out.all cur) rfl) rfl ?_
       refine⟨?_,below_all HWk.out (Nat.le_refl _) cur⟩
       rw [HE.out,if_pos hn]
       exact⟨_,rfl⟩
      ·go_wp2_with fail
       refine⟨⟨k+1,{ cur with c:=n },to,by omega,by simp,rfl,by simp,HRk.out.other _ (by omega),HIk.out.set3 n,HRDk.out.setOther hbI _,HWk.out.setCell (by show w.heap.size≤I;omega) _,HN2.out (by decide),?_⟩,by simp [intOf];omega⟩
       show rd=_
       rw [HE.out,if_neg (by omega)]
     ·rw [fieldsB_M] at hE
      have hle:=addrB_le tk.data.toList
      go_wp2_with fail
      refine (address_any _ _ htks).mono ?_;rintro e w5 ⟨rfl,HB5⟩
      have HR5:=Lib.hid (HRk.out.below HB5 HRk.out.lt)
      have HI5:=Lib.hid (HIk.out.below HB5 HIk.out.lt)
      have HW5:=Lib.hid (HWk.out.trans (HB5.mono HWk.out.size))
      clear HB5 c0 c1 c2 c3 c4 fI r0 r1 r2 r3 r4 fR
      obtain⟨c0,c1,c2,c3,c4⟩:=HI5.out.c
      have fI:=HI5.out.f
      obtain⟨r0,r1,r2,r3,r4⟩:=HR5.out.c
      have fR:=HR5.out.f
      generalize (addrB tk.data.toList).1=ba at hE ⊢
      generalize (addrB tk.data.toList).2=n at hE hle ⊢
      have HE:=Lib.hid hE
      clear hE
      by_cases hb:ba < 0
      ·go_wp2_with fail
       refine bodyPost_ret (results_ins rfl _ _ w.heap.size cur (HR5.out.all cur) rfl) rfl ?_
       refine⟨?_,below_all HW5.out (Nat.le_refl _) cur⟩
       rw [HE.out,if_pos (.inl hb)]
       exact⟨_,rfl⟩
      ·have db:decide (ba < 0)=false:=by simp;omega
       by_cases hn:n < 0
       ·have dn:decide (n < 0)=true:=by simp;omega
        go_wp2_with fail
        refine bodyPost_ret (results_ins rfl _ _ w.heap.size cur (HR5.out.all cur) rfl) rfl ?_
        refine⟨?_,below_all HW5.out (Nat.le_refl _) cur⟩
        rw [HE.out,if_pos (.inr (by omega))]
        exact⟨_,rfl⟩
       ·have dn:decide (n < 0)=false:=by simp;omega
        go_wp2_with fail
        refine bodyPost_ret (results_ins rfl _ _ w.heap.size { cur with b:=ba,k:=n } (((HR5.out.other _ (by omega)).other _ (by omega)).all { cur with b:=ba,k:=n }) rfl) rfl ?_
        refine⟨?_,below_all ((HW5.out.setCell (by show w.heap.size≤I;omega) _).setCell (by show w.heap.size≤I;omega) _) (Nat.le_refl _) { cur with b:=ba,k:=n }⟩
        rw [HE.out,if_neg (by omega)]
        rfl
     ·rw [fieldsB_K] at hE
      have hle:=numB_le tk.data.toList
      go_wp2_with fail
      refine (number_any _ _ htks).mono ?_;rintro e w5 ⟨rfl,rfl⟩
      generalize numB tk.data.toList=n at hE hle ⊢
      have HE:=Lib.hid hE
      clear hE
      by_cases hn:n < 0
      ·go_wp2_with fail
       refine bodyPost_ret (results_ins rfl _ _ w.heap.size cur (HRk.out.all cur) rfl) rfl ?_
       refine⟨?_,below_all HWk.out (Nat.le_refl _) cur⟩
       rw [HE.out,if_pos hn]
       exact⟨_,rfl⟩
      ·go_wp2_with fail
       refine⟨⟨k+1,{ cur with k:=n },to,by omega,by simp,rfl,by simp,HRk.out.other _ (by omega),HIk.out.set4 n,HRDk.out.setOther hbI _,HWk.out.setCell (by show w.heap.size≤I;omega) _,HN2.out (by decide),?_⟩,by simp [intOf];omega⟩
       show rd=_
       rw [HE.out,if_neg (by omega)]
     ·rw [fieldsB_T,toList_len] at hE
      by_cases hs2:tk.size < 2
      ·rw [if_pos (.inl hs2)] at hE
       have HE:=Lib.hid hE
       clear hE
       go_wp2_with fail
       refine bodyPost_ret (results_ins rfl _ _ w.heap.size cur (HRk.out.all cur) rfl) rfl ?_
       refine⟨?_,below_all HWk.out (Nat.le_refl _) cur⟩
       rw [HE.out]
       exact⟨_,rfl⟩
      ·obtain⟨a0,ha0⟩:∃ a0,tk.data.toList[0]? = some a0:=⟨_,List.getElem?_eq_getElem (by rw [toList_len];omega)⟩
       obtain⟨hi0,hc0'⟩:=at_byte ha0
       by_cases q:a0=64
       ·rw [if_neg (by rw [ha0,q];simp;omega)] at hE
        have d0:((a0.toNat:Int) != 64)=false:=by rw [q];rfl
        obtain⟨u,hu0⟩:∃ u,u=tk.extract 1 tk.size:=⟨_,rfl⟩
        have hu:u.data.toList=tk.data.toList.drop 1:=by
         rw [hu0,Lib.extract_data];exact List.take_of_length_le (by rw [List.length_drop,toList_len];omega)
        have hus:u.size≤1000000:=by rw [←toList_len,hu,List.length_drop,toList_len];omega
        have hle:=numB_le u.data.toList
        rw [←hu] at hE
        clear hu ha0 q
        have hnr:=fun W=>number_any W u hus
        have hrn:=fun W=>rname_any W u hus
        generalize numB u.data.toList=n at hE hle hnr
        generalize hnk:nameOk u.data.toList=b at hE hrn
        have HE:=Lib.hid hE
        clear hE hnk
        by_cases hn:0≤n
        ·go_wp2_with fail
         rw [←hu0]
         clear hu0
         refine (hnr _).mono ?_;rintro e w5 ⟨rfl,rfl⟩
         clear hnr hrn
         go_wp2_with fail
         refine⟨⟨k+1,{ cur with k:=n },to,by omega,by simp,rfl,by simp,HRk.out.other _ (by omega),HIk.out.set4 n,HRDk.out.setOther hbI _,HWk.out.setCell (by show w.heap.size≤I;omega) _,HN2.out (by decide),?_⟩,by simp [intOf];omega⟩
         show rd=_
         rw [HE.out,if_pos hn]
        ·go_wp2_with fail
         rw [←hu0]
         clear hu0
         refine (hnr _).mono ?_;rintro e w5 ⟨rfl,rfl⟩
         clear hnr
         go_wp2_with fail
         refine (hrn _).mono ?_;rintro e w6 ⟨rfl,rfl⟩
         clear hrn
         cases b with
         | true=>
          go_wp2_with fail
          refine⟨⟨k+1,cur,u,by omega,by simp,rfl,by simp,HRk,HIk,HRDk,HWk,HN2.out (by decide),?_⟩,by simp [intOf];omega⟩
          show rd=_
          rw [HE.out,if_neg (by omega)]
          simp
         | false=>
          go_wp2_with fail
          refine bodyPost_ret (results_ins rfl _ _ w.heap.size cur (HRk.out.all cur) rfl) rfl ?_
          refine⟨?_,below_all HWk.out (Nat.le_refl _) cur⟩
          rw [HE.out,if_neg (by omega),if_neg (by simp)]
          exact⟨_,rfl⟩
       ·rw [if_pos (.inr (by rw [ha0];simp [q]))] at hE
        have d0:((a0.toNat:Int) != 64)=true:=by have:=byte_ne q;exact (congrArg not this:_)
        have HE:=Lib.hid hE
        clear hE ha0 q
        go_wp2_with fail
        refine bodyPost_ret (results_ins rfl _ _ w.heap.size cur (HRk.out.all cur) rfl) rfl ?_
        refine⟨?_,below_all HWk.out (Nat.le_refl _) cur⟩
        rw [HE.out]
        exact⟨_,rfl⟩
    ·have hke:k=f.size:=by omega
     subst hke
     have hE:=HE.out
     rw [List.drop_eq_nil_of_le (by rw [toList_len];omega),fieldsB] at hE
     have HE2:=Lib.hid hE
     clear hE HE
     go_wp2_with fail
     refine bodyPost_ret (results_ins rfl _ _ w.heap.size cur (HRk.out.all cur) rfl) rfl ?_
     refine⟨?_,below_all HWk.out (Nat.le_refl _) cur⟩
     rw [HE2.out]
     rfl
  ·have d1:((ws.length:Int) != (f.size:Int)+1 - m)=true:=by simp;omega
   go_wp2_with fail
   refine bodyPost_ret (results_ins rfl _ _ w.heap.size ⟨opB x,0,0,0,0⟩ (HR.out.all ⟨opB x,0,0,0,0⟩) rfl) rfl ?_
   refine⟨?_,below_all HW.out (Nat.le_refl _) ⟨opB x,0,0,0,0⟩⟩
   rw [HREAD.out,if_pos hne]
   exact⟨_,rfl⟩
end Go.Proofs.YtcnmhgblbikfkaaGreatDoor.As
