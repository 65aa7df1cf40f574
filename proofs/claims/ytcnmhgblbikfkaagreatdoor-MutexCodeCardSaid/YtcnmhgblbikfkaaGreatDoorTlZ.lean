/- The walk of deadlatchlaw15.holds. -/
import Derived.Test.YtcnmhgblbikfkaaGreatDoorGm
import Derived.Test.YtcnmhgblbikfkaaGreatDoorGn
set_option linter.unusedVariables false
set_option linter.unusedSimpArgs false
set_option maxRecDepth 20000
namespace Go.Proofs.YtcnmhgblbikfkaaGreatDoor.As.T
open Go.RowKit

def codesR(ca cb:Nat→List Ins)(T rounds:Nat):List (List Ins):=(List.range T).map fun t=>roundsR (ca t) (cb t) rounds []
theorem codesR_len(ca cb:Nat→List Ins)(T rounds:Nat):(codesR ca cb T rounds).length=T:=by simp [codesR]
theorem codesR_get{ca cb:Nat→List Ins}{T rounds t:Nat}(ht:t < T):(codesR ca cb T rounds)[t]? = some (roundsR (ca t) (cb t) rounds []):=by
 unfold codesR
 rw [List.getElem?_map,List.getElem?_range ht];rfl
def CodesOk(codes:List (List Ins)):Prop:=∀ L∈codes,0 < L.length∧L.length≤4000∧∀ x∈L,okI L.length x=true
theorem cdp_of{w W:World}{gp gcs pc T:Nat}{ca cb:Nat→List Ins}{rounds:Nat}(h:CsW w W gp (.slice (some ⟨gcs,0,none⟩) T pc) (fun t=>roundsR (ca t) (cb t) rounds []) T):CdP W gcs (codesR ca cb T rounds):=by
 obtain⟨⟨g,cap,h1,h2⟩,_⟩:=h
 intro t L hL
 have ht:t < T:=by
  have:=(List.getElem?_eq_some_iff.1 hL).1
  rwa [codesR_len] at this
 rw [codesR_get ht] at hL
 obtain rfl:=Option.some.inj hL
 obtain⟨a,_,_,_,_,b⟩:=h2 t ht
 refine⟨g t,cap t,?_,a,b⟩
 have:=h1.cells (g:=gcs) rfl t (.slice (some ⟨g t,0,none⟩) (roundsR (ca t) (cb t) rounds []).length (cap t)) (by rw [List.getElem?_map,List.getElem?_range ht];rfl)
 rwa [add_at,Nat.zero_add] at this
theorem ok0{codes:List (List Ins)}(hc:CodesOk codes){mem:List Int}{room:Nat}(hm:∀ v∈mem,wd v=true):OkS codes (ts0 mem room codes.length):=by
 refine⟨by simp [ts0],by simp [ts0],?_,hm,?_,?_,fun L hL=>⟨(hc L hL).2.1,(hc L hL).2.2⟩⟩
 ·intro j q hj e he
  have hj2:(List.replicate codes.length ([]:List (Nat×Int)))[j]? = some q:=hj
  rw [List.getElem?_replicate] at hj2
  split at hj2
  ·injection hj2 with hj2;subst hj2;cases he
  ·cases hj2
 ·intro q hq e he
  have hq2:q∈List.replicate codes.length ([]:List (Nat×Int)):=hq
  rw [(List.mem_replicate.1 hq2).2] at he
  cases he
 ·intro t th hth
  have hth2:(List.replicate codes.length th0)[t]? = some th:=hth
  rw [List.getElem?_replicate] at hth2
  split at hth2
  ·rename_i hlt
   injection hth2 with hth2
   subst hth2
   refine⟨codes[t],List.getElem?_eq_getElem hlt,?_⟩
   simp [okT,th0,wd]
  ·cases hth2
theorem TsM.add{Z:Nat→Prop}{w w':World}{K:TsK}{s:Ts}{g:Nat}(h:TsM Z w K s)(hb:Below w.heap.size w w')(hg:w.heap.size≤g)(hg2:g < w'.heap.size):TsM (fun k=>Z k∨k=g) w' K s:=by
 obtain⟨h1,h2,h3,h4,h5,ev,kv,ma,ta,ba,A,D,hz⟩:=h
 refine⟨fun k hk=>?_,Nat.le_trans h2 hb.size,h3,h4,h5,ev,kv,ma,ta,ba,A.only (Only.of_below (F:=fun _=>False) hb (Nat.le_refl _)) (fun _ e=>e.elim),D,fun k hk hf=>?_⟩
 ·rcases hk with hk | hk
  ·exact Nat.lt_of_lt_of_le (h1 k hk) hb.size
  ·omega
 ·rcases hk with hk | hk
  ·exact hz k hk hf
  ·have:=A.flt k hf;omega
set_option maxHeartbeats 16000000 in
theorem holds_any(w:World)(TI:TabI w)(k n a b:Int)(T rounds room:Nat)(N:Nat)(caps:Array Value)(ca cb:Nat→List Ins)(mem:List Int)(sv:Value)(bs:List Nat)
  (hA:∀ t,t < T→∀ W,Below w.heap.size w W→Calls Tryz.prog N (#[.int .i64 1,.int .i64 (t:Int)]++caps) W (CodeIs W (ca t)))
  (hB:∀ t,t < T→∀ W,Below w.heap.size w W→Calls Tryz.prog N (#[.int .i64 2,.int .i64 (t:Int)]++caps) W (CodeIs W (cb t)))
  (hF:∀ W,Below w.heap.size w W→Calls Tryz.prog 99 #[.agg #[.int .i64 k,.int .i64 n,.int .i64 a,.int .i64 b],.int .i64 (T:Int)] W (FirstOk W mem))
  (eN:∀ args w,(callFunc N args).run Tryz.prog w=.ok (.enter N args) w) (hm0:0 < mem.length) (hm1:mem.length≤500) (hmw:∀ v∈mem,wd v=true) (hT0:0 < T) (hT:T≤8) (hR0:0 < rounds) (hR:rounds≤10) (hr0:0 < room) (hr:room≤16)
  (hla:∀ t,(ca t).length≤200∧0 < (ca t).length∧∀ x∈ca t,0≤x.k∧x.k≤4294967295) (hlb:∀ t,(cb t).length≤200∧0 < (cb t).length∧∀ x∈cb t,0≤x.k∧x.k≤4294967295)
  (hco:CodesOk (codesR ca cb T rounds)) (hs:Rd w 1 sv bs.length (u8s bs)) (hb:∀ b∈bs,b≤255) (hn:bs.length≤100000)
  (s':Ts) (hrun:Ts.run (codesR ca cb T rounds) (ts0 (mem0 mem) room T) (bs.map pickB)=some s') (hone:∃ i,oneF s'.evs=some i) (hfine:∀ e∈s'.evs,fineE e) (hdone:endedTo s' T=true→s'.mem.getD 0 0=wr32 ((T:Int)*rounds)):
  Calls Tryz.prog 60 #[.agg #[.int .i64 k,.int .i64 n,.int .i64 a,.int .i64 b],.int .i64 T,.int .i64 rounds,.int .i64 room,.func (.func N) #[] caps,sv] w fun e w'=>e=.returned (.bool true)∧Below w.heap.size w w':=by
 have hb1:∀ X,Below w.heap.size w (w.alloc X):=fun X=>(Below.refl _ w).alloc (Nat.le_refl _) X
 have hrd:=fun X=>rounds_any (w.alloc X) (TI.below (hb1 X) (Nat.le_refl _)) k n a b T rounds room N caps ca cb mem (fun t ht W hW=>hA t ht W ((hb1 X).trans (hW.mono (hb1 X).size))) (fun t ht W hW=>hB t ht W ((hb1 X).trans (hW.mono (hb1 X).size))) (fun W hW=>hF W ((hb1 X).trans (hW.mono (hb1 X).size))) eN hm0 (by omega) hT0 hT hR0 hR hla hlb
 have HRD:=Lib.hid hrd
 have HB1:=Lib.hid hb1
 have HTI:=Lib.hid TI
 have HCO:=Lib.hid hco
 have HS:=Lib.hid (And.intro hs (And.intro hb hn))
 have HRUN:=Lib.hid (And.intro hrun (And.intro hone (And.intro hfine hdone)))
 have HM:=Lib.hid (And.intro hm0 (And.intro hm1 hmw))
 have HT:=Lib.hid (And.intro hT0 (And.intro hT (And.intro hR0 hR)))
 have HRO:=Lib.hid (And.intro hr0 hr)
 clear hA hB hF hrd hb1 TI hco hs hb hn hrun hone hfine hdone hm0 hm1 hmw hT0 hT hR0 hR hr0 hr hla hlb
 go_enter Tryz.func60,Tryz.ntmps60
 go_wp2_with fail
 with_reducible refine (HRD.out _).mono ?_
 rintro r w2 ⟨cv,mv,rfl,hmv,hcs,hb2⟩
 obtain⟨ggx,cpx,hcox,_⟩:=hcs.ex
 obtain⟨gv,pv,rfl⟩:=own_form hcox HT.out.1
 obtain⟨gm5,pm5,rfl⟩:=own_form hmv (by omega)
 have HMV:=Lib.hid hmv
 have HCS:=Lib.hid (cdp_of hcs)
 have HB2:Hid (Below w.heap.size w w2):=Lib.hid ((HB1.out _).trans (hb2.mono (HB1.out _).size))
 clear hmv hcs hb2 hcox
 go_wp2_with fail
 have hl0:(mem0 mem).length=16+mem.length:=by unfold mem0;rw [List.length_append,List.length_replicate]
 have hbw3:∀ X,Below w.heap.size w (w2.alloc X):=fun X=>HB2.out.alloc HB2.out.size X
 have hnew:∀ X,Calls Tryz.prog 16 #[.agg #[.slice (some ⟨gv,0,none⟩) T pv,.slice (some ⟨gm5,0,none⟩) (16+mem.length) pm5,.int .i64 room]] (w2.alloc X) fun e w'=>∃ (Z:Nat→Prop) (K:TsK),e=.returned (.tuple #[.pointer (some ⟨K.mb,0,none⟩),.int .i64 0])∧Mch Z w' K (codesR ca cb T rounds) (ts0 (mem0 mem) room T)∧(∀ k,k < (w2.alloc X).heap.size→Z k)∧Below (w2.alloc X).heap.size (w2.alloc X) w'∧(mem0 mem).length≤K.mc:=fun X=>by
  have h:=new_ts (w2.alloc X) (HTI.out.below (hbw3 X) (Nat.le_refl _)) gv pv room pm5 (some ⟨gm5,0,none⟩) (mem0 mem) (codesR ca cb T rounds) (HCS.out.below ((Below.refl _ _).alloc (Nat.le_refl _) _)) (by rw [hl0];exact Rd.of_own (own_only HMV.out (on_al (F:=fun _=>False) _ _) (fun _ _ f=>f))) (by rw [codesR_len];exact HT.out.1) (by rw [codesR_len];exact HT.out.2.1) (by rw [hl0];omega) (by rw [hl0];have:=HM.out.2.1;omega) HRO.out.1 HRO.out.2 (fun L hL=>⟨(HCO.out L hL).2.1,fun x hx=>by
   have:=(HCO.out L hL).2.2 x hx
   simp only [okI,Bool.and_eq_true] at this
   exact this.1.1⟩) (fun L hL=>(HCO.out L hL).1)
  rw [codesR_len,hl0] at h
  rw [hl0]
  exact h
 refine (hnew _).mono ?_
 rintro r w4 ⟨Z,K,rfl,hm4,hz4,hb4,hmc⟩
 have HB4:Hid (Below w.heap.size w w4):=Lib.hid ((hbw3 _).trans (hb4.mono (hbw3 _).size))
 have HM4:=Lib.hid hm4
 have HMC:Hid ((mem0 mem).length≤K.mc):=Lib.hid hmc
 have HZ:Hid (∀ k,k < w.heap.size→Z k):=Lib.hid (fun k hk=>hz4 k (by have:=(hbw3 (.cells #[] 45)).size;simp at this ⊢; omega))
 have HL0:=Lib.hid hl0
 clear hnew hbw3 hm4 hz4 hb4 hmc hl0 HMV HCS HRD HB1 HB2
 have hread:=read_any w4 sv bs (HS.out.1.below HB4.out (Nat.le_refl _)) HS.out.2.1 HS.out.2.2
 go_wp2_with (go_at_call 18;refine hread.mono ?_;rintro r w5 ⟨gp,rfl,hpk,hg5,hg6,hb5⟩)
 have hrunc:Calls Tryz.prog 17 #[.pointer (some ⟨K.mb,0,none⟩),.slice (some ⟨gp,0,none⟩) bs.length bs.length] w5 fun e w'=>e=.returned (.tuple #[])∧TsM (fun k=>Z k∨k=gp) w' K s'∧Only (fun k=>¬(Z k∨k=gp)) w5 w'∧s'.mem.length=(mem0 mem).length∧s'.ths.length=T∧s'.evs.length≤2*bs.length:=by
  have hk0:=ok0 HCO.out (mem:=mem0 mem) (room:=room) (fun v hv=>by
   unfold mem0 at hv
   rcases List.mem_append.1 hv with hv | hv
   ·rw [(List.mem_replicate.1 hv).2];rfl
   ·exact HM.out.2.2 v hv)
  rw [codesR_len] at hk0
  have h:=run_ts (cap:=bs.length) (HM4.out.more (TsM.add HM4.out.m hb5 hg5 hg6) (Only.of_below (F:=fun _=>False) hb5 (Nat.le_refl _)) (fun k e=>Or.inl e)) hk0 (by have:=HT.out.2.1;simp [ts0];omega) (by
   have h1:(ts0 (mem0 mem) room T).evs.length=0:=rfl
   have h2:(ts0 (mem0 mem) room T).pend=0:=by simp [ts0,Ts.pend]
   rw [h1,h2,List.length_map]
   have:=HS.out.2.2
   omega) (by show (mem0 mem).length≤2000;rw [HL0.out];have:=HM.out.2.1;omega) (Or.inr rfl) hpk HRUN.out.1
  rw [List.length_map] at h
  refine h.mono ?_
  rintro e w' ⟨a1,a2,a3,a4,a5,a6,a7⟩
  refine⟨a1,a2,a3,a6,by rw [a5];simp [ts0],?_⟩
  have h2:(ts0 (mem0 mem) room T).pend=0:=by simp [ts0,Ts.pend]
  have h1:(ts0 (mem0 mem) room T).evs.length=0:=rfl
  omega
 refine hrunc.mono ?_
 rintro r w6 ⟨rfl,hm6,ho6,hl6,ht6,hev6⟩
 have HB6:Hid (Below w.heap.size w w6):=Lib.hid ((HB4.out.trans (hb5.mono HB4.out.size)).trans (ho6.below (Nat.le_trans HB4.out.size hb5.size) (fun k e=>by
  rcases Nat.lt_or_ge k w.heap.size with h | h
  ·exact absurd (.inl (HZ.out k h)) e
  ·exact h)))
 have HM6:=Lib.hid hm6
 have HE6:=Lib.hid (And.intro hl6 (And.intro ht6 hev6))
 clear hrunc hread hm6 ho6 hl6 ht6 hev6 hpk hg5 hg6 hb5 HB4 HM4 HZ
 have hevs:=events_ts HM6.out (by have:=HE6.out.2.2;have:=HS.out.2.2;omega)
 go_wp2_with (go_at_call 19;refine hevs.mono ?_;rintro r w7 ⟨ve,rfl,hve,hb7⟩)
 obtain⟨A,ce,rfl,hce,hle,hcell⟩:=Rd.of_own hve
 obtain⟨NE,hNE⟩:∃ n,s'.evs.length=n:=⟨_,rfl⟩
 have hre:=Rd.of_own hve
 rw [hNE] at hre
 have HRE:=Lib.hid hre
 have HB7:Hid (Below w6.heap.size w6 w7):=Lib.hid hb7
 have HCE:=Lib.hid hcell
 have HNE:=Lib.hid hNE
 rw [hNE]
 have hnl:NE≤200000:=by have:=HE6.out.2.2;have:=HS.out.2.2;omega
 have HNL:=Lib.hid hnl
 clear hevs hve hb7 hcell hNE hnl hce hle hre
 go_wp2_with fail
 go_loopg [18] NE (fun g iv wr=>∃ (i:Nat),i+g=NE∧iv=.int .i64 i∧wr=w7)
 case atStart=>exact⟨0,by omega,rfl,rfl⟩
 case round=>
  obtain⟨i,hi,rfl,rfl⟩:=hrel
  by_cases hlt:i < NE
  ·obtain⟨g',rfl⟩:∃ g',gk=g'+1:=⟨gk - 1,by omega⟩
   have hil:(i:Int) < (NE:Int):=by omega
   have hwr:wrap64 ((i:Int)+1)=(i:Int)+1:=by have:=HNL.out;unfold wrap64;omega
   obtain⟨x,hx⟩:∃ x,s'.evs[i]? = some x:=⟨_,List.getElem?_eq_getElem (by rw [HNE.out];exact hlt)⟩
   obtain⟨b0,off,rfl,hbl,hce⟩:∃ b off,A=some ⟨b,off,none⟩∧b < wr.heap.size∧∀ j u,(flatE s'.evs)[j]? = some u→wr.cell? ⟨b,off+j,none⟩=some u:=by
    rcases HCE.out with⟨_,h⟩ | h
    ·have:=HNE.out;omega
    ·exact h
   obtain⟨y0,y1,y2,y3,y4,y5,y6,y7⟩:=ev_cells hce hx
   obtain⟨hf1,hf2⟩:=HRUN.out.2.2.1 x (List.mem_of_getElem? hx)
   clear hce hx y1 y2 y3 y5 y7
   have d13:(x.kind == 13)=false:=by simpa using hf1
   by_cases k7:x.kind=7
   ·rcases hf2 k7 with (k0 | k0) | ⟨k0 | k0,v0⟩
    all_goals
     rw [k0] at y6
     rw [k7] at y0
     first | rw [v0] at y4 | skip
     clear hf2 hf1 d13 k0 k7
     go_wp2_with fail
     go_roundg g'
     case rel=>exact⟨i+1,by omega,by first | (simp;done) | (simp;exact hwr),rfl⟩
     case measure=>omega
   ·have d7:(x.kind == 7)=false:=by simpa using k7
    clear hf2 hf1 k7
    go_wp2_with fail
    go_roundg g'
    case rel=>exact⟨i+1,by omega,by first | (simp;done) | (simp;exact hwr),rfl⟩
    case measure=>omega
  ·have hil:¬((i:Int) < (NE:Int)):=by omega
   have hone:=one_any wr (.slice A NE ce) s'.evs (by rw [HNE.out];exact HRE.out) (by have:=HNE.out;have:=HNL.out;omega)
   have hon:(oneF s'.evs).isSome=true:=by obtain⟨q,hq⟩:=HRUN.out.2.1;rw [hq];rfl
   rw [hon] at hone
   have HONE:=Lib.hid hone
   have hM7:=HM6.out.below HB7.out
   have HM7:=Lib.hid hM7
   have HDN:Hid (∀ W,Below wr.heap.size wr W→Calls Tryz.prog 26 #[.pointer (some ⟨K.mb,0,none⟩)] W fun e w'=>e=.returned (.bool (endedTo s' T))∧Below W.heap.size W w'):=Lib.hid (fun W hW=>by
    have h:=done_ts (HM7.out.below hW) (by rw [HE6.out.2.1];have:=HT.out.2.1;omega)
    rw [HE6.out.2.1] at h
    exact h)
   have HBT:Hid (Below w.heap.size w wr):=Lib.hid (HB6.out.trans (HB7.out.mono HB6.out.size))
   clear hone hon hM7
   cases hd:endedTo s' T with
   | false=>
    rw [hd] at HDN
    go_wp2_with (first
     | (go_at_call 95;refine HONE.out.mono ?_;rintro r w8 ⟨rfl,hb8⟩)
     | (go_at_call 26;refine (HDN.out w8 hb8).mono ?_;rintro r w9 ⟨rfl,hb9⟩))
    go_ret
    exact⟨rfl,HBT.out.trans ((hb8.trans (hb9.mono hb8.size)).mono HBT.out.size)⟩
   | true=>
    rw [hd] at HDN
    have hval:=HRUN.out.2.2.2 hd
    obtain⟨P,hP⟩:∃ P:Nat,T*rounds=P:=⟨_,rfl⟩
    have hPle:P≤100:=by
     rw [←hP]
     exact Nat.le_trans (Nat.mul_le_mul HT.out.2.1 HT.out.2.2.2) (by decide)
    have hPi:(T:Int)*(rounds:Int)=(P:Int):=by rw [←hP];simp
    rw [hPi] at hval
    have hval2:s'.mem.getD 0 0=(P:Int):=by rw [hval];unfold wr32;omega
    have q1:wrap64 ((T:Int)*(rounds:Int))=(P:Int):=by rw [hPi];unfold wrap64;omega
    have q2:IntKind.u32.wrap (P:Int)=(P:Int):=by rw [IntKind.wrap_u32];omega
    have hml:0 < s'.mem.length:=by rw [HE6.out.1,HL0.out];omega
    have HMEM:Hid (∀ W,Below wr.heap.size wr W→Calls Tryz.prog 28 #[.pointer (some ⟨K.mb,0,none⟩)] W fun e w'=>∃ g cap,e=.returned (.slice (some ⟨g,0,none⟩) s'.mem.length cap)∧w'.cell? ⟨g,0,none⟩=some (.int .u32 (P:Int))∧Below W.heap.size W w'):=Lib.hid (fun W hW=>by
     refine (mem_ts (HM7.out.below hW) (by rw [HE6.out.1];exact HMC.out) (by rw [HE6.out.1,HL0.out];have:=HM.out.2.1;omega)).mono ?_
     rintro e w' ⟨v,rfl,ho,hb⟩
     obtain⟨g,cap,rfl⟩:=own_form ho hml
     refine⟨g,cap,rfl,?_,hb⟩
     have hg0:s'.mem[0]? = some (P:Int):=by
      rw [List.getD_eq_getElem?_getD,List.getElem?_eq_getElem hml] at hval2
      rw [List.getElem?_eq_getElem hml]
      exact congrArg some hval2
     have:=ho.cells (g:=g) rfl 0 (.int .u32 (P:Int)) (by unfold w32;rw [List.getElem?_map,hg0];rfl)
     rwa [add_at,Nat.zero_add] at this)
    obtain⟨ml,hmle⟩:∃ ml,s'.mem.length=ml+1:=⟨s'.mem.length - 1,by omega⟩
    rw [hmle] at HMEM
    have q3:(0:Int) < (ml:Int)+1:=by omega
    clear hd hval hP hPle hPi hval2 hml hmle
    go_wp2_with (first
     | (go_at_call 95;refine HONE.out.mono ?_;rintro r w8 ⟨rfl,hb8⟩)
     | (go_at_call 26;refine (HDN.out w8 hb8).mono ?_;rintro r w9 ⟨rfl,hb9⟩;have hB9:=hb8.trans (hb9.mono hb8.size))
     | (go_at_call 28;refine (HMEM.out w9 hB9).mono ?_;rintro r wa ⟨ga,pa,rfl,hca,hba⟩;have hBa:=hB9.trans (hba.mono hB9.size))
     | (go_at_call 28;refine (HMEM.out wa hBa).mono ?_;rintro r wb ⟨gb,pb,rfl,hcb,hbb⟩;have hBb:=hBa.trans (hbb.mono hBa.size)))
    go_ret
    exact⟨rfl,HBT.out.trans (hBb.mono HBT.out.size)⟩
end Go.Proofs.YtcnmhgblbikfkaaGreatDoor.As.T
