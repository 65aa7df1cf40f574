/- What befell,where much did. The walk of deadlatchlaw15.ends. -/
import Derived.Test.YtckmkaeopnnbbaaGreatDoorGn
import Derived.Test.YtckmkaeopnnbbaaGreatDoorEvG
section
set_option linter.unusedVariables false
set_option linter.unusedSimpArgs false
set_option maxRecDepth 20000
namespace Go.Proofs.YtckmkaeopnnbbaaGreatDoor.As.T
open Go.RowKit

set_option maxRecDepth 100000 in
set_option maxHeartbeats 400000 in
theorem cloneB_any(w:World)(v:Value)(n:Nat)(xs:List Value)(h:Rd w 8 v n xs)(hn:n≤99999999999)(h1:∀ u∈xs,u.oneCell'=true):
  Calls Tryz.prog 52 #[v] w fun e w'=>∃ v',e=.returned v'∧w'.ownsRow w.heap.size 65 8 v' n xs∧Below w.heap.size w w':=by
 obtain⟨A,cap,rfl,hc,hl,h⟩:=h
 obtain⟨i0,hi,hz0,hz1,hz2⟩:=info_parts infoEv
 rcases h with⟨rfl,rfl⟩ | ⟨b,off,rfl,hb,hcell⟩
 ·have hx:xs=[]:=List.eq_nil_of_length_eq_zero (by simpa using hl)
  subst hx
  have hnil:∀ W,(binOp .eql 56 (.slice none 0 cap) (.slice none 0 0)).run Tryz.prog W=.ok (.bool true) W:=fun W=>Lib.run_eql_slice_nil W _ _ _ _ _ _ _ Tryz.underlying56
  go_enter Tryz.func52,Tryz.ntmps52
  go_wp2_with fail
  go_ret
  exact⟨_,rfl,World.ownsRow_nil _ _ _ _,Below.refl _ _⟩
 ·have hnil:∀ W,(binOp .eql 56 (.slice (some ⟨b,off,none⟩) n cap) (.slice none 0 0)).run Tryz.prog W=.ok (.bool false) W:=fun W=>Lib.run_eql_slice_nil W _ _ _ _ _ _ _ Tryz.underlying56
  have hne:(World.ownsRow (w.alloc (.cells #[] 65)) w.heap.size 65 8 (.slice (some ⟨w.heap.size,0,none⟩) 0 0) 0 []):=⟨rfl,.inr ⟨w.heap.size,0,#[],rfl,Nat.le_refl _,heap_alloc_new _ _,Nat.le_refl _,Nat.zero_le _,rfl,rfl⟩⟩
  go_enter Tryz.func52,Tryz.ntmps52
  go_wp2_with (at_builtin;refine wpList_append_own _ rfl (.tmp 5) (.tmp 6) 56 rfl w.heap.size 65 i0 _ 8 48 Tryz.underlying56 hi hz0 hz1 hz2 rfl (by decide) _ 0 [] rfl hne ⟨b,off,none⟩ n cap xs rfl hl (fun j u hu=>by rw [add_at];exact (Below.cell ((Below.refl w.heap.size w).alloc (Nat.le_refl _) _) (p:=⟨b,off+j,none⟩) hb).trans (hcell j u hu)) h1 (by unfold maxLen;omega) (by omega) (by simp) ?_;intro v' w1 ho hgr hat)
  go_wp2_with fail
  go_ret
  have hgr2:(w.alloc (.cells #[] 65)).grownBy w1 (some w.heap.size):=hgr
  exact⟨_,rfl,by simpa using ho,((Below.refl w.heap.size w).alloc (Nat.le_refl _) _).grown hgr2 (by simp) (fun k hk=>by injection hk with hk;omega)⟩
theorem eventsb_ts{Z:Nat→Prop}{w:World}{K:TsK}{s:Ts}(h:TsM Z w K s)(hn:s.evs.length≤99999999999):
  Calls Tryz.prog 26 #[.pointer (some ⟨K.mb,0,none⟩)] w fun e w'=>∃ v,e=.returned v∧w'.ownsRow w.heap.size 65 8 v s.evs.length (flatE s.evs)∧Below w.heap.size w w':=by
 obtain⟨_,_,_,_,_,ev,kv,ma,ta,ba,A,_⟩:=h
 have c0:w.cell? ⟨K.mb,5,none⟩=some ev:=cell_of_row _ _ 5 _ _ _ A.hb
 obtain⟨e1,e2,e3,rfl⟩:∃ a b c,ev=.slice a b c:=by
  rcases A.oe.2 with⟨e,_⟩ | ⟨g,cap,cur,e,_⟩
  ·exact⟨_,_,_,e⟩
  ·exact⟨_,_,_,e⟩
 have hcl:=cloneB_any w _ _ _ (Rd.of_own A.oe) hn (one_ev _)
 have HCL:=Lib.hid hcl
 clear hcl A
 go_enter Tryz.func26,Tryz.ntmps26
 go_wp2_with (go_at_call 52;refine HCL.out.mono ?_;rintro r w2 ⟨v,rfl,ho,hb⟩)
 go_ret
 exact⟨v,rfl,ho,hb⟩
end Go.Proofs.YtckmkaeopnnbbaaGreatDoor.As.T
end

section
set_option linter.unusedVariables false
set_option linter.unusedSimpArgs false
set_option maxRecDepth 20000
namespace Go.Proofs.YtckmkaeopnnbbaaGreatDoor.As.T
open Go.RowKit

theorem wr_id2{x:Int}(h0:0≤x)(h1:x≤1000000000000):wrap64 x=x:=by unfold wrap64;omega
theorem wr_u32{x:Int}(h0:0≤x)(h1:x≤100):IntKind.u32.wrap x=x:=by rw [IntKind.wrap_u32];omega
theorem wr_w32{x:Int}(h0:0≤x)(h1:x≤100):wr32 x=x:=by unfold wr32;omega
def sizeC(codes:List (List Ins)):Nat→Nat
 | 0=>0
 | n+1=>sizeC codes n+(codes.getD n []).length
theorem sizeC_le{codes:List (List Ins)}(h:∀ L∈codes,L.length≤4000):∀ n,n≤codes.length→sizeC codes n≤n*4000
 | 0,_=>Nat.le_refl _
 | n+1,hn=>by
  have h1:=sizeC_le h n (by omega)
  have h2:(codes.getD n []).length≤4000:=by
   rw [List.getD_eq_getElem?_getD,List.getElem?_eq_getElem (by omega)]
   exact h _ (List.getElem_mem _)
  rw [sizeC,Nat.succ_mul];omega
def turnsN(l:List (Nat×Nat))(k:Nat):List (Nat×Nat):=(List.replicate k l).flatten
theorem turnsN_succ(l:List (Nat×Nat))(k:Nat):turnsN l (k+1)=turnsN l k++l:=by
 unfold turnsN
 rw [List.replicate_succ',List.flatten_append];simp
structure EhW(W0 W:World)(Z:Nat→Prop)(K:TsK)(codes:List (List Ins))(s0 s:Ts)(g:Nat)(turns:List (Nat×Nat))(n:Nat)(ml:Nat):Prop where
 m:Mch Z W K codes s
 ok:OkS codes s
 nt:s.ths.length=codes.length
 nm:s.mem.length=ml
 ev:s.evs.length+s.pend≤2*turns.length*n
 pk:PkS W g turns
 zg:Z g
 run:Ts.run codes s0 (turnsN turns n)=some s
 bel:Below W0.heap.size W0 W
theorem EhW.same{W0 W W':World}{Z:Nat→Prop}{K:TsK}{codes:List (List Ins)}{s0 s:Ts}{g n ml:Nat}{turns:List (Nat×Nat)}(h:EhW W0 W Z K codes s0 s g turns n ml)(hb:Below W.heap.size W W'):EhW W0 W' Z K codes s0 s g turns n ml:=
 ⟨h.m.keep (h.m.m.below hb) (F:=fun _=>False) (Only.of_below hb (Nat.le_refl _)) (fun _ e=>e.elim),h.ok,h.nt,h.nm,h.ev,h.pk.only (Only.of_below (F:=fun _=>False) hb (Nat.le_refl _)) (fun e=>e),h.zg,h.run,h.bel.trans (hb.mono h.bel.size)⟩
set_option maxHeartbeats 16000000 in
theorem ends_any(w:World)(TI:TabI w)(k n a b:Int)(T rounds room w0:Nat)(N:Nat)(caps:Array Value)(ca cb:Nat→List Ins)(mem:List Int)(sv:Value)(bs:List Nat)
  (hA:∀ t,t < T→∀ W,Below w.heap.size w W→Calls Tryz.prog N (#[.int .i64 1,.int .i64 (t:Int)]++caps) W (CodeIs W (ca t)))
  (hB:∀ t,t < T→∀ W,Below w.heap.size w W→Calls Tryz.prog N (#[.int .i64 2,.int .i64 (t:Int)]++caps) W (CodeIs W (cb t)))
  (hF:∀ W,Below w.heap.size w W→Calls Tryz.prog 42 #[.agg #[.int .i64 k,.int .i64 n,.int .i64 a,.int .i64 b],.int .i64 (T:Int)] W (FirstOk W mem))
  (eN:∀ args w,(callFunc N args).run Tryz.prog w=.ok (.enter N args) w) (hm0:0 < mem.length) (hm1:mem.length≤500) (hmw:∀ v∈mem,wd v=true) (hT0:0 < T) (hT:T≤8) (hR0:0 < rounds) (hR:rounds≤10) (hr0:0 < room) (hr:room≤16)
  (hla:∀ t,(ca t).length≤200∧0 < (ca t).length∧∀ x∈ca t,0≤x.k∧x.k≤4294967295) (hlb:∀ t,(cb t).length≤200∧0 < (cb t).length∧∀ x∈cb t,0≤x.k∧x.k≤4294967295)
  (hco:CodesOk (codesR ca cb T rounds)) (hs:Rd w 1 sv bs.length (u8s bs)) (hb:∀ b∈bs,b≤255) (hn:bs.length≤100000) (hw0:4*T≤w0) (hw9:w0≤1000)
  (hrun:∀ q,∃ s',Ts.run (codesR ca cb T rounds) (ts0 (mem0 mem) room T) (turnsN (evenP T w0 (bs.map pickB) (20*w0)) q)=some s'∧(∃ i,oneF s'.evs=some i)∧(endedTo s' T=true→s'.mem.getD 0 0=wr32 ((T:Int)*rounds))∧(50*(T+1)*(sizeC (codesR ca cb T rounds) T+10) / 20 < q→endedTo s' T=true)):
  Calls Tryz.prog 29 #[.agg #[.int .i64 k,.int .i64 n,.int .i64 a,.int .i64 b],.int .i64 T,.int .i64 rounds,.int .i64 room,.func (.func N) #[] caps,sv,.int .i64 (w0:Nat)] w fun e w'=>e=.returned (.bool true)∧Below w.heap.size w w':=by
 have hb1:∀ X,Below w.heap.size w (w.alloc X):=fun X=>(Below.refl _ w).alloc (Nat.le_refl _) X
 have hrd:=fun X=>rounds_any (w.alloc X) (TI.below (hb1 X) (Nat.le_refl _)) k n a b T rounds room N caps ca cb mem (fun t ht W hW=>hA t ht W ((hb1 X).trans (hW.mono (hb1 X).size))) (fun t ht W hW=>hB t ht W ((hb1 X).trans (hW.mono (hb1 X).size))) (fun W hW=>hF W ((hb1 X).trans (hW.mono (hb1 X).size))) eN hm0 (by omega) hT0 hT hR0 hR hla hlb
 have HRD:=Lib.hid hrd
 have HB1:=Lib.hid hb1
 have HTI:=Lib.hid TI
 have HCO:=Lib.hid hco
 have HS:=Lib.hid (And.intro hs (And.intro hb hn))
 have HRUN:=Lib.hid hrun
 have HM:=Lib.hid (And.intro hm0 (And.intro hm1 hmw))
 have HT:=Lib.hid (And.intro hT0 (And.intro hT (And.intro hR0 hR)))
 have HRO:=Lib.hid (And.intro hr0 hr)
 have HWW:=Lib.hid (And.intro hw0 hw9)
 clear hA hB hF hrd hb1 TI hco hs hb hn hrun hm0 hm1 hmw hT0 hT hR0 hR hr0 hr hla hlb hw0 hw9
 go_enter Tryz.func29,Tryz.ntmps29
 go_wp2_with fail
 with_reducible refine (HRD.out _).mono ?_
 rintro r w2 ⟨cv,mv,rfl,hmv,hcs,hb2⟩
 obtain⟨ggx,cpx,hcox,_⟩:=hcs.ex
 obtain⟨gv,pv,rfl⟩:=own_form hcox HT.out.1
 obtain⟨gm5,pm5,rfl⟩:=own_form hmv (by omega)
 have HMV:=Lib.hid hmv
 have HCS:=Lib.hid (cdp_of hcs)
 have HB2:Hid (Below w.heap.size w w2):=Lib.hid ((HB1.out _).trans (hb2.mono (HB1.out _).size))
 clear hmv hcs hb2 hcox
 go_wp2_with fail
 have hl0:(mem0 mem).length=16+mem.length:=by unfold mem0;rw [List.length_append,List.length_replicate]
 have hbw3:∀ X,Below w.heap.size w (w2.alloc X):=fun X=>HB2.out.alloc HB2.out.size X
 have hnew:∀ X,Calls Tryz.prog 23 #[.agg #[.slice (some ⟨gv,0,none⟩) T pv,.slice (some ⟨gm5,0,none⟩) (16+mem.length) pm5,.int .i64 room]] (w2.alloc X) fun e w'=>∃ (Z:Nat→Prop) (K:TsK),e=.returned (.tuple #[.pointer (some ⟨K.mb,0,none⟩),.int .i64 0])∧Mch Z w' K (codesR ca cb T rounds) (ts0 (mem0 mem) room T)∧(∀ k,k < (w2.alloc X).heap.size→Z k)∧Below (w2.alloc X).heap.size (w2.alloc X) w'∧(mem0 mem).length≤K.mc:=fun X=>by
  have h:=new_ts (w2.alloc X) (HTI.out.below (hbw3 X) (Nat.le_refl _)) gv pv room pm5 (some ⟨gm5,0,none⟩) (mem0 mem) (codesR ca cb T rounds) (HCS.out.below ((Below.refl _ _).alloc (Nat.le_refl _) _)) (by rw [hl0];exact Rd.of_own (own_only HMV.out (on_al (F:=fun _=>False) _ _) (fun _ _ f=>f))) (by rw [codesR_len];exact HT.out.1) (by rw [codesR_len];exact HT.out.2.1) (by rw [hl0];omega) (by rw [hl0];have:=HM.out.2.1;omega) HRO.out.1 HRO.out.2 (fun L hL=>⟨(HCO.out L hL).2.1,fun x hx=>by
   have:=(HCO.out L hL).2.2 x hx
   simp only [okI,Bool.and_eq_true] at this
   exact this.1.1⟩) (fun L hL=>(HCO.out L hL).1)
  rw [codesR_len,hl0] at h
  rw [hl0]
  exact h
 refine (hnew _).mono ?_
 rintro r w4 ⟨Z,K,rfl,hm4,hz4,hb4,hmc⟩
 have hpb:=(hb4.block w2.heap.size (by simp)).trans (heap_alloc_new w2 _)
 have cp0:w4.cell? ⟨w2.heap.size,0,none⟩=some (.slice (some ⟨gv,0,none⟩) T pv):=cell_of_row _ _ 0 _ _ _ hpb
 have HCP:=Lib.hid ((HCS.out.below ((Below.refl _ _).alloc (Nat.le_refl _) _)).below hb4)
 have HB4:Hid (Below w.heap.size w w4):=Lib.hid ((hbw3 _).trans (hb4.mono (hbw3 _).size))
 have HM4:=Lib.hid hm4
 have HMC:Hid ((mem0 mem).length≤K.mc):=Lib.hid hmc
 have HZ:Hid (∀ k,k < w.heap.size→Z k):=Lib.hid (fun k hk=>hz4 k (by have:=(hbw3 (.cells #[] 45)).size;simp at this ⊢; omega))
 have HL0:=Lib.hid hl0
 obtain⟨gpb,hgpb⟩:∃ g,w2.heap.size=g:=⟨_,rfl⟩
 rw [hgpb] at cp0 ⊢
 clear hnew hbw3 hm4 hz4 hb4 hmc hl0 HMV HCS HRD HB1 HB2 hpb hgpb
 obtain⟨codes,hcd⟩:∃ c,codesR ca cb T rounds=c:=⟨_,rfl⟩
 have hcl:codes.length=T:=by rw [←hcd];exact codesR_len ca cb T rounds
 rw [hcd] at HCP HM4 HCO HRUN
 have hc4:∀ L∈codes,L.length≤4000:=fun L hL=>(HCO.out L hL).2.1
 have hsz:=fun i (hi:i≤T)=>sizeC_le hc4 i (by rw [hcl];exact hi)
 have HSZ:=Lib.hid hsz
 have HCL:=Lib.hid hcl
 clear hsz hc4 hcl hcd
 go_wp2_with fail
 go_loopg [19,20] T (fun g sv iv wr=>∃ (i:Nat),i+g=T∧iv=.int .i64 i∧sv=.int .i64 (sizeC codes i:Nat)∧wr=w4)
 case atStart=>exact⟨0,by omega,rfl,rfl,rfl⟩
 case round=>
  obtain⟨i,hi,rfl,rfl,rfl⟩:=hrel
  by_cases hlt:i < T
  ·obtain⟨g',rfl⟩:∃ g',gk=g'+1:=⟨gk - 1,by omega⟩
   obtain⟨L,hL⟩:∃ L,codes[i]? = some L:=⟨_,List.getElem?_eq_getElem (by rw [HCL.out];exact hlt)⟩
   obtain⟨gL,cL,cc,_⟩:=HCP.out i L hL
   obtain⟨si,hsi⟩:∃ si,sizeC codes i=si:=⟨_,rfl⟩
   obtain⟨ln,hln⟩:∃ ln,L.length=ln:=⟨_,rfl⟩
   obtain⟨s2,hs2⟩:∃ s2,sizeC codes (i+1)=s2:=⟨_,rfl⟩
   have hss:s2=si+ln:=by rw [←hs2,sizeC,List.getD_eq_getElem?_getD,hL,hsi];show si+L.length=_;rw [hln]
   have hb3:=HSZ.out (i+1) hlt
   rw [hs2] at hb3
   have hT8:=HT.out.2.1
   have hb4:(i+1)*4000≤8*4000:=Nat.mul_le_mul_right _ (by omega)
   have hn1:(0:Int)≤(si:Int)+(ln:Int)∧(si:Int)+(ln:Int)≤1000000∧(si:Int)+(ln:Int)=(s2:Nat):=by omega
   have hn2:(0:Int)≤(i:Int)+1∧(i:Int)+1≤1000000:=by omega
   have HI1:Hid (i+1+g'=T):=Lib.hid (by omega)
   have hil:(i:Int) < (T:Int):=Int.ofNat_lt.2 hlt
   rw [hln] at cc
   rw [hsi]
   have HS2:=Lib.hid hs2
   have e1:wrap64 ((si:Int)+(ln:Int))=(s2:Nat):=by rw [hn1.2.2];exact wr_id (by rw [←hn1.2.2];exact hn1.1) (by rw [←hn1.2.2];exact hn1.2.1)
   have e2:wrap64 ((i:Int)+1)=(i:Int)+1:=wr_id hn2.1 hn2.2
   clear hi hlt hL hsi hln hs2 hss hb3 hb4 hn1 hn2 hT8
   go_wp2_with fail
   go_roundg g'
   case rel=>exact⟨i+1,HI1.out,by first | (simp;done) | (simp;exact e2),by rw [HS2.out,e1],rfl⟩
   case measure=>exact Nat.lt_succ_self _
  ·have hiT:i=T:=by omega
   subst hiT
   clear hi hlt
   obtain⟨sz,hsz⟩:∃ sz,sizeC codes i=sz:=⟨_,rfl⟩
   have hszb:=HSZ.out i (Nat.le_refl _)
   rw [hsz] at hszb HRUN ⊢
   obtain⟨a1,ha1⟩:∃ a1,i+1=a1:=⟨_,rfl⟩
   obtain⟨a2,ha2⟩:∃ a2,50*a1=a2:=⟨_,rfl⟩
   obtain⟨a3,ha3⟩:∃ a3,sz+10=a3:=⟨_,rfl⟩
   obtain⟨a4,ha4⟩:∃ a4,a2*a3=a4:=⟨_,rfl⟩
   obtain⟨n20,hn20⟩:∃ n20,20*w0=n20:=⟨_,rfl⟩
   obtain⟨q20,hq20⟩:∃ q20,a4 / 20=q20:=⟨_,rfl⟩
   rw [ha1,ha2,ha3,ha4,hq20,hn20] at HRUN
   have hT8:=HT.out.2.1
   have hww:=HWW.out
   have hb4:i*4000≤8*4000:=Nat.mul_le_mul_right _ hT8
   have ha4b:a4≤450*32010:=by rw [←ha4];exact Nat.mul_le_mul (by omega) (by omega)
   have n1:(0:Int)≤(i:Int)+1∧(i:Int)+1≤1000000∧(i:Int)+1=(a1:Nat):=by omega
   have n2:(0:Int)≤50*(a1:Int)∧50*(a1:Int)≤1000000∧50*(a1:Int)=(a2:Nat):=by omega
   have n3:(0:Int)≤(sz:Int)+10∧(sz:Int)+10≤1000000∧(sz:Int)+10=(a3:Nat):=by omega
   have n4:(a2:Int)*(a3:Int)=(a4:Nat):=by rw [←ha4];simp
   have n4b:(0:Int)≤(a4:Int)∧(a4:Int)≤1000000000000:=by omega
   have n5:(0:Int)≤20*(w0:Int)∧20*(w0:Int)≤1000000∧20*(w0:Int)=(n20:Nat):=by omega
   have n6:(a4:Int) / 20=(q20:Nat):=by rw [←hq20];omega
   have n7:(0:Int)≤(q20:Int)∧(q20:Int)≤1000000:=by omega
   have n8:q20≤720225∧n20≤20000∧1≤n20:=by have:=HT.out.1;omega
   have HN8:=Lib.hid n8
   have e1:wrap64 ((i:Int)+1)=(a1:Nat):=(wr_id n1.1 n1.2.1).trans n1.2.2
   have e2:wrap64 (50*(a1:Int))=(a2:Nat):=(wr_id n2.1 n2.2.1).trans n2.2.2
   have e3:wrap64 ((sz:Int)+10)=(a3:Nat):=(wr_id n3.1 n3.2.1).trans n3.2.2
   have e4:wrap64 ((a2:Int)*(a3:Int))=(a4:Nat):=by rw [n4];exact wr_id2 n4b.1 n4b.2
   have e5:wrap64 (20*(w0:Int))=(n20:Nat):=(wr_id n5.1 n5.2.1).trans n5.2.2
   have N6:=Lib.hid n6
   have N7:=Lib.hid n7
   have hread:=read_any wr sv bs (HS.out.1.below HB4.out (Nat.le_refl _)) HS.out.2.1 HS.out.2.2
   have HREAD:=Lib.hid hread
   clear hread hsz hszb ha1 ha2 ha3 ha4 hn20 hq20 hT8 hww hb4 ha4b n1 n2 n3 n4 n4b n5 n6 n7 n8
   go_wp2_with (first | (go_at_call 25;refine (HREAD.out).mono ?_;clear HREAD;rintro r w5 ⟨gp,rfl,hpk,hg5,hg6,hb5⟩;have hev:=even_any w5 gp bs.length i w0 n20 (bs.map pickB) hpk hg6 HT.out.1 HT.out.2.1 HWW.out.1 HWW.out.2 HN8.out.2.2 (by have:=HN8.out.2.1;omega) (by rw [List.length_map];exact HS.out.2.2);rw [List.length_map] at hev;have HEVN:=Lib.hid hev;have H5:=Lib.hid (And.intro hg5 hb5);clear hev hpk hg5 hg6 hb5) | (go_at_call 54;refine (HEVN.out).mono ?_;clear HEVN;rintro r w6 ⟨g6,c6,rfl,hpk6,hg61,hg62,hb6⟩;have H6:=Lib.hid (And.intro hpk6 (And.intro hg61 (And.intro hg62 hb6)));clear hpk6 hg61 hg62 hb6))
   obtain⟨turns,htu⟩:∃ t,evenP i w0 (bs.map pickB) n20=t:=⟨_,rfl⟩
   have htl:turns.length=n20:=by rw [←htu];exact evenP_len _ _ _ _
   rw [htu] at HRUN H6
   have HTL:=Lib.hid htl
   have hstart:EhW w w6 (fun k=>Z k∨k=g6) K codes (ts0 (mem0 mem) room i) (ts0 (mem0 mem) room i) g6 turns 0 (mem0 mem).length:=by
    have hb46:Below wr.heap.size wr w6:=H5.out.2.trans (H6.out.2.2.2.mono H5.out.2.size)
    have hk0:=ok0 HCO.out (mem:=mem0 mem) (room:=room) (fun v hv=>by
     unfold mem0 at hv
     rcases List.mem_append.1 hv with hv | hv
     ·rw [(List.mem_replicate.1 hv).2];rfl
     ·exact HM.out.2.2 v hv)
    rw [HCL.out] at hk0
    refine⟨HM4.out.more (TsM.add HM4.out.m hb46 (by have:=H5.out.2.size;have:=H6.out.2.1;omega) H6.out.2.2.1) (Only.of_below (F:=fun _=>False) hb46 (Nat.le_refl _)) (fun k e=>Or.inl e),hk0,by rw [HCL.out];simp [ts0],rfl,?_,H6.out.1,.inr rfl,rfl,HB4.out.trans (hb46.mono HB4.out.size)⟩
    have h1:(ts0 (mem0 mem) room i).evs.length=0:=rfl
    have h2:(ts0 (mem0 mem) room i).pend=0:=by simp [ts0,Ts.pend]
    rw [h1,h2];omega
   have HST:=Lib.hid hstart
   clear htu htl hstart cp0 e1 e2 e3 e4 e5 H5 H6
   go_wp2_with fail
   go_loopg [24] (q20+1) (fun g nv wz=>∃ (m:Nat) (s:Ts),m+g=q20+1∧nv=.int .i64 m∧Hid (EhW w wz (fun k=>Z k∨k=g6) K codes (ts0 (mem0 mem) room i) s g6 turns m (mem0 mem).length))
   case atStart=>exact⟨0,_,by omega,rfl,HST⟩
   case round=>
    obtain⟨m,s,hm,rfl,HE⟩:=hrel
    have n6:=N6.out
    have n6t:(a4:Int).tdiv 20=(q20:Nat):=by rw [Int.tdiv_eq_ediv_of_nonneg (Int.natCast_nonneg a4)];exact N6.out
    have HRU:Hid ((∃ i,oneF s.evs=some i)∧(endedTo s i=true→s.mem.getD 0 0=wr32 ((i:Int)*rounds))∧(q20 < m→endedTo s i=true)):=Lib.hid (by
     obtain⟨s',h1,h2,h3,h4⟩:=HRUN.out m
     rw [HE.out.run] at h1
     rw [Option.some.inj h1]
     exact⟨h2,h3,h4⟩)
    have HEB:Hid (s.evs.length≤99999999999):=Lib.hid (by
     have h1:=HE.out.ev
     have h2:=HTL.out
     have h3:=HN8.out
     have h4:2*turns.length*m≤40000*720226:=Nat.mul_le_mul (by omega) (by omega)
     omega)
    by_cases hlt:m≤q20
    ·cases hend:endedTo s i with
     | true=>
      have hil:(m:Int)≤(q20:Int):=Int.ofNat_le.2 hlt
      have ewq:wrap64 (q20:Int)=(q20:Nat):=wr_id N7.out.1 N7.out.2
      have hE:=HE.out
      have hval:=(HRU.out).2.1 hend
      obtain⟨P,hP⟩:∃ P:Nat,i*rounds=P:=⟨_,rfl⟩
      have hPle:P≤100:=by
       rw [←hP]
       exact Nat.le_trans (Nat.mul_le_mul HT.out.2.1 HT.out.2.2.2) (by decide)
      have hPi:(i:Int)*(rounds:Int)=(P:Int):=by rw [←hP];simp
      rw [hPi] at hval
      have hval2:s.mem.getD 0 0=(P:Int):=by rw [hval];exact wr_w32 (Int.natCast_nonneg P) (Int.ofNat_le.2 hPle)
      have q1:wrap64 ((i:Int)*(rounds:Int))=(P:Int):=by rw [hPi];exact wr_id2 (Int.natCast_nonneg P) (Int.le_trans (Int.ofNat_le.2 hPle) (by decide))
      have q2:IntKind.u32.wrap (P:Int)=(P:Int):=wr_u32 (Int.natCast_nonneg P) (Int.ofNat_le.2 hPle)
      have hml:0 < s.mem.length:=by rw [hE.nm,HL0.out];omega
      have HDN:Hid (∀ W,Below wr.heap.size wr W→Calls Tryz.prog 55 #[.pointer (some ⟨K.mb,0,none⟩)] W fun e w'=>e=.returned (.bool true)∧Below W.heap.size W w'):=Lib.hid (fun W hW=>by
       have h:=done_ts (hE.m.m.below hW) (by rw [hE.nt,HCL.out];have:=HT.out.2.1;omega)
       rw [hE.nt,HCL.out,hend] at h
       exact h)
      have HEV:Hid (∀ W,Below wr.heap.size wr W→Calls Tryz.prog 26 #[.pointer (some ⟨K.mb,0,none⟩)] W fun e w'=>∃ v,e=.returned v∧Rd w' 8 v s.evs.length (flatE s.evs)∧Below W.heap.size W w'):=Lib.hid (fun W hW=>by
       refine (eventsb_ts (hE.m.m.below hW) HEB.out).mono ?_
       rintro e w' ⟨v,rfl,ho,hb⟩
       exact⟨v,rfl,Rd.of_own ho,hb⟩)
      have HONE:Hid (∀ W v,Rd W 8 v s.evs.length (flatE s.evs)→Calls Tryz.prog 56 #[v] W fun e w'=>e=.returned (.bool true)∧Below W.heap.size W w'):=Lib.hid (fun W v hv=>by
       have h:=one_any W v s.evs hv HEB.out
       have hon:(oneF s.evs).isSome=true:=by obtain⟨q,hq⟩:=(HRU.out).1;rw [hq];rfl
       rw [hon] at h
       exact h)
      have HMEM:Hid (∀ W,Below wr.heap.size wr W→Calls Tryz.prog 57 #[.pointer (some ⟨K.mb,0,none⟩)] W fun e w'=>∃ g cap,e=.returned (.slice (some ⟨g,0,none⟩) s.mem.length cap)∧w'.cell? ⟨g,0,none⟩=some (.int .u32 (P:Int))∧Below W.heap.size W w'):=Lib.hid (fun W hW=>by
       refine (mem_ts (hE.m.m.below hW) (by rw [hE.nm];exact HMC.out) (by rw [hE.nm,HL0.out];have:=HM.out.2.1;omega)).mono ?_
       rintro e w' ⟨v,rfl,ho,hb⟩
       obtain⟨g,cap,rfl⟩:=own_form ho hml
       refine⟨g,cap,rfl,?_,hb⟩
       have hg0:s.mem[0]? = some (P:Int):=by
        rw [List.getD_eq_getElem?_getD,List.getElem?_eq_getElem hml] at hval2
        rw [List.getElem?_eq_getElem hml]
        exact congrArg some hval2
       have:=ho.cells (g:=g) rfl 0 (.int .u32 (P:Int)) (by unfold w32;rw [List.getElem?_map,hg0];rfl)
       rwa [add_at,Nat.zero_add] at this)
      have HBT:Hid (Below w.heap.size w wr):=Lib.hid hE.bel
      obtain⟨ml,hmle⟩:∃ ml,s.mem.length=ml+1:=⟨s.mem.length - 1,by omega⟩
      rw [hmle] at HMEM
      have q3:(0:Int) < (ml:Int)+1:=Int.lt_add_one_of_le (Int.natCast_nonneg ml)
      clear hend hval hP hPle hPi hval2 hml hmle hE hlt hm
      go_wp2_with (first
       | (go_at_call 55;refine (HDN.out wr (Below.refl _ wr)).mono ?_;rintro r w7 ⟨rfl,hb7⟩;have HD2:=HDN;clear HDN)
       | (go_at_call 55;refine (HD2.out w7 hb7).mono ?_;clear HD2;rintro r w8 ⟨rfl,hb8⟩;have hB8:=hb7.trans (hb8.mono hb7.size))
       | (go_at_call 26;refine (HEV.out w8 hB8).mono ?_;clear HEV;rintro r w9 ⟨ve,rfl,hve,hb9⟩;have hB9:=hB8.trans (hb9.mono hB8.size))
       | (go_at_call 56;refine (HONE.out w9 ve hve).mono ?_;clear HONE;rintro r wa ⟨rfl,hba⟩;have hBa:=hB9.trans (hba.mono hB9.size))
       | (go_at_call 57;refine (HMEM.out wa hBa).mono ?_;clear HMEM;rintro r wb ⟨gb,pb,rfl,hcb,hbb⟩;have hBb:=hBa.trans (hbb.mono hBa.size)))
      go_ret
      exact⟨rfl,HBT.out.trans (hBb.mono HBT.out.size)⟩
     | false=>
      obtain⟨g',rfl⟩:∃ g',gk=g'+1:=⟨gk - 1,by omega⟩
      have HM1:Hid (m+1+g'=q20+1):=Lib.hid (by omega)
      have HEB2:Hid (s.evs.length+s.pend+2*turns.length≤99999999999):=Lib.hid (by
       have h1:=HE.out.ev
       have h2:=HTL.out
       have h3:=HN8.out
       have h4:2*turns.length*m≤40000*720226:=Nat.mul_le_mul (by omega) (by omega)
       omega)
      have hil:(m:Int)≤(q20:Int):=Int.ofNat_le.2 hlt
      have hm1:(0:Int)≤(m:Int)+1∧(m:Int)+1≤1000000:=by have:=HN8.out.1;omega
      have ewq:wrap64 (q20:Int)=(q20:Nat):=wr_id N7.out.1 N7.out.2
      have ew1:wrap64 ((m:Int)+1)=(m:Int)+1:=wr_id hm1.1 hm1.2
      obtain⟨s1,hr1⟩:∃ s1,Ts.run codes s turns=some s1:=by
       obtain⟨s',h1,_⟩:=HRUN.out (m+1)
       rw [turnsN_succ,Ts.run_app,HE.out.run] at h1
       exact⟨s',h1⟩
      have HDN:Hid (∀ W,Below wr.heap.size wr W→Calls Tryz.prog 55 #[.pointer (some ⟨K.mb,0,none⟩)] W fun e w'=>e=.returned (.bool false)∧Below W.heap.size W w'):=Lib.hid (fun W hW=>by
       have h:=done_ts (HE.out.m.m.below hW) (by rw [HE.out.nt,HCL.out];have:=HT.out.2.1;omega)
       rw [HE.out.nt,HCL.out,hend] at h
       exact h)
      have HRN:Hid (∀ W,Below wr.heap.size wr W→Calls Tryz.prog 24 #[.pointer (some ⟨K.mb,0,none⟩),.slice (some ⟨g6,0,none⟩) n20 c6] W fun e w'=>e=.returned (.tuple #[])∧EhW w w' (fun k=>Z k∨k=g6) K codes (ts0 (mem0 mem) room i) s1 g6 turns (m+1) (mem0 mem).length):=Lib.hid (fun W hW=>by
       have hE:=HE.out.same hW
       have h:=run_ts (cap:=c6) hE.m hE.ok (by rw [hE.nt,HCL.out];have:=HT.out.2.1;omega) HEB2.out (by rw [hE.nm,HL0.out];have:=HM.out.2.1;omega) hE.zg hE.pk hr1
       rw [HTL.out] at h
       refine h.mono ?_
       rintro e w' ⟨b1,b2,b3,b4,b5,b6,b7⟩
       refine⟨b1,hE.m.keep b2 b3 (fun k e=>e),b4,by rw [b5];exact hE.nt,by rw [b6];exact hE.nm,?_,hE.pk.only b3 (fun e=>e hE.zg),hE.zg,?_,hE.bel.trans (b3.below hE.bel.size (fun k e=>?_))⟩
       ·have h1:=hE.ev
        rw [HTL.out] at h1 ⊢
        rw [Nat.mul_succ];omega
       ·rw [turnsN_succ,Ts.run_app,hE.run];exact hr1
       ·rcases Nat.lt_or_ge k w.heap.size with h | h
        ·exact absurd (.inl (HZ.out k h)) e
        ·exact h)
      clear hend hlt hm hm1 hr1 HEB HEB2
      go_wp2_with (first | (go_at_call 55;refine (HDN.out wr (Below.refl _ wr)).mono ?_;clear HDN;rintro r w8 ⟨rfl,hb8⟩) | (go_at_call 24;refine (HRN.out w8 hb8).mono ?_;clear HRN;rintro r w9 ⟨rfl,hE9⟩;have HE9:=Lib.hid hE9;clear hE9))
      go_roundg g'
      case rel=>exact⟨m+1,s1,HM1.out,by first | (simp;done) | (simp;exact ew1),HE9⟩
      case measure=>exact Nat.lt_succ_self _
    ·have hil:¬((m:Int)≤(q20:Int)):=fun e=>hlt (Int.ofNat_le.1 e)
     have hend:endedTo s i=true:=HRU.out.2.2 (by omega)
     have ewq:wrap64 (q20:Int)=(q20:Nat):=wr_id N7.out.1 N7.out.2
     have hE:=HE.out
     have hval:=(HRU.out).2.1 hend
     obtain⟨P,hP⟩:∃ P:Nat,i*rounds=P:=⟨_,rfl⟩
     have hPle:P≤100:=by
      rw [←hP]
      exact Nat.le_trans (Nat.mul_le_mul HT.out.2.1 HT.out.2.2.2) (by decide)
     have hPi:(i:Int)*(rounds:Int)=(P:Int):=by rw [←hP];simp
     rw [hPi] at hval
     have hval2:s.mem.getD 0 0=(P:Int):=by rw [hval];exact wr_w32 (Int.natCast_nonneg P) (Int.ofNat_le.2 hPle)
     have q1:wrap64 ((i:Int)*(rounds:Int))=(P:Int):=by rw [hPi];exact wr_id2 (Int.natCast_nonneg P) (Int.le_trans (Int.ofNat_le.2 hPle) (by decide))
     have q2:IntKind.u32.wrap (P:Int)=(P:Int):=wr_u32 (Int.natCast_nonneg P) (Int.ofNat_le.2 hPle)
     have hml:0 < s.mem.length:=by rw [hE.nm,HL0.out];omega
     have HDN:Hid (∀ W,Below wr.heap.size wr W→Calls Tryz.prog 55 #[.pointer (some ⟨K.mb,0,none⟩)] W fun e w'=>e=.returned (.bool true)∧Below W.heap.size W w'):=Lib.hid (fun W hW=>by
      have h:=done_ts (hE.m.m.below hW) (by rw [hE.nt,HCL.out];have:=HT.out.2.1;omega)
      rw [hE.nt,HCL.out,hend] at h
      exact h)
     have HEV:Hid (∀ W,Below wr.heap.size wr W→Calls Tryz.prog 26 #[.pointer (some ⟨K.mb,0,none⟩)] W fun e w'=>∃ v,e=.returned v∧Rd w' 8 v s.evs.length (flatE s.evs)∧Below W.heap.size W w'):=Lib.hid (fun W hW=>by
      refine (eventsb_ts (hE.m.m.below hW) HEB.out).mono ?_
      rintro e w' ⟨v,rfl,ho,hb⟩
      exact⟨v,rfl,Rd.of_own ho,hb⟩)
     have HONE:Hid (∀ W v,Rd W 8 v s.evs.length (flatE s.evs)→Calls Tryz.prog 56 #[v] W fun e w'=>e=.returned (.bool true)∧Below W.heap.size W w'):=Lib.hid (fun W v hv=>by
      have h:=one_any W v s.evs hv HEB.out
      have hon:(oneF s.evs).isSome=true:=by obtain⟨q,hq⟩:=(HRU.out).1;rw [hq];rfl
      rw [hon] at h
      exact h)
     have HMEM:Hid (∀ W,Below wr.heap.size wr W→Calls Tryz.prog 57 #[.pointer (some ⟨K.mb,0,none⟩)] W fun e w'=>∃ g cap,e=.returned (.slice (some ⟨g,0,none⟩) s.mem.length cap)∧w'.cell? ⟨g,0,none⟩=some (.int .u32 (P:Int))∧Below W.heap.size W w'):=Lib.hid (fun W hW=>by
      refine (mem_ts (hE.m.m.below hW) (by rw [hE.nm];exact HMC.out) (by rw [hE.nm,HL0.out];have:=HM.out.2.1;omega)).mono ?_
      rintro e w' ⟨v,rfl,ho,hb⟩
      obtain⟨g,cap,rfl⟩:=own_form ho hml
      refine⟨g,cap,rfl,?_,hb⟩
      have hg0:s.mem[0]? = some (P:Int):=by
       rw [List.getD_eq_getElem?_getD,List.getElem?_eq_getElem hml] at hval2
       rw [List.getElem?_eq_getElem hml]
       exact congrArg some hval2
      have:=ho.cells (g:=g) rfl 0 (.int .u32 (P:Int)) (by unfold w32;rw [List.getElem?_map,hg0];rfl)
      rwa [add_at,Nat.zero_add] at this)
     have HBT:Hid (Below w.heap.size w wr):=Lib.hid hE.bel
     obtain⟨ml,hmle⟩:∃ ml,s.mem.length=ml+1:=⟨s.mem.length - 1,by omega⟩
     rw [hmle] at HMEM
     have q3:(0:Int) < (ml:Int)+1:=Int.lt_add_one_of_le (Int.natCast_nonneg ml)
     clear hend hval hP hPle hPi hval2 hml hmle hE hlt hm
     go_wp2_with (first
      | (go_at_call 55;refine (HDN.out wr (Below.refl _ wr)).mono ?_;clear HDN;rintro r w8 ⟨rfl,hb8⟩;have hB8:=hb8)
      | (go_at_call 26;refine (HEV.out w8 hB8).mono ?_;clear HEV;rintro r w9 ⟨ve,rfl,hve,hb9⟩;have hB9:=hB8.trans (hb9.mono hB8.size))
      | (go_at_call 56;refine (HONE.out w9 ve hve).mono ?_;clear HONE;rintro r wa ⟨rfl,hba⟩;have hBa:=hB9.trans (hba.mono hB9.size))
      | (go_at_call 57;refine (HMEM.out wa hBa).mono ?_;clear HMEM;rintro r wb ⟨gb,pb,rfl,hcb,hbb⟩;have hBb:=hBa.trans (hbb.mono hBa.size)))
     go_ret
     exact⟨rfl,HBT.out.trans (hBb.mono HBT.out.size)⟩
end Go.Proofs.YtckmkaeopnnbbaaGreatDoor.As.T
end

