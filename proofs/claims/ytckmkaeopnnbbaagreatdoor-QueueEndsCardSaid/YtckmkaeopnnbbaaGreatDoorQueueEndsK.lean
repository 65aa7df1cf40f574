/- By any even script,whatever is wished,all threads of a lock of the package queue come to an end within the windows that the law allows,one at a time,and nothing that was added is lost,the tables of the packages obj and isa being as the program's text lays them. -/
import Derived.Test.YtckmkaeopnnbbaaGreatDoorQeL
import Derived.Test.YtckmkaeopnnbbaaGreatDoorLdS16
import Derived.Test.YtckmkaeopnnbbaaGreatDoorCards
import Derived.Test.YtckmkaeopnnbbaaGreatDoorTie
import Derived.Below
import Derived.Carry
set_option linter.unusedVariables false
namespace Go.Proofs.YtckmkaeopnnbbaaGreatDoor.queueEndsL
open Go.ChangeShapes Go.WideShapes Go.ChangeAt Go.RowKit
open Go.Proofs.YtckmkaeopnnbbaaGreatDoor.As

theorem own:ownKnob Tryz.prog.godebug=none:=by kernel_rfl
theorem laidOut:laidOutB Tryz.prog=true:=by kernel_rfl

theorem laid_eq:Rows.queueEndsRow.laid=laid3:=by kernel_rfl
set_option maxRecDepth 100000 in
theorem contract(H:Type)(enc:TypeId×Value→H)(W:World)(base:Nat)(args:Array Value)(ds gs:List (DataW H))(before:List MemPlace)
  (hval:∀ (j:Nat) t v,Tryz.f10.params[j]? = some t→args[j]? = some v→Value.okWide Tryz.prog W .any base t v)
  (hW:DataW.Whole enc Tryz.prog Tryz.f10.params.toList Rows.queueEndsSpec.vars false W args.toList ds gs before) (hL:laidMetH Tryz.prog Rows.queueEndsRow.laid W):
  Calls Tryz.prog 10 args W fun e W'=>∃ v,e=.returned v∧Rows.queueEndsSpec.post enc Tryz.prog Tryz.f10 false true false false W args v W':=by
 have hW':=hW
 obtain⟨p,q,hA0,hV,rfl,hfz,hnd⟩:=hW
 have hA:DataW.TrodAll enc Tryz.prog W 0 (fun _=>true) true Tryz.f10.params.toList args.toList ds p:=hA0
 rw [Tryz.params10] at hA hval
 obtain⟨v0,vs0,d0,ds0,p0,q0,hargs,rfl,rfl,h0,r0⟩:=trodAll_cons hA
 obtain⟨v1,vs1,d1,ds1,p1,q1,rfl,rfl,rfl,h1,r1⟩:=trodAll_cons r0
 obtain⟨v2,vs2,d2,ds2,p2,q2,rfl,rfl,rfl,h2,r2⟩:=trodAll_cons r1
 obtain⟨rfl,rfl,rfl⟩:=trodAll_nil r2
 obtain rfl:args=#[v0,v1,v2]:=by cases args;simp_all
 have k0:=h0
 have lt0:∀ x∈p0,x.block < W.heap.size:=by obtain⟨m,hm⟩:=k0;exact DataW.trod_lt m _ _ _ hm
 obtain⟨x0,x1,x2,x3,rfl,b0,b1,b2,b3⟩:=case_shape (hval 0 23 v0 rfl rfl) h0
 have k1:=h1
 have lt1:∀ x∈p1,x.block < W.heap.size:=by obtain⟨m,hm⟩:=k1;exact DataW.trod_lt m _ _ _ hm
 obtain⟨A,cap,bs,rfl,hl,hs,hb⟩:=bytes_open (hval 1 24 v1 rfl rfl) h1
 obtain⟨a2,rfl,rfl,rfl,w2⟩:=open_int Tryz.underlying5 (hval 2 5 v2 rfl rfl) h2
 have w2':=w2
 simp [Lit.wf] at w2'
 have e3:IntKind.u8.min=0:=by decide
 have e4:IntKind.u8.max=255:=by decide
 obtain⟨rfl,rfl⟩:=trodVars_none hV
 clear hA0
 obtain⟨TI,TO⟩:=tables (laid_eq ▸ hL)
 refine (T.queueEnds_any W TI TO x0 x1 x2 x3 b0 b1 b2 b3 A cap bs hl hs hb a2 (by omega)).mono fun e W' ⟨he,bel⟩=>?_
 subst he
 exact⟨_,rfl,_,_,_,[],_,[],hW',trodAll_mk1 (shut_bool Tryz.underlying4 _),(trodAll_cons_mk (Below.trod laidOut (by kernel_rfl) (of_decide_eq_true (by kernel_rfl)) k0 bel lt0) (trodAll_cons_mk (Below.trod laidOut (by kernel_rfl) (of_decide_eq_true (by kernel_rfl)) k1 bel lt1) (trodAll_cons_mk (shut_int Tryz.underlying5 w2) trodAll_mk0))),rfl,bel.frame _,fun h=>by cases h⟩

noncomputable def laidWorld(os:Os):World:=
 { World.holding Tryz.prog os ⟨#[],#[],[]⟩ with heap:=layG (layG (layG (World.holding Tryz.prog os ⟨#[],#[],[]⟩).heap 0 (opUses.map (Value.int .i64)).toArray) 2 (opNames.map str).toArray) 1 (kindNames.map str).toArray }
theorem laid_met(os:Os):laidMet Tryz.prog Rows.queueEndsRow.laid ((laidWorld os).forCall (fun _ _=>0) ⟨#[],#[.agg #[.int .u8 0,.int .u8 0,.int .u8 0,.int .u8 0],.slice none 0 0,.int .u8 0],[]⟩).memory:=
 laidMet_of_run' 8 (by kernel_rfl) (by kernel_rfl)
theorem reads(os:Os){H:Type}(enc:TypeId×Value→H):∃ places,DataW.whole enc Tryz.prog ((laidWorld os).forCall (fun _ _=>0) ⟨#[],#[.agg #[.int .u8 0,.int .u8 0,.int .u8 0,.int .u8 0],.slice none 0 0,.int .u8 0],[]⟩).memory Tryz.f10.params.toList Rows.queueEndsSpec.vars false #[.agg #[.int .u8 0,.int .u8 0,.int .u8 0,.int .u8 0],.slice none 0 0,.int .u8 0].toList 8=some ([.agg [.lit (.int .u8 0),.lit (.int .u8 0),.lit (.int .u8 0),.lit (.int .u8 0)],.nil,.lit (.int .u8 0)],[],places):=
 ⟨[],by kernel_rfl⟩

set_option maxRecDepth 100000 in
theorem lifted(os:Os)(started:os.Started)(H:Type)(enc:TypeId×Value→H)(F:Stop.Interp):
  ReturnsInHanded {} Tryz.checked os 10 .any ((OpenSpec.ofChange Rows.queueEndsSpec).preRow enc Tryz.prog Tryz.f10 Rows.queueEndsRow.domain false Rows.queueEndsRow.laid) (((OpenSpec.ofChange Rows.queueEndsSpec).at F).post enc Tryz.prog Tryz.f10 false true false false):=by
 obtain⟨places,hx⟩:=reads os enc
 refine returnsInHanded_of_row (C := Tryz.checked) (s:=OpenSpec.ofChange Rows.queueEndsSpec) own started (by kernel_rfl) Tryz.func10
  (witness_row_at (enc:=enc) (C := Tryz.checked) false (laidWorld os) #[.agg #[.int .u8 0,.int .u8 0,.int .u8 0,.int .u8 0],.slice none 0 0,.int .u8 0] rfl (by kernel_rfl) (by kernel_rfl) (by kernel_rfl)
   (OpenSpec.preRow_of_cond 8 hx (by kernel_rfl) (fun k hk=>by cases hk) (by kernel_rfl) (laid_met os))) ?_
 intro W base args ds gs before hval hW _ _ _ hL _ _
 exact contract H enc W base args ds gs before hval hW hL
theorem said:Rows.QueueEndsSaid:=
 OpenClaim.holds_of_cond 10 Tryz.f10 rfl rfl rfl rfl rfl rfl rfl ⟨rfl,rfl,rfl,rfl,rfl⟩ rfl rfl rfl rfl rfl (by kernel_rfl) Tryz.func10 (by kernel_rfl)
  (of_decide_eq_true (by kernel_rfl)) (by unfold Func.isWrapper;first | (rw [if_pos (by decide +kernel)];kernel_rfl) | (rw [if_neg (by decide +kernel)];exact⟨rfl,rfl⟩))
  (fun os started H enc _ F=>by rw [OpenClaim.pre_eq_preRow];exact lifted os started H enc F)
theorem plain(f:FuncId)(fn:Func)(hf : Tryz.pinned.checked.prog.funcNamed "deadlatch/deadlatchlaw16.QueueEnds" = some f)(hfn : Tryz.pinned.checked.prog.funcs[f]? = some fn):
  true = Tryz.pinned.checked.prog.looks []∧∀ (j:Nat) t,fn.params[j]? = some t → Tryz.pinned.checked.prog.wantsStandIn t=false:=by
 obtain rfl:f=10:=Option.some.inj ((show Tryz.prog.funcNamed "deadlatch/deadlatchlaw16.QueueEnds" = some 10 by kernel_rfl).symm.trans hf) |>.symm
 obtain rfl:fn = Tryz.f10:=(Option.some.inj (Tryz.func10.symm.trans hfn)).symm
 refine⟨by kernel_rfl,fun j t ht=>?_⟩
 rw [Tryz.params10] at ht
 have ht2:t=23∨t=24∨t=5:=by simpa using Array.mem_of_getElem? ht
 rcases ht2 with rfl | rfl | rfl
 ·exact (show Tryz.prog.wantsStandIn 23=false by kernel_rfl)
 ·exact (show Tryz.prog.wantsStandIn 24=false by kernel_rfl)
 ·exact (show Tryz.prog.wantsStandIn 5=false by kernel_rfl)

theorem card:Rows.QueueEndsCardSaid:=
 Claim7.holds_tied_plain_at .later [] _ _ _ _ said (fun _ h=>by cases h) (by kernel_rfl) (fun _ h=>by cases h) queueEnds_row_tie rfl ⟨rfl,rfl⟩ (by kernel_rfl) rfl plain (by kernel_rfl)
#print axioms card
end Go.Proofs.YtckmkaeopnnbbaaGreatDoor.queueEndsL
