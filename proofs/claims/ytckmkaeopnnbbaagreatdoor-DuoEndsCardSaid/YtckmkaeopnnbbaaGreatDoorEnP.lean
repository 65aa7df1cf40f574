/- Plain Lean: peterson's lock: both end. No program in sight. -/
import Derived.Test.YtckmkaeopnnbbaaGreatDoorEnX
import Derived.Test.YtckmkaeopnnbbaaGreatDoorTq4
set_option linter.unusedVariables false
set_option linter.unusedSimpArgs false
namespace Go.Proofs.YtckmkaeopnnbbaaGreatDoor.As.Pet

def lev(j:Nat):Nat:=if j≤12 then j else if j≤17 then 12 else min (j - 4) 37
def loop(j:Nat):Bool:=decide (12≤j) && decide (j≤17)
def lvB(j:Nat)(c f:Bool):Nat:=if ((j == 13) && c) || ((j == 17) && f) then 13 else lev j
def locB(j:Nat)(a b d e:Bool):Nat:=if j=12 then (if a then 1 else if b then 0 else 5) else if j=13 then (if a then 6 else if b then 0 else 4) else if j=14 then (if a then 5 else if b then 0 else 3) else if j=15 then (if a then 4 else if d then (if b then 0 else 8) else 2) else if j=16 then (if a then 3 else if e then (if b then 0 else 7) else 1) else if a then 2 else if b then 0 else 6
def coldB(j:Nat)(a b c d e f:Bool):Bool := !a && b && ((j == 12) || ((j == 13) && !c) || (j == 14) || ((j == 15) && d) || ((j == 16) && e) || ((j == 17) && !f))
@[irreducible] def lvP (j:Nat) (th:Th):Nat:=lvB j (decide (th.reg 4=0)) (decide (th.reg 6=0))
@[irreducible] def locP (tw:Nat) (oth:Int) (j:Nat) (th:Th) (mem:List Int):Nat:=locB j (decide (mem.getD tw 0=0)) (decide (mem.getD 18 0=oth)) (decide (th.reg 4=oth)) (decide (th.reg 4=th.reg 6))
@[irreducible] def coldP (tw:Nat) (oth:Int) (j:Nat) (th:Th) (mem:List Int):Bool:=coldB j (decide (mem.getD tw 0=0)) (decide (mem.getD 18 0=oth)) (decide (th.reg 4=0)) (decide (th.reg 4=oth)) (decide (th.reg 4=th.reg 6)) (decide (th.reg 6=0))
def L(A R:Nat):Lad:=⟨2,R,8,fun _=>38,fun _=>38,fun _ j th _=>lvP j th,fun t=>locP (theirA A t) (othA A t),fun t=>coldP (theirA A t) (othA A t),fun _=>1⟩
def J(A R:Nat)(s:Ts):Prop:=(∃ f i,(X A R).Inv s f i)∧0 < s.room
theorem lv_n(j:Nat)(th:Th)(h:j=13→th.reg 4≠0)(h2:j=17→th.reg 6≠0):lvP j th=lev j:=by
 unfold lvP lvB
 rw [if_neg]
 simp only [Bool.or_eq_true,Bool.and_eq_true,beq_iff_eq,decide_eq_true_eq]
 rintro (⟨a,b⟩ | ⟨a,b⟩)
 ·exact h a b
 ·exact h2 a b
theorem lv13(th:Th)(h:th.reg 4=0):lvP 13 th=13:=by unfold lvP;rw [decide_eq_true h];rfl
theorem lv17(th:Th)(h:th.reg 6=0):lvP 17 th=13:=by unfold lvP;rw [decide_eq_true h];rfl
theorem hl:∀ (j:Nat) (th:Th) (m:List Int),lev j≤lvP j th∧lvP j th < 38:=fun j th _=>by
 by_cases c1:j=13∧th.reg 4=0
 ·obtain⟨rfl,c⟩:=c1;rw [lv13 th c];decide
 by_cases c2:j=17∧th.reg 6=0
 ·obtain⟨rfl,c⟩:=c2;rw [lv17 th c];decide
 rw [lv_n j th (fun a b=>c1 ⟨a,b⟩) (fun a b=>c2 ⟨a,b⟩)]
 refine⟨Nat.le_refl _,?_⟩
 unfold lev
 (repeat' split)<;>omega
theorem hflat:∀ (j:Nat) (th:Th) (m:List Int),loop j=false→lvP j th=lev j:=fun j th _ h=>lv_n j th (fun e=>by subst e;cases h) (fun e=>by subst e;cases h)
theorem hst(me:Int)(own their:Nat)(oth:Int):chkL 38 lev loop (base me own their oth)=true:=rfl
theorem hkeep(me:Int)(own their:Nat)(oth:Int):keepL 38 loop (base me own their oth)=true:=rfl
section
variable{tw:Nat}{oth:Int}{th th':Th}{mem:List Int}
theorem w12(ha:mem.getD tw 0≠0)(h:th'.reg 4≠0):locP tw oth 13 th' mem < locP tw oth 12 th mem∨(coldP tw oth 12 th mem=true∧coldP tw oth 13 th' mem=true∧locP tw oth 13 th' mem≤locP tw oth 12 th mem):=by
 unfold locP coldP
 rw [decide_eq_false ha,decide_eq_false h]
 generalize decide (mem.getD 18 0=oth)=x0
 generalize decide (th.reg 4=0)=x1
 generalize decide (th.reg 4=oth)=x2
 generalize decide (th.reg 4=th.reg 6)=x3
 generalize decide (th.reg 6=0)=x4
 generalize decide (th'.reg 4=oth)=x5
 generalize decide (th'.reg 4=th'.reg 6)=x6
 generalize decide (th'.reg 6=0)=x7
 revert x0 x1 x2 x3 x4 x5 x6 x7
 decide
theorem w13(h:th.reg 4≠0):locP tw oth 14 th' mem < locP tw oth 13 th mem∨(coldP tw oth 13 th mem=true∧coldP tw oth 14 th' mem=true∧locP tw oth 14 th' mem≤locP tw oth 13 th mem):=by
 unfold locP coldP
 rw [decide_eq_false h]
 generalize decide (mem.getD tw 0=0)=x0
 generalize decide (mem.getD 18 0=oth)=x1
 generalize decide (th.reg 4=oth)=x2
 generalize decide (th.reg 4=th.reg 6)=x3
 generalize decide (th.reg 6=0)=x4
 generalize decide (th'.reg 4=0)=x5
 generalize decide (th'.reg 4=oth)=x6
 generalize decide (th'.reg 4=th'.reg 6)=x7
 generalize decide (th'.reg 6=0)=x8
 revert x0 x1 x2 x3 x4 x5 x6 x7 x8
 decide
theorem w14(h:th'.reg 4=mem.getD 18 0):locP tw oth 15 th' mem < locP tw oth 14 th mem∨(coldP tw oth 14 th mem=true∧coldP tw oth 15 th' mem=true∧locP tw oth 15 th' mem≤locP tw oth 14 th mem):=by
 unfold locP coldP
 rw [show decide (th'.reg 4=oth)=decide (mem.getD 18 0=oth) by rw [h]]
 generalize decide (mem.getD tw 0=0)=x0
 generalize decide (mem.getD 18 0=oth)=x1
 generalize decide (th.reg 4=0)=x2
 generalize decide (th.reg 4=oth)=x3
 generalize decide (th.reg 4=th.reg 6)=x4
 generalize decide (th.reg 6=0)=x5
 generalize decide (th'.reg 4=0)=x6
 generalize decide (th'.reg 4=th'.reg 6)=x7
 generalize decide (th'.reg 6=0)=x8
 revert x0 x1 x2 x3 x4 x5 x6 x7 x8
 decide
theorem w15(h:th'.reg 4=th.reg 4)(h6:th'.reg 6=oth):locP tw oth 16 th' mem < locP tw oth 15 th mem∨(coldP tw oth 15 th mem=true∧coldP tw oth 16 th' mem=true∧locP tw oth 16 th' mem≤locP tw oth 15 th mem):=by
 unfold locP coldP
 rw [show decide (th'.reg 4=th'.reg 6)=decide (th.reg 4=oth) by rw [h,h6]]
 generalize decide (mem.getD tw 0=0)=x0
 generalize decide (mem.getD 18 0=oth)=x1
 generalize decide (th.reg 4=0)=x2
 generalize decide (th.reg 4=oth)=x3
 generalize decide (th.reg 4=th.reg 6)=x4
 generalize decide (th.reg 6=0)=x5
 generalize decide (th'.reg 4=0)=x6
 generalize decide (th'.reg 4=oth)=x7
 generalize decide (th'.reg 6=0)=x8
 revert x0 x1 x2 x3 x4 x5 x6 x7 x8
 decide
theorem w16(h:th.reg 4=th.reg 6)(h6:th'.reg 6≠0):locP tw oth 17 th' mem < locP tw oth 16 th mem∨(coldP tw oth 16 th mem=true∧coldP tw oth 17 th' mem=true∧locP tw oth 17 th' mem≤locP tw oth 16 th mem):=by
 unfold locP coldP
 rw [decide_eq_true h,decide_eq_false h6]
 generalize decide (mem.getD tw 0=0)=x0
 generalize decide (mem.getD 18 0=oth)=x1
 generalize decide (th.reg 4=0)=x2
 generalize decide (th.reg 4=oth)=x3
 generalize decide (th.reg 6=0)=x4
 generalize decide (th'.reg 4=0)=x5
 generalize decide (th'.reg 4=oth)=x6
 generalize decide (th'.reg 4=th'.reg 6)=x7
 revert x0 x1 x2 x3 x4 x5 x6 x7
 decide
theorem w17(h6:th.reg 6≠0):locP tw oth 12 th' mem < locP tw oth 17 th mem∨(coldP tw oth 17 th mem=true∧coldP tw oth 12 th' mem=true∧locP tw oth 12 th' mem≤locP tw oth 17 th mem):=by
 unfold locP coldP
 rw [decide_eq_false h6]
 generalize decide (mem.getD tw 0=0)=x0
 generalize decide (mem.getD 18 0=oth)=x1
 generalize decide (th.reg 4=0)=x2
 generalize decide (th.reg 4=oth)=x3
 generalize decide (th.reg 4=th.reg 6)=x4
 generalize decide (th'.reg 4=0)=x5
 generalize decide (th'.reg 4=oth)=x6
 generalize decide (th'.reg 4=th'.reg 6)=x7
 generalize decide (th'.reg 6=0)=x8
 revert x0 x1 x2 x3 x4 x5 x6 x7 x8
 decide
theorem cold_iff{j:Nat}(h:coldP tw oth j th mem=true):mem.getD tw 0≠0∧mem.getD 18 0=oth∧12≤j∧j≤17:=by
 unfold coldP coldB at h
 simp only [Bool.and_eq_true,Bool.not_eq_true',decide_eq_false_iff_not,Bool.or_eq_true,beq_iff_eq,decide_eq_true_eq] at h
 exact⟨h.1.1,h.1.2,by omega,by omega⟩
theorem loc_le(j:Nat):locP tw oth j th mem≤8:=by
 unfold locP locB
 (repeat' split)<;>omega
end
section
variable{A R t:Nat}{codes:List (List Ins)}{s s':Ts}
theorem flush_lt(ht:t < 2)(hb:t < s.bufs.length)(hq:s.buf t≠[]):(L A R).big (s.flush t) < (L A R).big s:=Lad.flush_lt (X:=L A R) Nat.one_pos ht hb hq (fun _ _=>Nat.le_refl _)
theorem stand{f:Nat→Loc}{i:Int}(h:(X A R).Inv s f i)(ht:t < 2)(hc:codes[t]? = some (codeT A R t)):Stand codes 38 R (base ((t+1:Nat):Int) (ownA A t) (theirA A t) (othA A t)) s t (Loc.th 38 (f t)) (f t).p (f t).j:=
 ⟨h.hs t ht,rfl,h.fr t ht,_,hc,code_len A R t,fun p j hp hj=>code_get A R t p j hp hj⟩
theorem out(hJ:J A R s)(ht:t < 2)(hR:R≤100)(hc:codes[t]? = some (codeT A R t))(hgo:s.stepT codes t=some s'):(L A R).Out t s s':=by
 obtain⟨⟨f,i,h⟩,hr⟩:=hJ
 have S:=stand h ht hc
 have hnm:s.mem.length=20:=h.nm
 have hths:s.ths.length=2:=h.nths
 have htw:theirA A t < s.mem.length:=by rw [hnm];unfold theirA;split<;>decide
 have W:=S.way (s':=s') (by rw [h.nb];exact ht) hr (chk_op (hst _ _ _ _)) hgo
 generalize f t=x at S W
 obtain⟨p,j,r0,r1,r2,r3,r4,r5,r6,r7,st⟩:=x
 refine Lad.out_of2 (X:=L A R) (Lb:=38) (lev:=lev) (loop:=loop) (B:=base ((t+1:Nat):Int) (ownA A t) (theirA A t) (othA A t)) rfl rfl rfl S W h.nths h.nb ht (by show R*38≤1000000;omega) (by decide) Nat.one_pos (flush_lt ht (by rw [h.nb];exact ht)) hl hflat (hkeep _ _ _ _) (chk_st (hst _ _ _ _)) ?_
 intro i2 th' hlp hp hj h0 hi hA hd hr2 Tn
 have hs:=S.hs
 have h0:st=0:=h0
 subst h0
 have c:j=12∨j=13∨j=14∨j=15∨j=16∨j=17:=by
  unfold loop at hlp
  simp only [Bool.and_eq_true,decide_eq_true_eq] at hlp
  omega
 rcases c with rfl | rfl | rfl | rfl | rfl | rfl
 ·obtain rfl:(⟨16,4,8,0,(theirA A t:Int)⟩:Ins)=i2:=Option.some.inj hi
  rw [movI_plain rfl] at hA
  have e:=st_load hA (ad:=theirA A t) (addr_abs _ _ _ _ _) (htw)
  rw [hgo] at e
  have e:=Option.some.inj e
  by_cases hz:s.load t (theirA A t)=0
  ·have hth:=Tn.th_eq hs (th2:=(⟨((p*38+12:Nat):Int)+1,[r0,r1,r2,r3,s.load t (theirA A t),r5,r6,r7],0⟩:Th)) (by rw [e];rfl)
   exact Lad.out_lt2 (X:=L A R) (Lb:=38) rfl rfl rfl Nat.one_pos hl ht hths Tn (by rw [e];rfl) hs rfl rfl hj hp (j:=12) (k:=13) (by rw [hth];exact (by show ((p*38+12:Nat):Int)+1=((p*38+13:Nat):Int);omega)) (by decide) (by rw [hth];have a:=(lv_n 12 (Loc.th 38 ⟨p,12,r0,r1,r2,r3,r4,r5,r6,r7,0⟩) (fun e=>by cases e) (fun e=>by cases e));have b:=lv13 (⟨((p*38+12:Nat):Int)+1,[r0,r1,r2,r3,s.load t (theirA A t),r5,r6,r7],0⟩:Th) hz;show lvP 12 _ < lvP 13 _;rw [a,b];decide)
  ·refine Lad.out_keep2 (X:=L A R) (Lb:=38) (k:=13) (j:=12) (th':=(⟨((p*38+12:Nat):Int)+1,[r0,r1,r2,r3,s.load t (theirA A t),r5,r6,r7],0⟩:Th)) rfl rfl rfl rfl (by rw [e];rfl) (by rw [e];rfl) (by rw [e];rfl) hs rfl rfl hj hp rfl (by show ((p*38+12:Nat):Int)+1=((p*38+13:Nat):Int);omega) (by decide) ((lv_n 13 (⟨((p*38+12:Nat):Int)+1,[r0,r1,r2,r3,s.load t (theirA A t),r5,r6,r7],0⟩:Th) (fun _=>hz) (fun e=>by cases e)).trans ((rfl:lev 13=lev 12).trans (lv_n 12 (Loc.th 38 ⟨p,12,r0,r1,r2,r3,r4,r5,r6,r7,0⟩) (fun e=>by cases e) (fun e=>by cases e)).symm)) fun hq0=>?_
   exact w12 (fun e=>hz ((load_nil hq0 _).trans e)) hz
 ·obtain rfl:(⟨14,4,0,0,18⟩:Ins)=i2:=Option.some.inj hi
  rw [movI_jump rfl] at hA
  have e:=st_zero hA
  rw [hgo] at e
  have e:=Option.some.inj e
  have hreg4:(Loc.th 38 ⟨p,13,r0,r1,r2,r3,r4,r5,r6,r7,0⟩).reg 4=r4:=rfl
  rw [hreg4] at e
  by_cases hz:r4=0
  ·rw [if_pos hz] at e
   have hth:=Tn.th_eq hs (th2:=(⟨wr32 ((18:Int)+((p*38:Nat):Int)),[r0,r1,r2,r3,r4,r5,r6,r7],0⟩:Th)) (by rw [e];rfl)
   exact Lad.out_lt2 (X:=L A R) (Lb:=38) rfl rfl rfl Nat.one_pos hl ht hths Tn (by rw [e];rfl) hs rfl rfl hj hp (j:=13) (k:=18) (by rw [hth];exact (by show wr32 ((18:Int)+((p*38:Nat):Int))=((p*38+18:Nat):Int);have:p < R:=hp;unfold wr32;omega)) (by decide) (by rw [hth];have a:=lv13 (Loc.th 38 ⟨p,13,r0,r1,r2,r3,r4,r5,r6,r7,0⟩) hz;have b:=(lv_n 18 (⟨wr32 ((18:Int)+((p*38:Nat):Int)),[r0,r1,r2,r3,r4,r5,r6,r7],0⟩:Th) (fun e=>by cases e) (fun e=>by cases e));show lvP 13 _ < lvP 18 _;rw [a,b];decide)
  ·rw [if_neg hz] at e
   refine Lad.out_keep2 (X:=L A R) (Lb:=38) (k:=14) (j:=13) (th':=(⟨((p*38+13:Nat):Int)+1,[r0,r1,r2,r3,r4,r5,r6,r7],0⟩:Th)) rfl rfl rfl rfl (by rw [e];rfl) (by rw [e];rfl) (by rw [e];rfl) hs rfl rfl hj hp rfl (by show ((p*38+13:Nat):Int)+1=((p*38+14:Nat):Int);omega) (by decide) ((lv_n 14 (⟨((p*38+13:Nat):Int)+1,[r0,r1,r2,r3,r4,r5,r6,r7],0⟩:Th) (fun e=>by cases e) (fun e=>by cases e)).trans ((rfl:lev 14=lev 13).trans (lv_n 13 (Loc.th 38 ⟨p,13,r0,r1,r2,r3,r4,r5,r6,r7,0⟩) (fun _=>hz) (fun e=>by cases e)).symm)) fun _=>?_
   exact w13 hz
 ·obtain rfl:(⟨16,4,8,0,18⟩:Ins)=i2:=Option.some.inj hi
  rw [movI_plain rfl] at hA
  have e:=st_load hA (ad:=18) (addr_abs _ _ _ _ _) (by omega)
  rw [hgo] at e
  have e:=Option.some.inj e
  refine Lad.out_keep2 (X:=L A R) (Lb:=38) (k:=15) (j:=14) (th':=(⟨((p*38+14:Nat):Int)+1,[r0,r1,r2,r3,s.load t 18,r5,r6,r7],0⟩:Th)) rfl rfl rfl rfl (by rw [e];rfl) (by rw [e];rfl) (by rw [e];rfl) hs rfl rfl hj hp rfl (by show ((p*38+14:Nat):Int)+1=((p*38+15:Nat):Int);omega) (by decide) ((lv_n 15 (⟨((p*38+14:Nat):Int)+1,[r0,r1,r2,r3,s.load t 18,r5,r6,r7],0⟩:Th) (fun e=>by cases e) (fun e=>by cases e)).trans ((rfl:lev 15=lev 14).trans (lv_n 14 (Loc.th 38 ⟨p,14,r0,r1,r2,r3,r4,r5,r6,r7,0⟩) (fun e=>by cases e) (fun e=>by cases e)).symm)) fun hq0=>?_
  exact w14 (load_nil hq0 18)
 ·obtain rfl:(⟨1,6,0,0,othA A t⟩:Ins)=i2:=Option.some.inj hi
  rw [movI_plain rfl] at hA
  have e:=st_set hA
  rw [hgo] at e
  have e:=Option.some.inj e
  refine Lad.out_keep2 (X:=L A R) (Lb:=38) (k:=16) (j:=15) (th':=(⟨((p*38+15:Nat):Int)+1,[r0,r1,r2,r3,r4,r5,othA A t,r7],0⟩:Th)) rfl rfl rfl rfl (by rw [e];rfl) (by rw [e];rfl) (by rw [e];rfl) hs rfl rfl hj hp rfl (by show ((p*38+15:Nat):Int)+1=((p*38+16:Nat):Int);omega) (by decide) ((lv_n 16 (⟨((p*38+15:Nat):Int)+1,[r0,r1,r2,r3,r4,r5,othA A t,r7],0⟩:Th) (fun e=>by cases e) (fun e=>by cases e)).trans ((rfl:lev 16=lev 15).trans (lv_n 15 (Loc.th 38 ⟨p,15,r0,r1,r2,r3,r4,r5,r6,r7,0⟩) (fun e=>by cases e) (fun e=>by cases e)).symm)) fun _=>?_
  exact w15 rfl rfl
 ·obtain rfl:(⟨12,6,4,6,0⟩:Ins)=i2:=Option.some.inj hi
  rw [movI_plain rfl] at hA
  have e:=st_same hA
  rw [hgo] at e
  have e:=Option.some.inj e
  have hreg4:(Loc.th 38 ⟨p,16,r0,r1,r2,r3,r4,r5,r6,r7,0⟩).reg 4=r4:=rfl
  have hreg6:(Loc.th 38 ⟨p,16,r0,r1,r2,r3,r4,r5,r6,r7,0⟩).reg 6=r6:=rfl
  rw [hreg4,hreg6] at e
  by_cases hz:r4=r6
  ·have h1:(if r4=r6 then (1:Int) else 0)≠0:=by rw [if_pos hz];decide
   refine Lad.out_keep2 (X:=L A R) (Lb:=38) (k:=17) (j:=16) (th':=(⟨((p*38+16:Nat):Int)+1,[r0,r1,r2,r3,r4,r5,(if r4=r6 then (1:Int) else 0),r7],0⟩:Th)) rfl rfl rfl rfl (by rw [e];rfl) (by rw [e];rfl) (by rw [e];rfl) hs rfl rfl hj hp rfl (by show ((p*38+16:Nat):Int)+1=((p*38+17:Nat):Int);omega) (by decide) ((lv_n 17 (⟨((p*38+16:Nat):Int)+1,[r0,r1,r2,r3,r4,r5,(if r4=r6 then (1:Int) else 0),r7],0⟩:Th) (fun e=>by cases e) (fun _=>h1)).trans ((rfl:lev 17=lev 16).trans (lv_n 16 (Loc.th 38 ⟨p,16,r0,r1,r2,r3,r4,r5,r6,r7,0⟩) (fun e=>by cases e) (fun e=>by cases e)).symm)) fun _=>?_
   exact w16 hz h1
  ·have h1:(if r4=r6 then (1:Int) else 0)=0:=by rw [if_neg hz]
   have hth:=Tn.th_eq hs (th2:=(⟨((p*38+16:Nat):Int)+1,[r0,r1,r2,r3,r4,r5,(if r4=r6 then (1:Int) else 0),r7],0⟩:Th)) (by rw [e];rfl)
   exact Lad.out_lt2 (X:=L A R) (Lb:=38) rfl rfl rfl Nat.one_pos hl ht hths Tn (by rw [e];rfl) hs rfl rfl hj hp (j:=16) (k:=17) (by rw [hth];exact (by show ((p*38+16:Nat):Int)+1=((p*38+17:Nat):Int);omega)) (by decide) (by rw [hth];have a:=(lv_n 16 (Loc.th 38 ⟨p,16,r0,r1,r2,r3,r4,r5,r6,r7,0⟩) (fun e=>by cases e) (fun e=>by cases e));have b:=lv17 (⟨((p*38+16:Nat):Int)+1,[r0,r1,r2,r3,r4,r5,(if r4=r6 then (1:Int) else 0),r7],0⟩:Th) h1;show lvP 16 _ < lvP 17 _;rw [a,b];decide)
 ·obtain rfl:(⟨15,6,0,0,12⟩:Ins)=i2:=Option.some.inj hi
  rw [movI_jump rfl] at hA
  have e:=st_some hA
  rw [hgo] at e
  have e:=Option.some.inj e
  have hreg6:(Loc.th 38 ⟨p,17,r0,r1,r2,r3,r4,r5,r6,r7,0⟩).reg 6=r6:=rfl
  rw [hreg6] at e
  by_cases hz:r6=0
  ·rw [if_neg (by intro c;exact c hz)] at e
   have hth:=Tn.th_eq hs (th2:=(⟨((p*38+17:Nat):Int)+1,[r0,r1,r2,r3,r4,r5,r6,r7],0⟩:Th)) (by rw [e];rfl)
   exact Lad.out_lt2 (X:=L A R) (Lb:=38) rfl rfl rfl Nat.one_pos hl ht hths Tn (by rw [e];rfl) hs rfl rfl hj hp (j:=17) (k:=18) (by rw [hth];exact (by show ((p*38+17:Nat):Int)+1=((p*38+18:Nat):Int);omega)) (by decide) (by rw [hth];have a:=lv17 (Loc.th 38 ⟨p,17,r0,r1,r2,r3,r4,r5,r6,r7,0⟩) hz;have b:=(lv_n 18 (⟨((p*38+17:Nat):Int)+1,[r0,r1,r2,r3,r4,r5,r6,r7],0⟩:Th) (fun e=>by cases e) (fun e=>by cases e));show lvP 17 _ < lvP 18 _;rw [a,b];decide)
  ·rw [if_pos hz] at e
   refine Lad.out_keep2 (X:=L A R) (Lb:=38) (k:=12) (j:=17) (th':=(⟨wr32 ((12:Int)+((p*38:Nat):Int)),[r0,r1,r2,r3,r4,r5,r6,r7],0⟩:Th)) rfl rfl rfl rfl (by rw [e];rfl) (by rw [e];rfl) (by rw [e];rfl) hs rfl rfl hj hp rfl (by show wr32 ((12:Int)+((p*38:Nat):Int))=((p*38+12:Nat):Int);have:p < R:=hp;unfold wr32;omega) (by decide) ((lv_n 12 (⟨wr32 ((12:Int)+((p*38:Nat):Int)),[r0,r1,r2,r3,r4,r5,r6,r7],0⟩:Th) (fun e=>by cases e) (fun e=>by cases e)).trans ((rfl:lev 12=lev 17).trans (lv_n 17 (Loc.th 38 ⟨p,17,r0,r1,r2,r3,r4,r5,r6,r7,0⟩) (fun e=>by cases e) (fun _=>hz)).symm)) fun _=>?_
   exact w17 hz
theorem room_keep{f:Nat→Loc}{i:Int}(h:(X A R).Inv s f i)(hr:0 < s.room)(hc:∀ t,t < 2→codes[t]? = some (codeT A R t)){q:Nat×Nat}(hp:s.pick codes q=some s'):s'.room=s.room:=by
 have e2:s.ths.length=2:=h.nths
 rcases pick_cases hp h.slp with e | ⟨ht,e⟩ | ⟨ht,e⟩
 ·rw [e]
 ·have ht:q.2 < 2:=by omega
  exact ((stand h ht (hc _ ht)).way (s':=s') (by rw [h.nb];exact ht) hr (chk_op (hst _ _ _ _)) e).room (by rw [h.nb];exact ht)
 ·have ht:q.2 < 2:=by omega
  rw [e];exact (s.flush_same q.2 (by rw [h.nb];exact ht)).room
theorem low0{me oth fo ow c:Int}{own g:Nat}{r1 r2 r4 r5 r6 r7:Int}(h:At me own oth fo ow c g 0 r1 r2 r4 r5 r6 r7 []):fo=0:=by
 cases h<;>assumption
theorem fit(hA:A < 2)(hR0:0 < R)(hR:R≤100)(hc:∀ t,t < 2→codes[t]? = some (codeT A R t)):(L A R).Fit codes (J A R) where
 len:=fun s ⟨⟨f,i,h⟩,_⟩=>⟨h.nths,h.nb,h.slp⟩
 go:=fun s p ⟨⟨f,i,h⟩,hr⟩=>by
  obtain⟨s',h1,f',i',h2⟩:=run hA hR hc [p] h
  have hp:=run_one h1
  exact⟨s',hp,⟨f',i',h2⟩,by rw [room_keep h hr hc hp];exact hr⟩
 step:=fun s t s' hJ ht hgo=>out hJ ht hR (hc t ht) hgo
 flush:=fun s t ⟨⟨f,i,h⟩,_⟩ ht hq=>flush_lt ht (by rw [h.nb];exact ht) hq
 lo:=fun t th mem q=>by
  unfold Lad.lo
  split
  ·exact Nat.zero_le _
  ·exact loc_le _
 gone:=fun s ⟨⟨f,i,h⟩,hr⟩ hall t ht=>by
  obtain⟨g,hW⟩:=h.I
  have hth:∀ u,u < 2→s.th u=Loc.th 38 (f u):=fun u hu=>by unfold Ts.th;rw [h.hs u hu];rfl
  have hf:∀ u,u < 2→(f u).st=0∧(f u).p < R∧(f u).j < 38∨(f u).p=R∧(f u).j=0∧((f u).st=0∨(f u).st=2):=fun u hu=>h.fr u hu
  have key:∀ u,u < 2→(f u).st=0→(f u).p < R∧(f u).j < 38→s.mem.getD (theirA A u) 0≠0∧s.mem.getD 18 0=othA A u∧12≤(f u).j∧(f u).j≤17:=fun u hu h0 ⟨hp,hj⟩=>by
   have:=(hall u hu).2
   rw [(hall u hu).1,hth u hu] at this
   exact cold_iff ((Lad.stuck_at2 (X:=L A R) rfl rfl h0 rfl hj hp _).1 this)
  intro hst
  have hu:1 - t < 2:=by omega
  have hne:t≠1 - t:=by omega
  obtain⟨e1,e2,_⟩:=own_other hA ht hu hne
  rw [hth t ht] at hst
  rcases hf t ht with⟨k0,kp,kj⟩ | ⟨kp,kj,_⟩
  ·obtain⟨m1,m2,_⟩:=key t ht k0 ⟨kp,kj⟩
   rcases hf (1 - t) hu with⟨l0,lp,lj⟩ | ⟨_,lj,_⟩
   ·obtain⟨_,m3,_⟩:=key (1 - t) hu l0 ⟨lp,lj⟩
    rw [m2,e2] at m3
    omega
   ·have hI:=hW.hat (1 - t) hu
    rw [(hall (1 - t) hu).1,lj,e1] at hI
    exact m1 (low0 hI)
  ·have hs:=(hall t ht).2
   rw [(hall t ht).1,hth t ht] at hs
   exact Lad.stuck_end2 (X:=L A R) (Lb:=38) rfl hs (by show (((f t).p*38+(f t).j:Nat):Int)=((R*38:Nat):Int);rw [kp,kj];rfl) (by decide) hst
end
end Go.Proofs.YtckmkaeopnnbbaaGreatDoor.As.Pet
