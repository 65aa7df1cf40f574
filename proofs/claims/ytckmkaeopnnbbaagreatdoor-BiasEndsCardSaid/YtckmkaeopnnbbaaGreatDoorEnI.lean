/- Plain Lean: the biased lock: all end. No program in sight. -/
import Derived.Test.YtckmkaeopnnbbaaGreatDoorGq
import Derived.Test.YtckmkaeopnnbbaaGreatDoorTq9
set_option linter.unusedVariables false
set_option linter.unusedSimpArgs false
namespace Go.Proofs.YtckmkaeopnnbbaaGreatDoor.As.Bia
open Wd

def levB(j:Nat):Nat:=if j≤13 then j else if j≤15 then 13 else min (j - 1) 41
def levO(j:Nat):Nat:=if j≤7 then j else if j≤9 then 7 else if j≤15 then j - 1 else if j=16 then 14 else min (j - 2) 36
def loopB(j:Nat):Bool:=decide (13≤j) && decide (j≤15)
def loopO(j:Nat):Bool:=(decide (7≤j) && decide (j≤9)) || (decide (15≤j) && decide (j≤16))
@[irreducible] def lvB (j:Nat) (th:Th):Nat:=if j=15∧th.reg 4=0 then 14 else levB j
@[irreducible] def lvO (j:Nat) (th:Th):Nat:=if j=9∧th.reg 4=0 then 8 else levO j
@[irreducible] def locB (j:Nat) (th:Th) (mem:List Int):Nat:=if mem.getD 18 0=0 then (if j=15 then 3 else if j=13 then 2 else if j=14 then 1 else 0) else 0
@[irreducible] def locO (j:Nat) (th:Th) (mem:List Int):Nat:=if j=7∨j=8∨j=9 then (if mem.getD 18 0=0 then (if j=9 then 3 else if j=7 then 2 else 1) else 0) else if j=15∨j=16 then (if mem.getD 16 0=0 then (if j=15 then 2 else if th.reg 4=0 then 1 else 3) else 0) else 0
@[irreducible] def coldB (j:Nat) (th:Th) (mem:List Int):Bool:=decide (mem.getD 18 0≠0∧(j=13∨j=14∨(j=15∧th.reg 4≠0)))
@[irreducible] def coldO (j:Nat) (th:Th) (mem:List Int):Bool:=decide ((mem.getD 18 0≠0∧(j=7∨j=8∨(j=9∧th.reg 4≠0)))∨(mem.getD 16 0≠0∧(j=15∨(j=16∧th.reg 4≠0))))
def L(A T R:Nat):Lad:=⟨T,R,3,fun t=>if t=A then 42 else 37,fun t=>if t=A then 42 else 37,fun t=>if t=A then lvB else lvO,fun t=>if t=A then locB else locO,fun t=>if t=A then coldB else coldO⟩
def J(A T R:Nat)(s:Ts):Prop:=(∃ f i,(X A T R).Inv s f i)∧0 < s.room∧(s.mem.getD 18 0=0∨∃ u,u < T∧s.mem.getD 18 0=meN u)
theorem coldB_iff{j:Nat}{th:Th}{mem:List Int}:coldB j th mem=true↔mem.getD 18 0≠0∧(j=13∨j=14∨(j=15∧th.reg 4≠0)):=by unfold coldB;exact decide_eq_true_iff
theorem coldO_iff{j:Nat}{th:Th}{mem:List Int}:coldO j th mem=true↔(mem.getD 18 0≠0∧(j=7∨j=8∨(j=9∧th.reg 4≠0)))∨(mem.getD 16 0≠0∧(j=15∨(j=16∧th.reg 4≠0))):=by unfold coldO;exact decide_eq_true_iff
theorem lvB_n(j:Nat)(th:Th)(h:j=15→th.reg 4≠0):lvB j th=levB j:=by unfold lvB;rw [if_neg (fun c=>h c.1 c.2)]
theorem lvB_z(th:Th)(h:th.reg 4=0):lvB 15 th=14:=by unfold lvB;rw [if_pos ⟨rfl,h⟩]
theorem lvO_n(j:Nat)(th:Th)(h:j=9→th.reg 4≠0):lvO j th=levO j:=by unfold lvO;rw [if_neg (fun c=>h c.1 c.2)]
theorem lvO_z(th:Th)(h:th.reg 4=0):lvO 9 th=8:=by unfold lvO;rw [if_pos ⟨rfl,h⟩]
section
variable{th:Th}{mem:List Int}
theorem locB_z{j:Nat}(h:mem.getD 18 0≠0):locB j th mem=0:=by unfold locB;rw [if_neg h]
theorem locB13(h:mem.getD 18 0=0):locB 13 th mem=2:=by unfold locB;rw [if_pos h];rfl
theorem locB14(h:mem.getD 18 0=0):locB 14 th mem=1:=by unfold locB;rw [if_pos h];rfl
theorem locB15(h:mem.getD 18 0=0):locB 15 th mem=3:=by unfold locB;rw [if_pos h];rfl
theorem locO7(h:mem.getD 18 0=0):locO 7 th mem=2:=by unfold locO;rw [if_pos (.inl rfl),if_pos h];rfl
theorem locO8(h:mem.getD 18 0=0):locO 8 th mem=1:=by unfold locO;rw [if_pos (.inr (.inl rfl)),if_pos h];rfl
theorem locO9(h:mem.getD 18 0=0):locO 9 th mem=3:=by unfold locO;rw [if_pos (.inr (.inr rfl)),if_pos h];rfl
theorem locO7z(h:mem.getD 18 0≠0):locO 7 th mem=0:=by unfold locO;rw [if_pos (.inl rfl),if_neg h]
theorem locO8z(h:mem.getD 18 0≠0):locO 8 th mem=0:=by unfold locO;rw [if_pos (.inr (.inl rfl)),if_neg h]
theorem locO9z(h:mem.getD 18 0≠0):locO 9 th mem=0:=by unfold locO;rw [if_pos (.inr (.inr rfl)),if_neg h]
theorem locO15(h:mem.getD 16 0=0):locO 15 th mem=2:=by unfold locO;rw [if_neg (by decide),if_pos (.inl rfl),if_pos h];rfl
theorem locO15z(h:mem.getD 16 0≠0):locO 15 th mem=0:=by unfold locO;rw [if_neg (by decide),if_pos (.inl rfl),if_neg h]
theorem locO16a(h:mem.getD 16 0=0)(h4:th.reg 4=0):locO 16 th mem=1:=by unfold locO;rw [if_neg (by decide),if_pos (.inr rfl),if_pos h,if_neg (by decide),if_pos h4]
theorem locO16b(h:mem.getD 16 0=0)(h4:th.reg 4≠0):locO 16 th mem=3:=by unfold locO;rw [if_neg (by decide),if_pos (.inr rfl),if_pos h,if_neg (by decide),if_neg h4]
theorem locO16z(h:mem.getD 16 0≠0):locO 16 th mem=0:=by unfold locO;rw [if_neg (by decide),if_pos (.inr rfl),if_neg h]
end
theorem hlB:∀ j th,levB j≤lvB j th∧lvB j th < 42:=fun j th=>by
 unfold lvB
 by_cases c:j=15∧th.reg 4=0
 ·rw [if_pos c,c.1];decide
 ·rw [if_neg c]
  refine⟨Nat.le_refl _,?_⟩
  unfold levB
  (repeat' split)<;>omega
theorem hlO:∀ j th,levO j≤lvO j th∧lvO j th < 37:=fun j th=>by
 unfold lvO
 by_cases c:j=9∧th.reg 4=0
 ·rw [if_pos c,c.1];decide
 ·rw [if_neg c]
  refine⟨Nat.le_refl _,?_⟩
  unfold levO
  (repeat' split)<;>omega
theorem hflatB:∀ j th,loopB j=false→lvB j th=levB j:=fun j th h=>lvB_n j th (fun e=>by subst e;cases h)
theorem hflatO:∀ j th,loopO j=false→lvO j th=levO j:=fun j th h=>lvO_n j th (fun e=>by subst e;cases h)
theorem hstB(me:Int):chkL 42 levB loopB (baseB me)=true:=rfl
theorem hstO(me:Int):chkL 37 levO loopO (baseO me)=true:=rfl
theorem hkeepB(me:Int):keepL 42 (fun j=>j == 14) (baseB me)=true:=rfl
theorem hkeepO(me:Int):keepL 37 (fun j=>j == 8 || j == 14) (baseO me)=true:=rfl
section
variable{A T R t:Nat}{codes:List (List Ins)}{s s':Ts}
theorem eLB(h:t=A):(L A T R).Lb t=42:=if_pos h
theorem eMB(h:t=A):(L A T R).Lm t=42:=if_pos h
theorem eVB(h:t=A):(L A T R).lv t=lvB:=if_pos h
theorem eOB(h:t=A):(L A T R).loc t=locB:=if_pos h
theorem eDB(h:t=A):(L A T R).cold t=coldB:=if_pos h
theorem eLO(h:t≠A):(L A T R).Lb t=37:=if_neg h
theorem eMO(h:t≠A):(L A T R).Lm t=37:=if_neg h
theorem eVO(h:t≠A):(L A T R).lv t=lvO:=if_neg h
theorem eOO(h:t≠A):(L A T R).loc t=locO:=if_neg h
theorem eDO(h:t≠A):(L A T R).cold t=coldO:=if_neg h
theorem standB{f:Nat→Loc}{i:Int}(h:(X A T R).Inv s f i)(ht:A < T)(hc:codes[A]? = some (codeB R A)):Stand codes 42 R (baseB ((A+1:Nat):Int)) s A (Loc.th 42 (f A)) (f A).p (f A).j:=
 ⟨by have:=h.hs A ht;rwa [X_B.1] at this,rfl,by have:=h.fr A ht;rwa [X_B.1] at this,_,hc,codeB_len R A,fun p j hp hj=>codeB_get R A p j hp hj⟩
theorem standO{f:Nat→Loc}{i:Int}(h:(X A T R).Inv s f i)(ht:t < T)(hne:t≠A)(hc:codes[t]? = some (codeO R t)):Stand codes 37 R (baseO ((t+1:Nat):Int)) s t (Loc.th 37 (f t)) (f t).p (f t).j:=
 ⟨by have:=h.hs t ht;rwa [(X_O hne).1] at this,rfl,by have:=h.fr t ht;rwa [(X_O hne).1] at this,_,hc,codeO_len R t,fun p j hp hj=>codeO_get R t p j hp hj⟩
theorem atB14{me c:Int}{σ:Nat}{pt k:Bool}{r1 r2 r4 r5 r6 r7:Int}(h:AtB me c σ pt k 14 r1 r2 r4 r5 r6 r7):r4=0∧r5=me:=by
 cases h;exact⟨by assumption,by assumption⟩
theorem atO8{me ow cw c:Int}{g:Nat}{r1 r2 r4 r5 r6 r7:Int}{q:List (Nat×Int)}(h:AtO me ow cw c g 8 r1 r2 r4 r5 r6 r7 q):r4=0∧r5=me:=by
 cases h<;>exact⟨by assumption,by assumption⟩
theorem outB(hJ:J A T R s)(ht:A < T)(hR:R≤100)(hc:codes[A]? = some (codeB R A))(hgo:s.stepT codes A=some s'):(L A T R).Out A s s':=by
 obtain⟨⟨f,i,h⟩,hr,ho⟩:=hJ
 have S:=standB h ht hc
 obtain⟨m,σ,σ',c',pt,kk,gg,hW⟩:=h.I
 have hI:=hW.hb
 have hnm:=h.nm
 have hths:s.ths.length=T:=h.nths
 have W:=S.way (s':=s') (by rw [h.nb];exact ht) hr (chk_op (hstB _)) hgo
 generalize f A=x at S hI W
 obtain⟨p,j,r0,r1,r2,r3,r4,r5,r6,r7,st⟩:=x
 refine Lad.out_of2 (X:=L A T R) (lev:=levB) (loop:=loopB) (B:=baseB ((A+1:Nat):Int)) (eLB rfl) (eMB rfl) (eVB rfl) S W h.nths h.nb ht (by show R*42≤1000000;omega) (by decide) hlB hflatB (chk_st (hstB _)) ?_
 intro i2 th' hlp hp hj h0 hi hA hd hr2 Tn
 have hs:=S.hs
 have h0:st=0:=h0
 subst h0
 have c:j=13∨j=14∨j=15:=by
  unfold loopB at hlp
  simp only [Bool.and_eq_true,Bool.or_eq_true,decide_eq_true_eq] at hlp
  omega
 rcases c with rfl | rfl | rfl
 ·obtain rfl:(⟨1,4,0,0,0⟩:Ins)=i2:=Option.some.inj hi
  rw [movI_plain rfl] at hA
  have e:=st_set hA
  rw [hgo] at e
  have e:=Option.some.inj e
  refine Lad.out_keep2 (X:=L A T R) (k:=14) (j:=13) (th':=(⟨((p*42+13:Nat):Int)+1,[r0,r1,r2,r3,0,r5,r6,r7],0⟩:Th)) (eLB rfl) (eVB rfl) (eOB rfl) (eDB rfl) (by rw [e];rfl) (by rw [e];rfl) (by rw [e];rfl) hs rfl rfl hj hp rfl (by show ((p*42+13:Nat):Int)+1=((p*42+14:Nat):Int);omega) (by decide) ((lvB_n 14 (⟨((p*42+13:Nat):Int)+1,[r0,r1,r2,r3,0,r5,r6,r7],0⟩:Th) (fun e=>by cases e)).trans ((rfl:levB 14=levB 13).trans (lvB_n 13 (Loc.th 42 ⟨p,13,r0,r1,r2,r3,r4,r5,r6,r7,0⟩) (fun e=>by cases e)).symm)) fun _=>?_
  by_cases hz:s.mem.getD 18 0=0
  ·exact .inl (by rw [locB13 (th:=(Loc.th 42 ⟨p,13,r0,r1,r2,r3,r4,r5,r6,r7,0⟩)) hz,locB14 (th:=(⟨((p*42+13:Nat):Int)+1,[r0,r1,r2,r3,0,r5,r6,r7],0⟩:Th)) hz];decide)
  ·exact .inr ⟨coldB_iff.2 (⟨hz,.inl rfl⟩),coldB_iff.2 (⟨hz,.inr (.inl rfl)⟩),by rw [locB_z (th:=(⟨((p*42+13:Nat):Int)+1,[r0,r1,r2,r3,0,r5,r6,r7],0⟩:Th)) hz,locB_z (th:=(Loc.th 42 ⟨p,13,r0,r1,r2,r3,r4,r5,r6,r7,0⟩)) hz];exact Nat.le_refl _⟩
 ·obtain rfl:(⟨21,4,8,5,18⟩:Ins)=i2:=Option.some.inj hi
  rw [movI_plain rfl] at hA
  have hq:=empty_nil (hd (by decide))
  have hl2:=load_nil hq 18
  have e:=st_cas hA (ad:=18) (addr_abs _ _ _ _ _) (by have hnm:s.mem.length=20:=hnm;omega) (hd (by decide))
  rw [hgo,hl2] at e
  have e:=Option.some.inj e
  have hr4:r4=0:=(atB14 hI).1
  have hreg:(Loc.th 42 ⟨p,14,r0,r1,r2,r3,r4,r5,r6,r7,0⟩).reg 4=0:=hr4
  rw [hreg] at e
  by_cases hz:s.mem.getD 18 0=0
  ·rw [if_pos hz] at e
   have hth:=Tn.th_eq hs (th2:=(⟨((p*42+14:Nat):Int)+1,[r0,r1,r2,r3,s.mem.getD 18 0,r5,r6,r7],0⟩:Th)) (by rw [e];rfl)
   exact Lad.out_lt2 (X:=L A T R) (eLB rfl) (eMB rfl) (eVB rfl) hlB ht hths Tn hs rfl rfl hj hp (j:=14) (k:=15) (by rw [hth];exact (by show ((p*42+14:Nat):Int)+1=((p*42+15:Nat):Int);omega)) (by decide) (by rw [hth];have a:=(lvB_n 14 (Loc.th 42 ⟨p,14,r0,r1,r2,r3,r4,r5,r6,r7,0⟩) (fun e=>by cases e));have b:=lvB_z (⟨((p*42+14:Nat):Int)+1,[r0,r1,r2,r3,s.mem.getD 18 0,r5,r6,r7],0⟩:Th) hz;rw [a,b];decide)
  ·rw [if_neg hz] at e
   refine Lad.out_keep2 (X:=L A T R) (k:=15) (j:=14) (th':=(⟨((p*42+14:Nat):Int)+1,[r0,r1,r2,r3,s.mem.getD 18 0,r5,r6,r7],0⟩:Th)) (eLB rfl) (eVB rfl) (eOB rfl) (eDB rfl) (by rw [e];rfl) (by rw [e];rfl) (by rw [e];rfl) hs rfl rfl hj hp rfl (by show ((p*42+14:Nat):Int)+1=((p*42+15:Nat):Int);omega) (by decide) ((lvB_n 15 (⟨((p*42+14:Nat):Int)+1,[r0,r1,r2,r3,s.mem.getD 18 0,r5,r6,r7],0⟩:Th) (fun _=>hz)).trans ((rfl:levB 15=levB 14).trans (lvB_n 14 (Loc.th 42 ⟨p,14,r0,r1,r2,r3,r4,r5,r6,r7,0⟩) (fun e=>by cases e)).symm)) fun _=>?_
   exact .inr ⟨coldB_iff.2 (⟨hz,.inr (.inl rfl)⟩),coldB_iff.2 (⟨hz,.inr (.inr ⟨rfl,hz⟩)⟩),by rw [locB_z (th:=(⟨((p*42+14:Nat):Int)+1,[r0,r1,r2,r3,s.mem.getD 18 0,r5,r6,r7],0⟩:Th)) hz,locB_z (th:=(Loc.th 42 ⟨p,14,r0,r1,r2,r3,r4,r5,r6,r7,0⟩)) hz];exact Nat.le_refl _⟩
 ·obtain rfl:(⟨15,4,0,0,13⟩:Ins)=i2:=Option.some.inj hi
  rw [movI_jump rfl] at hA
  have e:=st_some hA
  rw [hgo] at e
  have e:=Option.some.inj e
  have hreg4:(Loc.th 42 ⟨p,15,r0,r1,r2,r3,r4,r5,r6,r7,0⟩).reg 4=r4:=rfl
  rw [hreg4] at e
  by_cases hz4:r4=0
  ·rw [if_neg (by intro c;exact c hz4)] at e
   have hth:=Tn.th_eq hs (th2:=(⟨((p*42+15:Nat):Int)+1,[r0,r1,r2,r3,r4,r5,r6,r7],0⟩:Th)) (by rw [e];rfl)
   exact Lad.out_lt2 (X:=L A T R) (eLB rfl) (eMB rfl) (eVB rfl) hlB ht hths Tn hs rfl rfl hj hp (j:=15) (k:=16) (by rw [hth];exact (by show ((p*42+15:Nat):Int)+1=((p*42+16:Nat):Int);omega)) (by decide) (by rw [hth];have a:=lvB_z (Loc.th 42 ⟨p,15,r0,r1,r2,r3,r4,r5,r6,r7,0⟩) hz4;have b:=(lvB_n 16 (⟨((p*42+15:Nat):Int)+1,[r0,r1,r2,r3,r4,r5,r6,r7],0⟩:Th) (fun e=>by cases e));rw [a,b];decide)
  ·rw [if_pos hz4] at e
   refine Lad.out_keep2 (X:=L A T R) (k:=13) (j:=15) (th':=(⟨wr32 ((13:Int)+((p*42:Nat):Int)),[r0,r1,r2,r3,r4,r5,r6,r7],0⟩:Th)) (eLB rfl) (eVB rfl) (eOB rfl) (eDB rfl) (by rw [e];rfl) (by rw [e];rfl) (by rw [e];rfl) hs rfl rfl hj hp rfl (by show wr32 ((13:Int)+((p*42:Nat):Int))=((p*42+13:Nat):Int);have:p < R:=hp;unfold wr32;omega) (by decide) ((lvB_n 13 (⟨wr32 ((13:Int)+((p*42:Nat):Int)),[r0,r1,r2,r3,r4,r5,r6,r7],0⟩:Th) (fun e=>by cases e)).trans ((rfl:levB 13=levB 15).trans (lvB_n 15 (Loc.th 42 ⟨p,15,r0,r1,r2,r3,r4,r5,r6,r7,0⟩) (fun _=>hz4)).symm)) fun _=>?_
   by_cases hz:s.mem.getD 18 0=0
   ·exact .inl (by rw [locB15 (th:=(Loc.th 42 ⟨p,15,r0,r1,r2,r3,r4,r5,r6,r7,0⟩)) hz,locB13 (th:=(⟨wr32 ((13:Int)+((p*42:Nat):Int)),[r0,r1,r2,r3,r4,r5,r6,r7],0⟩:Th)) hz];decide)
   ·exact .inr ⟨coldB_iff.2 (⟨hz,.inr (.inr ⟨rfl,hz4⟩)⟩),coldB_iff.2 (⟨hz,.inl rfl⟩),by rw [locB_z (th:=(⟨wr32 ((13:Int)+((p*42:Nat):Int)),[r0,r1,r2,r3,r4,r5,r6,r7],0⟩:Th)) hz,locB_z (th:=(Loc.th 42 ⟨p,15,r0,r1,r2,r3,r4,r5,r6,r7,0⟩)) hz];exact Nat.le_refl _⟩
theorem outO(hJ:J A T R s)(ht:t < T)(hne:t≠A)(hR:R≤100)(hc:codes[t]? = some (codeO R t))(hgo:s.stepT codes t=some s'):(L A T R).Out t s s':=by
 obtain⟨⟨f,i,h⟩,hr,ho⟩:=hJ
 have S:=standO h ht hne hc
 obtain⟨m,σ,σ',c',pt,kk,gg,hW⟩:=h.I
 have hI:=hW.ho t ht hne
 have hnm:=h.nm
 have hths:s.ths.length=T:=h.nths
 have W:=S.way (s':=s') (by rw [h.nb];exact ht) hr (chk_op (hstO _)) hgo
 generalize f t=x at S hI W
 obtain⟨p,j,r0,r1,r2,r3,r4,r5,r6,r7,st⟩:=x
 refine Lad.out_of2 (X:=L A T R) (lev:=levO) (loop:=loopO) (B:=baseO ((t+1:Nat):Int)) (eLO hne) (eMO hne) (eVO hne) S W h.nths h.nb ht (by show R*37≤1000000;omega) (by decide) hlO hflatO (chk_st (hstO _)) ?_
 intro i2 th' hlp hp hj h0 hi hA hd hr2 Tn
 have hs:=S.hs
 have h0:st=0:=h0
 subst h0
 have c:j=7∨j=8∨j=9∨j=15∨j=16:=by
  unfold loopO at hlp
  simp only [Bool.and_eq_true,Bool.or_eq_true,decide_eq_true_eq] at hlp
  omega
 rcases c with rfl | rfl | rfl | rfl | rfl
 ·obtain rfl:(⟨1,4,0,0,0⟩:Ins)=i2:=Option.some.inj hi
  rw [movI_plain rfl] at hA
  have e:=st_set hA
  rw [hgo] at e
  have e:=Option.some.inj e
  refine Lad.out_keep2 (X:=L A T R) (k:=8) (j:=7) (th':=(⟨((p*37+7:Nat):Int)+1,[r0,r1,r2,r3,0,r5,r6,r7],0⟩:Th)) (eLO hne) (eVO hne) (eOO hne) (eDO hne) (by rw [e];rfl) (by rw [e];rfl) (by rw [e];rfl) hs rfl rfl hj hp rfl (by show ((p*37+7:Nat):Int)+1=((p*37+8:Nat):Int);omega) (by decide) ((lvO_n 8 (⟨((p*37+7:Nat):Int)+1,[r0,r1,r2,r3,0,r5,r6,r7],0⟩:Th) (fun e=>by cases e)).trans ((rfl:levO 8=levO 7).trans (lvO_n 7 (Loc.th 37 ⟨p,7,r0,r1,r2,r3,r4,r5,r6,r7,0⟩) (fun e=>by cases e)).symm)) fun _=>?_
  by_cases hz:s.mem.getD 18 0=0
  ·exact .inl (by rw [locO7 (th:=(Loc.th 37 ⟨p,7,r0,r1,r2,r3,r4,r5,r6,r7,0⟩)) hz,locO8 (th:=(⟨((p*37+7:Nat):Int)+1,[r0,r1,r2,r3,0,r5,r6,r7],0⟩:Th)) hz];decide)
  ·exact .inr ⟨coldO_iff.2 (.inl ⟨hz,.inl rfl⟩),coldO_iff.2 (.inl ⟨hz,.inr (.inl rfl)⟩),by rw [locO8z (th:=(⟨((p*37+7:Nat):Int)+1,[r0,r1,r2,r3,0,r5,r6,r7],0⟩:Th)) hz,locO7z (th:=(Loc.th 37 ⟨p,7,r0,r1,r2,r3,r4,r5,r6,r7,0⟩)) hz];exact Nat.le_refl _⟩
 ·obtain rfl:(⟨21,4,8,5,18⟩:Ins)=i2:=Option.some.inj hi
  rw [movI_plain rfl] at hA
  have hq:=empty_nil (hd (by decide))
  have hl2:=load_nil hq 18
  have e:=st_cas hA (ad:=18) (addr_abs _ _ _ _ _) (by have hnm:s.mem.length=20:=hnm;omega) (hd (by decide))
  rw [hgo,hl2] at e
  have e:=Option.some.inj e
  have hr4:r4=0:=(atO8 hI).1
  have hreg:(Loc.th 37 ⟨p,8,r0,r1,r2,r3,r4,r5,r6,r7,0⟩).reg 4=0:=hr4
  rw [hreg] at e
  by_cases hz:s.mem.getD 18 0=0
  ·rw [if_pos hz] at e
   have hth:=Tn.th_eq hs (th2:=(⟨((p*37+8:Nat):Int)+1,[r0,r1,r2,r3,s.mem.getD 18 0,r5,r6,r7],0⟩:Th)) (by rw [e];rfl)
   exact Lad.out_lt2 (X:=L A T R) (eLO hne) (eMO hne) (eVO hne) hlO ht hths Tn hs rfl rfl hj hp (j:=8) (k:=9) (by rw [hth];exact (by show ((p*37+8:Nat):Int)+1=((p*37+9:Nat):Int);omega)) (by decide) (by rw [hth];have a:=(lvO_n 8 (Loc.th 37 ⟨p,8,r0,r1,r2,r3,r4,r5,r6,r7,0⟩) (fun e=>by cases e));have b:=lvO_z (⟨((p*37+8:Nat):Int)+1,[r0,r1,r2,r3,s.mem.getD 18 0,r5,r6,r7],0⟩:Th) hz;rw [a,b];decide)
  ·rw [if_neg hz] at e
   refine Lad.out_keep2 (X:=L A T R) (k:=9) (j:=8) (th':=(⟨((p*37+8:Nat):Int)+1,[r0,r1,r2,r3,s.mem.getD 18 0,r5,r6,r7],0⟩:Th)) (eLO hne) (eVO hne) (eOO hne) (eDO hne) (by rw [e];rfl) (by rw [e];rfl) (by rw [e];rfl) hs rfl rfl hj hp rfl (by show ((p*37+8:Nat):Int)+1=((p*37+9:Nat):Int);omega) (by decide) ((lvO_n 9 (⟨((p*37+8:Nat):Int)+1,[r0,r1,r2,r3,s.mem.getD 18 0,r5,r6,r7],0⟩:Th) (fun _=>hz)).trans ((rfl:levO 9=levO 8).trans (lvO_n 8 (Loc.th 37 ⟨p,8,r0,r1,r2,r3,r4,r5,r6,r7,0⟩) (fun e=>by cases e)).symm)) fun _=>?_
   exact .inr ⟨coldO_iff.2 (.inl ⟨hz,.inr (.inl rfl)⟩),coldO_iff.2 (.inl ⟨hz,.inr (.inr ⟨rfl,hz⟩)⟩),by rw [locO9z (th:=(⟨((p*37+8:Nat):Int)+1,[r0,r1,r2,r3,s.mem.getD 18 0,r5,r6,r7],0⟩:Th)) hz,locO8z (th:=(Loc.th 37 ⟨p,8,r0,r1,r2,r3,r4,r5,r6,r7,0⟩)) hz];exact Nat.le_refl _⟩
 ·obtain rfl:(⟨15,4,0,0,7⟩:Ins)=i2:=Option.some.inj hi
  rw [movI_jump rfl] at hA
  have e:=st_some hA
  rw [hgo] at e
  have e:=Option.some.inj e
  have hreg4:(Loc.th 37 ⟨p,9,r0,r1,r2,r3,r4,r5,r6,r7,0⟩).reg 4=r4:=rfl
  rw [hreg4] at e
  by_cases hz4:r4=0
  ·rw [if_neg (by intro c;exact c hz4)] at e
   have hth:=Tn.th_eq hs (th2:=(⟨((p*37+9:Nat):Int)+1,[r0,r1,r2,r3,r4,r5,r6,r7],0⟩:Th)) (by rw [e];rfl)
   exact Lad.out_lt2 (X:=L A T R) (eLO hne) (eMO hne) (eVO hne) hlO ht hths Tn hs rfl rfl hj hp (j:=9) (k:=10) (by rw [hth];exact (by show ((p*37+9:Nat):Int)+1=((p*37+10:Nat):Int);omega)) (by decide) (by rw [hth];have a:=lvO_z (Loc.th 37 ⟨p,9,r0,r1,r2,r3,r4,r5,r6,r7,0⟩) hz4;have b:=(lvO_n 10 (⟨((p*37+9:Nat):Int)+1,[r0,r1,r2,r3,r4,r5,r6,r7],0⟩:Th) (fun e=>by cases e));rw [a,b];decide)
  ·rw [if_pos hz4] at e
   refine Lad.out_keep2 (X:=L A T R) (k:=7) (j:=9) (th':=(⟨wr32 ((7:Int)+((p*37:Nat):Int)),[r0,r1,r2,r3,r4,r5,r6,r7],0⟩:Th)) (eLO hne) (eVO hne) (eOO hne) (eDO hne) (by rw [e];rfl) (by rw [e];rfl) (by rw [e];rfl) hs rfl rfl hj hp rfl (by show wr32 ((7:Int)+((p*37:Nat):Int))=((p*37+7:Nat):Int);have:p < R:=hp;unfold wr32;omega) (by decide) ((lvO_n 7 (⟨wr32 ((7:Int)+((p*37:Nat):Int)),[r0,r1,r2,r3,r4,r5,r6,r7],0⟩:Th) (fun e=>by cases e)).trans ((rfl:levO 7=levO 9).trans (lvO_n 9 (Loc.th 37 ⟨p,9,r0,r1,r2,r3,r4,r5,r6,r7,0⟩) (fun _=>hz4)).symm)) fun _=>?_
   by_cases hz:s.mem.getD 18 0=0
   ·exact .inl (by rw [locO9 (th:=(Loc.th 37 ⟨p,9,r0,r1,r2,r3,r4,r5,r6,r7,0⟩)) hz,locO7 (th:=(⟨wr32 ((7:Int)+((p*37:Nat):Int)),[r0,r1,r2,r3,r4,r5,r6,r7],0⟩:Th)) hz];decide)
   ·exact .inr ⟨coldO_iff.2 (.inl ⟨hz,.inr (.inr ⟨rfl,hz4⟩)⟩),coldO_iff.2 (.inl ⟨hz,.inl rfl⟩),by rw [locO7z (th:=(⟨wr32 ((7:Int)+((p*37:Nat):Int)),[r0,r1,r2,r3,r4,r5,r6,r7],0⟩:Th)) hz,locO9z (th:=(Loc.th 37 ⟨p,9,r0,r1,r2,r3,r4,r5,r6,r7,0⟩)) hz];exact Nat.le_refl _⟩
 ·obtain rfl:(⟨16,4,8,0,16⟩:Ins)=i2:=Option.some.inj hi
  rw [movI_plain rfl] at hA
  have e:=st_load hA (ad:=16) (addr_abs _ _ _ _ _) (by have hnm:s.mem.length=20:=hnm;omega)
  rw [hgo] at e
  have e:=Option.some.inj e
  refine Lad.out_keep2 (X:=L A T R) (k:=16) (j:=15) (th':=(⟨((p*37+15:Nat):Int)+1,[r0,r1,r2,r3,s.load t 16,r5,r6,r7],0⟩:Th)) (eLO hne) (eVO hne) (eOO hne) (eDO hne) (by rw [e];rfl) (by rw [e];rfl) (by rw [e];rfl) hs rfl rfl hj hp rfl (by show ((p*37+15:Nat):Int)+1=((p*37+16:Nat):Int);omega) (by decide) ((lvO_n 16 (⟨((p*37+15:Nat):Int)+1,[r0,r1,r2,r3,s.load t 16,r5,r6,r7],0⟩:Th) (fun e=>by cases e)).trans ((rfl:levO 16=levO 15).trans (lvO_n 15 (Loc.th 37 ⟨p,15,r0,r1,r2,r3,r4,r5,r6,r7,0⟩) (fun e=>by cases e)).symm)) fun hq0=>?_
  have hl2:=load_nil hq0 16
  by_cases hz:s.mem.getD 16 0=0
  ·exact .inl (by rw [locO15 (th:=(Loc.th 37 ⟨p,15,r0,r1,r2,r3,r4,r5,r6,r7,0⟩)) hz,locO16a (th:=(⟨((p*37+15:Nat):Int)+1,[r0,r1,r2,r3,s.load t 16,r5,r6,r7],0⟩:Th)) hz (hl2.trans hz)];decide)
  ·exact .inr ⟨coldO_iff.2 (.inr ⟨hz,.inl rfl⟩),coldO_iff.2 (.inr ⟨hz,.inr ⟨rfl,fun e=>hz (hl2.symm.trans e)⟩⟩),by rw [locO16z (th:=(⟨((p*37+15:Nat):Int)+1,[r0,r1,r2,r3,s.load t 16,r5,r6,r7],0⟩:Th)) hz,locO15z (th:=(Loc.th 37 ⟨p,15,r0,r1,r2,r3,r4,r5,r6,r7,0⟩)) hz];exact Nat.le_refl _⟩
 ·obtain rfl:(⟨15,4,0,0,15⟩:Ins)=i2:=Option.some.inj hi
  rw [movI_jump rfl] at hA
  have e:=st_some hA
  rw [hgo] at e
  have e:=Option.some.inj e
  have hreg4:(Loc.th 37 ⟨p,16,r0,r1,r2,r3,r4,r5,r6,r7,0⟩).reg 4=r4:=rfl
  rw [hreg4] at e
  by_cases hz4:r4=0
  ·rw [if_neg (by intro c;exact c hz4)] at e
   have hth:=Tn.th_eq hs (th2:=(⟨((p*37+16:Nat):Int)+1,[r0,r1,r2,r3,r4,r5,r6,r7],0⟩:Th)) (by rw [e];rfl)
   exact Lad.out_lt2 (X:=L A T R) (eLO hne) (eMO hne) (eVO hne) hlO ht hths Tn hs rfl rfl hj hp (j:=16) (k:=17) (by rw [hth];exact (by show ((p*37+16:Nat):Int)+1=((p*37+17:Nat):Int);omega)) (by decide) (by rw [hth];have a:=(lvO_n 16 (Loc.th 37 ⟨p,16,r0,r1,r2,r3,r4,r5,r6,r7,0⟩) (fun e=>by cases e));have b:=(lvO_n 17 (⟨((p*37+16:Nat):Int)+1,[r0,r1,r2,r3,r4,r5,r6,r7],0⟩:Th) (fun e=>by cases e));rw [a,b];decide)
  ·rw [if_pos hz4] at e
   refine Lad.out_keep2 (X:=L A T R) (k:=15) (j:=16) (th':=(⟨wr32 ((15:Int)+((p*37:Nat):Int)),[r0,r1,r2,r3,r4,r5,r6,r7],0⟩:Th)) (eLO hne) (eVO hne) (eOO hne) (eDO hne) (by rw [e];rfl) (by rw [e];rfl) (by rw [e];rfl) hs rfl rfl hj hp rfl (by show wr32 ((15:Int)+((p*37:Nat):Int))=((p*37+15:Nat):Int);have:p < R:=hp;unfold wr32;omega) (by decide) ((lvO_n 15 (⟨wr32 ((15:Int)+((p*37:Nat):Int)),[r0,r1,r2,r3,r4,r5,r6,r7],0⟩:Th) (fun e=>by cases e)).trans ((rfl:levO 15=levO 16).trans (lvO_n 16 (Loc.th 37 ⟨p,16,r0,r1,r2,r3,r4,r5,r6,r7,0⟩) (fun e=>by cases e)).symm)) fun _=>?_
   by_cases hz:s.mem.getD 16 0=0
   ·exact .inl (by rw [locO16b (th:=(Loc.th 37 ⟨p,16,r0,r1,r2,r3,r4,r5,r6,r7,0⟩)) hz hz4,locO15 (th:=(⟨wr32 ((15:Int)+((p*37:Nat):Int)),[r0,r1,r2,r3,r4,r5,r6,r7],0⟩:Th)) hz];decide)
   ·exact .inr ⟨coldO_iff.2 (.inr ⟨hz,.inr ⟨rfl,hz4⟩⟩),coldO_iff.2 (.inr ⟨hz,.inl rfl⟩),by rw [locO15z (th:=(⟨wr32 ((15:Int)+((p*37:Nat):Int)),[r0,r1,r2,r3,r4,r5,r6,r7],0⟩:Th)) hz,locO16z (th:=(Loc.th 37 ⟨p,16,r0,r1,r2,r3,r4,r5,r6,r7,0⟩)) hz];exact Nat.le_refl _⟩
theorem mem18_set{mem:List Int}{a:Nat}{v:Int}(h:a≠18):(mem.set a v).getD 18 0=mem.getD 18 0:=by
 rw [List.getD_eq_getElem?_getD,List.getElem?_set_ne h,←List.getD_eq_getElem?_getD]
theorem mem18_at{mem:List Int}{v:Int}(h:18 < mem.length):(mem.set 18 v).getD 18 0=v:=by
 rw [List.getD_eq_getElem?_getD,List.getElem?_set_self h];rfl
theorem ent18{f:Nat→Loc}{i:Int}(h:(X A T R).Inv s f i)(ht:t < T){e:Nat×Int}{r:List (Nat×Int)}(hq:s.buf t=e::r)(he:e.1=18):e.2=0:=by
 obtain⟨m,σ,σ',c',pt,kk,gg,hW⟩:=h.I
 by_cases c:t=A
 ·subst c
  have hp:=hW.pth
  rw [hq] at hp
  rcases hp.first hW.ok with⟨_,d,_⟩ | ⟨_,d,_⟩ | ⟨_,d,_⟩ | ⟨_,d,_⟩ | ⟨_,d,_⟩ | ⟨_,_,d,_⟩ | ⟨_,_,d,_⟩<;>rw [d] at he ⊢ <;> first | rfl | (exact absurd he (by decide)) | (exact absurd (show (19:Nat)=18 from he) (by decide)) | (exact absurd (show (0:Nat)=18 from he) (by decide))
 ·have hI:=hW.ho t ht c
  rw [hq] at hI
  rcases own_buf hI (meN_pos t) with⟨d,_⟩ | ⟨d,_⟩ | ⟨d,_⟩ | ⟨_,d,_⟩ | ⟨d,_⟩
  ·omega
  ·omega
  ·omega
  ·exact d
  ·omega
def Cw(T:Nat)(mem:List Int):Prop:=mem.getD 18 0=0∨∃ u,u < T∧mem.getD 18 0=meN u
theorem flushC{f:Nat→Loc}{i:Int}(h:(X A T R).Inv s f i)(ht:t < T)(ho:Cw T s.mem):Cw T (s.flush t).mem:=by
 rcases mem_flush s t with e | ⟨e,r,hq,hm⟩
 ·rw [e];exact ho
 ·rw [hm]
  by_cases c:e.1=18
  ·have h0:=ent18 h ht hq c
   have hnm:s.mem.length=20:=h.nm
   refine .inl ?_
   rw [c,mem18_at (by omega),h0]
  ·unfold Cw
   rw [mem18_set c];exact ho
theorem keepC{f:Nat→Loc}{i:Int}(hA:A < T)(h:(X A T R).Inv s f i)(hr:0 < s.room)(hc:codes[A]? = some (codeB R A))(hc2:∀ u,u < T→u≠A→codes[u]? = some (codeO R u))(ho:Cw T s.mem){q:Nat×Nat}(hp:s.pick codes q=some s'):s'.room=s.room∧Cw T s'.mem:=by
 obtain⟨m,σ,σ',c',pt,kk,gg,hW⟩:=h.I
 have hnm:s.mem.length=20:=h.nm
 rcases pick_cases hp h.slp with e | ⟨ht,e⟩ | ⟨ht,e⟩
 ·rw [e];exact⟨rfl,ho⟩
 ·have ht:q.2 < T:=by have e2:s.ths.length=T:=h.nths;omega
  by_cases cA:q.2=A
  ·rw [cA] at e
   have S:=standB h hA hc
   have W:=S.way (s':=s') (by rw [h.nb];exact hA) hr (chk_op (hstB _)) e
   refine⟨W.room (by rw [h.nb];exact hA),?_⟩
   have hI:=hW.hb
   cases W with
   | flush e2 _=>rw [e2];exact flushC h hA ho
   | still _ e2=>rw [e2];exact ho
   | ended _ _ _ e2=>rw [e2];exact ho
   | turn i th' h0 hp hj hi hA2 hd hr2 Tn=>
    by_cases c:(f A).j=14
    ·generalize f A=x at c hI hi hA2
     obtain⟨p,j,r0,r1,r2,r3,r4,r5,r6,r7,st⟩:=x
     have c:j=14:=c
     subst c
     obtain rfl:(⟨21,4,8,5,18⟩:Ins)=i:=Option.some.inj hi
     rw [movI_plain rfl] at hA2
     have e2:=st_cas hA2 (ad:=18) (addr_abs _ _ _ _ _) (by omega) (hd (by decide))
     rw [e] at e2
     rw [Option.some.inj e2]
     split
     ·refine .inr ⟨A,hA,?_⟩
      show (s.mem.set 18 r5).getD 18 0=_
      rw [mem18_at (by omega)];exact (atB14 hI).2
     ·exact ho
    ·have hno:=keep_op (hkeepB _) hj (beq_eq_false_iff_ne.2 c) hi
     have hm:=Tn.mem
     rw [movI_op] at hm
     rw [hm hno.1 hno.2.1 hno.2.2.1 hno.2.2.2];exact ho
  ·have S:=standO h ht cA (hc2 _ ht cA)
   have W:=S.way (s':=s') (by rw [h.nb];exact ht) hr (chk_op (hstO _)) e
   refine⟨W.room (by rw [h.nb];exact ht),?_⟩
   have hI:=hW.ho _ ht cA
   cases W with
   | flush e2 _=>rw [e2];exact flushC h ht ho
   | still _ e2=>rw [e2];exact ho
   | ended _ _ _ e2=>rw [e2];exact ho
   | turn i th' h0 hp hj hi hA2 hd hr2 Tn=>
    by_cases c:(f q.2).j=8
    ·generalize f q.2=x at c hI hi hA2
     obtain⟨p,j,r0,r1,r2,r3,r4,r5,r6,r7,st⟩:=x
     have c:j=8:=c
     subst c
     obtain rfl:(⟨21,4,8,5,18⟩:Ins)=i:=Option.some.inj hi
     rw [movI_plain rfl] at hA2
     have e2:=st_cas hA2 (ad:=18) (addr_abs _ _ _ _ _) (by omega) (hd (by decide))
     rw [e] at e2
     rw [Option.some.inj e2]
     split
     ·refine .inr ⟨q.2,ht,?_⟩
      show (s.mem.set 18 r5).getD 18 0=_
      rw [mem18_at (by omega)];exact (atO8 hI).2
     ·exact ho
    by_cases c2:(f q.2).j=14
    ·generalize f q.2=x at c2 hI hi hA2
     obtain⟨p,j,r0,r1,r2,r3,r4,r5,r6,r7,st⟩:=x
     have c2:j=14:=c2
     subst c2
     obtain rfl:(⟨25,0,0,0,0⟩:Ins)=i:=Option.some.inj hi
     rw [movI_plain rfl] at hA2
     have e2:=st_remote hA2 (hd (by decide))
     rw [e] at e2
     rw [Option.some.inj e2]
     show Cw T s.remote.mem
     have:=remote_inv (X:=X A T R) (P:=fun s=>(∃ f i,(X A T R).Inv s f i)∧Cw T s.mem) (fun t s ht ⟨⟨f,i,h⟩,k⟩=>⟨⟨f,i,flush h ht⟩,flushC h ht k⟩) h.nb ⟨⟨f,_,h⟩,ho⟩
     exact this.2
    ·have hno:=keep_op (hkeepO _) hj (by simp [c,c2]) hi
     have hm:=Tn.mem
     rw [movI_op] at hm
     rw [hm hno.1 hno.2.1 hno.2.2.1 hno.2.2.2];exact ho
 ·have ht:q.2 < T:=by have e2:s.ths.length=T:=h.nths;omega
  rw [e]
  exact⟨(s.flush_same q.2 (by rw [h.nb];exact ht)).room,flushC h ht ho⟩
theorem goneB{me c:Int}{σ:Nat}{pt k:Bool}{r1 r2 r4 r5 r6 r7:Int}{j:Nat}(h:AtB me c σ pt k j r1 r2 r4 r5 r6 r7)(hσ:1≤σ):j≠0∧j≠13∧j≠14∧(j=15→r4=0):=by
 cases h<;>first | (exfalso;omega) | (refine⟨by decide,by decide,by decide,fun e=>?_⟩<;>first | assumption | (cases e))
theorem goneO{me ow c:Int}{g:Nat}{r1 r2 r4 r5 r6 r7:Int}{j:Nat}(h:AtO me ow me c g j r1 r2 r4 r5 r6 r7 []):j≠0∧j≠7∧j≠8∧(j=9→r4=0):=by
 cases h<;>first | (exact absurd rfl (by assumption)) | (refine⟨by decide,by decide,by decide,fun e=>?_⟩<;>first | assumption | (cases e))
theorem fit(hA:A < T)(hR0:0 < R)(hR:R≤100)(hc:codes[A]? = some (codeB R A))(hc2:∀ u,u < T→u≠A→codes[u]? = some (codeO R u)):(L A T R).Fit codes (J A T R) where
 len:=fun s ⟨⟨f,i,h⟩,_⟩=>⟨h.nths,h.nb,h.slp⟩
 go:=fun s p ⟨⟨f,i,h⟩,hr,ho⟩=>by
  obtain⟨s',h1,f',i',h2⟩:=run hA hR hc hc2 [p] h
  have hp:=run_one h1
  have hk:=keepC hA h hr hc hc2 ho hp
  exact⟨s',hp,⟨f',i',h2⟩,by rw [hk.1];exact hr,hk.2⟩
 step:=fun s t s' hJ ht hgo=>by
  by_cases c:t=A
  ·subst c;exact outB hJ ht hR hc hgo
  ·exact outO hJ ht c hR (hc2 t ht c) hgo
 lo:=fun t th mem q=>by
  unfold Lad.lo
  split
  ·exact Nat.zero_le _
  ·by_cases c:t=A
   ·rw [eOB c]
    show locB _ th mem≤3
    unfold locB
    (repeat' split)<;>omega
   ·rw [eOO c]
    show locO _ th mem≤3
    unfold locO
    (repeat' split)<;>omega
 gone:=fun s ⟨⟨f,i,h⟩,hr,ho⟩ hall t ht=>by
  obtain⟨m,σ,σ',c',pt,kk,gg,hW⟩:=h.I
  have hthA:s.th A=Loc.th 42 (f A):=by have:=h.hs A hA;rw [X_B.1] at this;unfold Ts.th;rw [this];rfl
  have hthO:∀ u,u < T→u≠A→s.th u=Loc.th 37 (f u):=fun u hu hne=>by have:=h.hs u hu;rw [(X_O hne).1] at this;unfold Ts.th;rw [this];rfl
  have hfA:(f A).st=0∧(f A).p < R∧(f A).j < 42∨(f A).p=R∧(f A).j=0∧((f A).st=0∨(f A).st=2):=by have:=h.fr A hA;rwa [X_B.1] at this
  have hfO:∀ u,u < T→u≠A→(f u).st=0∧(f u).p < R∧(f u).j < 37∨(f u).p=R∧(f u).j=0∧((f u).st=0∨(f u).st=2):=fun u hu hne=>by have:=h.fr u hu;rwa [(X_O hne).1] at this
  have keyA:(f A).st=0→(f A).p < R∧(f A).j < 42→s.mem.getD 18 0≠0∧((f A).j=13∨(f A).j=14∨((f A).j=15∧(f A).r4≠0)):=fun h0 ⟨hp,hj⟩=>by
   have:=(hall A hA).2
   rw [(hall A hA).1,hthA] at this
   exact coldB_iff.1 ((Lad.stuck_at2 (X:=L A T R) (eLB rfl) (eDB rfl) h0 rfl hj hp _).1 this)
  have keyO:∀ u,u < T→u≠A→(f u).st=0→(f u).p < R∧(f u).j < 37→(s.mem.getD 18 0≠0∧((f u).j=7∨(f u).j=8∨((f u).j=9∧(f u).r4≠0)))∨(s.mem.getD 16 0≠0∧((f u).j=15∨((f u).j=16∧(f u).r4≠0))):=fun u hu hne h0 ⟨hp,hj⟩=>by
   have:=(hall u hu).2
   rw [(hall u hu).1,hthO u hu hne] at this
   exact coldO_iff.1 ((Lad.stuck_at2 (X:=L A T R) (eLO hne) (eDO hne) h0 rfl hj hp _).1 this)
  have hσ:σ'=σ:=by
   have:=hW.pth
   rw [(hall A hA).1] at this
   exact (Pa.nil_inv this).1
  -- the owner is not on its way
  have hA0:σ=0:=by
   rcases Nat.eq_zero_or_pos σ with e | e
   ·exact e
   ·exfalso
    have hb:=hW.hb
    rw [hσ] at hb
    obtain⟨n0,n1,n2,n3⟩:=goneB hb e
    rcases hfA with⟨k0,kp,kj⟩ | ⟨_,kj,_⟩
    ·rcases (keyA k0 ⟨kp,kj⟩).2 with d | d | d
     ·exact n1 d
     ·exact n2 d
     ·exact d.2 (n3 d.1)
    ·exact n0 kj
  have hm16:s.mem.getD 16 0=0:=by rw [hW.fa,hA0];rfl
  have hm18:s.mem.getD 18 0=0:=by
   rcases ho with e | ⟨u,hu,e⟩
   ·exact e
   ·exfalso
    by_cases hne:u=A
    ·subst hne
     exact hW.mc.2 (by omega) e
    ·have hI:=hW.ho u hu hne
     rw [(hall u hu).1,e] at hI
     obtain⟨n0,n1,n2,n3⟩:=goneO hI
     rcases hfO u hu hne with⟨k0,kp,kj⟩ | ⟨_,kj,_⟩
     ·rcases keyO u hu hne k0 ⟨kp,kj⟩ with⟨_,d | d | d⟩ | ⟨d,_⟩
      ·exact n1 d
      ·exact n2 d
      ·exact d.2 (n3 d.1)
      ·exact d hm16
     ·exact n0 kj
  intro hst
  by_cases hne:t=A
  ·subst hne
   rw [hthA] at hst
   rcases hfA with⟨k0,kp,kj⟩ | ⟨kp,kj,_⟩
   ·exact (keyA k0 ⟨kp,kj⟩).1 hm18
   ·have hs:=(hall t ht).2
    rw [(hall t ht).1,hthA] at hs
    exact Lad.stuck_end2 (eLB rfl) hs (by show (((f t).p*42+(f t).j:Nat):Int)=((R*42:Nat):Int);rw [kp,kj];rfl) (by decide) hst
  ·rw [hthO t ht hne] at hst
   rcases hfO t ht hne with⟨k0,kp,kj⟩ | ⟨kp,kj,_⟩
   ·rcases keyO t ht hne k0 ⟨kp,kj⟩ with⟨d,_⟩ | ⟨d,_⟩
    ·exact d hm18
    ·exact d hm16
   ·have hs:=(hall t ht).2
    rw [(hall t ht).1,hthO t ht hne] at hs
    exact Lad.stuck_end2 (eLO hne) hs (by show (((f t).p*37+(f t).j:Nat):Int)=((R*37:Nat):Int);rw [kp,kj];rfl) (by decide) hst
end
end Go.Proofs.YtckmkaeopnnbbaaGreatDoor.As.Bia
