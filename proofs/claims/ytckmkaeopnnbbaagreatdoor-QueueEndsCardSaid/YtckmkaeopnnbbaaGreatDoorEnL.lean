/- Plain Lean: a lock whose waiters look at the node ahead: all end. No program in sight. -/
import Derived.Test.YtckmkaeopnnbbaaGreatDoorGq
import Derived.Test.YtckmkaeopnnbbaaGreatDoorTqd
set_option linter.unusedVariables false
set_option linter.unusedSimpArgs false
namespace Go.Proofs.YtckmkaeopnnbbaaGreatDoor.As.Clh

def lev(j:Nat):Nat:=if j≤12 then j else if j=13 then 12 else min (j - 1) 36
def loop(j:Nat):Bool:=decide (12≤j) && decide (j≤13)
@[irreducible] def lvE (j:Nat) (th:Th):Nat:=lev j
def adr(th:Th):Nat:=(wr32 (th.reg 4+18)).toNat
@[irreducible] def locE (j:Nat) (th:Th) (mem:List Int):Nat:=if mem.getD (adr th) 0=0 then (if j=12 then 2 else if j=13 then (if th.reg 6=0 then 1 else 3) else 0) else 0
@[irreducible] def coldE (j:Nat) (th:Th) (mem:List Int):Bool:=decide (mem.getD (adr th) 0≠0∧(j=12∨(j=13∧th.reg 6≠0)))
def L(T R:Nat):Lad:=⟨T,R,3,fun _=>37,fun _=>37,fun _ j th=>lvE j th,fun _ j th mem=>locE j th mem,fun _ j th mem=>coldE j th mem⟩
def J(T R:Nat)(s:Ts):Prop:=(∃ f i,(X T R).Inv s f i)∧0 < s.room∧True
theorem lv_eq(j:Nat)(th:Th):lvE j th=lev j:=by unfold lvE;rfl
theorem coldE_iff{j:Nat}{th:Th}{mem:List Int}:coldE j th mem=true↔mem.getD (adr th) 0≠0∧(j=12∨(j=13∧th.reg 6≠0)):=by unfold coldE;exact decide_eq_true_iff
theorem locE_z{j:Nat}{th:Th}{mem:List Int}(h:mem.getD (adr th) 0≠0):locE j th mem=0:=by unfold locE;rw [if_neg h]
theorem loc12{th:Th}{mem:List Int}(h:mem.getD (adr th) 0=0):locE 12 th mem=2:=by unfold locE;rw [if_pos h];rfl
theorem loc13z{th:Th}{mem:List Int}(h:mem.getD (adr th) 0=0)(h6:th.reg 6=0):locE 13 th mem=1:=by unfold locE;rw [if_pos h,if_neg (by decide),if_pos rfl,if_pos h6]
theorem loc13n{th:Th}{mem:List Int}(h:mem.getD (adr th) 0=0)(h6:th.reg 6≠0):locE 13 th mem=3:=by unfold locE;rw [if_pos h,if_neg (by decide),if_pos rfl,if_neg h6]
theorem hl(T R t:Nat):∀ j th,lev j≤(L T R).lv t j th∧(L T R).lv t j th < (L T R).Lm t:=fun j th=>by
 show lev j≤lvE j th∧lvE j th < 37
 rw [lv_eq]
 refine⟨Nat.le_refl _,?_⟩
 unfold lev
 (repeat' split)<;>omega
theorem hflat(T R t:Nat):∀ j th,loop j=false→(L T R).lv t j th=lev j:=fun j th h=>lv_eq j th
theorem hst(T t:Nat):chkL 37 lev loop (base T t)=true:=rfl
section
variable{T R t:Nat}{codes:List (List Ins)}{s s':Ts}
theorem stand{f:Nat→Loc}{i:Int}(hT:T≤100)(h:(X T R).Inv s f i)(ht:t < T)(hc:codes[t]? = some (codeT T R t)):Stand codes 37 R (base T t) s t (Loc.th 37 (f t)) (f t).p (f t).j:=
 ⟨h.hs t ht,rfl,h.fr t ht,_,hc,code_len T R t hT (by omega),fun p j hp hj=>code_get T R t p j hT (by omega) hp hj⟩
theorem at12{me ow c fw:Int}{mi pi mn pd gg:Nat}{r1 r2 r4 r5 r6 r7:Int}{j:Nat}{q:List (Nat×Int)}(h:At T t me ow c fw mi pi mn pd gg j r1 r2 r4 r5 r6 r7 q)(hj:j=12∨j=13):r4=(pd:Int)∧gg≠0:=by
 cases h<;>first | exact⟨by assumption,by omega⟩ | (exfalso;omega)
theorem out(hT:T≤100)(hJ:J T R s)(ht:t < T)(hR:R≤100)(hc:codes[t]? = some (codeT T R t))(hgo:s.stepT codes t=some s'):(L T R).Out t s s':=by
 obtain⟨⟨f,i,h⟩,hr,ho⟩:=hJ
 have S:=stand hT h ht hc
 obtain⟨gg,mi,pi,mn,pd,F,Q,hW⟩:=h.I
 have hI:=hW.hat t ht
 have hnm:=h.nm
 have hths:s.ths.length=T:=h.nths
 have W:=S.way (s':=s') (by rw [h.nb];exact ht) hr (chk_op (hst T t)) hgo
 have hpd:=hW.hpd t ht
 generalize f t=x at S hI W
 obtain⟨p,j,r0,r1,r2,r3,r4,r5,r6,r7,st⟩:=x
 refine Lad.out_of (X:=L T R) (lev:=lev) (loop:=loop) (B:=base T t) S W h.nths h.nb ht (by show R*37≤1000000;omega) (by show 0 < 37;decide) (hl T R t) (hflat T R t) (chk_st (hst T t)) ?_
 intro i2 th' hlp hp hj h0 hi hA hd hr2 Tn
 have hs:=S.hs
 have h0:st=0:=h0
 subst h0
 have c:j=12∨j=13:=by
  unfold loop at hlp
  simp only [Bool.and_eq_true,Bool.or_eq_true,decide_eq_true_eq] at hlp
  omega
 rcases c with rfl | rfl
 ·obtain rfl:(⟨16,6,4,0,18⟩:Ins)=i2:=Option.some.inj hi
  rw [movI_plain rfl] at hA
  obtain⟨h4,hg⟩:=at12 hI (.inl rfl)
  have hp5:=hpd hg
  have h4:r4=(pd t:Int):=h4
  have hw:wr32 (r4+18)=(((wr32 (r4+18)).toNat:Nat):Int):=by rw [h4];unfold wr32;omega
  have hlt:(wr32 (r4+18)).toNat < s.mem.length:=by
   have hnm:s.mem.length=19+3*T:=hnm
   rw [hnm,h4];unfold wr32;omega
  have e:=st_load hA (ad:=(wr32 (r4+18)).toNat) hw hlt
  rw [hgo] at e
  have e:=Option.some.inj e
  refine Lad.out_keep (X:=L T R) (j:=12) (k:=13) (th':=(⟨((p*37+12:Nat):Int)+1,[r0,r1,r2,r3,r4,r5,s.load t (wr32 (r4+18)).toNat,r7],0⟩:Th)) (by rw [e];rfl) (by rw [e];rfl) (by rw [e];rfl) hs rfl rfl hj hp rfl (by show ((p*37+12:Nat):Int)+1=((p*37+13:Nat):Int);omega) (by show 13 < 37;decide) ((lv_eq 13 (⟨((p*37+12:Nat):Int)+1,[r0,r1,r2,r3,r4,r5,s.load t (wr32 (r4+18)).toNat,r7],0⟩:Th)).trans ((rfl:lev 13=lev 12).trans (lv_eq 12 (Loc.th 37 ⟨p,12,r0,r1,r2,r3,r4,r5,r6,r7,0⟩)).symm)) fun hq0=>?_
  have hl2:=load_nil hq0 (wr32 (r4+18)).toNat
  by_cases hz:s.mem.getD (wr32 (r4+18)).toNat 0=0
  ·exact .inl (by show locE 13 _ s.mem < locE 12 _ s.mem;rw [loc12 (th:=(Loc.th 37 ⟨p,12,r0,r1,r2,r3,r4,r5,r6,r7,0⟩)) hz,loc13z (th:=(⟨((p*37+12:Nat):Int)+1,[r0,r1,r2,r3,r4,r5,s.load t (wr32 (r4+18)).toNat,r7],0⟩:Th)) hz (hl2.trans hz)];decide)
  ·exact .inr ⟨coldE_iff.2 ⟨hz,.inl rfl⟩,coldE_iff.2 ⟨hz,.inr ⟨rfl,fun e=>hz (hl2.symm.trans e)⟩⟩,by show locE 13 _ s.mem≤locE 12 _ s.mem;rw [locE_z (th:=(⟨((p*37+12:Nat):Int)+1,[r0,r1,r2,r3,r4,r5,s.load t (wr32 (r4+18)).toNat,r7],0⟩:Th)) hz,locE_z (th:=(Loc.th 37 ⟨p,12,r0,r1,r2,r3,r4,r5,r6,r7,0⟩)) hz];exact Nat.le_refl _⟩
 ·obtain rfl:(⟨15,6,0,0,12⟩:Ins)=i2:=Option.some.inj hi
  rw [movI_jump rfl] at hA
  have e:=st_some hA
  rw [hgo] at e
  have e:=Option.some.inj e
  have hreg6:(Loc.th 37 ⟨p,13,r0,r1,r2,r3,r4,r5,r6,r7,0⟩).reg 6=r6:=rfl
  rw [hreg6] at e
  by_cases hz6:r6=0
  ·rw [if_neg (by intro c;exact c hz6)] at e
   have hth:=Tn.th_eq hs (th2:=(⟨((p*37+13:Nat):Int)+1,[r0,r1,r2,r3,r4,r5,r6,r7],0⟩:Th)) (by rw [e];rfl)
   exact Lad.out_lt (X:=L T R) (hl T R t) ht hths Tn hs rfl rfl hj hp (j:=13) (k:=14) (by rw [hth];exact (by show ((p*37+13:Nat):Int)+1=((p*37+14:Nat):Int);omega)) (by show 14 < 37;decide) (by rw [hth];have a:=lv_eq 13 (Loc.th 37 ⟨p,13,r0,r1,r2,r3,r4,r5,r6,r7,0⟩);have b:=lv_eq 14 (⟨((p*37+13:Nat):Int)+1,[r0,r1,r2,r3,r4,r5,r6,r7],0⟩:Th);show lvE 13 _ < lvE 14 _;rw [a,b];decide)
  ·rw [if_pos hz6] at e
   refine Lad.out_keep (X:=L T R) (j:=13) (k:=12) (th':=(⟨wr32 ((12:Int)+((p*37:Nat):Int)),[r0,r1,r2,r3,r4,r5,r6,r7],0⟩:Th)) (by rw [e];rfl) (by rw [e];rfl) (by rw [e];rfl) hs rfl rfl hj hp rfl (by show wr32 ((12:Int)+((p*37:Nat):Int))=((p*37+12:Nat):Int);have:p < R:=hp;unfold wr32;omega) (by show 12 < 37;decide) ((lv_eq 12 (⟨wr32 ((12:Int)+((p*37:Nat):Int)),[r0,r1,r2,r3,r4,r5,r6,r7],0⟩:Th)).trans ((rfl:lev 12=lev 13).trans (lv_eq 13 (Loc.th 37 ⟨p,13,r0,r1,r2,r3,r4,r5,r6,r7,0⟩)).symm)) fun _=>?_
   by_cases hz:s.mem.getD (wr32 (r4+18)).toNat 0=0
   ·exact .inl (by show locE 12 _ s.mem < locE 13 _ s.mem;rw [loc13n (th:=(Loc.th 37 ⟨p,13,r0,r1,r2,r3,r4,r5,r6,r7,0⟩)) hz hz6,loc12 (th:=(⟨wr32 ((12:Int)+((p*37:Nat):Int)),[r0,r1,r2,r3,r4,r5,r6,r7],0⟩:Th)) hz];decide)
   ·exact .inr ⟨coldE_iff.2 ⟨hz,.inr ⟨rfl,hz6⟩⟩,coldE_iff.2 ⟨hz,.inl rfl⟩,by show locE 12 _ s.mem≤locE 13 _ s.mem;rw [locE_z (th:=(⟨wr32 ((12:Int)+((p*37:Nat):Int)),[r0,r1,r2,r3,r4,r5,r6,r7],0⟩:Th)) hz,locE_z (th:=(Loc.th 37 ⟨p,13,r0,r1,r2,r3,r4,r5,r6,r7,0⟩)) hz];exact Nat.le_refl _⟩
theorem room_keep{f:Nat→Loc}{i:Int}(hT:T≤100)(h:(X T R).Inv s f i)(hr:0 < s.room)(hc:∀ t,t < T→codes[t]? = some (codeT T R t)){q:Nat×Nat}(hp:s.pick codes q=some s'):s'.room=s.room:=by
 rcases pick_cases hp h.slp with e | ⟨ht,e⟩ | ⟨ht,e⟩
 ·rw [e]
 ·have ht:q.2 < T:=by have e2:s.ths.length=T:=h.nths;omega
  exact ((stand hT h ht (hc _ ht)).way (s':=s') (by rw [h.nb];exact ht) hr (chk_op (hst T q.2)) e).room (by rw [h.nb];exact ht)
 ·have ht:q.2 < T:=by have e2:s.ths.length=T:=h.nths;omega
  rw [e]
  exact (s.flush_same q.2 (by rw [h.nb];exact ht)).room
theorem at_head{me ow c fw:Int}{mi pi mn pd gg:Nat}{r1 r2 r4 r5 r6 r7:Int}{j:Nat}(h:At T t me ow c fw mi pi mn pd gg j r1 r2 r4 r5 r6 r7 [])(hg:gg=3):j≠0:=by
 cases h<;>first | omega | (intro e;omega)
theorem fit(hT:T≤100)(hR0:0 < R)(hR:R≤100)(hc:∀ t,t < T→codes[t]? = some (codeT T R t)):(L T R).Fit codes (J T R) where
 len:=fun s ⟨⟨f,i,h⟩,_⟩=>⟨h.nths,h.nb,h.slp⟩
 go:=fun s p ⟨⟨f,i,h⟩,hr,ho⟩=>by
  obtain⟨s',h1,f',i',h2⟩:=run hT hR hc [p] h
  have hp:=run_one h1
  exact⟨s',hp,⟨f',i',h2⟩,by rw [room_keep hT h hr hc hp];exact hr,ho⟩
 step:=fun s t s' hJ ht hgo=>out hT hJ ht hR (hc t ht) hgo
 lo:=fun t th mem q=>by
  unfold Lad.lo
  split
  ·exact Nat.zero_le _
  ·show locE _ _ mem≤3
   unfold locE
   (repeat' split)<;>omega
 gone:=fun s ⟨⟨f,i,h⟩,hr,ho⟩ hall t ht=>by
  obtain⟨gg,mi,pi,mn,pd,F,Q,hW⟩:=h.I
  have hth:∀ u,u < T→s.th u=Loc.th 37 (f u):=fun u hu=>by unfold Ts.th;rw [h.hs u hu];rfl
  have key:∀ u,u < T→(f u).st=0→(f u).p < R∧(f u).j < 37→((f u).j=12∨(f u).j=13)∧s.mem.getD (adr (Loc.th 37 (f u))) 0≠0:=fun u hu h0 ⟨hp,hj⟩=>by
   have:=(hall u hu).2
   rw [(hall u hu).1,hth u hu] at this
   have:=(Lad.stuck_at (X:=L T R) (t:=u) h0 rfl hj hp _).1 this
   have:=coldE_iff.1 this
   refine⟨?_,this.1⟩
   rcases this.2 with c | c
   ·exact .inl c
   ·exact .inr c.1
  have hQ:Q=[]:=by
   cases hq:Q with
   | nil=>rfl
   | cons u r=>
    exfalso
    have hu:u < T:=hW.ltQ u (by rw [hq];simp)
    obtain⟨g3,hF,_⟩:=hW.hd u r hq
    have hI:=hW.hat u hu
    rw [(hall u hu).1] at hI
    have j0:=at_head hI g3
    rcases h.fr u hu with⟨k0,kp,kj⟩ | ⟨_,kj,_⟩
    ·obtain⟨kj2,km⟩:=key u hu k0 ⟨kp,kj⟩
     obtain⟨h4,_⟩:=at12 hI kj2
     apply km
     have e:adr (Loc.th 37 (f u))=18+F:=by
      show (wr32 ((f u).r4+18)).toNat=18+F
      rw [h4,hF]
      have:=hW.hF.1
      unfold wr32;omega
     rw [e];exact hW.hF.2
    ·exact j0 kj
  have hno:∀ u,u < T→gg u=0:=fun u hu=>by
   by_cases c:gg u=0
   ·exact c
   ·have:=(hW.inQ u hu).2 c
    rw [hQ] at this;cases this
  intro hst
  rw [hth t ht] at hst
  rcases h.fr t ht with⟨k0,kp,kj⟩ | ⟨kp,kj,k0⟩
  ·exact (at12 (hW.hat t ht) (key t ht k0 ⟨kp,kj⟩).1).2 (hno t ht)
  ·have hs:=(hall t ht).2
   rw [(hall t ht).1,hth t ht] at hs
   exact Lad.stuck_end hs (by show (((f t).p*37+(f t).j:Nat):Int)=((R*37:Nat):Int);have kp:(f t).p=R:=kp;rw [kp,kj];rfl) (by show 0 < 37;decide) hst
end
end Go.Proofs.YtckmkaeopnnbbaaGreatDoor.As.Clh
