/- Plain Lean: a lock whose waiters look at their own node: all end. No program in sight. -/
import Derived.Test.YtckmkaeopnnbbaaGreatDoorGq
import Derived.Test.YtckmkaeopnnbbaaGreatDoorTqb
set_option linter.unusedVariables false
set_option linter.unusedSimpArgs false
namespace Go.Proofs.YtckmkaeopnnbbaaGreatDoor.As.Mcs

def lev(j:Nat):Nat:=if j≤15 then j else if j≤40 then j - 1 else if j=41 then 39 else min (j - 2) 45
def loop(j:Nat):Bool:=(decide (15≤j) && decide (j≤16)) || (decide (40≤j) && decide (j≤41))
@[irreducible] def lvE (j:Nat) (th:Th):Nat:=lev j
@[irreducible] def locE (T t j:Nat) (th:Th) (mem:List Int):Nat:=if j=15∨j=16 then (if mem.getD (18+T+t) 0=0 then (if j=15 then 2 else if th.reg 6=0 then 1 else 3) else 0) else if j=40∨j=41 then (if mem.getD (18+t) 0≠0 then (if j=40 then 2 else if th.reg 4≠0 then 1 else 3) else 0) else 0
@[irreducible] def coldE (T t j:Nat) (th:Th) (mem:List Int):Bool:=decide ((mem.getD (18+T+t) 0≠0∧(j=15∨(j=16∧th.reg 6≠0)))∨(mem.getD (18+t) 0=0∧(j=40∨(j=41∧th.reg 4=0))))
def L(T R:Nat):Lad:=⟨T,R,3,fun _=>46,fun _=>46,fun _ j th=>lvE j th,fun t j th mem=>locE T t j th mem,fun t j th mem=>coldE T t j th mem⟩
def bad(me:Int)(th:Th):Prop:=(th.pc.toNat % 46=38∧th.reg 4≠me)∨(th.pc.toNat % 46=39∧th.reg 6=0)∨th.pc.toNat % 46=40∨th.pc.toNat % 46=41
def J(T R:Nat)(s:Ts):Prop:=(∃ f i,(X T R).Inv s f i)∧0 < s.room∧∀ t,t < T→bad (meN t) (s.th t)→s.mem.getD 16 0≠meN t
theorem lv_eq(j:Nat)(th:Th):lvE j th=lev j:=by unfold lvE;rfl
theorem coldE_iff{T t j:Nat}{th:Th}{mem:List Int}:coldE T t j th mem=true↔((mem.getD (18+T+t) 0≠0∧(j=15∨(j=16∧th.reg 6≠0)))∨(mem.getD (18+t) 0=0∧(j=40∨(j=41∧th.reg 4=0)))):=by unfold coldE;exact decide_eq_true_iff
section
variable{T t:Nat}{th:Th}{mem:List Int}
theorem loc15(h:mem.getD (18+T+t) 0=0):locE T t 15 th mem=2:=by unfold locE;rw [if_pos (.inl rfl),if_pos h,if_pos rfl]
theorem loc15z(h:mem.getD (18+T+t) 0≠0):locE T t 15 th mem=0:=by unfold locE;rw [if_pos (.inl rfl),if_neg h]
theorem loc16a(h:mem.getD (18+T+t) 0=0)(h6:th.reg 6=0):locE T t 16 th mem=1:=by unfold locE;rw [if_pos (.inr rfl),if_pos h,if_neg (by decide),if_pos h6]
theorem loc16b(h:mem.getD (18+T+t) 0=0)(h6:th.reg 6≠0):locE T t 16 th mem=3:=by unfold locE;rw [if_pos (.inr rfl),if_pos h,if_neg (by decide),if_neg h6]
theorem loc16z(h:mem.getD (18+T+t) 0≠0):locE T t 16 th mem=0:=by unfold locE;rw [if_pos (.inr rfl),if_neg h]
theorem loc40(h:mem.getD (18+t) 0≠0):locE T t 40 th mem=2:=by unfold locE;rw [if_neg (by decide),if_pos (.inl rfl),if_pos h,if_pos rfl]
theorem loc40z(h:mem.getD (18+t) 0=0):locE T t 40 th mem=0:=by unfold locE;rw [if_neg (by decide),if_pos (.inl rfl),if_neg (fun c=>c h)]
theorem loc41a(h:mem.getD (18+t) 0≠0)(h4:th.reg 4≠0):locE T t 41 th mem=1:=by unfold locE;rw [if_neg (by decide),if_pos (.inr rfl),if_pos h,if_neg (by decide),if_pos h4]
theorem loc41b(h:mem.getD (18+t) 0≠0)(h4:th.reg 4=0):locE T t 41 th mem=3:=by unfold locE;rw [if_neg (by decide),if_pos (.inr rfl),if_pos h,if_neg (by decide),if_neg (fun c=>c h4)]
theorem loc41z(h:mem.getD (18+t) 0=0):locE T t 41 th mem=0:=by unfold locE;rw [if_neg (by decide),if_pos (.inr rfl),if_neg (fun c=>c h)]
end
theorem hkeep(T t:Nat):keepL 46 (fun j=>j == 12 || j == 37) (base T t)=true:=rfl
def chkB(T t:Nat):Bool:=(List.range 46).all fun j=>(decide (37≤j) && decide (j≤41)) || match (base T t)[j]? with
 | some i=>(decide (i.op=13) || !(decide (38≤j+1) && decide (j+1≤41))) && (!(jumps i.op) || (decide (0≤i.k) && decide (i.k.toNat < 46) && !(decide (38≤i.k.toNat) && decide (i.k.toNat≤41))))
 | none=>false
theorem chkB_all(T t:Nat):chkB T t=true:=rfl
theorem chkB_at{T t j:Nat}{i:Ins}(hj:j < 46)(h1:¬(37≤j∧j≤41))(hi:(base T t)[j]? = some i):(i.op=13∨¬(38≤j+1∧j+1≤41))∧(jumps i.op=true→0≤i.k∧i.k.toNat < 46∧¬(38≤i.k.toNat∧i.k.toNat≤41)):=by
 have:=List.all_eq_true.1 (chkB_all T t) j (List.mem_range.2 hj)
 simp only [hi,Bool.and_eq_true,Bool.or_eq_true,Bool.not_eq_true',decide_eq_true_eq,Bool.and_eq_false_iff,decide_eq_false_iff_not] at this
 rcases this with c | ⟨c,d⟩
 ·exact absurd c h1
 ·refine⟨by rcases c with c | c;exact .inl c;exact .inr (by omega),fun hjm=>?_⟩
  rcases d with d | d
  ·rw [hjm] at d;cases d
  ·exact⟨d.1.1,d.1.2,by omega⟩
theorem wr_small{k:Int}{p:Nat}(h0:0≤k)(hk:k.toNat < 46)(hp:p < 100):(wr32 (k+((p*46:Nat):Int))).toNat=p*46+k.toNat:=by
 have e:wr32 (k+((p*46:Nat):Int))=k+((p*46:Nat):Int):=Int.emod_eq_of_lt (by omega) (by omega)
 rw [e];omega
theorem hl(T R t:Nat):∀ j th,lev j≤(L T R).lv t j th∧(L T R).lv t j th < (L T R).Lm t:=fun j th=>by
 show lev j≤lvE j th∧lvE j th < 46
 rw [lv_eq]
 refine⟨Nat.le_refl _,?_⟩
 unfold lev
 (repeat' split)<;>omega
theorem hflat(T R t:Nat):∀ j th,loop j=false→(L T R).lv t j th=lev j:=fun j th h=>lv_eq j th
theorem hst(T t:Nat):chkL 46 lev loop (base T t)=true:=rfl
section
variable{T R t:Nat}{codes:List (List Ins)}{s s':Ts}
theorem stand{f:Nat→Loc}{i:Int}(hT:T≤100)(h:(X T R).Inv s f i)(ht:t < T)(hc:codes[t]? = some (codeT T R t)):Stand codes 46 R (base T t) s t (Loc.th 46 (f t)) (f t).p (f t).j:=
 ⟨h.hs t ht,rfl,h.fr t ht,_,hc,code_len T R t hT (by omega),fun p j hp hj=>code_get T R t p j hT (by omega) hp hj⟩
theorem out(hT:T≤100)(hJ:J T R s)(ht:t < T)(hR:R≤100)(hc:codes[t]? = some (codeT T R t))(hgo:s.stepT codes t=some s'):(L T R).Out t s s':=by
 obtain⟨⟨f,i,h⟩,hr,ho⟩:=hJ
 have S:=stand hT h ht hc
 obtain⟨gg,pv,nv,Q,hW⟩:=h.I
 have hI:=hW.hat t ht
 have hnm:=h.nm
 have hths:s.ths.length=T:=h.nths
 have W:=S.way (s':=s') (by rw [h.nb];exact ht) hr (chk_op (hst T t)) hgo
 generalize f t=x at S hI W
 obtain⟨p,j,r0,r1,r2,r3,r4,r5,r6,r7,st⟩:=x
 refine Lad.out_of (X:=L T R) (lev:=lev) (loop:=loop) (B:=base T t) S W h.nths h.nb ht (by show R*46≤1000000;omega) (by show 0 < 46;decide) (hl T R t) (hflat T R t) (chk_st (hst T t)) ?_
 intro i2 th' hlp hp hj h0 hi hA hd hr2 Tn
 have hs:=S.hs
 have h0:st=0:=h0
 subst h0
 have c:j=15∨j=16∨j=40∨j=41:=by
  unfold loop at hlp
  simp only [Bool.and_eq_true,Bool.or_eq_true,decide_eq_true_eq] at hlp
  omega
 rcases c with rfl | rfl | rfl | rfl
 ·obtain rfl:(⟨16,6,8,0,((18+T+t:Nat):Int)⟩:Ins)=i2:=Option.some.inj hi
  rw [movI_plain rfl] at hA
  have hlt:(18+T+t) < s.mem.length:=by
   have hnm:s.mem.length=18+2*T:=hnm
   omega
  have e:=st_load hA (ad:=(18+T+t)) (addr_abs _ _ _ _ _) hlt
  rw [hgo] at e
  have e:=Option.some.inj e
  refine Lad.out_keep (X:=L T R) (j:=15) (k:=16) (th':=(⟨((p*46+15:Nat):Int)+1,[r0,r1,r2,r3,r4,r5,s.load t (18+T+t),r7],0⟩:Th)) (by rw [e];rfl) (by rw [e];rfl) (by rw [e];rfl) hs rfl rfl hj hp rfl (by show ((p*46+15:Nat):Int)+1=((p*46+16:Nat):Int);omega) (by show 16 < 46;decide) ((lv_eq 16 (⟨((p*46+15:Nat):Int)+1,[r0,r1,r2,r3,r4,r5,s.load t (18+T+t),r7],0⟩:Th)).trans ((rfl:lev 16=lev 15).trans (lv_eq 15 (Loc.th 46 ⟨p,15,r0,r1,r2,r3,r4,r5,r6,r7,0⟩)).symm)) fun hq0=>?_
  have hl2:=load_nil hq0 (18+T+t)
  by_cases hz:s.mem.getD (18+T+t) 0=0
  ·exact .inl (by show locE T t 16 _ s.mem < locE T t 15 _ s.mem;rw [loc15 (th:=(Loc.th 46 ⟨p,15,r0,r1,r2,r3,r4,r5,r6,r7,0⟩)) hz,loc16a (th:=(⟨((p*46+15:Nat):Int)+1,[r0,r1,r2,r3,r4,r5,s.load t (18+T+t),r7],0⟩:Th)) hz (hl2.trans hz)];decide)
  ·exact .inr ⟨coldE_iff.2 (.inl ⟨hz,.inl rfl⟩),coldE_iff.2 (.inl ⟨hz,.inr ⟨rfl,fun e=>hz (hl2.symm.trans e)⟩⟩),by show locE T t 16 _ s.mem≤locE T t 15 _ s.mem;rw [loc16z (th:=(⟨((p*46+15:Nat):Int)+1,[r0,r1,r2,r3,r4,r5,s.load t (18+T+t),r7],0⟩:Th)) hz,loc15z (th:=(Loc.th 46 ⟨p,15,r0,r1,r2,r3,r4,r5,r6,r7,0⟩)) hz];exact Nat.le_refl _⟩
 ·obtain rfl:(⟨15,6,0,0,15⟩:Ins)=i2:=Option.some.inj hi
  rw [movI_jump rfl] at hA
  have e:=st_some hA
  rw [hgo] at e
  have e:=Option.some.inj e
  have hreg6:(Loc.th 46 ⟨p,16,r0,r1,r2,r3,r4,r5,r6,r7,0⟩).reg 6=r6:=rfl
  rw [hreg6] at e
  by_cases hz6:r6=0
  ·rw [if_neg (by intro c;exact c hz6)] at e
   have hth:=Tn.th_eq hs (th2:=(⟨((p*46+16:Nat):Int)+1,[r0,r1,r2,r3,r4,r5,r6,r7],0⟩:Th)) (by rw [e];rfl)
   exact Lad.out_lt (X:=L T R) (hl T R t) ht hths Tn hs rfl rfl hj hp (j:=16) (k:=17) (by rw [hth];exact (by show ((p*46+16:Nat):Int)+1=((p*46+17:Nat):Int);omega)) (by show 17 < 46;decide) (by rw [hth];have a:=lv_eq 16 (Loc.th 46 ⟨p,16,r0,r1,r2,r3,r4,r5,r6,r7,0⟩);have b:=lv_eq 17 (⟨((p*46+16:Nat):Int)+1,[r0,r1,r2,r3,r4,r5,r6,r7],0⟩:Th);show lvE 16 _ < lvE 17 _;rw [a,b];decide)
  ·rw [if_pos hz6] at e
   refine Lad.out_keep (X:=L T R) (j:=16) (k:=15) (th':=(⟨wr32 ((15:Int)+((p*46:Nat):Int)),[r0,r1,r2,r3,r4,r5,r6,r7],0⟩:Th)) (by rw [e];rfl) (by rw [e];rfl) (by rw [e];rfl) hs rfl rfl hj hp rfl (by show wr32 ((15:Int)+((p*46:Nat):Int))=((p*46+15:Nat):Int);have:p < R:=hp;unfold wr32;omega) (by show 15 < 46;decide) ((lv_eq 15 (⟨wr32 ((15:Int)+((p*46:Nat):Int)),[r0,r1,r2,r3,r4,r5,r6,r7],0⟩:Th)).trans ((rfl:lev 15=lev 16).trans (lv_eq 16 (Loc.th 46 ⟨p,16,r0,r1,r2,r3,r4,r5,r6,r7,0⟩)).symm)) fun _=>?_
   by_cases hz:s.mem.getD (18+T+t) 0=0
   ·exact .inl (by show locE T t 15 _ s.mem < locE T t 16 _ s.mem;rw [loc16b (th:=(Loc.th 46 ⟨p,16,r0,r1,r2,r3,r4,r5,r6,r7,0⟩)) hz hz6,loc15 (th:=(⟨wr32 ((15:Int)+((p*46:Nat):Int)),[r0,r1,r2,r3,r4,r5,r6,r7],0⟩:Th)) hz];decide)
   ·exact .inr ⟨coldE_iff.2 (.inl ⟨hz,.inr ⟨rfl,hz6⟩⟩),coldE_iff.2 (.inl ⟨hz,.inl rfl⟩),by show locE T t 15 _ s.mem≤locE T t 16 _ s.mem;rw [loc15z (th:=(⟨wr32 ((15:Int)+((p*46:Nat):Int)),[r0,r1,r2,r3,r4,r5,r6,r7],0⟩:Th)) hz,loc16z (th:=(Loc.th 46 ⟨p,16,r0,r1,r2,r3,r4,r5,r6,r7,0⟩)) hz];exact Nat.le_refl _⟩
 ·obtain rfl:(⟨16,4,8,0,((18+t:Nat):Int)⟩:Ins)=i2:=Option.some.inj hi
  rw [movI_plain rfl] at hA
  have hlt:(18+t) < s.mem.length:=by
   have hnm:s.mem.length=18+2*T:=hnm
   omega
  have e:=st_load hA (ad:=(18+t)) (addr_abs _ _ _ _ _) hlt
  rw [hgo] at e
  have e:=Option.some.inj e
  refine Lad.out_keep (X:=L T R) (j:=40) (k:=41) (th':=(⟨((p*46+40:Nat):Int)+1,[r0,r1,r2,r3,s.load t (18+t),r5,r6,r7],0⟩:Th)) (by rw [e];rfl) (by rw [e];rfl) (by rw [e];rfl) hs rfl rfl hj hp rfl (by show ((p*46+40:Nat):Int)+1=((p*46+41:Nat):Int);omega) (by show 41 < 46;decide) ((lv_eq 41 (⟨((p*46+40:Nat):Int)+1,[r0,r1,r2,r3,s.load t (18+t),r5,r6,r7],0⟩:Th)).trans ((rfl:lev 41=lev 40).trans (lv_eq 40 (Loc.th 46 ⟨p,40,r0,r1,r2,r3,r4,r5,r6,r7,0⟩)).symm)) fun hq0=>?_
  have hl2:=load_nil hq0 (18+t)
  by_cases hz:s.mem.getD (18+t) 0=0
  ·exact .inr ⟨coldE_iff.2 (.inr ⟨hz,.inl rfl⟩),coldE_iff.2 (.inr ⟨hz,.inr ⟨rfl,hl2.trans hz⟩⟩),by show locE T t 41 _ s.mem≤locE T t 40 _ s.mem;rw [loc41z (th:=(⟨((p*46+40:Nat):Int)+1,[r0,r1,r2,r3,s.load t (18+t),r5,r6,r7],0⟩:Th)) hz,loc40z (th:=(Loc.th 46 ⟨p,40,r0,r1,r2,r3,r4,r5,r6,r7,0⟩)) hz];exact Nat.le_refl _⟩
  ·exact .inl (by show locE T t 41 _ s.mem < locE T t 40 _ s.mem;rw [loc40 (th:=(Loc.th 46 ⟨p,40,r0,r1,r2,r3,r4,r5,r6,r7,0⟩)) hz,loc41a (th:=(⟨((p*46+40:Nat):Int)+1,[r0,r1,r2,r3,s.load t (18+t),r5,r6,r7],0⟩:Th)) hz (fun e=>hz (hl2.symm.trans e))];decide)
 ·obtain rfl:(⟨14,4,0,0,40⟩:Ins)=i2:=Option.some.inj hi
  rw [movI_jump rfl] at hA
  have e:=st_zero hA
  rw [hgo] at e
  have e:=Option.some.inj e
  have hreg4:(Loc.th 46 ⟨p,41,r0,r1,r2,r3,r4,r5,r6,r7,0⟩).reg 4=r4:=rfl
  rw [hreg4] at e
  by_cases hz4:r4=0
  ·rw [if_pos hz4] at e
   refine Lad.out_keep (X:=L T R) (j:=41) (k:=40) (th':=(⟨wr32 ((40:Int)+((p*46:Nat):Int)),[r0,r1,r2,r3,r4,r5,r6,r7],0⟩:Th)) (by rw [e];rfl) (by rw [e];rfl) (by rw [e];rfl) hs rfl rfl hj hp rfl (by show wr32 ((40:Int)+((p*46:Nat):Int))=((p*46+40:Nat):Int);have:p < R:=hp;unfold wr32;omega) (by show 40 < 46;decide) ((lv_eq 40 (⟨wr32 ((40:Int)+((p*46:Nat):Int)),[r0,r1,r2,r3,r4,r5,r6,r7],0⟩:Th)).trans ((rfl:lev 40=lev 41).trans (lv_eq 41 (Loc.th 46 ⟨p,41,r0,r1,r2,r3,r4,r5,r6,r7,0⟩)).symm)) fun _=>?_
   by_cases hz:s.mem.getD (18+t) 0=0
   ·exact .inr ⟨coldE_iff.2 (.inr ⟨hz,.inr ⟨rfl,hz4⟩⟩),coldE_iff.2 (.inr ⟨hz,.inl rfl⟩),by show locE T t 40 _ s.mem≤locE T t 41 _ s.mem;rw [loc40z (th:=(⟨wr32 ((40:Int)+((p*46:Nat):Int)),[r0,r1,r2,r3,r4,r5,r6,r7],0⟩:Th)) hz,loc41z (th:=(Loc.th 46 ⟨p,41,r0,r1,r2,r3,r4,r5,r6,r7,0⟩)) hz];exact Nat.le_refl _⟩
   ·exact .inl (by show locE T t 40 _ s.mem < locE T t 41 _ s.mem;rw [loc41b (th:=(Loc.th 46 ⟨p,41,r0,r1,r2,r3,r4,r5,r6,r7,0⟩)) hz hz4,loc40 (th:=(⟨wr32 ((40:Int)+((p*46:Nat):Int)),[r0,r1,r2,r3,r4,r5,r6,r7],0⟩:Th)) hz];decide)
  ·rw [if_neg hz4] at e
   have hth:=Tn.th_eq hs (th2:=(⟨((p*46+41:Nat):Int)+1,[r0,r1,r2,r3,r4,r5,r6,r7],0⟩:Th)) (by rw [e];rfl)
   exact Lad.out_lt (X:=L T R) (hl T R t) ht hths Tn hs rfl rfl hj hp (j:=41) (k:=42) (by rw [hth];exact (by show ((p*46+41:Nat):Int)+1=((p*46+42:Nat):Int);omega)) (by show 42 < 46;decide) (by rw [hth];have a:=lv_eq 41 (Loc.th 46 ⟨p,41,r0,r1,r2,r3,r4,r5,r6,r7,0⟩);have b:=lv_eq 42 (⟨((p*46+41:Nat):Int)+1,[r0,r1,r2,r3,r4,r5,r6,r7],0⟩:Th);show lvE 41 _ < lvE 42 _;rw [a,b];decide)
theorem ent16{me ow c wv:Int}{nv pv gg:Nat}{r1 r2 r4 r5 r6 r7:Int}{j:Nat}{e:Nat×Int}{r:List (Nat×Int)}(h:At T t me ow c wv nv pv gg j r1 r2 r4 r5 r6 r7 (e::r)):e.1≠16:=by
 cases h<;>first | exact (show (0:Nat)≠16 by decide) | exact (show (17:Nat)≠16 by decide) | exact (show 17+pv≠16 by omega) | exact (show 18+t≠16 by omega) | exact (show 18+T+t≠16 by omega) | exact (show 17+T+nv≠16 by omega)
theorem at_12{me ow c wv:Int}{nv pv gg:Nat}{r1 r2 r4 r5 r6 r7:Int}{q:List (Nat×Int)}(h:At T t me ow c wv nv pv gg 12 r1 r2 r4 r5 r6 r7 q):r4=me:=by
 cases h<;>assumption
theorem at_37{me ow c wv:Int}{nv pv gg:Nat}{r1 r2 r4 r5 r6 r7:Int}{q:List (Nat×Int)}(h:At T t me ow c wv nv pv gg 37 r1 r2 r4 r5 r6 r7 q):r4=me∧r6=0:=by
 cases h<;>exact⟨by assumption,by assumption⟩
theorem at_38{me ow c wv:Int}{nv pv gg:Nat}{r1 r2 r4 r5 r6 r7:Int}{q:List (Nat×Int)}(h:At T t me ow c wv nv pv gg 38 r1 r2 r4 r5 r6 r7 q):r5=me:=by
 cases h<;>assumption
theorem pl46{p j:Nat}{r:List Int}{st:Int}(hj:j < 46):(⟨((p*46+j:Nat):Int),r,st⟩:Th).pc.toNat % 46=j:=by
 show (((p*46+j:Nat):Int)).toNat % 46=j
 rw [Int.toNat_natCast];omega
theorem mem16_set{mem:List Int}{a:Nat}{v:Int}(h:a≠16):(mem.set a v).getD 16 0=mem.getD 16 0:=by
 rw [List.getD_eq_getElem?_getD,List.getElem?_set_ne h,←List.getD_eq_getElem?_getD]
theorem mem16_at{mem:List Int}{v:Int}(h:16 < mem.length):(mem.set 16 v).getD 16 0=v:=by
 rw [List.getD_eq_getElem?_getD,List.getElem?_set_self h];rfl
theorem keepE{f:Nat→Loc}{i:Int}(hT:T≤100)(hR:R≤100)(h:(X T R).Inv s f i)(hr:0 < s.room)(hc:∀ t,t < T→codes[t]? = some (codeT T R t))(ho:∀ t,t < T→bad (meN t) (s.th t)→s.mem.getD 16 0≠meN t){q:Nat×Nat}(hp:s.pick codes q=some s'):s'.room=s.room∧∀ t,t < T→bad (meN t) (s'.th t)→s'.mem.getD 16 0≠meN t:=by
 obtain⟨gg,pv,nv,Q,hW⟩:=h.I
 have hnm:s.mem.length=18+2*T:=h.nm
 have hfl:∀ t,t < T→∀ u,u < T→bad (meN u) ((s.flush t).th u)→(s.flush t).mem.getD 16 0≠meN u:=fun t ht u hu hb=>by
  have hth:(s.flush t).th u=s.th u:=by unfold Ts.th;rw [(s.flush_same t (by rw [h.nb];exact ht)).ths]
  rw [hth] at hb
  have hm:(s.flush t).mem.getD 16 0=s.mem.getD 16 0:=by
   rcases mem_flush s t with e | ⟨e,r,hq,hm⟩
   ·rw [e]
   ·have hat:=hW.hat t ht
    rw [hq] at hat
    rw [hm,mem16_set (ent16 hat)]
  rw [hm];exact ho u hu hb
 rcases pick_cases hp h.slp with e | ⟨ht,e⟩ | ⟨ht,e⟩
 ·rw [e];exact⟨rfl,ho⟩
 ·have ht:q.2 < T:=by have e2:s.ths.length=T:=h.nths;omega
  have hlt:q.2 < s.ths.length:=by have e2:s.ths.length=T:=h.nths;omega
  have S:=stand hT h ht (hc _ ht)
  have W:=S.way (s':=s') (by rw [h.nb];exact ht) hr (chk_op (hst T q.2)) e
  refine⟨W.room (by rw [h.nb];exact ht),?_⟩
  have hI:=hW.hat _ ht
  have hth0:s.th q.2=Loc.th 46 (f q.2):=by unfold Ts.th;rw [h.hs _ ht];rfl
  have hob:=ho q.2 ht
  rw [hth0] at hob
  cases W with
  | flush e _=>rw [e];exact hfl _ ht
  | still _ e=>rw [e];exact ho
  | ended h0 hp hj e2=>
   intro u hu hb
   have e3:=th_set (s:=s) (t:=q.2) (th':={ Loc.th 46 (f q.2) with st:=2 }) rfl hlt s' (by rw [e2];rfl)
   have hm:s'.mem=s.mem:=by rw [e2];rfl
   rw [hm]
   rw [e3] at hb
   by_cases c:u=q.2
   ·rw [if_pos c] at hb
    have e5:({ Loc.th 46 (f q.2) with st:=2 }:Th).pc.toNat % 46=0:=by
     show (((f q.2).p*46+(f q.2).j:Nat):Int).toNat % 46=0
     rw [Int.toNat_natCast,hj];omega
    unfold bad at hb
    rw [e5] at hb
    omega
   ·rw [if_neg c] at hb;exact ho u hu hb
  | turn i th' h0 hp hj hi hA hd hr2 Tn=>
   have e3:=th_set (s:=s) (t:=q.2) Tn.ths hlt s' rfl
   -- others: it is enough that the word is another one
   suffices hs:(∀ u,u < T→u≠q.2→s.mem.getD 16 0≠meN u→s'.mem.getD 16 0≠meN u)∧(bad (meN q.2) th'→s'.mem.getD 16 0≠meN q.2) by
    intro u hu hb
    rw [e3] at hb
    by_cases c:u=q.2
    ·rw [if_pos c] at hb;subst c;exact hs.2 hb
    ·rw [if_neg c] at hb;exact hs.1 u hu c (ho u hu hb)
   have hs5:=S.hs
   generalize f q.2=x at S hI hob hs5 h0 hp hj hi hA Tn
   obtain⟨p,j,r0,r1,r2,r3,r4,r5,r6,r7,st⟩:=x
   have h0:st=0:=h0
   subst h0
   have hj:j < 46:=hj
   have hp:p < R:=hp
   have hi:(base T q.2)[j]? = some i:=hi
   have hI:At T q.2 (meN q.2) (s.mem.getD 17 0) (s.mem.getD 0 0) (s.mem.getD (18+T+q.2) 0) (nv q.2) (pv q.2) (gg q.2) j r1 r2 r4 r5 r6 r7 (s.buf q.2):=hI
   by_cases c12:j=12
   ·subst c12
    obtain rfl:(⟨19,4,8,0,16⟩:Ins)=i:=Option.some.inj hi
    rw [movI_plain rfl] at hA
    have e2:=st_swap hA (ad:=16) (addr_abs _ _ _ _ _) (by omega) (hd (by decide))
    rw [e] at e2
    have e2:=Option.some.inj e2
    have hth:=Tn.th_eq hs5 (th2:=_) (by rw [e2];rfl)
    have hm:s'.mem.getD 16 0=meN q.2:=by
     rw [e2]
     show (s.mem.set 16 r4).getD 16 0=_
     rw [mem16_at (by omega),at_12 hI]
    refine⟨fun u hu c _=>by rw [hm];exact meN_ne (fun e=>c e.symm),fun hb=>?_⟩
    have e5:th'.pc.toNat % 46=13:=by
     rw [hth]
     show (((p*46+12:Nat):Int)+1).toNat % 46=13
     omega
    unfold bad at hb
    rw [e5] at hb
    omega
   by_cases c37:j=37
   ·subst c37
    obtain rfl:(⟨21,4,8,6,16⟩:Ins)=i:=Option.some.inj hi
    rw [movI_plain rfl] at hA
    have hq:=empty_nil (hd (by decide))
    have hl2:=load_nil hq 16
    have e2:=st_cas hA (ad:=16) (addr_abs _ _ _ _ _) (by omega) (hd (by decide))
    obtain⟨h4,h6⟩:=at_37 hI
    have hreg:(Loc.th 46 ⟨p,37,r0,r1,r2,r3,r4,r5,r6,r7,0⟩).reg 4=meN q.2:=h4
    rw [e,hl2,hreg] at e2
    have e2:=Option.some.inj e2
    by_cases hz:s.mem.getD 16 0=meN q.2
    ·rw [if_pos hz] at e2
     have hm:s'.mem.getD 16 0=0:=by
      rw [e2]
      show (s.mem.set 16 r6).getD 16 0=_
      rw [mem16_at (by omega),h6]
     refine⟨fun u hu c _=>by rw [hm];have:=meN_pos u;omega,fun hb=>by rw [hm];have:=meN_pos q.2;omega⟩
    ·rw [if_neg hz] at e2
     have hm:s'.mem=s.mem:=by rw [e2];rfl
     rw [hm]
     exact⟨fun u hu c k=>k,fun _=>hz⟩
   have hno:=keep_op (hkeep T q.2) hj (by simp [c12,c37]) hi
   have hm:s'.mem=s.mem:=by
    have hm:=Tn.mem
    rw [movI_op] at hm
    exact hm hno.1 hno.2.1 hno.2.2.1 hno.2.2.2
   rw [hm]
   refine⟨fun u hu c k=>k,fun hb=>?_⟩
   have hbad:∀ k,bad (meN q.2) (⟨((p*46+j:Nat):Int),k,0⟩:Th)=bad (meN q.2) (⟨((p*46+j:Nat):Int),k,0⟩:Th):=fun _=>rfl
   by_cases c38:j=38
   ·subst c38
    obtain rfl:(⟨12,6,4,5,0⟩:Ins)=i:=Option.some.inj hi
    rw [movI_plain rfl] at hA
    have e2:=st_same hA
    rw [e] at e2
    have e2:=Option.some.inj e2
    have h5:=at_38 hI
    apply hob
    refine .inl ⟨pl46 (j:=38) (by decide),fun h4=>?_⟩
    have h4:r4=meN q.2:=h4
    have hreg:(Loc.th 46 ⟨p,38,r0,r1,r2,r3,r4,r5,r6,r7,0⟩).reg 4=(Loc.th 46 ⟨p,38,r0,r1,r2,r3,r4,r5,r6,r7,0⟩).reg 5:=h4.trans h5.symm
    rw [if_pos hreg] at e2
    have hth:=Tn.th_eq hs5 (th2:=(⟨((p*46+38:Nat):Int)+1,[r0,r1,r2,r3,r4,r5,1,r7],0⟩:Th)) (by rw [e2];rfl)
    rw [hth] at hb
    have e5:(⟨((p*46+38:Nat):Int)+1,[r0,r1,r2,r3,r4,r5,1,r7],0⟩:Th).pc.toNat % 46=39:=by
     show (((p*46+38:Nat):Int)+1).toNat % 46=39
     omega
    unfold bad at hb
    rw [e5] at hb
    rcases hb with b | b | b | b
    ·omega
    ·exact absurd b.2 (show ¬((1:Int)=0) by decide)
    ·omega
    ·omega
   by_cases c39:j=39
   ·subst c39
    obtain rfl:(⟨15,6,0,0,44⟩:Ins)=i:=Option.some.inj hi
    rw [movI_jump rfl] at hA
    have e2:=st_some hA
    rw [e] at e2
    have e2:=Option.some.inj e2
    apply hob
    refine .inr (.inl ⟨pl46 (j:=39) (by decide),?_⟩)
    show r6=0
    by_cases h6:r6=0
    ·exact h6
    ·exfalso
     have hreg:(Loc.th 46 ⟨p,39,r0,r1,r2,r3,r4,r5,r6,r7,0⟩).reg 6≠0:=h6
     rw [if_pos hreg] at e2
     have hth:=Tn.th_eq hs5 (th2:=(⟨wr32 ((44:Int)+((p*46:Nat):Int)),[r0,r1,r2,r3,r4,r5,r6,r7],0⟩:Th)) (by rw [e2];rfl)
     rw [hth] at hb
     have e5:(⟨wr32 ((44:Int)+((p*46:Nat):Int)),[r0,r1,r2,r3,r4,r5,r6,r7],0⟩:Th).pc.toNat % 46=44:=by
      show (wr32 ((44:Int)+((p*46:Nat):Int))).toNat % 46=44
      rw [wr_small (by decide) (by decide) (by omega)]
      show (p*46+44) % 46=44
      omega
     unfold bad at hb
     rw [e5] at hb
     omega
   by_cases c40:j=40
   ·subst c40
    exact hob (.inr (.inr (.inl (pl46 (j:=40) (by decide)))))
   by_cases c41:j=41
   ·subst c41
    exact hob (.inr (.inr (.inr (pl46 (j:=41) (by decide)))))
   exfalso
   obtain⟨k1,k2⟩:=chkB_at hj (by omega) hi
   have hpl:∃ k,th'.pc.toNat % 46=k∧¬(38≤k∧k≤41):=by
    rcases Tn.pc with⟨d1,d2⟩ | ⟨d1,d2⟩
    ·rw [movI_op] at d1
     refine⟨_,rfl,?_⟩
     rw [d2]
     show ¬(38≤((((p*46+j:Nat):Int)+1).toNat % 46)∧_)
     have e6:(((p*46+j:Nat):Int)+1).toNat=p*46+j+1:=by omega
     show ¬(38≤((((p*46+j:Nat):Int)+1).toNat % 46)∧((((p*46+j:Nat):Int)+1).toNat % 46)≤41)
     rw [e6]
     rcases k1 with k1 | k1
     ·exact absurd k1 d1
     ·omega
    ·rw [movI_op] at d1
     have hjm:jumps i.op=true:=by
      unfold jumps
      rcases d1 with d | d | d<;>rw [d]<;>rfl
     obtain⟨m1,m2,m3⟩:=k2 hjm
     refine⟨i.k.toNat,?_,m3⟩
     rw [d2,movI_jump hjm]
     show (wr32 (i.k+((p*46:Nat):Int))).toNat % 46=_
     rw [wr_small m1 m2 (by omega)]
     omega
   obtain⟨k,hk,hk2⟩:=hpl
   unfold bad at hb
   rw [hk] at hb
   omega
 ·have ht:q.2 < T:=by have e2:s.ths.length=T:=h.nths;omega
  rw [e]
  exact⟨(s.flush_same q.2 (by rw [h.nb];exact ht)).room,hfl _ ht⟩
theorem at_head{me ow c wv:Int}{nv pv gg:Nat}{r1 r2 r4 r5 r6 r7:Int}{j:Nat}(h:At T t me ow c wv nv pv gg j r1 r2 r4 r5 r6 r7 [])(hg:gg=3):j≠0∧((j=15∨j=16)→wv=0):=by
 cases h<;>first | (exfalso;omega) | exact⟨by omega,fun _=>by assumption⟩ | exact⟨by omega,fun e=>by omega⟩
theorem at_link{me ow c wv:Int}{nv pv gg:Nat}{r1 r2 r4 r5 r6 r7:Int}{j:Nat}(h:At T t me ow c wv nv pv gg j r1 r2 r4 r5 r6 r7 [])(hg:gg=1):j=13∨j=14:=by
 cases h<;>omega
theorem at_none{me ow c wv:Int}{nv pv gg:Nat}{r1 r2 r4 r5 r6 r7:Int}{j:Nat}{q:List (Nat×Int)}(h:At T t me ow c wv nv pv gg j r1 r2 r4 r5 r6 r7 q)(hj:j=15∨j=16∨j=40∨j=41):gg≠0:=by
 cases h<;>omega
theorem fit(hT:T≤100)(hR0:0 < R)(hR:R≤100)(hc:∀ t,t < T→codes[t]? = some (codeT T R t)):(L T R).Fit codes (J T R) where
 len:=fun s ⟨⟨f,i,h⟩,_⟩=>⟨h.nths,h.nb,h.slp⟩
 go:=fun s p ⟨⟨f,i,h⟩,hr,ho⟩=>by
  obtain⟨s',h1,f',i',h2⟩:=run hT hR hc [p] h
  have hp:=run_one h1
  have hk:=keepE hT hR h hr hc ho hp
  exact⟨s',hp,⟨f',i',h2⟩,by rw [hk.1];exact hr,hk.2⟩
 step:=fun s t s' hJ ht hgo=>out hT hJ ht hR (hc t ht) hgo
 lo:=fun t th mem q=>by
  unfold Lad.lo
  split
  ·exact Nat.zero_le _
  ·show locE _ _ _ _ mem≤3
   unfold locE
   (repeat' split)<;>omega
 gone:=fun s ⟨⟨f,i,h⟩,hr,ho⟩ hall t ht=>by
  obtain⟨gg,pv,nv,Q,hW⟩:=h.I
  have hth:∀ u,u < T→s.th u=Loc.th 46 (f u):=fun u hu=>by unfold Ts.th;rw [h.hs u hu];rfl
  have key:∀ u,u < T→(f u).st=0→(f u).p < R∧(f u).j < 46→(s.mem.getD (18+T+u) 0≠0∧((f u).j=15∨(f u).j=16))∨(s.mem.getD (18+u) 0=0∧((f u).j=40∨(f u).j=41)):=fun u hu h0 ⟨hp,hj⟩=>by
   have:=(hall u hu).2
   rw [(hall u hu).1,hth u hu] at this
   have:=(Lad.stuck_at (X:=L T R) (t:=u) h0 rfl hj hp _).1 this
   rcases coldE_iff.1 this with⟨a,b | b⟩ | ⟨a,b | b⟩
   ·exact .inl ⟨a,.inl b⟩
   ·exact .inl ⟨a,.inr b.1⟩
   ·exact .inr ⟨a,.inl b⟩
   ·exact .inr ⟨a,.inr b.1⟩
  have hQ:Q=[]:=by
   cases hq:Q with
   | nil=>rfl
   | cons u r=>
    exfalso
    have hu:u < T:=hW.ltQ u (by rw [hq];simp)
    obtain⟨g3,hch⟩:=hW.hd u r hq
    have hI:=hW.hat u hu
    rw [(hall u hu).1] at hI
    obtain⟨j0,jw⟩:=at_head hI g3
    rcases h.fr u hu with⟨k0,kp,kj⟩ | ⟨_,kj,_⟩
    ·rcases key u hu k0 ⟨kp,kj⟩ with⟨a,b⟩ | ⟨a,b⟩
     ·exact a (jw b)
     ·have hn0:nv u=0:=by
       have:=hW.hn u hu
       rw [a] at this
       omega
      cases hr2:r with
      | nil=>
       have htl:=hW.tl
       rw [hq,hr2] at htl
       have hb:bad (meN u) (s.th u):=by
        rw [hth u hu]
        have kj':(f u).j < 46:=kj
        have e5:(Loc.th 46 (f u)).pc.toNat % 46=(f u).j:=pl46 (p:=(f u).p) kj'
        rcases b with b | b
        ·exact .inr (.inr (.inl (e5.trans b)))
        ·exact .inr (.inr (.inr (e5.trans b)))
       exact ho u hu hb htl
      | cons v r3=>
       rw [hr2] at hch
       obtain⟨⟨_,hc1⟩,_⟩:=hch
       rcases hc1 with⟨g1,_⟩ | ⟨_,n1⟩
       ·have hv:v < T:=hW.ltQ v (by rw [hq,hr2];simp)
        have hIv:=hW.hat v hv
        rw [(hall v hv).1] at hIv
        have hjv:=at_link hIv g1
        rcases h.fr v hv with⟨m0,mp,mj⟩ | ⟨_,mj,_⟩
        ·rcases key v hv m0 ⟨mp,mj⟩ with⟨_,b2⟩ | ⟨_,b2⟩<;>omega
        ·omega
       ·omega
    ·exact j0 kj
  have hno:∀ u,u < T→gg u=0:=fun u hu=>by
   by_cases c:gg u=0
   ·exact c
   ·have:=(hW.inQ u hu).2 c
    rw [hQ] at this;cases this
  intro hst
  rw [hth t ht] at hst
  rcases h.fr t ht with⟨k0,kp,kj⟩ | ⟨kp,kj,k0⟩
  ·refine at_none (hW.hat t ht) ?_ (hno t ht)
   rcases key t ht k0 ⟨kp,kj⟩ with⟨_,b⟩ | ⟨_,b⟩
   ·rcases b with b | b
    ·exact .inl b
    ·exact .inr (.inl b)
   ·rcases b with b | b
    ·exact .inr (.inr (.inl b))
    ·exact .inr (.inr (.inr b))
  ·have hs:=(hall t ht).2
   rw [(hall t ht).1,hth t ht] at hs
   exact Lad.stuck_end hs (by show (((f t).p*46+(f t).j:Nat):Int)=((R*46:Nat):Int);have kp:(f t).p=R:=kp;rw [kp,kj];rfl) (by show 0 < 46;decide) hst
end
end Go.Proofs.YtckmkaeopnnbbaaGreatDoor.As.Mcs
