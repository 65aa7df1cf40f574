/- Plain Lean: what each instruction does to a machine tso. No program in sight. Plain Lean: what a thread sees of memory. No program in sight. Plain Lean: one at a time,and what is added up,as folds over events and threads. No program in sight. Plain Lean: threads that go through rounds on a machine tso; what of a lock's own is enough for one at a time. No program in sight. -/
import Derived.Test.YtckmkaeopnnbbaaGreatDoorGe
section
set_option linter.unusedVariables false
set_option linter.unusedSimpArgs false
namespace Go.Proofs.YtckmkaeopnnbbaaGreatDoor.As

structure AtI(codes:List (List Ins))(s:Ts)(t:Nat)(th:Th)(i:Ins):Prop where
 hs:s.ths[t]? = some th
 hc:∃ L,codes[t]? = some L∧L[th.pc.toNat]? = some i
 st:th.st=0
 pc:0≤th.pc
def Ts.upd(s:Ts)(t:Nat)(th:Th):Ts:={ s with ths:=s.ths.set t th }
theorem stepT_at{codes:List (List Ins)}{s:Ts}{t:Nat}{th:Th}{i:Ins}(h:AtI codes s t th i):
  s.stepT codes t=(if asksI i.op∧(s.mem.length:Int)≤addrI th i then none
   else if (drainsI i.op∧s.empty t=false)∨(i.op=17∧s.roomy t=false) then some (th,s.flush t)
   else if i.op=0 then some ({ th with st:=2 },s.note t ⟨12,0,th.pc,0,0,0,0,false⟩)
   else if jumpsI i.op then some (if goesI i th=true then { th with pc:=i.k } else th.next,s)
   else if asksI i.op then (asks (tsP t) i (addrI th i).toNat th s).map fun q=>(q.1.next,q.2)
   else (plainI (tsP t) i th s).map fun q=>(q.1.next,q.2)).map fun q:Th×Ts=>{ q.2 with ths:=q.2.ths.set t q.1 }:=by
 obtain⟨L,hL,hi⟩:=h.hc
 have hlt:=(List.getElem?_eq_some_iff.1 hi).1
 have hp:=h.pc
 unfold Ts.stepT
 rw [h.hs,hL]
 show (stepI (tsP t) L th s).map _=_
 unfold stepI
 rw [if_neg (fun e=>e h.st),if_neg (by omega),hi]
 show Option.map _ (if asksI i.op∧(s.mem.length:Int)≤(if asksI i.op then addrI th i else 0) then none else if (drainsI i.op∧s.empty t=false)∨(i.op=17∧s.roomy t=false) then _ else _)=_
 by_cases ha:asksI i.op
 ·simp only [if_pos ha];rfl
 ·simp only [if_neg ha,ha,false_and,if_false];rfl
theorem stepT_end{codes:List (List Ins)}{s:Ts}{t:Nat}{th:Th}{L:List Ins}(hs:s.ths[t]? = some th)(hL:codes[t]? = some L)(h0:th.st=0)(hp:(L.length:Int)≤th.pc):
  s.stepT codes t=some ((s.note t ⟨12,0,th.pc,0,0,0,0,false⟩).upd t { th with st:=2 }):=by
 unfold Ts.stepT
 rw [hs,hL]
 show (stepI (tsP t) L th s).map _=_
 unfold stepI
 rw [if_neg (fun e=>e h0),if_pos (.inr hp)]
 rfl
theorem stepT_stop{codes:List (List Ins)}{s:Ts}{t:Nat}{th:Th}{L:List Ins}(hs:s.ths[t]? = some th)(hL:codes[t]? = some L)(h0:th.st≠0):s.stepT codes t=some s:=by
 unfold Ts.stepT
 rw [hs,hL]
 show (stepI (tsP t) L th s).map _=_
 unfold stepI
 rw [if_pos h0]
 show some { s with ths:=s.ths.set t th }=some s
 have:s.ths.set t th=s.ths:=by
  obtain⟨hlt,he⟩:=List.getElem?_eq_some_iff.1 hs
  rw [←he];exact List.set_getElem_self hlt
 rw [this]
section
variable{codes:List (List Ins)}{s:Ts}{t:Nat}{th:Th}{a b c k:Int}
theorem upd_flush(h:s.ths[t]? = some th):({ s.flush t with ths:=(s.flush t).ths.set t th }:Ts)=s.flush t:=by
 have h1:(s.flush t).ths=s.ths:=by unfold Ts.flush;split<;>rfl
 have:(s.flush t).ths.set t th=(s.flush t).ths:=by
  rw [h1]
  obtain⟨hlt,he⟩:=List.getElem?_eq_some_iff.1 h
  rw [←he];exact List.set_getElem_self hlt
 rw [this]
theorem st_set(h:AtI codes s t th ⟨1,a,b,c,k⟩):s.stepT codes t=some (s.upd t (th.put a k).next):=by
 rw [stepT_at h]
 simp [asksI,drainsI,jumpsI,plainI,Ts.upd]
theorem st_move(h:AtI codes s t th ⟨2,a,b,c,k⟩):s.stepT codes t=some (s.upd t (th.put a (th.reg b)).next):=by
 rw [stepT_at h]
 simp [asksI,drainsI,jumpsI,plainI,Ts.upd]
theorem st_add(h:AtI codes s t th ⟨3,a,b,c,k⟩):s.stepT codes t=some (s.upd t (th.put a (wr32 (th.reg b+th.reg c))).next):=by
 rw [stepT_at h]
 simp [asksI,drainsI,jumpsI,plainI,aluI,Ts.upd]
theorem st_same(h:AtI codes s t th ⟨12,a,b,c,k⟩):s.stepT codes t=some (s.upd t (th.put a (if th.reg b=th.reg c then 1 else 0)).next):=by
 rw [stepT_at h]
 simp [asksI,drainsI,jumpsI,plainI,aluI,Ts.upd]
theorem st_jump(h:AtI codes s t th ⟨13,a,b,c,k⟩):s.stepT codes t=some (s.upd t { th with pc:=k }):=by
 rw [stepT_at h]
 simp [asksI,drainsI,jumpsI,goesI,Ts.upd]
theorem st_zero(h:AtI codes s t th ⟨14,a,b,c,k⟩):s.stepT codes t=some (s.upd t (if th.reg a=0 then { th with pc:=k } else th.next)):=by
 rw [stepT_at h]
 simp [asksI,drainsI,jumpsI,goesI,Ts.upd]
theorem st_some(h:AtI codes s t th ⟨15,a,b,c,k⟩):s.stepT codes t=some (s.upd t (if th.reg a≠0 then { th with pc:=k } else th.next)):=by
 rw [stepT_at h]
 simp [asksI,drainsI,jumpsI,goesI,Ts.upd]
theorem st_mark(h:AtI codes s t th ⟨27,a,b,c,k⟩):s.stepT codes t=some ((s.note t ⟨7,0,th.pc,0,th.reg a,0,k,false⟩).upd t th.next):=by
 rw [stepT_at h]
 simp [asksI,drainsI,jumpsI,plainI,Ts.upd,tsP,Ts.note]
theorem addr_abs(th:Th)(op a c k:Int):addrI th ⟨op,a,8,c,k⟩=k:=by simp [addrI]
theorem st_load(h:AtI codes s t th ⟨16,a,b,c,k⟩){ad:Nat}(had:addrI th ⟨16,a,b,c,k⟩=ad)(hlt:ad < s.mem.length):
  s.stepT codes t=some ((s.note t ⟨1,0,th.pc,ad,s.load t ad,0,0,false⟩).upd t (th.put a (s.load t ad)).next):=by
 rw [stepT_at h,had]
 have h1:¬((s.mem.length:Int)≤(ad:Int)):=by omega
 simp [asksI,drainsI,jumpsI,asks,Ts.upd,tsP,Ts.note,h1]
theorem st_store(h:AtI codes s t th ⟨17,a,b,c,k⟩){ad:Nat}(had:addrI th ⟨17,a,b,c,k⟩=ad)(hlt:ad < s.mem.length):
  s.stepT codes t=some (if s.roomy t=true then ((s.store t ad (th.reg a)).note t ⟨2,0,th.pc,ad,th.reg a,0,0,false⟩).upd t th.next else s.flush t):=by
 rw [stepT_at h,had]
 have h1:¬((s.mem.length:Int)≤(ad:Int)):=by omega
 cases hr:s.roomy t with
 | true=>simp [asksI,drainsI,jumpsI,asks,Ts.upd,tsP,Ts.note,Ts.store,h1]
 | false=>simp [asksI,drainsI,jumpsI,asks,h1];exact upd_flush h.hs
theorem st_drain{i:Ins}(h:AtI codes s t th i)(hd:drainsI i.op)(ha:asksI i.op→addrI th i < (s.mem.length:Int))(he:s.empty t=false):s.stepT codes t=some (s.flush t):=by
 rw [stepT_at h,if_neg (by rintro⟨h1,h2⟩;have:=ha h1;omega),if_pos (.inl ⟨hd,he⟩)]
 exact congrArg some (upd_flush h.hs)
theorem st_fence(h:AtI codes s t th ⟨18,a,b,c,k⟩)(he:s.empty t=true):s.stepT codes t=some ((s.note t ⟨5,0,th.pc,0,0,0,0,false⟩).upd t th.next):=by
 rw [stepT_at h]
 simp [asksI,drainsI,jumpsI,plainI,Ts.upd,tsP,Ts.note,he]
theorem st_remote(h:AtI codes s t th ⟨25,a,b,c,k⟩)(he:s.empty t=true):s.stepT codes t=some ((s.remote.note t ⟨10,0,th.pc,0,0,0,0,false⟩).upd t th.next):=by
 rw [stepT_at h]
 simp [asksI,drainsI,jumpsI,plainI,Ts.upd,tsP,Ts.note,he]
theorem st_swap(h:AtI codes s t th ⟨19,a,b,c,k⟩){ad:Nat}(had:addrI th ⟨19,a,b,c,k⟩=ad)(hlt:ad < s.mem.length)(he:s.empty t=true):
  s.stepT codes t=some (((s.swap ad (th.reg a)).note t ⟨4,0,th.pc,ad,th.reg a,s.load t ad,0,true⟩).upd t (th.put a (s.load t ad)).next):=by
 rw [stepT_at h,had]
 have h1:¬((s.mem.length:Int)≤(ad:Int)):=by omega
 simp [asksI,drainsI,jumpsI,asks,Ts.upd,tsP,Ts.note,Ts.swap,he,h1]
theorem st_cas(h:AtI codes s t th ⟨21,a,b,c,k⟩){ad:Nat}(had:addrI th ⟨21,a,b,c,k⟩=ad)(hlt:ad < s.mem.length)(he:s.empty t=true):
  s.stepT codes t=some (if s.load t ad=th.reg a then ((s.swap ad (th.reg c)).note t ⟨4,0,th.pc,ad,th.reg c,s.load t ad,0,true⟩).upd t (th.put a (s.load t ad)).next
   else (s.note t ⟨4,0,th.pc,ad,s.load t ad,s.load t ad,0,false⟩).upd t (th.put a (s.load t ad)).next):=by
 rw [stepT_at h,had]
 have h1:¬((s.mem.length:Int)≤(ad:Int)):=by omega
 by_cases hv:s.load t ad=th.reg a
 ·rw [if_pos hv]
  simp [asksI,drainsI,jumpsI,asks,Ts.upd,tsP,Ts.note,Ts.swap,he,h1,hv]
 ·rw [if_neg hv]
  simp [asksI,drainsI,jumpsI,asks,Ts.upd,tsP,Ts.note,Ts.swap,he,h1,hv]
end
end Go.Proofs.YtckmkaeopnnbbaaGreatDoor.As
end

section
set_option linter.unusedVariables false
set_option linter.unusedSimpArgs false
namespace Go.Proofs.YtckmkaeopnnbbaaGreatDoor.As

theorem lastQ_cons(e:Nat×Int)(q:List (Nat×Int))(x:Nat):lastQ (e::q) x=match lastQ q x with | some v=>some v | none=>if x=e.1 then some e.2 else none:=by
 unfold lastQ
 rw [List.reverse_cons,List.find?_append]
 cases hf:q.reverse.find? (fun e=>e.1 == x) with
 | some p=>rfl
 | none=>
  simp only [Option.none_or,Option.map_none]
  by_cases h:x=e.1
  ·subst h;simp
  ·rw [if_neg h]
   have:(e.1 == x)=false:=by rw [beq_eq_false_iff_ne];exact fun e=>h e.symm
   simp [this]
theorem Ts.buf_store{s:Ts}{t:Nat}(h:t < s.bufs.length)(ad:Nat)(v:Int):(s.store t ad v).buf t=s.buf t++[(ad,v)]:=by
 unfold Ts.store
 show (s.bufs.set t (s.buf t++[(ad,v)])).getD t []=_
 rw [List.getD_eq_getElem?_getD,List.getElem?_set_self h];rfl
end Go.Proofs.YtckmkaeopnnbbaaGreatDoor.As
end

section
set_option linter.unusedVariables false
set_option linter.unusedSimpArgs false
namespace Go.Proofs.YtckmkaeopnnbbaaGreatDoor.As

def oneS:Option Int→Ev→Option Int
 | none,_=>none
 | some i,e=>
  if e.kind≠7 then some i
  else if e.k=1∧e.val=0 then (if 0≤i then none else some e.who)
  else if e.k=2 then (if i≠e.who then none else some (-1))
  else some i
def oneF(l:List Ev):Option Int:=l.foldl oneS (some (-1))
theorem oneF_snoc(l:List Ev)(e:Ev):oneF (l++[e])=oneS (oneF l) e:=by simp [oneF]
theorem oneS_other{o:Option Int}{e:Ev}(h:e.kind≠7):oneS o e=o:=by
 cases o with
 | none=>rfl
 | some i=>exact if_pos h
theorem oneS_mark{i:Int}{e:Ev}(h:e.kind=7)(h1:¬(e.k=1∧e.val=0))(h2:e.k≠2):oneS (some i) e=some i:=by
 simp only [oneS]
 rw [if_neg (fun e=>e h),if_neg h1,if_neg h2]
theorem oneS_in{i:Int}{e:Ev}(h:e.kind=7)(h1:e.k=1)(h2:e.val=0)(hi:i < 0):oneS (some i) e=some e.who:=by
 simp only [oneS]
 rw [if_neg (fun e=>e h),if_pos ⟨h1,h2⟩,if_neg (by omega)]
theorem oneS_out{e:Ev}{i:Int}(h:e.kind=7)(h1:e.k=2)(hi:i=e.who):oneS (some i) e=some (-1):=by
 simp only [oneS]
 rw [if_neg (fun e=>e h),if_neg (by rintro⟨a,_⟩;omega),if_pos h1,if_neg (fun e=>e hi)]
def fineE(e:Ev):Prop:=e.kind≠13∧(e.kind=7→(e.k=0∨e.k=2)∨((e.k=1∨e.k=3)∧e.val=0))
theorem fineE_kind{e:Ev}(h:e.kind≠13)(h7:e.kind≠7):fineE e:=⟨h,fun e=>absurd e h7⟩
theorem fineE_mark{e:Ev}(h:e.kind=7)(h1:(e.k=0∨e.k=2)∨((e.k=1∨e.k=3)∧e.val=0)):fineE e:=⟨by rw [h];decide,fun _=>h1⟩
def sumT(f:Nat→Int):Nat→Int
 | 0=>0
 | n+1=>sumT f n+f n
theorem sumT_congr{f g:Nat→Int}:∀ (n:Nat),(∀ t,t < n→f t=g t)→sumT f n=sumT g n
 | 0,_=>rfl
 | n+1,h=>by
  rw [sumT,sumT,sumT_congr n (fun t ht=>h t (by omega)),h n (by omega)]
theorem sumT_one{f g:Nat→Int}(t:Nat)(d:Int)(hd:g t=f t+d):∀ (n:Nat),t < n→(∀ u,u < n→u≠t→g u=f u)→sumT g n=sumT f n+d
 | 0,h,_=>by omega
 | n+1,h,hu=>by
  rw [sumT,sumT]
  by_cases e:n=t
  ·subst e
   rw [sumT_congr n (fun u hu2=>hu u (by omega) (by omega)),hd];omega
  ·rw [sumT_one t d hd n (by omega) (fun u h1 h2=>hu u (by omega) h2),hu n (by omega) e];omega
theorem sumT_const(c:Int):∀ n,sumT (fun _=>c) n=n*c
 | 0=>by simp [sumT]
 | n+1=>by
  rw [sumT,sumT_const c n]
  have:((n+1:Nat):Int)=(n:Int)+1:=by omega
  rw [this,Int.add_mul];omega
end Go.Proofs.YtckmkaeopnnbbaaGreatDoor.As
end

section
set_option linter.unusedVariables false
set_option linter.unusedSimpArgs false
namespace Go.Proofs.YtckmkaeopnnbbaaGreatDoor.As

structure Loc where
 p:Nat
 j:Nat
 r0:Int
 r1:Int
 r2:Int
 r3:Int
 r4:Int
 r5:Int
 r6:Int
 r7:Int
 st:Int
def Loc.th(Lb:Nat)(x:Loc):Th:=⟨((x.p*Lb+x.j:Nat):Int),[x.r0,x.r1,x.r2,x.r3,x.r4,x.r5,x.r6,x.r7],x.st⟩
def upF{α:Type}(f:Nat→α)(t:Nat)(x:α):Nat→α:=fun u=>if u=t then x else f u
theorem upF_self{α:Type}(f:Nat→α)(t:Nat)(x:α):upF f t x t=x:=if_pos rfl
theorem upF_ne{α:Type}(f:Nat→α){t u:Nat}(x:α)(h:u≠t):upF f t x u=f u:=if_neg h
theorem upF_id{α:Type}(f:Nat→α)(t:Nat):upF f t (f t)=f:=by
 funext u
 unfold upF
 split
 ·rename_i e;rw [e]
 ·rfl
def c0(q:List (Nat×Int)):Int:=((q.filter fun e=>e.1 == 0).length:Nat)
theorem c0_snoc(q:List (Nat×Int))(a:Nat)(v:Int):c0 (q++[(a,v)])=c0 q+if a=0 then 1 else 0:=by
 unfold c0
 rw [List.filter_append,List.length_append]
 by_cases h:a=0
 ·subst h;simp
 ·have:((a,v).1 == 0)=false:=by rw [beq_eq_false_iff_ne];exact h
  simp [this,h]
theorem c0_cons(e:Nat×Int)(q:List (Nat×Int)):c0 (e::q)=c0 q+if e.1=0 then 1 else 0:=by
 unfold c0
 rw [List.filter_cons]
 by_cases h:e.1=0
 ·have:(e.1 == 0)=true:=by rw [h];rfl
  rw [if_pos this,if_pos h];simp
 ·have:(e.1 == 0)=false:=by rw [beq_eq_false_iff_ne];exact h
  rw [this,if_neg h];simp
structure Lk where
 Lb:Nat
 R:Nat
 T:Nat
 M:Nat
 inR:Nat→Bool
 js:Nat
 I:List Int→(Nat→Loc)→(Nat→List (Nat×Int))→Prop
def Loc.cnt(js:Nat)(x:Loc)(q:List (Nat×Int)):Int:=(x.p:Int)+(if js < x.j then 1 else 0) - c0 q
def Loc.fr(R Lb:Nat)(x:Loc):Prop:=x.st=0∧x.p < R∧x.j < Lb∨x.p=R∧x.j=0∧(x.st=0∨x.st=2)
structure Lk.Inv(X:Lk)(s:Ts)(f:Nat→Loc)(i:Int):Prop where
 nths:s.ths.length=X.T
 nb:s.bufs.length=X.T
 nm:s.mem.length=X.M
 slp:s.slp=[]
 hs:∀ t,t < X.T→s.ths[t]? = some ((f t).th X.Lb)
 fr:∀ t,t < X.T→(f t).fr X.R X.Lb
 I:X.I s.mem f s.buf
 one:oneF s.evs=some i
 i1:i = -1∨∃ t:Nat,t < X.T∧i=t
 who:∀ t:Nat,t < X.T→(i=t↔X.inR (f t).j=true)
 fine:∀ e∈s.evs,fineE e
 sum:s.mem.getD 0 0=wr32 (sumT (fun t=>(f t).cnt X.js (s.buf t)) X.T)
section
variable{X:Lk}{s:Ts}{f:Nat→Loc}{i:Int}{t:Nat}
theorem Lk.Inv.nobody(h:X.Inv s f i)(hn:∀ u,u < X.T→X.inR (f u).j=false):i = -1:=by
 rcases h.i1 with e | ⟨u,hu,e⟩
 ·exact e
 ·have:=(h.who u hu).1 e
  rw [hn u hu] at this
  cases this
theorem wr32_wr(a b:Int):wr32 (wr32 a+b)=wr32 (a+b):=by unfold wr32;omega
theorem Lk.Inv.put(h:X.Inv s f i)(ht:t < X.T)(s':Ts)(x:Loc)(q:List (Nat×Int))(i':Int)(hb:s'.buf=upF s.buf t q)(hths:s'.ths=s.ths.set t (x.th X.Lb))(hnb:s'.bufs.length=X.T)(hnm:s'.mem.length=X.M)(hslp:s'.slp=[])(hfr:x.fr X.R X.Lb)(hI:X.I s'.mem (upF f t x) (upF s.buf t q))(hone:oneF s'.evs=some i')(hi1:i' = -1∨∃ t:Nat,t < X.T∧i'=t)(hwt:i'=t↔X.inR x.j=true)(hwu:∀ u:Nat,u < X.T→u≠t→(i'=u↔X.inR (f u).j=true))(hfine:∀ e∈s'.evs,fineE e)
  (hsum:s'.mem.getD 0 0=wr32 (s.mem.getD 0 0+(x.cnt X.js q - (f t).cnt X.js (s.buf t)))):X.Inv s' (upF f t x) i':=by
 refine⟨by rw [hths,List.length_set];exact h.nths,hnb,hnm,hslp,fun u hu=>?_,fun u hu=>?_,by rw [hb];exact hI,hone,hi1,fun u hu=>?_,hfine,?_⟩
 ·rw [hths]
  by_cases e:u=t
  ·subst e
   rw [upF_self,List.getElem?_set_self (by rw [h.nths];exact ht)]
  ·rw [upF_ne _ _ e,List.getElem?_set_ne (fun e2=>e e2.symm)]
   exact h.hs u hu
 ·by_cases e:u=t
  ·subst e;rw [upF_self];exact hfr
  ·rw [upF_ne _ _ e];exact h.fr u hu
 ·by_cases e:u=t
  ·subst e;rw [upF_self];exact hwt
  ·rw [upF_ne _ _ e];exact hwu u hu e
 ·rw [hsum,h.sum,wr32_wr,hb]
  refine congrArg wr32 ?_
  refine (sumT_one t _ ?_ X.T ht (fun u _ e=>?_)).symm
  ·show (upF f t x t).cnt X.js (upF s.buf t q t)=_
   rw [upF_self,upF_self];omega
  ·show (upF f t x u).cnt X.js (upF s.buf t q u)=_
   rw [upF_ne _ _ e,upF_ne _ _ e]
theorem buf_upd(s:Ts)(t:Nat)(th:Th):(s.upd t th).buf=s.buf:=rfl
theorem buf_note(s:Ts)(t:Nat)(e:Ev):(s.note t e).buf=s.buf:=rfl
theorem buf_storeF{s:Ts}{t:Nat}(h:t < s.bufs.length)(a:Nat)(v:Int):(s.store t a v).buf=upF s.buf t (s.buf t++[(a,v)]):=by
 funext u
 by_cases e:u=t
 ·subst e;rw [upF_self];exact Ts.buf_store h a v
 ·rw [upF_ne _ _ e]
  unfold Ts.store Ts.buf
  show (s.bufs.set t _).getD u []=_
  rw [List.getD_eq_getElem?_getD,List.getElem?_set_ne (fun e2=>e e2.symm),←List.getD_eq_getElem?_getD]
theorem buf_flushF{s:Ts}{t:Nat}(h:t < s.bufs.length):(s.flush t).buf=upF s.buf t (s.buf t).tail:=by
 funext u
 by_cases e:u=t
 ·subst e;rw [upF_self];exact Ts.flush_buf s u h
 ·rw [upF_ne _ _ e]
  unfold Ts.flush
  cases hq:s.buf t with
  | nil=>rfl
  | cons x r=>
   show (s.bufs.set t r).getD u []=s.bufs.getD u []
   rw [List.getD_eq_getElem?_getD,List.getElem?_set_ne (fun e2=>e e2.symm),←List.getD_eq_getElem?_getD]
theorem fine_snoc{l:List Ev}{e:Ev}(h:∀ e∈l,fineE e)(he:fineE e):∀ x∈l++[e],fineE x:=fun x hx=>by
 rcases List.mem_append.1 hx with hx | hx
 ·exact h x hx
 ·rw [List.mem_singleton.1 hx];exact he
theorem Lk.Inv.cnt_at(h:X.Inv s f i)(x:Loc)(hp:x.p=(f t).p)(hj:decide (X.js < x.j)=decide (X.js < (f t).j))(q:List (Nat×Int))(hq:c0 q=c0 (s.buf t)):x.cnt X.js q - (f t).cnt X.js (s.buf t)=0:=by
 unfold Loc.cnt
 rw [hp,hq]
 have:(X.js < x.j)↔(X.js < (f t).j):=by simpa using hj
 by_cases e:X.js < x.j
 ·rw [if_pos e,if_pos (this.1 e)];omega
 ·rw [if_neg e,if_neg (fun e2=>e (this.2 e2))];omega
theorem wr_sum(h:X.Inv s f i):s.mem.getD 0 0=wr32 (s.mem.getD 0 0+0):=by
 rw [h.sum];unfold wr32;omega
theorem Lk.Inv.loc(h:X.Inv s f i)(ht:t < X.T)(x:Loc)(hfr:x.fr X.R X.Lb)(hI:X.I s.mem (upF f t x) s.buf)(hin:X.inR x.j=X.inR (f t).j)(hp:x.p=(f t).p)(hj:decide (X.js < x.j)=decide (X.js < (f t).j)):X.Inv (s.upd t (x.th X.Lb)) (upF f t x) i:=by
 have e:upF s.buf t (s.buf t)=s.buf:=upF_id _ _
 refine h.put ht _ x (s.buf t) i (by rw [e];rfl) rfl h.nb h.nm h.slp hfr (by rw [e];exact hI) h.one h.i1 (by rw [hin];exact h.who t ht) (fun u hu _=>h.who u hu) h.fine ?_
 rw [h.cnt_at x hp hj _ rfl]
 exact (show s.mem.getD 0 0=wr32 (s.mem.getD 0 0+0) from wr_sum h)
theorem Lk.Inv.again(h:X.Inv s f i)(ht:t < X.T)(x:Loc)(hfr:x.fr X.R X.Lb)(hI:X.I s.mem (upF f t x) s.buf)(hin:X.inR x.j=X.inR (f t).j)(hp:x.p=(f t).p+1)(hj:X.js < (f t).j)(hj0:x.j=0):X.Inv (s.upd t (x.th X.Lb)) (upF f t x) i:=by
 have e:upF s.buf t (s.buf t)=s.buf:=upF_id _ _
 refine h.put ht _ x (s.buf t) i (by rw [e];rfl) rfl h.nb h.nm h.slp hfr (by rw [e];exact hI) h.one h.i1 (by rw [hin];exact h.who t ht) (fun u hu _=>h.who u hu) h.fine ?_
 have e0:x.cnt X.js (s.buf t) - (f t).cnt X.js (s.buf t)=0:=by
  unfold Loc.cnt
  rw [hp,hj0,if_neg (by omega),if_pos hj]
  omega
 rw [e0]
 exact (show s.mem.getD 0 0=wr32 (s.mem.getD 0 0+0) from wr_sum h)
theorem Lk.Inv.noted(h:X.Inv s f i)(e:Ev)(h7:e.kind≠7)(h13:e.kind≠13):X.Inv (s.note t e) f i:=by
 refine⟨h.nths,h.nb,h.nm,h.slp,h.hs,h.fr,h.I,?_,h.i1,h.who,fine_snoc h.fine (fineE_kind (e:={ e with who:=t }) h13 h7),h.sum⟩
 show oneF (s.evs++[{ e with who:=(t:Int) }])=_
 rw [oneF_snoc,oneS_other (show ({ e with who:=(t:Int) }:Ev).kind≠7 from h7)]
 exact h.one
theorem Lk.Inv.marked(h:X.Inv s f i)(e:Ev)(h7:e.kind=7)(hk:e.k=0∨(e.k=3∧e.val=0)):X.Inv (s.note t e) f i:=by
 refine⟨h.nths,h.nb,h.nm,h.slp,h.hs,h.fr,h.I,?_,h.i1,h.who,fine_snoc h.fine (fineE_mark (e:={ e with who:=t }) h7 ?_),h.sum⟩
 ·show oneF (s.evs++[{ e with who:=(t:Int) }])=_
  rw [oneF_snoc,h.one,oneS_mark (e:={ e with who:=(t:Int) }) h7 (by rintro⟨a,_⟩;have:e.k=1:=a;omega) (by intro a;have:e.k=2:=a;omega)]
 ·rcases hk with b | ⟨b,c⟩
  ·exact .inl (.inl b)
  ·exact .inr ⟨.inr b,c⟩
theorem Lk.Inv.enters(h:X.Inv s f i)(ht:t < X.T)(pc:Int)(x:Loc)(hfr:x.fr X.R X.Lb)(hI:X.I s.mem (upF f t x) s.buf)(hn:∀ u,u < X.T→X.inR (f u).j=false)(hin:X.inR x.j=true)(hp:x.p=(f t).p)(hj:decide (X.js < x.j)=decide (X.js < (f t).j)):X.Inv ((s.note t ⟨7,0,pc,0,0,0,1,false⟩).upd t (x.th X.Lb)) (upF f t x) t:=by
 have e:upF s.buf t (s.buf t)=s.buf:=upF_id _ _
 have hi:i = -1:=h.nobody hn
 refine h.put ht _ x (s.buf t) t (by rw [e];rfl) rfl h.nb h.nm h.slp hfr (by rw [e];exact hI) ?_ (.inr ⟨t,ht,rfl⟩) (by rw [hin];simp) (fun u hu hne=>?_) (fine_snoc h.fine (fineE_mark (e:=⟨7,t,pc,0,0,0,1,false⟩) rfl (.inr ⟨.inl rfl,rfl⟩))) ?_
 ·show oneF (s.evs++[⟨7,t,pc,0,0,0,1,false⟩])=_
  rw [oneF_snoc,h.one,oneS_in (e:=⟨7,t,pc,0,0,0,1,false⟩) rfl rfl rfl (by omega)]
 ·rw [hn u hu]
  constructor
  ·intro e2;exact absurd (by omega) hne
  ·intro e2;cases e2
 ·rw [h.cnt_at x hp hj _ rfl]
  exact (show s.mem.getD 0 0=wr32 (s.mem.getD 0 0+0) from wr_sum h)
theorem Lk.Inv.leaves(h:X.Inv s f i)(ht:t < X.T)(pc v:Int)(x:Loc)(hfr:x.fr X.R X.Lb)(hI:X.I s.mem (upF f t x) s.buf)(h1:X.inR (f t).j=true)(hin:X.inR x.j=false)(hp:x.p=(f t).p)(hj:decide (X.js < x.j)=decide (X.js < (f t).j)):X.Inv ((s.note t ⟨7,0,pc,0,v,0,2,false⟩).upd t (x.th X.Lb)) (upF f t x) (-1):=by
 have e:upF s.buf t (s.buf t)=s.buf:=upF_id _ _
 have hi:i=t:=(h.who t ht).2 h1
 refine h.put ht _ x (s.buf t) (-1) (by rw [e];rfl) rfl h.nb h.nm h.slp hfr (by rw [e];exact hI) ?_ (.inl rfl) ?_ (fun u hu hne=>?_) (fine_snoc h.fine (fineE_mark (e:=⟨7,t,pc,0,v,0,2,false⟩) rfl (.inl (.inr rfl)))) ?_
 ·show oneF (s.evs++[⟨7,t,pc,0,v,0,2,false⟩])=_
  rw [oneF_snoc,h.one,oneS_out (e:=⟨7,t,pc,0,v,0,2,false⟩) rfl rfl (by rw [hi])]
 ·rw [hin]
  constructor
  ·intro e2;omega
  ·intro e2;cases e2
 ·have:=(h.who u hu)
  rw [hi] at this
  constructor
  ·intro e2;omega
  ·intro e2;have:=this.2 e2;omega
 ·rw [h.cnt_at x hp hj _ rfl]
  exact (show s.mem.getD 0 0=wr32 (s.mem.getD 0 0+0) from wr_sum h)
theorem Lk.Inv.stored(h:X.Inv s f i)(ht:t < X.T)(pc:Int)(a:Nat)(v:Int)(x:Loc)(hfr:x.fr X.R X.Lb)(hI:X.I s.mem (upF f t x) (upF s.buf t (s.buf t++[(a,v)])))(hin:X.inR x.j=X.inR (f t).j)(hp:x.p=(f t).p)(hj:(a≠0∧decide (X.js < x.j)=decide (X.js < (f t).j))∨(a=0∧(f t).j=X.js∧x.j=X.js+1)):X.Inv (((s.store t a v).note t ⟨2,0,pc,a,v,0,0,false⟩).upd t (x.th X.Lb)) (upF f t x) i:=by
 refine h.put ht _ x (s.buf t++[(a,v)]) i (by rw [buf_upd,buf_note,buf_storeF (by rw [h.nb];exact ht)]) rfl ?_ h.nm h.slp hfr hI ?_ h.i1 (by rw [hin];exact h.who t ht) (fun u hu _=>h.who u hu) (fine_snoc h.fine (fineE_kind (e:=⟨2,t,pc,a,v,0,0,false⟩) (show (2:Int)≠13 by decide) (show (2:Int)≠7 by decide))) ?_
 ·show (s.bufs.set t _).length=_
  rw [List.length_set];exact h.nb
 ·show oneF (s.evs++[⟨2,t,pc,a,v,0,0,false⟩])=_
  rw [oneF_snoc,oneS_other (e:=⟨2,t,pc,a,v,0,0,false⟩) (show (2:Int)≠7 by decide)]
  exact h.one
 ·have e0:x.cnt X.js (s.buf t++[(a,v)]) - (f t).cnt X.js (s.buf t)=0:=by
   rcases hj with⟨a0,hj⟩ | ⟨a0,j1,j2⟩
   ·exact h.cnt_at x hp hj _ (by rw [c0_snoc,if_neg a0];omega)
   ·unfold Loc.cnt
    rw [hp,c0_snoc,if_pos a0,j1,j2,if_pos (by omega),if_neg (by omega)];omega
  rw [e0]
  exact (show s.mem.getD 0 0=wr32 (s.mem.getD 0 0+0) from wr_sum h)
theorem Lk.Inv.swapped(h:X.Inv s f i)(ht:t < X.T)(ev:Ev)(hk:ev.kind=4)(a:Nat)(v:Int)(a0:a≠0)(x:Loc)(hfr:x.fr X.R X.Lb)(hI:X.I (s.mem.set a v) (upF f t x) s.buf)(hin:X.inR x.j=X.inR (f t).j)(hp:x.p=(f t).p)(hj:decide (X.js < x.j)=decide (X.js < (f t).j)):X.Inv (((s.swap a v).note t ev).upd t (x.th X.Lb)) (upF f t x) i:=by
 have e:upF s.buf t (s.buf t)=s.buf:=upF_id _ _
 refine h.put ht _ x (s.buf t) i (by rw [e];rfl) rfl h.nb ?_ h.slp hfr (by rw [e];exact hI) ?_ h.i1 (by rw [hin];exact h.who t ht) (fun u hu _=>h.who u hu) (fine_snoc h.fine (fineE_kind (e:={ ev with who:=t }) (by rw [show ({ ev with who:=(t:Int) }:Ev).kind=4 from hk];decide) (by rw [show ({ ev with who:=(t:Int) }:Ev).kind=4 from hk];decide))) ?_
 ·show (s.mem.set a v).length=_
  rw [List.length_set];exact h.nm
 ·show oneF (s.evs++[{ ev with who:=(t:Int) }])=_
  rw [oneF_snoc,oneS_other (by rw [show ({ ev with who:=(t:Int) }:Ev).kind=4 from hk];decide)]
  exact h.one
 ·rw [h.cnt_at x hp hj _ rfl]
  show (s.mem.set a v).getD 0 0=_
  rw [List.getD_eq_getElem?_getD,List.getElem?_set_ne a0,←List.getD_eq_getElem?_getD]
  exact (show s.mem.getD 0 0=wr32 (s.mem.getD 0 0+0) from wr_sum h)
theorem Lk.Inv.flushed(h:X.Inv s f i)(ht:t < X.T)(hI:∀ e r,s.buf t=e::r→X.I (s.mem.set e.1 e.2) f (upF s.buf t r)∧(e.1≠0∨e.1=0∧0 < X.M∧e.2=wr32 (s.mem.getD 0 0+1))):X.Inv (s.flush t) f i:=by
 have hb:t < s.bufs.length:=by rw [h.nb];exact ht
 have hs:=Ts.flush_same s t hb
 cases hq:s.buf t with
 | nil=>
  have:s.flush t=s:=by unfold Ts.flush;rw [hq]
  rw [this];exact h
 | cons e r=>
  obtain⟨h1,h2⟩:=hI e r hq
  have hf:s.flush t=Ts.note t { s with bufs:=s.bufs.set t r,mem:=s.mem.set e.1 e.2 } ⟨3,0,0,e.1,e.2,0,0,false⟩:=by unfold Ts.flush;rw [hq]
  have hm:(s.flush t).mem=s.mem.set e.1 e.2:=by rw [hf];rfl
  have hbf:(s.flush t).buf=upF s.buf t r:=by rw [buf_flushF hb,hq];rfl
  have hev:(s.flush t).evs=s.evs++[⟨3,t,0,e.1,e.2,0,0,false⟩]:=by rw [hf];rfl
  have key:=h.put ht (s.flush t) (f t) r i hbf (by
   rw [hs.ths]
   have:=h.hs t ht
   obtain⟨hlt,he⟩:=List.getElem?_eq_some_iff.1 this
   rw [←he];exact (List.set_getElem_self hlt).symm) (by rw [hs.nb];exact h.nb) (by rw [hs.nm];exact h.nm) (by rw [hs.slp];exact h.slp) (h.fr t ht) (by rw [hm,upF_id];exact h1) (by
   rw [hev,oneF_snoc,oneS_other (e:=⟨3,t,0,e.1,e.2,0,0,false⟩) (show (3:Int)≠7 by decide)]
   exact h.one) h.i1 (h.who t ht) (fun u hu _=>h.who u hu) (by
   rw [hev]
   exact fine_snoc h.fine (fineE_kind (e:=⟨3,t,0,e.1,e.2,0,0,false⟩) (show (3:Int)≠13 by decide) (show (3:Int)≠7 by decide))) (by
   rw [hm]
   unfold Loc.cnt
   rw [hq,c0_cons]
   rcases h2 with h2 | ⟨h2,h3,h4⟩
   ·rw [if_neg h2,List.getD_eq_getElem?_getD,List.getElem?_set_ne h2,←List.getD_eq_getElem?_getD]
    have e0:((f t).p:Int)+(if X.js < (f t).j then 1 else 0) - c0 r - (((f t).p:Int)+(if X.js < (f t).j then 1 else 0) - (c0 r+0))=0:=by omega
    rw [e0]
    exact (show s.mem.getD 0 0=wr32 (s.mem.getD 0 0+0) from wr_sum h)
   ·rw [if_pos h2,h2,List.getD_eq_getElem?_getD,List.getElem?_set_self (by rw [h.nm];exact h3)]
    have e0:((f t).p:Int)+(if X.js < (f t).j then 1 else 0) - c0 r - (((f t).p:Int)+(if X.js < (f t).j then 1 else 0) - (c0 r+1))=1:=by omega
    rw [e0]
    exact h4)
  rwa [upF_id] at key
theorem Lk.Inv.halted(h:X.Inv s f i)(ht:t < X.T)(pc:Int)(hp:(f t).p=X.R)(hj:(f t).j=0)(hI:X.I s.mem (upF f t { f t with st:=2 }) s.buf):X.Inv ((s.note t ⟨12,0,pc,0,0,0,0,false⟩).upd t (({ f t with st:=2 }:Loc).th X.Lb)) (upF f t { f t with st:=2 }) i:=by
 have e:upF s.buf t (s.buf t)=s.buf:=upF_id _ _
 refine h.put ht _ _ (s.buf t) i (by rw [e];rfl) rfl h.nb h.nm h.slp (.inr ⟨hp,hj,.inr rfl⟩) (by rw [e];exact hI) ?_ h.i1 (h.who t ht) (fun u hu _=>h.who u hu) (fine_snoc h.fine (fineE_kind (e:=⟨12,t,pc,0,0,0,0,false⟩) (show (12:Int)≠13 by decide) (show (12:Int)≠7 by decide))) ?_
 ·show oneF (s.evs++[⟨12,t,pc,0,0,0,0,false⟩])=_
  rw [oneF_snoc,oneS_other (e:=⟨12,t,pc,0,0,0,0,false⟩) (show (12:Int)≠7 by decide)]
  exact h.one
 ·rw [show (({ f t with st:=2 }:Loc).cnt X.js (s.buf t) - (f t).cnt X.js (s.buf t))=0 from by show (f t).cnt X.js (s.buf t) - (f t).cnt X.js (s.buf t)=0;omega]
  exact (show s.mem.getD 0 0=wr32 (s.mem.getD 0 0+0) from wr_sum h)
theorem Lk.run(codes:List (List Ins))(hlen:∀ t,t < X.T→∃ L,codes[t]? = some L∧L.length=X.R*X.Lb)
  (hst:∀ s f i t,X.Inv s f i→t < X.T→X.I s.mem (upF f t { f t with st:=2 }) s.buf)
  (hstep:∀ s f i t,X.Inv s f i→t < X.T→(f t).st=0→(f t).p < X.R→(f t).j < X.Lb→∃ s' f' i',s.stepT codes t=some s'∧X.Inv s' f' i')
  (hflush:∀ s f i t,X.Inv s f i→t < X.T→X.Inv (s.flush t) f i) (l:List (Nat×Nat)) (s:Ts) (f:Nat→Loc) (i:Int) (h:X.Inv s f i):∃ s',Ts.run codes s l=some s'∧∃ f' i',X.Inv s' f' i':=by
 refine Ts.run_inv (I:=fun s=>∃ f i,X.Inv s f i) (fun _=>True) (fun s q _ hx=>?_) l s (fun _ _=>trivial) ⟨f,i,h⟩
 obtain⟨f,i,h⟩:=hx
 unfold Ts.pick
 by_cases hq:s.ths.length≤q.2
 ·rw [if_pos hq];exact⟨s,rfl,f,i,h⟩
 rw [if_neg hq]
 have ht:q.2 < X.T:=by have:=h.nths;omega
 split
 ·rcases h.fr q.2 ht with⟨h1,h2,h3⟩ | ⟨h1,h2,h3 | h3⟩
  ·obtain⟨s',f',i',e1,e2⟩:=hstep s f i q.2 h ht h1 h2 h3
   exact⟨s',e1,f',i',e2⟩
  ·obtain⟨L,hL,hl⟩:=hlen q.2 ht
   refine⟨_,stepT_end (h.hs q.2 ht) hL h3 ?_,_,i,h.halted ht _ h1 h2 (hst s f i q.2 h ht)⟩
   rw [hl]
   show _≤(((f q.2).p*X.Lb+(f q.2).j:Nat):Int)
   rw [h1,h2];simp
  ·obtain⟨L,hL,hl⟩:=hlen q.2 ht
   exact⟨s,stepT_stop (h.hs q.2 ht) hL (by show (f q.2).st≠0;rw [h3];decide),f,i,h⟩
 ·split
  ·exact⟨_,rfl,f,i,hflush s f i q.2 h ht⟩
  ·rw [if_pos h.slp];exact⟨s,rfl,f,i,h⟩
theorem Lk.Inv.done(h:X.Inv s f i)(hst:∀ t,t < X.T→(f t).st=2)(hb:∀ t,t < X.T→s.buf t=[]):s.mem.getD 0 0=wr32 ((X.T:Int)*X.R):=by
 rw [h.sum]
 refine congrArg wr32 ?_
 rw [←sumT_const]
 refine sumT_congr _ (fun t ht=>?_)
 unfold Loc.cnt
 rw [hb t ht]
 rcases h.fr t ht with⟨h1,_⟩ | ⟨h1,h2,_⟩
 ·rw [hst t ht] at h1;exact absurd h1 (by decide)
 ·rw [h1,h2,if_neg (by omega)]
  show (X.R:Int)+0 - c0 []=X.R
  unfold c0;simp
end
end Go.Proofs.YtckmkaeopnnbbaaGreatDoor.As
end

