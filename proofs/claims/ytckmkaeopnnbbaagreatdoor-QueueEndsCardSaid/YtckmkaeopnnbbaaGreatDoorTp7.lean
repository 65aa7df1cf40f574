/- Plain Lean: threads of different codes that go through rounds on a machine tso (as Tp6,a round's length,its places of holding and adding being each thread's own). No program in sight. -/
import Derived.Test.YtckmkaeopnnbbaaGreatDoorGl
set_option linter.unusedVariables false
set_option linter.unusedSimpArgs false
namespace Go.Proofs.YtckmkaeopnnbbaaGreatDoor.As.Wd

structure Lk where
 Lb:Nat→Nat
 R:Nat
 T:Nat
 M:Nat
 inR:Nat→Nat→Bool
 js:Nat→Nat
 I:List Int→(Nat→Loc)→(Nat→List (Nat×Int))→Prop
structure Lk.Inv(X:Lk)(s:Ts)(f:Nat→Loc)(i:Int):Prop where
 nths:s.ths.length=X.T
 nb:s.bufs.length=X.T
 nm:s.mem.length=X.M
 slp:s.slp=[]
 hs:∀ t,t < X.T→s.ths[t]? = some ((f t).th (X.Lb t))
 fr:∀ t,t < X.T→(f t).fr X.R (X.Lb t)
 I:X.I s.mem f s.buf
 one:oneF s.evs=some i
 i1:i = -1∨∃ t:Nat,t < X.T∧i=t
 who:∀ t:Nat,t < X.T→(i=t↔X.inR t (f t).j=true)
 fine:∀ e∈s.evs,fineE e
 sum:s.mem.getD 0 0=wr32 (sumT (fun t=>(f t).cnt (X.js t) (s.buf t)) X.T)
section
variable{X:Lk}{s:Ts}{f:Nat→Loc}{i:Int}{t:Nat}
theorem Lk.Inv.nobody(h:X.Inv s f i)(hn:∀ u,u < X.T→X.inR u (f u).j=false):i = -1:=by
 rcases h.i1 with e | ⟨u,hu,e⟩
 ·exact e
 ·have:=(h.who u hu).1 e
  rw [hn u hu] at this
  cases this
theorem wr32_wr(a b:Int):wr32 (wr32 a+b)=wr32 (a+b):=by unfold wr32;omega
theorem Lk.Inv.put(h:X.Inv s f i)(ht:t < X.T)(s':Ts)(x:Loc)(q:List (Nat×Int))(i':Int)(hb:s'.buf=upF s.buf t q)(hths:s'.ths=s.ths.set t (x.th (X.Lb t)))(hnb:s'.bufs.length=X.T)(hnm:s'.mem.length=X.M)(hslp:s'.slp=[])(hfr:x.fr X.R (X.Lb t))(hI:X.I s'.mem (upF f t x) (upF s.buf t q))(hone:oneF s'.evs=some i')(hi1:i' = -1∨∃ t:Nat,t < X.T∧i'=t)(hwt:i'=t↔X.inR t x.j=true)(hwu:∀ u:Nat,u < X.T→u≠t→(i'=u↔X.inR u (f u).j=true))(hfine:∀ e∈s'.evs,fineE e)
  (hsum:s'.mem.getD 0 0=wr32 (s.mem.getD 0 0+(x.cnt (X.js t) q - (f t).cnt (X.js t) (s.buf t)))):X.Inv s' (upF f t x) i':=by
 refine⟨by rw [hths,List.length_set];exact h.nths,hnb,hnm,hslp,fun u hu=>?_,fun u hu=>?_,by rw [hb];exact hI,hone,hi1,fun u hu=>?_,hfine,?_⟩
 ·rw [hths]
  by_cases e:u=t
  ·subst e
   rw [upF_self,List.getElem?_set_self (by rw [h.nths];exact ht)]
  ·rw [upF_ne _ _ e,List.getElem?_set_ne (fun e2=>e e2.symm)]
   exact h.hs u hu
 ·by_cases e:u=t
  ·subst e;rw [upF_self];exact hfr
  ·rw [upF_ne _ _ e];exact h.fr u hu
 ·by_cases e:u=t
  ·subst e;rw [upF_self];exact hwt
  ·rw [upF_ne _ _ e];exact hwu u hu e
 ·rw [hsum,h.sum,wr32_wr,hb]
  refine congrArg wr32 ?_
  refine (sumT_one t _ ?_ X.T ht (fun u _ e=>?_)).symm
  ·show (upF f t x t).cnt (X.js t) (upF s.buf t q t)=_
   rw [upF_self,upF_self];omega
  ·show (upF f t x u).cnt (X.js u) (upF s.buf t q u)=_
   rw [upF_ne _ _ e,upF_ne _ _ e]
theorem buf_upd(s:Ts)(t:Nat)(th:Th):(s.upd t th).buf=s.buf:=rfl
theorem buf_note(s:Ts)(t:Nat)(e:Ev):(s.note t e).buf=s.buf:=rfl
theorem buf_storeF{s:Ts}{t:Nat}(h:t < s.bufs.length)(a:Nat)(v:Int):(s.store t a v).buf=upF s.buf t (s.buf t++[(a,v)]):=by
 funext u
 by_cases e:u=t
 ·subst e;rw [upF_self];exact Ts.buf_store h a v
 ·rw [upF_ne _ _ e]
  unfold Ts.store Ts.buf
  show (s.bufs.set t _).getD u []=_
  rw [List.getD_eq_getElem?_getD,List.getElem?_set_ne (fun e2=>e e2.symm),←List.getD_eq_getElem?_getD]
theorem buf_flushF{s:Ts}{t:Nat}(h:t < s.bufs.length):(s.flush t).buf=upF s.buf t (s.buf t).tail:=by
 funext u
 by_cases e:u=t
 ·subst e;rw [upF_self];exact Ts.flush_buf s u h
 ·rw [upF_ne _ _ e]
  unfold Ts.flush
  cases hq:s.buf t with
  | nil=>rfl
  | cons x r=>
   show (s.bufs.set t r).getD u []=s.bufs.getD u []
   rw [List.getD_eq_getElem?_getD,List.getElem?_set_ne (fun e2=>e e2.symm),←List.getD_eq_getElem?_getD]
theorem fine_snoc{l:List Ev}{e:Ev}(h:∀ e∈l,fineE e)(he:fineE e):∀ x∈l++[e],fineE x:=fun x hx=>by
 rcases List.mem_append.1 hx with hx | hx
 ·exact h x hx
 ·rw [List.mem_singleton.1 hx];exact he
theorem Lk.Inv.cnt_at(h:X.Inv s f i)(x:Loc)(hp:x.p=(f t).p)(hj:decide ((X.js t) < x.j)=decide ((X.js t) < (f t).j))(q:List (Nat×Int))(hq:c0 q=c0 (s.buf t)):x.cnt (X.js t) q - (f t).cnt (X.js t) (s.buf t)=0:=by
 unfold Loc.cnt
 rw [hp,hq]
 have:((X.js t) < x.j)↔((X.js t) < (f t).j):=by simpa using hj
 by_cases e:(X.js t) < x.j
 ·rw [if_pos e,if_pos (this.1 e)];omega
 ·rw [if_neg e,if_neg (fun e2=>e (this.2 e2))];omega
theorem wr_sum(h:X.Inv s f i):s.mem.getD 0 0=wr32 (s.mem.getD 0 0+0):=by
 rw [h.sum];unfold wr32;omega
theorem Lk.Inv.loc(h:X.Inv s f i)(ht:t < X.T)(x:Loc)(hfr:x.fr X.R (X.Lb t))(hI:X.I s.mem (upF f t x) s.buf)(hin:X.inR t x.j=X.inR t (f t).j)(hp:x.p=(f t).p)(hj:decide ((X.js t) < x.j)=decide ((X.js t) < (f t).j)):X.Inv (s.upd t (x.th (X.Lb t))) (upF f t x) i:=by
 have e:upF s.buf t (s.buf t)=s.buf:=upF_id _ _
 refine h.put ht _ x (s.buf t) i (by rw [e];rfl) rfl h.nb h.nm h.slp hfr (by rw [e];exact hI) h.one h.i1 (by rw [hin];exact h.who t ht) (fun u hu _=>h.who u hu) h.fine ?_
 rw [h.cnt_at x hp hj _ rfl]
 exact (show s.mem.getD 0 0=wr32 (s.mem.getD 0 0+0) from wr_sum h)
theorem Lk.Inv.again(h:X.Inv s f i)(ht:t < X.T)(x:Loc)(hfr:x.fr X.R (X.Lb t))(hI:X.I s.mem (upF f t x) s.buf)(hin:X.inR t x.j=X.inR t (f t).j)(hp:x.p=(f t).p+1)(hj:(X.js t) < (f t).j)(hj0:x.j=0):X.Inv (s.upd t (x.th (X.Lb t))) (upF f t x) i:=by
 have e:upF s.buf t (s.buf t)=s.buf:=upF_id _ _
 refine h.put ht _ x (s.buf t) i (by rw [e];rfl) rfl h.nb h.nm h.slp hfr (by rw [e];exact hI) h.one h.i1 (by rw [hin];exact h.who t ht) (fun u hu _=>h.who u hu) h.fine ?_
 have e0:x.cnt (X.js t) (s.buf t) - (f t).cnt (X.js t) (s.buf t)=0:=by
  unfold Loc.cnt
  rw [hp,hj0,if_neg (by omega),if_pos hj]
  omega
 rw [e0]
 exact (show s.mem.getD 0 0=wr32 (s.mem.getD 0 0+0) from wr_sum h)
theorem Lk.Inv.noted(h:X.Inv s f i)(e:Ev)(h7:e.kind≠7)(h13:e.kind≠13):X.Inv (s.note t e) f i:=by
 refine⟨h.nths,h.nb,h.nm,h.slp,h.hs,h.fr,h.I,?_,h.i1,h.who,fine_snoc h.fine (fineE_kind (e:={ e with who:=t }) h13 h7),h.sum⟩
 show oneF (s.evs++[{ e with who:=(t:Int) }])=_
 rw [oneF_snoc,oneS_other (show ({ e with who:=(t:Int) }:Ev).kind≠7 from h7)]
 exact h.one
theorem Lk.Inv.marked(h:X.Inv s f i)(e:Ev)(h7:e.kind=7)(hk:e.k=0∨(e.k=3∧e.val=0)):X.Inv (s.note t e) f i:=by
 refine⟨h.nths,h.nb,h.nm,h.slp,h.hs,h.fr,h.I,?_,h.i1,h.who,fine_snoc h.fine (fineE_mark (e:={ e with who:=t }) h7 ?_),h.sum⟩
 ·show oneF (s.evs++[{ e with who:=(t:Int) }])=_
  rw [oneF_snoc,h.one,oneS_mark (e:={ e with who:=(t:Int) }) h7 (by rintro⟨a,_⟩;have:e.k=1:=a;omega) (by intro a;have:e.k=2:=a;omega)]
 ·rcases hk with b | ⟨b,c⟩
  ·exact .inl (.inl b)
  ·exact .inr ⟨.inr b,c⟩
theorem Lk.Inv.enters(h:X.Inv s f i)(ht:t < X.T)(pc:Int)(x:Loc)(hfr:x.fr X.R (X.Lb t))(hI:X.I s.mem (upF f t x) s.buf)(hn:∀ u,u < X.T→X.inR u (f u).j=false)(hin:X.inR t x.j=true)(hp:x.p=(f t).p)(hj:decide ((X.js t) < x.j)=decide ((X.js t) < (f t).j)):X.Inv ((s.note t ⟨7,0,pc,0,0,0,1,false⟩).upd t (x.th (X.Lb t))) (upF f t x) t:=by
 have e:upF s.buf t (s.buf t)=s.buf:=upF_id _ _
 have hi:i = -1:=h.nobody hn
 refine h.put ht _ x (s.buf t) t (by rw [e];rfl) rfl h.nb h.nm h.slp hfr (by rw [e];exact hI) ?_ (.inr ⟨t,ht,rfl⟩) (by rw [hin];simp) (fun u hu hne=>?_) (fine_snoc h.fine (fineE_mark (e:=⟨7,t,pc,0,0,0,1,false⟩) rfl (.inr ⟨.inl rfl,rfl⟩))) ?_
 ·show oneF (s.evs++[⟨7,t,pc,0,0,0,1,false⟩])=_
  rw [oneF_snoc,h.one,oneS_in (e:=⟨7,t,pc,0,0,0,1,false⟩) rfl rfl rfl (by omega)]
 ·rw [hn u hu]
  constructor
  ·intro e2;exact absurd (by omega) hne
  ·intro e2;cases e2
 ·rw [h.cnt_at x hp hj _ rfl]
  exact (show s.mem.getD 0 0=wr32 (s.mem.getD 0 0+0) from wr_sum h)
theorem Lk.Inv.leaves(h:X.Inv s f i)(ht:t < X.T)(pc v:Int)(x:Loc)(hfr:x.fr X.R (X.Lb t))(hI:X.I s.mem (upF f t x) s.buf)(h1:X.inR t (f t).j=true)(hin:X.inR t x.j=false)(hp:x.p=(f t).p)(hj:decide ((X.js t) < x.j)=decide ((X.js t) < (f t).j)):X.Inv ((s.note t ⟨7,0,pc,0,v,0,2,false⟩).upd t (x.th (X.Lb t))) (upF f t x) (-1):=by
 have e:upF s.buf t (s.buf t)=s.buf:=upF_id _ _
 have hi:i=t:=(h.who t ht).2 h1
 refine h.put ht _ x (s.buf t) (-1) (by rw [e];rfl) rfl h.nb h.nm h.slp hfr (by rw [e];exact hI) ?_ (.inl rfl) ?_ (fun u hu hne=>?_) (fine_snoc h.fine (fineE_mark (e:=⟨7,t,pc,0,v,0,2,false⟩) rfl (.inl (.inr rfl)))) ?_
 ·show oneF (s.evs++[⟨7,t,pc,0,v,0,2,false⟩])=_
  rw [oneF_snoc,h.one,oneS_out (e:=⟨7,t,pc,0,v,0,2,false⟩) rfl rfl (by rw [hi])]
 ·rw [hin]
  constructor
  ·intro e2;omega
  ·intro e2;cases e2
 ·have:=(h.who u hu)
  rw [hi] at this
  constructor
  ·intro e2;omega
  ·intro e2;have:=this.2 e2;omega
 ·rw [h.cnt_at x hp hj _ rfl]
  exact (show s.mem.getD 0 0=wr32 (s.mem.getD 0 0+0) from wr_sum h)
theorem Lk.Inv.stored(h:X.Inv s f i)(ht:t < X.T)(pc:Int)(a:Nat)(v:Int)(x:Loc)(hfr:x.fr X.R (X.Lb t))(hI:X.I s.mem (upF f t x) (upF s.buf t (s.buf t++[(a,v)])))(hin:X.inR t x.j=X.inR t (f t).j)(hp:x.p=(f t).p)(hj:(a≠0∧decide ((X.js t) < x.j)=decide ((X.js t) < (f t).j))∨(a=0∧(f t).j=(X.js t)∧x.j=(X.js t)+1)):X.Inv (((s.store t a v).note t ⟨2,0,pc,a,v,0,0,false⟩).upd t (x.th (X.Lb t))) (upF f t x) i:=by
 refine h.put ht _ x (s.buf t++[(a,v)]) i (by rw [buf_upd,buf_note,buf_storeF (by rw [h.nb];exact ht)]) rfl ?_ h.nm h.slp hfr hI ?_ h.i1 (by rw [hin];exact h.who t ht) (fun u hu _=>h.who u hu) (fine_snoc h.fine (fineE_kind (e:=⟨2,t,pc,a,v,0,0,false⟩) (show (2:Int)≠13 by decide) (show (2:Int)≠7 by decide))) ?_
 ·show (s.bufs.set t _).length=_
  rw [List.length_set];exact h.nb
 ·show oneF (s.evs++[⟨2,t,pc,a,v,0,0,false⟩])=_
  rw [oneF_snoc,oneS_other (e:=⟨2,t,pc,a,v,0,0,false⟩) (show (2:Int)≠7 by decide)]
  exact h.one
 ·have e0:x.cnt (X.js t) (s.buf t++[(a,v)]) - (f t).cnt (X.js t) (s.buf t)=0:=by
   rcases hj with⟨a0,hj⟩ | ⟨a0,j1,j2⟩
   ·exact h.cnt_at x hp hj _ (by rw [c0_snoc,if_neg a0];omega)
   ·unfold Loc.cnt
    rw [hp,c0_snoc,if_pos a0,j1,j2,if_pos (by omega),if_neg (by omega)];omega
  rw [e0]
  exact (show s.mem.getD 0 0=wr32 (s.mem.getD 0 0+0) from wr_sum h)
theorem Lk.Inv.swapped(h:X.Inv s f i)(ht:t < X.T)(ev:Ev)(hk:ev.kind=4)(a:Nat)(v:Int)(a0:a≠0)(x:Loc)(hfr:x.fr X.R (X.Lb t))(hI:X.I (s.mem.set a v) (upF f t x) s.buf)(hin:X.inR t x.j=X.inR t (f t).j)(hp:x.p=(f t).p)(hj:decide ((X.js t) < x.j)=decide ((X.js t) < (f t).j)):X.Inv (((s.swap a v).note t ev).upd t (x.th (X.Lb t))) (upF f t x) i:=by
 have e:upF s.buf t (s.buf t)=s.buf:=upF_id _ _
 refine h.put ht _ x (s.buf t) i (by rw [e];rfl) rfl h.nb ?_ h.slp hfr (by rw [e];exact hI) ?_ h.i1 (by rw [hin];exact h.who t ht) (fun u hu _=>h.who u hu) (fine_snoc h.fine (fineE_kind (e:={ ev with who:=t }) (by rw [show ({ ev with who:=(t:Int) }:Ev).kind=4 from hk];decide) (by rw [show ({ ev with who:=(t:Int) }:Ev).kind=4 from hk];decide))) ?_
 ·show (s.mem.set a v).length=_
  rw [List.length_set];exact h.nm
 ·show oneF (s.evs++[{ ev with who:=(t:Int) }])=_
  rw [oneF_snoc,oneS_other (by rw [show ({ ev with who:=(t:Int) }:Ev).kind=4 from hk];decide)]
  exact h.one
 ·rw [h.cnt_at x hp hj _ rfl]
  show (s.mem.set a v).getD 0 0=_
  rw [List.getD_eq_getElem?_getD,List.getElem?_set_ne a0,←List.getD_eq_getElem?_getD]
  exact (show s.mem.getD 0 0=wr32 (s.mem.getD 0 0+0) from wr_sum h)
theorem Lk.Inv.flushed(h:X.Inv s f i)(ht:t < X.T)(hI:∀ e r,s.buf t=e::r→X.I (s.mem.set e.1 e.2) f (upF s.buf t r)∧(e.1≠0∨e.1=0∧0 < X.M∧e.2=wr32 (s.mem.getD 0 0+1))):X.Inv (s.flush t) f i:=by
 have hb:t < s.bufs.length:=by rw [h.nb];exact ht
 have hs:=Ts.flush_same s t hb
 cases hq:s.buf t with
 | nil=>
  have:s.flush t=s:=by unfold Ts.flush;rw [hq]
  rw [this];exact h
 | cons e r=>
  obtain⟨h1,h2⟩:=hI e r hq
  have hf:s.flush t=Ts.note t { s with bufs:=s.bufs.set t r,mem:=s.mem.set e.1 e.2 } ⟨3,0,0,e.1,e.2,0,0,false⟩:=by unfold Ts.flush;rw [hq]
  have hm:(s.flush t).mem=s.mem.set e.1 e.2:=by rw [hf];rfl
  have hbf:(s.flush t).buf=upF s.buf t r:=by rw [buf_flushF hb,hq];rfl
  have hev:(s.flush t).evs=s.evs++[⟨3,t,0,e.1,e.2,0,0,false⟩]:=by rw [hf];rfl
  have key:=h.put ht (s.flush t) (f t) r i hbf (by
   rw [hs.ths]
   have:=h.hs t ht
   obtain⟨hlt,he⟩:=List.getElem?_eq_some_iff.1 this
   rw [←he];exact (List.set_getElem_self hlt).symm) (by rw [hs.nb];exact h.nb) (by rw [hs.nm];exact h.nm) (by rw [hs.slp];exact h.slp) (h.fr t ht) (by rw [hm,upF_id];exact h1) (by
   rw [hev,oneF_snoc,oneS_other (e:=⟨3,t,0,e.1,e.2,0,0,false⟩) (show (3:Int)≠7 by decide)]
   exact h.one) h.i1 (h.who t ht) (fun u hu _=>h.who u hu) (by
   rw [hev]
   exact fine_snoc h.fine (fineE_kind (e:=⟨3,t,0,e.1,e.2,0,0,false⟩) (show (3:Int)≠13 by decide) (show (3:Int)≠7 by decide))) (by
   rw [hm]
   unfold Loc.cnt
   rw [hq,c0_cons]
   rcases h2 with h2 | ⟨h2,h3,h4⟩
   ·rw [if_neg h2,List.getD_eq_getElem?_getD,List.getElem?_set_ne h2,←List.getD_eq_getElem?_getD]
    have e0:((f t).p:Int)+(if (X.js t) < (f t).j then 1 else 0) - c0 r - (((f t).p:Int)+(if (X.js t) < (f t).j then 1 else 0) - (c0 r+0))=0:=by omega
    rw [e0]
    exact (show s.mem.getD 0 0=wr32 (s.mem.getD 0 0+0) from wr_sum h)
   ·rw [if_pos h2,h2,List.getD_eq_getElem?_getD,List.getElem?_set_self (by rw [h.nm];exact h3)]
    have e0:((f t).p:Int)+(if (X.js t) < (f t).j then 1 else 0) - c0 r - (((f t).p:Int)+(if (X.js t) < (f t).j then 1 else 0) - (c0 r+1))=1:=by omega
    rw [e0]
    exact h4)
  rwa [upF_id] at key
theorem Lk.Inv.halted(h:X.Inv s f i)(ht:t < X.T)(pc:Int)(hp:(f t).p=X.R)(hj:(f t).j=0)(hI:X.I s.mem (upF f t { f t with st:=2 }) s.buf):X.Inv ((s.note t ⟨12,0,pc,0,0,0,0,false⟩).upd t (({ f t with st:=2 }:Loc).th (X.Lb t))) (upF f t { f t with st:=2 }) i:=by
 have e:upF s.buf t (s.buf t)=s.buf:=upF_id _ _
 refine h.put ht _ _ (s.buf t) i (by rw [e];rfl) rfl h.nb h.nm h.slp (.inr ⟨hp,hj,.inr rfl⟩) (by rw [e];exact hI) ?_ h.i1 (h.who t ht) (fun u hu _=>h.who u hu) (fine_snoc h.fine (fineE_kind (e:=⟨12,t,pc,0,0,0,0,false⟩) (show (12:Int)≠13 by decide) (show (12:Int)≠7 by decide))) ?_
 ·show oneF (s.evs++[⟨12,t,pc,0,0,0,0,false⟩])=_
  rw [oneF_snoc,oneS_other (e:=⟨12,t,pc,0,0,0,0,false⟩) (show (12:Int)≠7 by decide)]
  exact h.one
 ·rw [show (({ f t with st:=2 }:Loc).cnt (X.js t) (s.buf t) - (f t).cnt (X.js t) (s.buf t))=0 from by show (f t).cnt (X.js t) (s.buf t) - (f t).cnt (X.js t) (s.buf t)=0;omega]
  exact (show s.mem.getD 0 0=wr32 (s.mem.getD 0 0+0) from wr_sum h)
theorem Lk.run(codes:List (List Ins))(hlen:∀ t,t < X.T→∃ L,codes[t]? = some L∧L.length=X.R*(X.Lb t))
  (hst:∀ s f i t,X.Inv s f i→t < X.T→X.I s.mem (upF f t { f t with st:=2 }) s.buf)
  (hstep:∀ s f i t,X.Inv s f i→t < X.T→(f t).st=0→(f t).p < X.R→(f t).j < (X.Lb t)→∃ s' f' i',s.stepT codes t=some s'∧X.Inv s' f' i')
  (hflush:∀ s f i t,X.Inv s f i→t < X.T→X.Inv (s.flush t) f i) (l:List (Nat×Nat)) (s:Ts) (f:Nat→Loc) (i:Int) (h:X.Inv s f i):∃ s',Ts.run codes s l=some s'∧∃ f' i',X.Inv s' f' i':=by
 refine Ts.run_inv (I:=fun s=>∃ f i,X.Inv s f i) (fun _=>True) (fun s q _ hx=>?_) l s (fun _ _=>trivial) ⟨f,i,h⟩
 obtain⟨f,i,h⟩:=hx
 unfold Ts.pick
 by_cases hq:s.ths.length≤q.2
 ·rw [if_pos hq];exact⟨s,rfl,f,i,h⟩
 rw [if_neg hq]
 have ht:q.2 < X.T:=by have:=h.nths;omega
 split
 ·rcases h.fr q.2 ht with⟨h1,h2,h3⟩ | ⟨h1,h2,h3 | h3⟩
  ·obtain⟨s',f',i',e1,e2⟩:=hstep s f i q.2 h ht h1 h2 h3
   exact⟨s',e1,f',i',e2⟩
  ·obtain⟨L,hL,hl⟩:=hlen q.2 ht
   refine⟨_,stepT_end (h.hs q.2 ht) hL h3 ?_,_,i,h.halted ht _ h1 h2 (hst s f i q.2 h ht)⟩
   rw [hl]
   show _≤(((f q.2).p*(X.Lb q.2)+(f q.2).j:Nat):Int)
   rw [h1,h2];simp
  ·obtain⟨L,hL,hl⟩:=hlen q.2 ht
   exact⟨s,stepT_stop (h.hs q.2 ht) hL (by show (f q.2).st≠0;rw [h3];decide),f,i,h⟩
 ·split
  ·exact⟨_,rfl,f,i,hflush s f i q.2 h ht⟩
  ·rw [if_pos h.slp];exact⟨s,rfl,f,i,h⟩
theorem Lk.Inv.done(h:X.Inv s f i)(hst:∀ t,t < X.T→(f t).st=2)(hb:∀ t,t < X.T→s.buf t=[]):s.mem.getD 0 0=wr32 ((X.T:Int)*X.R):=by
 rw [h.sum]
 refine congrArg wr32 ?_
 rw [←sumT_const]
 refine sumT_congr _ (fun t ht=>?_)
 unfold Loc.cnt
 rw [hb t ht]
 rcases h.fr t ht with⟨h1,_⟩ | ⟨h1,h2,_⟩
 ·rw [hst t ht] at h1;exact absurd h1 (by decide)
 ·rw [h1,h2,if_neg (by omega)]
  show (X.R:Int)+0 - c0 []=X.R
  unfold c0;simp
end
end Go.Proofs.YtckmkaeopnnbbaaGreatDoor.As.Wd
