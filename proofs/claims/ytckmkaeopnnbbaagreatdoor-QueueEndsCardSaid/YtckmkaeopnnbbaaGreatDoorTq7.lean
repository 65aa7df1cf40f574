/- Plain Lean: threads of different codes: what the framework asks,with a thread's own sizes; remote flushes. No program in sight. -/
import Derived.Test.YtckmkaeopnnbbaaGreatDoorTq5
set_option linter.unusedVariables false
set_option linter.unusedSimpArgs false
namespace Go.Proofs.YtckmkaeopnnbbaaGreatDoor.As.Wd

section
variable{X:Lk}{s:Ts}{f:Nat→Loc}{i:Int}{t L js:Nat}{r:Nat→Bool}
theorem W_loc(h:X.Inv s f i)(ht:t < X.T)(eL:X.Lb t=L)(er:X.inR t=r)(ej:X.js t=js)(x:Loc)(hfr:x.fr X.R L)(hI:X.I s.mem (upF f t x) s.buf)(hin:r x.j=r (f t).j)(hp:x.p=(f t).p)(hj:decide (js < x.j)=decide (js < (f t).j)):X.Inv (s.upd t (x.th L)) (upF f t x) i:=by
 subst eL;subst er;subst ej;exact h.loc ht x hfr hI hin hp hj
theorem W_again(h:X.Inv s f i)(ht:t < X.T)(eL:X.Lb t=L)(er:X.inR t=r)(ej:X.js t=js)(x:Loc)(hfr:x.fr X.R L)(hI:X.I s.mem (upF f t x) s.buf)(hin:r x.j=r (f t).j)(hp:x.p=(f t).p+1)(hj:js < (f t).j)(hj0:x.j=0):X.Inv (s.upd t (x.th L)) (upF f t x) i:=by
 subst eL;subst er;subst ej;exact h.again ht x hfr hI hin hp hj hj0
theorem W_enters(h:X.Inv s f i)(ht:t < X.T)(eL:X.Lb t=L)(er:X.inR t=r)(ej:X.js t=js)(pc:Int)(x:Loc)(hfr:x.fr X.R L)(hI:X.I s.mem (upF f t x) s.buf)(hn:∀ u,u < X.T→X.inR u (f u).j=false)(hin:r x.j=true)(hp:x.p=(f t).p)(hj:decide (js < x.j)=decide (js < (f t).j)):X.Inv ((s.note t ⟨7,0,pc,0,0,0,1,false⟩).upd t (x.th L)) (upF f t x) t:=by
 subst eL;subst er;subst ej;exact h.enters ht pc x hfr hI hn hin hp hj
theorem W_leaves(h:X.Inv s f i)(ht:t < X.T)(eL:X.Lb t=L)(er:X.inR t=r)(ej:X.js t=js)(pc v:Int)(x:Loc)(hfr:x.fr X.R L)(hI:X.I s.mem (upF f t x) s.buf)(h1:r (f t).j=true)(hin:r x.j=false)(hp:x.p=(f t).p)(hj:decide (js < x.j)=decide (js < (f t).j)):X.Inv ((s.note t ⟨7,0,pc,0,v,0,2,false⟩).upd t (x.th L)) (upF f t x) (-1):=by
 subst eL;subst er;subst ej;exact h.leaves ht pc v x hfr hI h1 hin hp hj
theorem W_stored(h:X.Inv s f i)(ht:t < X.T)(eL:X.Lb t=L)(er:X.inR t=r)(ej:X.js t=js)(pc:Int)(a:Nat)(v:Int)(x:Loc)(hfr:x.fr X.R L)(hI:X.I s.mem (upF f t x) (upF s.buf t (s.buf t++[(a,v)])))(hin:r x.j=r (f t).j)(hp:x.p=(f t).p)(hj:(a≠0∧decide (js < x.j)=decide (js < (f t).j))∨(a=0∧(f t).j=js∧x.j=js+1)):X.Inv (((s.store t a v).note t ⟨2,0,pc,a,v,0,0,false⟩).upd t (x.th L)) (upF f t x) i:=by
 subst eL;subst er;subst ej;exact h.stored ht pc a v x hfr hI hin hp hj
theorem W_swapped(h:X.Inv s f i)(ht:t < X.T)(eL:X.Lb t=L)(er:X.inR t=r)(ej:X.js t=js)(ev:Ev)(hk:ev.kind=4)(a:Nat)(v:Int)(a0:a≠0)(x:Loc)(hfr:x.fr X.R L)(hI:X.I (s.mem.set a v) (upF f t x) s.buf)(hin:r x.j=r (f t).j)(hp:x.p=(f t).p)(hj:decide (js < x.j)=decide (js < (f t).j)):X.Inv (((s.swap a v).note t ev).upd t (x.th L)) (upF f t x) i:=by
 subst eL;subst er;subst ej;exact h.swapped ht ev hk a v a0 x hfr hI hin hp hj
theorem get_set{l:List Int}{a b:Nat}{v:Int}(h:a < l.length):(l.set a v).getD b 0=if a=b then v else l.getD b 0:=by
 rw [List.getD_eq_getElem?_getD,List.getElem?_set]
 by_cases e:a=b
 ·subst e;rw [if_pos rfl,if_pos rfl,if_pos h];rfl
 ·rw [if_neg e,if_neg e,←List.getD_eq_getElem?_getD]
theorem load_q{q:List (Nat×Int)}(hq:s.buf t=q)(a:Nat):s.load t a=(lastQ q a).getD (s.mem.getD a 0):=by unfold Ts.load;rw [hq]
theorem empty_q{q:List (Nat×Int)}(hq:s.buf t=q):s.empty t=decide (q.length=0):=by unfold Ts.empty;rw [hq]
theorem empty_ne{q:List (Nat×Int)}(hq:s.buf t=q)(h:q≠[]):s.empty t=false:=by
 rw [empty_q hq]
 cases q with
 | nil=>exact absurd rfl h
 | cons=>rfl
theorem at_ins{codes:List (List Ins)}{C B:List Ins}{p j:Nat}{r0 r1 r2 r3 r4 r5 r6 r7:Int}(hc:codes[t]? = some C)(hs:s.ths[t]? = some (Loc.th L ⟨p,j,r0,r1,r2,r3,r4,r5,r6,r7,0⟩))(hg:C[p*L+j]? = (B[j]?).map (movI (p*L))){i:Ins}(hi:B[j]? = some i):AtI codes s t ⟨((p*L+j:Nat):Int),[r0,r1,r2,r3,r4,r5,r6,r7],0⟩ (movI (p*L) i):=by
 refine⟨hs,⟨C,hc,?_⟩,rfl,by show (0:Int)≤((p*L+j:Nat):Int);omega⟩
 show C[((p*L+j:Nat):Int).toNat]? = _
 rw [Int.toNat_natCast,hg,hi];rfl
theorem th_of{p j j':Nat}{r0 r1 r2 r3 r4 r5 r6 r7 st:Int}(e:j'=j+1):Loc.th L ⟨p,j',r0,r1,r2,r3,r4,r5,r6,r7,st⟩=⟨((p*L+j:Nat):Int)+1,[r0,r1,r2,r3,r4,r5,r6,r7],st⟩:=by
 subst e;unfold Loc.th;congr 1
theorem th_jmp{p k:Nat}{r0 r1 r2 r3 r4 r5 r6 r7 st:Int}(hp:p≤100)(hL:L≤100)(hk:k < L):Loc.th L ⟨p,k,r0,r1,r2,r3,r4,r5,r6,r7,st⟩=⟨wr32 ((k:Int)+((p*L:Nat):Int)),[r0,r1,r2,r3,r4,r5,r6,r7],st⟩:=by
 unfold Loc.th
 have h1:p*L≤100*100:=Nat.mul_le_mul hp hL
 have:wr32 ((k:Int)+((p*L:Nat):Int))=((p*L+k:Nat):Int):=by unfold wr32;omega
 rw [this]
theorem th_last{p j:Nat}{r0 r1 r2 r3 r4 r5 r6 r7 st:Int}(e:j+1=L):Loc.th L ⟨p+1,0,r0,r1,r2,r3,r4,r5,r6,r7,st⟩=⟨((p*L+j:Nat):Int)+1,[r0,r1,r2,r3,r4,r5,r6,r7],st⟩:=by
 unfold Loc.th;congr 1;show (((p+1)*L+0:Nat):Int)=_;rw [Nat.succ_mul];omega
/-! ### Remote flushes -/
theorem drain_inv{P:Ts→Prop}(hf:∀ s,P s→P (s.flush t)):∀ (n:Nat) (s:Ts),P s→P (Ts.drain t n s)
 | 0,s,h=>h
 | n+1,s,h=>drain_inv hf n _ (hf s h)
theorem drain_buf:∀ (n:Nat) (s:Ts),t < s.bufs.length→(Ts.drain t n s).buf=upF s.buf t ((s.buf t).drop n)
 | 0,s,h=>by rw [List.drop_zero,upF_id];rfl
 | n+1,s,h=>by
  have h1:=s.flush_same t h
  rw [Ts.drain,drain_buf n _ (by rw [h1.nb];exact h),buf_flushF h]
  funext u
  by_cases e:u=t
  ·subst e;rw [upF_self,upF_self,upF_self];simp
  ·rw [upF_ne _ _ e,upF_ne _ _ e,upF_ne _ _ e]
theorem remoteFrom_inv{P:Ts→Prop}{N:Nat}(hf:∀ t s,t < N→P s→P (s.flush t)):∀ (n t:Nat) (s:Ts),t+n≤N→P s→P (Ts.remoteFrom n t s)
 | 0,_,s,_,h=>h
 | n+1,t,s,hl,h=>remoteFrom_inv hf n (t+1) _ (by omega) (drain_inv (fun s h=>hf t s (by omega) h) _ s h)
theorem remoteFrom_buf:∀ (n t:Nat) (s:Ts),t+n≤s.bufs.length→(∀ u,t≤u→u < t+n→(Ts.remoteFrom n t s).buf u=[])∧(∀ u,u < t→(Ts.remoteFrom n t s).buf u=s.buf u)
 | 0,t,s,_=>⟨fun u h1 h2=>by omega,fun u _=>rfl⟩
 | n+1,t,s,h=>by
  have h1:=Ts.drain_same t (s.buf t).length s (by omega)
  have hb:=drain_buf (t:=t) (s.buf t).length s (by omega)
  have ih:=remoteFrom_buf n (t+1) (Ts.drain t (s.buf t).length s) (by rw [h1.nb];omega)
  refine⟨fun u h2 h3=>?_,fun u h2=>?_⟩
  ·by_cases e:u=t
   ·subst e
    show (Ts.remoteFrom n (u+1) _).buf u=[]
    rw [ih.2 u (by omega),hb,upF_self,List.drop_length]
   ·exact ih.1 u (by omega) (by omega)
  ·show (Ts.remoteFrom n (t+1) _).buf u=_
   rw [ih.2 u (by omega),hb,upF_ne _ _ (by omega)]
theorem remote_inv{P:Ts→Prop}(hf:∀ t s,t < X.T→P s→P (s.flush t))(hn:s.bufs.length=X.T)(h:P s):P s.remote:=by
 unfold Ts.remote
 exact remoteFrom_inv hf _ 0 s (by omega) h
theorem remote_buf{u:Nat}(hu:u < s.bufs.length):s.remote.buf u=[]:=by
 unfold Ts.remote
 exact (remoteFrom_buf _ 0 s (by omega)).1 u (by omega) (by omega)
end
def qv(d:Nat)(me:Int)(q:List (Nat×Int))(pt:Bool):List (Nat×Int):=if pt then q++[(d,me)] else q
end Go.Proofs.YtckmkaeopnnbbaaGreatDoor.As.Wd
