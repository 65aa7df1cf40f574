/- Plain Lean: a row that is kept as a heap: up,down; the first is the least; nothing is lost. No program in sight. Plain Lean: picks by when each is due: whatever is wished,each window names all. No program in sight. -/
import Derived.Calls
section
set_option linter.unusedVariables false
set_option linter.unusedSimpArgs false
namespace Go.Proofs.YtckmkaeopnnbbaaGreatDoor.As

structure It where
 k:Nat
 t:Nat
 due:Int
 deriving DecidableEq
def dueP(l:List It)(i:Nat):Int:=match l[i]? with | some x=>x.due | none=>0
def swapP(l:List It)(i j:Nat):List It:=match l[i]?,l[j]? with
 | some x,some y=>(l.set i y).set j x
 | _,_=>l
def upP:Nat→List It→Nat→List It
 | 0,l,_=>l
 | f+1,l,j=>if (j - 1) / 2=j∨¬dueP l j < dueP l ((j - 1) / 2) then l else upP f (swapP l ((j - 1) / 2) j) ((j - 1) / 2)
def kidP(l:List It)(i n:Nat):Nat:=if 2*i+2 < n∧dueP l (2*i+2) < dueP l (2*i+1) then 2*i+2 else 2*i+1
def downP:Nat→List It→Nat→Nat→List It×Nat
 | 0,l,i,_=>(l,i)
 | f+1,l,i,n=>if n≤2*i+1 then (l,i) else if ¬dueP l (kidP l i n) < dueP l i then (l,i) else downP f (swapP l i (kidP l i n)) (kidP l i n) n
theorem swapP_len(l:List It)(i j:Nat):(swapP l i j).length=l.length:=by
 unfold swapP
 split<;>simp
theorem swapP_get{l:List It}{i j:Nat}(hi:i < l.length)(hj:j < l.length)(u:Nat):(swapP l i j)[u]? = if u=j then l[i]? else if u=i then l[j]? else l[u]? := by
 have h1:l[i]? = some l[i]:=List.getElem?_eq_getElem hi
 have h2:l[j]? = some l[j]:=List.getElem?_eq_getElem hj
 unfold swapP
 rw [h1,h2]
 show ((l.set i l[j]).set j l[i])[u]? = _
 by_cases e:u=j
 ·subst e;rw [if_pos rfl,List.getElem?_set_self (by rw [List.length_set];exact hj)]
 ·rw [if_neg e,List.getElem?_set_ne (fun e2=>e e2.symm)]
  by_cases e2:u=i
  ·subst e2;rw [if_pos rfl,List.getElem?_set_self hi]
  ·rw [if_neg e2,List.getElem?_set_ne (fun e3=>e2 e3.symm)]
theorem dueP_swap{l:List It}{i j:Nat}(hi:i < l.length)(hj:j < l.length)(u:Nat):dueP (swapP l i j) u=if u=j then dueP l i else if u=i then dueP l j else dueP l u:=by
 unfold dueP
 rw [swapP_get hi hj]
 by_cases e:u=j
 ·rw [if_pos e,if_pos e]
 ·rw [if_neg e,if_neg e]
  by_cases e2:u=i
  ·rw [if_pos e2,if_pos e2]
  ·rw [if_neg e2,if_neg e2]
theorem swapP_mem{l:List It}{i j:Nat}(hi:i < l.length)(hj:j < l.length)(x:It):x∈swapP l i j↔x∈l:=by
 rw [List.mem_iff_getElem?,List.mem_iff_getElem?]
 constructor
 ·rintro⟨u,hu⟩
  rw [swapP_get hi hj] at hu
  by_cases e:u=j
  ·rw [if_pos e] at hu;exact⟨i,hu⟩
  ·rw [if_neg e] at hu
   by_cases e2:u=i
   ·rw [if_pos e2] at hu;exact⟨j,hu⟩
   ·rw [if_neg e2] at hu;exact⟨u,hu⟩
 ·rintro⟨u,hu⟩
  by_cases e:u=i
  ·exact⟨j,by rw [swapP_get hi hj,if_pos rfl,←e];exact hu⟩
  ·by_cases e2:u=j
   ·refine⟨i,?_⟩
    rw [swapP_get hi hj]
    by_cases e3:i=j
    ·rw [if_pos e3,e3,←e2];exact hu
    ·rw [if_neg e3,if_pos rfl,←e2];exact hu
   ·exact⟨u,by rw [swapP_get hi hj,if_neg e2,if_neg e];exact hu⟩
def HeapP(l:List It):Prop:=∀ i,0 < i→i < l.length→dueP l ((i - 1) / 2)≤dueP l i
theorem HeapP.min{l:List It}(h:HeapP l):∀ n i,i≤n→i < l.length→dueP l 0≤dueP l i
 | 0,i,hn,_=>by rw [Nat.le_zero.1 hn];exact Int.le_refl _
 | n+1,i,hn,hl=>by
  by_cases e:i=0
  ·subst e;exact Int.le_refl _
  ·have h1:=h i (by omega) hl
   have h2:=HeapP.min h n ((i - 1) / 2) (by omega) (by omega)
   omega
theorem upP_len:∀ (f:Nat) (l:List It) (j:Nat),(upP f l j).length=l.length
 | 0,_,_=>rfl
 | f+1,l,j=>by
  unfold upP
  split
  ·rfl
  ·rw [upP_len f,swapP_len]
theorem downP_len:∀ (f:Nat) (l:List It) (i n:Nat),(downP f l i n).1.length=l.length
 | 0,_,_,_=>rfl
 | f+1,l,i,n=>by
  unfold downP
  split
  ·rfl
  ·split
   ·rfl
   ·rw [downP_len f,swapP_len]
theorem upP_mem:∀ (f:Nat) (l:List It) (j:Nat),j < l.length→∀ x,x∈upP f l j↔x∈l
 | 0,_,_,_,_=>Iff.rfl
 | f+1,l,j,h,x=>by
  unfold upP
  split
  ·exact Iff.rfl
  ·rw [upP_mem f _ _ (by rw [swapP_len];omega),swapP_mem (by omega) h]
theorem kidP_lt{l:List It}{i n:Nat}(h:2*i+1 < n):kidP l i n < n∧i < kidP l i n∧(kidP l i n - 1) / 2=i:=by
 unfold kidP
 split<;>omega
theorem downP_mem:∀ (f:Nat) (l:List It) (i n:Nat),n≤l.length→i < n→∀ x,x∈(downP f l i n).1↔x∈l
 | 0,_,_,_,_,_,_=>Iff.rfl
 | f+1,l,i,n,h,hi,x=>by
  unfold downP
  split
  ·exact Iff.rfl
  ·rename_i h1
   split
   ·exact Iff.rfl
   ·obtain⟨k1,k2,_⟩:=kidP_lt (l:=l) (i:=i) (n:=n) (by omega)
    rw [downP_mem f _ _ n (by rw [swapP_len];exact h) k1,swapP_mem (by omega) (by omega)]
def HeapUp(l:List It)(j:Nat):Prop:=(∀ i,0 < i→i < l.length→i≠j→dueP l ((i - 1) / 2)≤dueP l i)∧(0 < j→∀ i,0 < i→i < l.length→(i - 1) / 2=j→dueP l ((j - 1) / 2)≤dueP l i)
theorem upP_heap:∀ (f:Nat) (l:List It) (j:Nat),j < f→j < l.length→HeapUp l j→HeapP (upP f l j)
 | 0,_,_,h,_,_=>by omega
 | f+1,l,j,hf,hj,⟨h1,h2⟩=>by
  unfold upP
  split
  ·rename_i hc
   intro i hi hl
   by_cases e:i=j
   ·subst e
    rcases hc with hc | hc
    ·omega
    ·omega
   ·exact h1 i hi hl e
  ·rename_i hc
   have hc1:(j - 1) / 2≠j:=fun e=>hc (.inl e)
   have hc2:dueP l j < dueP l ((j - 1) / 2):=Decidable.byContradiction fun e=>hc (.inr e)
   have hp:(j - 1) / 2 < l.length:=by omega
   refine upP_heap f _ _ (by omega) (by rw [swapP_len];exact hp) ⟨fun i hi hl hne=>?_,fun hj0 i hi hl hpar=>?_⟩
   ·rw [swapP_len] at hl
    rw [dueP_swap hp hj,dueP_swap hp hj]
    by_cases e:i=j
    ·subst e
     rw [if_pos rfl,if_neg hc1,if_pos rfl];omega
    ·rw [if_neg e,if_neg hne]
     by_cases e2:(i - 1) / 2=j
     ·rw [if_pos e2];exact h2 (by omega) i hi hl e2
     ·rw [if_neg e2]
      have h3:=h1 i hi hl e
      by_cases e3:(i - 1) / 2=(j - 1) / 2
      ·rw [if_pos e3];rw [e3] at h3;omega
      ·rw [if_neg e3];exact h3
   ·rw [swapP_len] at hl
    have hgp:dueP l (((j - 1) / 2 - 1) / 2)≤dueP l ((j - 1) / 2):=h1 _ hj0 hp (by omega)
    rw [dueP_swap hp hj,dueP_swap hp hj,if_neg (by omega),if_neg (by omega)]
    by_cases e:i=j
    ·rw [if_pos e];exact hgp
    ·rw [if_neg e,if_neg (by omega)]
     have:=h1 i hi hl e
     rw [hpar] at this
     omega
def HeapDn(l:List It)(j:Nat):Prop:=(∀ i,0 < i→i < l.length→(i - 1) / 2≠j→dueP l ((i - 1) / 2)≤dueP l i)∧(0 < j→∀ i,0 < i→i < l.length→(i - 1) / 2=j→dueP l ((j - 1) / 2)≤dueP l i)
theorem downP_heap:∀ (f:Nat) (l:List It) (i:Nat),l.length≤i+f→i < l.length→HeapDn l i→HeapP (downP f l i l.length).1
 | 0,_,_,h,h2,_=>by omega
 | f+1,l,j,hf,hj,⟨h1,h2⟩=>by
  unfold downP
  split
  ·rename_i hc
   intro i hi hl
   have hl:i < l.length:=hl
   exact h1 i hi hl (by omega)
  ·rename_i hc
   obtain⟨k1,k2,k3⟩:=kidP_lt (l:=l) (i:=j) (n:=l.length) (by omega)
   have kmin:∀ i,0 < i→i < l.length→(i - 1) / 2=j→dueP l (kidP l j l.length)≤dueP l i:=fun i hi hl hpar=>by
    have:i=2*j+1∨i=2*j+2:=by omega
    unfold kidP
    rcases this with rfl | rfl
    ·split
     ·rename_i h;omega
     ·exact Int.le_refl _
    ·split
     ·exact Int.le_refl _
     ·rename_i h
      have:¬dueP l (2*j+2) < dueP l (2*j+1):=fun e=>h ⟨hl,e⟩
      omega
   split
   ·rename_i hd
    intro i hi hl
    have hl:i < l.length:=hl
    show dueP l ((i - 1) / 2)≤dueP l i
    by_cases e:(i - 1) / 2=j
    ·have:=kmin i hi hl e
     rw [e];omega
    ·exact h1 i hi hl e
   ·rename_i hd
    have hd:dueP l (kidP l j l.length) < dueP l j:=Decidable.byContradiction fun e=>hd e
    generalize hk:kidP l j l.length=k at *
    have e0:l.length=(swapP l j k).length:=(swapP_len l j k).symm
    rw [e0]
    refine downP_heap f _ _ (by rw [swapP_len];omega) (by rw [swapP_len];exact k1) ⟨fun i hi hl hne=>?_,fun hj0 i hi hl hpar=>?_⟩
    ·rw [swapP_len] at hl
     rw [dueP_swap hj k1,dueP_swap hj k1,if_neg hne]
     by_cases e:i=k
     ·rw [if_pos e,e,k3,if_pos rfl];omega
     ·rw [if_neg e]
      by_cases e2:i=j
      ·rw [if_pos e2,if_neg (by omega)]
       exact h2 (by omega) k (by omega) k1 k3 |> fun h=>by rw [e2];exact h
      ·rw [if_neg e2]
       by_cases e3:(i - 1) / 2=j
       ·rw [if_pos e3];exact kmin i hi hl e3
       ·rw [if_neg e3];exact h1 i hi hl e3
    ·rw [swapP_len] at hl
     rw [dueP_swap hj k1,dueP_swap hj k1,k3,if_neg (by omega),if_pos rfl,if_neg (by omega),if_neg (by omega)]
     have:=h1 i hi hl (by omega)
     rw [hpar] at this;exact this
end Go.Proofs.YtckmkaeopnnbbaaGreatDoor.As
end

section
set_option linter.unusedVariables false
set_option linter.unusedSimpArgs false
namespace Go.Proofs.YtckmkaeopnnbbaaGreatDoor.As

def cntP(p:It→Bool):List It→Nat
 | []=>0
 | x::l=>(if p x=true then 1 else 0)+cntP p l
theorem cntP_app(p:It→Bool):∀ l r:List It,cntP p (l++r)=cntP p l+cntP p r
 | [],r=>by simp [cntP]
 | x::l,r=>by
  rw [List.cons_append,cntP,cntP,cntP_app p l r];omega
theorem cntP_set(p:It→Bool)(a:It):∀ (l:List It) (i:Nat) (x:It),l[i]? = some x→cntP p (l.set i a)+(if p x=true then 1 else 0)=cntP p l+(if p a=true then 1 else 0)
 | [],i,x,h=>by simp at h
 | y::l,0,x,h=>by
  have:y=x:=by simpa using h
  subst this
  rw [List.set_cons_zero,cntP,cntP];omega
 | y::l,i+1,x,h=>by
  have:=cntP_set p a l i x (by simpa using h)
  rw [List.set_cons_succ,cntP,cntP];omega
theorem cntP_swap(p:It→Bool){l:List It}{i j:Nat}(hi:i < l.length)(hj:j < l.length):cntP p (swapP l i j)=cntP p l:=by
 have h1:l[i]? = some l[i]:=List.getElem?_eq_getElem hi
 have h2:l[j]? = some l[j]:=List.getElem?_eq_getElem hj
 have e:swapP l i j=(l.set i l[j]).set j l[i]:=by unfold swapP;rw [h1,h2]
 rw [e]
 have k1:=cntP_set p l[j] l i l[i] h1
 have k2:=cntP_set p l[i] (l.set i l[j]) j l[j] (by
  by_cases c:i=j
  ·subst c;exact List.getElem?_set_self hi
  ·rw [List.getElem?_set_ne c];exact h2)
 omega
theorem upP_cnt(p:It→Bool):∀ (f:Nat) (l:List It) (j:Nat),j < l.length→cntP p (upP f l j)=cntP p l
 | 0,_,_,_=>rfl
 | f+1,l,j,h=>by
  unfold upP
  split
  ·rfl
  ·rw [upP_cnt p f _ _ (by rw [swapP_len];omega),cntP_swap p (by omega) h]
theorem downP_cnt(p:It→Bool):∀ (f:Nat) (l:List It) (i n:Nat),n≤l.length→i < n→cntP p (downP f l i n).1=cntP p l
 | 0,_,_,_,_,_=>rfl
 | f+1,l,i,n,h,hi=>by
  unfold downP
  split
  ·rfl
  ·rename_i c
   split
   ·rfl
   ·obtain⟨k1,k2,_⟩:=kidP_lt (l:=l) (i:=i) (n:=n) (by omega)
    rw [downP_cnt p f _ _ _ (by rw [swapP_len];exact h) k1,cntP_swap p (by omega) (by omega)]
theorem cntP_pos{p:It→Bool}:∀ {l:List It} {x:It},x∈l→p x=true→0 < cntP p l
 | y::l,x,h,hp=>by
  rw [cntP]
  rcases List.mem_cons.1 h with e | e
  ·subst e;rw [if_pos hp];omega
  ·have:=cntP_pos e hp;omega
theorem cntP_zero{p:It→Bool}:∀ {l:List It},(∀ x∈l,p x=false)→cntP p l=0
 | [],_=>rfl
 | y::l,h=>by
  rw [cntP,h y (by simp),cntP_zero fun x hx=>h x (by simp [hx])];rfl
theorem cntP_le(p:It→Bool):∀ l:List It,cntP p l≤l.length
 | []=>Nat.le_refl _
 | y::l=>by
  have:=cntP_le p l
  rw [cntP,List.length_cons];split<;>omega
def by_(d:Int)(x:It):Bool:=decide (x.due≤d)
def pushP(l:List It)(x:It):List It:=upP (l.length+1) (l++[x]) l.length
theorem pushP_len(l:List It)(x:It):(pushP l x).length=l.length+1:=by unfold pushP;rw [upP_len];simp
theorem pushP_mem(l:List It)(x y:It):y∈pushP l x↔y∈l∨y=x:=by
 unfold pushP
 rw [upP_mem _ _ _ (by simp)];simp
theorem pushP_cnt(p:It→Bool)(l:List It)(x:It):cntP p (pushP l x)=cntP p l+(if p x=true then 1 else 0):=by
 unfold pushP
 rw [upP_cnt p _ _ _ (by simp),cntP_app];simp [cntP]
theorem dueP_app{l:List It}{x:It}{i:Nat}(h:i < l.length):dueP (l++[x]) i=dueP l i:=by
 unfold dueP;rw [List.getElem?_append_left h]
theorem pushP_heap{l:List It}(h:HeapP l)(x:It):HeapP (pushP l x):=by
 refine upP_heap _ _ _ (by omega) (by simp) ⟨fun i h0 hi hne=>?_,fun h0 i hi hi2 e=>?_⟩
 ·have:i < l.length:=by simp at hi;omega
  rw [dueP_app this,dueP_app (by omega)]
  exact h i h0 this
 ·simp at hi2;omega
def bumpP(l:List It)(i:Nat)(d:Int):List It:=match l[i]? with
 | some x=>(downP l.length (l.set i { x with due:=d }) i l.length).1
 | none=>l
def keyP(x:It):Nat×Nat:=(x.k,x.t)
theorem bumpP_len(l:List It)(i:Nat)(d:Int):(bumpP l i d).length=l.length:=by
 unfold bumpP
 split
 ·rw [downP_len];simp
 ·rfl
theorem dueP_set{l:List It}{i:Nat}(hi:i < l.length)(x:It)(u:Nat):dueP (l.set i x) u=if u=i then x.due else dueP l u:=by
 unfold dueP
 by_cases e:u=i
 ·subst e;rw [List.getElem?_set_self hi,if_pos rfl]
 ·rw [List.getElem?_set_ne (fun c=>e c.symm),if_neg e]
theorem setP_dn{l:List It}(h:HeapP l){i:Nat}(hi:i < l.length){x:It}(hx:dueP l i≤x.due):HeapDn (l.set i x) i:=by
 refine⟨fun u h0 hu hne=>?_,fun h0 u hu hu2 e=>?_⟩
 ·rw [List.length_set] at hu
  have:=h u h0 hu
  rw [dueP_set hi,dueP_set hi,if_neg hne]
  split
  ·rename_i e;subst e;omega
  ·exact this
 ·rw [List.length_set] at hu2
  have h1:=h u hu hu2
  have h2:=h i h0 hi
  rw [dueP_set hi,dueP_set hi,if_neg (by omega),if_neg (by omega)]
  rw [e] at h1
  omega
theorem bumpP_heap{l:List It}(h:HeapP l)(i:Nat)(d:Int)(hd:∀ x∈l,x.due≤d):HeapP (bumpP l i d):=by
 unfold bumpP
 cases hx:l[i]? with
 | none=>exact h
 | some x=>
  have hi:=(List.getElem?_eq_some_iff.1 hx).1
  have hm:x∈l:=List.mem_of_getElem? hx
  have e:dueP l i=x.due:=by unfold dueP;rw [hx]
  have:=downP_heap l.length (l.set i { x with due:=d }) i (by rw [List.length_set];omega) (by rw [List.length_set];exact hi) (setP_dn h hi (by rw [e];exact hd x hm))
  rw [List.length_set] at this
  exact this
theorem bumpP_mem{l:List It}{i:Nat}{x:It}(hx:l[i]? = some x)(d:Int)(y:It):y∈bumpP l i d↔y∈l.set i { x with due:=d }:=by
 have hi:=(List.getElem?_eq_some_iff.1 hx).1
 unfold bumpP
 rw [hx]
 exact downP_mem _ _ _ _ (by rw [List.length_set];omega) hi y
theorem bumpP_cnt(p:It→Bool){l:List It}{i:Nat}{x:It}(hx:l[i]? = some x)(d:Int):cntP p (bumpP l i d)+(if p x=true then 1 else 0)=cntP p l+(if p { x with due:=d }=true then 1 else 0):=by
 have hi:=(List.getElem?_eq_some_iff.1 hx).1
 have e:bumpP l i d=(downP l.length (l.set i { x with due:=d }) i l.length).1:=by unfold bumpP;rw [hx]
 rw [e,downP_cnt p _ _ _ _ (by rw [List.length_set];omega) hi]
 exact cntP_set p _ l i x hx
def idxP(l:List It)(x:Nat×Nat):Nat:=match l with
 | []=>0
 | y::r=>if keyP y=x then 0 else idxP r x+1
theorem idxP_get(x:Nat×Nat):∀ (l:List It) (y:It),l[idxP l x]? = some y→keyP y=x
 | [],y,h=>by simp at h
 | z::r,y,h=>by
  unfold idxP at h
  by_cases e:keyP z=x
  ·rw [if_pos e] at h
   have:z=y:=by simpa using h
   rw [←this];exact e
  ·rw [if_neg e] at h
   exact idxP_get x r y (by simpa using h)
theorem idxP_of{x:Nat×Nat}:∀ (l:List It) (i:Nat),i≤l.length→(∀ j y,j < i→l[j]? = some y→keyP y≠x)→(∀ y,l[i]? = some y→keyP y=x)→idxP l x=i
 | [],i,h,_,_=>by simp at h;subst h;rfl
 | z::r,0,_,_,h2=>by
  unfold idxP
  rw [if_pos (h2 z rfl)]
 | z::r,i+1,h,h1,h2=>by
  unfold idxP
  rw [if_neg (h1 0 z (by omega) rfl),idxP_of r i (by simpa using h) (fun j y hj hy=>h1 (j+1) y (by omega) (by simpa using hy)) (fun y hy=>h2 y (by simpa using hy))]
def nextP(T:Nat)(ws:List (Nat×Nat))(l:List It)(k at_:Nat):(Nat×Nat)×Nat:=
 if dueP l 0 - at_≤2*T∨ws.length=0 then (match l[0]? with | some y=>keyP y | none=>(0,0),k) else (ws.getD (k % ws.length) (0,0),k+1)
structure EvS where
 l:List It
 k:Nat
 out:List (Nat×Nat)
def EvS.step(T w:Nat)(ws:List (Nat×Nat))(s:EvS):EvS:=
 let q:=nextP T ws s.l s.k s.out.length
 ⟨bumpP s.l (idxP s.l q.1) ((s.out.length:Int)+1+w),q.2,s.out++[q.1]⟩
structure EvI(T w:Nat)(s:EvS):Prop where
 len:s.l.length=2*T
 heap:HeapP s.l
 cnt:∀ c:Nat,cntP (by_ ((s.out.length:Int)+c)) s.l≤c
 tie:∀ x∈s.l,x.due≤w∨∃ i:Nat,x.due=(i:Int)+1+w∧s.out[i]? = some (keyP x)
 all:∀ k t,k < 2→t < T→∃ x∈s.l,keyP x=(k,t)
 fair:∀ a:Nat,a+w≤s.out.length→∀ k t,k < 2→t < T→∃ i,a≤i∧i < a+w∧s.out[i]? = some (k,t)
theorem EvI.due_le{T w:Nat}{s:EvS}(h:EvI T w s):∀ x∈s.l,x.due≤(s.out.length:Int)+w:=fun x hx=>by
 rcases h.tie x hx with e | ⟨i,e,hi⟩
 ·omega
 ·have:=(List.getElem?_eq_some_iff.1 hi).1
  omega
theorem EvI.due_gt{T w:Nat}{s:EvS}(h:EvI T w s):∀ x∈s.l,(s.out.length:Int) < x.due:=fun x hx=>by
 have h0:=h.cnt 0
 refine Int.not_le.1 fun e=>?_
 have:=cntP_pos (p:=by_ ((s.out.length:Int)+(0:Nat))) hx (by unfold by_;exact decide_eq_true (by omega))
 omega
theorem EvI.step{T w:Nat}{s:EvS}(ws:List (Nat×Nat))(h:EvI T w s)(hT:0 < T)(hw:2*T≤w):EvI T w (s.step T w ws):=by
 obtain⟨q,hq⟩:∃ q,nextP T ws s.l s.k s.out.length=q:=⟨_,rfl⟩
 obtain⟨x0,hx0⟩:∃ x0,s.l[0]? = some x0:=⟨s.l[0]'(by rw [h.len];omega),List.getElem?_eq_getElem _⟩
 have e0:dueP s.l 0=x0.due:=by unfold dueP;rw [hx0]
 have hmin:∀ x∈s.l,x0.due≤x.due:=fun x hx=>by
  obtain⟨i,hi,he⟩:=List.mem_iff_getElem.1 hx
  have:=h.heap.min i i (Nat.le_refl _) hi
  rw [e0] at this
  have e:dueP s.l i=x.due:=by unfold dueP;rw [List.getElem?_eq_getElem hi,he]
  omega
 have es:s.step T w ws=⟨bumpP s.l (idxP s.l q.1) ((s.out.length:Int)+1+w),q.2,s.out++[q.1]⟩:=by unfold EvS.step;rw [hq]
 have hdue:=h.due_le
 -- the count of what is due
 have hcnt:∀ c:Nat,cntP (by_ (((s.out++[q.1]).length:Int)+c)) (bumpP s.l (idxP s.l q.1) ((s.out.length:Int)+1+w))≤c:=fun c=>by
  have hl:((s.out++[q.1]).length:Int)=(s.out.length:Int)+1:=by simp
  rw [hl]
  have hc1:=h.cnt (c+1)
  have ec:(s.out.length:Int)+((c+1:Nat):Int)=(s.out.length:Int)+1+c:=by omega
  rw [ec] at hc1
  by_cases hcw:2*T≤c
  ·have:=cntP_le (by_ ((s.out.length:Int)+1+c)) (bumpP s.l (idxP s.l q.1) ((s.out.length:Int)+1+w))
   rw [bumpP_len,h.len] at this
   omega
  ·have hnew:∀ y:It,by_ ((s.out.length:Int)+1+c) { y with due:=(s.out.length:Int)+1+w }=false:=fun y=>decide_eq_false (by show ¬((s.out.length:Int)+1+(w:Int)≤_);omega)
   unfold nextP at hq
   by_cases hd:dueP s.l 0 - s.out.length≤2*T∨ws.length=0
   ·rw [if_pos hd,hx0] at hq
    have hi:idxP s.l q.1=0:=by
     refine idxP_of s.l 0 (Nat.zero_le _) (fun j y hj=>by omega) fun y hy=>?_
     rw [hx0] at hy
     rw [←hq,←Option.some.inj hy]
    rw [hi]
    have hb:=bumpP_cnt (by_ ((s.out.length:Int)+1+c)) hx0 ((s.out.length:Int)+1+w)
    rw [hnew x0] at hb
    by_cases hp:by_ ((s.out.length:Int)+1+c) x0=true
    ·rw [if_pos hp] at hb
     simp only [Bool.false_eq_true,if_false] at hb
     omega
    ·have hz:cntP (by_ ((s.out.length:Int)+1+c)) s.l=0:=cntP_zero fun x hx=>by
      have:=hmin x hx
      unfold by_ at hp ⊢
      rw [decide_eq_true_iff] at hp
      exact decide_eq_false (by omega)
     simp only [Bool.false_eq_true,if_false] at hb
     omega
   ·have hz:cntP (by_ ((s.out.length:Int)+1+c)) s.l=0:=cntP_zero fun x hx=>by
     have:=hmin x hx
     rw [e0] at hd
     exact decide_eq_false (by omega)
    cases hx:s.l[idxP s.l q.1]? with
    | none=>
     have:bumpP s.l (idxP s.l q.1) ((s.out.length:Int)+1+w)=s.l:=by unfold bumpP;rw [hx]
     rw [this,hz];omega
    | some y=>
     have hb:=bumpP_cnt (by_ ((s.out.length:Int)+1+c)) hx ((s.out.length:Int)+1+w)
     rw [hnew y,hz] at hb
     simp only [Bool.false_eq_true,if_false] at hb
     omega
 have htie:∀ x∈bumpP s.l (idxP s.l q.1) ((s.out.length:Int)+1+w),x.due≤w∨∃ i:Nat,x.due=(i:Int)+1+w∧(s.out++[q.1])[i]? = some (keyP x):=fun x hx=>by
  have old:∀ x∈s.l,x.due≤w∨∃ i:Nat,x.due=(i:Int)+1+w∧(s.out++[q.1])[i]? = some (keyP x):=fun x hx=>by
   rcases h.tie x hx with e | ⟨i,e,hi⟩
   ·exact .inl e
   ·exact .inr ⟨i,e,by rw [List.getElem?_append_left (List.getElem?_eq_some_iff.1 hi).1];exact hi⟩
  cases hy:s.l[idxP s.l q.1]? with
  | none=>
   have e:bumpP s.l (idxP s.l q.1) ((s.out.length:Int)+1+w)=s.l:=by unfold bumpP;rw [hy]
   rw [e] at hx
   exact old x hx
  | some y=>
   rw [bumpP_mem hy] at hx
   rcases List.mem_or_eq_of_mem_set hx with hx | hx
   ·exact old x hx
   ·refine .inr ⟨s.out.length,by rw [hx],?_⟩
    have hk:=idxP_get q.1 s.l y hy
    have hk2:keyP x=keyP y:=by rw [hx];rfl
    rw [hk2,hk,List.getElem?_append_right (Nat.le_refl _),Nat.sub_self];rfl
 have hall:∀ k t,k < 2→t < T→∃ x∈bumpP s.l (idxP s.l q.1) ((s.out.length:Int)+1+w),keyP x=(k,t):=fun k t hk ht=>by
  obtain⟨x,hx,hkx⟩:=h.all k t hk ht
  cases hy:s.l[idxP s.l q.1]? with
  | none=>
   have e:bumpP s.l (idxP s.l q.1) ((s.out.length:Int)+1+w)=s.l:=by unfold bumpP;rw [hy]
   rw [e];exact⟨x,hx,hkx⟩
  | some y=>
   obtain⟨i,hi⟩:=List.mem_iff_getElem?.1 hx
   by_cases e:i=idxP s.l q.1
   ·refine⟨{ y with due:=(s.out.length:Int)+1+w },(bumpP_mem hy _ _).2 (List.mem_iff_getElem?.2 ⟨idxP s.l q.1,List.getElem?_set_self (List.getElem?_eq_some_iff.1 hy).1⟩),?_⟩
    rw [e,hy] at hi
    rw [←hkx,←Option.some.inj hi];rfl
   ·exact⟨x,(bumpP_mem hy _ _).2 (List.mem_iff_getElem?.2 ⟨i,by rw [List.getElem?_set_ne (fun c=>e c.symm)];exact hi⟩),hkx⟩
 rw [es]
 refine⟨by rw [bumpP_len];exact h.len,bumpP_heap h.heap _ _ fun x hx=>by have:=hdue x hx;omega,hcnt,htie,hall,fun a ha k t hk ht=>?_⟩
 have hl:(s.out++[q.1]).length=s.out.length+1:=by simp
 by_cases e:a+w≤s.out.length
 ·obtain⟨i,h1,h2,h3⟩:=h.fair a e k t hk ht
  exact⟨i,h1,h2,by rw [List.getElem?_append_left (List.getElem?_eq_some_iff.1 h3).1];exact h3⟩
 ·have ha':a+w≤(s.out++[q.1]).length:=ha
  obtain⟨x,hx,hkx⟩:=hall k t hk ht
  have hgt:((s.out++[q.1]).length:Int) < x.due:=by
   refine Int.not_le.1 fun c=>?_
   have h0:=hcnt 0
   have:=cntP_pos (p:=by_ (((s.out++[q.1]).length:Int)+(0:Nat))) hx (by unfold by_;exact decide_eq_true (by omega))
   omega
  rcases htie x hx with c | ⟨i,c,hi⟩
  ·omega
  ·refine⟨i,by omega,?_,by rw [hi,hkx]⟩
   have:=(List.getElem?_eq_some_iff.1 hi).1
   omega
def startP(w:Nat):Nat→List It
 | 0=>[]
 | n+1=>pushP (pushP (startP w n) ⟨0,n,(w:Int) - 2*n⟩) ⟨1,n,(w:Int) - 2*n - 1⟩
theorem startP_facts(w:Nat):∀ n:Nat,(startP w n).length=2*n∧HeapP (startP w n)∧(∀ d:Int,(cntP (by_ d) (startP w n):Int)≤max 0 (d - (w - 2*n)))∧(∀ x∈startP w n,x.due≤w)∧∀ k t,k < 2→t < n→∃ x∈startP w n,keyP x=(k,t)
 | 0=>⟨rfl,fun i h0 hi=>by simp [startP] at hi,fun d=>by simp [startP,cntP];omega,fun x hx=>by simp [startP] at hx,fun k t _ ht=>by omega⟩
 | n+1=>by
  obtain⟨h1,h2,h3,h4,h5⟩:=startP_facts w n
  refine⟨by rw [startP,pushP_len,pushP_len,h1];omega,pushP_heap (pushP_heap h2 _) _,fun d=>?_,fun x hx=>?_,fun k t hk ht=>?_⟩
  ·rw [startP,pushP_cnt,pushP_cnt]
   have:=h3 d
   unfold by_ at this ⊢
   simp only [decide_eq_true_eq]
   split<;>split<;>omega
  ·rw [startP,pushP_mem,pushP_mem] at hx
   rcases hx with (hx | hx) | hx
   ·exact h4 x hx
   ·rw [hx];show (w:Int) - 2*n≤w;omega
   ·rw [hx];show (w:Int) - 2*n - 1≤w;omega
  ·by_cases e:t < n
   ·obtain⟨x,hx,hkx⟩:=h5 k t hk e
    exact⟨x,by rw [startP,pushP_mem,pushP_mem];exact .inl (.inl hx),hkx⟩
   ·have et:t=n:=by omega
    subst et
    by_cases ek:k=0
    ·exact⟨⟨0,t,(w:Int) - 2*t⟩,by rw [startP,pushP_mem,pushP_mem];exact .inl (.inr rfl),by rw [ek];rfl⟩
    ·have ek:k=1:=by omega
     exact⟨⟨1,t,(w:Int) - 2*t - 1⟩,by rw [startP,pushP_mem];exact .inr rfl,by rw [ek];rfl⟩
theorem EvI.start{T w:Nat}(hw0:0 < w)(hw:2*T≤w)(k:Nat):EvI T w ⟨startP w T,k,[]⟩:=by
 obtain⟨h1,h2,h3,h4,h5⟩:=startP_facts w T
 refine⟨h1,h2,fun c=>?_,fun x hx=>.inl (h4 x hx),h5,fun a ha=>?_⟩
 ·have:=h3 ((([]:List (Nat×Nat)).length:Int)+c)
  simp only [List.length_nil] at this ⊢
  omega
 ·simp at ha;omega
def evenS(T w:Nat)(ws:List (Nat×Nat)):Nat→EvS
 | 0=>⟨startP w T,0,[]⟩
 | n+1=>(evenS T w ws n).step T w ws
def evenP(T w:Nat)(ws:List (Nat×Nat))(n:Nat):List (Nat×Nat):=(evenS T w ws n).out
theorem evenS_inv{T w:Nat}(ws:List (Nat×Nat))(hT:0 < T)(hw:2*T≤w):∀ n,EvI T w (evenS T w ws n)
 | 0=>EvI.start (by omega) hw 0
 | n+1=>(evenS_inv ws hT hw n).step ws hT hw
theorem evenP_len(T w:Nat)(ws:List (Nat×Nat)):∀ n,(evenP T w ws n).length=n
 | 0=>rfl
 | n+1=>by
  show ((evenS T w ws n).out++[_]).length=n+1
  have:=evenP_len T w ws n
  unfold evenP at this
  simp [this]
theorem windows_of{T w:Nat}:∀ (m:Nat) (l:List (Nat×Nat)),l.length=m*w→(∀ a:Nat,a+w≤l.length→∀ k t,k < 2→t < T→∃ i,a≤i∧i < a+w∧l[i]? = some (k,t))→∃ ls:List (List (Nat×Nat)),ls.length=m∧ls.flatten=l∧∀ r∈ls,∀ t,t < T→(0,t)∈r∧(1,t)∈r
 | 0,l,hl,_=>⟨[],rfl,by rw [Nat.zero_mul] at hl;rw [List.eq_nil_of_length_eq_zero hl];rfl,fun r h=>by cases h⟩
 | m+1,l,hl,h=>by
  rw [Nat.succ_mul] at hl
  obtain⟨ls,h1,h2,h3⟩:=windows_of (T:=T) (w:=w) m (l.drop w) (by rw [List.length_drop];omega) fun a ha k t hk ht=>by
   rw [List.length_drop] at ha
   obtain⟨i,k1,k2,k3⟩:=h (a+w) (by omega) k t hk ht
   refine⟨i - w,by omega,by omega,?_⟩
   rw [List.getElem?_drop,show w+(i - w)=i by omega];exact k3
  refine⟨l.take w::ls,by rw [List.length_cons,h1],by rw [List.flatten_cons,h2,List.take_append_drop],fun r hr=>?_⟩
  rcases List.mem_cons.1 hr with e | e
  ·have hin:∀ k t,k < 2→t < T→(k,t)∈r:=fun k t hk ht=>by
    obtain⟨i,k1,k2,k3⟩:=h 0 (by omega) k t hk ht
    rw [e]
    exact List.mem_iff_getElem?.2 ⟨i,by rw [List.getElem?_take];rw [if_pos (by omega)];exact k3⟩
   exact fun t ht=>⟨hin 0 t (by omega) ht,hin 1 t (by omega) ht⟩
  ·exact h3 r e
theorem evenP_windows{T w:Nat}(ws:List (Nat×Nat))(hT:0 < T)(hw:2*T≤w)(m:Nat):∃ ls:List (List (Nat×Nat)),ls.length=m∧ls.flatten=evenP T w ws (m*w)∧∀ r∈ls,∀ t,t < T→(0,t)∈r∧(1,t)∈r:=
 windows_of m _ (evenP_len T w ws _) (evenS_inv ws hT hw (m*w)).fair
end Go.Proofs.YtckmkaeopnnbbaaGreatDoor.As
end

