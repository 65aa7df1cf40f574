/- Plain Lean: what a thread sees of memory. No program in sight. -/
import Derived.Test.YtcnmhgblbikfkaaGreatDoorTp2
set_option linter.unusedVariables false
set_option linter.unusedSimpArgs false
namespace Go.Proofs.YtcnmhgblbikfkaaGreatDoor.As

theorem lastQ_snoc(q:List (Nat×Int))(a x:Nat)(v:Int):lastQ (q++[(a,v)]) x=if x=a then some v else lastQ q x:=by
 unfold lastQ
 rw [List.reverse_append,List.reverse_singleton,List.singleton_append,List.find?_cons]
 by_cases h:x=a
 ·subst h;simp
 ·rw [if_neg h]
  have:((a,v).1 == x)=false:=by rw [beq_eq_false_iff_ne];exact fun e=>h e.symm
  rw [this]
theorem lastQ_cons(e:Nat×Int)(q:List (Nat×Int))(x:Nat):lastQ (e::q) x=match lastQ q x with | some v=>some v | none=>if x=e.1 then some e.2 else none:=by
 unfold lastQ
 rw [List.reverse_cons,List.find?_append]
 cases hf:q.reverse.find? (fun e=>e.1 == x) with
 | some p=>rfl
 | none=>
  simp only [Option.none_or,Option.map_none]
  by_cases h:x=e.1
  ·subst h;simp
  ·rw [if_neg h]
   have:(e.1 == x)=false:=by rw [beq_eq_false_iff_ne];exact fun e=>h e.symm
   simp [this]
theorem Ts.load_note(s:Ts)(t u x:Nat)(e:Ev):(s.note u e).load t x=s.load t x:=rfl
theorem Ts.load_upd(s:Ts)(t u x:Nat)(th:Th):(s.upd u th).load t x=s.load t x:=rfl
theorem Ts.buf_store{s:Ts}{t:Nat}(h:t < s.bufs.length)(ad:Nat)(v:Int):(s.store t ad v).buf t=s.buf t++[(ad,v)]:=by
 unfold Ts.store
 show (s.bufs.set t (s.buf t++[(ad,v)])).getD t []=_
 rw [List.getD_eq_getElem?_getD,List.getElem?_set_self h];rfl
theorem Ts.load_store{s:Ts}{t:Nat}(h:t < s.bufs.length)(ad x:Nat)(v:Int):(s.store t ad v).load t x=if x=ad then v else s.load t x:=by
 unfold Ts.load
 rw [Ts.buf_store h,lastQ_snoc]
 show (if x=ad then some v else lastQ (s.buf t) x).getD (s.mem.getD x 0)=_
 split<;>rfl
theorem Ts.load_flush{s:Ts}{t:Nat}(h:t < s.bufs.length)(ok:s.okB)(x:Nat):(s.flush t).load t x=s.load t x:=by
 have hg:=Ts.buf_get h
 unfold Ts.load
 rw [Ts.flush_buf s t h]
 cases hq:s.buf t with
 | nil=>
  have:s.flush t=s:=by unfold Ts.flush;rw [hq]
  rw [this];rfl
 | cons e r=>
  have hm:(s.flush t).mem=s.mem.set e.1 e.2:=by unfold Ts.flush;rw [hq];rfl
  rw [hq] at hg
  have he:=ok t _ hg e (by simp)
  rw [lastQ_cons,hm,List.tail_cons]
  cases lastQ r x with
  | some v=>rfl
  | none=>
   show (s.mem.set e.1 e.2).getD x 0=(if x=e.1 then some e.2 else none).getD (s.mem.getD x 0)
   by_cases hx:x=e.1
   ·subst hx
    rw [if_pos rfl,List.getD_eq_getElem?_getD,List.getElem?_set_self he];rfl
   ·rw [if_neg hx,List.getD_eq_getElem?_getD,List.getElem?_set_ne (fun e=>hx e.symm),←List.getD_eq_getElem?_getD];rfl
theorem Ts.okB_store{s:Ts}{t:Nat}{ad:Nat}(ok:s.okB)(had:ad < s.mem.length)(v:Int):(s.store t ad v).okB:=by
 intro j q hj e he
 have hj2:(s.bufs.set t (s.buf t++[(ad,v)]))[j]? = some q:=hj
 show e.1 < s.mem.length
 by_cases e1:t=j
 ·subst e1
  by_cases hl:t < s.bufs.length
  ·rw [List.getElem?_set_self hl] at hj2
   injection hj2 with hj2
   subst hj2
   rcases List.mem_append.1 he with he | he
   ·exact ok _ _ (Ts.buf_get hl) e he
   ·rw [List.mem_singleton.1 he];exact had
  ·rw [List.getElem?_eq_none (by simp;omega)] at hj2
   cases hj2
 ·rw [List.getElem?_set_ne e1] at hj2
  exact ok j q hj2 e he
theorem Ts.flush_evs(s:Ts)(t:Nat):(s.flush t).evs=s.evs∨∃ e:Ev,e.kind=3∧(s.flush t).evs=s.evs++[e]:=by
 unfold Ts.flush
 split
 ·exact .inl rfl
 ·exact .inr ⟨_,rfl,rfl⟩
end Go.Proofs.YtcnmhgblbikfkaaGreatDoor.As
