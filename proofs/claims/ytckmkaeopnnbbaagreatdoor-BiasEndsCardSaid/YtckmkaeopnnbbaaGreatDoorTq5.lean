/- Plain Lean: the buffer of a thread whose way in needs no fence,as a path of stages. No program in sight. -/
import Derived.Test.YtckmkaeopnnbbaaGreatDoorTp7
set_option linter.unusedVariables false
set_option linter.unusedSimpArgs false
namespace Go.Proofs.YtckmkaeopnnbbaaGreatDoor.As.Wd

inductive Pth(me:Int)(d:Nat):Nat→Int→List (Nat×Int)→Nat→Int→Prop
 | nil {σ:Nat} {c:Int}:Pth me d σ c [] σ c
 | up {c c':Int} {σ:Nat} {q:List (Nat×Int)} (h:Pth me d 1 c q σ c'):Pth me d 0 c ((16,1)::q) σ c'
 | down {c c':Int} {σ:Nat} {q:List (Nat×Int)} (h:Pth me d 0 c q σ c'):Pth me d 1 c ((16,0)::q) σ c'
 | own {c c':Int} {σ:Nat} {q:List (Nat×Int)} (h:Pth me d 2 c q σ c'):Pth me d 1 c ((d,me)::q) σ c'
 | add {c c':Int} {σ:Nat} {q:List (Nat×Int)} (h:Pth me d 3 (wr32 (c+1)) q σ c'):Pth me d 2 c ((0,wr32 (c+1))::q) σ c'
 | rel {c c':Int} {σ:Nat} {q:List (Nat×Int)} (h:Pth me d 4 c q σ c'):Pth me d 3 c ((d,0)::q) σ c'
 | off {c c':Int} {σ:Nat} {q:List (Nat×Int)} (h:Pth me d 0 c q σ c'):Pth me d 4 c ((16,0)::q) σ c'
section
variable{me c c' c2 ow:Int}{d σ σ' σ2:Nat}{q q2:List (Nat×Int)}
theorem Pth.trans(h:Pth me d σ c q σ' c')(h2:Pth me d σ' c' q2 σ2 c2):Pth me d σ c (q++q2) σ2 c2:=by
 induction h with
 | nil=>exact h2
 | up _ ih=>exact .up (ih h2)
 | down _ ih=>exact .down (ih h2)
 | own _ ih=>exact .own (ih h2)
 | add _ ih=>exact .add (ih h2)
 | rel _ ih=>exact .rel (ih h2)
 | off _ ih=>exact .off (ih h2)
def Mo(me:Int)(σ:Nat)(ow:Int):Prop:=((σ=2∨σ=3)→ow=me)∧(σ=4→ow=0)∧((σ=0∨σ=1)→ow≠me)
theorem lastQ_cons(e:Nat×Int)(q:List (Nat×Int))(a:Nat)(v:Int):(lastQ (e::q) a).getD v=(lastQ q a).getD (if e.1=a then e.2 else v):=by
 unfold lastQ
 rw [List.reverse_cons,List.find?_append]
 cases h:q.reverse.find? (fun e=>e.1 == a) with
 | some u=>rfl
 | none=>
  by_cases e2:e.1=a
  ·rw [if_pos e2];simp [List.find?,e2]
  ·have:(e.1 == a)=false:=by simpa using e2
   rw [if_neg e2];simp [List.find?,this]
theorem Pth.mo(h:Pth me d σ c q σ' c')(hd:d≠0∧d≠16)(hme:0 < me):∀ {ow:Int},Mo me σ ow→Mo me σ' ((lastQ q d).getD ow):=by
 induction h with
 | nil=>exact fun h=>h
 | up _ ih=>intro ow h;rw [lastQ_cons,if_neg (by omega)];exact ih ⟨fun e=>by omega,fun e=>by omega,fun _=>h.2.2 (.inl rfl)⟩
 | down _ ih=>intro ow h;rw [lastQ_cons,if_neg (by omega)];exact ih ⟨fun e=>by omega,fun e=>by omega,fun _=>h.2.2 (.inr rfl)⟩
 | own _ ih=>intro ow h;rw [lastQ_cons,if_pos rfl];exact ih ⟨fun _=>rfl,fun e=>by omega,fun e=>by omega⟩
 | add _ ih=>intro ow h;rw [lastQ_cons,if_neg (by dsimp only;omega)];exact ih ⟨fun _=>h.1 (.inl rfl),fun e=>by omega,fun e=>by omega⟩
 | rel _ ih=>intro ow h;rw [lastQ_cons,if_pos rfl];exact ih ⟨fun e=>by omega,fun _=>rfl,fun e=>by omega⟩
 | off _ ih=>intro ow h;rw [lastQ_cons,if_neg (by dsimp only;omega)];exact ih ⟨fun e=>by omega,fun e=>by omega,fun _=>by rw [h.2.1 rfl];omega⟩
theorem Pth.cnt(h:Pth me d σ c q σ' c')(hd:d≠0):(lastQ q 0).getD c=c':=by
 induction h with
 | nil=>rfl
 | up _ ih=>rw [lastQ_cons,if_neg (by dsimp only;omega)];exact ih
 | down _ ih=>rw [lastQ_cons,if_neg (by dsimp only;omega)];exact ih
 | own _ ih=>rw [lastQ_cons,if_neg (by dsimp only;omega)];exact ih
 | add _ ih=>rw [lastQ_cons,if_pos rfl];exact ih
 | rel _ ih=>rw [lastQ_cons,if_neg (by dsimp only;omega)];exact ih
 | off _ ih=>rw [lastQ_cons,if_neg (by dsimp only;omega)];exact ih
theorem Pth.none_at(h:Pth me d σ c q σ' c'){a:Nat}(ha:a≠0∧a≠16∧a≠d)(v:Int):(lastQ q a).getD v=v:=by
 induction h with
 | nil=>rfl
 | up _ ih=>rw [lastQ_cons,if_neg (by dsimp only;omega)];exact ih
 | down _ ih=>rw [lastQ_cons,if_neg (by dsimp only;omega)];exact ih
 | own _ ih=>rw [lastQ_cons,if_neg (by dsimp only;omega)];exact ih
 | add _ ih=>rw [lastQ_cons,if_neg (by dsimp only;omega)];exact ih
 | rel _ ih=>rw [lastQ_cons,if_neg (by dsimp only;omega)];exact ih
 | off _ ih=>rw [lastQ_cons,if_neg (by dsimp only;omega)];exact ih
def NoT(d:Nat)(q:List (Nat×Int)):Prop:=∀ e∈q,e.1≠d
def AmT(d:Nat):List (Nat×Int)→Prop
 | []=>True
 | e::q=>if e=(16,0) then NoT d q else AmT d q
theorem NoT.am(h:NoT d q):AmT d q:=by
 induction q with
 | nil=>trivial
 | cons e q ih=>
  unfold AmT
  have h2:NoT d q:=fun x hx=>h x (List.mem_cons_of_mem _ hx)
  split
  ·exact h2
  ·exact ih h2
theorem NoT.snoc{e:Nat×Int}(h:NoT d q)(he:e.1≠d):NoT d (q++[e]):=fun x hx=>by
 rcases List.mem_append.1 hx with hx | hx
 ·exact h x hx
 ·rw [List.mem_singleton.1 hx];exact he
theorem AmT.snoc{e:Nat×Int}(h:AmT d q)(he:e.1≠d):AmT d (q++[e]):=by
 induction q with
 | nil=>exact NoT.am (fun x hx=>by rw [List.mem_singleton.1 hx];exact he)
 | cons x q ih=>
  unfold AmT at h
  show AmT d (x::(q++[e]))
  unfold AmT
  split
  ·next hx=>rw [if_pos hx] at h;exact h.snoc he
  ·next hx=>rw [if_neg hx] at h;exact ih h
theorem Pth.free(h:Pth me d σ c q σ' c')(hn:NoT d q)(hσ:σ=0∨σ=1)(c2:Int):Pth me d σ c2 q σ' c2∧(σ'=0∨σ'=1):=by
 induction h with
 | nil=>exact⟨.nil,hσ⟩
 | up _ ih=>have:=ih (fun x hx=>hn x (List.mem_cons_of_mem _ hx)) (.inr rfl);exact⟨.up this.1,this.2⟩
 | down _ ih=>have:=ih (fun x hx=>hn x (List.mem_cons_of_mem _ hx)) (.inl rfl);exact⟨.down this.1,this.2⟩
 | own _ ih=>exact absurd rfl (hn _ (List.mem_cons_self ..))
 | add _ ih=>omega
 | rel _ ih=>omega
 | off _ ih=>omega
theorem Pth.am_in(h:Pth me d σ c q σ' c')(hd:d≠16∧d≠0)(ha:AmT d q)(hn:σ=0→NoT d q)(hσ:σ'=2∨σ'=3∨σ'=4):∀ e∈q,e≠(16,0):=by
 induction h with
 | nil=>intro e he;cases he
 | up h1 ih=>
  have:=(h1.free (fun x hx=>hn rfl x (List.mem_cons_of_mem _ hx)) (.inr rfl) 0).2
  omega
 | down h1 ih=>
  unfold AmT at ha
  rw [if_pos rfl] at ha
  have:=(h1.free ha (.inl rfl) 0).2
  omega
 | own h1 ih=>
  unfold AmT at ha
  rw [if_neg (by intro e;injection e with e _;omega)] at ha
  intro e he
  rcases List.mem_cons.1 he with rfl | he
  ·intro e;injection e with e _;omega
  ·exact ih ha (fun e=>by omega) hσ e he
 | add h1 ih=>
  unfold AmT at ha
  rw [if_neg (by intro e;injection e with e _;omega)] at ha
  intro e he
  rcases List.mem_cons.1 he with rfl | he
  ·intro e;injection e with e _;omega
  ·exact ih ha (fun e=>by omega) hσ e he
 | rel h1 ih=>
  unfold AmT at ha
  rw [if_neg (by intro e;injection e with e _;omega)] at ha
  intro e he
  rcases List.mem_cons.1 he with rfl | he
  ·intro e;injection e with e _;omega
  ·exact ih ha (fun e=>by omega) hσ e he
 | off h1 ih=>
  unfold AmT at ha
  rw [if_pos rfl] at ha
  have:=(h1.free ha (.inl rfl) 0).2
  omega
theorem AmT.none{e:Nat×Int}(h:∀ x∈q,x≠(16,0)):AmT d (q++[e]):=by
 induction q with
 | nil=>
  show AmT d [e]
  unfold AmT
  split
  ·intro x hx;cases hx
  ·trivial
 | cons x q ih=>
  show AmT d (x::(q++[e]))
  unfold AmT
  rw [if_neg (h x (List.mem_cons_self ..))]
  exact ih (fun y hy=>h y (List.mem_cons_of_mem _ hy))
end
end Go.Proofs.YtckmkaeopnnbbaaGreatDoor.As.Wd
