/- Plain Lean: the buffer of who has a biased lock,before and behind its being taken back. No program in sight. -/
import Derived.Test.YtckmkaeopnnbbaaGreatDoorTq7
set_option linter.unusedVariables false
set_option linter.unusedSimpArgs false
namespace Go.Proofs.YtckmkaeopnnbbaaGreatDoor.As.Wd

inductive Sth(me:Int):Nat→Int→List (Nat×Int)→Nat→Int→Prop
 | nil {σ:Nat} {c:Int}:Sth me σ c [] σ c
 | up {c c':Int} {σ:Nat} {q:List (Nat×Int)} (h:Sth me 1 c q σ c'):Sth me 0 c ((16,1)::q) σ c'
 | down {c c':Int} {σ:Nat} {q:List (Nat×Int)} (h:Sth me 0 c q σ c'):Sth me 1 c ((16,0)::q) σ c'
 | own {c c':Int} {σ:Nat} {q:List (Nat×Int)} (h:Sth me 6 c q σ c'):Sth me 5 c ((19,me)::q) σ c'
 | add {c c':Int} {σ:Nat} {q:List (Nat×Int)} (h:Sth me 7 (wr32 (c+1)) q σ c'):Sth me 6 c ((0,wr32 (c+1))::q) σ c'
 | rel {c c':Int} {σ:Nat} {q:List (Nat×Int)} (h:Sth me 8 c q σ c'):Sth me 7 c ((19,0)::q) σ c'
 | off {c c':Int} {σ:Nat} {q:List (Nat×Int)} (h:Sth me 0 c q σ c'):Sth me 8 c ((18,0)::q) σ c'
def Mb(me:Int)(σ:Nat)(ow:Int):Prop:=((σ=2∨σ=3∨σ=6∨σ=7)→ow=me)∧((σ=4∨σ=8)→ow=0)∧((σ=0∨σ=1∨σ=5)→ow≠me)
def Mc(me:Int)(σ:Nat)(cw:Int):Prop:=(5≤σ→cw=me)∧(σ < 5→cw≠me)
section
variable{me c c' c2 ow:Int}{σ σ' σ2:Nat}{q q2:List (Nat×Int)}
theorem Sth.trans(h:Sth me σ c q σ' c')(h2:Sth me σ' c' q2 σ2 c2):Sth me σ c (q++q2) σ2 c2:=by
 induction h with
 | nil=>exact h2
 | up _ ih=>exact .up (ih h2)
 | down _ ih=>exact .down (ih h2)
 | own _ ih=>exact .own (ih h2)
 | add _ ih=>exact .add (ih h2)
 | rel _ ih=>exact .rel (ih h2)
 | off _ ih=>exact .off (ih h2)
theorem Sth.mb(h:Sth me σ c q σ' c')(hme:0 < me):∀ {ow:Int},Mb me σ ow→Mb me σ' ((lastQ q 19).getD ow):=by
 induction h with
 | nil=>exact fun h=>h
 | up _ ih=>intro ow h;rw [lastQ_cons,if_neg (by decide)];exact ih ⟨fun e=>by omega,fun e=>by omega,fun _=>h.2.2 (.inl rfl)⟩
 | down _ ih=>intro ow h;rw [lastQ_cons,if_neg (by decide)];exact ih ⟨fun e=>by omega,fun e=>by omega,fun _=>h.2.2 (.inr (.inl rfl))⟩
 | own _ ih=>intro ow h;rw [lastQ_cons,if_pos rfl];exact ih ⟨fun _=>rfl,fun e=>by omega,fun e=>by omega⟩
 | add _ ih=>intro ow h;rw [lastQ_cons,if_neg (by dsimp only;omega)];exact ih ⟨fun _=>h.1 (.inr (.inr (.inl rfl))),fun e=>by omega,fun e=>by omega⟩
 | rel _ ih=>intro ow h;rw [lastQ_cons,if_pos rfl];exact ih ⟨fun e=>by omega,fun _=>rfl,fun e=>by omega⟩
 | off _ ih=>intro ow h;rw [lastQ_cons,if_neg (by decide)];exact ih ⟨fun e=>by omega,fun e=>by omega,fun _=>by rw [h.2.1 (.inr rfl)];omega⟩
theorem Sth.mc(h:Sth me σ c q σ' c')(hme:0 < me)(hn:σ≠2∧σ≠3∧σ≠4):∀ {cw:Int},Mc me σ cw→Mc me σ' ((lastQ q 18).getD cw)∧σ'≠2∧σ'≠3∧σ'≠4:=by
 induction h with
 | nil=>exact fun h=>⟨h,hn⟩
 | up _ ih=>intro cw h;rw [lastQ_cons,if_neg (by decide)];exact ih (by decide) ⟨fun e=>by omega,fun _=>h.2 (by omega)⟩
 | down _ ih=>intro cw h;rw [lastQ_cons,if_neg (by decide)];exact ih (by decide) ⟨fun e=>by omega,fun _=>h.2 (by omega)⟩
 | own _ ih=>intro cw h;rw [lastQ_cons,if_neg (by dsimp only;omega)];exact ih (by decide) ⟨fun e=>h.1 (by omega),fun e=>by omega⟩
 | add _ ih=>intro cw h;rw [lastQ_cons,if_neg (by dsimp only;omega)];exact ih (by decide) ⟨fun e=>h.1 (by omega),fun e=>by omega⟩
 | rel _ ih=>intro cw h;rw [lastQ_cons,if_neg (by decide)];exact ih (by decide) ⟨fun e=>h.1 (by omega),fun e=>by omega⟩
 | off _ ih=>intro cw h;rw [lastQ_cons,if_pos rfl];exact ih (by decide) ⟨fun e=>by omega,fun e=>by omega⟩
theorem Sth.cnt(h:Sth me σ c q σ' c'):(lastQ q 0).getD c=c':=by
 induction h with
 | nil=>rfl
 | up _ ih=>rw [lastQ_cons,if_neg (by decide)];exact ih
 | down _ ih=>rw [lastQ_cons,if_neg (by decide)];exact ih
 | own _ ih=>rw [lastQ_cons,if_neg (by dsimp only;omega)];exact ih
 | add _ ih=>rw [lastQ_cons,if_pos rfl];exact ih
 | rel _ ih=>rw [lastQ_cons,if_neg (by decide)];exact ih
 | off _ ih=>rw [lastQ_cons,if_neg (by decide)];exact ih
theorem Sth.none17(h:Sth me σ c q σ' c')(v:Int):(lastQ q 17).getD v=v:=by
 induction h with
 | nil=>rfl
 | up _ ih=>rw [lastQ_cons,if_neg (by decide)];exact ih
 | down _ ih=>rw [lastQ_cons,if_neg (by decide)];exact ih
 | own _ ih=>rw [lastQ_cons,if_neg (by dsimp only;omega)];exact ih
 | add _ ih=>rw [lastQ_cons,if_neg (by dsimp only;omega)];exact ih
 | rel _ ih=>rw [lastQ_cons,if_neg (by decide)];exact ih
 | off _ ih=>rw [lastQ_cons,if_neg (by decide)];exact ih
theorem Sth.free(h:Sth me σ c q σ' c')(hσ:σ=0∨σ=1)(c2:Int):Sth me σ c2 q σ' c2∧(σ'=0∨σ'=1):=by
 induction h with
 | nil=>exact⟨.nil,hσ⟩
 | up _ ih=>have:=ih (.inr rfl);exact⟨.up this.1,this.2⟩
 | down _ ih=>have:=ih (.inl rfl);exact⟨.down this.1,this.2⟩
 | own _ ih=>omega
 | add _ ih=>omega
 | rel _ ih=>omega
 | off _ ih=>omega
theorem Pth.toS(h:Pth me 19 σ c q σ' c')(hn:NoT 19 q)(hσ:σ=0∨σ=1):Sth me σ c q σ' c':=by
 induction h with
 | nil=>exact .nil
 | up _ ih=>exact .up (ih (fun x hx=>hn x (List.mem_cons_of_mem _ hx)) (.inr rfl))
 | down _ ih=>exact .down (ih (fun x hx=>hn x (List.mem_cons_of_mem _ hx)) (.inl rfl))
 | own _ ih=>exact absurd rfl (hn _ (List.mem_cons_self ..))
 | add _ ih=>omega
 | rel _ ih=>omega
 | off _ ih=>omega
theorem Pth.le4(h:Pth me 19 σ c q σ' c')(hσ:σ≤4):σ'≤4:=by
 induction h with
 | nil=>exact hσ
 | up _ ih=>exact ih (by omega)
 | down _ ih=>exact ih (by omega)
 | own _ ih=>exact ih (by omega)
 | add _ ih=>exact ih (by omega)
 | rel _ ih=>exact ih (by omega)
 | off _ ih=>exact ih (by omega)
def Pa(me:Int):Bool→Nat→Int→List (Nat×Int)→Nat→Int→Prop
 | true=>Sth me
 | false=>Pth me 19
def okS:Bool→Nat→Prop
 | true,σ=>σ≠2∧σ≠3∧σ≠4
 | false,σ=>σ≤4
variable{m:Bool}
theorem Pa.nil{σ:Nat}{c:Int}:Pa me m σ c [] σ c:=by
 cases m
 ·exact Pth.nil
 ·exact Sth.nil
theorem Pa.up(h:Pa me m σ c q 0 c'):Pa me m σ c (q++[(16,1)]) 1 c':=by
 cases m
 ·exact Pth.trans h (.up .nil)
 ·exact Sth.trans h (.up .nil)
theorem Pa.down(h:Pa me m σ c q 1 c'):Pa me m σ c (q++[(16,0)]) 0 c':=by
 cases m
 ·exact Pth.trans h (.down .nil)
 ·exact Sth.trans h (.down .nil)
theorem Pa.ok(h:Pa me m σ c q σ' c')(hn:okS m σ):okS m σ':=by
 cases m
 ·exact Pth.le4 h hn
 ·induction h with
  | nil=>exact hn
  | up _ ih=>exact ih ⟨by decide,by decide,by decide⟩
  | down _ ih=>exact ih ⟨by decide,by decide,by decide⟩
  | own _ ih=>exact ih ⟨by decide,by decide,by decide⟩
  | add _ ih=>exact ih ⟨by decide,by decide,by decide⟩
  | rel _ ih=>exact ih ⟨by decide,by decide,by decide⟩
  | off _ ih=>exact ih ⟨by decide,by decide,by decide⟩
theorem Pa.mb(h:Pa me m σ c q σ' c')(hn:okS m σ)(hme:0 < me)(ho:Mb me σ ow):Mb me σ' ((lastQ q 19).getD ow):=by
 have hk:=h.ok hn
 cases m
 ·have hn:σ≤4:=hn
  have hk:σ'≤4:=hk
  have:=Pth.mo h (by decide) hme (ow:=ow) ⟨fun e=>ho.1 (by omega),fun e=>ho.2.1 (by omega),fun e=>ho.2.2 (by omega)⟩
  exact⟨fun e=>this.1 (by omega),fun e=>this.2.1 (by omega),fun e=>this.2.2 (by omega)⟩
 ·exact Sth.mb h hme ho
theorem Pa.mc(h:Pa me m σ c q σ' c')(hn:okS m σ)(hme:0 < me){cw:Int}(ho:Mc me σ cw):Mc me σ' ((lastQ q 18).getD cw):=by
 have hk:=h.ok hn
 cases m
 ·have hn:σ≤4:=hn
  have hk:σ'≤4:=hk
  rw [Pth.none_at h (by decide)]
  exact⟨fun e=>by omega,fun _=>ho.2 (by omega)⟩
 ·exact (Sth.mc h hme hn ho).1
theorem Pa.cnt(h:Pa me m σ c q σ' c'):(lastQ q 0).getD c=c':=by
 cases m
 ·exact Pth.cnt h (by decide)
 ·exact Sth.cnt h
theorem Pa.none17(h:Pa me m σ c q σ' c')(v:Int):(lastQ q 17).getD v=v:=by
 cases m
 ·exact Pth.none_at h (by decide) v
 ·exact Sth.none17 h v
theorem Pa.first{e:Nat×Int}(h:Pa me m σ c (e::q) σ' c')(hn:okS m σ):
  (σ=0∧e=(16,1)∧Pa me m 1 c q σ' c')∨(σ=1∧e=(16,0)∧Pa me m 0 c q σ' c')∨(((m=false∧σ=1)∨(m=true∧σ=5))∧e=(19,me)∧Pa me m (σ+1) c q σ' c')∨(((m=false∧σ=2)∨(m=true∧σ=6))∧e=(0,wr32 (c+1))∧Pa me m (σ+1) (wr32 (c+1)) q σ' c')∨(((m=false∧σ=3)∨(m=true∧σ=7))∧e=(19,0)∧Pa me m (σ+1) c q σ' c')∨(m=false∧σ=4∧e=(16,0)∧Pa me m 0 c q σ' c')∨(m=true∧σ=8∧e=(18,0)∧Pa me m 0 c q σ' c'):=by
 cases m
 ·cases h
  case up h=>exact .inl ⟨rfl,rfl,h⟩
  case down h=>exact .inr (.inl ⟨rfl,rfl,h⟩)
  case own h=>exact .inr (.inr (.inl ⟨.inl ⟨rfl,rfl⟩,rfl,h⟩))
  case add h=>exact .inr (.inr (.inr (.inl ⟨.inl ⟨rfl,rfl⟩,rfl,h⟩)))
  case rel h=>exact .inr (.inr (.inr (.inr (.inl ⟨.inl ⟨rfl,rfl⟩,rfl,h⟩))))
  case off h=>exact .inr (.inr (.inr (.inr (.inr (.inl ⟨rfl,rfl,rfl,h⟩)))))
 ·cases h
  case up h=>exact .inl ⟨rfl,rfl,h⟩
  case down h=>exact .inr (.inl ⟨rfl,rfl,h⟩)
  case own h=>exact .inr (.inr (.inl ⟨.inr ⟨rfl,rfl⟩,rfl,h⟩))
  case add h=>exact .inr (.inr (.inr (.inl ⟨.inr ⟨rfl,rfl⟩,rfl,h⟩)))
  case rel h=>exact .inr (.inr (.inr (.inr (.inl ⟨.inr ⟨rfl,rfl⟩,rfl,h⟩))))
  case off h=>exact .inr (.inr (.inr (.inr (.inr (.inr ⟨rfl,rfl,rfl,h⟩)))))
end
end Go.Proofs.YtckmkaeopnnbbaaGreatDoor.As.Wd
