/- Memory: what a call owns and what it leaves alone; a builder in memory; the tables of names and uses. Memory: a builder's places. The walks of the package asm: a place's name; what a builder gathers. The walks of the package asm: what a builder's calls add. Memory: a slice that is read,nil let in; slices.Clone of instructions. The walks of the package isa: names,uses; the tables in memory. An instruction that lies in a block of its own. The walks of the package asm: jumps,places,the code. The walk of the package asm: a builder's At. The walk of the package asm: a builder's Code. -/
import Derived.Test.YtcnmhgblbikfkaaGreatDoorRows
import Derived.Test.YtcnmhgblbikfkaaGreatDoorGa
import Derived.WalkKit
import Derived.WalkSpells
import Derived.WalkLawsBesides
import Derived.Outline
import Derived.Laws.EntriesVeiled
import Derived.Laws.NewBlocks
import Derived.Laws.Rows
import Derived.Lib.Hide
import Derived.Handy
import Derived.Deep.AppendLies
import Derived.Deep.RegionLaw
import Derived.Deep.DeepFit
import Derived.Maps.Own
import Derived.Maps.OwnOps
import Derived.Maps.OwnSet
import Derived.Maps.Views
import Derived.StringKeys
import Derived.StillTailTactics
import Derived.BigQuiet
import Derived.Deep.QuietTactic
import Derived.Deep.LoopGhost
section
set_option linter.unusedVariables false
namespace Go.Proofs.YtcnmhgblbikfkaaGreatDoor.As
open Go.RowKit

/-! ### What a call leaves alone -/
structure Only(F:Nat→Prop)(w w':World):Prop where
 os:w'.os=w.os
 tape:w'.tape=w.tape
 output:w'.output=w.output
 size:w.heap.size≤w'.heap.size
 block:∀ k,k < w.heap.size→¬F k→w'.heap[k]? = w.heap[k]?
structure Step(F:Nat→Prop)(w:World)(F':Nat→Prop)(w':World):Prop where
 only:Only F w w'
 foot:∀ k,F' k→F k∨w.heap.size≤k

theorem Only.refl(F:Nat→Prop)(w:World):Only F w w:=⟨rfl,rfl,rfl,Nat.le_refl _,fun _ _ _=>rfl⟩
theorem Only.trans{F F':Nat→Prop}{a b c:World}(h:Only F a b)(k:Only F' b c)(hf:∀ i,F' i→F i∨a.heap.size≤i):Only F a c:=
 ⟨k.os.trans h.os,k.tape.trans h.tape,k.output.trans h.output,Nat.le_trans h.size k.size,fun i hi hn=>
  (k.block i (Nat.lt_of_lt_of_le hi h.size) (fun e=>by rcases hf i e with e | e;exact hn e;omega)).trans (h.block i hi hn)⟩
theorem Step.trans{F F' F'':Nat→Prop}{a b c:World}(h:Step F a F' b)(k:Step F' b F'' c):Step F a F'' c:=
 ⟨h.only.trans k.only h.foot,fun i hi=>by
  rcases k.foot i hi with e | e
  ·exact h.foot i e
  ·exact .inr (Nat.le_trans h.only.size e)⟩
theorem Only.of_below{B:Nat}{F:Nat→Prop}{w w':World}(h:Below B w w')(hB:w.heap.size≤B):Only F w w':=⟨h.os,h.tape,h.output,h.size,fun k hk _=>h.block k (by omega)⟩
theorem Only.below{B:Nat}{F:Nat→Prop}{w w':World}(h:Only F w w')(hB:B≤w.heap.size)(hF:∀ k,F k→B≤k):Below B w w':=
 ⟨h.os,h.tape,h.output,h.size,fun k hk=>h.block k (by omega) (fun e=>by have:=hF k e;omega)⟩
theorem Only.mono{F F':Nat→Prop}{w w':World}(h:Only F w w')(hF:∀ k,F k→F' k):Only F' w w':=⟨h.os,h.tape,h.output,h.size,fun k hk hn=>h.block k hk (fun e=>hn (hF k e))⟩
theorem Step.of_below{B:Nat}{F:Nat→Prop}{w w':World}(h:Below B w w')(hB:w.heap.size≤B):Step F w F w':=⟨Only.of_below h hB,fun _ e=>.inl e⟩
theorem Step.below{B:Nat}{F F':Nat→Prop}{w w':World}(h:Step F w F' w')(hB:B≤w.heap.size)(hF:∀ k,F k→B≤k):Below B w w'∧∀ k,F' k→B≤k:=
 ⟨h.only.below hB hF,fun k hk=>by rcases h.foot k hk with e | e;exact hF k e;omega⟩

/-! ### Words on rows -/
theorem own_ne{w:World}{base g:Nat}{e t:TypeId}{size n:Nat}{v:Value}{xs:List Value}{cs:Array Value}(h:w.ownsRow base e size v n xs)(hg:w.heap[g]? = some (.cells cs t (0,0)))(hne:e≠t):v.ownBlock≠some g:=by
 rcases h.2 with⟨rfl,_⟩ | ⟨g',cap,cur,rfl,_,hh,_⟩
 ·simp [Value.ownBlock]
 ·intro he
  have:g'=g:=by simpa [Value.ownBlock] using he
  subst this
  rw [hg] at hh
  injection hh with hh
  injection hh with _ ht
  exact hne ht.symm
theorem own_ne2{w:World}{b1 b2:Nat}{e t:TypeId}{s1 s2 n m:Nat}{v u:Value}{xs ys:List Value}(h:w.ownsRow b1 e s1 v n xs)(h':w.ownsRow b2 t s2 u m ys)(hne:e≠t)(k:Nat)(h1:v.ownBlock=some k)(h2:u.ownBlock=some k):False:=by
 rcases h'.2 with⟨rfl,_⟩ | ⟨g',cap,cur,rfl,_,hh,_⟩
 ·simp [Value.ownBlock] at h2
 ·have:g'=k:=by simpa [Value.ownBlock] using h2
  subst this
  exact own_ne h hh hne h1
theorem own_neMap{w:World}{b1:Nat}{e:TypeId}{s1 n:Nat}{v:Value}{xs:List Value}{es:Array MapEntry}{cl k:Nat}(h:w.ownsRow b1 e s1 v n xs)(h':w.heap[k]? = some (.map es cl))(h1:v.ownBlock=some k):False:=by
 rcases h.2 with⟨rfl,_⟩ | ⟨g',cap,cur,rfl,_,hh,_⟩
 ·simp [Value.ownBlock] at h1
 ·have:g'=k:=by simpa [Value.ownBlock] using h1
  subst this
  rw [h'] at hh
  cases hh
theorem own_lt{w:World}{base:Nat}{e:TypeId}{size n:Nat}{v:Value}{xs:List Value}(h:w.ownsRow base e size v n xs)(k:Nat)(hk:v.ownBlock=some k):k < w.heap.size:=(h.lt k hk).2
theorem own_only{w w':World}{F:Nat→Prop}{base:Nat}{e:TypeId}{size n:Nat}{v:Value}{xs:List Value}(h:w.ownsRow base e size v n xs)(ho:Only F w w')(hn:∀ k,v.ownBlock=some k→¬F k):w'.ownsRow base e size v n xs:=by
 refine⟨h.1,?_⟩
 rcases h.2 with h0 | ⟨g,cap,cur,rfl,hb,hgg,rest⟩
 ·exact .inl h0
 ·exact .inr ⟨g,cap,cur,rfl,hb,(ho.block g (Array.getElem?_eq_some_iff.1 hgg).1 (hn g rfl)).trans hgg,rest⟩

/-! ### Instructions in memory -/
def Ins.cells(i:Ins):List Value:=[.int .i64 i.op,.int .i64 i.a,.int .i64 i.b,.int .i64 i.c,.int .u32 i.k]
def flat(l:List Ins):List Value:=l.flatMap Ins.cells
def linkCells(p:Nat×B8):List Value:=[.int .i64 p.1,.string ⟨p.2.toArray⟩]
def flatL(l:List (Nat×B8)):List Value:=l.flatMap linkCells
theorem flat_snoc(l:List Ins)(i:Ins):flat (l++[i])=flat l++i.cells:=by simp [flat]
theorem flatL_snoc(l:List (Nat×B8))(i:Nat×B8):flatL (l++[i])=flatL l++linkCells i:=by simp [flatL]

def DReads(D:DataW Unit)(f:B8→Option Nat):Prop:=
 Maps.IsMap D∧∀ x,Maps.has D (.string x)=(f x).isSome∧∀ n,f x=some n→∀ z,D.atKey (.string x) z=.lit (.int .i64 n)
def Places(w:World)(pv:Value)(s:BS):Prop:=
 (pv=.map none∧s.places=[])∨
 ∃ mb n D,pv=.map (some mb)∧w.ownsMap Tryz.prog 9 (plainElem Tryz.prog 3) mb n D∧n≤s.places.length∧DReads D s.find
def mapBlock:Value→Option Nat
 | .map (some b)=>some b
 | _=>none

structure BS.Good(s:BS):Prop where
 links:s.links.length≤s.code.length
 at_:∀ p∈s.links,p.1 < s.code.length
 pl:∀ p∈s.places,p.2≤s.code.length

def Mem(w:World)(g:Nat)(s:BS)(F:Nat→Prop):Prop:=
 ∃ cv pv lv,w.heap[g]? = some (.cells #[cv,pv,lv,.bool s.bad] 96 (0,0))∧w.ownsRow 0 132 5 cv s.code.length (flat s.code)∧w.ownsRow 0 165 2 lv s.links.length (flatL s.links)∧
  Places w pv s∧∀ k,F k↔(k=g∨cv.ownBlock=some k∨lv.ownBlock=some k∨mapBlock pv=some k)
structure Bld(w:World)(g:Nat)(s:BS)(F:Nat→Prop):Prop where
 good:s.Good
 mem:Mem w g s F

/-! ### What an append to one of its lists,and a store of it,leave -/
theorem row_kept{w w1:World}{g o:Nat}{v nv:Value}{e:TypeId}{size m:Nat}{u:Value}{ys:List Value}(h:w.ownsRow 0 e size u m ys)(hgr:w.grownBy w1 v.ownBlock)(h1:∀ k,u.ownBlock=some k→v.ownBlock≠some k)(h2:u.ownBlock≠some g):
  (w1.setCell ⟨g,o,none⟩ nv).ownsRow 0 e size u m ys:=by
 have a:=h.kept hgr (by
  cases hu:u.ownBlock with
  | none=>exact .inl rfl
  | some k=>exact .inr (fun e=>h1 k hu e.symm))
 exact ownsRow_setCell_other a h2 nv
theorem places_kept{w w':World}{pv:Value}{s:BS}(h:Places w pv s)(hk:∀ mb,pv=.map (some mb)→w'.heap[mb]? = w.heap[mb]?):Places w' pv s:=by
 rcases h with h | ⟨mb,n,D,e,hm,hn,hd⟩
 ·exact .inl h
 ·refine .inr ⟨mb,n,D,e,?_,hn,hd⟩
  obtain⟨es,cl,hb,r⟩:=hm
  exact⟨es,cl,(hk mb e).trans hb,r⟩
theorem places_cong{w:World}{pv:Value}{s t:BS}(h:Places w pv s)(e:s.places=t.places):Places w pv t:=by
 have ef:s.find=t.find:=by funext x;unfold BS.find;rw [e]
 unfold Places at *
 rw [e,ef] at h
 exact h
theorem map_ne{w:World}{pv:Value}{s:BS}{mb:Nat}(h:Places w pv s)(e:pv=.map (some mb)):∃ es cl,w.heap[mb]? = some (.map es cl):=by
 rcases h with⟨h,_⟩ | ⟨mb',n,D,e',hm,_⟩
 ·rw [h] at e;cases e
 ·rw [e'] at e
  injection e with e
  injection e with e
  subst e
  obtain⟨es,cl,hb,_⟩:=hm
  exact⟨es,cl,hb⟩
theorem grown_from{w w0 w1:World}{row:Option Nat}(hgr:w0.grownBy w1 row)(ho:w0.os=w.os)(ht:w0.tape=w.tape)(hu:w0.output=w.output)(hz:w.heap.size≤w0.heap.size)(hb:∀ i,i < w.heap.size→w0.heap[i]? = w.heap[i]?):w.grownBy w1 row:=
 ⟨hgr.os.trans ho,hgr.tape.trans ht,hgr.output.trans hu,Nat.le_trans hz hgr.size,fun i hi hn=>(hgr.block i (by omega) hn).trans (hb i hi)⟩

theorem mem_code{w w1:World}{g:Nat}{s:BS}{F:Nat→Prop}{cv pv lv:Value}{i:Ins}(hg:w.heap[g]? = some (.cells #[cv,pv,lv,.bool s.bad] 96 (0,0)))(HO:w.ownsRow 0 132 5 cv s.code.length (flat s.code))
  (HL:w.ownsRow 0 165 2 lv s.links.length (flatL s.links)) (HP:Places w pv s) (HF:∀ k,F k↔(k=g∨cv.ownBlock=some k∨lv.ownBlock=some k∨mapBlock pv=some k))
  {g1 cap:Nat} (ho:w1.ownsRow 0 132 5 (.slice (some ⟨g1,0,none⟩) (s.code.length+1) cap) (s.code.length+1) (flat s.code++i.cells)) (hgr:w.grownBy w1 cv.ownBlock) (hat:cv.ownBlock=some g1∨w.heap.size≤g1):
  ∃ F',Mem (w1.setCell ⟨g,0,none⟩ (.slice (some ⟨g1,0,none⟩) (s.code.length+1) cap)) g (s.do_ i) F'∧Step F w F' (w1.setCell ⟨g,0,none⟩ (.slice (some ⟨g1,0,none⟩) (s.code.length+1) cap)):=by
 have hne:=own_ne HO hg (by decide)
 have hlt:g < w.heap.size:=(Array.getElem?_eq_some_iff.1 hg).1
 have k0:w1.heap[g]? = some (.cells #[cv,pv,lv,.bool s.bad] 96 (0,0)):=(hgr.block g hlt (fun e=>hne e.symm)).trans hg
 have hg1:g1≠g:=by
  rcases hat with hat | hat
  ·intro e;subst e;exact hne hat
  ·omega
 refine⟨fun i=>i=g∨i=g1∨lv.ownBlock=some i∨mapBlock pv=some i,⟨.slice (some ⟨g1,0,none⟩) (s.code.length+1) cap,pv,lv,?_,?_,?_,?_,?_⟩,⟨⟨hgr.os,hgr.tape,hgr.output,by simpa [World.setCell] using hgr.size,?_⟩,?_⟩⟩
 ·rw [heap_setCell_same _ _ _ _ _ _ k0];rfl
 ·have e1:(s.do_ i).code.length=s.code.length+1:=by simp [BS.do_]
  have e2:flat (s.do_ i).code=flat s.code++i.cells:=by show flat (s.code++[_])=_;rw [flat_snoc]
  rw [e1,e2]
  exact ownsRow_setCell_other ho (by simp [Value.ownBlock];exact hg1) _
 ·exact row_kept HL hgr (fun i h1 h2=>own_ne2 HL HO (by decide) i h1 h2) (own_ne HL hg (by decide))
 ·refine places_cong (places_kept HP fun mb e=>?_) rfl
  obtain⟨es,cl,hm⟩:=map_ne HP e
  have hmg:mb≠g:=by rintro rfl;rw [hg] at hm;cases hm
  rw [heap_setCell_other _ _ _ _ hmg]
  exact hgr.block mb (Array.getElem?_eq_some_iff.1 hm).1 (fun e'=>own_neMap HO hm e'.symm)
 ·intro i
  constructor
  ·rintro (e | e | e | e)
   ·exact .inl e
   ·exact .inr (.inl (by simp [Value.ownBlock,e]))
   ·exact .inr (.inr (.inl e))
   ·exact .inr (.inr (.inr e))
  ·rintro (e | e | e | e)
   ·exact .inl e
   ·simp [Value.ownBlock] at e;exact .inr (.inl e.symm)
   ·exact .inr (.inr (.inl e))
   ·exact .inr (.inr (.inr e))
 ·intro i hi' hnF
  have n1:i≠g:=fun e=>hnF ((HF i).2 (.inl e))
  rw [heap_setCell_other _ _ _ _ n1]
  exact hgr.block i hi' (fun e=>hnF ((HF i).2 (.inr (.inl e.symm))))
 ·rintro i (e | e | e | e)
  ·exact .inl ((HF i).2 (.inl e))
  ·rcases hat with h' | h'
   ·exact .inl ((HF i).2 (.inr (.inl (by rw [h',e]))))
   ·exact .inr (by omega)
  ·exact .inl ((HF i).2 (.inr (.inr (.inl e))))
  ·exact .inl ((HF i).2 (.inr (.inr (.inr e))))
theorem mem_links{w w1:World}{g:Nat}{s:BS}{F:Nat→Prop}{cv pv lv:Value}{i:Nat×B8}(hg:w.heap[g]? = some (.cells #[cv,pv,lv,.bool s.bad] 96 (0,0)))(HO:w.ownsRow 0 132 5 cv s.code.length (flat s.code))
  (HL:w.ownsRow 0 165 2 lv s.links.length (flatL s.links)) (HP:Places w pv s) (HF:∀ k,F k↔(k=g∨cv.ownBlock=some k∨lv.ownBlock=some k∨mapBlock pv=some k))
  {g1 cap:Nat} (ho:w1.ownsRow 0 165 2 (.slice (some ⟨g1,0,none⟩) (s.links.length+1) cap) (s.links.length+1) (flatL s.links++linkCells i)) (hgr:w.grownBy w1 lv.ownBlock) (hat:lv.ownBlock=some g1∨w.heap.size≤g1):
  ∃ F',Mem (w1.setCell ⟨g,2,none⟩ (.slice (some ⟨g1,0,none⟩) (s.links.length+1) cap)) g { s with links:=s.links++[i] } F'∧Step F w F' (w1.setCell ⟨g,2,none⟩ (.slice (some ⟨g1,0,none⟩) (s.links.length+1) cap)):=by
 have hne:=own_ne HL hg (by decide)
 have hlt:g < w.heap.size:=(Array.getElem?_eq_some_iff.1 hg).1
 have k0:w1.heap[g]? = some (.cells #[cv,pv,lv,.bool s.bad] 96 (0,0)):=(hgr.block g hlt (fun e=>hne e.symm)).trans hg
 have hg1:g1≠g:=by
  rcases hat with hat | hat
  ·intro e;subst e;exact hne hat
  ·omega
 refine⟨fun i=>i=g∨cv.ownBlock=some i∨i=g1∨mapBlock pv=some i,⟨cv,pv,.slice (some ⟨g1,0,none⟩) (s.links.length+1) cap,?_,?_,?_,?_,?_⟩,⟨⟨hgr.os,hgr.tape,hgr.output,by simpa [World.setCell] using hgr.size,?_⟩,?_⟩⟩
 ·rw [heap_setCell_same _ _ _ _ _ _ k0];rfl
 ·exact row_kept HO hgr (fun i h1 h2=>own_ne2 HO HL (by decide) i h1 h2) (own_ne HO hg (by decide))
 ·have e1:(s.links++[i]).length=s.links.length+1:=by simp
  have e2:flatL (s.links++[i])=flatL s.links++linkCells i:=flatL_snoc _ _
  show World.ownsRow _ 0 _ 2 _ (s.links++[i]).length (flatL (s.links++[i]))
  rw [e1,e2]
  exact ownsRow_setCell_other ho (by simp [Value.ownBlock];exact hg1) _
 ·refine places_cong (places_kept HP fun mb e=>?_) rfl
  obtain⟨es,cl,hm⟩:=map_ne HP e
  have hmg:mb≠g:=by rintro rfl;rw [hg] at hm;cases hm
  rw [heap_setCell_other _ _ _ _ hmg]
  exact hgr.block mb (Array.getElem?_eq_some_iff.1 hm).1 (fun e'=>own_neMap HL hm e'.symm)
 ·intro i
  constructor
  ·rintro (e | e | e | e)
   ·exact .inl e
   ·exact .inr (.inl e)
   ·exact .inr (.inr (.inl (by simp [Value.ownBlock,e])))
   ·exact .inr (.inr (.inr e))
  ·rintro (e | e | e | e)
   ·exact .inl e
   ·exact .inr (.inl e)
   ·simp [Value.ownBlock] at e;exact .inr (.inr (.inl e.symm))
   ·exact .inr (.inr (.inr e))
 ·intro i hi' hnF
  have n1:i≠g:=fun e=>hnF ((HF i).2 (.inl e))
  rw [heap_setCell_other _ _ _ _ n1]
  exact hgr.block i hi' (fun e=>hnF ((HF i).2 (.inr (.inr (.inl e.symm)))))
 ·rintro i (e | e | e | e)
  ·exact .inl ((HF i).2 (.inl e))
  ·exact .inl ((HF i).2 (.inr (.inl e)))
  ·rcases hat with h' | h'
   ·exact .inl ((HF i).2 (.inr (.inr (.inl (by rw [h',e])))))
   ·exact .inr (by omega)
  ·exact .inl ((HF i).2 (.inr (.inr (.inr e))))
end Go.Proofs.YtcnmhgblbikfkaaGreatDoor.As
end

section
set_option linter.unusedVariables false
namespace Go.Proofs.YtcnmhgblbikfkaaGreatDoor.As
open Go.RowKit

theorem mem_lt{w:World}{g:Nat}{s:BS}{F:Nat→Prop}(h:Mem w g s F)(k:Nat)(hk:F k):k < w.heap.size:=by
 obtain⟨cv,pv,lv,hg,HO,HL,HP,HF⟩:=h
 rcases (HF k).1 hk with e | e | e | e
 ·subst e;exact (Array.getElem?_eq_some_iff.1 hg).1
 ·exact own_lt HO k e
 ·exact own_lt HL k e
 ·cases pv<;>simp [mapBlock] at e
  rename_i b
  cases b<;>simp at e
  subst e
  obtain⟨es,cl,hm⟩:=map_ne HP rfl
  exact (Array.getElem?_eq_some_iff.1 hm).1
theorem mem_only{w w':World}{g:Nat}{s:BS}{F G:Nat→Prop}(h:Mem w g s F)(ho:Only G w w')(hd:∀ k,F k→¬G k):Mem w' g s F:=by
 obtain⟨cv,pv,lv,hg,HO,HL,HP,HF⟩:=h
 refine⟨cv,pv,lv,(ho.block g (Array.getElem?_eq_some_iff.1 hg).1 (hd g ((HF g).2 (.inl rfl)))).trans hg,own_only HO ho (fun k hk=>hd k ((HF k).2 (.inr (.inl hk)))),own_only HL ho (fun k hk=>hd k ((HF k).2 (.inr (.inr (.inl hk))))),places_kept HP (fun mb e=>?_),HF⟩
 obtain⟨es,cl,hm⟩:=map_ne HP e
 exact ho.block mb (Array.getElem?_eq_some_iff.1 hm).1 (hd mb ((HF mb).2 (.inr (.inr (.inr (by rw [e];rfl))))))
theorem mem_below{w w':World}{B g:Nat}{s:BS}{F:Nat→Prop}(h:Mem w g s F)(hb:Below B w w')(hB:w.heap.size≤B):Mem w' g s F:=
 mem_only h (Only.of_below (F:=fun _=>False) hb hB) (fun _ _=>id)

theorem mem_bad{w:World}{g:Nat}{s:BS}{F:Nat→Prop}(h:Mem w g s F):Mem (w.setCell ⟨g,3,none⟩ (.bool true)) g { s with bad:=true } F∧Step F w F (w.setCell ⟨g,3,none⟩ (.bool true)):=by
 obtain⟨cv,pv,lv,hg,HO,HL,HP,HF⟩:=h
 refine⟨⟨cv,pv,lv,?_,ownsRow_setCell_other HO (own_ne HO hg (by decide)) _,ownsRow_setCell_other HL (own_ne HL hg (by decide)) _,places_cong (places_kept HP fun mb e=>?_) rfl,HF⟩,⟨⟨rfl,rfl,rfl,by simp [World.setCell],fun k hk hn=>?_⟩,fun k hk=>.inl hk⟩⟩
 ·rw [heap_setCell_same _ _ _ _ _ _ hg];rfl
 ·obtain⟨es,cl,hm⟩:=map_ne HP e
  exact heap_setCell_other _ _ _ _ (by rintro rfl;rw [hg] at hm;cases hm)
 ·exact heap_setCell_other _ _ _ _ (fun e=>hn ((HF k).2 (.inl e)))

theorem dreads_nil(s:BS)(h:s.places=[]):DReads (.map []) s.find:=by
 refine⟨Maps.isMap_empty,fun x=>?_⟩
 have e:s.find x=none:=by unfold BS.find;rw [h];rfl
 rw [e]
 exact⟨rfl,fun n hn=>by cases hn⟩
theorem find_snoc(s:BS)(name x:B8)(n:Nat)(h:s.find name=none):BS.find { s with places:=s.places++[(name,n)] } x=if x=name then some n else s.find x:=by
 unfold BS.find at *
 simp only [List.find?_append,List.find?_cons,List.find?_nil]
 by_cases e:x=name
 ·subst e
  rw [if_pos rfl]
  cases hf:s.places.find? (fun p=>p.1 == x) with
  | none=>simp
  | some p=>rw [hf] at h;cases h
 ·rw [if_neg e]
  have:(name == x)=false:=by rw [beq_eq_false_iff_ne];exact fun e'=>e e'.symm
  rw [this]
  cases s.places.find? (fun p=>p.1 == x)<;>rfl
theorem dreads_put{D:DataW Unit}{s:BS}(h:DReads D s.find)(name:B8)(n:Nat)(hf:s.find name=none):DReads (D.put (.string name) (.lit (.int .i64 n))) (BS.find { s with places:=s.places++[(name,n)] }):=by
 refine⟨h.1.put _ _,fun x=>?_⟩
 rw [find_snoc s name x n hf]
 by_cases e:x=name
 ·subst e
  rw [if_pos rfl]
  exact⟨Maps.has_put_same h.1 (by simp [WideAt.IsKeyLit]) _,fun m hm z=>by
   injection hm with hm
   subst hm
   exact Maps.atKey_put_same h.1 (by simp [WideAt.IsKeyLit]) _ _⟩
 ·rw [if_neg e]
  have hne:(Lit.string x)≠Lit.string name:=by intro e';injection e' with e';exact e e'
  exact⟨by rw [Maps.has_put_other hne];exact (h.2 x).1,fun m hm z=>by rw [Maps.atKey_put_other hne];exact (h.2 x).2 m hm z⟩
theorem mem_put{w w1:World}{g mb n:Nat}{s:BS}{F:Nat→Prop}{cv lv:Value}{D:DataW Unit}{name:B8}(hg:w.heap[g]? = some (.cells #[cv,.map (some mb),lv,.bool s.bad] 96 (0,0)))(HO:w.ownsRow 0 132 5 cv s.code.length (flat s.code))
  (HL:w.ownsRow 0 165 2 lv s.links.length (flatL s.links)) (hm:w.ownsMap Tryz.prog 9 (plainElem Tryz.prog 3) mb n D) (hn:n≤s.places.length) (hd:DReads D s.find) (hf:s.find name=none)
  (HF:∀ k,F k↔(k=g∨cv.ownBlock=some k∨lv.ownBlock=some k∨mapBlock (.map (some mb))=some k))
  (ho:w1.ownsMap Tryz.prog 9 (plainElem Tryz.prog 3) mb (n+1) (D.put (.string name) (.lit (.int .i64 s.code.length)))) (hgr:w.grownBy w1 (some mb)):
  Mem w1 g { s with places:=s.places++[(name,s.code.length)] } F∧Step F w F w1:=by
 obtain⟨es,cl,hb,_⟩:=hm
 have hgm:g≠mb:=by rintro rfl;rw [hg] at hb;cases hb
 refine⟨⟨cv,.map (some mb),lv,(hgr.block g (Array.getElem?_eq_some_iff.1 hg).1 (fun e=>hgm (by injection e))).trans hg,HO.kept hgr (.inr fun e=>own_neMap HO hb e),HL.kept hgr (.inr fun e=>own_neMap HL hb e),.inr ⟨mb,n+1,_,rfl,ho,by simp;omega,dreads_put hd name _ hf⟩,HF⟩,⟨⟨hgr.os,hgr.tape,hgr.output,hgr.size,fun k hk hnF=>hgr.block k hk (fun e=>hnF ((HF k).2 (.inr (.inr (.inr e.symm)))))⟩,fun k hk=>.inl hk⟩⟩
theorem mem_make{w:World}{g:Nat}{s:BS}{F:Nat→Prop}{cv lv:Value}(hg:w.heap[g]? = some (.cells #[cv,.map none,lv,.bool s.bad] 96 (0,0)))(HO:w.ownsRow 0 132 5 cv s.code.length (flat s.code))
  (HL:w.ownsRow 0 165 2 lv s.links.length (flatL s.links)) (HP:s.places=[]) (HF:∀ k,F k↔(k=g∨cv.ownBlock=some k∨lv.ownBlock=some k∨mapBlock (.map none)=some k)):
  ∃ F1,Step F w F1 ((w.alloc (.map #[] 0)).setCell ⟨g,1,none⟩ (.map (some w.heap.size)))∧
   ((w.alloc (.map #[] 0)).setCell ⟨g,1,none⟩ (.map (some w.heap.size))).heap[g]? = some (.cells #[cv,.map (some w.heap.size),lv,.bool s.bad] 96 (0,0))∧
   ((w.alloc (.map #[] 0)).setCell ⟨g,1,none⟩ (.map (some w.heap.size))).ownsRow 0 132 5 cv s.code.length (flat s.code)∧
   ((w.alloc (.map #[] 0)).setCell ⟨g,1,none⟩ (.map (some w.heap.size))).ownsRow 0 165 2 lv s.links.length (flatL s.links)∧
   ((w.alloc (.map #[] 0)).setCell ⟨g,1,none⟩ (.map (some w.heap.size))).ownsMap Tryz.prog 9 (plainElem (H:=Unit) Tryz.prog 3) w.heap.size 0 (.map [])∧
   ∀ k,F1 k↔(k=g∨cv.ownBlock=some k∨lv.ownBlock=some k∨mapBlock (.map (some w.heap.size))=some k):=by
 have hlt:g < w.heap.size:=(Array.getElem?_eq_some_iff.1 hg).1
 have ha:(w.alloc (.map #[] 0)).heap[g]? = some (.cells #[cv,.map none,lv,.bool s.bad] 96 (0,0)):=(Below.heap_alloc _ _ _ hlt).trans hg
 refine⟨fun k=>k=g∨cv.ownBlock=some k∨lv.ownBlock=some k∨mapBlock (.map (some w.heap.size))=some k,⟨⟨rfl,rfl,rfl,by simp [World.setCell],fun k hk hn=>?_⟩,fun k hk=>?_⟩,?_,?_,?_,?_,fun k=>Iff.rfl⟩
 ·rw [heap_setCell_other _ _ _ _ (fun e=>hn ((HF k).2 (.inl e)))]
  exact Below.heap_alloc _ _ _ hk
 ·rcases hk with e | e | e | e
  ·exact .inl ((HF k).2 (.inl e))
  ·exact .inl ((HF k).2 (.inr (.inl e)))
  ·exact .inl ((HF k).2 (.inr (.inr (.inl e))))
  ·simp [mapBlock] at e;exact .inr (by omega)
 ·rw [heap_setCell_same _ _ _ _ _ _ ha];rfl
 ·exact ownsRow_setCell_other (HO.alloc _) (own_ne HO hg (by decide)) _
 ·exact ownsRow_setCell_other (HL.alloc _) (own_ne HL hg (by decide)) _
 ·obtain⟨es,cl,hb,r⟩:=World.ownsMap_made (H:=Unit) w Tryz.prog 9 (plainElem Tryz.prog 3)
  exact⟨es,cl,(heap_setCell_other _ _ _ _ (by simp;omega)).trans hb,r⟩

theorem find_le{s:BS}(h:s.Good){x:B8}{n:Nat}(hx:s.find x=some n):n≤s.code.length:=by
 unfold BS.find at hx
 obtain⟨p,hp,rfl⟩:=Option.map_eq_some_iff.1 hx
 exact h.pl p (List.mem_of_find?_eq_some hp)
theorem good_bad(s:BS)(h:s.Good):BS.Good { s with bad:=true }:=⟨h.links,h.at_,h.pl⟩
theorem good_put(s:BS)(nm:B8)(h:s.Good):BS.Good { s with places:=s.places++[(nm,s.code.length)] }:=by
 refine⟨h.links,h.at_,fun p hp=>?_⟩
 rcases List.mem_append.1 hp with hp | hp
 ·exact h.pl p hp
 ·rw [List.mem_singleton] at hp;subst hp;exact Nat.le_refl _
end Go.Proofs.YtcnmhgblbikfkaaGreatDoor.As
end

section
set_option linter.unusedVariables false
namespace Go.Proofs.YtcnmhgblbikfkaaGreatDoor.As
open Go.RowKit

/-! ### A place's name -/
def okAt(l:B8)(i:Nat):Prop:=∀ c,l[i]? = some c→isLet c=true∨(0 < i∧isDig c=true)
theorem nameOk_yes(l:B8)(h0:l≠[])(h1:l.length≤20)(h2:∀ i,okAt l i):nameOk l=true:=by
 cases l with
 | nil=>exact absurd rfl h0
 | cons c r=>
  have e0:isLet c=true:=by
   rcases h2 0 c rfl with e | e
   ·exact e
   ·exact absurd e.1 (by omega)
  have e1:r.all (fun x=>isLet x || isDig x)=true:=by
   rw [List.all_eq_true]
   intro x hx
   obtain⟨i,hi⟩:=List.getElem?_of_mem hx
   rcases h2 (i+1) x (by simpa using hi) with e | e
   ·simp [e]
   ·simp [e.2]
  have e2:decide (r.length < 20)=true:=by simp at h1 ⊢; omega
  simp only [nameOk,e0,e1,e2,Bool.and_self]
theorem nameOk_long(l:B8)(h:20 < l.length):nameOk l=false:=by
 cases l with
 | nil=>rfl
 | cons c r=>
  have:decide (r.length < 20)=false:=by simp at h ⊢; omega
  simp [nameOk,this]
theorem nameOk_bad(l:B8)(i:Nat)(c:UInt8)(h:l[i]? = some c)(h1:isLet c=false)(h2:i=0∨isDig c=false):nameOk l=false:=by
 cases l with
 | nil=>rfl
 | cons d r=>
  cases i with
  | zero=>
   have:d=c:=by simpa using h
   simp [nameOk,this,h1]
  | succ i=>
   have h':r[i]? = some c:=by simpa using h
   have hd:isDig c=false:=by rcases h2 with e | e;omega;exact e
   have:r.all (fun x=>isLet x || isDig x)=false:=by
    rw [List.all_eq_false]
    exact⟨c,List.mem_of_getElem? h',by simp [h1,hd]⟩
   simp [nameOk,this]
theorem byte_at(s:ByteArray)(i:Nat)(h:i < s.size):s.data.toList[i]? = some (s[i]'h):=by
 rw [Array.getElem?_toList]
 exact Array.getElem?_eq_getElem h
theorem nm_nil(s:ByteArray)(h:s.size=0):s.data.toList=[]:=List.eq_nil_of_length_eq_zero (by simpa using h)

theorem name_empty(w:World)(s:ByteArray)(h:s.size=0):
  Calls Tryz.prog 114 #[.string s] w fun e w'=>e=.returned (.bool (nameOk s.data.toList))∧Below w.heap.size w w':=by
 have h0:s.toList.isEmpty=true:=by rw [ByteArray.toList_eq,nm_nil s h];rfl
 have h1:s.data.toList=[]:=nm_nil s h
 rw [h1]
 go_enter Tryz.func114,Tryz.ntmps114
 go_wp2
 go_ret
 exact⟨rfl,Below.refl _ _⟩
theorem name_long(w:World)(s:ByteArray)(h:20 < s.size)(hm:s.size≤maxLen):
  Calls Tryz.prog 114 #[.string s] w fun e w'=>e=.returned (.bool (nameOk s.data.toList))∧Below w.heap.size w w':=by
 have hl:s.data.toList.length=s.size:=by simp
 rw [nameOk_long _ (by rw [hl];exact h)]
 have h0:s.toList.isEmpty=false:=by
  rw [ByteArray.toList_eq,List.isEmpty_eq_false_iff];intro e;rw [e] at hl;simp at hl;omega
 clear hl
 go_enter Tryz.func114,Tryz.ntmps114
 go_wp2
 go_ret
 exact⟨rfl,Below.refl _ _⟩
theorem let_iff(c:UInt8):isLet c=true↔97≤c.toNat∧c.toNat≤122:=by simp [isLet,UInt8.le_iff_toNat_le]
theorem dig_iff(c:UInt8):isDig c=true↔48≤c.toNat∧c.toNat≤57:=by simp [isDig,UInt8.le_iff_toNat_le]
theorem let_no(c:UInt8)(h:¬(97≤c.toNat∧c.toNat≤122)):isLet c=false:=by
 cases e:isLet c with
 | false=>rfl
 | true=>exact absurd ((let_iff c).1 e) h
theorem dig_no(c:UInt8)(h:¬(48≤c.toNat∧c.toNat≤57)):isDig c=false:=by
 cases e:isDig c with
 | false=>rfl
 | true=>exact absurd ((dig_iff c).1 e) h
set_option maxHeartbeats 800000 in
theorem name_some(w:World)(s:ByteArray)(h0:0 < s.size)(h20:s.size≤20):
  Calls Tryz.prog 114 #[.string s] w fun e w'=>e=.returned (.bool (nameOk s.data.toList))∧Below w.heap.size w w':=by
 obtain⟨r,hr⟩:∃ r,r=nameOk s.data.toList:=⟨_,rfl⟩
 rw [←hr]
 have HR:=Lib.hid hr
 clear hr
 have hl:s.data.toList.length=s.size:=by simp
 have hne:s.data.toList≠[]:=by intro e;rw [e] at hl;simp at hl;omega
 have HNE:=Lib.hid hne
 have HL:=Lib.hid hl
 have hem:s.toList.isEmpty=false:=by rw [ByteArray.toList_eq,List.isEmpty_eq_false_iff];exact hne
 clear hl
 go_enter Tryz.func114,Tryz.ntmps114
 go_wp2
 go_loopw [] (fun wr=>∃ pos:Nat,wr=w.iter s pos∧pos≤s.size∧Hid (∀ i,i < pos→okAt s.data.toList i)) (fun wr=>s.size - wr.iterPos w.heap.size)
 case atStart=>exact⟨0,rfl,by omega,fun i hi=>absurd hi (by omega)⟩
 case round=>
  obtain⟨pos,rfl,hp,HOK⟩:=hrel
  by_cases hlt:pos < s.size
  ·have hb:=byte_at s pos hlt
   have HB:=Lib.hid hb
   clear hb
   by_cases ha:(s[pos]'hlt).toNat < 128
   ·have hnx:∀ ty,(Instr.next (.pointer (some ⟨w.heap.size,0,none⟩)) true ty).run Tryz.prog (w.iter s pos)=_:=fun ty=>run_next_ascii w s pos ty hlt ha
    obtain⟨c,hc⟩:∃ c,c=s[pos]'hlt:=⟨_,rfl⟩
    rw [←hc] at ha
    simp only [←hc] at hnx
    have HC:=Lib.hid hc
    clear hc
    have HB2:Hid (s.data.toList[pos]? = some c):=by rw [HC.out];exact HB.out
    by_cases hle:97≤c.toNat∧c.toNat≤122
    ·have hq:=Lib.hid ((let_iff c).2 hle)
     obtain⟨q1,q2⟩:=hle
     go_wp2
     refine⟨⟨pos+1,rfl,by omega,?_⟩,by simp;omega⟩
     intro i hi
     by_cases e:i=pos
     ·subst e
      intro x hx
      rw [HB2.out] at hx
      injection hx with hx
      subst hx
      exact .inl hq.out
     ·exact HOK.out i (by omega)
    ·have hq:=Lib.hid (let_no c hle)
     by_cases h00:pos=0
     ·have hbad:=Lib.hid (nameOk_bad _ _ _ HB2.out hq.out (.inl h00))
      have d0:((pos:Int) == 0)=true:=by rw [h00];rfl
      clear h00
      by_cases q1:c.toNat < 97
      ·go_wp2
       go_ret
       exact⟨by rw [HR.out,hbad.out]<;>rfl,(Below.refl _ _).alloc (Nat.le_refl _) _⟩
      ·have q2:122 < c.toNat:=by omega
       go_wp2
       go_ret
       exact⟨by rw [HR.out,hbad.out]<;>rfl,(Below.refl _ _).alloc (Nat.le_refl _) _⟩
     ·have d0:((pos:Int) == 0)=false:=by rw [beq_eq_false_iff_ne];omega
      by_cases hdg:48≤c.toNat∧c.toNat≤57
      ·have hq2:=Lib.hid ((dig_iff c).2 hdg)
       obtain⟨q1,q2⟩:=hdg
       go_wp2
       refine⟨⟨pos+1,rfl,by omega,?_⟩,by simp;omega⟩
       intro i hi
       by_cases e:i=pos
       ·subst e
        intro x hx
        rw [HB2.out] at hx
        injection hx with hx
        subst hx
        exact .inr ⟨by omega,hq2.out⟩
       ·exact HOK.out i (by omega)
      ·have hbad:=Lib.hid (nameOk_bad _ _ _ HB2.out hq.out (.inr (dig_no c hdg)))
       by_cases q1:c.toNat < 48
       ·go_wp2
        go_ret
        exact⟨by rw [HR.out,hbad.out]<;>rfl,(Below.refl _ _).alloc (Nat.le_refl _) _⟩
       ·have q2:57 < c.toNat:=by omega
        by_cases q3:c.toNat < 97
        ·go_wp2
         go_ret
         exact⟨by rw [HR.out,hbad.out]<;>rfl,(Below.refl _ _).alloc (Nat.le_refl _) _⟩
        ·have q4:122 < c.toNat:=by omega
         go_wp2
         go_ret
         exact⟨by rw [HR.out,hbad.out]<;>rfl,(Below.refl _ _).alloc (Nat.le_refl _) _⟩
   ·have hnx:∀ ty,(Instr.next (.pointer (some ⟨w.heap.size,0,none⟩)) true ty).run Tryz.prog (w.iter s pos)=_:=fun ty=>run_next_any w s pos ty hlt
    have hh:=(decode_high s pos hlt (by omega)).1
    have hbad:=Lib.hid (nameOk_bad _ _ _ HB.out (let_no _ (by omega)) (.inr (dig_no _ (by omega))))
    obtain⟨d,hd⟩:∃ d,d=(Utf8.decode s pos).1:=⟨_,rfl⟩
    obtain⟨d2,hd2⟩:∃ d2,d2=(Utf8.decode s pos).2:=⟨_,rfl⟩
    rw [←hd] at hh
    simp only [←hd,←hd2] at hnx
    clear hd hd2 ha HB
    have q4:122 < d:=by omega
    have q5:57 < d:=by omega
    by_cases h00:pos=0
    ·have d0:((pos:Int) == 0)=true:=by rw [h00];rfl
     clear h00
     go_wp2
     go_ret
     exact⟨by rw [HR.out,hbad.out]<;>rfl,(Below.refl _ _).alloc (Nat.le_refl _) _⟩
    ·have d0:((pos:Int) == 0)=false:=by rw [beq_eq_false_iff_ne];omega
     go_wp2
     go_ret
     exact⟨by rw [HR.out,hbad.out]<;>rfl,(Below.refl _ _).alloc (Nat.le_refl _) _⟩
  ·have hnx:∀ ty,(Instr.next (.pointer (some ⟨w.heap.size,0,none⟩)) true ty).run Tryz.prog (w.iter s pos)=_:=fun ty=>run_next_end w s pos ty hlt
   have hyes:=Lib.hid (nameOk_yes s.data.toList HNE.out (by rw [HL.out];exact h20) (fun i=>by
    by_cases hi:i < pos
    ·exact HOK.out i hi
    ·intro c hc
     have:=(List.getElem?_eq_some_iff.1 hc).1
     rw [HL.out] at this;omega))
   go_wp2
   go_ret
   exact⟨by rw [HR.out,hyes.out]<;>rfl,(Below.refl _ _).alloc (Nat.le_refl _) _⟩
theorem name_any(w:World)(s:ByteArray)(hm:s.size≤maxLen):
  Calls Tryz.prog 114 #[.string s] w fun e w'=>e=.returned (.bool (nameOk s.data.toList))∧Below w.heap.size w w':=by
 by_cases h0:s.size=0
 ·exact name_empty w s h0
 ·by_cases h:20 < s.size
  ·exact name_long w s h hm
  ·exact name_some w s (by omega) (by omega)
end Go.Proofs.YtcnmhgblbikfkaaGreatDoor.As
end

section
set_option linter.unusedVariables false
namespace Go.Proofs.YtcnmhgblbikfkaaGreatDoor.As
open Go.RowKit

theorem infoI:(Tryz.prog.info? 132).map (fun i=>(i.zero,i.size,i.bytes))=some (some (.agg #[.int .i64 0,.int .i64 0,.int .i64 0,.int .i64 0,.int .u32 0]),5,40):=by kernel_rfl
theorem infoL:(Tryz.prog.info? 165).map (fun i=>(i.zero,i.size,i.bytes))=some (some (.agg #[.int .i64 0,.string ByteArray.empty]),2,24):=by kernel_rfl

def BPost(w:World)(g:Nat)(F:Nat→Prop)(s':BS)(e:Ending)(w':World):Prop:=
 e=.returned (.tuple #[])∧∃ F',Bld w' g s' F'∧Step F w F' w'

theorem good_do(s:BS)(i:Ins)(h:s.Good):(s.do_ i).Good:=by
 refine⟨?_,fun p hp=>?_,fun p hp=>?_⟩
 ·have:=h.links;simp only [BS.do_,List.length_append,List.length_singleton];omega
 ·have:=h.at_ p hp;simp only [BS.do_,List.length_append,List.length_singleton];omega
 ·have:=h.pl p hp;simp only [BS.do_,List.length_append,List.length_singleton];omega
theorem good_link(s:BS)(i:Ins)(nm:B8)(h:s.Good):BS.Good { s with code:=s.code++[i],links:=s.links++[(s.code.length,nm)] }:=by
 refine⟨?_,fun p hp=>?_,fun p hp=>?_⟩
 ·have:=h.links;simp only [List.length_append,List.length_singleton];omega
 ·simp only [List.mem_append,List.mem_singleton] at hp
  simp only [List.length_append,List.length_singleton]
  rcases hp with hp | rfl
  ·have:=h.at_ p hp;omega
  ·simp
 ·have:=h.pl p hp;simp only [List.length_append,List.length_singleton];omega

set_option maxHeartbeats 1000000 in
theorem do_mem(w:World)(g:Nat)(s:BS)(F:Nat→Prop)(h:Mem w g s F)(hn:s.code.length < 1000000)(o a b c k:Int):
  Calls Tryz.prog 115 #[.pointer (some ⟨g,0,none⟩),.agg #[.int .i64 o,.int .i64 a,.int .i64 b,.int .i64 c,.int .u32 k]] w fun e w'=>e=.returned (.tuple #[])∧∃ F',Mem w' g (s.do_ ⟨o,a,b,c,k⟩) F'∧Step F w F' w':=by
 obtain⟨cv,pv,lv,hg,hown,hlinks,hpl,hF⟩:=h
 obtain⟨i0,hi,hz0,hz1,hz2⟩:=info_parts infoI
 have c0:=cell_of_row w g 0 _ _ _ hg
 have f0:=frozen_of_row w g 0 _ _ hg
 simp at c0
 have hne:=own_ne hown hg (by decide)
 have hlt:g < w.heap.size:=(Array.getElem?_eq_some_iff.1 hg).1
 have HL:=Lib.hid hlinks
 have HPL:=Lib.hid hpl
 have HF:=Lib.hid hF
 have HGG:=Lib.hid hg
 have HO:=Lib.hid hown
 clear hlinks hpl hF
 go_enter Tryz.func115,Tryz.ntmps115
 go_wp2
 go_region_law (refine step_append_lies _ rfl (.tmp 8) (.tmp 10) 29 rfl 0 132 i0 _ 5 40 Tryz.underlying29 hi hz0 hz1 hz2 rfl (by decide) cv _ _ rfl ((hown.alloc _).alloc _) ⟨w.heap.size+1,0,none⟩ 1 1 [.int .i64 o,.int .i64 a,.int .i64 b,.int .i64 c,.int .u32 k] rfl rfl (World.news_of_block (heap_alloc2_new _ _ _)) (by simp [Value.oneCell']) (by decide) (by unfold maxLen;omega) (by omega) (Nat.zero_le _) _ rfl ?_;intro g1 cap w1 ho hgr hat hlt1;have k0:w1.heap[g]? = some (.cells #[cv,pv,lv,.bool s.bad] 96 (0,0)):=(hgr.block g (by simp;omega) (fun e=>hne e.symm)).trans ((Below.heap_alloc _ _ _ (by simp;omega)).trans ((Below.heap_alloc _ _ _ hlt).trans hg));have k1:w1.cell? ⟨g,0,none⟩=some cv:=cell_of_row w1 g 0 _ _ _ k0;have k2:=frozen_of_row w1 g 0 _ _ k0)
 all_goals
  go_end0
  have hgr2:w.grownBy w1 cv.ownBlock:=grown_from hgr rfl rfl rfl (by simp<;>omega) (fun i hi'=>(Below.heap_alloc _ _ _ (by simp;omega)).trans (Below.heap_alloc _ _ _ hi'))
  exact⟨rfl,mem_code HGG.out HO.out HL.out HPL.out HF.out ho hgr2 (by
   rcases hat with hat | hat
   ·exact .inl hat
   ·right;simp at hat;omega)⟩
theorem do_any(w:World)(g:Nat)(s:BS)(F:Nat→Prop)(h:Bld w g s F)(hn:s.code.length < 1000000)(o a b c k:Int):
  Calls Tryz.prog 115 #[.pointer (some ⟨g,0,none⟩),.agg #[.int .i64 o,.int .i64 a,.int .i64 b,.int .i64 c,.int .u32 k]] w (BPost w g F (s.do_ ⟨o,a,b,c,k⟩)):=
 (do_mem w g s F h.mem hn o a b c k).mono fun _ _ ⟨he,F',hm,hs⟩=>⟨he,F',⟨good_do _ _ h.good,hm⟩,hs⟩

def retT:Ending:=.returned (.tuple #[])
/-! ### The calls that add one instruction -/
theorem set_any(w:World)(g:Nat)(s:BS)(F:Nat→Prop)(h:Bld w g s F)(hn:s.code.length < 1000000)(a k:Int):
  Calls Tryz.prog 79 #[.pointer (some ⟨g,0,none⟩),.int .i64 a,.int .u32 k] w (BPost w g F (s.set_ a k)):=by
 go_enter Tryz.func79,Tryz.ntmps79
 go_wp2_with fail
 refine (do_any _ g s F h hn _ _ _ _ _).mono ?_;rintro e w' ⟨rfl,hb⟩
 go_wp2_with fail
 go_end0
 exact⟨rfl,hb⟩
theorem alu_any(w:World)(g:Nat)(s:BS)(F:Nat→Prop)(h:Bld w g s F)(hn:s.code.length < 1000000)(o a x y:Int):
  Calls Tryz.prog 81 #[.pointer (some ⟨g,0,none⟩),.int .i64 o,.int .i64 a,.int .i64 x,.int .i64 y] w (BPost w g F (s.alu_ o a x y)):=by
 go_enter Tryz.func81,Tryz.ntmps81
 go_wp2_with fail
 refine (do_any _ g s F h hn _ _ _ _ _).mono ?_;rintro e w' ⟨rfl,hb⟩
 go_wp2_with fail
 go_end0
 exact⟨rfl,hb⟩
theorem ask_any(w:World)(g:Nat)(s:BS)(F:Nat→Prop)(h:Bld w g s F)(hn:s.code.length < 1000000)(o a k:Int):
  Calls Tryz.prog 77 #[.pointer (some ⟨g,0,none⟩),.int .i64 o,.int .i64 a,.int .u32 k] w (BPost w g F (s.ask_ o a k)):=by
 go_enter Tryz.func77,Tryz.ntmps77
 go_wp2_with fail
 refine (do_any _ g s F h hn _ _ _ _ _).mono ?_;rintro e w' ⟨rfl,hb⟩
 go_wp2_with fail
 go_end0
 exact⟨rfl,hb⟩
theorem cas_any(w:World)(g:Nat)(s:BS)(F:Nat→Prop)(h:Bld w g s F)(hn:s.code.length < 1000000)(a c k:Int):
  Calls Tryz.prog 84 #[.pointer (some ⟨g,0,none⟩),.int .i64 a,.int .i64 c,.int .u32 k] w (BPost w g F (s.cas_ a c k)):=by
 go_enter Tryz.func84,Tryz.ntmps84
 go_wp2_with fail
 refine (do_any _ g s F h hn _ _ _ _ _).mono ?_;rintro e w' ⟨rfl,hb⟩
 go_wp2_with fail
 go_end0
 exact⟨rfl,hb⟩
end Go.Proofs.YtcnmhgblbikfkaaGreatDoor.As
end

section
set_option linter.unusedVariables false
namespace Go.Proofs.YtcnmhgblbikfkaaGreatDoor.As
open Go.RowKit

theorem add_at(b off j:Nat):(⟨b,off,none⟩:Addr).add j=⟨b,off+j,none⟩:=by unfold Addr.add;split<;>simp_all
def Rd(w:World)(size:Nat)(v:Value)(n:Nat)(xs:List Value):Prop:=
 ∃ A cap,v=.slice A n cap∧n≤cap∧xs.length=n*size∧((A=none∧n=0)∨∃ b off,A=some ⟨b,off,none⟩∧b < w.heap.size∧∀ j u,xs[j]? = some u→w.cell? ⟨b,off+j,none⟩=some u)
theorem Rd.of_own{w:World}{base:Nat}{e:TypeId}{size:Nat}{v:Value}{n:Nat}{xs:List Value}(h:w.ownsRow base e size v n xs):Rd w size v n xs:=by
 rcases h.2 with⟨rfl,rfl⟩ | ⟨g,cap,cur,rfl,_,hh,hc,_⟩
 ·exact⟨none,0,rfl,Nat.le_refl _,h.1,.inl ⟨rfl,rfl⟩⟩
 ·exact⟨some ⟨g,0,none⟩,cap,rfl,hc,h.1,.inr ⟨g,0,rfl,(Array.getElem?_eq_some_iff.1 hh).1,fun j u hu=>by rw [←add_at];exact h.cells (g:=g) rfl j u hu⟩⟩
theorem Rd.keep{w w':World}{size:Nat}{v:Value}{n:Nat}{xs:List Value}(h:Rd w size v n xs)(hz:w.heap.size≤w'.heap.size)(hk:∀ b off cap,v=.slice (some ⟨b,off,none⟩) n cap→w'.heap[b]? = w.heap[b]?):Rd w' size v n xs:=by
 obtain⟨A,cap,rfl,hc,hl,h⟩:=h
 refine⟨A,cap,rfl,hc,hl,?_⟩
 rcases h with h | ⟨b,off,rfl,hb,h⟩
 ·exact .inl h
 ·exact .inr ⟨b,off,rfl,Nat.lt_of_lt_of_le hb hz,fun j u hu=>(World.cell?_of_block (w:=w) (a:=⟨b,off+j,none⟩) (hk b off cap rfl)).trans (h j u hu)⟩
theorem Rd.lt{w:World}{size:Nat}{n cap b off:Nat}{xs:List Value}(h:Rd w size (.slice (some ⟨b,off,none⟩) n cap) n xs):b < w.heap.size:=by
 obtain⟨A,cap',e,_,_,h⟩:=h
 injection e with e1 e2 e3
 subst e1
 rcases h with⟨h,_⟩ | ⟨b',off',h,hb,_⟩
 ·cases h
 ·injection h with h;injection h with h1 h2;subst h1;exact hb
theorem Rd.below{w w':World}{B size:Nat}{v:Value}{n:Nat}{xs:List Value}(h:Rd w size v n xs)(hb:Below B w w')(hB:w.heap.size≤B):Rd w' size v n xs:=
 h.keep hb.size (fun b off cap e=>by subst e;exact hb.block b (Nat.lt_of_lt_of_le h.lt hB))
theorem Rd.drew{w:World}{size:Nat}{v:Value}{n:Nat}{xs:List Value}(h:Rd w size v n xs):Rd w.drew size v n xs:=h
theorem Rd.alloc{w:World}{size:Nat}{v:Value}{n:Nat}{xs:List Value}(h:Rd w size v n xs)(o:Obj):Rd (w.alloc o) size v n xs:=h.below ((Below.refl w.heap.size w).alloc (Nat.le_refl _) o) (Nat.le_refl _)
theorem Rd.len{w:World}{size:Nat}{v:Value}{n:Nat}{xs:List Value}(h:Rd w size v n xs):xs.length=n*size:=by
 obtain⟨A,cap,rfl,hc,hl,h⟩:=h;exact hl
theorem Rd.form{w:World}{size:Nat}{v:Value}{n:Nat}{xs:List Value}(h:Rd w size v n xs):∃ A cap,v=.slice A n cap:=by
 obtain⟨A,cap,rfl,_⟩:=h;exact⟨A,cap,rfl⟩
theorem Rd.cells{w:World}{size:Nat}{n cap:Nat}{A:Option Addr}{xs:List Value}(h:Rd w size (.slice A n cap) n xs)(hn:0 < n):∃ b off,A=some ⟨b,off,none⟩∧b < w.heap.size∧∀ j u,xs[j]? = some u→w.cell? ⟨b,off+j,none⟩=some u:=by
 obtain⟨A',cap',e,hc,hl,h⟩:=h
 injection e with e1 e2 e3
 subst e1
 rcases h with⟨_,h⟩ | h
 ·omega
 ·exact h

set_option maxRecDepth 100000 in
set_option maxHeartbeats 400000 in
theorem clone_any(w:World)(v:Value)(n:Nat)(xs:List Value)(h:Rd w 5 v n xs)(hn:n < 2000000)(h1:∀ u∈xs,u.oneCell'=true):
  Calls Tryz.prog 56 #[v] w fun e w'=>∃ v',e=.returned v'∧w'.ownsRow w.heap.size 132 5 v' n xs∧Below w.heap.size w w':=by
 obtain⟨A,cap,rfl,hc,hl,h⟩:=h
 obtain⟨i0,hi,hz0,hz1,hz2⟩:=info_parts infoI
 rcases h with⟨rfl,rfl⟩ | ⟨b,off,rfl,hb,hcell⟩
 ·have hx:xs=[]:=List.eq_nil_of_length_eq_zero (by simpa using hl)
  subst hx
  have hnil:∀ W,(binOp .eql 29 (.slice none 0 cap) (.slice none 0 0)).run Tryz.prog W=.ok (.bool true) W:=fun W=>Lib.run_eql_slice_nil W _ _ _ _ _ _ _ Tryz.underlying29
  go_enter Tryz.func56,Tryz.ntmps56
  go_wp2_with fail
  go_ret
  exact⟨_,rfl,World.ownsRow_nil _ _ _ _,Below.refl _ _⟩
 ·have hnil:∀ W,(binOp .eql 29 (.slice (some ⟨b,off,none⟩) n cap) (.slice none 0 0)).run Tryz.prog W=.ok (.bool false) W:=fun W=>Lib.run_eql_slice_nil W _ _ _ _ _ _ _ Tryz.underlying29
  have hne:(World.ownsRow (w.alloc (.cells #[] 132)) w.heap.size 132 5 (.slice (some ⟨w.heap.size,0,none⟩) 0 0) 0 []):=⟨rfl,.inr ⟨w.heap.size,0,#[],rfl,Nat.le_refl _,heap_alloc_new _ _,Nat.le_refl _,Nat.zero_le _,rfl,rfl⟩⟩
  go_enter Tryz.func56,Tryz.ntmps56
  go_wp2_with (at_builtin;refine wpList_append_own _ rfl (.tmp 5) (.tmp 6) 29 rfl w.heap.size 132 i0 _ 5 40 Tryz.underlying29 hi hz0 hz1 hz2 rfl (by decide) _ 0 [] rfl hne ⟨b,off,none⟩ n cap xs rfl hl (fun j u hu=>by rw [add_at];exact (Below.cell ((Below.refl w.heap.size w).alloc (Nat.le_refl _) _) (p:=⟨b,off+j,none⟩) hb).trans (hcell j u hu)) h1 (by unfold maxLen;omega) (by omega) (by simp) ?_;intro v' w1 ho hgr hat)
  go_wp2_with fail
  go_ret
  have hgr2:(w.alloc (.cells #[] 132)).grownBy w1 (some w.heap.size):=hgr
  exact⟨_,rfl,by simpa using ho,((Below.refl w.heap.size w).alloc (Nat.le_refl _) _).grown hgr2 (by simp) (fun k hk=>by injection hk with hk;omega)⟩
end Go.Proofs.YtcnmhgblbikfkaaGreatDoor.As
end

section
set_option linter.unusedVariables false
namespace Go.Proofs.YtcnmhgblbikfkaaGreatDoor.As
open Go.RowKit

def opUses:List Int:=[0,17,3,7,7,7,7,7,7,7,7,7,7,32,33,33,25,25,0,25,25,29,1,25,25,0,0,17]
structure TabI(w:World):Prop where
 names:∀ i:Nat,i < 28→w.cell? ⟨2,i,none⟩=some (.string ⟨(opNames.getD i []).toArray⟩)
 uses:∀ i:Nat,i < 28→w.cell? ⟨0,i,none⟩=some (.int .i64 (opUses.getD i 0))
def NoI(k:Nat):Prop:=k≠2∧k≠0
theorem TabI.lt{w:World}(h:TabI w):2 < w.heap.size∧0 < w.heap.size:=
 ⟨block_lt_of_cell (h.names 0 (by decide)),block_lt_of_cell (h.uses 0 (by decide))⟩
theorem TabI.only{w w':World}{F:Nat→Prop}(h:TabI w)(ho:Only F w w')(hF:∀ k,F k→NoI k):TabI w':=by
 have hl:=h.lt
 exact⟨fun i hi=>(World.cell?_of_block (w:=w) (a:=⟨2,i,none⟩) (ho.block _ hl.1 (fun e=>(hF _ e).1 rfl))).trans (h.names i hi),
  fun i hi=>(World.cell?_of_block (w:=w) (a:=⟨0,i,none⟩) (ho.block _ hl.2 (fun e=>(hF _ e).2 rfl))).trans (h.uses i hi)⟩
theorem TabI.below{B:Nat}{w w':World}(h:TabI w)(hb:Below B w w')(hB:w.heap.size≤B):TabI w':=h.only (Only.of_below (F:=fun _=>False) hb hB) (fun _ e=>e.elim)
theorem TabI.new{w:World}(h:TabI w){k:Nat}(hk:w.heap.size≤k):NoI k:=by
 have:=h.lt
 exact⟨by omega,by omega⟩

theorem iname_in(op:Int)(w:World)(T:TabI w)(h0:0≤op)(h1:op < 28):
  Calls Tryz.prog 116 #[.int .i64 op] w fun e w'=>e=.returned (.string ⟨(opName op).toArray⟩)∧w=w':=by
 obtain⟨i,rfl⟩:=Int.eq_ofNat_of_zero_le h0
 have hc:=T.names i (by omega)
 have e:opName (i:Int)=opNames.getD i []:=by unfold opName;rw [if_pos ⟨h0,h1⟩];rfl
 rw [e]
 generalize opNames.getD i []=nm at *
 clear e T
 go_enter Tryz.func116,Tryz.ntmps116
 go_wp2
 go_ret
 exact⟨rfl,rfl⟩
theorem iname_out(op:Int)(w:World)(h:op < 0∨28≤op):
  Calls Tryz.prog 116 #[.int .i64 op] w fun e w'=>e=.returned (.string ⟨(opName op).toArray⟩)∧w=w':=by
 have e:opName op=[]:=by unfold opName;rw [if_neg (by omega)]
 rw [e]
 rcases h with h | h
 ·go_enter Tryz.func116,Tryz.ntmps116
  go_wp2
  go_ret
  exact⟨rfl,rfl⟩
 ·have d:decide (op < 0)=false:=by simp;omega
  go_enter Tryz.func116,Tryz.ntmps116
  go_wp2
  go_ret
  exact⟨rfl,rfl⟩
theorem iname_any(op:Int)(w:World)(T:TabI w):
  Calls Tryz.prog 116 #[.int .i64 op] w fun e w'=>e=.returned (.string ⟨(opName op).toArray⟩)∧w=w':=by
 by_cases h:0≤op∧op < 28
 ·exact iname_in op w T h.1 h.2
 ·exact iname_out op w (by omega)
theorem name_there(i:Nat)(h:i < 28):((opNames.getD i []).isEmpty=false):=by
 have:∀ i,i < 28→((opNames.getD i []).isEmpty=false):=by decide
 exact this i h
theorem opName_in(op:Int)(h0:0≤op)(h1:op < 28):(opName op).isEmpty=false:=by
 unfold opName;rw [if_pos ⟨h0,h1⟩];exact name_there _ (by omega)
theorem jumps_uses(i:Nat)(h:i < 28):(bits BinOp.and IntKind.i64 (opUses.getD i 0) 32 != 0)=jumps (i:Int):=by
 have:∀ i,i < 28→(bits BinOp.and IntKind.i64 (opUses.getD i 0) 32 != 0)=jumps (i:Int):=by decide
 exact this i h
theorem jumps_out(op:Int)(h:op < 0∨28≤op):jumps op=false:=by
 unfold jumps
 rw [show (op == 13)=false from beq_eq_false_iff_ne.2 (by omega),show (op == 14)=false from beq_eq_false_iff_ne.2 (by omega),show (op == 15)=false from beq_eq_false_iff_ne.2 (by omega)]
 rfl
theorem jumps_any(op:Int)(w:World)(T:TabI w):
  Calls Tryz.prog 86 #[.int .i64 op] w fun e w'=>e=.returned (.bool (jumps op))∧w=w':=by
 by_cases h:0≤op∧op < 28
 ·obtain⟨i,rfl⟩:=Int.eq_ofNat_of_zero_le h.1
  have HT:=Lib.hid T
  have hc:=T.uses i (by omega)
  have hu:=jumps_uses i (by omega)
  have hem:=opName_in i h.1 h.2
  generalize opUses.getD i 0=u at *
  generalize jumps (i:Int)=r at *
  generalize hz:bits BinOp.and IntKind.i64 u 32=z at *
  clear T
  go_enter Tryz.func86,Tryz.ntmps86
  go_wp2_with fail
  refine (iname_any _ _ HT.out).mono ?_;rintro e w' ⟨rfl,rfl⟩
  generalize opName (i:Int)=nm at *
  go_wp2
  go_ret
  exact⟨rfl,rfl⟩
 ·rw [jumps_out op (by omega)]
  have HT:=Lib.hid T
  clear T
  have hem:opName op=[]:=by unfold opName;rw [if_neg h]
  go_enter Tryz.func86,Tryz.ntmps86
  go_wp2_with fail
  refine (iname_any _ _ HT.out).mono ?_;rintro e w' ⟨rfl,rfl⟩
  rw [hem]
  go_wp2
  go_ret
  exact⟨rfl,rfl⟩
end Go.Proofs.YtcnmhgblbikfkaaGreatDoor.As
end

section
set_option linter.unusedVariables false
namespace Go.Proofs.YtcnmhgblbikfkaaGreatDoor.As
open Go.RowKit

def Ins.val(i:Ins):Value:=.agg #[.int .i64 i.op,.int .i64 i.a,.int .i64 i.b,.int .i64 i.c,.int .u32 i.k]
def Blk(w:World)(R:Nat)(i:Ins):Prop:=w.heap[R]? = some (.cells #[.int .i64 i.op,.int .i64 i.a,.int .i64 i.b,.int .i64 i.c,.int .u32 i.k] 132 (0,0))
theorem Blk.lt{w:World}{R:Nat}{i:Ins}(h:Blk w R i):R < w.heap.size:=(Array.getElem?_eq_some_iff.1 h).1
theorem Blk.c{w:World}{R:Nat}{i:Ins}(h:Blk w R i):w.cell? ⟨R,0,none⟩=some (.int .i64 i.op)∧w.cell? ⟨R,1,none⟩=some (.int .i64 i.a)∧w.cell? ⟨R,2,none⟩=some (.int .i64 i.b)∧w.cell? ⟨R,3,none⟩=some (.int .i64 i.c)∧w.cell? ⟨R,4,none⟩=some (.int .u32 i.k):=by
 unfold Blk at h
 simp [World.cell?,h]
theorem Blk.f{w:World}{R:Nat}{i:Ins}(h:Blk w R i)(j:Nat):w.frozen? ⟨R,j,none⟩=false:=by
 unfold Blk at h
 simp [World.frozen?,h]
theorem Blk.below{B:Nat}{w w':World}{R:Nat}{i:Ins}(h:Blk w R i)(hb:Below B w w')(hB:R < B):Blk w' R i:=(hb.block R hB).trans h
theorem Blk.new(w:World)(i:Ins):Blk (w.alloc (.cells #[.int .i64 i.op,.int .i64 i.a,.int .i64 i.b,.int .i64 i.c,.int .u32 i.k] 132)) w.heap.size i:=heap_alloc_new _ _
theorem Blk.alloc{w:World}{R:Nat}{i:Ins}(h:Blk w R i)(o:Obj):Blk (w.alloc o) R i:=(Below.heap_alloc _ _ _ h.lt).trans h

theorem Blk.set0{w:World}{R:Nat}{i:Ins}(h:Blk w R i)(v:Int):Blk (w.setCell ⟨R,0,none⟩ (.int .i64 v)) R { i with op:=v }:=(heap_setCell_same w R 0 _ _ _ h).trans (by simp)
theorem Blk.set1{w:World}{R:Nat}{i:Ins}(h:Blk w R i)(v:Int):Blk (w.setCell ⟨R,1,none⟩ (.int .i64 v)) R { i with a:=v }:=(heap_setCell_same w R 1 _ _ _ h).trans (by simp)
theorem Blk.set2{w:World}{R:Nat}{i:Ins}(h:Blk w R i)(v:Int):Blk (w.setCell ⟨R,2,none⟩ (.int .i64 v)) R { i with b:=v }:=(heap_setCell_same w R 2 _ _ _ h).trans (by simp)
theorem Blk.set3{w:World}{R:Nat}{i:Ins}(h:Blk w R i)(v:Int):Blk (w.setCell ⟨R,3,none⟩ (.int .i64 v)) R { i with c:=v }:=(heap_setCell_same w R 3 _ _ _ h).trans (by simp)
theorem Blk.set4{w:World}{R:Nat}{i:Ins}(h:Blk w R i)(v:Int):Blk (w.setCell ⟨R,4,none⟩ (.int .u32 v)) R { i with k:=v }:=(heap_setCell_same w R 4 _ _ _ h).trans (by simp)
theorem Blk.other{w:World}{R b j:Nat}{i:Ins}(h:Blk w R i)(u:Value)(hb:R≠b):Blk (w.setCell ⟨b,j,none⟩ u) R i:=(Below.heap_setCell _ _ _ _ hb).trans h
theorem Blk.all{w:World}{R:Nat}{o:Ins}(h:Blk w R o)(i:Ins):
  Blk (((((w.setCell ⟨R,0,none⟩ (.int .i64 i.op)).setCell ⟨R,1,none⟩ (.int .i64 i.a)).setCell ⟨R,2,none⟩ (.int .i64 i.b)).setCell ⟨R,3,none⟩ (.int .i64 i.c)).setCell ⟨R,4,none⟩ (.int .u32 i.k)) R i:=
 ((((h.set0 i.op).set1 i.a).set2 i.b).set3 i.c).set4 i.k
theorem below_all{B:Nat}{w w':World}{R:Nat}(h:Below B w w')(hR:B≤R)(i:Ins):
  Below B w (((((w'.setCell ⟨R,0,none⟩ (.int .i64 i.op)).setCell ⟨R,1,none⟩ (.int .i64 i.a)).setCell ⟨R,2,none⟩ (.int .i64 i.b)).setCell ⟨R,3,none⟩ (.int .i64 i.c)).setCell ⟨R,4,none⟩ (.int .u32 i.k)):=
 ((((h.setCell hR _).setCell hR _).setCell hR _).setCell hR _).setCell hR _
theorem results_ins{fn:Func}{p u v:Tmp}(h:fn.results=#[.cell p 132,.tmp u,.tmp v])(tmps:Array Value)(w:World)(R:Nat)(i:Ins)(hb:Blk w R i)(hp:tmps.getD p undef=.pointer (some ⟨R,0,none⟩)):
  (results fn tmps).run Tryz.prog w=.ok (.tuple #[i.val,tmps.getD u undef,tmps.getD v undef]) w:=by
 have hl:=run_loadVar_row (P := Tryz.prog) w R 132 132 _ _ _ hb Tryz.underlying132 rfl (by kernel_rfl)
 simp only [Array.getD_eq_getD_getElem?] at hp
 simp [results,h,hp,asAddr,hl,Ins.val]

end Go.Proofs.YtcnmhgblbikfkaaGreatDoor.As
end

section
set_option linter.unusedVariables false
namespace Go.Proofs.YtcnmhgblbikfkaaGreatDoor.As
open Go.RowKit

set_option maxHeartbeats 1000000 in
theorem go_any(w:World)(g:Nat)(s:BS)(F:Nat→Prop)(h:Bld w g s F)(hn:s.code.length < 1000000)(o a:Int)(nm:ByteArray):
  Calls Tryz.prog 78 #[.pointer (some ⟨g,0,none⟩),.int .i64 o,.int .i64 a,.string nm] w (BPost w g F (s.go_ o a nm.data.toList)):=by
 obtain⟨hgood,cv,pv,lv,hg,hown,hlinks,hpl,hF⟩:=h
 obtain⟨i0,hi,hz0,hz1,hz2⟩:=info_parts infoL
 have c0:=cell_of_row w g 0 _ _ _ hg
 have c2:=cell_of_row w g 2 _ _ _ hg
 have f2:=frozen_of_row w g 2 _ _ hg
 simp at c0 c2
 have hne:=own_ne hlinks hg (by decide)
 have hlt:g < w.heap.size:=(Array.getElem?_eq_some_iff.1 hg).1
 have hll:=hgood.links
 have HL:=Lib.hid hlinks
 have HPL:=Lib.hid hpl
 have HF:=Lib.hid hF
 have HG:=Lib.hid hgood
 have HGG:=Lib.hid hg
 have HO:=Lib.hid hown
 clear hpl hF hgood
 obtain⟨n,hnn⟩:∃ n,n=s.links.length:=⟨_,rfl⟩
 obtain⟨m,hmm⟩:∃ m,m=s.code.length:=⟨_,rfl⟩
 obtain⟨xs,hxs⟩:∃ xs,xs=flatL s.links:=⟨_,rfl⟩
 have hown2:=hown
 rw [←hnn] at hll hlinks
 rw [←hmm] at hn hll hown2
 rw [←hxs] at hlinks
 have HN:=Lib.hid hnn
 have HM:=Lib.hid hmm
 have HX:=Lib.hid hxs
 clear hnn hmm hxs hown
 -- the length of the code,as the walk reads it
 obtain⟨ca,cc,rfl⟩:∃ ca cc,cv=.slice ca m cc:=by
  rcases hown2.2 with⟨rfl,hm0⟩ | ⟨g',cap,cur,rfl,_⟩
  ·exact⟨none,0,by rw [hm0]⟩
  ·exact⟨_,_,rfl⟩
 go_enter Tryz.func78,Tryz.ntmps78
 go_wp2_with fail
 go_region_law (refine step_append_lies _ rfl (.tmp 12) (.tmp 20) 94 rfl 0 165 i0 _ 2 24 Tryz.underlying94 hi hz0 hz1 hz2 rfl (by decide) lv n xs rfl (hlinks.alloc _) ⟨w.heap.size,0,none⟩ 1 1 [.int .i64 m,.string nm] rfl rfl (World.news_of_block (heap_alloc_new _ _)) (by simp [Value.oneCell']) (by decide) (by unfold maxLen;omega) (by omega) (Nat.zero_le _) _ rfl ?_;intro g1 cap w1 ho hgr hat hlt1;have k0:w1.heap[g]? = some (.cells #[.slice ca m cc,pv,lv,.bool s.bad] 96 (0,0)):=(hgr.block g (by simp;omega) (fun e=>hne e.symm)).trans ((Below.heap_alloc _ _ _ hlt).trans hg);have k1:w1.cell? ⟨g,2,none⟩=some lv:=cell_of_row w1 g 2 _ _ _ k0;have k2:=frozen_of_row w1 g 2 _ _ k0)
 all_goals
  have hgr2:w.grownBy w1 lv.ownBlock:=grown_from hgr rfl rfl rfl (by simp<;>omega) (fun i hi'=>Below.heap_alloc _ _ _ hi')
  rw [HN.out,HX.out] at ho
  obtain⟨F1,hm1,hs1⟩:=mem_links (i:=(s.code.length,nm.data.toList)) HGG.out HO.out HL.out HPL.out HF.out (by rw [HM.out] at ho;exact ho) hgr2 (by
   rcases hat with hat | hat
   ·exact .inl hat
   ·right;simp at hat;omega)
  rw [←HN.out] at hm1 hs1
  have HM1:=Lib.hid hm1
  have HS1:=Lib.hid hs1
  have hn2:s.code.length < 1000000:=by rw [←HM.out];exact hn
  have HN2:=Lib.hid hn2
  clear hm1 hs1 hn2 ho hgr hat k0 k1 k2 hgr2 hown2 c0 c2 f2 hg hlinks
  generalize w1.setCell ⟨g,2,none⟩ (.slice (some ⟨g1,0,none⟩) (n+1) cap)=w2 at *
  go_wp2_with fail
  refine (do_mem _ g _ F1 HM1.out HN2.out _ _ _ _ _).mono ?_;rintro e w' ⟨rfl,F2,hm2,hs2⟩
  go_wp2_with fail
  go_end0
  exact⟨rfl,F2,⟨good_link s _ _ HG.out,hm2⟩,HS1.out.trans hs2⟩
end Go.Proofs.YtcnmhgblbikfkaaGreatDoor.As
end

section
set_option linter.unusedVariables false
namespace Go.Proofs.YtcnmhgblbikfkaaGreatDoor.As
open Go.RowKit

theorem lawS:Maps.Keyed Tryz.prog 9:=Maps.string_keyed Tryz.underlying9
theorem zeroE(w:World):(zeroValue 3).run Tryz.prog w=.ok (.int .i64 0) w:=by kernel_rfl

theorem at_yes(s:BS)(nm:B8)(h:(s.find nm).isSome=true):s.at_ nm={ s with bad:=true }:=by unfold BS.at_;rw [if_pos (by simp [h])]
theorem at_bad(s:BS)(nm:B8)(h:nameOk nm=false):s.at_ nm={ s with bad:=true }:=by unfold BS.at_;rw [if_pos (by simp [h])]
theorem at_put(s:BS)(nm:B8)(h:s.find nm=none)(h':nameOk nm=true):s.at_ nm={ s with places:=s.places++[(nm,s.code.length)] }:=by unfold BS.at_;rw [if_neg (by simp [h,h'])]

set_option maxRecDepth 100000 in
set_option maxHeartbeats 1000000 in
theorem at_some(w:World)(g mb n:Nat)(s:BS)(F:Nat→Prop)(nm:ByteArray)(hnm:nm.size≤maxLen)(cv lv:Value)(D:DataW Unit)(HG:Hid s.Good)(hn:s.code.length < 1000000)(hp:s.places.length < 1000000)
  (HGG:Hid (w.heap[g]? = some (.cells #[cv,.map (some mb),lv,.bool s.bad] 96 (0,0)))) (HO:Hid (w.ownsRow 0 132 5 cv s.code.length (flat s.code)))
  (HL:Hid (w.ownsRow 0 165 2 lv s.links.length (flatL s.links))) (HM:Hid (w.ownsMap Tryz.prog 9 (plainElem Tryz.prog 3) mb n D)) (HNP:Hid (n≤s.places.length)) (HD:Hid (DReads D s.find))
  (HF:Hid (∀ k,F k↔(k=g∨cv.ownBlock=some k∨lv.ownBlock=some k∨mapBlock (.map (some mb))=some k))):
  Calls Tryz.prog 76 #[.pointer (some ⟨g,0,none⟩),.string nm] w (BPost w g F (s.at_ nm.data.toList)):=by
 have hnp0:=HNP.out
 have MEM:=Lib.hid (show Mem w g s F from⟨cv,.map (some (mb)),lv,HGG.out,HO.out,HL.out,.inr ⟨mb,n,D,rfl,HM.out,HNP.out,HD.out⟩,HF.out⟩)
 have c0:=cell_of_row w g 0 _ _ _ HGG.out
 have c1:=cell_of_row w g 1 _ _ _ HGG.out
 have c3:=cell_of_row w g 3 _ _ _ HGG.out
 have f1:=frozen_of_row w g 1 _ _ HGG.out
 have f3:=frozen_of_row w g 3 _ _ HGG.out
 simp at c0 c1 c3
 have hltW:g < w.heap.size:=(Array.getElem?_eq_some_iff.1 HGG.out).1
 have hhas:=(HD.out.2 nm.data.toList).1
 cases hf:s.find nm.data.toList with
 | some k=>
  have HA:=Lib.hid (at_yes s nm.data.toList (by rw [hf];rfl))
  rw [hf] at hhas
  simp only [Option.isSome] at hhas
  clear hf
  go_enter Tryz.func76,Tryz.ntmps76
  have hne:∀ W,(binOp .eql 93 (.map (some mb)) (.map none)).run Tryz.prog W=.ok (.bool false) W:=fun W=>run_eql_map_nil W _ _ _ (some mb) Tryz.underlying93
  rw [HA.out]
  go_wp2_with (at_lookup;refine wpList_lookup_own_ok_int _ rfl _ _ 93 rfl 9 3 .i64 lawS Tryz.underlying93 Tryz.underlying3 (zeroE _) (mb) (n) (D) rfl HM.out _ _ rfl (_root_.Go.WideMaps.keyOf_string_mk Tryz.underlying9 hnm) ?_;intro c hat hwc)
  clear hat hwc
  go_wp2_with fail
  go_end0
  obtain⟨hm3,hs3⟩:=mem_bad MEM.out
  exact⟨rfl,_,⟨good_bad s HG.out,hm3⟩,hs3⟩
 | none=>
  have hfn:=Lib.hid hf
  rw [hf] at hhas
  simp only [Option.isSome] at hhas
  clear hf
  cases hok:nameOk nm.data.toList with
  | false=>
   have HA:=Lib.hid (at_bad s nm.data.toList hok)
   have HK:=Lib.hid hok
   clear hok
   go_enter Tryz.func76,Tryz.ntmps76
   have hne:∀ W,(binOp .eql 93 (.map (some mb)) (.map none)).run Tryz.prog W=.ok (.bool false) W:=fun W=>run_eql_map_nil W _ _ _ (some mb) Tryz.underlying93
   rw [HA.out]
   go_wp2_with (at_lookup;refine wpList_lookup_own_ok_int _ rfl _ _ 93 rfl 9 3 .i64 lawS Tryz.underlying93 Tryz.underlying3 (zeroE _) (mb) (n) (D) rfl HM.out _ _ rfl (_root_.Go.WideMaps.keyOf_string_mk Tryz.underlying9 hnm) ?_;intro c hat hwc)
   clear hat hwc
   go_wp2_with fail
   refine (name_any _ nm hnm).mono ?_;rintro e w1 ⟨rfl,hb1⟩
   rw [HK.out]
   have k3:=(hb1.cell (p:=⟨g,3,none⟩) hltW).trans c3
   have k4:=(hb1.frozen (p:=⟨g,3,none⟩) hltW).trans f3
   have MEM1:=Lib.hid (mem_below MEM.out hb1 (Nat.le_refl _))
   go_wp2_with fail
   go_end0
   obtain⟨hm3,hs3⟩:=mem_bad MEM1.out
   exact⟨rfl,_,⟨good_bad s HG.out,hm3⟩,(Step.of_below hb1 (Nat.le_refl _)).trans hs3⟩
  | true=>
   have HA:=Lib.hid (at_put s nm.data.toList hfn.out hok)
   have HK:=Lib.hid hok
   clear hok
   go_enter Tryz.func76,Tryz.ntmps76
   have hne:∀ W,(binOp .eql 93 (.map (some mb)) (.map none)).run Tryz.prog W=.ok (.bool false) W:=fun W=>run_eql_map_nil W _ _ _ (some mb) Tryz.underlying93
   rw [HA.out]
   go_wp2_with (at_lookup;refine wpList_lookup_own_ok_int _ rfl _ _ 93 rfl 9 3 .i64 lawS Tryz.underlying93 Tryz.underlying3 (zeroE _) (mb) (n) (D) rfl HM.out _ _ rfl (_root_.Go.WideMaps.keyOf_string_mk Tryz.underlying9 hnm) ?_;intro c hat hwc)
   clear hat hwc
   go_wp2_with fail
   refine (name_any _ nm hnm).mono ?_;rintro e w1 ⟨rfl,hb1⟩
   rw [HK.out]
   have k0:=(hb1.cell (p:=⟨g,0,none⟩) hltW).trans c0
   have k1:=(hb1.cell (p:=⟨g,1,none⟩) hltW).trans c1
   have HO1:=Lib.hid (own_only HO.out (Only.of_below (F:=fun _=>False) hb1 (Nat.le_refl _)) (fun _ _=>id))
   have HL1:=Lib.hid (own_only HL.out (Only.of_below (F:=fun _=>False) hb1 (Nat.le_refl _)) (fun _ _=>id))
   have hm1:w1.ownsMap (H:=Unit) Tryz.prog 9 (plainElem Tryz.prog 3) (mb) (n) (D):=by
    obtain⟨es,cl,hb,r⟩:=HM.out
    exact⟨es,cl,(hb1.block (mb) (Array.getElem?_eq_some_iff.1 hb).1).trans hb,r⟩
   have HGG1:=Lib.hid ((hb1.block g hltW).trans HGG.out)
   have hnn:(n) < maxLen:=by unfold maxLen;omega
   obtain⟨ca,cc,rfl⟩:∃ ca cc,cv=.slice ca s.code.length cc:=by
    rcases HO.out.2 with⟨rfl,hm0⟩ | ⟨g',cap,cur,rfl,_⟩
    ·exact⟨none,0,by rw [hm0]⟩
    ·exact⟨_,_,rfl⟩
   go_wp2_with fail
   go_still_tail 10,(by kernel_rfl)
   change wpList _ _ _ _ _ w1.drew
   refine wpList_mapUpdate_own _ rfl _ _ _ 93 rfl 9 3 lawS Tryz.underlying93 _ (mb) (n) (D) rfl hm1.drew hnn _ _ _ rfl rfl (_root_.Go.WideMaps.keyOf_string_mk Tryz.underlying9 hnm) _ [] (plainElem_int Tryz.underlying3 (WalkArith.wf_i64 (by omega))) ?_
   intro w2 hm2 hgr
   go_wp2_with fail
   go_end0
   obtain⟨hM,hS⟩:=mem_put HGG1.out HO1.out HL1.out hm1 HNP.out HD.out hfn.out HF.out hm2 ⟨hgr.os,hgr.tape,hgr.output,hgr.size,hgr.block⟩
   exact⟨rfl,_,⟨good_put s _ HG.out,hM⟩,(Step.of_below hb1 (Nat.le_refl _)).trans hS⟩
set_option maxRecDepth 100000 in
set_option maxHeartbeats 1000000 in
theorem at_none(w:World)(g:Nat)(s:BS)(F:Nat→Prop)(nm:ByteArray)(hnm:nm.size≤maxLen)(cv lv:Value)(HG:Hid s.Good)(hn:s.code.length < 1000000)(hp:s.places=[])
  (hg:w.heap[g]? = some (.cells #[cv,.map none,lv,.bool s.bad] 96 (0,0))) (HO0:w.ownsRow 0 132 5 cv s.code.length (flat s.code))
  (HL0:w.ownsRow 0 165 2 lv s.links.length (flatL s.links)) (HF0:∀ k,F k↔(k=g∨cv.ownBlock=some k∨lv.ownBlock=some k∨mapBlock (.map none)=some k)):
  Calls Tryz.prog 76 #[.pointer (some ⟨g,0,none⟩),.string nm] w (BPost w g F (s.at_ nm.data.toList)):=by
 obtain⟨F1,hS1,hg1,hO1,hL1,hm1,hF1⟩:=mem_make hg HO0 HL0 hp HF0
 have a1:=cell_of_row w g 1 _ _ _ hg
 have b1:=frozen_of_row w g 1 _ _ hg
 simp at a1
 have hlt:g < w.heap.size:=(Array.getElem?_eq_some_iff.1 hg).1
 rw [World.setCell_alloc_past _ _ _ _ hlt] at hS1 hg1 hO1 hL1 hm1
 obtain⟨W,hW⟩:∃ W,W=(w.setCell ⟨g,1,none⟩ (.map (some w.heap.size))).alloc (.map #[] 0):=⟨_,rfl⟩
 rw [←hW] at hg1 hO1 hL1 hm1 hS1
 have HW:=Lib.hid hW
 have HS1:=Lib.hid hS1
 have HGG:=Lib.hid hg1
 have HO:=Lib.hid hO1
 have HL:=Lib.hid hL1
 have HM:=Lib.hid hm1
 have HF:=Lib.hid hF1
 have HD:=Lib.hid (dreads_nil s hp)
 have HNP:=Lib.hid (Nat.zero_le s.places.length)
 clear HO0 HL0 HF0 hg1 hO1 hL1 hm1 hF1 hS1 hp hW hg
 have hmm := @run_makeMap Tryz.prog
 have MEM:=Lib.hid (show Mem W g s F1 from⟨cv,.map (some (w.heap.size)),lv,HGG.out,HO.out,HL.out,.inr ⟨w.heap.size,0,.map [],rfl,HM.out,HNP.out,HD.out⟩,HF.out⟩)
 have c0:=cell_of_row W g 0 _ _ _ HGG.out
 have c1:=cell_of_row W g 1 _ _ _ HGG.out
 have c3:=cell_of_row W g 3 _ _ _ HGG.out
 have f1:=frozen_of_row W g 1 _ _ HGG.out
 have f3:=frozen_of_row W g 3 _ _ HGG.out
 simp at c0 c1 c3
 have hltW:g < W.heap.size:=(Array.getElem?_eq_some_iff.1 HGG.out).1
 have hhas:=(HD.out.2 nm.data.toList).1
 cases hf:s.find nm.data.toList with
 | some k=>
  have HA:=Lib.hid (at_yes s nm.data.toList (by rw [hf];rfl))
  rw [hf] at hhas
  simp only [Option.isSome] at hhas
  clear hf
  go_enter Tryz.func76,Tryz.ntmps76
  have hne:∀ W,(binOp .eql 93 (.map none) (.map none)).run Tryz.prog W=.ok (.bool true) W:=fun W=>run_eql_map_nil W _ _ _ none Tryz.underlying93
  rw [HA.out]
  go_wp2_with (at_lookup;rw [←HW.out];refine wpList_lookup_own_ok_int _ rfl _ _ 93 rfl 9 3 .i64 lawS Tryz.underlying93 Tryz.underlying3 (zeroE _) (w.heap.size) (0) (.map []) rfl HM.out _ _ rfl (_root_.Go.WideMaps.keyOf_string_mk Tryz.underlying9 hnm) ?_;intro c hat hwc)
  clear hat hwc
  go_wp2_with fail
  go_end0
  obtain⟨hm3,hs3⟩:=mem_bad MEM.out
  exact⟨rfl,_,⟨good_bad s HG.out,hm3⟩,(HS1.out).trans (hs3)⟩
 | none=>
  have hfn:=Lib.hid hf
  rw [hf] at hhas
  simp only [Option.isSome] at hhas
  clear hf
  cases hok:nameOk nm.data.toList with
  | false=>
   have HA:=Lib.hid (at_bad s nm.data.toList hok)
   have HK:=Lib.hid hok
   clear hok
   go_enter Tryz.func76,Tryz.ntmps76
   have hne:∀ W,(binOp .eql 93 (.map none) (.map none)).run Tryz.prog W=.ok (.bool true) W:=fun W=>run_eql_map_nil W _ _ _ none Tryz.underlying93
   rw [HA.out]
   go_wp2_with (at_lookup;rw [←HW.out];refine wpList_lookup_own_ok_int _ rfl _ _ 93 rfl 9 3 .i64 lawS Tryz.underlying93 Tryz.underlying3 (zeroE _) (w.heap.size) (0) (.map []) rfl HM.out _ _ rfl (_root_.Go.WideMaps.keyOf_string_mk Tryz.underlying9 hnm) ?_;intro c hat hwc)
   clear hat hwc
   go_wp2_with fail
   refine (name_any _ nm hnm).mono ?_;rintro e w1 ⟨rfl,hb1⟩
   rw [HK.out]
   have k3:=(hb1.cell (p:=⟨g,3,none⟩) hltW).trans c3
   have k4:=(hb1.frozen (p:=⟨g,3,none⟩) hltW).trans f3
   have MEM1:=Lib.hid (mem_below MEM.out hb1 (Nat.le_refl _))
   go_wp2_with fail
   go_end0
   obtain⟨hm3,hs3⟩:=mem_bad MEM1.out
   exact⟨rfl,_,⟨good_bad s HG.out,hm3⟩,(HS1.out).trans ((Step.of_below hb1 (Nat.le_refl _)).trans hs3)⟩
  | true=>
   have HA:=Lib.hid (at_put s nm.data.toList hfn.out hok)
   have HK:=Lib.hid hok
   clear hok
   go_enter Tryz.func76,Tryz.ntmps76
   have hne:∀ W,(binOp .eql 93 (.map none) (.map none)).run Tryz.prog W=.ok (.bool true) W:=fun W=>run_eql_map_nil W _ _ _ none Tryz.underlying93
   rw [HA.out]
   go_wp2_with (at_lookup;rw [←HW.out];refine wpList_lookup_own_ok_int _ rfl _ _ 93 rfl 9 3 .i64 lawS Tryz.underlying93 Tryz.underlying3 (zeroE _) (w.heap.size) (0) (.map []) rfl HM.out _ _ rfl (_root_.Go.WideMaps.keyOf_string_mk Tryz.underlying9 hnm) ?_;intro c hat hwc)
   clear hat hwc
   go_wp2_with fail
   refine (name_any _ nm hnm).mono ?_;rintro e w1 ⟨rfl,hb1⟩
   rw [HK.out]
   have k0:=(hb1.cell (p:=⟨g,0,none⟩) hltW).trans c0
   have k1:=(hb1.cell (p:=⟨g,1,none⟩) hltW).trans c1
   have HO1:=Lib.hid (own_only HO.out (Only.of_below (F:=fun _=>False) hb1 (Nat.le_refl _)) (fun _ _=>id))
   have HL1:=Lib.hid (own_only HL.out (Only.of_below (F:=fun _=>False) hb1 (Nat.le_refl _)) (fun _ _=>id))
   have hm1:w1.ownsMap (H:=Unit) Tryz.prog 9 (plainElem Tryz.prog 3) (w.heap.size) (0) (.map []):=by
    obtain⟨es,cl,hb,r⟩:=HM.out
    exact⟨es,cl,(hb1.block (w.heap.size) (Array.getElem?_eq_some_iff.1 hb).1).trans hb,r⟩
   have HGG1:=Lib.hid ((hb1.block g hltW).trans HGG.out)
   have hnn:(0) < maxLen:=by unfold maxLen;omega
   obtain⟨ca,cc,rfl⟩:∃ ca cc,cv=.slice ca s.code.length cc:=by
    rcases HO.out.2 with⟨rfl,hm0⟩ | ⟨g',cap,cur,rfl,_⟩
    ·exact⟨none,0,by rw [hm0]⟩
    ·exact⟨_,_,rfl⟩
   go_wp2_with fail
   go_still_tail 10,(by kernel_rfl)
   change wpList _ _ _ _ _ w1.drew
   refine wpList_mapUpdate_own _ rfl _ _ _ 93 rfl 9 3 lawS Tryz.underlying93 _ (w.heap.size) (0) (.map []) rfl hm1.drew hnn _ _ _ rfl rfl (_root_.Go.WideMaps.keyOf_string_mk Tryz.underlying9 hnm) _ [] (plainElem_int Tryz.underlying3 (WalkArith.wf_i64 (by omega))) ?_
   intro w2 hm2 hgr
   go_wp2_with fail
   go_end0
   obtain⟨hM,hS⟩:=mem_put HGG1.out HO1.out HL1.out hm1 HNP.out HD.out hfn.out HF.out hm2 ⟨hgr.os,hgr.tape,hgr.output,hgr.size,hgr.block⟩
   exact⟨rfl,_,⟨good_put s _ HG.out,hM⟩,(HS1.out).trans ((Step.of_below hb1 (Nat.le_refl _)).trans hS)⟩
theorem at_any(w:World)(g:Nat)(s:BS)(F:Nat→Prop)(h:Bld w g s F)(hn:s.code.length < 1000000)(hp:s.places.length < 1000000)(nm:ByteArray)(hnm:nm.size≤maxLen):
  Calls Tryz.prog 76 #[.pointer (some ⟨g,0,none⟩),.string nm] w (BPost w g F (s.at_ nm.data.toList)):=by
 obtain⟨hgood,cv,pv,lv,hg,hown,hlinks,hpl,hF⟩:=h
 rcases hpl with⟨rfl,hz⟩ | ⟨mb,n,D,rfl,hm,hnp,hd⟩
 ·exact at_none w g s F nm hnm cv lv (Lib.hid hgood) hn hz hg hown hlinks hF
 ·exact at_some w g mb n s F nm hnm cv lv D (Lib.hid hgood) hn hp (Lib.hid hg) (Lib.hid hown) (Lib.hid hlinks) (Lib.hid hm) (Lib.hid hnp) (Lib.hid hd) (Lib.hid hF)
end Go.Proofs.YtcnmhgblbikfkaaGreatDoor.As
end

section
set_option linter.unusedVariables false
namespace Go.Proofs.YtcnmhgblbikfkaaGreatDoor.As
open Go.RowKit

set_option maxRecDepth 100000 in
theorem places_look(w:World)(pv:Value)(s:BS)(hp:Places w pv s)(nm:ByteArray)(hnm:nm.size≤maxLen):
  (Instr.lookup 93 pv (.string nm) true).run Tryz.prog w=.ok (.tuple #[.int .i64 (((s.find nm.data.toList).getD 0:Nat):Int),.bool (s.find nm.data.toList).isSome]) w:=by
 have hkey:=_root_.Go.WideMaps.keyOf_string_mk Tryz.underlying9 hnm
 rcases hp with⟨rfl,h0⟩ | ⟨mb,n,D,rfl,hm,hn,hd⟩
 ·have e:s.find nm.data.toList=none:=by unfold BS.find;rw [h0];rfl
  rw [e,Maps.look_nil true lawS Tryz.underlying93 (zeroE w) hkey]
  rfl
 ·have hz:(plainElem (H:=Unit) Tryz.prog 3 (.int .i64 0))=some (.lit (.int .i64 0),[]):=plainElem_int Tryz.underlying3 (by decide)
  obtain⟨v,ps,hrun,hv⟩:=hm.look_ok lawS Tryz.underlying93 (zeroE w) hz hkey
  obtain⟨c,rfl,hc,hwc⟩:=plainElem_int_inv Tryz.underlying3 hv
  have hc2:=congrArg Prod.fst hc
  simp only at hc2
  rw [hrun]
  obtain⟨h1,h2⟩:=hd.2 nm.data.toList
  rw [h1]
  cases hf:s.find nm.data.toList with
  | some m=>
   rw [h2 m hf] at hc2
   injection hc2 with hc2
   injection hc2 with _ hc2
   rw [←hc2];rfl
  | none=>
   rw [hf] at h1
   rw [Maps.atKey_of_not_has h1] at hc2
   injection hc2 with hc2
   injection hc2 with _ hc2
   rw [←hc2];rfl
theorem bl_drewN{B:Nat}{a w:World}(h:Below B a w)(n:Nat):Below B a (w.drewN n):=⟨h.os,h.tape,h.output,h.size,h.block⟩
theorem places_drewN{w:World}{pv:Value}{s:BS}(hp:Places w pv s)(n:Nat):Places (w.drewN n) pv s:=places_kept hp fun _ _=>rfl

/-! ### Flat lists of cells -/
theorem flatMap_get{α:Type}(f:α→List Value)(n:Nat)(hf:∀ x,(f x).length=n):∀ (l:List α) (i:Nat) (x:α),l[i]? = some x→∀ j,j < n→(l.flatMap f)[i*n+j]? = (f x)[j]?
 | [],i,x,h,j,hj=>by simp at h
 | y::r,0,x,h,j,hj=>by
  have e:y=x:=by simpa using h
  subst e
  rw [List.flatMap_cons,Nat.zero_mul,Nat.zero_add,List.getElem?_append_left (by rw [hf];exact hj)]
 | y::r,i+1,x,h,j,hj=>by
  have e:r[i]? = some x:=by simpa using h
  rw [List.flatMap_cons,List.getElem?_append_right (by rw [hf,Nat.succ_mul];omega),hf,show (i+1)*n+j - n=i*n+j from by rw [Nat.succ_mul];omega]
  exact flatMap_get f n hf r i x e j hj
theorem flatMap_len{α:Type}(f:α→List Value)(n:Nat)(hf:∀ x,(f x).length=n):∀ (l:List α),(l.flatMap f).length=l.length*n
 | []=>by simp
 | y::r=>by rw [List.flatMap_cons,List.length_append,hf,flatMap_len f n hf r,List.length_cons,Nat.succ_mul];omega
theorem flat_get(l:List Ins)(i:Nat)(x:Ins)(h:l[i]? = some x)(j:Nat)(hj:j < 5):(flat l)[i*5+j]? = x.cells[j]? := flatMap_get Ins.cells 5 (fun _=>rfl) l i x h j hj
theorem flatL_get(l:List (Nat×B8))(i:Nat)(x:Nat×B8)(h:l[i]? = some x)(j:Nat)(hj:j < 2):(flatL l)[i*2+j]? = (linkCells x)[j]? := flatMap_get linkCells 2 (fun _=>rfl) l i x h j hj
theorem flat_len(l:List Ins):(flat l).length=l.length*5:=flatMap_len Ins.cells 5 (fun _=>rfl) l
theorem flat_setK:∀ (l:List Ins) (i:Nat) (x:Ins) (k:Int),l[i]? = some x→flat (l.set i { x with k:=k })=(flat l).set (i*5+4) (.int .u32 k)
 | [],i,x,k,h=>by simp at h
 | y::r,0,x,k,h=>by
  have e:y=x:=by simpa using h
  subst e
  rfl
 | y::r,i+1,x,k,h=>by
  have e:r[i]? = some x:=by simpa using h
  have ih:=flat_setK r i x k e
  show y.cells++flat (r.set i _)=(y.cells++flat r).set ((i+1)*5+4) _
  rw [ih,List.set_append,if_neg (by show ¬_ < 5;omega)]
  congr 2
  show i*5+4=(i+1)*5+4 - 5
  omega
theorem flat_one(l:List Ins):∀ u∈flat l,u.oneCell'=true:=by
 intro u hu
 obtain⟨i,_,hi⟩:=List.mem_flatMap.1 hu
 simp [Ins.cells] at hi
 rcases hi with rfl | rfl | rfl | rfl | rfl<;>rfl

def CodePost(w:World)(s:BS)(e:Ending)(w':World):Prop:=
 Below w.heap.size w w'∧((s.out=none∧e=.returned (.tuple #[.slice none 0 0,.bool false]))∨
  ∃ l v,s.out=some l∧e=.returned (.tuple #[v,.bool true])∧w'.ownsRow w.heap.size 132 5 v l.length (flat l))
theorem linkTo_none(s:BS)(i:Nat)(nm:B8)(r:List (Nat×B8))(out:List Ins)(h:s.find nm=none):s.linkTo ((i,nm)::r) out=none:=by
 unfold BS.linkTo;rw [h]
theorem linkTo_no(s:BS)(i:Nat)(nm:B8)(r:List (Nat×B8))(out:List Ins)(m:Nat)(x:Ins)(h:s.find nm=some m)(hx:out[i]? = some x)(hj:jumps x.op=false):s.linkTo ((i,nm)::r) out=none:=by
 unfold BS.linkTo;rw [h,hx];simp [hj]
theorem linkTo_yes(s:BS)(i:Nat)(nm:B8)(r:List (Nat×B8))(out:List Ins)(m:Nat)(x:Ins)(h:s.find nm=some m)(hx:out[i]? = some x)(hj:jumps x.op=true):s.linkTo ((i,nm)::r) out=s.linkTo r (out.set i { x with k:=(m:Int) }):=by
 rw [BS.linkTo,h,hx];simp [hj]
theorem out_none(s:BS)(h:s.linkTo s.links s.code=none):s.out=none:=by unfold BS.out;rw [h];split<;>rfl
theorem out_bad(s:BS)(h:s.bad=true):s.out=none:=by unfold BS.out;rw [if_pos h];cases s.linkTo s.links s.code<;>rfl
theorem out_some(s:BS)(l:List Ins)(h:s.linkTo s.links s.code=some l)(hb:s.bad=false):s.out=some l:=by unfold BS.out;rw [if_neg (by simp [hb]),h]

set_option maxRecDepth 100000 in
set_option maxHeartbeats 2000000 in
theorem code_any(w:World)(g:Nat)(s:BS)(F:Nat→Prop)(h:Bld w g s F)(T:TabI w)(hn:s.code.length < 1000000)(hnm:∀ p∈s.links,p.2.length≤maxLen):
  Calls Tryz.prog 42 #[.pointer (some ⟨g,0,none⟩)] w (CodePost w s):=by
 obtain⟨hgood,cv,pv,lv,hg,hown,hlinks,hpl,hF⟩:=h
 have c0:=cell_of_row w g 0 _ _ _ hg
 have c1:=cell_of_row w g 1 _ _ _ hg
 have c2:=cell_of_row w g 2 _ _ _ hg
 have c3:=cell_of_row w g 3 _ _ _ hg
 simp at c0 c1 c2 c3
 have hlt:g < w.heap.size:=(Array.getElem?_eq_some_iff.1 hg).1
 have HL:=Lib.hid (Rd.of_own hlinks)
 have HPL:=Lib.hid hpl
 have HG:=Lib.hid hgood
 have HNM:=Lib.hid hnm
 have HO:=Lib.hid (Rd.of_own hown)
 have hll:=hgood.links
 have HT:=Lib.hid T
 clear hlinks hpl hF hgood T hown hg hnm
 go_enter Tryz.func42,Tryz.ntmps42
 go_wp2_with fail
 refine (clone_any _ cv _ _ HO.out (by omega) (flat_one _)).mono ?_;rintro e w1 ⟨ov,rfl,ho,hb1⟩
 obtain⟨oA,oc,rfl⟩:=(Rd.of_own ho).form
 obtain⟨lA,lc,rfl⟩:=HL.out.form
 have k2:=(hb1.cell (p:=⟨g,2,none⟩) hlt).trans c2
 have HO1:=Lib.hid ho
 have HB1:=Lib.hid hb1
 clear ho hb1
 go_wp2_with fail
 go_loopw [19] (fun i wr=>∃ k:Nat,∃ cur:List Ins,k≤s.links.length∧i=.int .i64 k∧Hid (cur.length=s.code.length)∧Hid (s.linkTo s.links s.code=s.linkTo (s.links.drop k) cur)∧Hid (wr.ownsRow w.heap.size 132 5 (.slice oA s.code.length oc) s.code.length (flat cur))∧Hid (Below w.heap.size w wr)) (fun i _=>s.links.length - (intOf i).toNat)
 case atStart=>exact⟨0,s.code,by omega,rfl,rfl,rfl,HO1,HB1⟩
 case round=>
  obtain⟨k,cur,hk,rfl,HCL,HEQ,HOW,HB⟩:=hrel
  by_cases hlt2:k < s.links.length
  ·obtain⟨lb,lo,rfl,hlb,hlc⟩:=HL.out.cells (by omega)
   obtain⟨i,nm,hi⟩:∃ i nm,s.links[k]? = some (i,nm):=⟨_,_,List.getElem?_eq_getElem hlt2⟩
   have l0:wr.cell? ⟨lb,lo+k*2,none⟩=some (.int .i64 i):=(HB.out.cell (p:=⟨lb,lo+k*2,none⟩) hlb).trans (hlc (k*2+0) _ (by rw [flatL_get _ _ _ hi 0 (by omega)];rfl))
   have l1:wr.cell? ⟨lb,lo+k*2+1,none⟩=some (.string ⟨nm.toArray⟩):=(HB.out.cell (p:=⟨lb,lo+k*2+1,none⟩) hlb).trans (hlc (k*2+1) _ (by rw [flatL_get _ _ _ hi 1 (by omega)];rfl))
   have hmem:=List.mem_of_getElem? hi
   have hic:=HG.out.at_ _ hmem
   have hnl:nm.length≤maxLen:=HNM.out _ hmem
   have HDR:=Lib.hid (show s.links.drop k=(i,nm)::s.links.drop (k+1) by
    rw [List.drop_eq_getElem_cons hlt2]
    congr 1
    rw [List.getElem?_eq_getElem hlt2] at hi
    injection hi)
   clear hi hlc hmem
   have k1:=(HB.out.cell (p:=⟨g,1,none⟩) hlt).trans c1
   have hgw:g < wr.heap.size:=Nat.lt_of_lt_of_le hlt HB.out.size
   have hlk:∀ n,(Instr.lookup 93 pv (.string ⟨nm.toArray⟩) true).run Tryz.prog ((wr.alloc (.cells #[.int .i64 i,.string ⟨nm.toArray⟩] 165)).drewN n)=.ok (.tuple #[.int .i64 (((s.find nm).getD 0:Nat):Int),.bool (s.find nm).isSome]) ((wr.alloc (.cells #[.int .i64 i,.string ⟨nm.toArray⟩] 165)).drewN n):=by
    intro n
    have hp:Places ((wr.alloc (.cells #[.int .i64 i,.string ⟨nm.toArray⟩] 165)).drewN n) pv s:=places_drewN (places_kept HPL.out fun mb e=>by
     obtain⟨es,cl,hm⟩:=map_ne HPL.out e
     have hmb:=(Array.getElem?_eq_some_iff.1 hm).1
     rw [Below.heap_alloc _ _ _ (Nat.lt_of_lt_of_le hmb HB.out.size)]
     exact HB.out.block mb hmb) n
    have:=places_look _ pv s hp ⟨nm.toArray⟩ (by show nm.toArray.size≤_;simpa using hnl)
    simpa using this
   cases hf:s.find nm with
   | none=>
    rw [hf] at hlk
    simp only [Option.isSome,Option.getD] at hlk
    have HF:=Lib.hid hf
    clear hf
    go_wp2_with fail
    go_quiet (fail)
    go_wp2_with fail
    go_ret2
    have HQ:=HEQ.out
    rw [HDR.out,linkTo_none s i nm _ _ HF.out] at HQ
    exact⟨HB.out.trans (((Below.refl _ _).alloc HB.out.size _).trans ⟨rfl,rfl,rfl,Nat.le_refl _,fun _ _=>rfl⟩),.inl ⟨out_none s HQ,rfl⟩⟩
   | some m=>
    rw [hf] at hlk
    simp only [Option.isSome,Option.getD] at hlk
    have hm:=find_le HG.out hf
    have HF:=Lib.hid hf
    clear hf
    obtain⟨x,hx⟩:∃ x,cur[i]? = some x:=⟨_,List.getElem?_eq_getElem (by rw [HCL.out];exact hic)⟩
    have HX:=Lib.hid hx
    obtain⟨ob,oc2,heq,hob,hob2⟩:=HOW.out.form (by omega:0 < s.code.length)
    injection heq with heq1 _ heq3
    subst heq1
    subst heq3
    have x0:wr.cell? ⟨ob,i*5,none⟩=some (.int .i64 x.op):=by
     rw [HOW.out.cellAt _ (by omega)]
     exact (flat_get cur i x hx 0 (by omega)).trans rfl
    have x4:wr.cell? ⟨ob,i*5+4,none⟩=some (.int .u32 x.k):=by
     rw [HOW.out.cellAt _ (by omega)]
     exact (flat_get cur i x hx 4 (by omega)).trans rfl
    have z4:wr.frozen? ⟨ob,i*5+4,none⟩=false:=HOW.out.frozenAt _
    clear hx
    have HTQ:∀ nq,Hid (TabI ((wr.alloc (.cells #[.int .i64 i,.string ⟨nm.toArray⟩] 165)).drewN nq)):=fun nq=>HT.out.below (HB.out.trans (((Below.refl _ _).alloc HB.out.size _).trans ⟨rfl,rfl,rfl,Nat.le_refl _,fun _ _=>rfl⟩)) (Nat.le_refl _)
    cases hj:jumps x.op with
    | false=>
     have HJ:=Lib.hid hj
     clear hj
     go_wp2_with fail
     go_quiet (fail)
     go_wp2_with fail
     refine (jumps_any _ _ (HTQ _).out).mono ?_;rintro e w' ⟨rfl,rfl⟩
     rw [HJ.out]
     go_wp2_with fail
     go_ret2
     have HQ:=HEQ.out
     rw [HDR.out,linkTo_no s i nm _ _ m x HF.out HX.out HJ.out] at HQ
     exact⟨HB.out.trans (((Below.refl _ _).alloc HB.out.size _).trans ⟨rfl,rfl,rfl,Nat.le_refl _,fun _ _=>rfl⟩),.inl ⟨out_none s HQ,rfl⟩⟩
    | true=>
     have HJ:=Lib.hid hj
     clear hj
     go_wp2_with fail
     go_quiet (fail)
     go_wp2_with fail
     refine (jumps_any _ _ (HTQ _).out).mono ?_;rintro e w' ⟨rfl,rfl⟩
     rw [HJ.out]
     go_wp2_with fail
     have HQ:=HEQ.out
     rw [HDR.out,linkTo_yes s i nm _ _ m x HF.out HX.out HJ.out] at HQ
     have hst:=(HOW.out.alloc (.cells #[.int .i64 i,.string ⟨nm.toArray⟩] 165)).stored (i*5+4) (.int .u32 m)
     refine⟨⟨k+1,cur.set i { x with k:=(m:Int) },by omega,rfl,?_,HQ,?_,?_⟩,by simp [intOf];omega⟩
     ·show (cur.set i _).length=_
      rw [List.length_set];exact HCL.out
     ·show World.ownsRow _ _ _ _ _ _ _
      rw [flat_setK cur i x m HX.out]
      exact hst.1
     ·exact (bl_drewN (HB.out.alloc HB.out.size _) nq).setCell (p:=⟨ob,i*5+4,none⟩) hob _
  ·have hkk:k=s.links.length:=by omega
   have HQ:=HEQ.out
   rw [hkk,List.drop_length] at HQ
   have HQ2:=Lib.hid HQ
   clear HQ hkk
   have k3:=(HB.out.cell (p:=⟨g,3,none⟩) hlt).trans c3
   cases hbad:s.bad with
   | true=>
    rw [hbad] at k3
    have HBAD:=Lib.hid hbad
    clear hbad
    go_wp2_with fail
    go_ret2
    exact⟨HB.out,.inl ⟨out_bad s HBAD.out,rfl⟩⟩
   | false=>
    rw [hbad] at k3
    have HBAD:=Lib.hid hbad
    clear hbad
    go_wp2_with fail
    go_ret2
    refine⟨HB.out,.inr ⟨cur,_,out_some s cur HQ2.out HBAD.out,rfl,?_⟩⟩
    rw [HCL.out]
    exact HOW.out
end Go.Proofs.YtcnmhgblbikfkaaGreatDoor.As
end

