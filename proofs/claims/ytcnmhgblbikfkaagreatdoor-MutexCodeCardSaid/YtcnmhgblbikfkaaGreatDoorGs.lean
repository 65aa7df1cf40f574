/- Plain Lean: what trace.calls gathers; a row of calls in memory. The walk of trace.Of: a thread's events handed out one by one. A law on regions that only read,inside a round of a loop too. No program in sight. -/
import Derived.Test.YtcnmhgblbikfkaaGreatDoorGc
import Derived.Laws.OwnMore
import Derived.Laws.AppendOwn
import Derived.RangeFuncBox
import Derived.RangeFuncNested
import Derived.RangeFuncBound
import Derived.RangeFuncCalls
import Derived.RangeFuncLeaves
import Derived.Shelf.Abstract
import Derived.Shelf.RegionOpen
import Derived.WalkKit
import Derived.OwnWalkIn
import Derived.TacticsInMore
import Derived.LoopNIn
import Derived.LoopIn
import Derived.Maps.AppendAt
import Derived.Sort.QuietTacIn
import Derived.OrdersIn
import Derived.OrdersHeld
section
set_option linter.unusedVariables false
set_option linter.unusedSimpArgs false
namespace Go.Proofs.YtcnmhgblbikfkaaGreatDoor.As
open Go.RowKit

structure Cl where
 site:Int
 who:Int
 began:Int
 ended:Int
 res:Int
 inner:List Int
def Cl.cells(c:Cl)(v:Value):List Value:=[.int .i64 c.site,.int .i64 c.who,.int .i64 c.began,.int .i64 c.ended,.int .u32 c.res,v]
def callS(t:Int)(s:List Cl×Bool)(x:Nat×Ev):List Cl×Bool:=
 if x.2.kind≠7 then
  (if s.2=true∧x.2.kind≠3 then
   match s.1.getLast? with
   | some c=>(s.1.dropLast++[{ c with inner:=c.inner++[(x.1:Int)] }],s.2)
   | none=>s
  else s)
 else if x.2.k.tmod 2=0 then (s.1++[⟨x.2.k.tdiv 2 % 4294967296,t,x.1,-1,0,[]⟩],true)
 else if s.2=true then
  match s.1.getLast? with
  | some c=>if c.site=x.2.k.tdiv 2 % 4294967296 then (s.1.dropLast++[{ c with ended:=x.1,res:=x.2.val }],false) else s
  | none=>s
 else s
def callsF(t:Int)(l:List (Nat×Ev)):List Cl×Bool:=l.foldl (callS t) ([],false)
theorem callsF_snoc(t:Int)(l:List (Nat×Ev))(x:Nat×Ev):callsF t (l++[x])=callS t (callsF t l) x:=by
 unfold callsF
 rw [List.foldl_append];rfl
theorem snoc_ind{α:Type}{P:List α→Prop}(h0:P [])(h1:∀ l x,P l→P (l++[x]))(l:List α):P l:=by
 rw [←List.reverse_reverse l]
 induction l.reverse with
 | nil=>exact h0
 | cons a r ih=>rw [List.reverse_cons];exact h1 _ _ ih
theorem last_form{α:Type}{l:List α}(h:l≠[]):∃ l0 c,l=l0++[c]:=by
 refine⟨l.dropLast,l.getLast h,?_⟩
 rw [List.dropLast_concat_getLast h]
theorem callS_len(t:Int)(s:List Cl×Bool)(x:Nat×Ev):(callS t s x).1.length≤s.1.length+1:=by
 unfold callS
 have hd:∀ (l:List Cl) c c',l.getLast? = some c→(l.dropLast++[c']).length=l.length:=fun l c c' h=>by
  have:l≠[]:=by intro e;subst e;cases h
  obtain⟨l0,d,rfl⟩:=last_form this
  simp
 split
 ·split
  ·split
   ·rename_i c hc;dsimp only;rw [hd _ _ _ hc];omega
   ·omega
  ·omega
 ·split
  ·simp
  ·split
   ·split
    ·split
     ·rename_i c hc _;dsimp only;rw [hd _ _ _ hc];omega
     ·omega
    ·omega
   ·omega
theorem callsF_len(t:Int)(l:List (Nat×Ev)):(callsF t l).1.length≤l.length:=by
 refine snoc_ind (P:=fun l=>(callsF t l).1.length≤l.length) (Nat.le_refl _) (fun l x ih=>?_) l
 rw [callsF_snoc]
 have:=callS_len t (callsF t l) x
 simp
 omega
theorem callsF_open(t:Int)(l:List (Nat×Ev)):(callsF t l).2=true→(callsF t l).1≠[]:=by
 refine snoc_ind (P:=fun l=>(callsF t l).2=true→(callsF t l).1≠[]) (fun h=>by cases h) (fun l x ih=>?_) l
 rw [callsF_snoc]
 unfold callS
 split
 ·split
  ·split
   ·intro _;simp
   ·exact ih
  ·exact ih
 ·split
  ·intro _;simp
  ·split
   ·split
    ·split
     ·intro _;simp
     ·exact ih
    ·exact ih
   ·exact ih
theorem callS_inner(t:Int)(s:List Cl×Bool)(x:Nat×Ev)(n:Nat)(h:∀ c∈s.1,c.inner.length≤n):∀ c∈(callS t s x).1,c.inner.length≤n+1:=by
 have hd:∀ (l:List Cl) c,l.getLast? = some c→c∈l∧∀ d∈l.dropLast,d∈l:=fun l c h=>⟨List.mem_of_getLast? h,fun d hd=>List.dropLast_subset l hd⟩
 have h':∀ c∈s.1,c.inner.length≤n+1:=fun c hc=>Nat.le_succ_of_le (h c hc)
 unfold callS
 split
 ·split
  ·split
   ·rename_i c hc
    intro d hm
    rcases List.mem_append.1 hm with hm | hm
    ·exact h' d ((hd _ _ hc).2 d hm)
    ·rw [List.mem_singleton.1 hm]
     have:=h c (hd _ _ hc).1
     simp;omega
   ·exact h'
  ·exact h'
 ·split
  ·intro d hm
   rcases List.mem_append.1 hm with hm | hm
   ·exact h' d hm
   ·rw [List.mem_singleton.1 hm];exact Nat.zero_le _
  ·split
   ·split
    ·split
     ·rename_i c hc _
      intro d hm
      rcases List.mem_append.1 hm with hm | hm
      ·exact h' d ((hd _ _ hc).2 d hm)
      ·rw [List.mem_singleton.1 hm];exact h' c (hd _ _ hc).1
     ·exact h'
    ·exact h'
   ·exact h'
theorem callsF_inner(t:Int)(l:List (Nat×Ev)):∀ c∈(callsF t l).1,c.inner.length≤l.length:=by
 refine snoc_ind (P:=fun l=>∀ c∈(callsF t l).1,c.inner.length≤l.length) (fun c hc=>by cases hc) (fun l x ih=>?_) l
 rw [callsF_snoc,List.length_append]
 exact callS_inner t _ x _ ih
/-! ### In memory -/
def flatC:List Cl→List Value→List Value
 | c::l,v::vs=>c.cells v++flatC l vs
 | _,_=>[]
theorem flatC_snoc(c:Cl)(u:Value):∀ (l:List Cl) (vs:List Value),vs.length=l.length→flatC (l++[c]) (vs++[u])=flatC l vs++c.cells u
 | [],[],_=>rfl
 | [],_::_,h=>by cases h
 | _::_,[],h=>by cases h
 | d::l,v::vs,h=>by
  show d.cells v++flatC (l++[c]) (vs++[u])=(d.cells v++flatC l vs)++c.cells u
  rw [flatC_snoc c u l vs (by simpa using h),List.append_assoc]
theorem flatC_len:∀ (l:List Cl) (vs:List Value),vs.length=l.length→(flatC l vs).length=l.length*6
 | [],[],_=>rfl
 | [],_::_,h=>by cases h
 | _::_,[],h=>by cases h
 | d::l,v::vs,h=>by
  show (d.cells v++flatC l vs).length=_
  rw [List.length_append,flatC_len l vs (by simpa using h)]
  simp [Cl.cells];omega
structure OutC(B:Nat)(W:World)(v:Value)(l:List Cl)(vs:List Value):Prop where
 len:vs.length=l.length
 row:W.ownsRow B 61 6 v l.length (flatC l vs)
 inn:∀ (i:Nat) (c:Cl) (u:Value),l[i]? = some c→vs[i]? = some u→W.ownsRow B 3 1 u c.inner.length (c.inner.map (Value.int .i64))
 dis:∀ (i j:Nat) (u u':Value) (b:Nat),i≠j→vs[i]? = some u→vs[j]? = some u'→u.ownBlock=some b→u'.ownBlock≠some b
section
variable{B:Nat}{W w1:World}{v v' u u':Value}{l:List Cl}{vs:List Value}{c:Cl}
theorem row_types{e e':TypeId}{s s' n n' b:Nat}{xs xs':List Value}(h:W.ownsRow B e s v n xs)(h':W.ownsRow B e' s' v' n' xs')(hne:e≠e')(hb:v.ownBlock=some b):v'.ownBlock≠some b:=by
 rcases h.2 with⟨rfl,_⟩ | ⟨g,cap,cur,rfl,_,hg,_⟩
 ·simp [Value.ownBlock] at hb
 ·rcases h'.2 with⟨rfl,_⟩ | ⟨g',cap',cur',rfl,_,hg',_⟩
  ·simp [Value.ownBlock]
  ·simp only [Value.ownBlock,Option.some.injEq,ne_eq] at hb ⊢
   intro e2
   subst e2 hb
   rw [hg] at hg'
   injection hg' with hg'
   injection hg' with _ q _
   exact hne q
theorem OutC.nil(B:Nat)(W:World):OutC B W (.slice none 0 0) [] []:=⟨rfl,World.ownsRow_nil _ _ _ _,fun _ _ _ h=>by simp at h,fun _ _ _ _ _ _ h=>by simp at h⟩
theorem OutC.kept{row:Option Nat}(h:OutC B W v l vs)(hg:W.grownBy w1 row)(h1:v.ownBlock=none∨v.ownBlock≠row)(h2:∀ (i:Nat) (u:Value),vs[i]? = some u→u.ownBlock=none∨u.ownBlock≠row):OutC B w1 v l vs:=
 ⟨h.len,h.row.kept hg h1,fun i c u hc hu=>(h.inn i c u hc hu).kept hg (h2 i u hu),h.dis⟩
theorem OutC.inn_at(h:OutC B W v l vs){i:Nat}(hu:vs[i]? = some u):∃ c,l[i]? = some c∧W.ownsRow B 3 1 u c.inner.length (c.inner.map (Value.int .i64)):=by
 have hi:i < l.length:=by rw [←h.len];exact (List.getElem?_eq_some_iff.1 hu).1
 exact⟨_,List.getElem?_eq_getElem hi,h.inn i _ u (List.getElem?_eq_getElem hi) hu⟩
theorem OutC.off(h:OutC B W v l vs){i:Nat}(hu:vs[i]? = some u):u.ownBlock=none∨u.ownBlock≠v.ownBlock:=by
 obtain⟨c,_,hr⟩:=h.inn_at hu
 cases e:v.ownBlock with
 | none=>
  cases e2:u.ownBlock with
  | none=>exact .inl rfl
  | some b=>exact .inr (by simp)
 | some b=>exact .inr (row_types h.row hr (by decide) e)
theorem OutC.snoc(h:OutC B W v l vs)(hc:c.inner=[])(hr:w1.ownsRow B 61 6 v' (l.length+1) (flatC l vs++c.cells (.slice none 0 0)))(hg:W.grownBy w1 v.ownBlock):OutC B w1 v' (l++[c]) (vs++[.slice none 0 0]):=by
 refine⟨by simp [h.len],?_,fun i d u hd hu=>?_,fun i j u u' b hij hu hu' hb=>?_⟩
 ·rw [flatC_snoc _ _ _ _ h.len,List.length_append];exact hr
 ·by_cases e:i < l.length
  ·rw [List.getElem?_append_left e] at hd
   rw [List.getElem?_append_left (by rw [h.len];exact e)] at hu
   exact (h.inn i d u hd hu).kept hg (h.off hu)
  ·have e2:i=l.length:=by
    have:=(List.getElem?_eq_some_iff.1 hd).1
    simp at this;omega
   subst e2
   rw [List.getElem?_append_right (Nat.le_refl _)] at hd
   rw [List.getElem?_append_right (by rw [h.len];exact Nat.le_refl _),h.len] at hu
   simp at hd hu
   subst hd hu
   rw [hc]
   exact World.ownsRow_nil _ _ _ _
 ·by_cases e:i < vs.length
  ·rw [List.getElem?_append_left e] at hu
   by_cases e':j < vs.length
   ·rw [List.getElem?_append_left e'] at hu'
    exact h.dis i j u u' b hij hu hu' hb
   ·rw [List.getElem?_append_right (by omega)] at hu'
    have:u'=.slice none 0 0:=by
     cases hk:j - vs.length with
     | zero=>rw [hk] at hu';simpa using hu'.symm
     | succ k=>rw [hk] at hu';simp at hu'
    subst this
    simp [Value.ownBlock]
  ·rw [List.getElem?_append_right (by omega)] at hu
   have:u=.slice none 0 0:=by
    cases hk:i - vs.length with
    | zero=>rw [hk] at hu;simpa using hu.symm
    | succ k=>rw [hk] at hu;simp at hu
   subst this
   simp [Value.ownBlock] at hb
theorem OutC.last(h:OutC B W v (l++[c]) vs):∃ vs0 u g cap,vs=vs0++[u]∧vs0.length=l.length∧v=.slice (some ⟨g,0,none⟩) (l.length+1) cap∧(∀ j x,(c.cells u)[j]? = some x→W.cell? ⟨g,l.length*6+j,none⟩=some x)∧(∀ j,W.frozen? ⟨g,j,none⟩=false)∧W.ownsRow B 3 1 u c.inner.length (c.inner.map (Value.int .i64))∧B≤g:=by
 have hl:=h.len
 have hne:vs≠[]:=by intro e;subst e;simp at hl
 obtain⟨vs0,u,rfl⟩:=last_form hne
 have hl0:vs0.length=l.length:=by simpa using hl
 have hr:=h.row
 rw [List.length_append] at hr
 obtain⟨g,cap,rfl⟩:=ownsRow_succ hr
 refine⟨vs0,u,g,cap,rfl,hl0,rfl,fun j x hj=>?_,fun j=>hr.frozenAt j,h.inn l.length c u (by simp) (by rw [←hl0];simp),(hr.lt g rfl).1⟩
 have hj6:j < 6:=(List.getElem?_eq_some_iff.1 hj).1
 have hx:=hr.cellAt (l.length*6+j) (by show _ < (l.length+1)*6;omega)
 rw [hx,flatC_snoc _ _ _ _ hl0,List.getElem?_append_right (by rw [flatC_len _ _ hl0];omega),flatC_len _ _ hl0]
 rw [show l.length*6+j - l.length*6=j by omega]
 exact hj
theorem set_last{g cap:Nat}(h:W.ownsRow B 61 6 (.slice (some ⟨g,0,none⟩) (l.length+1) cap) (l.length+1) (flatC l vs++c.cells u))(hl:vs.length=l.length)(j:Nat)(x:Value){c':Cl}(hc:(c.cells u).set j x=c'.cells u'):
  (W.setCell ⟨g,l.length*6+j,none⟩ x).ownsRow B 61 6 (.slice (some ⟨g,0,none⟩) (l.length+1) cap) (l.length+1) (flatC l vs++c'.cells u')∧W.grownBy (W.setCell ⟨g,l.length*6+j,none⟩ x) (some g):=by
 have hs:=h.stored (l.length*6+j) x
 refine⟨?_,hs.2⟩
 have e:(flatC l vs++c.cells u).set (l.length*6+j) x=flatC l vs++c'.cells u':=by
  rw [List.set_append_right _ _ (by rw [flatC_len _ _ hl];omega),flatC_len _ _ hl,show l.length*6+j - l.length*6=j by omega,hc]
 rw [←e]
 exact hs.1
theorem OutC.set{g cap:Nat}{vs0:List Value}(h:OutC B W (.slice (some ⟨g,0,none⟩) (l.length+1) cap) (l++[c]) (vs0++[u]))(hl0:vs0.length=l.length)(j:Nat)(x:Value){c':Cl}(hc:(c.cells u).set j x=c'.cells u)(hi:c'.inner=c.inner):
  OutC B (W.setCell ⟨g,l.length*6+j,none⟩ x) (.slice (some ⟨g,0,none⟩) (l.length+1) cap) (l++[c']) (vs0++[u]):=by
 have hr:=h.row
 rw [flatC_snoc _ _ _ _ hl0,List.length_append] at hr
 obtain⟨h1,h2⟩:=set_last hr hl0 j x hc
 refine⟨by simp [hl0],by rw [flatC_snoc _ _ _ _ hl0,List.length_append];exact h1,fun i d z hd hz=>?_,h.dis⟩
 have hoff:=h.off hz
 have hb:(Value.slice (some ⟨g,0,none⟩) (l.length+1) cap).ownBlock=some g:=rfl
 rw [hb] at hoff
 by_cases e:i < l.length
 ·rw [List.getElem?_append_left e] at hd
  exact (h.inn i d z (by rw [List.getElem?_append_left e];exact hd) hz).kept h2 hoff
 ·have e2:i=l.length:=by
   have:=(List.getElem?_eq_some_iff.1 hd).1
   simp at this;omega
  subst e2
  simp at hd
  subst hd
  rw [hi]
  exact (h.inn l.length c z (by simp) hz).kept h2 hoff
theorem OutC.more{g cap:Nat}{vs0:List Value}{i:Int}(h:OutC B W (.slice (some ⟨g,0,none⟩) (l.length+1) cap) (l++[c]) (vs0++[u]))(hl0:vs0.length=l.length)(hr:w1.ownsRow B 3 1 u' (c.inner.length+1) (c.inner.map (Value.int .i64)++[.int .i64 i]))(hg:W.grownBy w1 u.ownBlock)(hb:u'.ownBlock=u.ownBlock∨∃ k,W.heap.size≤k∧u'.ownBlock=some k):
  OutC B (w1.setCell ⟨g,l.length*6+5,none⟩ u') (.slice (some ⟨g,0,none⟩) (l.length+1) cap) (l++[{ c with inner:=c.inner++[i] }]) (vs0++[u']):=by
 have hul:(vs0++[u])[l.length]? = some u:=by rw [←hl0];simp
 have hoff:=h.off hul
 have hgb:(Value.slice (some ⟨g,0,none⟩) (l.length+1) cap).ownBlock=some g:=rfl
 have hrow:=h.row
 rw [flatC_snoc _ _ _ _ hl0,List.length_append] at hrow
 have hrow1:w1.ownsRow B 61 6 (.slice (some ⟨g,0,none⟩) (l.length+1) cap) (l.length+1) (flatC l vs0++c.cells u):=by
  refine hrow.kept hg ?_
  rw [hgb] at hoff ⊢
  rcases hoff with e | e
  ·right;rw [e];simp
  ·right;exact fun e2=>e e2.symm
 obtain⟨h1,h2⟩:=set_last hrow1 hl0 5 u' (c':={ c with inner:=c.inner++[i] }) (u':=u') rfl
 have hu'g:u'.ownBlock≠some g:=row_types hrow1 hr (by decide) rfl
 have key:∀ z:Value,∀ k,k < l.length→(vs0++[u])[k]? = some z→z.ownBlock=none∨(z.ownBlock≠u.ownBlock∧∀ b,u'.ownBlock=some b→z.ownBlock≠some b):=fun z k hk hz=>by
  cases hz0:z.ownBlock with
  | none=>exact .inl rfl
  | some b=>
   right
   obtain⟨d,hd,hdr⟩:=h.inn_at hz
   have hlt:=(hdr.lt b hz0).2
   have hub:u.ownBlock≠some b:=h.dis k l.length z u b (by omega) hz hul hz0
   refine⟨fun e=>hub e.symm,fun b' hb' e=>?_⟩
   injection e with e;subst e
   rcases hb with e2 | ⟨k2,hk2,e2⟩
   ·rw [hb'] at e2;exact hub e2.symm
   ·rw [hb'] at e2;injection e2 with e2;omega
 refine⟨by simp [hl0],by rw [flatC_snoc _ _ _ _ hl0,List.length_append];exact h1,fun k d z hd hz=>?_,fun k k' z z' b hkk hz hz' hzb=>?_⟩
 ·by_cases e:k < l.length
  ·rw [List.getElem?_append_left e] at hd
   rw [List.getElem?_append_left (by omega)] at hz
   have hz1:(vs0++[u])[k]? = some z:=by rw [List.getElem?_append_left (by omega)];exact hz
   have ho:=h.off hz1
   rw [hgb] at ho
   refine ((h.inn k d z (by rw [List.getElem?_append_left e];exact hd) hz1).kept hg ?_).kept h2 ho
   rcases key z k e hz1 with e1 | e1
   ·exact .inl e1
   ·exact .inr e1.1
  ·have e2:k=l.length:=by
    have:=(List.getElem?_eq_some_iff.1 hd).1
    simp at this;omega
   subst e2
   rw [←hl0] at hz
   simp at hd hz
   subst hd hz
   have:=hr.kept h2 (.inr hu'g)
   simpa using this
 ·have split:∀ {k:Nat} {z:Value},(vs0++[u'])[k]? = some z→(k < l.length∧(vs0++[u])[k]? = some z)∨(k=l.length∧z=u'):=fun {k z} hz=>by
   by_cases e:k < l.length
   ·rw [List.getElem?_append_left (by omega)] at hz
    exact .inl ⟨e,by rw [List.getElem?_append_left (by omega)];exact hz⟩
   ·have:=(List.getElem?_eq_some_iff.1 hz).1
    have e2:k=vs0.length:=by simp at this;omega
    subst e2
    simp at hz
    exact .inr ⟨hl0,hz.symm⟩
  rcases split hz with⟨k1,hz1⟩ | ⟨k1,rfl⟩<;>rcases split hz' with⟨k2,hz2⟩ | ⟨k2,rfl⟩
  ·exact h.dis k k' z z' b hkk hz1 hz2 hzb
  ·rcases key z k k1 hz1 with e | e
   ·rw [e] at hzb;cases hzb
   ·exact fun e2=>e.2 b e2 hzb
  ·rcases key z' k' k2 hz2 with e | e
   ·rw [e];simp
   ·exact e.2 b hzb
  ·omega
end
end Go.Proofs.YtcnmhgblbikfkaaGreatDoor.As
end

section
set_option linter.unusedVariables false
set_option linter.unusedSimpArgs false
namespace Go.Proofs.YtcnmhgblbikfkaaGreatDoor.As
open Go.RowKit Go.Shelf
attribute [local go_sem] Oper.semAt_some

def ofI(l:List Ev)(t:Int)(k:Nat):List (Nat×Ev):=(List.range k).filterMap fun j=>match l[j]? with | none=>none | some e=>if e.who=t then some (j,e) else none
theorem ofI_succ(l:List Ev)(t:Int)(k:Nat)(e:Ev)(h:l[k]? = some e):ofI l t (k+1)=ofI l t k++(if e.who=t then [(k,e)] else []):=by
 unfold ofI
 rw [List.range_succ,List.filterMap_append]
 congr 1
 by_cases c:e.who=t<;>simp [h,c]
theorem ofI_len(l:List Ev)(t:Int)(k:Nat):(ofI l t k).length≤k:=by
 unfold ofI
 exact Nat.le_trans (List.length_filterMap_le _ _) (by simp)
theorem flatE_at{l:List Ev}{k:Nat}{e:Ev}(h:l[k]? = some e)(j:Nat)(u:Value)(hu:e.cells[j]? = some u):(flatE l)[k*8+j]? = some u:=by
 induction l generalizing k with
 | nil=>cases h
 | cons x l ih=>
  have hx:x.cells.length=8:=rfl
  have hj:j < 8:=by have:=(List.getElem?_eq_some_iff.1 hu).1;exact this
  rw [show flatE (x::l)=x.cells++flatE l from rfl]
  cases k with
  | zero=>
   injection h with h;subst h
   rw [Nat.zero_mul,Nat.zero_add,List.getElem?_append_left (by omega)];exact hu
  | succ k=>
   rw [List.getElem?_append_right (by omega),show (k+1)*8+j - x.cells.length=k*8+j by omega]
   exact ih h
def KpT(n₀ Bt:Nat)(W W':World):Prop:=Below n₀ W W'∧W'.heap[Bt]? = W.heap[Bt]?
theorem KpT.trans{n₀ Bt:Nat}{A B C:World}(h:KpT n₀ Bt A B)(g:KpT n₀ Bt B C):KpT n₀ Bt A C:=⟨h.1.trans g.1,g.2.trans h.2⟩
theorem KpT.cell{n₀ Bt:Nat}{W W':World}(h:KpT n₀ Bt W W'){v:Value}(hc:W.cell? ⟨Bt,0,none⟩=some v):W'.cell? ⟨Bt,0,none⟩=some v:=(World.cell?_of_block (w:=W) (a:=⟨Bt,0,none⟩) h.2).trans hc
theorem KpT.alloc{n₀ Bt:Nat}{W:World}(h:n₀≤W.heap.size)(hb:Bt < W.heap.size)(X:Obj):KpT n₀ Bt W (W.alloc X):=⟨(Below.refl n₀ W).alloc h X,Below.heap_alloc _ _ _ hb⟩
theorem kpT_b{n₀ Bt:Nat}{w:World}(hn:n₀≤w.heap.size)(hb:Bt < w.heap.size):∀ (W:World) (l:Nat) (o o':Obj),w.heap.size≤l→W.heap[l]? = some o→o.isCells=false→o.isWalk=false→KpT n₀ Bt W (W.putObj l o'):=fun W l o o' h1 h2 h3 h4=>
 ⟨belowK_b hn W l o o' h1 h2 h3 h4,by
  have:=belowK_b (n₀:=Bt+1) (w:=w) (by omega) W l o o' h1 h2 h3 h4
  exact this.block Bt (by omega)⟩
theorem rdE_at{w:World}{n cap b off:Nat}{l:List Ev}(h:Rd w 8 (.slice (some ⟨b,off,none⟩) n cap) n (flatE l)){k:Nat}{e:Ev}(he:l[k]? = some e)(j:Nat)(u:Value)(hu:e.cells[j]? = some u):w.cell? ⟨b,off+k*8+j,none⟩=some u:=by
 rw [Nat.add_assoc]
 obtain⟨A,cap',q,hc,hl,h⟩:=h
 injection q with q1 q2 q3
 subst q1
 rcases h with⟨h,_⟩ | ⟨b',off',h,hb,h2⟩
 ·cases h
 ·injection h with h;injection h with h1 h2';subst h1;subst h2'
  exact h2 _ _ (flatE_at he j u hu)
set_option maxRecDepth 100000 in
set_option maxHeartbeats 4000000 in
theorem of1_in(F:Fence)(n:Nat)(h7:F.fn 124)(hro:F.round=none)(hn:1≤n)(l Bs Bt n₀ b off len cap:Nat)(evs:List Ev)(t:Int)(hlen:evs.length=len)(hreach:len≤1000000)(hb:b < n₀)(J Jx:List (Nat×Ev)→World→Prop)
  (hJd:∀ pre W X,J pre W→J pre (W.alloc (.cells X 136 (0,0)))) 
  (hY:∀ pre x W,J pre W→pre.length < len→YieldAt F (n - 1) Tryz.prog l #[.int .i64 (x.1:Int),.agg x.2.cells.toArray] W fun e W'=>
   (e=.returned (.bool true)∧J (pre++[x]) W'∧KpT n₀ Bt W W')∨(e=.returned (.bool false)∧Jx (pre++[x]) W'))
  (W:World) (hBs:W.cell? ⟨Bs,0,none⟩=some (.slice (some ⟨b,off,none⟩) len cap)) (hBt:W.cell? ⟨Bt,0,none⟩=some (.int .i64 t)) (hBt0:Bt < W.heap.size) (hR:Rd W 8 (.slice (some ⟨b,off,none⟩) len cap) len (flatE evs)) (h0:J [] W) (hn0:n₀≤W.heap.size):
  CallsIn F n Tryz.prog 124 #[.func (.yield l) #[] #[],.pointer (some ⟨Bs,0,none⟩),.pointer (some ⟨Bt,0,none⟩)] W fun e W'=>(∃ v,e=.returned v)∧
   ((∃ ys,ys=ofI evs t len∧J ys W')∨(∃ pre,True∧Jx pre W')):=by
 refine callsIn_of_wp Tryz.func124 rfl h7 ?_ hro
 simp only [Tryz.ntmps124,List.size_toArray,List.length_cons,List.length_nil,Nat.reduceAdd,Nat.reduceSub,Array.replicate_succ,Array.replicate_zero,List.push_toArray,List.append_toArray,List.nil_append,List.cons_append]
 gi_wp2
 gi_loopw [8] (fun i wr=>∃ k:Nat,k≤len∧i=.int .i64 k∧J (ofI evs t k) wr∧KpT n₀ Bt W wr)
  (fun i _=>len - (intOf i).toNat)
 case atStart=>exact⟨0,Nat.zero_le _,rfl,h0,Below.refl _ _,rfl⟩
 case round=>
  obtain⟨k,hk,rfl,hJs,hKx⟩:=hrel
  have hnx:=hKx.1
  by_cases hlt:k < len
  ·obtain⟨e,he⟩:∃ e,evs[k]? = some e:=⟨_,List.getElem?_eq_getElem (by omega)⟩
   have c0:=(hnx.cell (p:=⟨b,off+k*8,none⟩) hb).trans (rdE_at hR he 0 _ rfl)
   have c1:=(hnx.cell (p:=⟨b,off+k*8+1,none⟩) hb).trans (rdE_at hR he 1 _ rfl)
   have c2:=(hnx.cell (p:=⟨b,off+k*8+2,none⟩) hb).trans (rdE_at hR he 2 _ rfl)
   have c3:=(hnx.cell (p:=⟨b,off+k*8+3,none⟩) hb).trans (rdE_at hR he 3 _ rfl)
   have c4:=(hnx.cell (p:=⟨b,off+k*8+4,none⟩) hb).trans (rdE_at hR he 4 _ rfl)
   have c5:=(hnx.cell (p:=⟨b,off+k*8+5,none⟩) hb).trans (rdE_at hR he 5 _ rfl)
   have c6:=(hnx.cell (p:=⟨b,off+k*8+6,none⟩) hb).trans (rdE_at hR he 6 _ rfl)
   have c7:=(hnx.cell (p:=⟨b,off+k*8+7,none⟩) hb).trans (rdE_at hR he 7 _ rfl)
   have hsz:=hnx.size
   have hnA:KpT n₀ Bt wr (wr.alloc (.cells #[.int .i64 e.kind,.int .i64 e.who,.int .i64 e.pc,.int .i64 e.addr,.int .u32 e.val,.int .u32 e.old,.int .u32 e.k,.bool e.ok] 136)):=KpT.alloc (by omega) (by omega) _
   have ct:=hnA.cell (hKx.cell hBt)
   have hJA:=hJd _ _ #[.int .i64 e.kind,.int .i64 e.who,.int .i64 e.pc,.int .i64 e.addr,.int .u32 e.val,.int .u32 e.old,.int .u32 e.k,.bool e.ok] hJs
   have hs:=ofI_succ evs t k e he
   have hlJ:=ofI_len evs t k
   by_cases hw:e.who=t
   ·rw [if_pos hw] at hs
    subst hw
    obtain⟨fn,tmps,assign,body,hy,hR2⟩:=hY _ (k,e) _ hJA (by omega)
    dsimp only [Ev.cells] at hy
    clear hJA hJd hJs
    gi_wp2
    refine hR2.mono ?_
    rintro r W3 (⟨rfl,hJ3,hk3⟩ | ⟨rfl,hJx3⟩)
    ·gi_wp2
     go_roundw
     case rel=>exact⟨k+1,by omega,by simp,by rw [hs];exact hJ3,(hKx.trans hnA).trans hk3⟩
     case measure=>simp [intOf];omega
    ·gi_wp2
     refine bodyPost_ret (results_none rfl _ _ _) rfl ?_
     exact⟨⟨_,rfl⟩,.inr ⟨_,trivial,hJx3⟩⟩
   ·rw [if_neg hw,List.append_nil] at hs
    have hwb:(e.who == t)=false:=by simpa using hw
    clear hw
    gi_wp2
    refine⟨fun _ h=>(by cases h),?_⟩
    gi_wp2
    go_roundw
    case rel=>exact⟨k+1,by omega,by simp,by rw [hs];exact hJA,hKx.trans hnA⟩
    case measure=>simp [intOf];omega
  ·obtain rfl:k=len:=by omega
   gi_wp2
   go_end0
   exact⟨⟨_,rfl⟩,.inl ⟨_,rfl,hJs⟩⟩
set_option maxRecDepth 100000 in
set_option maxHeartbeats 1000000 in
theorem of1_nil(F:Fence)(n:Nat)(h7:F.fn 124)(hro:F.round=none)(l Bs Bt cap:Nat)(J:List (Nat×Ev)→World→Prop)(W:World)(hBs:W.cell? ⟨Bs,0,none⟩=some (.slice none 0 cap))(h0:J [] W):
  CallsIn F n Tryz.prog 124 #[.func (.yield l) #[] #[],.pointer (some ⟨Bs,0,none⟩),.pointer (some ⟨Bt,0,none⟩)] W fun e W'=>(∃ v,e=.returned v)∧J [] W':=by
 refine callsIn_of_wp Tryz.func124 rfl h7 ?_ hro
 simp only [Tryz.ntmps124,List.size_toArray,List.length_cons,List.length_nil,Nat.reduceAdd,Nat.reduceSub,Array.replicate_succ,Array.replicate_zero,List.push_toArray,List.append_toArray,List.nil_append,List.cons_append]
 gi_wp2
 gi_loopw [8] (fun i wr=>i=.int .i64 0∧J [] wr) (fun _ _=>0)
 case atStart=>exact⟨rfl,h0⟩
 case round=>
  obtain⟨rfl,hJs⟩:=hrel
  gi_wp2
  go_end0
  exact⟨⟨_,rfl⟩,hJs⟩
theorem of_stops(F:Fence)(n:Nat)(h7:F.fn 124)(hro:F.round=none)(hn:1≤n)(Bs Bt n₀:Nat)(v:Value)(len:Nat)(evs:List Ev)(t:Int)(hreach:len≤1000000)(w:World)(hBs:Bs < w.heap.size)(hBt:Bt < w.heap.size)(hn₀:n₀≤w.heap.size)
  (hc:w.cell? ⟨Bs,0,none⟩=some v) (hct:w.cell? ⟨Bt,0,none⟩=some (.int .i64 t)) (hR:Rd w 8 v len (flatE evs)) (hlt:∀ b off cap,v=.slice (some ⟨b,off,none⟩) len cap→b < n₀) (hle:evs.length=len):
  SeqStopsK F n Tryz.prog 124 #[.pointer (some ⟨Bs,0,none⟩),.pointer (some ⟨Bt,0,none⟩)] (fun x:Nat×Ev=>#[Value.int .i64 (x.1:Int),.agg x.2.cells.toArray]) (KpT n₀ Bt) (fun ys=>ys=ofI evs t len) (fun _=>True) len w:=fun l J Jx W hW hJ _ hY h0=>by
 have hc':=(hW.cell (p:=⟨Bs,0,none⟩) hBs).trans hc
 have hct':=(hW.cell (p:=⟨Bt,0,none⟩) hBt).trans hct
 have hR':=hR.below hW (Nat.le_refl _)
 obtain⟨A,cap,rfl,hcap,hl,hx⟩:=hR
 rcases hx with⟨rfl,rfl⟩ | ⟨b,off,rfl,hb,hx⟩
 ·have he:evs=[]:=List.eq_nil_of_length_eq_zero hle
  subst he
  exact (of1_nil F n h7 hro l Bs Bt cap J W hc' h0).mono fun e W' ⟨he,hj⟩=>⟨he,.inl ⟨_,rfl,hj⟩⟩
 ·exact of1_in F n h7 hro hn l Bs Bt n₀ b off len cap evs t hle hreach (hlt b off cap rfl) J Jx (fun pre W X h=>hJ pre W _ none h (World.grownBy_alloc _ _ _) (fun _ e=>by cases e)) hY W hc' hct' (Nat.lt_of_lt_of_le hBt hW.size) hR' h0 (Nat.le_trans hn₀ hW.size)
set_option maxHeartbeats 1000000 in
theorem of_in(F:Fence)(n:Nat)(h5:F.fn 93)(hro:F.round=none)(A:Option Addr)(len cap:Nat)(t:Int)(w:World):
  CallsIn F n Tryz.prog 93 #[.slice A len cap,.int .i64 t] w fun e w'=>e=.returned (.func (.func 124) #[] #[.pointer (some ⟨w.heap.size,0,none⟩),.pointer (some ⟨w.heap.size+1,0,none⟩)])∧w'=(w.alloc (.cells #[.slice A len cap] 55)).alloc (.cells #[.int .i64 t] 3):=by
 refine callsIn_of_wp Tryz.func93 rfl h5 ?_ hro
 simp only [Tryz.ntmps93,List.size_toArray,List.length_cons,List.length_nil,Nat.reduceAdd,Nat.reduceSub,Array.replicate_succ,Array.replicate_zero,List.push_toArray,List.append_toArray,List.nil_append,List.cons_append]
 gi_wp2
 go_ret
 exact⟨rfl,rfl⟩
def BoxE(W:World)(B:Nat)(e:Ev):Prop:=W.heap[B]? = some (.cells e.cells.toArray 136 (0,0))
theorem BoxE.kept{W W':World}{row:Option Nat}{B:Nat}{e:Ev}(h:BoxE W B e)(hg:W.grownBy W' row)(hne:some B≠row):BoxE W' B e:=(hg.block B (Array.getElem?_eq_some_iff.1 h).1 hne).trans h
theorem boxE_own{β:Type}(B:Nat)(f:β→Ev):Own (fun s W=>BoxE W B (f s)):=fun s X Y row hs hg hrow=>
 hs.kept hg (fun e'=>by obtain⟨o,ho,hc⟩:=hrow B e'.symm;rw [show X.heap[B]? = _ from hs] at ho;cases ho;cases hc)
end Go.Proofs.YtcnmhgblbikfkaaGreatDoor.As
end

section
set_option linter.unusedVariables false
set_option linter.unusedSimpArgs false
namespace Go.Proofs.YtcnmhgblbikfkaaGreatDoor.As
open Go.RowKit

section
variable{F:Fence}{n:Nat}{P:Program}{md:Region.Mode}{ops:Array Oper}{C:World→Prop}
theorem wpIn_of_quietR{o:Oper}{a:Act}{K:Act→Prop}{K':Act→World→Prop}{Q':Exit→Act→World→Prop}{w:World}(hpl:∀ c,o.op≠.defer c)(hw:C w)(h:∀ a w',C w'→K a→K' a w')
  (ha:o.askedIn F P a C) (hh:o.quietIn F n P a C K):o.wpIn F n P a w K' Q':=by
 obtain⟨v,h1,h2⟩:=hh
 have h3:=h1 w hw
 unfold Oper.quietAtIn at h3
 unfold Oper.wpIn
 refine⟨ha w hw,?_⟩
 rw [Oper.semAt_plain F _ _ hpl]
 generalize (execOp a.eval o).run P w=r at *
 cases r with
 | ok x w'=>
  cases x<;>simp only [Oper.quietUponIn] at h3<;>simp only [Oper.uponIn]
  case value u=>
   obtain⟨e1,e2⟩:=h3
   rw [e1,e2]
   exact h _ _ hw h2
  case skip=>
   obtain⟨e1,e2⟩:=h3
   rw [e1,←e2]
   exact h _ _ hw h2
  case enter f args=>
   obtain⟨e1,hd,hc⟩:=h3
   rw [e1]
   exact⟨hd,hc.mono fun e w'' ⟨he,hw''⟩=>by subst he;exact h _ _ hw'' h2⟩
 | halt x w'=>simp only [Oper.quietUponIn] at h3
theorem wpOpIn_of_qOpInR{i:Nat}{a:Act}{K:Act→Prop}{K':Act→World→Prop}{Q':Exit→Act→World→Prop}{w:World}(hpl:∀ (j:Nat) o c,ops[j]? = some o→o.op≠.defer c)(hC:C w)(h:∀ a w',C w'→K a→K' a w')
  (hh:qOpIn F n P ops C i K a):wpOpIn F n P ops Q' i K' a w:=by
 unfold qOpIn at hh
 unfold wpOpIn
 split
 ·rename_i ho;simp only [ho] at hh;exact h _ _ hC hh
 ·rename_i o ho
  simp only [ho] at hh
  obtain⟨ha,hh⟩:=hh
  split
  ·rename_i hw;simp only [hw,if_true] at hh;exact wpIn_of_quietR (fun c=>hpl i o c ho) hC h ha hh
  ·rename_i hw;simp only [hw] at hh;exact⟨ha w hC,h _ _ hC hh⟩
theorem wpAnyIn_of_quietR{Q:Act→Prop}{Q':Exit→Act→World→Prop}(hpl:∀ (j:Nat) o c,ops[j]? = some o→o.op≠.defer c)(hQ:∀ a w,C w→Q a→Q' .normal a w):∀ (fuel:Nat) (listed:Array Bool) (a:Act) (w:World),C w→
  wpAnyQIn F n P md ops C Q fuel listed a→wpAnyIn F n P md ops Q' fuel listed a w
 | 0,_,_,_,hw,h=>⟨h.1,hQ _ _ hw h.2⟩
 | fuel+1,_,_,_,hw,h=>⟨fun h0=>hQ _ _ hw (h.1 h0),fun i hi=>wpOpIn_of_qOpInR hpl hw (fun a' w' hw'=>wpAnyIn_of_quietR hpl hQ fuel _ a' w' hw') (h.2 i hi)⟩
def plainOps(l:List Oper):Bool:=l.all fun o=>match o.op with | .defer _=>false | _=>true
theorem plainOps_spec{l:List Oper}(h:plainOps l=true)(j:Nat)(o:Oper)(c:Call)(hj:l.toArray[j]? = some o):o.op≠.defer c:=by
 have hm:o∈l:=by
  have:l[j]? = some o:=by simpa using hj
  exact List.mem_of_getElem? this
 have:=List.all_eq_true.1 h o hm
 intro e
 rw [e] at this
 cases this
theorem wpIn_region_quietR{id:Nat}{Q:Exit→Act→World→Prop}{a:Act}{w:World}{l:List Oper}(hpl:plainOps l=true)(hm:P.follows .mixedOrders=true)(hB:Region.lexB .any l.toArray=true)
  (h:wpQuietIn F n P l.toArray (fun w'=>∃ n,w'=w.drewN n) (fun a'=>∀ w',(∃ n,w'=w.drewN n)→Q .normal a' w') l a):(Code.region id l.toArray true).wpIn F n P Q a w:=by
 simp only [Region.lexB,Bool.and_eq_true] at hB
 refine wpIn_region_any hm (wpAnyIn_of_quietR (C:=fun w'=>∃ n,w'=w.drewN n) (Q:=fun a'=>∀ w',(∃ n,w'=w.drewN n)→Q .normal a' w') (plainOps_spec hpl) (fun _ w' hw' h=>h w' hw') _ _ _ _ ⟨1,rfl⟩ ?_)
 have:=wpAnyQIn_lex (F:=F) (n:=n) (P:=P) (C:=fun w'=>∃ n,w'=w.drewN n) (md:=.any) hB.1 l 0 (Array.replicate l.toArray.size false) a (by simp) (by simpa using hB.2) h
 simpa using this
/-! ### Regions that draw their order,with a condition on the world -/
def YieldsR(P:Program)(ops:Array Oper)(S:World→Prop)(o:Oper)(v:Value)(a:Act):Prop:=YieldsIf P ops S o v a∧∀ w,o.about P w a.eval=none
variable{Q:Exit→Act→World→Prop}{S:World→Prop}{L:Nat}
theorem YieldsR.wpOpIn{i:Nat}{o:Oper}{v:Value}{a:Act}(hpl:∀ c,o.op≠.defer c)(hi:ops[i]? = some o)(hy:YieldsR P ops S o v a)
  {K:Act→World→Prop} {w:World} (hS:S w) (h:K (a.put o.dst v) w):wpOpIn F n P ops Q i K a w:=by
 unfold Go.wpOpIn
 simp only [hi]
 have hab:∀ f,o.about P w a.eval=some f→F.fn f:=fun f hf=>by rw [hy.2 w] at hf;cases hf
 rcases hy.1 with⟨hw,hv⟩ | ⟨hw,rfl⟩
 ·simp only [hw,if_true,Oper.wpIn,Oper.semAt_plain F _ _ hpl,hv w hS,Oper.uponIn];exact⟨hab,h⟩
 ·simp only [hw,Bool.false_eq_true,if_false];exact⟨hab,h⟩
theorem YieldsR.of_same{o:Oper}{v:Value}{a a':Act}(hy:YieldsR P ops S o v a)(he:execOp a'.eval o=execOp a.eval o)
  (hw:Region.wanted o (yielded ops a'.tmps)=Region.wanted o (yielded ops a.tmps)) (hb:∀ w,o.about P w a'.eval=o.about P w a.eval):YieldsR P ops S o v a':=
 ⟨hy.1.of_same he hw,fun w=>by rw [hb w];exact hy.2 w⟩
theorem wpOpIn_putR{j:Nat}{oi oj:Oper}{v:Value}(hpl:∀ c,oj.op≠.defer c)(hj:ops[j]? = some oj)(hap:oi.apart ops oj=true)
  (hsi:∀ cs b,oi.op≠.select cs b) (hsj:∀ cs b,oj.op≠.select cs b)
  (hQ:∀ c a w,Q (.panic c) (a.put oi.dst v) w→Q (.panic c) a w) {K:Act→World→Prop} {a:Act} {w:World}
  (hy:YieldsR P ops S oi v a) (h:wpOpIn F n P ops Q j K (a.put oi.dst v) w):
  wpOpIn F n P ops Q j (fun a' w'=>YieldsR P ops S oi v a'∧K (a'.put oi.dst v) w') a w:=by
 obtain⟨h1,h2,h3⟩:=Oper.apart_spec hap
 have keep:∀ (a:Act),YieldsR P ops S oi v a→∀ u,YieldsR P ops S oi v (a.put oj.dst u):=fun a hy u=>
  hy.of_same (execOp_put oi hsi a oj.dst u h3) (wanted_put oi a oj.dst u h3) (fun w=>about_put oi w a oj.dst u h3)
 have keepD:∀ d,YieldsR P ops S oi v { a with defers:=d::a.defers }:=fun d=>hy.of_same rfl rfl (fun _=>rfl)
 unfold wpOpIn at *
 simp only [hj] at *
 rw [wanted_put oj a oi.dst v h1,about_put oj w a oi.dst v h1] at h
 split
 ·rename_i hw
  simp only [hw,if_true] at h
  unfold Oper.wpIn at *
  rw [about_put oj w a oi.dst v h1] at h
  refine⟨h.1,?_⟩
  have h:=h.2
  rw [Oper.semAt_plain F _ _ hpl,execOp_put oj hsj a oi.dst v h1] at h
  rw [Oper.semAt_plain F _ _ hpl]
  generalize (execOp a.eval oj).run P w=r at *
  cases r with
  | ok x w'=>
   cases x<;>simp only [Oper.uponIn] at h ⊢
   case value u=>exact⟨keep a hy u,by rw [←Act.put_comm a v u h2];exact h⟩
   case skip=>exact⟨keep a hy _,by rw [←Act.put_comm a v undef h2];exact h⟩
   case defer d=>
    refine⟨keep _ (keepD d) _,?_⟩
    rw [←Act.put_comm _ v undef h2,←Act.put_defers]
    exact h
   case enter f args=>
    refine⟨h.1,CallsIn.mono h.2 fun e w'' he=>?_⟩
    cases e with
    | returned u=>exact⟨keep a hy u,by rw [←Act.put_comm a v u h2];exact he⟩
    | panicked c=>exact hQ _ _ _ he
    | outgrown=>exact he
   case row row args=>exact⟨h.1,RowsIn.mono h.2 fun u w'' he=>⟨keep a hy u,by rw [←Act.put_comm a v u h2];exact he⟩⟩
   case round l f tmps assign body=>
    refine⟨h.1,RoundIn.mono h.2 fun e w'' he=>?_⟩
    cases e with
    | returned u=>exact⟨keep a hy u,by rw [←Act.put_comm a v u h2];exact he⟩
    | panicked c=>exact hQ _ _ _ he
    | outgrown=>exact he
  | halt x w'=>
   cases x<;>simp only [Oper.uponIn] at h ⊢
   case panic u=>exact hQ _ _ _ h
 ·rename_i hw
  simp only [hw] at h
  exact⟨h.1,keep a hy _,by rw [←Act.put_comm a v undef h2];exact h.2⟩
def AnyR(F:Fence)(n:Nat)(P:Program)(md:Region.Mode)(ops:Array Oper)(Q:Exit→Act→World→Prop)(S:World→Prop):Nat→Array Bool→Act→World→Prop
 | 0,listed,a,w=>Region.ready md ops listed=[]∧Q .normal a w
 | fuel+1,listed,a,w=>
  (Region.ready md ops listed=[]→Q .normal a w)∧
  ∀ i∈Region.ready md ops listed,wpOpIn F n P ops Q i (fun a' w'=>S w'∧AnyR F n P md ops Q S fuel (listed.setIfInBounds i true) a' w') a w
theorem any_of_r:∀ (fuel:Nat) (listed:Array Bool) (a:Act) (w:World),AnyR F n P md ops Q S fuel listed a w→wpAnyIn F n P md ops Q fuel listed a w
 | 0,_,_,_,h=>h
 | fuel+1,_,_,_,h=>⟨h.1,fun i hi=>wpOpIn_mono (fun a' w' h'=>any_of_r fuel _ a' w' h'.2) (h.2 i hi)⟩
theorem AnyR_first{i:Nat}{oi:Oper}{v:Value}(hpl:∀ (j:Nat) o c,ops[j]? = some o→o.op≠.defer c)(hi:ops[i]? = some oi)(hsel:∀ (j:Nat) (o:Oper) cs b,ops[j]? = some o→o.op≠.select cs b)
  (hQ:∀ c a w,Q (.panic c) (a.put oi.dst v) w→Q (.panic c) a w):
  ∀ (fuel:Nat) (listed:Array Bool) (a:Act) (w:World),
   (∀ j oj,ops[j]? = some oj→j≠i→listed.getD j true=false→(∀ e∈oj.after,Region.binds md e=true→e.on≠i)→oi.apart ops oj=true)→
   i∈Region.ready md ops listed→YieldsR P ops S oi v a→S w→
   AnyR F n P md ops Q S fuel (listed.setIfInBounds i true) (a.put oi.dst v) w→AnyR F n P md ops Q S (fuel+1) listed a w:=by
 intro fuel
 induction fuel with
 | zero=>
  intro listed a w _ hr hy hS H
  refine⟨fun h=>(by rw [h] at hr;cases hr),fun j hj=>?_⟩
  by_cases hji:j=i
  ·subst hji;exact hy.wpOpIn (fun c=>hpl j oi c hi) hi hS ⟨hS,H⟩
  ·have:=ready_mono hj hji
   rw [H.1] at this
   cases this
 | succ fuel ih=>
  intro listed a w hfree hr hy hS H
  refine⟨fun h=>(by rw [h] at hr;cases hr),fun j hj=>?_⟩
  by_cases hji:j=i
  ·subst hji;exact hy.wpOpIn (fun c=>hpl j oi c hi) hi hS ⟨hS,H⟩
  ·have h1:=H.2 j (ready_mono hj hji)
   obtain⟨hjun,oj,hoj,hall⟩:=mem_ready.1 hj
   have hnot:∀ e∈oj.after,Region.binds md e=true→e.on≠i:=fun e he hb heq=>by
    have h1:=hall e he hb
    have h0:=(mem_ready.1 hr).1
    rw [heq] at h1
    rcases Nat.lt_or_ge i listed.size with h' | h'
    ·simp [h'] at h0 h1;rw [h0] at h1;cases h1
    ·simp [Array.getElem?_eq_none h'] at h1
   have h2:=wpOpIn_putR (fun c=>hpl j oj c hoj) hoj (hfree j oj hoj hji hjun hnot) (fun cs b=>hsel i oi cs b hi) (fun cs b=>hsel j oj cs b hoj) hQ hy h1
   have hfree':∀ k ok,ops[k]? = some ok→k≠i→(listed.setIfInBounds j true).getD k true=false→
     (∀ e∈ok.after,Region.binds md e=true→e.on≠i)→oi.apart ops ok=true:=fun k ok hk hki hun hno=>by
    refine hfree k ok hk hki ?_ hno
    by_cases hjk:j=k
    ·subst hjk;exact hjun
    ·rw [getD_set_ne true hjk] at hun;exact hun
   refine wpOpIn_mono (fun a' w' h3=>⟨h3.2.1,ih (listed.setIfInBounds j true) a' w' hfree' (ready_mono hr (Ne.symm hji)) h3.1 h3.2.1 ?_⟩) h2
   rw [Array.setIfInBounds_comm _ _ hji]
   exact h3.2.2
theorem AnyR_take{i:Nat}{oi:Oper}{v:Value}{l:List Oper}{fuel:Nat}{listed:Array Bool}{a:Act}{w:World}(hpl:plainOps l=true)(hi:l.toArray[i]? = some oi)
  (hB:(Region.noSelect l.toArray && Region.free md l.toArray listed i && (Region.ready md l.toArray listed).contains i)=true)
  (hQ:∀ c a w,Q (.panic c) (a.put oi.dst v) w→Q (.panic c) a w) (hy:YieldsR P l.toArray S oi v a) (hS:S w)
  (h:AnyR F n P md l.toArray Q S fuel (listed.setIfInBounds i true) (a.put oi.dst v) w):AnyR F n P md l.toArray Q S (fuel+1) listed a w:=by
 simp only [Bool.and_eq_true] at hB
 obtain⟨⟨hs,hf⟩,hr⟩:=hB
 exact AnyR_first (plainOps_spec hpl) hi (Region.noSelect_spec hs) hQ fuel listed a w (Region.free_spec hi hf) (by simpa using hr) hy hS h
theorem AnyR_one{i:Nat}{o:Oper}{fuel:Nat}{listed:Array Bool}{a:Act}{w:World}(hi:ops[i]? = some o)(hr:Region.ready md ops listed=[i])
  (h:wpOpIn F n P ops Q i (fun a' w'=>S w'∧AnyR F n P md ops Q S fuel (listed.setIfInBounds i true) a' w') a w):AnyR F n P md ops Q S (fuel+1) listed a w:=
 ⟨fun h0=>(by rw [hr] at h0;cases h0),fun j hj=>by
  rw [hr] at hj
  have:j=i:=by simpa using hj
  subst this
  exact h⟩
theorem AnyR_done{listed:Array Bool}{a:Act}{w:World}(hr:Region.ready md ops listed=[])(h:Q .normal a w):∀ fuel,AnyR F n P md ops Q S fuel listed a w
 | 0=>⟨hr,h⟩
 | _+1=>⟨fun _=>h,by rw [hr];simp⟩
theorem wpIn_region_r{id:Nat}{a:Act}{w:World}(S:World→Prop)(hm:P.follows .mixedOrders=true)
  (h:AnyR F n P .any ops Q S ops.size (Array.replicate ops.size false) a { w with drawn:=w.drawn+1 }):(Code.region id ops true).wpIn F n P Q a w:=
 wpIn_region_any hm (any_of_r _ _ _ _ h)
theorem wpOpIn_of{i:Nat}{o:Oper}{K:Act→World→Prop}{a:Act}{w:World}(hi:ops[i]? = some o)(hg:o.guard=none)(h:o.wpIn F n P a w K Q):wpOpIn F n P ops Q i K a w:=by
 unfold wpOpIn
 simp only [hi,Region.wanted,hg,if_true]
 exact h
end
end Go.Proofs.YtcnmhgblbikfkaaGreatDoor.As
end

