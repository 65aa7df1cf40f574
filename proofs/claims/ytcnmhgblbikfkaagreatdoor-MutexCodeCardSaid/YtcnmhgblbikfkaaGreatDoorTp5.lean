/- Plain Lean: one at a time,and what is added up,as folds over events and threads. No program in sight. -/
import Derived.Test.YtcnmhgblbikfkaaGreatDoorTp3
set_option linter.unusedVariables false
set_option linter.unusedSimpArgs false
namespace Go.Proofs.YtcnmhgblbikfkaaGreatDoor.As

def oneS:Option Int→Ev→Option Int
 | none,_=>none
 | some i,e=>
  if e.kind≠7 then some i
  else if e.k=1∧e.val=0 then (if 0≤i then none else some e.who)
  else if e.k=2 then (if i≠e.who then none else some (-1))
  else some i
def oneF(l:List Ev):Option Int:=l.foldl oneS (some (-1))
theorem oneF_snoc(l:List Ev)(e:Ev):oneF (l++[e])=oneS (oneF l) e:=by simp [oneF]
theorem oneS_other{o:Option Int}{e:Ev}(h:e.kind≠7):oneS o e=o:=by
 cases o with
 | none=>rfl
 | some i=>exact if_pos h
theorem oneS_mark{i:Int}{e:Ev}(h:e.kind=7)(h1:¬(e.k=1∧e.val=0))(h2:e.k≠2):oneS (some i) e=some i:=by
 simp only [oneS]
 rw [if_neg (fun e=>e h),if_neg h1,if_neg h2]
theorem oneS_in{i:Int}{e:Ev}(h:e.kind=7)(h1:e.k=1)(h2:e.val=0)(hi:i < 0):oneS (some i) e=some e.who:=by
 simp only [oneS]
 rw [if_neg (fun e=>e h),if_pos ⟨h1,h2⟩,if_neg (by omega)]
theorem oneS_out{e:Ev}{i:Int}(h:e.kind=7)(h1:e.k=2)(hi:i=e.who):oneS (some i) e=some (-1):=by
 simp only [oneS]
 rw [if_neg (fun e=>e h),if_neg (by rintro⟨a,_⟩;omega),if_pos h1,if_neg (fun e=>e hi)]
def fineE(e:Ev):Prop:=e.kind≠13∧(e.kind=7→(e.k=0∨e.k=2)∨((e.k=1∨e.k=3)∧e.val=0))
theorem fineE_kind{e:Ev}(h:e.kind≠13)(h7:e.kind≠7):fineE e:=⟨h,fun e=>absurd e h7⟩
theorem fineE_mark{e:Ev}(h:e.kind=7)(h1:(e.k=0∨e.k=2)∨((e.k=1∨e.k=3)∧e.val=0)):fineE e:=⟨by rw [h];decide,fun _=>h1⟩
def sumT(f:Nat→Int):Nat→Int
 | 0=>0
 | n+1=>sumT f n+f n
theorem sumT_congr{f g:Nat→Int}:∀ (n:Nat),(∀ t,t < n→f t=g t)→sumT f n=sumT g n
 | 0,_=>rfl
 | n+1,h=>by
  rw [sumT,sumT,sumT_congr n (fun t ht=>h t (by omega)),h n (by omega)]
theorem sumT_one{f g:Nat→Int}(t:Nat)(d:Int)(hd:g t=f t+d):∀ (n:Nat),t < n→(∀ u,u < n→u≠t→g u=f u)→sumT g n=sumT f n+d
 | 0,h,_=>by omega
 | n+1,h,hu=>by
  rw [sumT,sumT]
  by_cases e:n=t
  ·subst e
   rw [sumT_congr n (fun u hu2=>hu u (by omega) (by omega)),hd];omega
  ·rw [sumT_one t d hd n (by omega) (fun u h1 h2=>hu u (by omega) h2),hu n (by omega) e];omega
theorem sumT_const(c:Int):∀ n,sumT (fun _=>c) n=n*c
 | 0=>by simp [sumT]
 | n+1=>by
  rw [sumT,sumT_const c n]
  have:((n+1:Nat):Int)=(n:Int)+1:=by omega
  rw [this,Int.add_mul];omega
end Go.Proofs.YtcnmhgblbikfkaaGreatDoor.As
