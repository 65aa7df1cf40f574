/- Plain Lean: from a run of threads of different codes to what the law asks. No program in sight. -/
import Derived.Test.YtckmkaeopnnbbaaGreatDoorTqG
import Derived.Test.YtckmkaeopnnbbaaGreatDoorTq7
set_option linter.unusedVariables false
set_option linter.unusedSimpArgs false
namespace Go.Proofs.YtckmkaeopnnbbaaGreatDoor.As.T

theorem inv0W(X:Wd.Lk)(mem:List Int)(room:Nat)(hM:X.M=16+mem.length)(hR:0 < X.R)(hL:∀ t,0 < X.Lb t)(hin:∀ t,X.inR t 0=false)(hI:X.I (mem0 mem) (fun _=>loc0) (ts0 (mem0 mem) room X.T).buf):X.Inv (ts0 (mem0 mem) room X.T) (fun _=>loc0) (-1) where
 nths:=by simp [ts0]
 nb:=by simp [ts0]
 nm:=by show (mem0 mem).length=X.M;rw [hM];unfold mem0;rw [List.length_append,List.length_replicate]
 slp:=rfl
 hs:=fun t ht=>by
  show (List.replicate X.T th0)[t]? = _
  rw [List.getElem?_replicate,if_pos ht]
  have e:Loc.th (X.Lb t) loc0=th0:=by unfold Loc.th loc0 th0;simp
  rw [e]
 fr:=fun t ht=>.inl ⟨rfl,hR,hL t⟩
 I:=hI
 one:=rfl
 i1:=.inl rfl
 who:=fun t ht=>⟨fun e=>by omega,fun e=>by have e2:X.inR t 0=true:=e;rw [hin] at e2;cases e2⟩
 fine:=fun e he=>by cases he
 sum:=by
  have h:∀ t,t < X.T→loc0.cnt (X.js t) ((ts0 (mem0 mem) room X.T).buf t)=0:=fun t _=>by rw [buf0];unfold Loc.cnt loc0 c0;simp
  rw [sumT_congr X.T h,sumT_const]
  show (mem0 mem).getD 0 0=_
  simp [mem0,wr32,List.replicate]
theorem factsW{X:Wd.Lk}{s:Ts}{f:Nat→Loc}{i:Int}(h:X.Inv s f i):(∃ i,oneF s.evs=some i)∧(∀ e∈s.evs,fineE e)∧(endedTo s X.T=true→s.mem.getD 0 0=wr32 ((X.T:Int)*X.R)):=by
 refine⟨⟨i,h.one⟩,h.fine,fun he=>?_⟩
 have hk:∀ t,t < X.T→endedT s t=true:=fun t ht=>List.all_eq_true.1 he t (List.mem_range.2 ht)
 have hp:∀ t,t < X.T→(f t).st=2∧s.buf t=[]:=fun t ht=>by
  have h1:=hk t ht
  unfold endedT at h1
  rw [h.hs t ht] at h1
  simp only [Bool.and_eq_true,Bool.not_eq_true',beq_eq_false_iff_ne,decide_eq_true_eq,Loc.th] at h1
  obtain⟨⟨h1,h2⟩,h3⟩:=h1
  refine⟨?_,List.eq_nil_of_length_eq_zero h3⟩
  rcases h.fr t ht with⟨h4,_⟩ | ⟨_,_,h4 | h4⟩
  ·exact absurd h4 h1
  ·exact absurd h4 h1
  ·exact h4
 exact h.done (fun t ht=>(hp t ht).1) (fun t ht=>(hp t ht).2)
end Go.Proofs.YtckmkaeopnnbbaaGreatDoor.As.T
