/- Plain Lean: from a lock's run to what the law asks; codes that are right. No program in sight. -/
import Derived.Test.YtckmkaeopnnbbaaGreatDoorGn
import Derived.Test.YtckmkaeopnnbbaaGreatDoorGl
import Derived.Test.YtckmkaeopnnbbaaGreatDoorGo
set_option linter.unusedVariables false
set_option linter.unusedSimpArgs false
namespace Go.Proofs.YtckmkaeopnnbbaaGreatDoor.As.T

def loc0:Loc:=⟨0,0,0,0,0,0,0,0,0,0,0⟩
theorem buf0(mem:List Int)(room T t:Nat):(ts0 mem room T).buf t=[]:=by
 show (List.replicate T ([]:List (Nat×Int))).getD t []=[]
 rw [List.getD_eq_getElem?_getD,List.getElem?_replicate]
 split<;>rfl
theorem inv0(X:Lk)(mem:List Int)(room:Nat)(hM:X.M=16+mem.length)(hR:0 < X.R)(hL:0 < X.Lb)(hin:X.inR 0=false)(hI:X.I (mem0 mem) (fun _=>loc0) (ts0 (mem0 mem) room X.T).buf):X.Inv (ts0 (mem0 mem) room X.T) (fun _=>loc0) (-1) where
 nths:=by simp [ts0]
 nb:=by simp [ts0]
 nm:=by show (mem0 mem).length=X.M;rw [hM];unfold mem0;rw [List.length_append,List.length_replicate]
 slp:=rfl
 hs:=fun t ht=>by
  show (List.replicate X.T th0)[t]? = _
  rw [List.getElem?_replicate,if_pos ht]
  have e:Loc.th X.Lb loc0=th0:=by unfold Loc.th loc0 th0;simp
  rw [e]
 fr:=fun t ht=>.inl ⟨rfl,hR,hL⟩
 I:=hI
 one:=rfl
 i1:=.inl rfl
 who:=fun t ht=>⟨fun e=>by omega,fun e=>by have e2:X.inR 0=true:=e;rw [hin] at e2;cases e2⟩
 fine:=fun e he=>by cases he
 sum:=by
  have h:∀ t,t < X.T→loc0.cnt X.js ((ts0 (mem0 mem) room X.T).buf t)=0:=fun t _=>by rw [buf0];unfold Loc.cnt loc0 c0;simp
  rw [sumT_congr X.T h,sumT_const]
  show (mem0 mem).getD 0 0=_
  simp [mem0,wr32,List.replicate]
theorem facts{X:Lk}{s:Ts}{f:Nat→Loc}{i:Int}(h:X.Inv s f i):(∃ i,oneF s.evs=some i)∧(∀ e∈s.evs,fineE e)∧(endedTo s X.T=true→s.mem.getD 0 0=wr32 ((X.T:Int)*X.R)):=by
 refine⟨⟨i,h.one⟩,h.fine,fun he=>?_⟩
 have hk:∀ t,t < X.T→endedT s t=true:=fun t ht=>List.all_eq_true.1 he t (List.mem_range.2 ht)
 have hp:∀ t,t < X.T→(f t).st=2∧s.buf t=[]:=fun t ht=>by
  have h1:=hk t ht
  unfold endedT at h1
  rw [h.hs t ht] at h1
  simp only [Bool.and_eq_true,Bool.not_eq_true',beq_eq_false_iff_ne,decide_eq_true_eq,Loc.th] at h1
  obtain⟨⟨h1,h2⟩,h3⟩:=h1
  refine⟨?_,List.eq_nil_of_length_eq_zero h3⟩
  rcases h.fr t ht with⟨h4,_⟩ | ⟨_,_,h4 | h4⟩
  ·exact absurd h4 h1
  ·exact absurd h4 h1
  ·exact h4
 exact h.done (fun t ht=>(hp t ht).1) (fun t ht=>(hp t ht).2)
def lim(F:Nat→List Ln)(t:Nat):List Ins:=resL (F (min t 3))
theorem lim_eq(F:Nat→List Ln){t:Nat}(h:t < 4):lim F t=resL (F t):=by unfold lim;rw [Nat.min_eq_left (by omega)]
def fineL(L:List Ins):Bool:=decide (0 < L.length) && decide (L.length≤4000) && L.all (okI L.length)
def shortL(L:List Ins):Bool:=decide (L.length≤200) && decide (0 < L.length) && L.all fun x=>wd x.k
theorem short_of{F:Nat→List Ln}(h:∀ t:Fin 4,shortL (resL (F t))=true)(t:Nat):(lim F t).length≤200∧0 < (lim F t).length∧∀ x∈lim F t,0≤x.k∧x.k≤4294967295:=by
 have:=h ⟨min t 3,by omega⟩
 simp only [shortL,Bool.and_eq_true,decide_eq_true_eq] at this
 exact⟨this.1.1,this.1.2,fun x hx=>wd_iff.1 (List.all_eq_true.1 this.2 x hx)⟩
theorem codes_of{F G:Nat→List Ln}(h:∀ r:Fin 4,∀ t:Fin 4,fineL (roundsR (resL (F t)) (resL (G t)) (r+1) [])=true){T R:Nat}(hT:T≤4)(hR0:0 < R)(hR:R≤4):CodesOk (codesR (lim F) (lim G) T R):=by
 intro L hL
 unfold codesR at hL
 obtain⟨t,ht,rfl⟩:=List.mem_map.1 hL
 have ht4:t < 4:=by have:=List.mem_range.1 ht;omega
 have:=h ⟨R - 1,by omega⟩ ⟨t,ht4⟩
 rw [lim_eq F ht4,lim_eq G ht4]
 have e:R - 1+1=R:=by omega
 simp only [fineL,Bool.and_eq_true,decide_eq_true_eq,e] at this
 exact⟨this.1.1,this.1.2,fun x hx=>List.all_eq_true.1 this.2 x hx⟩
theorem codes_at(F G:Nat→List Ln){T R t:Nat}(hT:T≤4)(ht:t < T):(codesR (lim F) (lim G) T R)[t]? = some (roundsR (resL (F t)) (resL (G t)) R []):=by
 rw [codesR_get ht,lim_eq F (by omega),lim_eq G (by omega)]
end Go.Proofs.YtckmkaeopnnbbaaGreatDoor.As.T
