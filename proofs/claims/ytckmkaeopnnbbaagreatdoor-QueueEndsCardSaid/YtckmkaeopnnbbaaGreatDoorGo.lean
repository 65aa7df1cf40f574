/- Plain Lean: the document's reading of code as text (the package deadlatchref04),by lists of bytes. No program in sight. Plain Lean: laws of the document's reading of a text. No program in sight. Plain Lean: a line of an instruction,and what the document reads of it. No program in sight. Plain Lean: a line of an instruction is read as that instruction. No program in sight. Plain Lean: lines of labels and instructions are read as the code that they make. No program in sight. Plain Lean: lines into which numbers are put,and what is read of them. No program in sight. Plain Lean: what a builder gathers of lines is the code that they make. No program in sight. Plain Lean: the document's lines of the locks of layer 15,and the code that they make. No program in sight. -/
import Derived.Test.YtckmkaeopnnbbaaGreatDoorGa
section
namespace Go.Proofs.YtckmkaeopnnbbaaGreatDoor.As

def valB(l:B8):Nat:=l.foldl (fun n c=>10*n+(c.toNat - 48)) 0
def numB(l:B8):Int:=
 if l.length=0∨10 < l.length∨(1 < l.length∧l[0]? = some 48) then -1 else if l.all isDig then (if 4294967295 < valB l then -1 else (valB l:Int)) else -1
def regB:B8→Int
 | [r,c]=>if r=114∧48≤c.toNat∧c.toNat≤55 then (c.toNat:Int) - 48 else -1
 | _ => -1
def addrB(l:B8):Int×Int:=
 if l.length < 3∨l[0]? ≠ some 91∨l[l.length - 1]? ≠ some 93 then (-1,-1) else
  let s:=(l.drop 1).take (l.length - 2)
  if s.contains 43 then
   let i:=s.idxOf 43
   if regB (s.take i) < 0 then (-1,-1) else (regB (s.take i),numB (s.drop (i+1)))
  else (8,numB s)
def hasB(op:Int)(c:UInt8):Bool:=(opField op).contains c
def fieldsB:B8→List B8→Ins→B8→Option (Ins×B8)
 | [],_,i,to=>some (i,to)
 | _::_,[],_,_=>none
 | f::r,w::ws,i,to=>
  if f=65∨f=66∨f=67 then
   if regB w < 0 then none else fieldsB r ws (if f=65 then { i with a:=regB w } else if f=66 then { i with b:=regB w } else { i with c:=regB w }) to
  else if f=77 then
   if (addrB w).1 < 0∨(addrB w).2 < 0 then none else some ({ i with b:=(addrB w).1,k:=(addrB w).2 },[])
  else if f=75 then
   if numB w < 0 then none else fieldsB r ws { i with k:=numB w } to
  else if f=84 then
   if w.length < 2∨w[0]? ≠ some 64 then none else
    if 0≤numB (w.drop 1) then fieldsB r ws { i with k:=numB (w.drop 1) } to
    else if nameOk (w.drop 1) then fieldsB r ws i (w.drop 1)
    else none
  else fieldsB r ws i to
end Go.Proofs.YtckmkaeopnnbbaaGreatDoor.As
end

section
set_option linter.unusedVariables false
namespace Go.Proofs.YtckmkaeopnnbbaaGreatDoor.As

end Go.Proofs.YtckmkaeopnnbbaaGreatDoor.As
end

section
set_option linter.unusedVariables false
namespace Go.Proofs.YtckmkaeopnnbbaaGreatDoor.As

def decB(n:Nat):B8:=if n < 10 then [UInt8.ofNat (48+n)] else decB (n / 10)++[UInt8.ofNat (48+n % 10)]
termination_by n
theorem nameOk_len{n:B8}(h:nameOk n=true):1≤n.length∧n.length≤20:=by
 cases n with
 | nil=>cases h
 | cons x r=>
  unfold nameOk at h
  rw [Bool.and_eq_true,Bool.and_eq_true] at h
  have:=h.2.2
  simp at this
  simp;omega
/-! ### Parting and joining -/
def joinB(b:UInt8):List B8→B8
 | []=>[]
 | [w]=>w
 | w::v::r=>w++b::joinB b (v::r)
/-! ### A line -/
def regW(a:Int):B8:=[114,UInt8.ofNat (48+a.toNat)]
def addrW(b k:Int):B8:=if b=8 then 91::(decB k.toNat++[93]) else 91::(regW b++(43::(decB k.toNat++[93])))
def wordsB(i:Ins)(to:B8):B8→List B8
 | []=>[]
 | f::r=>
  if f=65 then regW i.a::wordsB i to r
  else if f=66 then regW i.b::wordsB i to r
  else if f=67 then regW i.c::wordsB i to r
  else if f=77 then [addrW i.b i.k]
  else if f=75 then decB i.k.toNat::wordsB i to r
  else if f=84 then (64::(if to=[] then decB i.k.toNat else to))::wordsB i to r
  else []::wordsB i to r
def wordsOf(i:Ins)(to:B8):List B8:=opName i.op::wordsB i to (opField i.op)
def lineOf(i:Ins)(to:B8):B8:=joinB 32 (wordsOf i to)
structure Fits(i:Ins)(to:B8):Prop where
 op:0≤i.op∧i.op < 28
 a:0≤i.a∧i.a≤if hasB i.op 65 then 7 else 0
 b:0≤i.b∧i.b≤if hasB i.op 77 then 8 else if hasB i.op 66 then 7 else 0
 c:0≤i.c∧i.c≤if hasB i.op 67 then 7 else 0
 k:0≤i.k∧i.k≤if hasB i.op 75∨hasB i.op 84 then 4294967295 else 0
 to:to≠[]→jumps i.op=true∧i.k=0∧nameOk to=true

theorem regB_regW{a:Int}(h:0≤a∧a≤7):regB (regW a)=a:=by
 have:a=0∨a=1∨a=2∨a=3∨a=4∨a=5∨a=6∨a=7:=by omega
 rcases this with e | e | e | e | e | e | e | e<;>subst e<;>decide
end Go.Proofs.YtckmkaeopnnbbaaGreatDoor.As
end

section
set_option linter.unusedVariables false
namespace Go.Proofs.YtckmkaeopnnbbaaGreatDoor.As

theorem fA{a:Int}(h:0≤a∧a≤7)(r:B8)(ws:List B8)(i:Ins)(to:B8):fieldsB (65::r) (regW a::ws) i to=fieldsB r ws { i with a:=a } to:=by
 rw [fieldsB,if_pos (.inl rfl),regB_regW h,if_neg (by omega),if_pos rfl]
theorem op_cases{P:Int→Prop}{op:Int}(h:0≤op∧op < 28)(H:∀ n:Fin 28,P (n.val:Int)):P op:=by
 have:=H ⟨op.toNat,by omega⟩
 have e:(op.toNat:Int)=op:=by omega
 rw [e] at this
 exact this
theorem Fits.all{i:Ins}{to:B8}(h:Fits i to):(0≤i.a∧i.a≤7)∧(0≤i.b∧i.b≤8)∧(0≤i.c∧i.c≤7)∧(0≤i.k∧i.k≤4294967295)∧(to≠[]→nameOk to=true)∧(66∉opField i.op∨i.b≤7):=by
 have ha:=h.a
 have hb:=h.b
 have hc:=h.c
 have hk:=h.k
 refine⟨?_,?_,?_,?_,fun e=>(h.to e).2.2,?_⟩
 ·split at ha<;>omega
 ·split at hb
  ·omega
  ·split at hb<;>omega
 ·split at hc<;>omega
 ·split at hk<;>omega
 ·by_cases h66:66∈opField i.op
  ·right
   have h77:hasB i.op 77=false:=by
    have:=op_cases (P:=fun op=>66∈opField op→hasB op 77=false) h.op (by decide)
    exact this h66
   rw [h77] at hb
   simp only [Bool.false_eq_true,if_false] at hb
   split at hb<;>omega
  ·exact .inl h66
end Go.Proofs.YtckmkaeopnnbbaaGreatDoor.As
end

section
set_option linter.unusedVariables false
namespace Go.Proofs.YtckmkaeopnnbbaaGreatDoor.As

inductive Ln where
 | lab (n:B8)
 | ins (i:Ins) (to:B8)
def Ln.text:Ln→B8
 | .lab n=>n++[58]
 | .ins i to=>lineOf i to
def Ln.Ok:Ln→Prop
 | .lab n=>nameOk n=true
 | .ins i to=>Fits i to
def insL:List Ln→List (Ins×B8)
 | []=>[]
 | .lab _::r=>insL r
 | .ins i to::r=>(i,to)::insL r
def placeL(nm:B8):Nat→List Ln→Option Nat
 | _,[]=>none
 | n,.lab m::r=>if m=nm then some n else placeL nm n r
 | n,.ins _ _::r=>placeL nm (n+1) r
def resI(b:List Ln)(x:Ins×B8):Ins:=if x.2=[] then x.1 else { x.1 with k:=((placeL x.2 0 b).getD 0:Nat) }
def resL(b:List Ln):List Ins:=(insL b).map (resI b)
def okLabs:List B8→List Ln→Bool
 | _,[]=>true
 | seen,.lab m::r=>nameOk m && (!seen.contains m && okLabs (m::seen) r)
 | seen,.ins _ _::r=>okLabs seen r
def Ln.okTo(b:List Ln):Ln→Bool
 | .lab _=>true
 | .ins i to=>if to=[] then !jumps i.op || decide (i.k≤((insL b).length:Int)) else (placeL to 0 b).isSome
structure OkL(b:List Ln):Prop where
 all:∀ l∈b,l.Ok
 labs:okLabs [] b=true
 to:∀ l∈b,l.okTo b=true
 few:b.length≤180

end Go.Proofs.YtckmkaeopnnbbaaGreatDoor.As
end

section
set_option linter.unusedVariables false
namespace Go.Proofs.YtckmkaeopnnbbaaGreatDoor.As

/-! ### Lines,by hand -/
def fitB(op a b c:Int)(to:B8):Bool:=
 decide (0≤op∧op < 28) && (decide (0≤a∧a≤if hasB op 65 then 7 else 0) && (decide (0≤b∧b≤if hasB op 77 then 8 else if hasB op 66 then 7 else 0) && (decide (0≤c∧c≤if hasB op 67 then 7 else 0) && (to == [] || (jumps op && nameOk to)))))
theorem fit_of{op a b c k:Int}{to:B8}(h:fitB op a b c to=true)(hk:0≤k∧k≤if hasB op 75∨hasB op 84 then 4294967295 else 0)(hk0:to=[]∨k=0):Fits ⟨op,a,b,c,k⟩ to:=by
 unfold fitB at h
 simp only [Bool.and_eq_true,decide_eq_true_eq,Bool.or_eq_true,beq_iff_eq] at h
 obtain⟨h1,h2,h3,h4,h5⟩:=h
 exact⟨h1,h2,h3,h4,hk,fun e=>by rcases h5 with h5 | h5;exact absurd h5 e;rcases hk0 with h6 | h6;exact absurd h6 e;exact⟨h5.1,h6,h5.2⟩⟩
theorem fit_0{op a b c:Int}{to:B8}(h:fitB op a b c to=true):Fits ⟨op,a,b,c,0⟩ to:=
 fit_of h ⟨by omega,by split<;>omega⟩ (.inr rfl)
theorem fit_k{op a b c k:Int}(h:fitB op a b c []=true)(h2:(hasB op 75 || hasB op 84)=true)(hk:0≤k∧k≤4294967295):Fits ⟨op,a,b,c,k⟩ []:=
 fit_of h ⟨hk.1,by rw [if_pos (by simpa using h2)];exact hk.2⟩ (.inl rfl)

def BS.add(s:BS):Ln→BS
 | .lab n=>s.at_ n
 | .ins i []=>s.do_ i
 | .ins i (c::r)=>s.go_ i.op i.a (c::r)
def BS.run(s:BS):List Ln→BS
 | []=>s
 | l::r=>(s.add l).run r
theorem BS.run_app:∀ (a b:List Ln) (s:BS),s.run (a++b)=(s.run a).run b
 | [],b,s=>rfl
 | l::a,b,s=>by rw [List.cons_append,BS.run,BS.run,BS.run_app a b]
end Go.Proofs.YtckmkaeopnnbbaaGreatDoor.As
end

section
set_option linter.unusedVariables false
namespace Go.Proofs.YtckmkaeopnnbbaaGreatDoor.As

def plOf:Nat→List Ln→List (B8×Nat)
 | _,[]=>[]
 | n,.lab m::r=>(m,n)::plOf n r
 | n,.ins _ _::r=>plOf (n+1) r
def lkOf:Nat→List Ln→List (Nat×B8)
 | _,[]=>[]
 | n,.lab _::r=>lkOf n r
 | n,.ins _ to::r=>if to=[] then lkOf (n+1) r else (n,to)::lkOf (n+1) r
theorem find_pl(nm:B8):∀ (b:List Ln) (n:Nat),((plOf n b).find? (fun p=>p.1 == nm)).map (·.2)=placeL nm n b
 | [],n=>rfl
 | .lab m::r,n=>by
  rw [plOf,placeL,List.find?_cons]
  by_cases e:m=nm
  ·rw [if_pos e,e,beq_self_eq_true];rfl
  ·rw [if_neg e,beq_eq_false_iff_ne.2 e];exact find_pl nm r n
 | .ins i to::r,n=>by rw [plOf,placeL];exact find_pl nm r (n+1)
theorem find_snoc'(s:BS)(nm x:B8)(n:Nat):(BS.find { s with places:=s.places++[(nm,n)] } x).isSome=((s.find x).isSome || (x == nm)):=by
 unfold BS.find
 simp only [List.find?_append,List.find?_cons,List.find?_nil,Option.isSome_map]
 by_cases e:x=nm
 ·subst e
  rw [beq_self_eq_true]
  cases s.places.find? (fun p=>p.1 == x)<;>simp
 ·rw [beq_eq_false_iff_ne.2 (fun e'=>e e'.symm),beq_eq_false_iff_ne.2 e]
  cases s.places.find? (fun p=>p.1 == x)<;>simp
theorem run_eq:∀ (b:List Ln) (s:BS) (seen:List B8),s.bad=false→(∀ m,m∉seen→(s.find m).isSome=false)→okLabs seen b=true→
  (∀ i to,Ln.ins i to∈b→to≠[]→i=⟨i.op,i.a,0,0,0⟩)→
  s.run b=⟨s.code++(insL b).map (·.1),s.places++plOf s.code.length b,s.links++lkOf s.code.length b,false⟩
 | [],s,seen,hb,_,_,_=>by
  obtain⟨c,p,l,bad⟩:=s
  have:bad=false:=hb
  subst this
  simp [BS.run,insL,plOf,lkOf]
 | .lab m::r,s,seen,hb,hs,ho,hi=>by
  rw [okLabs,Bool.and_eq_true,Bool.and_eq_true] at ho
  obtain⟨h1,h2,h3⟩:=ho
  have hm:m∉seen:=by intro e;rw [List.contains_iff_mem.2 e] at h2;cases h2
  have ha:s.add (.lab m)={ s with places:=s.places++[(m,s.code.length)] }:=by
   show s.at_ m=_
   unfold BS.at_
   rw [if_neg (by rw [hs m hm,h1];decide)]
  rw [BS.run,ha,run_eq r { s with places:=s.places++[(m,s.code.length)] } (m::seen) hb (fun x hx=>by
   rw [find_snoc',hs x (fun e=>hx (by simp [e])),Bool.false_or,beq_eq_false_iff_ne.2 (fun e=>hx (by simp [e]))]) h3 (fun i to h=>hi i to (by simp [h]))]
  simp [insL,plOf,lkOf]
 | .ins i []::r,s,seen,hb,hs,ho,hi=>by
  rw [okLabs] at ho
  rw [BS.run,show s.add (.ins i [])=s.do_ i from rfl,run_eq r (s.do_ i) seen hb hs ho (fun i to h=>hi i to (by simp [h]))]
  simp [insL,plOf,lkOf,BS.do_]
 | .ins i (c::to)::r,s,seen,hb,hs,ho,hi=>by
  rw [okLabs] at ho
  have he:=hi i (c::to) (by simp) (by simp)
  rw [BS.run,show s.add (.ins i (c::to))=s.go_ i.op i.a (c::to) from rfl,run_eq r (s.go_ i.op i.a (c::to)) seen hb hs ho (fun i to h=>hi i to (by simp [h]))]
  simp [insL,plOf,lkOf,BS.go_,←he]
theorem linkTo_lk(b:List Ln)(s:BS)(hf:∀ nm,s.find nm=placeL nm 0 b):∀ (q:List Ln) (A:List Ins),
  (∀ i to,Ln.ins i to∈q→to≠[]→jumps i.op=true∧(placeL to 0 b).isSome=true)→
  s.linkTo (lkOf A.length q) (A++(insL q).map (·.1))=some (A++(insL q).map (resI b))
 | [],A,_=>rfl
 | .lab m::r,A,h=>by rw [lkOf,insL];exact linkTo_lk b s hf r A (fun i to hm=>h i to (by simp [hm]))
 | .ins i to::r,A,h=>by
  have ih:=linkTo_lk b s hf r
  rw [lkOf,insL]
  by_cases ht:to=[]
  ·rw [if_pos ht]
   have:=ih (A++[i]) (fun i to hm=>h i to (by simp [hm]))
   have hr:resI b (i,to)=i:=by unfold resI;rw [if_pos ht]
   rw [List.length_append] at this
   rw [List.map_cons,List.map_cons,hr]
   simpa using this
  ·rw [if_neg ht]
   obtain⟨hj,hp⟩:=h i to (by simp) ht
   obtain⟨n,hn⟩:=Option.isSome_iff_exists.1 hp
   have hr:resI b (i,to)={ i with k:=(n:Int) }:=by unfold resI;rw [if_neg ht];simp only [];rw [hn];rfl
   have hg:(A++List.map (fun x=>x.1) ((i,to)::insL r))[A.length]? = some i:=by simp
   unfold BS.linkTo
   rw [hf,hn,hg]
   simp only []
   rw [if_pos hj,List.map_cons,List.map_cons,hr,List.set_append_right _ _ (Nat.le_refl _),Nat.sub_self]
   have:=ih (A++[{ i with k:=(n:Int) }]) (fun i to hm=>h i to (by simp [hm]))
   rw [List.length_append] at this
   simpa using this
theorem jump_zero{i:Ins}{to:B8}(h:Fits i to)(ht:to≠[]):i=⟨i.op,i.a,0,0,0⟩:=by
 obtain⟨hj,hk,_⟩:=h.to ht
 have h1:=op_cases (P:=fun op=>jumps op=true→hasB op 77=false∧hasB op 66=false∧hasB op 67=false) h.op (by decide)
 obtain⟨a1,a2,a3⟩:=h1 hj
 have hb:=h.b
 have hc:=h.c
 rw [a1,a2] at hb
 rw [a3] at hc
 obtain⟨op,a,b,c,k⟩:=i
 simp only [Bool.false_eq_true,if_false] at hb hc hk ⊢
 have e1:b=0:=by omega
 have e2:c=0:=by omega
 rw [e1,e2,hk]
theorem out_run{b:List Ln}(H:OkL b):(BS.zero.run b).out=some (resL b):=by
 have hr:=run_eq b BS.zero [] rfl (fun m _=>rfl) H.labs (fun i to hm ht=>jump_zero (H.all _ hm) ht)
 have hf:∀ nm,(BS.zero.run b).find nm=placeL nm 0 b:=by
  intro nm
  rw [hr,←find_pl nm b 0]
  rfl
 have:=linkTo_lk b (BS.zero.run b) hf b [] (fun i to hm ht=>⟨((H.all _ hm:Fits i to).to ht).1,by
  have:=H.to _ hm
  replace this:(if to=[] then !jumps i.op || decide (i.k≤((insL b).length:Int)) else (placeL to 0 b).isSome)=true:=this
  rw [if_neg ht] at this
  exact this⟩)
 unfold BS.out
 have hb:(BS.zero.run b).bad=false:=by rw [hr]
 have hl:(BS.zero.run b).links=lkOf 0 b:=by rw [hr];rfl
 have hc:(BS.zero.run b).code=(insL b).map (·.1):=by rw [hr];rfl
 rw [hb,hl,hc]
 simpa [resL] using this
theorem links_run{b:List Ln}(H:OkL b):∀ p∈(BS.zero.run b).links,p.2.length≤20:=by
 have hr:=run_eq b BS.zero [] rfl (fun m _=>rfl) H.labs (fun i to hm ht=>jump_zero (H.all _ hm) ht)
 rw [hr]
 have key:∀ (q:List Ln) (n:Nat),(∀ l∈q,l.Ok)→∀ p∈lkOf n q,p.2.length≤20:=by
  intro q
  induction q with
  | nil=>intro n _ p hp;cases hp
  | cons l r ih=>
   intro n h p hp
   cases l with
   | lab m=>exact ih n (fun x hx=>h x (by simp [hx])) p hp
   | ins i to=>
    rw [lkOf] at hp
    split at hp
    ·exact ih (n+1) (fun x hx=>h x (by simp [hx])) p hp
    ·next ht=>
     rcases List.mem_cons.1 hp with e | hp
     ·rw [e];exact (nameOk_len ((h (.ins i to) (by simp):Fits i to).to ht).2.2).2
     ·exact ih (n+1) (fun x hx=>h x (by simp [hx])) p hp
 intro p hp
 exact key b 0 H.all p (by simpa [BS.zero] using hp)
end Go.Proofs.YtckmkaeopnnbbaaGreatDoor.As
end

section
set_option linter.unusedVariables false
set_option maxRecDepth 4000
namespace Go.Proofs.YtckmkaeopnnbbaaGreatDoor.As

/-! ### Tas -/
/-! ### Ttas -/
/-! ### Tick -/
/-! ### Rel -/
/-! ### Pass -/
/-! ### ClaimZ -/
/-! ### ProveE -/
end Go.Proofs.YtckmkaeopnnbbaaGreatDoor.As
end

