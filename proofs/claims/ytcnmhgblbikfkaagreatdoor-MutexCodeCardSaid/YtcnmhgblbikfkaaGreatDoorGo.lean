/- Plain Lean: the document's reading of code as text (the package deadlatchref04),by lists of bytes. No program in sight. Plain Lean: laws of the document's reading of a text. No program in sight. Plain Lean: a line of an instruction,and what the document reads of it. No program in sight. Plain Lean: a line of an instruction is read as that instruction. No program in sight. Plain Lean: lines of labels and instructions are read as the code that they make. No program in sight. Plain Lean: lines into which numbers are put,and what is read of them. No program in sight. Plain Lean: what a builder gathers of lines is the code that they make. No program in sight. Plain Lean: numbers in the document's lines are left as they are when addresses are filled in; short lines. No program in sight. Plain Lean: the document's lines of the locks of layer 20,and the code that they make. No program in sight. -/
import Derived.Test.YtcnmhgblbikfkaaGreatDoorGa
section
namespace Go.Proofs.YtcnmhgblbikfkaaGreatDoor.As

def splitB(by_:UInt8):B8→List B8
 | []=>[[]]
 | c::r=>if c=by_ then []::splitB by_ r else
  match splitB by_ r with
  | h::t=>(c::h)::t
  | []=>[[c]]
def valB(l:B8):Nat:=l.foldl (fun n c=>10*n+(c.toNat - 48)) 0
def numB(l:B8):Int:=
 if l.length=0∨10 < l.length∨(1 < l.length∧l[0]? = some 48) then -1 else if l.all isDig then (if 4294967295 < valB l then -1 else (valB l:Int)) else -1
def regB:B8→Int
 | [r,c]=>if r=114∧48≤c.toNat∧c.toNat≤55 then (c.toNat:Int) - 48 else -1
 | _ => -1
def opB(name:B8):Int:=if opNames.contains name then (opNames.idxOf name:Int) else -1
def opRows:List B8:=[[104,97,108,116],[115,101,116,32,65,75],[109,111,118,101,32,65,66],[97,100,100,32,65,66,67],[115,117,98,32,65,66,67],[109,117,108,32,65,66,67],[97,110,100,32,65,66,67],[111,114,32,65,66,67],[120,111,114,32,65,66,67],[115,104,108,32,65,66,67],[115,104,114,32,65,66,67],[108,101,115,115,32,65,66,67],[115,97,109,101,32,65,66,67],[106,117,109,112,32,84],[122,101,114,111,32,65,84],[115,111,109,101,32,65,84],[108,111,97,100,32,65,77,75],[115,116,111,114,101,32,65,77,75],[102,101,110,99,101],[115,119,97,112,32,65,77,75],[102,101,116,99,104,32,65,77,75],[99,97,115,32,65,67,77,75],[111,117,116,32,65],[119,97,105,116,32,65,77,75],[119,97,107,101,32,65,77,75],[114,101,109,111,116,101],[121,105,101,108,100],[109,97,114,107,32,65,75]]
def addrB(l:B8):Int×Int:=
 if l.length < 3∨l[0]? ≠ some 91∨l[l.length - 1]? ≠ some 93 then (-1,-1) else
  let s:=(l.drop 1).take (l.length - 2)
  if s.contains 43 then
   let i:=s.idxOf 43
   if regB (s.take i) < 0 then (-1,-1) else (regB (s.take i),numB (s.drop (i+1)))
  else (8,numB s)
def hasB(op:Int)(c:UInt8):Bool:=(opField op).contains c
def ifMemB(f:B8):Int:=if f.contains 77 then 1 else 0
def fieldsB:B8→List B8→Ins→B8→Option (Ins×B8)
 | [],_,i,to=>some (i,to)
 | _::_,[],_,_=>none
 | f::r,w::ws,i,to=>
  if f=65∨f=66∨f=67 then
   if regB w < 0 then none else fieldsB r ws (if f=65 then { i with a:=regB w } else if f=66 then { i with b:=regB w } else { i with c:=regB w }) to
  else if f=77 then
   if (addrB w).1 < 0∨(addrB w).2 < 0 then none else some ({ i with b:=(addrB w).1,k:=(addrB w).2 },[])
  else if f=75 then
   if numB w < 0 then none else fieldsB r ws { i with k:=numB w } to
  else if f=84 then
   if w.length < 2∨w[0]? ≠ some 64 then none else
    if 0≤numB (w.drop 1) then fieldsB r ws { i with k:=numB (w.drop 1) } to
    else if nameOk (w.drop 1) then fieldsB r ws i (w.drop 1)
    else none
  else fieldsB r ws i to
def readB(t:B8):Option (Ins×B8):=
 let words:=splitB 32 t
 let op:=opB (words.headD [])
 if op < 0 then none else
  if (words.length:Int)≠(opField op).length+1 - ifMemB (opField op) then none else fieldsB (opField op) words.tail ⟨op,0,0,0,0⟩ []
def placeGo(name:B8):Int→List B8→Int
 | _,[] => -1
 | n,l::r=>if l=[] then placeGo name n r else if l=name++[58] then n else placeGo name (if l.getLast? = some 58 then n else n+1) r
def placeB(lines:List B8)(name:B8):Int:=placeGo name 0 lines
def lineB(lines:List B8)(n:Nat)(t:B8)(out:List Ins):Except (Int×Int) (List Ins):=
 if t=[] then .ok out
 else if t.getLast? = some 58 then
  if nameOk t.dropLast=false then .error (n+1,3)
  else if 0≤placeB (lines.take n) t.dropLast then .error (n+1,6)
  else .ok out
 else match readB t with
  | none=>.error (n+1,3)
  | some (i,_)=>if 4000≤out.length then .error (n+1,4) else .ok (out++[i])
def pass1(lines:List B8):Nat→Except (Int×Int) (List Ins)
 | 0=>.ok []
 | n+1=>(pass1 lines n).bind (fun out=>lineB lines n (lines.getD n []) out)
def jumpB(lines:List B8)(n:Nat)(t:B8)(k:Nat)(out:List Ins):Except (Int×Int) (Nat×List Ins):=
 if t=[]∨t.getLast? = some 58 then .ok (k,out)
 else match readB t with
  | none=>.ok (k+1,out)
  | some (i,to)=>
   if hasB i.op 84 then
    if to≠[]∧placeB lines to < 0 then .error (n+1,5) else
     let out':=if to=[] then out else out.modify k (fun x=>{ x with k:=placeB lines to })
     if (out.length:Int) < (out'.getD k ⟨0,0,0,0,0⟩).k then .error (n+1,5) else .ok (k+1,out')
   else .ok (k+1,out)
def pass2(lines:List B8)(out:List Ins):Nat→Except (Int×Int) (Nat×List Ins)
 | 0=>.ok (0,out)
 | n+1=>(pass2 lines out n).bind (fun r=>jumpB lines n (lines.getD n []) r.1 r.2)
def parseB(s:B8):List Ins×Int×Int:=
 if 20000 < s.length then ([],0,4) else
  let lines:=splitB 10 s
  match pass1 lines lines.length with
  | .error (n,e)=>([],n,e)
  | .ok out=>
   match pass2 lines out lines.length with
   | .error (n,e)=>([],n,e)
   | .ok r=>(r.2,0,0)
end Go.Proofs.YtcnmhgblbikfkaaGreatDoor.As
end

section
set_option linter.unusedVariables false
namespace Go.Proofs.YtcnmhgblbikfkaaGreatDoor.As

theorem splitB_ne'(b:UInt8):∀ l:B8,splitB b l≠[]
 | []=>by simp [splitB]
 | c::r=>by
  unfold splitB
  split
  ·simp
  ·cases h:splitB b r with
   | nil=>simp
   | cons x y=>simp
theorem splitB_len(b:UInt8):∀ l:B8,(splitB b l).length≤l.length+1∧∀ x∈splitB b l,x.length≤l.length
 | []=>by simp [splitB]
 | c::r=>by
  have ih:=splitB_len b r
  unfold splitB
  split
  ·refine⟨by simp;omega,?_⟩
   intro x hx
   rcases List.mem_cons.1 hx with e | hx
   ·rw [e];simp
   ·have:=ih.2 x hx;simp;omega
  ·cases h:splitB b r with
   | nil=>exact absurd h (splitB_ne' b r)
   | cons y z=>
    rw [h] at ih
    refine⟨by have:=ih.1;simp at this ⊢; omega,?_⟩
    intro x hx
    rcases List.mem_cons.1 hx with e | hx
    ·rw [e];have:=ih.2 y (by simp);simp;omega
    ·have:=ih.2 x (by simp [hx]);simp;omega
theorem numB_le(l:B8):numB l≤4294967295:=by
 unfold numB
 split
 ·omega
 ·split
  ·split<;>omega
  ·omega
theorem addrB_le(l:B8):(addrB l).2≤4294967295:=by
 unfold addrB
 split
 ·simp
 ·simp only []
  split
  ·split
   ·simp
   ·exact numB_le _
  ·exact numB_le _
theorem pass1_succ{lines:List B8}{n:Nat}{out:List Ins}(h:pass1 lines n=.ok out):pass1 lines (n+1)=lineB lines n (lines.getD n []) out:=by
 rw [pass1,h];rfl
theorem pass1_err{lines:List B8}{n:Nat}{e:Int×Int}(h:pass1 lines n=.error e):∀ d,pass1 lines (n+d)=.error e
 | 0=>h
 | d+1=>by rw [←Nat.add_assoc,pass1,pass1_err h d];rfl
theorem parse_err1{s:B8}{n:Nat}{e:Int×Int}(hs:s.length≤20000)(h:pass1 (splitB 10 s) n=.error e)(hn:n≤(splitB 10 s).length):parseB s=([],e.1,e.2):=by
 have:=pass1_err h ((splitB 10 s).length - n)
 rw [show n+((splitB 10 s).length - n)=(splitB 10 s).length from by omega] at this
 unfold parseB
 rw [if_neg (by omega)]
 simp only []
 rw [this]
def isI(t:B8):Bool := !(t == []) && !(t.getLast? == some 58)
def cntI(ws:List B8):Nat→Nat
 | 0=>0
 | n+1=>cntI ws n+if isI (ws.getD n []) then 1 else 0
theorem isI_yes{t:B8}(h0:t≠[])(h1:t.getLast? ≠ some 58):isI t=true:=by simp [isI,h0,h1]
theorem isI_no{t:B8}(h:t=[]∨t.getLast? = some 58):isI t=false:=by rcases h with h | h<;>simp [isI,h]
theorem lineB_ok{ws:List B8}{n:Nat}{t:B8}{out o2:List Ins}(h:lineB ws n t out=.ok o2):
  (isI t=false∧o2=out)∨(isI t=true∧∃ x,readB t=some x∧o2=out++[x.1]):=by
 unfold lineB at h
 split at h
 ·next h0=>injection h with h;exact .inl ⟨isI_no (.inl h0),h.symm⟩
 ·next h0=>
  split at h
  ·next h1=>
   split at h
   ·cases h
   ·split at h
    ·cases h
    ·injection h with h;exact .inl ⟨isI_no (.inr h1),h.symm⟩
  ·next h1=>
   split at h
   ·cases h
   ·next i to hr=>
    split at h
    ·cases h
    ·injection h with h;exact .inr ⟨isI_yes h0 h1,(i,to),hr,h.symm⟩
theorem pass1_pre{ws:List B8}{n:Nat}{o:List Ins}(h:pass1 ws (n+1)=.ok o):∃ o1,pass1 ws n=.ok o1∧lineB ws n (ws.getD n []) o1=.ok o:=by
 rw [pass1] at h
 cases hp:pass1 ws n with
 | error e=>rw [hp] at h;cases h
 | ok o1=>rw [hp] at h;exact⟨o1,rfl,h⟩
theorem pass1_len{ws:List B8}:∀ {n:Nat} {o:List Ins},pass1 ws n=.ok o→o.length=cntI ws n
 | 0,o,h=>by injection h with h;rw [←h];rfl
 | n+1,o,h=>by
  obtain⟨o1,h1,h2⟩:=pass1_pre h
  have:=pass1_len h1
  rcases lineB_ok h2 with⟨a,b⟩ | ⟨a,x,_,b⟩
  ·rw [b,cntI,a];simpa using this
  ·rw [b,cntI,a];simpa using this
theorem cntI_mono(ws:List B8)(n:Nat):∀ d,cntI ws n≤cntI ws (n+d)
 | 0=>Nat.le_refl _
 | d+1=>by have:=cntI_mono ws n d;rw [←Nat.add_assoc,cntI];omega
theorem pass1_at{ws:List B8}{n:Nat}(hi:isI (ws.getD n [])=true):∀ (d:Nat) {o:List Ins},pass1 ws (n+1+d)=.ok o→∃ x,readB (ws.getD n [])=some x
 | 0,o,h=>by
  obtain⟨o1,h1,h2⟩:=pass1_pre h
  rcases lineB_ok h2 with⟨a,_⟩ | ⟨_,x,hx,_⟩
  ·rw [hi] at a;cases a
  ·exact⟨x,hx⟩
 | d+1,o,h=>by
  obtain⟨o1,h1,_⟩:=pass1_pre h
  exact pass1_at hi d h1
theorem pass1_ins{ws:List B8}{n:Nat}{o:List Ins}(hn:n < ws.length)(hi:isI (ws.getD n [])=true)(h:pass1 ws ws.length=.ok o):(∃ x,readB (ws.getD n [])=some x)∧cntI ws n < o.length:=by
 refine⟨pass1_at hi (ws.length - (n+1)) (by rw [show n+1+(ws.length - (n+1))=ws.length from by omega];exact h),?_⟩
 rw [pass1_len h]
 have h1:=cntI_mono ws (n+1) (ws.length - (n+1))
 rw [show n+1+(ws.length - (n+1))=ws.length from by omega,cntI,hi] at h1
 simp at h1
 omega
theorem fieldsB_k:∀ (f:B8) (ws:List B8) (i:Ins) (to:B8) (x:Ins×B8),0≤i.k∧i.k≤4294967295→fieldsB f ws i to=some x→0≤x.1.k∧x.1.k≤4294967295
 | [],ws,i,to,x,hk,h=>by rw [fieldsB] at h;injection h with h;rw [←h];exact hk
 | c::r,[],i,to,x,hk,h=>by rw [fieldsB] at h;cases h
 | c::r,w::ws,i,to,x,hk,h=>by
  rw [fieldsB] at h
  have h1:=numB_le w
  have h2:=numB_le (w.drop 1)
  have h3:=addrB_le w
  split at h
  ·split at h
   ·cases h
   ·exact fieldsB_k _ _ _ _ _ (by split;exact hk;split<;>exact hk) h
  ·split at h
   ·split at h
    ·cases h
    ·injection h with h;rw [←h];simp only [];omega
   ·split at h
    ·split at h
     ·cases h
     ·exact fieldsB_k _ _ _ _ _ (by simp only [];omega) h
    ·split at h
     ·split at h
      ·cases h
      ·split at h
       ·exact fieldsB_k _ _ _ _ _ (by simp only [];omega) h
       ·split at h
        ·exact fieldsB_k _ _ _ _ _ hk h
        ·cases h
     ·exact fieldsB_k _ _ _ _ _ hk h
theorem readB_k{t:B8}{x:Ins×B8}(h:readB t=some x):0≤x.1.k∧x.1.k≤4294967295:=by
 unfold readB at h
 simp only [] at h
 split at h
 ·cases h
 ·split at h
  ·cases h
  ·exact fieldsB_k _ _ _ _ _ (by simp) h
theorem fieldsB_to(L:Nat):∀ (f:B8) (ws:List B8) (i:Ins) (to:B8) (x:Ins×B8),to.length≤L→(∀ w∈ws,w.length≤L)→fieldsB f ws i to=some x→x.2.length≤L
 | [],ws,i,to,x,ht,hw,h=>by rw [fieldsB] at h;injection h with h;rw [←h];exact ht
 | c::r,[],i,to,x,ht,hw,h=>by rw [fieldsB] at h;cases h
 | c::r,w::ws,i,to,x,ht,hw,h=>by
  rw [fieldsB] at h
  have h2:∀ w∈ws,w.length≤L:=fun y hy=>hw y (by simp [hy])
  have h1:(w.drop 1).length≤L:=by have:=hw w (by simp);rw [List.length_drop];omega
  split at h
  ·split at h
   ·cases h
   ·exact fieldsB_to L _ _ _ _ _ ht h2 h
  ·split at h
   ·split at h
    ·cases h
    ·injection h with h;rw [←h];simp
   ·split at h
    ·split at h
     ·cases h
     ·exact fieldsB_to L _ _ _ _ _ ht h2 h
    ·split at h
     ·split at h
      ·cases h
      ·split at h
       ·exact fieldsB_to L _ _ _ _ _ ht h2 h
       ·split at h
        ·exact fieldsB_to L _ _ _ _ _ h1 h2 h
        ·cases h
     ·exact fieldsB_to L _ _ _ _ _ ht h2 h
theorem readB_to{t:B8}{x:Ins×B8}(h:readB t=some x):x.2.length≤t.length:=by
 unfold readB at h
 simp only [] at h
 split at h
 ·cases h
 ·split at h
  ·cases h
  ·exact fieldsB_to _ _ _ _ _ _ (by simp) (fun w hw=>(splitB_len 32 t).2 w (List.mem_of_mem_tail hw)) h
theorem pass1_k{ws:List B8}:∀ {n:Nat} {o:List Ins},pass1 ws n=.ok o→∀ x∈o,0≤x.k∧x.k≤4294967295
 | 0,o,h=>by injection h with h;rw [←h];intro x hx;cases hx
 | n+1,o,h=>by
  obtain⟨o1,h1,h2⟩:=pass1_pre h
  have:=pass1_k h1
  rcases lineB_ok h2 with⟨a,b⟩ | ⟨a,x,hx,b⟩
  ·rw [b];exact this
  ·rw [b]
   intro y hy
   rcases List.mem_append.1 hy with hy | hy
   ·exact this y hy
   ·have:y=x.1:=by simpa using hy
    rw [this];exact readB_k hx
theorem placeGo_le(nm:B8):∀ (l:List B8) (n:Int),0≤n→placeGo nm n l≤n+l.length
 | [],n,h=>by rw [placeGo];simp;omega
 | x::l,n,h=>by
  rw [placeGo]
  have h1:=placeGo_le nm l n h
  have h2:=placeGo_le nm l (n+1) (by omega)
  rw [List.length_cons]
  split
  ·omega
  ·split
   ·omega
   ·split<;>omega
theorem placeB_le(ws:List B8)(nm:B8):placeB ws nm≤ws.length:=by have:=placeGo_le nm ws 0 (by omega);unfold placeB;omega
theorem pass2_succ{ws:List B8}{o cur:List Ins}{n k:Nat}(h:pass2 ws o n=.ok (k,cur)):pass2 ws o (n+1)=jumpB ws n (ws.getD n []) k cur:=by
 rw [pass2,h];rfl
theorem pass2_err{ws:List B8}{o:List Ins}{n:Nat}{e:Int×Int}(h:pass2 ws o n=.error e):∀ d,pass2 ws o (n+d)=.error e
 | 0=>h
 | d+1=>by rw [←Nat.add_assoc,pass2,pass2_err h d];rfl
theorem parse_err2{s:B8}{n:Nat}{o:List Ins}{e:Int×Int}(hs:s.length≤20000)(h1:pass1 (splitB 10 s) (splitB 10 s).length=.ok o)(h:pass2 (splitB 10 s) o n=.error e)(hn:n≤(splitB 10 s).length):parseB s=([],e.1,e.2):=by
 have:=pass2_err h ((splitB 10 s).length - n)
 rw [show n+((splitB 10 s).length - n)=(splitB 10 s).length from by omega] at this
 unfold parseB
 rw [if_neg (by omega)]
 simp only []
 rw [h1]
 simp only []
 rw [this]
theorem parse_ok{s:B8}{o:List Ins}{x:Nat×List Ins}(hs:s.length≤20000)(h1:pass1 (splitB 10 s) (splitB 10 s).length=.ok o)(h:pass2 (splitB 10 s) o (splitB 10 s).length=.ok x):parseB s=(x.2,0,0):=by
 unfold parseB
 rw [if_neg (by omega)]
 simp only []
 rw [h1]
 simp only []
 rw [h]
end Go.Proofs.YtcnmhgblbikfkaaGreatDoor.As
end

section
set_option linter.unusedVariables false
namespace Go.Proofs.YtcnmhgblbikfkaaGreatDoor.As

def decB(n:Nat):B8:=if n < 10 then [UInt8.ofNat (48+n)] else decB (n / 10)++[UInt8.ofNat (48+n % 10)]
termination_by n
theorem decB_small{n:Nat}(h:n < 10):decB n=[UInt8.ofNat (48+n)]:=by rw [decB,if_pos h]
theorem decB_big{n:Nat}(h:¬n < 10):decB n=decB (n / 10)++[UInt8.ofNat (48+n % 10)]:=by rw [decB,if_neg h]
theorem dig_toNat{d:Nat}(h:d < 10):(UInt8.ofNat (48+d)).toNat=48+d:=by
 rw [UInt8.toNat_ofNat'];omega
theorem dig_isDig{d:Nat}(h:d < 10):isDig (UInt8.ofNat (48+d))=true:=by
 have:=dig_toNat h
 unfold isDig
 rw [Bool.and_eq_true,decide_eq_true_eq,decide_eq_true_eq,UInt8.le_iff_toNat_le,UInt8.le_iff_toNat_le,this]
 exact⟨by show 48≤_;omega,by show _≤57;omega⟩
theorem decB_all(n:Nat):(decB n).all isDig=true:=by
 induction n using Nat.strongRecOn with
 | _ n ih=>
  by_cases h:n < 10
  ·rw [decB_small h,List.all_cons,dig_isDig h];rfl
  ·rw [decB_big h,List.all_append,ih (n / 10) (by omega),List.all_cons,dig_isDig (by omega)];rfl
theorem decB_val(n:Nat):valB (decB n)=n:=by
 induction n using Nat.strongRecOn with
 | _ n ih=>
  by_cases h:n < 10
  ·rw [decB_small h]
   show 10*0+((UInt8.ofNat (48+n)).toNat - 48)=n
   rw [dig_toNat h];omega
  ·rw [decB_big h]
   unfold valB
   rw [List.foldl_append]
   have:=ih (n / 10) (by omega)
   unfold valB at this
   rw [this]
   show 10*(n / 10)+((UInt8.ofNat (48+n % 10)).toNat - 48)=n
   rw [dig_toNat (by omega)];omega
theorem decB_pos(n:Nat):0 < (decB n).length:=by
 by_cases h:n < 10
 ·rw [decB_small h];simp
 ·rw [decB_big h];simp
theorem decB_ne(n:Nat):decB n≠[]:=List.length_pos_iff.1 (decB_pos n)
theorem decB_len(m:Nat):∀ n:Nat,n < 10 ^ (m+1)→(decB n).length≤m+1:=by
 induction m with
 | zero=>intro n h;rw [decB_small (by simpa using h)];simp
 | succ m ih=>
  intro n h
  by_cases hs:n < 10
  ·rw [decB_small hs];simp
  ·rw [decB_big hs,List.length_append]
   have:=ih (n / 10) (by rw [Nat.pow_succ] at h;omega)
   simp;omega
theorem decB_head(n:Nat):1≤n→(decB n)[0]? ≠ some 48:=by
 induction n using Nat.strongRecOn with
 | _ n ih=>
  intro h1
  by_cases h:n < 10
  ·rw [decB_small h]
   intro e
   have e:UInt8.ofNat (48+n)=48:=by simpa using e
   have:=congrArg UInt8.toNat e
   rw [dig_toNat h] at this
   have:(48:UInt8).toNat=48:=rfl
   omega
  ·rw [decB_big h,List.getElem?_append_left (decB_pos _)]
   exact ih (n / 10) (by omega) (by omega)
theorem numB_dec{n:Nat}(h:n≤4294967295):numB (decB n)=n:=by
 unfold numB
 rw [decB_all,decB_val,if_pos rfl,if_neg,if_neg (by omega)]
 have h1:=decB_pos n
 have h2:=decB_len 9 n (by omega)
 rintro (e | e | ⟨e1,e2⟩)
 ·omega
 ·omega
 ·by_cases h3:1≤n
  ·exact decB_head n h3 e2
  ·have:n=0:=by omega
   subst this
   rw [decB_small (by omega)] at e1
   simp at e1
theorem isDig_ne{c:UInt8}(h:isDig c=true):48≤c.toNat∧c.toNat≤57:=by
 unfold isDig at h
 rw [Bool.and_eq_true,decide_eq_true_eq,decide_eq_true_eq,UInt8.le_iff_toNat_le,UInt8.le_iff_toNat_le] at h
 exact h
theorem decB_mem{n:Nat}{c:UInt8}(h:c∈decB n):48≤c.toNat∧c.toNat≤57:=isDig_ne (List.all_eq_true.1 (decB_all n) c h)
theorem isLet_ne{c:UInt8}(h:isLet c=true):97≤c.toNat∧c.toNat≤122:=by
 unfold isLet at h
 rw [Bool.and_eq_true,decide_eq_true_eq,decide_eq_true_eq,UInt8.le_iff_toNat_le,UInt8.le_iff_toNat_le] at h
 exact h
theorem nameOk_mem{n:B8}(h:nameOk n=true){c:UInt8}(hc:c∈n):48≤c.toNat∧c.toNat≤122∧c.toNat≠58∧c.toNat≠64∧c.toNat≠91∧c.toNat≠93:=by
 cases n with
 | nil=>cases hc
 | cons x r=>
  unfold nameOk at h
  rw [Bool.and_eq_true,Bool.and_eq_true] at h
  obtain⟨h1,h2,_⟩:=h
  rcases List.mem_cons.1 hc with e | hc
  ·rw [e];have:=isLet_ne h1;omega
  ·have:=List.all_eq_true.1 h2 c hc
   rw [Bool.or_eq_true] at this
   rcases this with h | h
   ·have:=isLet_ne h;omega
   ·have:=isDig_ne h;omega
theorem nameOk_len{n:B8}(h:nameOk n=true):1≤n.length∧n.length≤20:=by
 cases n with
 | nil=>cases h
 | cons x r=>
  unfold nameOk at h
  rw [Bool.and_eq_true,Bool.and_eq_true] at h
  have:=h.2.2
  simp at this
  simp;omega
theorem nameOk_num{n:B8}(h:nameOk n=true):numB n = -1:=by
 cases n with
 | nil=>cases h
 | cons x r=>
  unfold nameOk at h
  rw [Bool.and_eq_true] at h
  have h1:=isLet_ne h.1
  have:isDig x=false:=by
   cases e:isDig x with
   | false=>rfl
   | true=>have:=isDig_ne e;omega
  unfold numB
  split
  ·rfl
  ·rw [List.all_cons,this];rfl

/-! ### Parting and joining -/
def joinB(b:UInt8):List B8→B8
 | []=>[]
 | [w]=>w
 | w::v::r=>w++b::joinB b (v::r)
theorem splitB_app(b:UInt8):∀ (w t:B8),b∉w→splitB b (w++b::t)=w::splitB b t
 | [],t,h=>by rw [List.nil_append,splitB,if_pos rfl]
 | c::w,t,h=>by
  rw [List.cons_append,splitB,if_neg (fun e=>h (by simp [e])),splitB_app b w t (fun e=>h (by simp [e]))]
theorem splitB_none(b:UInt8):∀ (w:B8),b∉w→splitB b w=[w]
 | [],h=>rfl
 | c::w,h=>by rw [splitB,if_neg (fun e=>h (by simp [e])),splitB_none b w (fun e=>h (by simp [e]))]
theorem splitB_join(b:UInt8):∀ (ws:List B8),ws≠[]→(∀ w∈ws,b∉w)→splitB b (joinB b ws)=ws
 | [],h,_=>absurd rfl h
 | [w],_,h=>splitB_none b w (h w (by simp))
 | w::v::r,_,h=>by
  rw [joinB,splitB_app b _ _ (h w (by simp)),splitB_join b (v::r) (by simp) (fun x hx=>h x (by simp at hx ⊢; exact .inr hx))]
theorem joinB_mem{b:UInt8}:∀ {ws:List B8} {c:UInt8},c∈joinB b ws→c=b∨∃ w∈ws,c∈w
 | [],c,h=>by cases h
 | [w],c,h=>.inr ⟨w,by simp,h⟩
 | w::v::r,c,h=>by
  rw [joinB] at h
  rcases List.mem_append.1 h with h | h
  ·exact .inr ⟨w,by simp,h⟩
  ·rcases List.mem_cons.1 h with h | h
   ·exact .inl h
   ·rcases joinB_mem h with h | ⟨x,hx,h⟩
    ·exact .inl h
    ·exact .inr ⟨x,by simp at hx ⊢; exact .inr hx,h⟩
theorem joinB_len(b:UInt8):∀ (ws:List B8),(joinB b ws).length≤(ws.map (fun w=>w.length+1)).sum
 | []=>by simp [joinB]
 | [w]=>by simp [joinB]
 | w::v::r=>by
  rw [joinB]
  have:=joinB_len b (v::r)
  simp only [List.map_cons,List.sum_cons,List.length_append,List.length_cons] at this ⊢
  omega
theorem joinB_ne(b:UInt8):∀ (w:B8) (r:List B8),w≠[]→joinB b (w::r)≠[]
 | w,[],h=>h
 | w,v::r,h=>by rw [joinB];simp

/-! ### A line -/
def regW(a:Int):B8:=[114,UInt8.ofNat (48+a.toNat)]
def addrW(b k:Int):B8:=if b=8 then 91::(decB k.toNat++[93]) else 91::(regW b++(43::(decB k.toNat++[93])))
def wordsB(i:Ins)(to:B8):B8→List B8
 | []=>[]
 | f::r=>
  if f=65 then regW i.a::wordsB i to r
  else if f=66 then regW i.b::wordsB i to r
  else if f=67 then regW i.c::wordsB i to r
  else if f=77 then [addrW i.b i.k]
  else if f=75 then decB i.k.toNat::wordsB i to r
  else if f=84 then (64::(if to=[] then decB i.k.toNat else to))::wordsB i to r
  else []::wordsB i to r
def wordsOf(i:Ins)(to:B8):List B8:=opName i.op::wordsB i to (opField i.op)
def lineOf(i:Ins)(to:B8):B8:=joinB 32 (wordsOf i to)
structure Fits(i:Ins)(to:B8):Prop where
 op:0≤i.op∧i.op < 28
 a:0≤i.a∧i.a≤if hasB i.op 65 then 7 else 0
 b:0≤i.b∧i.b≤if hasB i.op 77 then 8 else if hasB i.op 66 then 7 else 0
 c:0≤i.c∧i.c≤if hasB i.op 67 then 7 else 0
 k:0≤i.k∧i.k≤if hasB i.op 75∨hasB i.op 84 then 4294967295 else 0
 to:to≠[]→jumps i.op=true∧i.k=0∧nameOk to=true

theorem regB_regW{a:Int}(h:0≤a∧a≤7):regB (regW a)=a:=by
 have:a=0∨a=1∨a=2∨a=3∨a=4∨a=5∨a=6∨a=7:=by omega
 rcases this with e | e | e | e | e | e | e | e<;>subst e<;>decide
theorem regW_mem{a:Int}(h:0≤a∧a≤7){c:UInt8}(hc:c∈regW a):c.toNat=114∨48≤c.toNat∧c.toNat≤57:=by
 unfold regW at hc
 rcases List.mem_cons.1 hc with e | hc
 ·rw [e];exact .inl rfl
 ·rw [List.mem_singleton] at hc
  rw [hc,dig_toNat (by omega)];omega
theorem mem43_dec(n:Nat):(43:UInt8)∉decB n++[93]:=by
 intro h
 rcases List.mem_append.1 h with h | h
 ·have:=decB_mem h
  have:(43:UInt8).toNat=43:=rfl
  omega
 ·simp at h
theorem addrB_addrW{b k:Int}(hb:0≤b∧b≤8)(hk:0≤k∧k≤4294967295):addrB (addrW b k)=(b,k):=by
 have hn:numB (decB k.toNat)=k:=by rw [numB_dec (by omega)];omega
 have hp:=decB_pos k.toNat
 have h43:(43:UInt8)∉decB k.toNat:=fun h=>mem43_dec k.toNat (by simp [h])
 unfold addrW
 by_cases h8:b=8
 ·rw [if_pos h8]
  unfold addrB
  rw [if_neg]
  ·simp only []
   have e:(List.drop 1 (91::(decB k.toNat++[93]))).take ((91::(decB k.toNat++[93])).length - 2)=decB k.toNat:=by
    simp
   rw [e,if_neg (by rw [List.contains_iff_mem];exact h43),hn,h8]
  ·rintro (e | e | e)
   ·simp at e;omega
   ·simp at e
   ·simp at e
 ·rw [if_neg h8]
  have hr:=regB_regW (a:=b) ⟨hb.1,by omega⟩
  have h43r:(43:UInt8)∉regW b:=by
   intro h
   have:=regW_mem (a:=b) ⟨hb.1,by omega⟩ h
   have:(43:UInt8).toNat=43:=rfl
   omega
  unfold addrB
  rw [if_neg]
  ·simp only []
   have e:(List.drop 1 (91::(regW b++(43::(decB k.toNat++[93]))))).take ((91::(regW b++(43::(decB k.toNat++[93])))).length - 2)=regW b++(43::decB k.toNat):=by
    have:(91::(regW b++(43::(decB k.toNat++[93])))).length - 2=(regW b++(43::decB k.toNat)).length:=by simp
    rw [this]
    show (regW b++(43::(decB k.toNat++[93]))).take _=_
    rw [show regW b++(43::(decB k.toNat++[93]))=(regW b++(43::decB k.toNat))++[93] from by simp,List.take_left]
   rw [e,if_pos (by rw [List.contains_iff_mem];simp)]
   have hix:(regW b++(43::decB k.toNat)).idxOf 43=2:=by
    rw [List.idxOf_append,if_neg h43r];simp [regW]
   rw [hix]
   have t2:(regW b++(43::decB k.toNat)).take 2=regW b:=by simp [regW]
   have d3:(regW b++(43::decB k.toNat)).drop (2+1)=decB k.toNat:=by simp [regW]
   rw [t2,d3,hr,hn,if_neg (by omega)]
  ·rintro (e | e | e)
   ·simp at e;omega
   ·simp at e
   ·simp [regW] at e
end Go.Proofs.YtcnmhgblbikfkaaGreatDoor.As
end

section
set_option linter.unusedVariables false
namespace Go.Proofs.YtcnmhgblbikfkaaGreatDoor.As

theorem fA{a:Int}(h:0≤a∧a≤7)(r:B8)(ws:List B8)(i:Ins)(to:B8):fieldsB (65::r) (regW a::ws) i to=fieldsB r ws { i with a:=a } to:=by
 rw [fieldsB,if_pos (.inl rfl),regB_regW h,if_neg (by omega),if_pos rfl]
theorem fB{a:Int}(h:0≤a∧a≤7)(r:B8)(ws:List B8)(i:Ins)(to:B8):fieldsB (66::r) (regW a::ws) i to=fieldsB r ws { i with b:=a } to:=by
 rw [fieldsB,if_pos (.inr (.inl rfl)),regB_regW h,if_neg (by omega),if_neg (by decide),if_pos rfl]
theorem fC{a:Int}(h:0≤a∧a≤7)(r:B8)(ws:List B8)(i:Ins)(to:B8):fieldsB (67::r) (regW a::ws) i to=fieldsB r ws { i with c:=a } to:=by
 rw [fieldsB,if_pos (.inr (.inr rfl)),regB_regW h,if_neg (by omega),if_neg (by decide),if_neg (by decide)]
theorem fM{b k:Int}(hb:0≤b∧b≤8)(hk:0≤k∧k≤4294967295)(r:B8)(ws:List B8)(i:Ins)(to:B8):fieldsB (77::r) (addrW b k::ws) i to=some ({ i with b:=b,k:=k },[]):=by
 rw [fieldsB,if_neg (by decide),if_pos rfl,addrB_addrW hb hk,if_neg (by simp only [];omega)]
theorem fK{k:Int}(hk:0≤k∧k≤4294967295)(r:B8)(ws:List B8)(i:Ins)(to:B8):fieldsB (75::r) (decB k.toNat::ws) i to=fieldsB r ws { i with k:=k } to:=by
 have hn:numB (decB k.toNat)=k:=by rw [numB_dec (by omega)];omega
 rw [fieldsB,if_neg (by decide),if_neg (by decide),if_pos rfl,hn,if_neg (by omega)]
theorem fT{k:Int}(hk:0≤k∧k≤4294967295)(r:B8)(ws:List B8)(i:Ins)(to t:B8)(ht:t≠[]→nameOk t=true):fieldsB (84::r) ((64::(if t=[] then decB k.toNat else t))::ws) i to=if t=[] then fieldsB r ws { i with k:=k } to else fieldsB r ws i t:=by
 have hn:numB (decB k.toNat)=k:=by rw [numB_dec (by omega)];omega
 rw [fieldsB,if_neg (by decide),if_neg (by decide),if_neg (by decide),if_pos rfl]
 by_cases h:t=[]
 ·rw [if_pos h,if_pos h]
  have:=decB_pos k.toNat
  rw [if_neg (by simp;omega)]
  simp only [List.drop_one,List.tail_cons]
  rw [hn,if_pos hk.1]
 ·rw [if_neg h,if_neg h]
  have h1:=nameOk_len (ht h)
  rw [if_neg (by simp;omega)]
  simp only [List.drop_one,List.tail_cons]
  rw [nameOk_num (ht h),if_neg (by omega),if_pos (ht h)]
theorem op_cases{P:Int→Prop}{op:Int}(h:0≤op∧op < 28)(H:∀ n:Fin 28,P (n.val:Int)):P op:=by
 have:=H ⟨op.toNat,by omega⟩
 have e:(op.toNat:Int)=op:=by omega
 rw [e] at this
 exact this
theorem opB_opName{op:Int}(h:0≤op∧op < 28):opB (opName op)=op:=
 op_cases (P:=fun op=>opB (opName op)=op) h (by decide)
theorem opName_mem{op:Int}(h:0≤op∧op < 28):(opName op).all (fun c=>isLet c)=true∧opName op≠[]∧(opName op).length≤6:=
 op_cases (P:=fun op=>(opName op).all (fun c=>isLet c)=true∧opName op≠[]∧(opName op).length≤6) h (by decide)

set_option maxHeartbeats 4000000 in
theorem fields_words{i:Ins}{to:B8}(h:Fits i to):fieldsB (opField i.op) (wordsB i to (opField i.op)) ⟨i.op,0,0,0,0⟩ []=some (i,to)∧((wordsB i to (opField i.op)).length:Int)=(opField i.op).length - ifMemB (opField i.op):=by
 obtain⟨op,a,b,c,k⟩:=i
 obtain⟨h0,ha,hb,hc,hk,ht⟩:=h
 simp only [] at h0 ha hb hc hk ht ⊢
 have hto:jumps op=false→to=[]:=by
  intro hj
  by_cases e:to=[]
  ·exact e
  ·have:=(ht e).1;rw [hj] at this;cases this
 have htn:to≠[]→nameOk to=true:=fun e=>(ht e).2.2
 have htk:to≠[]→k=0:=fun e=>(ht e).2.1
 clear ht
 have hop:op=0∨op=1∨op=2∨op=3∨op=4∨op=5∨op=6∨op=7∨op=8∨op=9∨op=10∨op=11∨op=12∨op=13∨op=14∨op=15∨op=16∨op=17∨op=18∨op=19∨op=20∨op=21∨op=22∨op=23∨op=24∨op=25∨op=26∨op=27:=by omega
 clear h0
 rcases hop with rfl | rfl | rfl | rfl | rfl | rfl | rfl | rfl | rfl | rfl | rfl | rfl | rfl | rfl | rfl | rfl | rfl | rfl | rfl | rfl | rfl | rfl | rfl | rfl | rfl | rfl | rfl | rfl
 ·have ea:a=0:=by have:a≤0:=ha.2;omega
  have eb:b=0:=by have:b≤0:=hb.2;omega
  have ec:c=0:=by have:c≤0:=hc.2;omega
  have ek:k=0:=by have:k≤0:=hk.2;omega
  rw [hto rfl,ea,eb,ec,ek]
  exact⟨rfl,rfl⟩
 ·have eb:b=0:=by have:b≤0:=hb.2;omega
  have ec:c=0:=by have:c≤0:=hc.2;omega
  have ek:0≤k∧k≤4294967295:=hk
  have ea:0≤a∧a≤7:=ha
  rw [hto rfl,eb,ec]
  refine⟨?_,rfl⟩
  show fieldsB (65::[75]) (regW a::[decB k.toNat]) _ _=_
  rw [fA ea,fK ek];rfl
 ·have ec:c=0:=by have:c≤0:=hc.2;omega
  have ek:k=0:=by have:k≤0:=hk.2;omega
  have ea:0≤a∧a≤7:=ha
  have eb:0≤b∧b≤7:=hb
  rw [hto rfl,ec,ek]
  refine⟨?_,rfl⟩
  show fieldsB (65::[66]) (regW a::[regW b]) _ _=_
  rw [fA ea,fB eb];rfl
 ·have ek:k=0:=by have:k≤0:=hk.2;omega
  have ea:0≤a∧a≤7:=ha
  have eb:0≤b∧b≤7:=hb
  have ec:0≤c∧c≤7:=hc
  rw [hto rfl,ek]
  refine⟨?_,rfl⟩
  show fieldsB (65::[66,67]) (regW a::[regW b,regW c]) _ _=_
  rw [fA ea,fB eb,fC ec];rfl
 ·have ek:k=0:=by have:k≤0:=hk.2;omega
  have ea:0≤a∧a≤7:=ha
  have eb:0≤b∧b≤7:=hb
  have ec:0≤c∧c≤7:=hc
  rw [hto rfl,ek]
  refine⟨?_,rfl⟩
  show fieldsB (65::[66,67]) (regW a::[regW b,regW c]) _ _=_
  rw [fA ea,fB eb,fC ec];rfl
 ·have ek:k=0:=by have:k≤0:=hk.2;omega
  have ea:0≤a∧a≤7:=ha
  have eb:0≤b∧b≤7:=hb
  have ec:0≤c∧c≤7:=hc
  rw [hto rfl,ek]
  refine⟨?_,rfl⟩
  show fieldsB (65::[66,67]) (regW a::[regW b,regW c]) _ _=_
  rw [fA ea,fB eb,fC ec];rfl
 ·have ek:k=0:=by have:k≤0:=hk.2;omega
  have ea:0≤a∧a≤7:=ha
  have eb:0≤b∧b≤7:=hb
  have ec:0≤c∧c≤7:=hc
  rw [hto rfl,ek]
  refine⟨?_,rfl⟩
  show fieldsB (65::[66,67]) (regW a::[regW b,regW c]) _ _=_
  rw [fA ea,fB eb,fC ec];rfl
 ·have ek:k=0:=by have:k≤0:=hk.2;omega
  have ea:0≤a∧a≤7:=ha
  have eb:0≤b∧b≤7:=hb
  have ec:0≤c∧c≤7:=hc
  rw [hto rfl,ek]
  refine⟨?_,rfl⟩
  show fieldsB (65::[66,67]) (regW a::[regW b,regW c]) _ _=_
  rw [fA ea,fB eb,fC ec];rfl
 ·have ek:k=0:=by have:k≤0:=hk.2;omega
  have ea:0≤a∧a≤7:=ha
  have eb:0≤b∧b≤7:=hb
  have ec:0≤c∧c≤7:=hc
  rw [hto rfl,ek]
  refine⟨?_,rfl⟩
  show fieldsB (65::[66,67]) (regW a::[regW b,regW c]) _ _=_
  rw [fA ea,fB eb,fC ec];rfl
 ·have ek:k=0:=by have:k≤0:=hk.2;omega
  have ea:0≤a∧a≤7:=ha
  have eb:0≤b∧b≤7:=hb
  have ec:0≤c∧c≤7:=hc
  rw [hto rfl,ek]
  refine⟨?_,rfl⟩
  show fieldsB (65::[66,67]) (regW a::[regW b,regW c]) _ _=_
  rw [fA ea,fB eb,fC ec];rfl
 ·have ek:k=0:=by have:k≤0:=hk.2;omega
  have ea:0≤a∧a≤7:=ha
  have eb:0≤b∧b≤7:=hb
  have ec:0≤c∧c≤7:=hc
  rw [hto rfl,ek]
  refine⟨?_,rfl⟩
  show fieldsB (65::[66,67]) (regW a::[regW b,regW c]) _ _=_
  rw [fA ea,fB eb,fC ec];rfl
 ·have ek:k=0:=by have:k≤0:=hk.2;omega
  have ea:0≤a∧a≤7:=ha
  have eb:0≤b∧b≤7:=hb
  have ec:0≤c∧c≤7:=hc
  rw [hto rfl,ek]
  refine⟨?_,rfl⟩
  show fieldsB (65::[66,67]) (regW a::[regW b,regW c]) _ _=_
  rw [fA ea,fB eb,fC ec];rfl
 ·have ek:k=0:=by have:k≤0:=hk.2;omega
  have ea:0≤a∧a≤7:=ha
  have eb:0≤b∧b≤7:=hb
  have ec:0≤c∧c≤7:=hc
  rw [hto rfl,ek]
  refine⟨?_,rfl⟩
  show fieldsB (65::[66,67]) (regW a::[regW b,regW c]) _ _=_
  rw [fA ea,fB eb,fC ec];rfl
 ·have ea:a=0:=by have:a≤0:=ha.2;omega
  have eb:b=0:=by have:b≤0:=hb.2;omega
  have ec:c=0:=by have:c≤0:=hc.2;omega
  have ek:0≤k∧k≤4294967295:=hk
  rw [ea,eb,ec]
  refine⟨?_,rfl⟩
  show fieldsB (84::[]) ((64::(if to=[] then decB k.toNat else to))::[]) _ _=_
  rw [fT ek _ _ _ _ _ htn]
  by_cases e:to=[]
  ·rw [if_pos e,e];rfl
  ·rw [if_neg e,htk e];rfl
 ·have eb:b=0:=by have:b≤0:=hb.2;omega
  have ec:c=0:=by have:c≤0:=hc.2;omega
  have ek:0≤k∧k≤4294967295:=hk
  have ea:0≤a∧a≤7:=ha
  rw [eb,ec]
  refine⟨?_,rfl⟩
  show fieldsB (65::[84]) (regW a::[64::(if to=[] then decB k.toNat else to)]) _ _=_
  rw [fA ea,fT ek _ _ _ _ _ htn]
  by_cases e:to=[]
  ·rw [if_pos e,e];rfl
  ·rw [if_neg e,htk e];rfl
 ·have eb:b=0:=by have:b≤0:=hb.2;omega
  have ec:c=0:=by have:c≤0:=hc.2;omega
  have ek:0≤k∧k≤4294967295:=hk
  have ea:0≤a∧a≤7:=ha
  rw [eb,ec]
  refine⟨?_,rfl⟩
  show fieldsB (65::[84]) (regW a::[64::(if to=[] then decB k.toNat else to)]) _ _=_
  rw [fA ea,fT ek _ _ _ _ _ htn]
  by_cases e:to=[]
  ·rw [if_pos e,e];rfl
  ·rw [if_neg e,htk e];rfl
 ·have ec:c=0:=by have:c≤0:=hc.2;omega
  have ek:0≤k∧k≤4294967295:=hk
  have ea:0≤a∧a≤7:=ha
  have eb:0≤b∧b≤8:=hb
  rw [hto rfl,ec]
  refine⟨?_,rfl⟩
  show fieldsB (65::[77,75]) (regW a::[addrW b k]) _ _=_
  rw [fA ea,fM eb ek]
 ·have ec:c=0:=by have:c≤0:=hc.2;omega
  have ek:0≤k∧k≤4294967295:=hk
  have ea:0≤a∧a≤7:=ha
  have eb:0≤b∧b≤8:=hb
  rw [hto rfl,ec]
  refine⟨?_,rfl⟩
  show fieldsB (65::[77,75]) (regW a::[addrW b k]) _ _=_
  rw [fA ea,fM eb ek]
 ·have ea:a=0:=by have:a≤0:=ha.2;omega
  have eb:b=0:=by have:b≤0:=hb.2;omega
  have ec:c=0:=by have:c≤0:=hc.2;omega
  have ek:k=0:=by have:k≤0:=hk.2;omega
  rw [hto rfl,ea,eb,ec,ek]
  exact⟨rfl,rfl⟩
 ·have ec:c=0:=by have:c≤0:=hc.2;omega
  have ek:0≤k∧k≤4294967295:=hk
  have ea:0≤a∧a≤7:=ha
  have eb:0≤b∧b≤8:=hb
  rw [hto rfl,ec]
  refine⟨?_,rfl⟩
  show fieldsB (65::[77,75]) (regW a::[addrW b k]) _ _=_
  rw [fA ea,fM eb ek]
 ·have ec:c=0:=by have:c≤0:=hc.2;omega
  have ek:0≤k∧k≤4294967295:=hk
  have ea:0≤a∧a≤7:=ha
  have eb:0≤b∧b≤8:=hb
  rw [hto rfl,ec]
  refine⟨?_,rfl⟩
  show fieldsB (65::[77,75]) (regW a::[addrW b k]) _ _=_
  rw [fA ea,fM eb ek]
 ·have ek:0≤k∧k≤4294967295:=hk
  have ea:0≤a∧a≤7:=ha
  have eb:0≤b∧b≤8:=hb
  have ec:0≤c∧c≤7:=hc
  rw [hto rfl]
  refine⟨?_,rfl⟩
  show fieldsB (65::[67,77,75]) (regW a::[regW c,addrW b k]) _ _=_
  rw [fA ea,fC ec,fM eb ek]
 ·have eb:b=0:=by have:b≤0:=hb.2;omega
  have ec:c=0:=by have:c≤0:=hc.2;omega
  have ek:k=0:=by have:k≤0:=hk.2;omega
  have ea:0≤a∧a≤7:=ha
  rw [hto rfl,eb,ec,ek]
  refine⟨?_,rfl⟩
  show fieldsB (65::[]) (regW a::[]) _ _=_
  rw [fA ea];rfl
 ·have ec:c=0:=by have:c≤0:=hc.2;omega
  have ek:0≤k∧k≤4294967295:=hk
  have ea:0≤a∧a≤7:=ha
  have eb:0≤b∧b≤8:=hb
  rw [hto rfl,ec]
  refine⟨?_,rfl⟩
  show fieldsB (65::[77,75]) (regW a::[addrW b k]) _ _=_
  rw [fA ea,fM eb ek]
 ·have ec:c=0:=by have:c≤0:=hc.2;omega
  have ek:0≤k∧k≤4294967295:=hk
  have ea:0≤a∧a≤7:=ha
  have eb:0≤b∧b≤8:=hb
  rw [hto rfl,ec]
  refine⟨?_,rfl⟩
  show fieldsB (65::[77,75]) (regW a::[addrW b k]) _ _=_
  rw [fA ea,fM eb ek]
 ·have ea:a=0:=by have:a≤0:=ha.2;omega
  have eb:b=0:=by have:b≤0:=hb.2;omega
  have ec:c=0:=by have:c≤0:=hc.2;omega
  have ek:k=0:=by have:k≤0:=hk.2;omega
  rw [hto rfl,ea,eb,ec,ek]
  exact⟨rfl,rfl⟩
 ·have ea:a=0:=by have:a≤0:=ha.2;omega
  have eb:b=0:=by have:b≤0:=hb.2;omega
  have ec:c=0:=by have:c≤0:=hc.2;omega
  have ek:k=0:=by have:k≤0:=hk.2;omega
  rw [hto rfl,ea,eb,ec,ek]
  exact⟨rfl,rfl⟩
 ·have eb:b=0:=by have:b≤0:=hb.2;omega
  have ec:c=0:=by have:c≤0:=hc.2;omega
  have ek:0≤k∧k≤4294967295:=hk
  have ea:0≤a∧a≤7:=ha
  rw [hto rfl,eb,ec]
  refine⟨?_,rfl⟩
  show fieldsB (65::[75]) (regW a::[decB k.toNat]) _ _=_
  rw [fA ea,fK ek];rfl

theorem addrW_mem{b k:Int}(hb:0≤b∧b≤8){c:UInt8}(hc:c∈addrW b k):43≤c.toNat∧c.toNat≠58:=by
 have hd:∀ c∈decB k.toNat++[93],43≤c.toNat∧c.toNat≠58:=by
  intro c hc
  rcases List.mem_append.1 hc with h | h
  ·have:=decB_mem h;omega
  ·rw [List.mem_singleton] at h;rw [h];decide
 unfold addrW at hc
 split at hc
 ·rcases List.mem_cons.1 hc with e | hc
  ·rw [e];decide
  ·exact hd c hc
 ·rcases List.mem_cons.1 hc with e | hc
  ·rw [e];decide
  ·rcases List.mem_append.1 hc with h | hc
   ·have:=regW_mem (a:=b) ⟨hb.1,by omega⟩ h;omega
   ·rcases List.mem_cons.1 hc with e | hc
    ·rw [e];decide
    ·exact hd c hc
theorem addrW_len{b k:Int}(hk:0≤k∧k≤4294967295):(addrW b k).length≤15:=by
 have:=decB_len 9 k.toNat (by omega)
 unfold addrW
 split
 ·simp;omega
 ·simp [regW];omega
theorem regW_len(a:Int):(regW a).length=2:=rfl
theorem words_mem(i:Ins)(to:B8)(ha:0≤i.a∧i.a≤7)(hb:0≤i.b∧i.b≤8)(hc:0≤i.c∧i.c≤7)(hk:0≤i.k∧i.k≤4294967295)(ht:to≠[]→nameOk to=true):∀ (f:B8),66∉f∨i.b≤7→∀ w∈wordsB i to f,w.length≤21∧∀ c∈w,43≤c.toNat∧c.toNat≠58
 | [],_,w,hw=>by cases hw
 | f::r,hf,w,hw=>by
  have ih:=words_mem i to ha hb hc hk ht r (hf.imp (fun h h'=>h (by simp [h'])) id)
  have hr:∀ {a:Int},0≤a∧a≤7→(regW a).length≤21∧∀ c∈regW a,43≤c.toNat∧c.toNat≠58:=fun h=>⟨by rw [regW_len];omega,fun c hc=>by have:=regW_mem h hc;omega⟩
  have hd:(decB i.k.toNat).length≤10:=decB_len 9 _ (by omega)
  rw [wordsB] at hw
  split at hw
  ·rcases List.mem_cons.1 hw with e | hw
   ·rw [e];exact hr ha
   ·exact ih w hw
  ·split at hw
   ·next h66=>
    rcases List.mem_cons.1 hw with e | hw
    ·rw [e];exact hr ⟨hb.1,by rcases hf with h | h;exact absurd (by simp [h66]) h;exact h⟩
    ·exact ih w hw
   ·split at hw
    ·rcases List.mem_cons.1 hw with e | hw
     ·rw [e];exact hr hc
     ·exact ih w hw
    ·split at hw
     ·rw [List.mem_singleton] at hw
      rw [hw]
      exact⟨by have:=addrW_len (b:=i.b) hk;omega,fun c hc=>addrW_mem hb hc⟩
     ·split at hw
      ·rcases List.mem_cons.1 hw with e | hw
       ·rw [e];exact⟨by omega,fun c hc=>by have:=decB_mem hc;omega⟩
       ·exact ih w hw
      ·split at hw
       ·rcases List.mem_cons.1 hw with e | hw
        ·rw [e]
         by_cases ht0:to=[]
         ·rw [if_pos ht0]
          refine⟨by simp;omega,fun c hc=>?_⟩
          rcases List.mem_cons.1 hc with e | hc
          ·rw [e];decide
          ·have:=decB_mem hc;omega
         ·rw [if_neg ht0]
          have h1:=nameOk_len (ht ht0)
          refine⟨by simp;omega,fun c hc=>?_⟩
          rcases List.mem_cons.1 hc with e | hc
          ·rw [e];decide
          ·have:=nameOk_mem (ht ht0) hc;omega
        ·exact ih w hw
       ·rcases List.mem_cons.1 hw with e | hw
        ·rw [e];exact⟨by simp,fun c hc=>by cases hc⟩
        ·exact ih w hw
theorem Fits.all{i:Ins}{to:B8}(h:Fits i to):(0≤i.a∧i.a≤7)∧(0≤i.b∧i.b≤8)∧(0≤i.c∧i.c≤7)∧(0≤i.k∧i.k≤4294967295)∧(to≠[]→nameOk to=true)∧(66∉opField i.op∨i.b≤7):=by
 have ha:=h.a
 have hb:=h.b
 have hc:=h.c
 have hk:=h.k
 refine⟨?_,?_,?_,?_,fun e=>(h.to e).2.2,?_⟩
 ·split at ha<;>omega
 ·split at hb
  ·omega
  ·split at hb<;>omega
 ·split at hc<;>omega
 ·split at hk<;>omega
 ·by_cases h66:66∈opField i.op
  ·right
   have h77:hasB i.op 77=false:=by
    have:=op_cases (P:=fun op=>66∈opField op→hasB op 77=false) h.op (by decide)
    exact this h66
   rw [h77] at hb
   simp only [Bool.false_eq_true,if_false] at hb
   split at hb<;>omega
  ·exact .inl h66
theorem words_all{i:Ins}{to:B8}(h:Fits i to):∀ w∈wordsOf i to,w.length≤21∧∀ c∈w,43≤c.toNat∧c.toNat≠58:=by
 obtain⟨ha,hb,hc,hk,ht,h66⟩:=h.all
 intro w hw
 rcases List.mem_cons.1 hw with e | hw
 ·rw [e]
  have h1:=opName_mem h.op
  refine⟨by omega,fun c hc=>?_⟩
  have:=isLet_ne (List.all_eq_true.1 h1.1 c hc);omega
 ·exact words_mem i to ha hb hc hk ht _ h66 w hw
theorem read_line{i:Ins}{to:B8}(h:Fits i to):readB (lineOf i to)=some (i,to):=by
 have hs:splitB 32 (lineOf i to)=wordsOf i to:=splitB_join 32 _ (by simp [wordsOf]) (fun w hw hm=>by
  have:=(words_all h w hw).2 _ hm
  have:(32:UInt8).toNat=32:=rfl
  omega)
 obtain⟨hf,hl⟩:=fields_words h
 unfold readB
 simp only []
 rw [hs]
 show (if opB (opName i.op) < 0 then none else _)=_
 have ho:=opB_opName h.op
 have hop:=h.op
 rw [show (wordsOf i to).headD []=opName i.op from rfl,ho,if_neg (by omega),if_neg,show (wordsOf i to).tail=wordsB i to (opField i.op) from rfl,hf]
 intro e
 apply e
 show (((wordsB i to (opField i.op)).length+1:Nat):Int)=_
 omega
theorem line_mem{i:Ins}{to:B8}(h:Fits i to){c:UInt8}(hc:c∈lineOf i to):c.toNat≠10∧c.toNat≠58:=by
 rcases joinB_mem hc with e | ⟨w,hw,e⟩
 ·rw [e];decide
 ·have:=(words_all h w hw).2 c e;omega
theorem line_ne{i:Ins}{to:B8}(h:Fits i to):lineOf i to≠[]:=joinB_ne 32 _ _ (opName_mem h.op).2.1
theorem words_count{i:Ins}{to:B8}(h:Fits i to):(wordsOf i to).length≤5:=by
 have h1:=(fields_words h).2
 have h2:=op_cases (P:=fun op=>(opField op).length≤4∧0≤ifMemB (opField op)) h.op (by decide)
 show (wordsB i to (opField i.op)).length+1≤5
 omega
theorem line_len{i:Ins}{to:B8}(h:Fits i to):(lineOf i to).length≤110:=by
 have h1:=joinB_len 32 (wordsOf i to)
 have h2:=words_count h
 have h3:∀ ws:List B8,(∀ w∈ws,w.length≤21)→(ws.map (fun w=>w.length+1)).sum≤22*ws.length:=by
  intro ws
  induction ws with
  | nil=>intro _;simp
  | cons x r ih=>
   intro hx
   have a1:=hx x (by simp)
   have a2:=ih (fun w hw=>hx w (by simp [hw]))
   simp only [List.map_cons,List.sum_cons,List.length_cons]
   omega
 have h4:=h3 _ (fun w hw=>(words_all h w hw).1)
 unfold lineOf
 omega
end Go.Proofs.YtcnmhgblbikfkaaGreatDoor.As
end

section
set_option linter.unusedVariables false
namespace Go.Proofs.YtcnmhgblbikfkaaGreatDoor.As

inductive Ln where
 | lab (n:B8)
 | ins (i:Ins) (to:B8)
def Ln.text:Ln→B8
 | .lab n=>n++[58]
 | .ins i to=>lineOf i to
def Ln.Ok:Ln→Prop
 | .lab n=>nameOk n=true
 | .ins i to=>Fits i to
def textL:List Ln→B8
 | []=>[]
 | l::r=>l.text++10::textL r
def insL:List Ln→List (Ins×B8)
 | []=>[]
 | .lab _::r=>insL r
 | .ins i to::r=>(i,to)::insL r
def placeL(nm:B8):Nat→List Ln→Option Nat
 | _,[]=>none
 | n,.lab m::r=>if m=nm then some n else placeL nm n r
 | n,.ins _ _::r=>placeL nm (n+1) r
def resI(b:List Ln)(x:Ins×B8):Ins:=if x.2=[] then x.1 else { x.1 with k:=((placeL x.2 0 b).getD 0:Nat) }
def resL(b:List Ln):List Ins:=(insL b).map (resI b)
def okLabs:List B8→List Ln→Bool
 | _,[]=>true
 | seen,.lab m::r=>nameOk m && (!seen.contains m && okLabs (m::seen) r)
 | seen,.ins _ _::r=>okLabs seen r
def Ln.okTo(b:List Ln):Ln→Bool
 | .lab _=>true
 | .ins i to=>if to=[] then !jumps i.op || decide (i.k≤((insL b).length:Int)) else (placeL to 0 b).isSome
structure OkL(b:List Ln):Prop where
 all:∀ l∈b,l.Ok
 labs:okLabs [] b=true
 to:∀ l∈b,l.okTo b=true
 few:b.length≤180

theorem text_mem{l:Ln}(h:l.Ok):(10:UInt8)∉l.text:=by
 intro hm
 cases l with
 | lab n=>
  rcases List.mem_append.1 hm with e | e
  ·have:=nameOk_mem h e
   have:(10:UInt8).toNat=10:=rfl
   omega
  ·simp at e
 | ins i to=>exact (line_mem (i:=i) h hm).1 rfl
theorem text_len{l:Ln}(h:l.Ok):l.text.length≤110:=by
 cases l with
 | lab n=>have:=nameOk_len (n:=n) h;show (n++[58]).length≤110;simp;omega
 | ins i to=>exact line_len (i:=i) h
theorem textL_len:∀ (b:List Ln),(∀ l∈b,l.Ok)→(textL b).length≤111*b.length
 | [],_=>by simp [textL]
 | l::r,h=>by
  have h1:=text_len (h l (by simp))
  have h2:=textL_len r (fun x hx=>h x (by simp [hx]))
  rw [textL,List.length_append,List.length_cons,List.length_cons];omega
theorem split_textL:∀ (b:List Ln),(∀ l∈b,l.Ok)→splitB 10 (textL b)=b.map Ln.text++[[]]
 | [],_=>rfl
 | l::r,h=>by
  rw [textL,splitB_app 10 _ _ (text_mem (h l (by simp))),split_textL r (fun x hx=>h x (by simp [hx]))];rfl
theorem line_last{i:Ins}{to:B8}(h:Fits i to):(lineOf i to).getLast? ≠ some 58:=by
 intro e
 exact (line_mem h (List.mem_of_getLast? e)).2 rfl
theorem placeGo_text(nm:B8):∀ (b:List Ln) (n:Nat),(∀ l∈b,l.Ok)→placeGo nm n (b.map Ln.text)=match placeL nm n b with | some m=>(m:Int) | none => -1
 | [],n,_=>rfl
 | .lab m::r,n,h=>by
  have ih:=placeGo_text nm r n (fun x hx=>h x (by simp [hx]))
  rw [List.map_cons,placeGo]
  show (if m++[58]=[] then _ else _)=_
  rw [if_neg (by simp),placeL]
  by_cases e:m=nm
  ·rw [if_pos (by show m++[58]=_;rw [e]),if_pos e]
  ·rw [if_neg (by show ¬m++[58]=_;intro e';exact e (List.append_cancel_right e')),if_neg e]
   show placeGo nm (if (m++[58]).getLast? = some 58 then (n:Int) else n+1) _=_
   rw [if_pos (by simp)]
   exact ih
 | .ins i to::r,n,h=>by
  have ih:=placeGo_text nm r (n+1) (fun x hx=>h x (by simp [hx]))
  have hf:Fits i to:=h (.ins i to) (by simp)
  rw [List.map_cons,placeGo]
  show (if lineOf i to=[] then _ else _)=_
  rw [if_neg (line_ne hf),placeL]
  have h2:¬lineOf i to=nm++[58]:=by intro e;apply line_last hf;rw [e];simp
  rw [if_neg (show ¬(Ln.ins i to).text=_ from h2)]
  show placeGo nm (if (lineOf i to).getLast? = some 58 then (n:Int) else n+1) _=_
  rw [if_neg (line_last hf)]
  exact ih
theorem placeGo_end(nm:B8):∀ (l:List B8) (n:Int),placeGo nm n (l++[[]])=placeGo nm n l
 | [],n=>rfl
 | x::l,n=>by
  rw [List.cons_append,placeGo,placeGo,placeGo_end nm l,placeGo_end nm l]
theorem placeL_len(nm:B8):∀ (b:List Ln) (n m:Nat),placeL nm n b=some m→m≤n+(insL b).length
 | [],n,m,h=>by cases h
 | .lab x::r,n,m,h=>by
  rw [placeL] at h
  rw [insL]
  split at h
  ·injection h with h;omega
  ·exact placeL_len nm r n m h
 | .ins i to::r,n,m,h=>by
  rw [placeL] at h
  have:=placeL_len nm r (n+1) m h
  rw [insL,List.length_cons];omega
theorem insL_app:∀ (a b:List Ln),insL (a++b)=insL a++insL b
 | [],b=>rfl
 | .lab _::r,b=>by rw [List.cons_append,insL,insL,insL_app r b]
 | .ins i to::r,b=>by rw [List.cons_append,insL,insL,insL_app r b];rfl
theorem insL_len:∀ (b:List Ln),(insL b).length≤b.length
 | []=>Nat.le_refl _
 | .lab _::r=>by rw [insL,List.length_cons];have:=insL_len r;omega
 | .ins i to::r=>by rw [insL,List.length_cons,List.length_cons];have:=insL_len r;omega
theorem okLabs_at:∀ (p:List Ln) (m:B8) (q:List Ln) (seen:List B8) (n:Nat),okLabs seen (p ++ .lab m::q)=true→placeL m n p=none∧m∉seen
 | [],m,q,seen,n,h=>by
  rw [List.nil_append,okLabs,Bool.and_eq_true,Bool.and_eq_true] at h
  refine⟨rfl,fun e=>?_⟩
  have:=h.2.1
  rw [List.contains_iff_mem.2 e] at this
  cases this
 | .lab x::p,m,q,seen,n,h=>by
  rw [List.cons_append,okLabs,Bool.and_eq_true,Bool.and_eq_true] at h
  have ih:=okLabs_at p m q (x::seen) n h.2.2
  rw [placeL,if_neg (fun e=>ih.2 (by simp [e]))]
  exact⟨ih.1,fun e=>ih.2 (by simp [e])⟩
 | .ins i to::p,m,q,seen,n,h=>by
  rw [List.cons_append,okLabs] at h
  exact okLabs_at p m q seen (n+1) h

theorem lines_at{p:List Ln}{l:Ln}{q:List Ln}:((p++l::q).map Ln.text++[[]]).getD p.length []=l.text:=by
 simp [List.getD]
theorem lines_take{p q:List Ln}:((p++q).map Ln.text++[[]]).take p.length=p.map Ln.text:=by
 rw [List.map_append,List.append_assoc,List.take_append_of_le_length (by simp),List.take_of_length_le (by simp)]
theorem pass1_text(b:List Ln)(H:OkL b):∀ (p q:List Ln),b=p++q→pass1 (b.map Ln.text++[[]]) p.length=.ok ((insL p).map (·.1)):=by
 intro p
 induction hn:p.length generalizing p with
 | zero=>
  intro q _
  have:p=[]:=List.length_eq_zero_iff.1 hn
  rw [this];rfl
 | succ n ih=>
  intro q hb
  obtain⟨p',l,rfl⟩:∃ p' l,p=p'++[l]:=⟨p.dropLast,p.getLast (by intro e;rw [e] at hn;cases hn),(List.dropLast_concat_getLast _).symm⟩
  have hn':p'.length=n:=by simpa using hn
  have hb':b=p'++l::q:=by rw [hb,List.append_assoc];rfl
  have h1:=ih p' hn' (l::q) hb'
  rw [pass1_succ h1,←hn']
  have hl:(b.map Ln.text++[[]]).getD p'.length []=l.text:=by rw [hb'];exact lines_at
  have ht:(b.map Ln.text++[[]]).take p'.length=p'.map Ln.text:=by rw [hb'];exact lines_take
  rw [hl,insL_app]
  have hall:∀ x∈p',x.Ok:=fun x hx=>H.all x (by rw [hb'];simp [hx])
  have hlok:l.Ok:=H.all l (by rw [hb'];simp)
  unfold lineB
  cases l with
  | lab m=>
   show (if m++[58]=[] then _ else if (m++[58]).getLast? = some 58 then (if nameOk (m++[58]).dropLast=false then _ else if 0≤placeB (List.take p'.length (b.map Ln.text++[[]])) (m++[58]).dropLast then _ else _) else _)=_
   rw [if_neg (by simp),if_pos (by simp),List.dropLast_concat,show nameOk m=true from hlok,if_neg (by decide),ht]
   unfold placeB
   have hp:=placeGo_text m p' 0 hall
   have hnone:=(okLabs_at p' m q [] 0 (by rw [←hb'];exact H.labs)).1
   rw [hnone] at hp
   rw [show placeGo m 0 (p'.map Ln.text) = -1 from hp,if_neg (by omega)]
   simp [insL]
  | ins i to=>
   have hf:Fits i to:=hlok
   show (if lineOf i to=[] then _ else if (lineOf i to).getLast? = some 58 then _ else match readB (lineOf i to) with | none=>_ | some (i,_)=>_)=_
   rw [if_neg (line_ne hf),if_neg (line_last hf),read_line hf]
   simp only []
   have:=insL_len p'
   have:=H.few
   have hbl:b.length=p'.length+(q.length+1):=by rw [hb'];simp
   rw [if_neg (by simp;omega)]
   simp [insL]
theorem has84{op:Int}(h:0≤op∧op < 28):hasB op 84=jumps op:=op_cases (P:=fun op=>hasB op 84=jumps op) h (by decide)
theorem modify_mid{α:Type}(f:α→α):∀ (a:List α) (x:α) (b:List α),(a++x::b).modify a.length f=a++f x::b
 | [],x,b=>rfl
 | y::a,x,b=>by simp [modify_mid f a x b]
theorem pass2_text(b:List Ln)(H:OkL b):∀ (p q:List Ln),b=p++q→pass2 (b.map Ln.text++[[]]) ((insL b).map (·.1)) p.length=.ok ((insL p).length,(insL p).map (resI b)++(insL q).map (·.1)):=by
 intro p
 induction hn:p.length generalizing p with
 | zero=>
  intro q hb
  have:p=[]:=List.length_eq_zero_iff.1 hn
  rw [hb,this];rfl
 | succ n ih=>
  intro q hb
  obtain⟨p',l,rfl⟩:∃ p' l,p=p'++[l]:=⟨p.dropLast,p.getLast (by intro e;rw [e] at hn;cases hn),(List.dropLast_concat_getLast _).symm⟩
  have hn':p'.length=n:=by simpa using hn
  have hb':b=p'++l::q:=by rw [hb,List.append_assoc];rfl
  have h1:=ih p' hn' (l::q) hb'
  rw [pass2_succ h1,←hn']
  have hl:(b.map Ln.text++[[]]).getD p'.length []=l.text:=by rw [hb'];exact lines_at
  rw [hl,insL_app]
  have hlok:l.Ok:=H.all l (by rw [hb'];simp)
  unfold jumpB
  cases l with
  | lab m=>
   show (if m++[58]=[]∨(m++[58]).getLast? = some 58 then _ else _)=_
   rw [if_pos (.inr (by simp))]
   simp [insL]
  | ins i to=>
   have hf:Fits i to:=hlok
   have hto:=H.to (.ins i to) (by rw [hb'];simp)
   have hlen:(insL b).length=(insL p').length+((insL q).length+1):=by rw [hb',insL_app,insL];simp
   have e1:insL (Ln.ins i to::q)=(i,to)::insL q:=rfl
   have e2:insL [Ln.ins i to]=[(i,to)]:=rfl
   show (if lineOf i to=[]∨(lineOf i to).getLast? = some 58 then _ else match readB (lineOf i to) with | none=>_ | some (i,to)=>_)=_
   rw [if_neg (by rintro (e | e);exact line_ne hf e;exact line_last hf e),read_line hf,e1,e2]
   simp only []
   rw [has84 hf.op]
   replace hto:(if to=[] then !jumps i.op || decide (i.k≤((insL b).length:Int)) else (placeL to 0 b).isSome)=true:=hto
   by_cases ht:to=[]
   ·have hr:resI b (i,to)=i:=by unfold resI;rw [if_pos ht]
    rw [if_pos ht] at hto
    cases hj:jumps i.op with
    | false=>simp [hr]
    | true=>
     rw [hj] at hto
     have hk:i.k≤((insL b).length:Int):=by simpa using hto
     rw [if_pos rfl,if_neg (by rintro⟨e,_⟩;exact e ht),if_pos ht]
     have hg:(List.map (resI b) (insL p')++List.map (fun x=>x.1) ((i,to)::insL q)).getD (insL p').length ⟨0,0,0,0,0⟩=i:=by
      simp [List.getD]
     rw [hg,if_neg (by simp;omega)]
     simp [hr]
   ·rw [if_neg ht] at hto
    obtain⟨m,hm⟩:=Option.isSome_iff_exists.1 hto
    have hj:=(hf.to ht).1
    have hml:=placeL_len to b 0 m hm
    have hp:placeB (b.map Ln.text++[[]]) to=m:=by
     unfold placeB
     rw [placeGo_end]
     have:=placeGo_text to b 0 H.all
     rw [hm] at this
     exact this
    rw [hj,if_pos rfl,hp,if_neg (by rintro⟨_,e⟩;omega),if_neg ht]
    have hmd:(List.map (resI b) (insL p')++List.map (fun x=>x.1) ((i,to)::insL q)).modify (insL p').length (fun x=>{ x with k:=(m:Int) })=List.map (resI b) (insL p')++{ i with k:=(m:Int) }::List.map (fun x=>x.1) (insL q):=by
     have:=modify_mid (fun x:Ins=>{ x with k:=(m:Int) }) (List.map (resI b) (insL p')) i (List.map (fun x=>x.1) (insL q))
     rw [List.length_map] at this
     exact this
    have hr:resI b (i,to)={ i with k:=(m:Int) }:=by unfold resI;rw [if_neg ht];simp only [];rw [hm];rfl
    rw [hmd]
    have hg:(List.map (resI b) (insL p')++{ i with k:=(m:Int) }::List.map (fun x=>x.1) (insL q)).getD (insL p').length ⟨0,0,0,0,0⟩={ i with k:=(m:Int) }:=by
     simp [List.getD]
    rw [hg,if_neg (by simp;omega)]
    simp [hr]
theorem parse_text{b:List Ln}(H:OkL b):parseB (textL b)=(resL b,0,0):=by
 have hs:=split_textL b H.all
 have hlen:=textL_len b H.all
 have hfew:=H.few
 have h1:=pass1_text b H b [] (by simp)
 have h2:=pass2_text b H b [] (by simp)
 have hn:(b.map Ln.text++[[]]).length=b.length+1:=by simp
 have hl:(b.map Ln.text++[[]]).getD b.length []=[]:=by simp [List.getD]
 have p1:=pass1_succ h1
 rw [hl] at p1
 have p2:=pass2_succ h2
 rw [hl] at p2
 have:=parse_ok (s:=textL b) (o:=(insL b).map (·.1)) (x:=((insL b).length,(insL b).map (resI b)++(insL ([]:List Ln)).map (·.1))) (by omega)
  (by rw [hs,hn];exact p1) (by rw [hs,hn];exact p2)
 rw [this]
 simp [resL,insL]
end Go.Proofs.YtcnmhgblbikfkaaGreatDoor.As
end

section
set_option linter.unusedVariables false
namespace Go.Proofs.YtcnmhgblbikfkaaGreatDoor.As

def inBr(r:B8):Bool:=decide (97≤(r.getD 0 0).toNat) && (decide ((r.getD 0 0).toNat≤113) && decide (r.getD 1 0=93))
def fillGo(base t:Nat):Nat→B8→B8
 | 0,_=>[]
 | _+1,[]=>[]
 | n+1,c::r=>
  if c=36 then decB (t+1)++fillGo base t n r
  else if c=91∧inBr r=true then 91::(decB (base+((r.getD 0 0).toNat - 97))++93::fillGo base t n (r.drop 2))
  else c::fillGo base t n r
def fillB(base t:Nat)(s:B8):B8:=fillGo base t s.length s
theorem fillGo_more(base t:Nat):∀ (n m:Nat) (s:B8),s.length≤n→s.length≤m→fillGo base t n s=fillGo base t m s
 | 0,m,s,h,_=>by
  have:s=[]:=List.length_eq_zero_iff.1 (by omega)
  rw [this];cases m<;>rfl
 | n+1,0,s,_,h=>by
  have:s=[]:=List.length_eq_zero_iff.1 (by omega)
  rw [this];rfl
 | n+1,m+1,[],_,_=>rfl
 | n+1,m+1,c::r,h1,h2=>by
  rw [List.length_cons] at h1 h2
  rw [fillGo,fillGo,fillGo_more base t n m r (by omega) (by omega),fillGo_more base t n m (r.drop 2) (by rw [List.length_drop];omega) (by rw [List.length_drop];omega)]
theorem fillB_nil(base t:Nat):fillB base t []=[]:=rfl
theorem fillB_cons(base t:Nat)(c:UInt8)(r:B8):fillB base t (c::r)=if c=36 then decB (t+1)++fillB base t r
  else if c=91∧inBr r=true then 91::(decB (base+((r.getD 0 0).toNat - 97))++93::fillB base t (r.drop 2))
  else c::fillB base t r:=by
 unfold fillB
 rw [List.length_cons,fillGo,fillGo_more base t r.length (r.drop 2).length (r.drop 2) (by rw [List.length_drop];omega) (Nat.le_refl _)]
theorem inBr_line(l r:B8)(h:(10:UInt8)∉l):inBr (l++10::r)=inBr l∧(inBr l=true→2≤l.length):=by
 match l,h with
 | [],_=>exact⟨rfl,fun e=>by cases e⟩
 | [x],_=>exact⟨by simp [inBr],fun e=>by simp [inBr] at e⟩
 | x::y::l,_=>exact⟨rfl,fun _=>by simp⟩
theorem fillB_line(base t:Nat)(r:B8):∀ (n:Nat) (l:B8),l.length≤n→(10:UInt8)∉l→fillB base t (l++10::r)=fillB base t l++10::fillB base t r:=by
 intro n
 induction n with
 | zero=>
  intro l hl _
  have:l=[]:=List.length_eq_zero_iff.1 (by omega)
  rw [this,List.nil_append,fillB_cons,if_neg (by decide),if_neg (by rintro⟨e,_⟩;revert e;decide)]
  rfl
 | succ n ih=>
  intro l hl h10
  match l,hl,h10 with
  | [],_,_=>
   rw [List.nil_append,fillB_cons,if_neg (by decide),if_neg (by rintro⟨e,_⟩;revert e;decide)]
   rfl
  | c::l,hl,h10=>
   have hl':l.length≤n:=by simpa using hl
   have h10':(10:UInt8)∉l:=fun e=>h10 (by simp [e])
   obtain⟨hb,hb2⟩:=inBr_line l r h10'
   rw [List.cons_append,fillB_cons,fillB_cons,hb,ih l hl' h10']
   split
   ·rw [List.append_assoc]
   ·split
    ·next hc=>
     have h2:=hb2 hc.2
     have hd:(l++10::r).drop 2=l.drop 2++10::r:=by rw [List.drop_append_of_le_length h2]
     have hg:(l++10::r).getD 0 0=l.getD 0 0:=by
      match l,h2 with
      | x::y::l,_=>rfl
     rw [hd,hg,ih (l.drop 2) (by rw [List.length_drop];omega) (fun e=>h10' (List.mem_of_mem_drop e))]
     simp
    ·rw [List.cons_append]
def unl:List B8→B8
 | []=>[]
 | l::r=>l++10::unl r
theorem unl_app:∀ (a b:List B8),unl (a++b)=unl a++unl b
 | [],b=>rfl
 | l::a,b=>by rw [List.cons_append,unl,unl,unl_app a b,List.append_assoc];rfl
theorem fillB_unl(base t:Nat):∀ (ls:List B8),(∀ l∈ls,(10:UInt8)∉l)→fillB base t (unl ls)=unl (ls.map (fillB base t))
 | [],_=>rfl
 | l::r,h=>by
  rw [unl,fillB_line base t _ l.length l (Nat.le_refl _) (h l (by simp)),fillB_unl base t r (fun x hx=>h x (by simp [hx]))];rfl
theorem textL_unl:∀ (b:List Ln),textL b=unl (b.map Ln.text)
 | []=>rfl
 | l::r=>by rw [textL,textL_unl r];rfl

/-! ### Lines,by hand -/
def fitB(op a b c:Int)(to:B8):Bool:=
 decide (0≤op∧op < 28) && (decide (0≤a∧a≤if hasB op 65 then 7 else 0) && (decide (0≤b∧b≤if hasB op 77 then 8 else if hasB op 66 then 7 else 0) && (decide (0≤c∧c≤if hasB op 67 then 7 else 0) && (to == [] || (jumps op && nameOk to)))))
theorem fit_of{op a b c k:Int}{to:B8}(h:fitB op a b c to=true)(hk:0≤k∧k≤if hasB op 75∨hasB op 84 then 4294967295 else 0)(hk0:to=[]∨k=0):Fits ⟨op,a,b,c,k⟩ to:=by
 unfold fitB at h
 simp only [Bool.and_eq_true,decide_eq_true_eq,Bool.or_eq_true,beq_iff_eq] at h
 obtain⟨h1,h2,h3,h4,h5⟩:=h
 exact⟨h1,h2,h3,h4,hk,fun e=>by rcases h5 with h5 | h5;exact absurd h5 e;rcases hk0 with h6 | h6;exact absurd h6 e;exact⟨h5.1,h6,h5.2⟩⟩
theorem fit_0{op a b c:Int}{to:B8}(h:fitB op a b c to=true):Fits ⟨op,a,b,c,0⟩ to:=
 fit_of h ⟨by omega,by split<;>omega⟩ (.inr rfl)
theorem fit_k{op a b c k:Int}(h:fitB op a b c []=true)(h2:(hasB op 75 || hasB op 84)=true)(hk:0≤k∧k≤4294967295):Fits ⟨op,a,b,c,k⟩ []:=
 fit_of h ⟨hk.1,by rw [if_pos (by simpa using h2)];exact hk.2⟩ (.inl rfl)

def BS.add(s:BS):Ln→BS
 | .lab n=>s.at_ n
 | .ins i []=>s.do_ i
 | .ins i (c::r)=>s.go_ i.op i.a (c::r)
def BS.run(s:BS):List Ln→BS
 | []=>s
 | l::r=>(s.add l).run r
theorem BS.run_app:∀ (a b:List Ln) (s:BS),s.run (a++b)=(s.run a).run b
 | [],b,s=>rfl
 | l::a,b,s=>by rw [List.cons_append,BS.run,BS.run,BS.run_app a b]
theorem cons2{a b:B8}{l m:List B8}(h:a=b)(k:l=m):a::l=b::m:=by rw [h,k]
theorem dec_0:decB (Int.toNat 0)=[48]:=decB_small (by decide)
theorem dec_1:decB (Int.toNat 1)=[49]:=decB_small (by decide)
theorem dec_2:decB (Int.toNat 2)=[50]:=decB_small (by decide)
theorem dec_4:decB (Int.toNat 4)=[52]:=decB_small (by decide)
end Go.Proofs.YtcnmhgblbikfkaaGreatDoor.As
end

section
set_option linter.unusedVariables false
namespace Go.Proofs.YtcnmhgblbikfkaaGreatDoor.As

def plOf:Nat→List Ln→List (B8×Nat)
 | _,[]=>[]
 | n,.lab m::r=>(m,n)::plOf n r
 | n,.ins _ _::r=>plOf (n+1) r
def lkOf:Nat→List Ln→List (Nat×B8)
 | _,[]=>[]
 | n,.lab _::r=>lkOf n r
 | n,.ins _ to::r=>if to=[] then lkOf (n+1) r else (n,to)::lkOf (n+1) r
theorem find_pl(nm:B8):∀ (b:List Ln) (n:Nat),((plOf n b).find? (fun p=>p.1 == nm)).map (·.2)=placeL nm n b
 | [],n=>rfl
 | .lab m::r,n=>by
  rw [plOf,placeL,List.find?_cons]
  by_cases e:m=nm
  ·rw [if_pos e,e,beq_self_eq_true];rfl
  ·rw [if_neg e,beq_eq_false_iff_ne.2 e];exact find_pl nm r n
 | .ins i to::r,n=>by rw [plOf,placeL];exact find_pl nm r (n+1)
theorem find_snoc'(s:BS)(nm x:B8)(n:Nat):(BS.find { s with places:=s.places++[(nm,n)] } x).isSome=((s.find x).isSome || (x == nm)):=by
 unfold BS.find
 simp only [List.find?_append,List.find?_cons,List.find?_nil,Option.isSome_map]
 by_cases e:x=nm
 ·subst e
  rw [beq_self_eq_true]
  cases s.places.find? (fun p=>p.1 == x)<;>simp
 ·rw [beq_eq_false_iff_ne.2 (fun e'=>e e'.symm),beq_eq_false_iff_ne.2 e]
  cases s.places.find? (fun p=>p.1 == x)<;>simp
theorem run_eq:∀ (b:List Ln) (s:BS) (seen:List B8),s.bad=false→(∀ m,m∉seen→(s.find m).isSome=false)→okLabs seen b=true→
  (∀ i to,Ln.ins i to∈b→to≠[]→i=⟨i.op,i.a,0,0,0⟩)→
  s.run b=⟨s.code++(insL b).map (·.1),s.places++plOf s.code.length b,s.links++lkOf s.code.length b,false⟩
 | [],s,seen,hb,_,_,_=>by
  obtain⟨c,p,l,bad⟩:=s
  have:bad=false:=hb
  subst this
  simp [BS.run,insL,plOf,lkOf]
 | .lab m::r,s,seen,hb,hs,ho,hi=>by
  rw [okLabs,Bool.and_eq_true,Bool.and_eq_true] at ho
  obtain⟨h1,h2,h3⟩:=ho
  have hm:m∉seen:=by intro e;rw [List.contains_iff_mem.2 e] at h2;cases h2
  have ha:s.add (.lab m)={ s with places:=s.places++[(m,s.code.length)] }:=by
   show s.at_ m=_
   unfold BS.at_
   rw [if_neg (by rw [hs m hm,h1];decide)]
  rw [BS.run,ha,run_eq r { s with places:=s.places++[(m,s.code.length)] } (m::seen) hb (fun x hx=>by
   rw [find_snoc',hs x (fun e=>hx (by simp [e])),Bool.false_or,beq_eq_false_iff_ne.2 (fun e=>hx (by simp [e]))]) h3 (fun i to h=>hi i to (by simp [h]))]
  simp [insL,plOf,lkOf]
 | .ins i []::r,s,seen,hb,hs,ho,hi=>by
  rw [okLabs] at ho
  rw [BS.run,show s.add (.ins i [])=s.do_ i from rfl,run_eq r (s.do_ i) seen hb hs ho (fun i to h=>hi i to (by simp [h]))]
  simp [insL,plOf,lkOf,BS.do_]
 | .ins i (c::to)::r,s,seen,hb,hs,ho,hi=>by
  rw [okLabs] at ho
  have he:=hi i (c::to) (by simp) (by simp)
  rw [BS.run,show s.add (.ins i (c::to))=s.go_ i.op i.a (c::to) from rfl,run_eq r (s.go_ i.op i.a (c::to)) seen hb hs ho (fun i to h=>hi i to (by simp [h]))]
  simp [insL,plOf,lkOf,BS.go_,←he]
theorem linkTo_lk(b:List Ln)(s:BS)(hf:∀ nm,s.find nm=placeL nm 0 b):∀ (q:List Ln) (A:List Ins),
  (∀ i to,Ln.ins i to∈q→to≠[]→jumps i.op=true∧(placeL to 0 b).isSome=true)→
  s.linkTo (lkOf A.length q) (A++(insL q).map (·.1))=some (A++(insL q).map (resI b))
 | [],A,_=>rfl
 | .lab m::r,A,h=>by rw [lkOf,insL];exact linkTo_lk b s hf r A (fun i to hm=>h i to (by simp [hm]))
 | .ins i to::r,A,h=>by
  have ih:=linkTo_lk b s hf r
  rw [lkOf,insL]
  by_cases ht:to=[]
  ·rw [if_pos ht]
   have:=ih (A++[i]) (fun i to hm=>h i to (by simp [hm]))
   have hr:resI b (i,to)=i:=by unfold resI;rw [if_pos ht]
   rw [List.length_append] at this
   rw [List.map_cons,List.map_cons,hr]
   simpa using this
  ·rw [if_neg ht]
   obtain⟨hj,hp⟩:=h i to (by simp) ht
   obtain⟨n,hn⟩:=Option.isSome_iff_exists.1 hp
   have hr:resI b (i,to)={ i with k:=(n:Int) }:=by unfold resI;rw [if_neg ht];simp only [];rw [hn];rfl
   have hg:(A++List.map (fun x=>x.1) ((i,to)::insL r))[A.length]? = some i:=by simp
   unfold BS.linkTo
   rw [hf,hn,hg]
   simp only []
   rw [if_pos hj,List.map_cons,List.map_cons,hr,List.set_append_right _ _ (Nat.le_refl _),Nat.sub_self]
   have:=ih (A++[{ i with k:=(n:Int) }]) (fun i to hm=>h i to (by simp [hm]))
   rw [List.length_append] at this
   simpa using this
theorem jump_zero{i:Ins}{to:B8}(h:Fits i to)(ht:to≠[]):i=⟨i.op,i.a,0,0,0⟩:=by
 obtain⟨hj,hk,_⟩:=h.to ht
 have h1:=op_cases (P:=fun op=>jumps op=true→hasB op 77=false∧hasB op 66=false∧hasB op 67=false) h.op (by decide)
 obtain⟨a1,a2,a3⟩:=h1 hj
 have hb:=h.b
 have hc:=h.c
 rw [a1,a2] at hb
 rw [a3] at hc
 obtain⟨op,a,b,c,k⟩:=i
 simp only [Bool.false_eq_true,if_false] at hb hc hk ⊢
 have e1:b=0:=by omega
 have e2:c=0:=by omega
 rw [e1,e2,hk]
theorem out_run{b:List Ln}(H:OkL b):(BS.zero.run b).out=some (resL b):=by
 have hr:=run_eq b BS.zero [] rfl (fun m _=>rfl) H.labs (fun i to hm ht=>jump_zero (H.all _ hm) ht)
 have hf:∀ nm,(BS.zero.run b).find nm=placeL nm 0 b:=by
  intro nm
  rw [hr,←find_pl nm b 0]
  rfl
 have:=linkTo_lk b (BS.zero.run b) hf b [] (fun i to hm ht=>⟨((H.all _ hm:Fits i to).to ht).1,by
  have:=H.to _ hm
  replace this:(if to=[] then !jumps i.op || decide (i.k≤((insL b).length:Int)) else (placeL to 0 b).isSome)=true:=this
  rw [if_neg ht] at this
  exact this⟩)
 unfold BS.out
 have hb:(BS.zero.run b).bad=false:=by rw [hr]
 have hl:(BS.zero.run b).links=lkOf 0 b:=by rw [hr];rfl
 have hc:(BS.zero.run b).code=(insL b).map (·.1):=by rw [hr];rfl
 rw [hb,hl,hc]
 simpa [resL] using this
theorem links_run{b:List Ln}(H:OkL b):∀ p∈(BS.zero.run b).links,p.2.length≤20:=by
 have hr:=run_eq b BS.zero [] rfl (fun m _=>rfl) H.labs (fun i to hm ht=>jump_zero (H.all _ hm) ht)
 rw [hr]
 have key:∀ (q:List Ln) (n:Nat),(∀ l∈q,l.Ok)→∀ p∈lkOf n q,p.2.length≤20:=by
  intro q
  induction q with
  | nil=>intro n _ p hp;cases hp
  | cons l r ih=>
   intro n h p hp
   cases l with
   | lab m=>exact ih n (fun x hx=>h x (by simp [hx])) p hp
   | ins i to=>
    rw [lkOf] at hp
    split at hp
    ·exact ih (n+1) (fun x hx=>h x (by simp [hx])) p hp
    ·next ht=>
     rcases List.mem_cons.1 hp with e | hp
     ·rw [e];exact (nameOk_len ((h (.ins i to) (by simp):Fits i to).to ht).2.2).2
     ·exact ih (n+1) (fun x hx=>h x (by simp [hx])) p hp
 intro p hp
 exact key b 0 H.all p (by simpa [BS.zero] using hp)
end Go.Proofs.YtcnmhgblbikfkaaGreatDoor.As
end

section
set_option linter.unusedVariables false
set_option maxRecDepth 4000
namespace Go.Proofs.YtcnmhgblbikfkaaGreatDoor.As

def Dig(d:B8):Prop:=d≠[]∧∀ x∈d,48≤x.toNat∧x.toNat≤57
theorem dig_dec(n:Nat):Dig (decB n):=⟨decB_ne n,fun _ h=>decB_mem h⟩
theorem fill_skip(base t:Nat)(S:B8):∀ P:B8,(∀ x∈P,x≠36∧x≠91)→fillB base t (P++S)=P++fillB base t S
 | [],_=>rfl
 | c::P,h=>by
  obtain⟨h1,h2⟩:=h c (by simp)
  rw [List.cons_append,fillB_cons,if_neg h1,if_neg (fun e=>h2 e.1),fill_skip base t S P (fun x hx=>h x (by simp [hx]))];rfl
theorem dig_skip{d:B8}(hd:Dig d):∀ x∈d,x≠36∧x≠91:=fun x hx=>by
 have h:=hd.2 x hx
 refine⟨?_,?_⟩<;>(rintro rfl;revert h;decide)
def Shrt(l:B8):Prop:=l.length≤40∧(10:UInt8)∉l
theorem shrt_of{l:B8}(h:(decide (l.length≤40) && l.all (fun x=>x != 10))=true):Shrt l:=by
 rw [Bool.and_eq_true,decide_eq_true_eq,List.all_eq_true] at h
 exact⟨h.1,fun e=>by have:=h.2 _ e;simp at this⟩
theorem unl_short:∀ (ls:List B8),(∀ l∈ls,Shrt l)→(unl ls).length≤41*ls.length
 | [],_=>by decide
 | l::r,h=>by
  have h1:=(h l (by simp)).1
  have h2:=unl_short r (fun x hx=>h x (by simp [hx]))
  rw [unl,List.length_append,List.length_cons,List.length_cons];omega

end Go.Proofs.YtcnmhgblbikfkaaGreatDoor.As
end

section
set_option linter.unusedVariables false
set_option maxRecDepth 4000
namespace Go.Proofs.YtcnmhgblbikfkaaGreatDoor.As

theorem dec_3:decB (Int.toNat 3)=[51]:=decB_small (by decide)

theorem fill_dig(base t:Nat){d:B8}(hd:Dig d):fillB base t d=d:=by
 have:=fill_skip base t [] d (dig_skip hd)
 rw [List.append_nil] at this
 exact this.trans (List.append_nil d)
theorem shrt_dec{m:Nat}(hm:m≤1000){A:B8}(h:(decide (A.length≤28) && A.all (fun x=>x != 10))=true):Shrt (A++decB m):=by
 rw [Bool.and_eq_true,decide_eq_true_eq,List.all_eq_true] at h
 have:=decB_len 9 m (by omega)
 refine⟨by rw [List.length_append];omega,fun e=>?_⟩
 rcases List.mem_append.1 e with e | e
 ·have:=h.2 _ e;simp at this
 ·have:=decB_mem e;revert this;decide
def srcMutIn:List B8:=[[108,111,97,100,32,114,52,32,91,98,93],[115,101,116,32,114,53,32,36],[115,97,109,101,32,114,54,32,114,52,32,114,53],[122,101,114,111,32,114,54,32,64,102,114,101,101],[115,101,116,32,114,55,32,49],[106,117,109,112,32,64,101,110,100],[102,114,101,101,58],[115,101,116,32,114,52,32,48],[115,101,116,32,114,54,32,49],[99,97,115,32,114,52,32,114,54,32,91,97,93],[122,101,114,111,32,114,52,32,64,103,111,116],[97,103,97,105,110,58],[115,101,116,32,114,52,32,50],[115,119,97,112,32,114,52,32,91,97,93],[122,101,114,111,32,114,52,32,64,103,111,116],[115,101,116,32,114,52,32,50],[119,97,105,116,32,114,52,32,91,97,93],[106,117,109,112,32,64,97,103,97,105,110],[103,111,116,58],[115,116,111,114,101,32,114,53,32,91,98,93],[115,101,116,32,114,55,32,48],[101,110,100,58]]
def linMutIn(base t:Nat):List Ln:=[.ins ⟨16,4,8,0,((base+1:Nat):Int)⟩ [],.ins ⟨1,5,0,0,((t+1:Nat):Int)⟩ [],.ins ⟨12,6,4,5,0⟩ [],.ins ⟨14,6,0,0,0⟩ [102,114,101,101],.ins ⟨1,7,0,0,1⟩ [],.ins ⟨13,0,0,0,0⟩ [101,110,100],.lab [102,114,101,101],.ins ⟨1,4,0,0,0⟩ [],.ins ⟨1,6,0,0,1⟩ [],.ins ⟨21,4,8,6,((base+0:Nat):Int)⟩ [],.ins ⟨14,4,0,0,0⟩ [103,111,116],.lab [97,103,97,105,110],.ins ⟨1,4,0,0,2⟩ [],.ins ⟨19,4,8,0,((base+0:Nat):Int)⟩ [],.ins ⟨14,4,0,0,0⟩ [103,111,116],.ins ⟨1,4,0,0,2⟩ [],.ins ⟨23,4,8,0,((base+0:Nat):Int)⟩ [],.ins ⟨13,0,0,0,0⟩ [97,103,97,105,110],.lab [103,111,116],.ins ⟨17,5,8,0,((base+1:Nat):Int)⟩ [],.ins ⟨1,7,0,0,0⟩ [],.lab [101,110,100]]
theorem fillMutIn(base t:Nat):(srcMutIn).map (fillB base t)=(linMutIn base t).map Ln.text:=by
 unfold srcMutIn linMutIn
 simp only [List.map_cons,List.map_nil]
 exact cons2 rfl (cons2 (congrArg (fun x=>115::101::116::32::114::53::32::x) (List.append_nil (decB (t+1)))) (cons2 rfl (cons2 rfl (cons2 (congrArg (fun x=>joinB 32 [[115,101,116],[114,55],x]) dec_1).symm (cons2 rfl (cons2 rfl (cons2 (congrArg (fun x=>joinB 32 [[115,101,116],[114,52],x]) dec_0).symm (cons2 (congrArg (fun x=>joinB 32 [[115,101,116],[114,54],x]) dec_1).symm (cons2 rfl (cons2 rfl (cons2 rfl (cons2 (congrArg (fun x=>joinB 32 [[115,101,116],[114,52],x]) dec_2).symm (cons2 rfl (cons2 rfl (cons2 (congrArg (fun x=>joinB 32 [[115,101,116],[114,52],x]) dec_2).symm (cons2 rfl (cons2 rfl (cons2 rfl (cons2 rfl (cons2 (congrArg (fun x=>joinB 32 [[115,101,116],[114,55],x]) dec_0).symm (cons2 rfl (rfl))))))))))))))))))))))
theorem okMutIn{base t:Nat}(hb:base≤1000000)(ht:t≤1000000):OkL (linMutIn base t):=by
 refine⟨?_,rfl,?_,Nat.le_of_ble_eq_true rfl⟩
 ·unfold linMutIn
  simp only [List.mem_cons,List.not_mem_nil,or_false,forall_eq_or_imp,forall_eq]
  exact⟨(fit_k (by decide) rfl (by omega)),(fit_k (by decide) rfl (by omega)),(fit_0 (by decide)),(fit_0 (by decide)),(fit_k (by decide) rfl (by omega)),(fit_0 (by decide)),show nameOk _=true from rfl,(fit_k (by decide) rfl (by omega)),(fit_k (by decide) rfl (by omega)),(fit_k (by decide) rfl (by omega)),(fit_0 (by decide)),show nameOk _=true from rfl,(fit_k (by decide) rfl (by omega)),(fit_k (by decide) rfl (by omega)),(fit_0 (by decide)),(fit_k (by decide) rfl (by omega)),(fit_k (by decide) rfl (by omega)),(fit_0 (by decide)),show nameOk _=true from rfl,(fit_k (by decide) rfl (by omega)),(fit_k (by decide) rfl (by omega)),show nameOk _=true from rfl⟩
 ·unfold linMutIn
  simp only [List.mem_cons,List.not_mem_nil,or_false,forall_eq_or_imp,forall_eq]
  exact⟨rfl,rfl,rfl,rfl,rfl,rfl,rfl,rfl,rfl,rfl,rfl,rfl,rfl,rfl,rfl,rfl,rfl,rfl,rfl,rfl,rfl,rfl⟩
theorem parseMutIn{base t:Nat}(hb:base≤1000000)(ht:t≤1000000):parseB (fillB base t (unl srcMutIn))=(resL (linMutIn base t),0,0):=by
 rw [fillB_unl _ _ _ (by decide),fillMutIn,←textL_unl]
 exact parse_text (okMutIn hb ht)
def srcMutOut:List B8:=[[108,111,97,100,32,114,52,32,91,98,93],[115,101,116,32,114,53,32,36],[115,97,109,101,32,114,54,32,114,52,32,114,53],[115,111,109,101,32,114,54,32,64,109,105,110,101],[115,101,116,32,114,55,32,50],[106,117,109,112,32,64,101,110,100],[109,105,110,101,58],[115,101,116,32,114,52,32,48],[115,116,111,114,101,32,114,52,32,91,98,93],[115,101,116,32,114,52,32,48],[115,119,97,112,32,114,52,32,91,97,93],[115,101,116,32,114,54,32,50],[115,97,109,101,32,114,54,32,114,52,32,114,54],[122,101,114,111,32,114,54,32,64,100,111,110,101],[115,101,116,32,114,52,32,49],[119,97,107,101,32,114,52,32,91,97,93],[100,111,110,101,58],[115,101,116,32,114,55,32,48],[101,110,100,58]]
def linMutOut(base t:Nat):List Ln:=[.ins ⟨16,4,8,0,((base+1:Nat):Int)⟩ [],.ins ⟨1,5,0,0,((t+1:Nat):Int)⟩ [],.ins ⟨12,6,4,5,0⟩ [],.ins ⟨15,6,0,0,0⟩ [109,105,110,101],.ins ⟨1,7,0,0,2⟩ [],.ins ⟨13,0,0,0,0⟩ [101,110,100],.lab [109,105,110,101],.ins ⟨1,4,0,0,0⟩ [],.ins ⟨17,4,8,0,((base+1:Nat):Int)⟩ [],.ins ⟨1,4,0,0,0⟩ [],.ins ⟨19,4,8,0,((base+0:Nat):Int)⟩ [],.ins ⟨1,6,0,0,2⟩ [],.ins ⟨12,6,4,6,0⟩ [],.ins ⟨14,6,0,0,0⟩ [100,111,110,101],.ins ⟨1,4,0,0,1⟩ [],.ins ⟨24,4,8,0,((base+0:Nat):Int)⟩ [],.lab [100,111,110,101],.ins ⟨1,7,0,0,0⟩ [],.lab [101,110,100]]
theorem fillMutOut(base t:Nat):(srcMutOut).map (fillB base t)=(linMutOut base t).map Ln.text:=by
 unfold srcMutOut linMutOut
 simp only [List.map_cons,List.map_nil]
 exact cons2 rfl (cons2 (congrArg (fun x=>115::101::116::32::114::53::32::x) (List.append_nil (decB (t+1)))) (cons2 rfl (cons2 rfl (cons2 (congrArg (fun x=>joinB 32 [[115,101,116],[114,55],x]) dec_2).symm (cons2 rfl (cons2 rfl (cons2 (congrArg (fun x=>joinB 32 [[115,101,116],[114,52],x]) dec_0).symm (cons2 rfl (cons2 (congrArg (fun x=>joinB 32 [[115,101,116],[114,52],x]) dec_0).symm (cons2 rfl (cons2 (congrArg (fun x=>joinB 32 [[115,101,116],[114,54],x]) dec_2).symm (cons2 rfl (cons2 rfl (cons2 (congrArg (fun x=>joinB 32 [[115,101,116],[114,52],x]) dec_1).symm (cons2 rfl (cons2 rfl (cons2 (congrArg (fun x=>joinB 32 [[115,101,116],[114,55],x]) dec_0).symm (cons2 rfl (rfl)))))))))))))))))))
theorem okMutOut{base t:Nat}(hb:base≤1000000)(ht:t≤1000000):OkL (linMutOut base t):=by
 refine⟨?_,rfl,?_,Nat.le_of_ble_eq_true rfl⟩
 ·unfold linMutOut
  simp only [List.mem_cons,List.not_mem_nil,or_false,forall_eq_or_imp,forall_eq]
  exact⟨(fit_k (by decide) rfl (by omega)),(fit_k (by decide) rfl (by omega)),(fit_0 (by decide)),(fit_0 (by decide)),(fit_k (by decide) rfl (by omega)),(fit_0 (by decide)),show nameOk _=true from rfl,(fit_k (by decide) rfl (by omega)),(fit_k (by decide) rfl (by omega)),(fit_k (by decide) rfl (by omega)),(fit_k (by decide) rfl (by omega)),(fit_k (by decide) rfl (by omega)),(fit_0 (by decide)),(fit_0 (by decide)),(fit_k (by decide) rfl (by omega)),(fit_k (by decide) rfl (by omega)),show nameOk _=true from rfl,(fit_k (by decide) rfl (by omega)),show nameOk _=true from rfl⟩
 ·unfold linMutOut
  simp only [List.mem_cons,List.not_mem_nil,or_false,forall_eq_or_imp,forall_eq]
  exact⟨rfl,rfl,rfl,rfl,rfl,rfl,rfl,rfl,rfl,rfl,rfl,rfl,rfl,rfl,rfl,rfl,rfl,rfl,rfl⟩
theorem parseMutOut{base t:Nat}(hb:base≤1000000)(ht:t≤1000000):parseB (fillB base t (unl srcMutOut))=(resL (linMutOut base t),0,0):=by
 rw [fillB_unl _ _ _ (by decide),fillMutOut,←textL_unl]
 exact parse_text (okMutOut hb ht)
def srcSemIn:List B8:=[[97,103,97,105,110,58],[108,111,97,100,32,114,52,32,91,97,93],[115,111,109,101,32,114,52,32,64,116,114,121],[115,101,116,32,114,52,32,48],[119,97,105,116,32,114,52,32,91,97,93],[106,117,109,112,32,64,97,103,97,105,110],[116,114,121,58],[115,101,116,32,114,53,32,49],[115,117,98,32,114,53,32,114,52,32,114,53],[109,111,118,101,32,114,54,32,114,52],[99,97,115,32,114,52,32,114,53,32,91,97,93],[115,97,109,101,32,114,54,32,114,52,32,114,54],[122,101,114,111,32,114,54,32,64,97,103,97,105,110],[115,101,116,32,114,55,32,48],[101,110,100,58]]
def linSemIn(base t:Nat):List Ln:=[.lab [97,103,97,105,110],.ins ⟨16,4,8,0,((base+0:Nat):Int)⟩ [],.ins ⟨15,4,0,0,0⟩ [116,114,121],.ins ⟨1,4,0,0,0⟩ [],.ins ⟨23,4,8,0,((base+0:Nat):Int)⟩ [],.ins ⟨13,0,0,0,0⟩ [97,103,97,105,110],.lab [116,114,121],.ins ⟨1,5,0,0,1⟩ [],.ins ⟨4,5,4,5,0⟩ [],.ins ⟨2,6,4,0,0⟩ [],.ins ⟨21,4,8,5,((base+0:Nat):Int)⟩ [],.ins ⟨12,6,4,6,0⟩ [],.ins ⟨14,6,0,0,0⟩ [97,103,97,105,110],.ins ⟨1,7,0,0,0⟩ [],.lab [101,110,100]]
theorem fillSemIn(base t:Nat):(srcSemIn).map (fillB base t)=(linSemIn base t).map Ln.text:=by
 unfold srcSemIn linSemIn
 simp only [List.map_cons,List.map_nil]
 exact cons2 rfl (cons2 rfl (cons2 rfl (cons2 (congrArg (fun x=>joinB 32 [[115,101,116],[114,52],x]) dec_0).symm (cons2 rfl (cons2 rfl (cons2 rfl (cons2 (congrArg (fun x=>joinB 32 [[115,101,116],[114,53],x]) dec_1).symm (cons2 rfl (cons2 rfl (cons2 rfl (cons2 rfl (cons2 rfl (cons2 (congrArg (fun x=>joinB 32 [[115,101,116],[114,55],x]) dec_0).symm (cons2 rfl (rfl)))))))))))))))
theorem okSemIn{base t:Nat}(hb:base≤1000000)(ht:t≤1000000):OkL (linSemIn base t):=by
 refine⟨?_,rfl,?_,Nat.le_of_ble_eq_true rfl⟩
 ·unfold linSemIn
  simp only [List.mem_cons,List.not_mem_nil,or_false,forall_eq_or_imp,forall_eq]
  exact⟨show nameOk _=true from rfl,(fit_k (by decide) rfl (by omega)),(fit_0 (by decide)),(fit_k (by decide) rfl (by omega)),(fit_k (by decide) rfl (by omega)),(fit_0 (by decide)),show nameOk _=true from rfl,(fit_k (by decide) rfl (by omega)),(fit_0 (by decide)),(fit_0 (by decide)),(fit_k (by decide) rfl (by omega)),(fit_0 (by decide)),(fit_0 (by decide)),(fit_k (by decide) rfl (by omega)),show nameOk _=true from rfl⟩
 ·unfold linSemIn
  simp only [List.mem_cons,List.not_mem_nil,or_false,forall_eq_or_imp,forall_eq]
  exact⟨rfl,rfl,rfl,rfl,rfl,rfl,rfl,rfl,rfl,rfl,rfl,rfl,rfl,rfl,rfl⟩
theorem parseSemIn{base t:Nat}(hb:base≤1000000)(ht:t≤1000000):parseB (fillB base t (unl srcSemIn))=(resL (linSemIn base t),0,0):=by
 rw [fillB_unl _ _ _ (by decide),fillSemIn,←textL_unl]
 exact parse_text (okSemIn hb ht)
def srcSemOut(m:Nat):List B8:=[[97,103,97,105,110,58],[108,111,97,100,32,114,52,32,91,97,93],[115,101,116,32,114,53,32]++decB m,[115,97,109,101,32,114,54,32,114,52,32,114,53],[115,111,109,101,32,114,54,32,64,111,118,101,114],[115,101,116,32,114,53,32,49],[97,100,100,32,114,53,32,114,52,32,114,53],[109,111,118,101,32,114,54,32,114,52],[99,97,115,32,114,52,32,114,53,32,91,97,93],[115,97,109,101,32,114,54,32,114,52,32,114,54],[122,101,114,111,32,114,54,32,64,97,103,97,105,110],[115,101,116,32,114,52,32,49],[119,97,107,101,32,114,52,32,91,97,93],[115,101,116,32,114,55,32,48],[106,117,109,112,32,64,101,110,100],[111,118,101,114,58],[115,101,116,32,114,55,32,51],[101,110,100,58]]
def linSemOut(m base t:Nat):List Ln:=[.lab [97,103,97,105,110],.ins ⟨16,4,8,0,((base+0:Nat):Int)⟩ [],.ins ⟨1,5,0,0,((m:Nat):Int)⟩ [],.ins ⟨12,6,4,5,0⟩ [],.ins ⟨15,6,0,0,0⟩ [111,118,101,114],.ins ⟨1,5,0,0,1⟩ [],.ins ⟨3,5,4,5,0⟩ [],.ins ⟨2,6,4,0,0⟩ [],.ins ⟨21,4,8,5,((base+0:Nat):Int)⟩ [],.ins ⟨12,6,4,6,0⟩ [],.ins ⟨14,6,0,0,0⟩ [97,103,97,105,110],.ins ⟨1,4,0,0,1⟩ [],.ins ⟨24,4,8,0,((base+0:Nat):Int)⟩ [],.ins ⟨1,7,0,0,0⟩ [],.ins ⟨13,0,0,0,0⟩ [101,110,100],.lab [111,118,101,114],.ins ⟨1,7,0,0,3⟩ [],.lab [101,110,100]]
theorem fillSemOut(m base t:Nat):(srcSemOut m).map (fillB base t)=(linSemOut m base t).map Ln.text:=by
 unfold srcSemOut linSemOut
 simp only [List.map_cons,List.map_nil]
 exact cons2 rfl (cons2 rfl (cons2 ((fill_skip base t (decB m) [115,101,116,32,114,53,32] (by decide)).trans (congrArg (fun x=>[115,101,116,32,114,53,32]++x) (fill_dig base t (dig_dec m)))) (cons2 rfl (cons2 rfl (cons2 (congrArg (fun x=>joinB 32 [[115,101,116],[114,53],x]) dec_1).symm (cons2 rfl (cons2 rfl (cons2 rfl (cons2 rfl (cons2 rfl (cons2 (congrArg (fun x=>joinB 32 [[115,101,116],[114,52],x]) dec_1).symm (cons2 rfl (cons2 (congrArg (fun x=>joinB 32 [[115,101,116],[114,55],x]) dec_0).symm (cons2 rfl (cons2 rfl (cons2 (congrArg (fun x=>joinB 32 [[115,101,116],[114,55],x]) dec_3).symm (cons2 rfl (rfl))))))))))))))))))
theorem okSemOut{m base t:Nat}(hb:base≤1000000)(ht:t≤1000000)(hm:m≤1000):OkL (linSemOut m base t):=by
 refine⟨?_,rfl,?_,Nat.le_of_ble_eq_true rfl⟩
 ·unfold linSemOut
  simp only [List.mem_cons,List.not_mem_nil,or_false,forall_eq_or_imp,forall_eq]
  exact⟨show nameOk _=true from rfl,(fit_k (by decide) rfl (by omega)),(fit_k (by decide) rfl (by omega)),(fit_0 (by decide)),(fit_0 (by decide)),(fit_k (by decide) rfl (by omega)),(fit_0 (by decide)),(fit_0 (by decide)),(fit_k (by decide) rfl (by omega)),(fit_0 (by decide)),(fit_0 (by decide)),(fit_k (by decide) rfl (by omega)),(fit_k (by decide) rfl (by omega)),(fit_k (by decide) rfl (by omega)),(fit_0 (by decide)),show nameOk _=true from rfl,(fit_k (by decide) rfl (by omega)),show nameOk _=true from rfl⟩
 ·unfold linSemOut
  simp only [List.mem_cons,List.not_mem_nil,or_false,forall_eq_or_imp,forall_eq]
  exact⟨rfl,rfl,rfl,rfl,rfl,rfl,rfl,rfl,rfl,rfl,rfl,rfl,rfl,rfl,rfl,rfl,rfl,rfl⟩
theorem shrtSemOut{m:Nat}(hm:m≤1000):∀ l∈srcSemOut m,Shrt l:=by
 unfold srcSemOut
 simp only [List.mem_cons,List.not_mem_nil,or_false,forall_eq_or_imp,forall_eq]
 exact⟨shrt_of (by decide),shrt_of (by decide),shrt_dec hm (by decide),shrt_of (by decide),shrt_of (by decide),shrt_of (by decide),shrt_of (by decide),shrt_of (by decide),shrt_of (by decide),shrt_of (by decide),shrt_of (by decide),shrt_of (by decide),shrt_of (by decide),shrt_of (by decide),shrt_of (by decide),shrt_of (by decide),shrt_of (by decide),shrt_of (by decide)⟩
theorem lenSemOut{m:Nat}(hm:m≤1000):(unl (srcSemOut m)).length≤10000:=Nat.le_trans (unl_short _ (shrtSemOut hm)) (Nat.le_of_ble_eq_true rfl)
theorem parseSemOut{m base t:Nat}(hb:base≤1000000)(ht:t≤1000000)(hm:m≤1000):parseB (fillB base t (unl (srcSemOut m)))=(resL (linSemOut m base t),0,0):=by
 rw [fillB_unl _ _ _ (fun l h=>(shrtSemOut hm l h).2),fillSemOut,←textL_unl]
 exact parse_text (okSemOut hb ht hm)
end Go.Proofs.YtcnmhgblbikfkaaGreatDoor.As
end

