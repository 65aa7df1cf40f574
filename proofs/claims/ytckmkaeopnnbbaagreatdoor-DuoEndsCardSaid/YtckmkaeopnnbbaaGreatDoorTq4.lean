/- Plain Lean: peterson's lock: one at a time. No program in sight. -/
import Derived.Test.YtckmkaeopnnbbaaGreatDoorGl
import Derived.Test.YtckmkaeopnnbbaaGreatDoorLocks2
set_option linter.unusedVariables false
set_option linter.unusedSimpArgs false
namespace Go.Proofs.YtckmkaeopnnbbaaGreatDoor.As.Pet

def petF(A t:Nat):List Ln:=if t=A then linPetInA 16 t else linPetInB 16 t
def petG(A t:Nat):List Ln:=if t=A then linPetOutA 16 t else linPetOutB 16 t
def ownA(A t:Nat):Nat:=if t=A then 16 else 17
def theirA(A t:Nat):Nat:=if t=A then 17 else 16
def othA(A t:Nat):Int:=if t=A then 1 else 0
def base(me:Int)(own their:Nat)(oth:Int):List Ins:=[⟨27,7,0,0,0⟩,⟨16,4,8,0,19⟩,⟨1,5,0,0,me⟩,⟨12,6,4,5,0⟩,⟨14,6,0,0,7⟩,⟨1,7,0,0,1⟩,⟨13,0,0,0,20⟩,⟨1,4,0,0,1⟩,⟨17,4,8,0,(own:Int)⟩,⟨1,4,0,0,oth⟩,⟨17,4,8,0,18⟩,⟨18,0,0,0,0⟩,⟨16,4,8,0,(their:Int)⟩,⟨14,4,0,0,18⟩,⟨16,4,8,0,18⟩,⟨1,6,0,0,oth⟩,⟨12,6,4,6,0⟩,⟨15,6,0,0,12⟩,⟨17,5,8,0,19⟩,⟨1,7,0,0,0⟩,⟨27,7,0,0,1⟩,⟨16,1,8,0,0⟩,⟨1,2,0,0,1⟩,⟨3,1,1,2,0⟩,⟨17,1,8,0,0⟩,⟨27,7,0,0,2⟩,⟨16,4,8,0,19⟩,⟨1,5,0,0,me⟩,⟨12,6,4,5,0⟩,⟨15,6,0,0,32⟩,⟨1,7,0,0,2⟩,⟨13,0,0,0,37⟩,⟨1,4,0,0,0⟩,⟨17,4,8,0,19⟩,⟨1,4,0,0,0⟩,⟨17,4,8,0,(own:Int)⟩,⟨1,7,0,0,0⟩,⟨27,7,0,0,3⟩]
theorem base_eq(A t:Nat):baseR (resL (petF A t)) (resL (petG A t))=base ((t+1:Nat):Int) (ownA A t) (theirA A t) (othA A t):=by
 unfold petF petG ownA theirA othA
 by_cases e:t=A
 ·rw [if_pos e,if_pos e,if_pos e,if_pos e,if_pos e]
  have e1:resL (linPetInA 16 t)=[⟨16,4,8,0,19⟩,⟨1,5,0,0,((t+1:Nat):Int)⟩,⟨12,6,4,5,0⟩,⟨14,6,0,0,6⟩,⟨1,7,0,0,1⟩,⟨13,0,0,0,19⟩,⟨1,4,0,0,1⟩,⟨17,4,8,0,16⟩,⟨1,4,0,0,1⟩,⟨17,4,8,0,18⟩,⟨18,0,0,0,0⟩,⟨16,4,8,0,17⟩,⟨14,4,0,0,17⟩,⟨16,4,8,0,18⟩,⟨1,6,0,0,1⟩,⟨12,6,4,6,0⟩,⟨15,6,0,0,11⟩,⟨17,5,8,0,19⟩,⟨1,7,0,0,0⟩]:=rfl
  have e2:resL (linPetOutA 16 t)=[⟨16,4,8,0,19⟩,⟨1,5,0,0,((t+1:Nat):Int)⟩,⟨12,6,4,5,0⟩,⟨15,6,0,0,6⟩,⟨1,7,0,0,2⟩,⟨13,0,0,0,11⟩,⟨1,4,0,0,0⟩,⟨17,4,8,0,19⟩,⟨1,4,0,0,0⟩,⟨17,4,8,0,16⟩,⟨1,7,0,0,0⟩]:=rfl
  rw [e1,e2,baseR_eq]
  simp [base,incR,movI,jumps,wr32]
 ·rw [if_neg e,if_neg e,if_neg e,if_neg e,if_neg e]
  have e1:resL (linPetInB 16 t)=[⟨16,4,8,0,19⟩,⟨1,5,0,0,((t+1:Nat):Int)⟩,⟨12,6,4,5,0⟩,⟨14,6,0,0,6⟩,⟨1,7,0,0,1⟩,⟨13,0,0,0,19⟩,⟨1,4,0,0,1⟩,⟨17,4,8,0,17⟩,⟨1,4,0,0,0⟩,⟨17,4,8,0,18⟩,⟨18,0,0,0,0⟩,⟨16,4,8,0,16⟩,⟨14,4,0,0,17⟩,⟨16,4,8,0,18⟩,⟨1,6,0,0,0⟩,⟨12,6,4,6,0⟩,⟨15,6,0,0,11⟩,⟨17,5,8,0,19⟩,⟨1,7,0,0,0⟩]:=rfl
  have e2:resL (linPetOutB 16 t)=[⟨16,4,8,0,19⟩,⟨1,5,0,0,((t+1:Nat):Int)⟩,⟨12,6,4,5,0⟩,⟨15,6,0,0,6⟩,⟨1,7,0,0,2⟩,⟨13,0,0,0,11⟩,⟨1,4,0,0,0⟩,⟨17,4,8,0,19⟩,⟨1,4,0,0,0⟩,⟨17,4,8,0,17⟩,⟨1,7,0,0,0⟩]:=rfl
  rw [e1,e2,baseR_eq]
  simp [base,incR,movI,jumps,wr32]
def codeT(A R t:Nat):List Ins:=roundsR (resL (petF A t)) (resL (petG A t)) R []
theorem code_len(A R t:Nat):(codeT A R t).length=R*38:=by
 unfold codeT
 rw [roundsR_len,base_eq];simp [base]
theorem code_get(A R t p j:Nat)(hp:p < R)(hj:j < 38):(codeT A R t)[p*38+j]? = ((base ((t+1:Nat):Int) (ownA A t) (theirA A t) (othA A t))[j]?).map (movI (p*38)):=by
 have h:=roundsR_get (resL (petF A t)) (resL (petG A t)) R [] p j hp (by rw [base_eq];exact hj)
 rw [base_eq] at h
 have e:([]:List Ins).length+p*(base ((t+1:Nat):Int) (ownA A t) (theirA A t) (othA A t)).length=p*38:=by rw [List.length_nil,Nat.zero_add];rfl
 rw [e] at h
 exact h
inductive At(me:Int)(own:Nat)(oth fo ow c:Int)(g:Nat):Nat→Int→Int→Int→Int→Int→Int→List (Nat×Int)→Prop
 | a0H04 {r1 r2 r4 r5 r6 r7:Int} (h0:g=3) (h1:fo=1):At me own oth fo ow c g 0 r1 r2 r4 r5 r6 r7 [(19,me),(0,wr32 (c+1)),(19,0),(own,0)]
 | a0H14 {r1 r2 r4 r5 r6 r7:Int} (h0:g=3) (h1:fo=1) (h2:ow=me):At me own oth fo ow c g 0 r1 r2 r4 r5 r6 r7 [(0,wr32 (c+1)),(19,0),(own,0)]
 | a0H24 {r1 r2 r4 r5 r6 r7:Int} (h0:g=3) (h1:fo=1) (h2:ow=me):At me own oth fo ow c g 0 r1 r2 r4 r5 r6 r7 [(19,0),(own,0)]
 | a0H34 {r1 r2 r4 r5 r6 r7:Int} (h0:g=3) (h1:fo=1) (h2:ow=0):At me own oth fo ow c g 0 r1 r2 r4 r5 r6 r7 [(own,0)]
 | a0H44 {r1 r2 r4 r5 r6 r7:Int} (h0:g=0) (h1:fo=0) (h2:ow≠me):At me own oth fo ow c g 0 r1 r2 r4 r5 r6 r7 []
 | a1H04 {r1 r2 r4 r5 r6 r7:Int} (h0:g=3) (h1:fo=1):At me own oth fo ow c g 1 r1 r2 r4 r5 r6 r7 [(19,me),(0,wr32 (c+1)),(19,0),(own,0)]
 | a1H14 {r1 r2 r4 r5 r6 r7:Int} (h0:g=3) (h1:fo=1) (h2:ow=me):At me own oth fo ow c g 1 r1 r2 r4 r5 r6 r7 [(0,wr32 (c+1)),(19,0),(own,0)]
 | a1H24 {r1 r2 r4 r5 r6 r7:Int} (h0:g=3) (h1:fo=1) (h2:ow=me):At me own oth fo ow c g 1 r1 r2 r4 r5 r6 r7 [(19,0),(own,0)]
 | a1H34 {r1 r2 r4 r5 r6 r7:Int} (h0:g=3) (h1:fo=1) (h2:ow=0):At me own oth fo ow c g 1 r1 r2 r4 r5 r6 r7 [(own,0)]
 | a1H44 {r1 r2 r4 r5 r6 r7:Int} (h0:g=0) (h1:fo=0) (h2:ow≠me):At me own oth fo ow c g 1 r1 r2 r4 r5 r6 r7 []
 | a2H04 {r1 r2 r4 r5 r6 r7:Int} (h0:g=3) (h1:fo=1) (h2:r4≠me):At me own oth fo ow c g 2 r1 r2 r4 r5 r6 r7 [(19,me),(0,wr32 (c+1)),(19,0),(own,0)]
 | a2H14 {r1 r2 r4 r5 r6 r7:Int} (h0:g=3) (h1:fo=1) (h2:ow=me) (h3:r4≠me):At me own oth fo ow c g 2 r1 r2 r4 r5 r6 r7 [(0,wr32 (c+1)),(19,0),(own,0)]
 | a2H24 {r1 r2 r4 r5 r6 r7:Int} (h0:g=3) (h1:fo=1) (h2:ow=me) (h3:r4≠me):At me own oth fo ow c g 2 r1 r2 r4 r5 r6 r7 [(19,0),(own,0)]
 | a2H34 {r1 r2 r4 r5 r6 r7:Int} (h0:g=3) (h1:fo=1) (h2:ow=0) (h3:r4≠me):At me own oth fo ow c g 2 r1 r2 r4 r5 r6 r7 [(own,0)]
 | a2H44 {r1 r2 r4 r5 r6 r7:Int} (h0:g=0) (h1:fo=0) (h2:ow≠me) (h3:r4≠me):At me own oth fo ow c g 2 r1 r2 r4 r5 r6 r7 []
 | a3H04 {r1 r2 r4 r5 r6 r7:Int} (h0:g=3) (h1:fo=1) (h2:r4≠me) (h3:r5=me):At me own oth fo ow c g 3 r1 r2 r4 r5 r6 r7 [(19,me),(0,wr32 (c+1)),(19,0),(own,0)]
 | a3H14 {r1 r2 r4 r5 r6 r7:Int} (h0:g=3) (h1:fo=1) (h2:ow=me) (h3:r4≠me) (h4:r5=me):At me own oth fo ow c g 3 r1 r2 r4 r5 r6 r7 [(0,wr32 (c+1)),(19,0),(own,0)]
 | a3H24 {r1 r2 r4 r5 r6 r7:Int} (h0:g=3) (h1:fo=1) (h2:ow=me) (h3:r4≠me) (h4:r5=me):At me own oth fo ow c g 3 r1 r2 r4 r5 r6 r7 [(19,0),(own,0)]
 | a3H34 {r1 r2 r4 r5 r6 r7:Int} (h0:g=3) (h1:fo=1) (h2:ow=0) (h3:r4≠me) (h4:r5=me):At me own oth fo ow c g 3 r1 r2 r4 r5 r6 r7 [(own,0)]
 | a3H44 {r1 r2 r4 r5 r6 r7:Int} (h0:g=0) (h1:fo=0) (h2:ow≠me) (h3:r4≠me) (h4:r5=me):At me own oth fo ow c g 3 r1 r2 r4 r5 r6 r7 []
 | a4H04 {r1 r2 r4 r5 r6 r7:Int} (h0:g=3) (h1:fo=1) (h2:r5=me) (h3:r6=0):At me own oth fo ow c g 4 r1 r2 r4 r5 r6 r7 [(19,me),(0,wr32 (c+1)),(19,0),(own,0)]
 | a4H14 {r1 r2 r4 r5 r6 r7:Int} (h0:g=3) (h1:fo=1) (h2:ow=me) (h3:r5=me) (h4:r6=0):At me own oth fo ow c g 4 r1 r2 r4 r5 r6 r7 [(0,wr32 (c+1)),(19,0),(own,0)]
 | a4H24 {r1 r2 r4 r5 r6 r7:Int} (h0:g=3) (h1:fo=1) (h2:ow=me) (h3:r5=me) (h4:r6=0):At me own oth fo ow c g 4 r1 r2 r4 r5 r6 r7 [(19,0),(own,0)]
 | a4H34 {r1 r2 r4 r5 r6 r7:Int} (h0:g=3) (h1:fo=1) (h2:ow=0) (h3:r5=me) (h4:r6=0):At me own oth fo ow c g 4 r1 r2 r4 r5 r6 r7 [(own,0)]
 | a4H44 {r1 r2 r4 r5 r6 r7:Int} (h0:g=0) (h1:fo=0) (h2:ow≠me) (h3:r5=me) (h4:r6=0):At me own oth fo ow c g 4 r1 r2 r4 r5 r6 r7 []
 | a7H04 {r1 r2 r4 r5 r6 r7:Int} (h0:g=3) (h1:fo=1) (h2:r5=me):At me own oth fo ow c g 7 r1 r2 r4 r5 r6 r7 [(19,me),(0,wr32 (c+1)),(19,0),(own,0)]
 | a7H14 {r1 r2 r4 r5 r6 r7:Int} (h0:g=3) (h1:fo=1) (h2:ow=me) (h3:r5=me):At me own oth fo ow c g 7 r1 r2 r4 r5 r6 r7 [(0,wr32 (c+1)),(19,0),(own,0)]
 | a7H24 {r1 r2 r4 r5 r6 r7:Int} (h0:g=3) (h1:fo=1) (h2:ow=me) (h3:r5=me):At me own oth fo ow c g 7 r1 r2 r4 r5 r6 r7 [(19,0),(own,0)]
 | a7H34 {r1 r2 r4 r5 r6 r7:Int} (h0:g=3) (h1:fo=1) (h2:ow=0) (h3:r5=me):At me own oth fo ow c g 7 r1 r2 r4 r5 r6 r7 [(own,0)]
 | a7H44 {r1 r2 r4 r5 r6 r7:Int} (h0:g=0) (h1:fo=0) (h2:ow≠me) (h3:r5=me):At me own oth fo ow c g 7 r1 r2 r4 r5 r6 r7 []
 | a8H04 {r1 r2 r4 r5 r6 r7:Int} (h0:g=3) (h1:fo=1) (h2:r5=me) (h3:r4=1):At me own oth fo ow c g 8 r1 r2 r4 r5 r6 r7 [(19,me),(0,wr32 (c+1)),(19,0),(own,0)]
 | a8H14 {r1 r2 r4 r5 r6 r7:Int} (h0:g=3) (h1:fo=1) (h2:ow=me) (h3:r5=me) (h4:r4=1):At me own oth fo ow c g 8 r1 r2 r4 r5 r6 r7 [(0,wr32 (c+1)),(19,0),(own,0)]
 | a8H24 {r1 r2 r4 r5 r6 r7:Int} (h0:g=3) (h1:fo=1) (h2:ow=me) (h3:r5=me) (h4:r4=1):At me own oth fo ow c g 8 r1 r2 r4 r5 r6 r7 [(19,0),(own,0)]
 | a8H34 {r1 r2 r4 r5 r6 r7:Int} (h0:g=3) (h1:fo=1) (h2:ow=0) (h3:r5=me) (h4:r4=1):At me own oth fo ow c g 8 r1 r2 r4 r5 r6 r7 [(own,0)]
 | a8H44 {r1 r2 r4 r5 r6 r7:Int} (h0:g=0) (h1:fo=0) (h2:ow≠me) (h3:r5=me) (h4:r4=1):At me own oth fo ow c g 8 r1 r2 r4 r5 r6 r7 []
 | a9H05 {r1 r2 r4 r5 r6 r7:Int} (h0:g=3) (h1:fo=1) (h2:r5=me):At me own oth fo ow c g 9 r1 r2 r4 r5 r6 r7 [(19,me),(0,wr32 (c+1)),(19,0),(own,0),(own,1)]
 | a9H15 {r1 r2 r4 r5 r6 r7:Int} (h0:g=3) (h1:fo=1) (h2:ow=me) (h3:r5=me):At me own oth fo ow c g 9 r1 r2 r4 r5 r6 r7 [(0,wr32 (c+1)),(19,0),(own,0),(own,1)]
 | a9H25 {r1 r2 r4 r5 r6 r7:Int} (h0:g=3) (h1:fo=1) (h2:ow=me) (h3:r5=me):At me own oth fo ow c g 9 r1 r2 r4 r5 r6 r7 [(19,0),(own,0),(own,1)]
 | a9H35 {r1 r2 r4 r5 r6 r7:Int} (h0:g=3) (h1:fo=1) (h2:ow=0) (h3:r5=me):At me own oth fo ow c g 9 r1 r2 r4 r5 r6 r7 [(own,0),(own,1)]
 | a9H45 {r1 r2 r4 r5 r6 r7:Int} (h0:g=0) (h1:fo=0) (h2:ow≠me) (h3:r5=me):At me own oth fo ow c g 9 r1 r2 r4 r5 r6 r7 [(own,1)]
 | a9H55 {r1 r2 r4 r5 r6 r7:Int} (h0:g=1) (h1:fo=1) (h2:ow≠me) (h3:r5=me):At me own oth fo ow c g 9 r1 r2 r4 r5 r6 r7 []
 | a10H05 {r1 r2 r4 r5 r6 r7:Int} (h0:g=3) (h1:fo=1) (h2:r5=me) (h3:r4=oth):At me own oth fo ow c g 10 r1 r2 r4 r5 r6 r7 [(19,me),(0,wr32 (c+1)),(19,0),(own,0),(own,1)]
 | a10H15 {r1 r2 r4 r5 r6 r7:Int} (h0:g=3) (h1:fo=1) (h2:ow=me) (h3:r5=me) (h4:r4=oth):At me own oth fo ow c g 10 r1 r2 r4 r5 r6 r7 [(0,wr32 (c+1)),(19,0),(own,0),(own,1)]
 | a10H25 {r1 r2 r4 r5 r6 r7:Int} (h0:g=3) (h1:fo=1) (h2:ow=me) (h3:r5=me) (h4:r4=oth):At me own oth fo ow c g 10 r1 r2 r4 r5 r6 r7 [(19,0),(own,0),(own,1)]
 | a10H35 {r1 r2 r4 r5 r6 r7:Int} (h0:g=3) (h1:fo=1) (h2:ow=0) (h3:r5=me) (h4:r4=oth):At me own oth fo ow c g 10 r1 r2 r4 r5 r6 r7 [(own,0),(own,1)]
 | a10H45 {r1 r2 r4 r5 r6 r7:Int} (h0:g=0) (h1:fo=0) (h2:ow≠me) (h3:r5=me) (h4:r4=oth):At me own oth fo ow c g 10 r1 r2 r4 r5 r6 r7 [(own,1)]
 | a10H55 {r1 r2 r4 r5 r6 r7:Int} (h0:g=1) (h1:fo=1) (h2:ow≠me) (h3:r5=me) (h4:r4=oth):At me own oth fo ow c g 10 r1 r2 r4 r5 r6 r7 []
 | a11H06 {r1 r2 r4 r5 r6 r7:Int} (h0:g=3) (h1:fo=1) (h2:r5=me):At me own oth fo ow c g 11 r1 r2 r4 r5 r6 r7 [(19,me),(0,wr32 (c+1)),(19,0),(own,0),(own,1),(18,oth)]
 | a11H16 {r1 r2 r4 r5 r6 r7:Int} (h0:g=3) (h1:fo=1) (h2:ow=me) (h3:r5=me):At me own oth fo ow c g 11 r1 r2 r4 r5 r6 r7 [(0,wr32 (c+1)),(19,0),(own,0),(own,1),(18,oth)]
 | a11H26 {r1 r2 r4 r5 r6 r7:Int} (h0:g=3) (h1:fo=1) (h2:ow=me) (h3:r5=me):At me own oth fo ow c g 11 r1 r2 r4 r5 r6 r7 [(19,0),(own,0),(own,1),(18,oth)]
 | a11H36 {r1 r2 r4 r5 r6 r7:Int} (h0:g=3) (h1:fo=1) (h2:ow=0) (h3:r5=me):At me own oth fo ow c g 11 r1 r2 r4 r5 r6 r7 [(own,0),(own,1),(18,oth)]
 | a11H46 {r1 r2 r4 r5 r6 r7:Int} (h0:g=0) (h1:fo=0) (h2:ow≠me) (h3:r5=me):At me own oth fo ow c g 11 r1 r2 r4 r5 r6 r7 [(own,1),(18,oth)]
 | a11H56 {r1 r2 r4 r5 r6 r7:Int} (h0:g=1) (h1:fo=1) (h2:ow≠me) (h3:r5=me):At me own oth fo ow c g 11 r1 r2 r4 r5 r6 r7 [(18,oth)]
 | a11H66 {r1 r2 r4 r5 r6 r7:Int} (h0:g=2) (h1:fo=1) (h2:ow≠me) (h3:r5=me):At me own oth fo ow c g 11 r1 r2 r4 r5 r6 r7 []
 | a12W {r1 r2 r4 r5 r6 r7:Int} (h0:g=2) (h1:fo=1) (h2:ow≠me) (h3:r5=me):At me own oth fo ow c g 12 r1 r2 r4 r5 r6 r7 []
 | a13C {r1 r2 r4 r5 r6 r7:Int} (h0:g=3) (h1:fo=1) (h2:ow≠me) (h3:r5=me) (h4:r4=0):At me own oth fo ow c g 13 r1 r2 r4 r5 r6 r7 []
 | a13W {r1 r2 r4 r5 r6 r7:Int} (h0:g=2) (h1:fo=1) (h2:ow≠me) (h3:r5=me) (h4:r4≠0):At me own oth fo ow c g 13 r1 r2 r4 r5 r6 r7 []
 | a14W {r1 r2 r4 r5 r6 r7:Int} (h0:g=2) (h1:fo=1) (h2:ow≠me) (h3:r5=me):At me own oth fo ow c g 14 r1 r2 r4 r5 r6 r7 []
 | a15C {r1 r2 r4 r5 r6 r7:Int} (h0:g=3) (h1:fo=1) (h2:ow≠me) (h3:r5=me) (h4:r4≠oth):At me own oth fo ow c g 15 r1 r2 r4 r5 r6 r7 []
 | a15W {r1 r2 r4 r5 r6 r7:Int} (h0:g=2) (h1:fo=1) (h2:ow≠me) (h3:r5=me) (h4:r4=oth):At me own oth fo ow c g 15 r1 r2 r4 r5 r6 r7 []
 | a16C {r1 r2 r4 r5 r6 r7:Int} (h0:g=3) (h1:fo=1) (h2:ow≠me) (h3:r5=me) (h4:r4≠oth) (h5:r6=oth):At me own oth fo ow c g 16 r1 r2 r4 r5 r6 r7 []
 | a16W {r1 r2 r4 r5 r6 r7:Int} (h0:g=2) (h1:fo=1) (h2:ow≠me) (h3:r5=me) (h4:r4=oth) (h5:r6=oth):At me own oth fo ow c g 16 r1 r2 r4 r5 r6 r7 []
 | a17C {r1 r2 r4 r5 r6 r7:Int} (h0:g=3) (h1:fo=1) (h2:ow≠me) (h3:r5=me) (h4:r6=0):At me own oth fo ow c g 17 r1 r2 r4 r5 r6 r7 []
 | a17W {r1 r2 r4 r5 r6 r7:Int} (h0:g=2) (h1:fo=1) (h2:ow≠me) (h3:r5=me) (h4:r6≠0):At me own oth fo ow c g 17 r1 r2 r4 r5 r6 r7 []
 | a18C {r1 r2 r4 r5 r6 r7:Int} (h0:g=3) (h1:fo=1) (h2:ow≠me) (h3:r5=me):At me own oth fo ow c g 18 r1 r2 r4 r5 r6 r7 []
 | a19H01 {r1 r2 r4 r5 r6 r7:Int} (h0:g=3) (h1:fo=1):At me own oth fo ow c g 19 r1 r2 r4 r5 r6 r7 [(19,me)]
 | a19H11 {r1 r2 r4 r5 r6 r7:Int} (h0:g=3) (h1:fo=1) (h2:ow=me):At me own oth fo ow c g 19 r1 r2 r4 r5 r6 r7 []
 | a20H01 {r1 r2 r4 r5 r6 r7:Int} (h0:g=3) (h1:fo=1) (h2:r7=0):At me own oth fo ow c g 20 r1 r2 r4 r5 r6 r7 [(19,me)]
 | a20H11 {r1 r2 r4 r5 r6 r7:Int} (h0:g=3) (h1:fo=1) (h2:ow=me) (h3:r7=0):At me own oth fo ow c g 20 r1 r2 r4 r5 r6 r7 []
 | a21H01 {r1 r2 r4 r5 r6 r7:Int} (h0:g=3) (h1:fo=1):At me own oth fo ow c g 21 r1 r2 r4 r5 r6 r7 [(19,me)]
 | a21H11 {r1 r2 r4 r5 r6 r7:Int} (h0:g=3) (h1:fo=1) (h2:ow=me):At me own oth fo ow c g 21 r1 r2 r4 r5 r6 r7 []
 | a22H01 {r1 r2 r4 r5 r6 r7:Int} (h0:g=3) (h1:fo=1) (h2:r1=c):At me own oth fo ow c g 22 r1 r2 r4 r5 r6 r7 [(19,me)]
 | a22H11 {r1 r2 r4 r5 r6 r7:Int} (h0:g=3) (h1:fo=1) (h2:ow=me) (h3:r1=c):At me own oth fo ow c g 22 r1 r2 r4 r5 r6 r7 []
 | a23H01 {r1 r2 r4 r5 r6 r7:Int} (h0:g=3) (h1:fo=1) (h2:r1=c) (h3:r2=1):At me own oth fo ow c g 23 r1 r2 r4 r5 r6 r7 [(19,me)]
 | a23H11 {r1 r2 r4 r5 r6 r7:Int} (h0:g=3) (h1:fo=1) (h2:ow=me) (h3:r1=c) (h4:r2=1):At me own oth fo ow c g 23 r1 r2 r4 r5 r6 r7 []
 | a24H01 {r1 r2 r4 r5 r6 r7:Int} (h0:g=3) (h1:fo=1) (h2:r1=wr32 (c+1)):At me own oth fo ow c g 24 r1 r2 r4 r5 r6 r7 [(19,me)]
 | a24H11 {r1 r2 r4 r5 r6 r7:Int} (h0:g=3) (h1:fo=1) (h2:ow=me) (h3:r1=wr32 (c+1)):At me own oth fo ow c g 24 r1 r2 r4 r5 r6 r7 []
 | a25H02 {r1 r2 r4 r5 r6 r7:Int} (h0:g=3) (h1:fo=1):At me own oth fo ow c g 25 r1 r2 r4 r5 r6 r7 [(19,me),(0,wr32 (c+1))]
 | a25H12 {r1 r2 r4 r5 r6 r7:Int} (h0:g=3) (h1:fo=1) (h2:ow=me):At me own oth fo ow c g 25 r1 r2 r4 r5 r6 r7 [(0,wr32 (c+1))]
 | a25H22 {r1 r2 r4 r5 r6 r7:Int} (h0:g=3) (h1:fo=1) (h2:ow=me):At me own oth fo ow c g 25 r1 r2 r4 r5 r6 r7 []
 | a26H02 {r1 r2 r4 r5 r6 r7:Int} (h0:g=3) (h1:fo=1):At me own oth fo ow c g 26 r1 r2 r4 r5 r6 r7 [(19,me),(0,wr32 (c+1))]
 | a26H12 {r1 r2 r4 r5 r6 r7:Int} (h0:g=3) (h1:fo=1) (h2:ow=me):At me own oth fo ow c g 26 r1 r2 r4 r5 r6 r7 [(0,wr32 (c+1))]
 | a26H22 {r1 r2 r4 r5 r6 r7:Int} (h0:g=3) (h1:fo=1) (h2:ow=me):At me own oth fo ow c g 26 r1 r2 r4 r5 r6 r7 []
 | a27H02 {r1 r2 r4 r5 r6 r7:Int} (h0:g=3) (h1:fo=1) (h2:r4=me):At me own oth fo ow c g 27 r1 r2 r4 r5 r6 r7 [(19,me),(0,wr32 (c+1))]
 | a27H12 {r1 r2 r4 r5 r6 r7:Int} (h0:g=3) (h1:fo=1) (h2:ow=me) (h3:r4=me):At me own oth fo ow c g 27 r1 r2 r4 r5 r6 r7 [(0,wr32 (c+1))]
 | a27H22 {r1 r2 r4 r5 r6 r7:Int} (h0:g=3) (h1:fo=1) (h2:ow=me) (h3:r4=me):At me own oth fo ow c g 27 r1 r2 r4 r5 r6 r7 []
 | a28H02 {r1 r2 r4 r5 r6 r7:Int} (h0:g=3) (h1:fo=1) (h2:r4=me) (h3:r5=me):At me own oth fo ow c g 28 r1 r2 r4 r5 r6 r7 [(19,me),(0,wr32 (c+1))]
 | a28H12 {r1 r2 r4 r5 r6 r7:Int} (h0:g=3) (h1:fo=1) (h2:ow=me) (h3:r4=me) (h4:r5=me):At me own oth fo ow c g 28 r1 r2 r4 r5 r6 r7 [(0,wr32 (c+1))]
 | a28H22 {r1 r2 r4 r5 r6 r7:Int} (h0:g=3) (h1:fo=1) (h2:ow=me) (h3:r4=me) (h4:r5=me):At me own oth fo ow c g 28 r1 r2 r4 r5 r6 r7 []
 | a29H02 {r1 r2 r4 r5 r6 r7:Int} (h0:g=3) (h1:fo=1) (h2:r6=1):At me own oth fo ow c g 29 r1 r2 r4 r5 r6 r7 [(19,me),(0,wr32 (c+1))]
 | a29H12 {r1 r2 r4 r5 r6 r7:Int} (h0:g=3) (h1:fo=1) (h2:ow=me) (h3:r6=1):At me own oth fo ow c g 29 r1 r2 r4 r5 r6 r7 [(0,wr32 (c+1))]
 | a29H22 {r1 r2 r4 r5 r6 r7:Int} (h0:g=3) (h1:fo=1) (h2:ow=me) (h3:r6=1):At me own oth fo ow c g 29 r1 r2 r4 r5 r6 r7 []
 | a32H02 {r1 r2 r4 r5 r6 r7:Int} (h0:g=3) (h1:fo=1):At me own oth fo ow c g 32 r1 r2 r4 r5 r6 r7 [(19,me),(0,wr32 (c+1))]
 | a32H12 {r1 r2 r4 r5 r6 r7:Int} (h0:g=3) (h1:fo=1) (h2:ow=me):At me own oth fo ow c g 32 r1 r2 r4 r5 r6 r7 [(0,wr32 (c+1))]
 | a32H22 {r1 r2 r4 r5 r6 r7:Int} (h0:g=3) (h1:fo=1) (h2:ow=me):At me own oth fo ow c g 32 r1 r2 r4 r5 r6 r7 []
 | a33H02 {r1 r2 r4 r5 r6 r7:Int} (h0:g=3) (h1:fo=1) (h2:r4=0):At me own oth fo ow c g 33 r1 r2 r4 r5 r6 r7 [(19,me),(0,wr32 (c+1))]
 | a33H12 {r1 r2 r4 r5 r6 r7:Int} (h0:g=3) (h1:fo=1) (h2:ow=me) (h3:r4=0):At me own oth fo ow c g 33 r1 r2 r4 r5 r6 r7 [(0,wr32 (c+1))]
 | a33H22 {r1 r2 r4 r5 r6 r7:Int} (h0:g=3) (h1:fo=1) (h2:ow=me) (h3:r4=0):At me own oth fo ow c g 33 r1 r2 r4 r5 r6 r7 []
 | a34H03 {r1 r2 r4 r5 r6 r7:Int} (h0:g=3) (h1:fo=1):At me own oth fo ow c g 34 r1 r2 r4 r5 r6 r7 [(19,me),(0,wr32 (c+1)),(19,0)]
 | a34H13 {r1 r2 r4 r5 r6 r7:Int} (h0:g=3) (h1:fo=1) (h2:ow=me):At me own oth fo ow c g 34 r1 r2 r4 r5 r6 r7 [(0,wr32 (c+1)),(19,0)]
 | a34H23 {r1 r2 r4 r5 r6 r7:Int} (h0:g=3) (h1:fo=1) (h2:ow=me):At me own oth fo ow c g 34 r1 r2 r4 r5 r6 r7 [(19,0)]
 | a34H33 {r1 r2 r4 r5 r6 r7:Int} (h0:g=3) (h1:fo=1) (h2:ow=0):At me own oth fo ow c g 34 r1 r2 r4 r5 r6 r7 []
 | a35H03 {r1 r2 r4 r5 r6 r7:Int} (h0:g=3) (h1:fo=1) (h2:r4=0):At me own oth fo ow c g 35 r1 r2 r4 r5 r6 r7 [(19,me),(0,wr32 (c+1)),(19,0)]
 | a35H13 {r1 r2 r4 r5 r6 r7:Int} (h0:g=3) (h1:fo=1) (h2:ow=me) (h3:r4=0):At me own oth fo ow c g 35 r1 r2 r4 r5 r6 r7 [(0,wr32 (c+1)),(19,0)]
 | a35H23 {r1 r2 r4 r5 r6 r7:Int} (h0:g=3) (h1:fo=1) (h2:ow=me) (h3:r4=0):At me own oth fo ow c g 35 r1 r2 r4 r5 r6 r7 [(19,0)]
 | a35H33 {r1 r2 r4 r5 r6 r7:Int} (h0:g=3) (h1:fo=1) (h2:ow=0) (h3:r4=0):At me own oth fo ow c g 35 r1 r2 r4 r5 r6 r7 []
 | a36H04 {r1 r2 r4 r5 r6 r7:Int} (h0:g=3) (h1:fo=1):At me own oth fo ow c g 36 r1 r2 r4 r5 r6 r7 [(19,me),(0,wr32 (c+1)),(19,0),(own,0)]
 | a36H14 {r1 r2 r4 r5 r6 r7:Int} (h0:g=3) (h1:fo=1) (h2:ow=me):At me own oth fo ow c g 36 r1 r2 r4 r5 r6 r7 [(0,wr32 (c+1)),(19,0),(own,0)]
 | a36H24 {r1 r2 r4 r5 r6 r7:Int} (h0:g=3) (h1:fo=1) (h2:ow=me):At me own oth fo ow c g 36 r1 r2 r4 r5 r6 r7 [(19,0),(own,0)]
 | a36H34 {r1 r2 r4 r5 r6 r7:Int} (h0:g=3) (h1:fo=1) (h2:ow=0):At me own oth fo ow c g 36 r1 r2 r4 r5 r6 r7 [(own,0)]
 | a36H44 {r1 r2 r4 r5 r6 r7:Int} (h0:g=0) (h1:fo=0) (h2:ow≠me):At me own oth fo ow c g 36 r1 r2 r4 r5 r6 r7 []
 | a37H04 {r1 r2 r4 r5 r6 r7:Int} (h0:g=3) (h1:fo=1) (h2:r7=0):At me own oth fo ow c g 37 r1 r2 r4 r5 r6 r7 [(19,me),(0,wr32 (c+1)),(19,0),(own,0)]
 | a37H14 {r1 r2 r4 r5 r6 r7:Int} (h0:g=3) (h1:fo=1) (h2:ow=me) (h3:r7=0):At me own oth fo ow c g 37 r1 r2 r4 r5 r6 r7 [(0,wr32 (c+1)),(19,0),(own,0)]
 | a37H24 {r1 r2 r4 r5 r6 r7:Int} (h0:g=3) (h1:fo=1) (h2:ow=me) (h3:r7=0):At me own oth fo ow c g 37 r1 r2 r4 r5 r6 r7 [(19,0),(own,0)]
 | a37H34 {r1 r2 r4 r5 r6 r7:Int} (h0:g=3) (h1:fo=1) (h2:ow=0) (h3:r7=0):At me own oth fo ow c g 37 r1 r2 r4 r5 r6 r7 [(own,0)]
 | a37H44 {r1 r2 r4 r5 r6 r7:Int} (h0:g=0) (h1:fo=0) (h2:ow≠me) (h3:r7=0):At me own oth fo ow c g 37 r1 r2 r4 r5 r6 r7 []
def inR(j:Nat):Bool:=decide (21≤j) && decide (j≤25)
section
variable{me oth fo ow c r1 r2 r4 r5 r6 r7:Int}{own g j:Nat}{q:List (Nat×Int)}
theorem At.zero(h:At me own oth fo ow c g j r1 r2 r4 r5 r6 r7 q)(hf:fo=0):g=0:=by
 cases h<;>first | assumption | (exfalso;omega)
theorem At.other{ow' c':Int}(h:At me own oth fo ow c g j r1 r2 r4 r5 r6 r7 q)(h1:g≠3)(h2:ow'≠me):At me own oth fo ow' c' g j r1 r2 r4 r5 r6 r7 q:=by
 cases h
 case a0H04 g0 g1=>exact absurd (by assumption) h1
 case a0H14 g0 g1 g2=>exact absurd (by assumption) h1
 case a0H24 g0 g1 g2=>exact absurd (by assumption) h1
 case a0H34 g0 g1 g2=>exact absurd (by assumption) h1
 case a0H44 g0 g1 g2=>exact At.a0H44 (by assumption) (by assumption) (by assumption)
 case a1H04 g0 g1=>exact absurd (by assumption) h1
 case a1H14 g0 g1 g2=>exact absurd (by assumption) h1
 case a1H24 g0 g1 g2=>exact absurd (by assumption) h1
 case a1H34 g0 g1 g2=>exact absurd (by assumption) h1
 case a1H44 g0 g1 g2=>exact At.a1H44 (by assumption) (by assumption) (by assumption)
 case a2H04 g0 g1 g2=>exact absurd (by assumption) h1
 case a2H14 g0 g1 g2 g3=>exact absurd (by assumption) h1
 case a2H24 g0 g1 g2 g3=>exact absurd (by assumption) h1
 case a2H34 g0 g1 g2 g3=>exact absurd (by assumption) h1
 case a2H44 g0 g1 g2 g3=>exact At.a2H44 (by assumption) (by assumption) (by assumption) (by assumption)
 case a3H04 g0 g1 g2 g3=>exact absurd (by assumption) h1
 case a3H14 g0 g1 g2 g3 g4=>exact absurd (by assumption) h1
 case a3H24 g0 g1 g2 g3 g4=>exact absurd (by assumption) h1
 case a3H34 g0 g1 g2 g3 g4=>exact absurd (by assumption) h1
 case a3H44 g0 g1 g2 g3 g4=>exact At.a3H44 (by assumption) (by assumption) (by assumption) (by assumption) (by assumption)
 case a4H04 g0 g1 g2 g3=>exact absurd (by assumption) h1
 case a4H14 g0 g1 g2 g3 g4=>exact absurd (by assumption) h1
 case a4H24 g0 g1 g2 g3 g4=>exact absurd (by assumption) h1
 case a4H34 g0 g1 g2 g3 g4=>exact absurd (by assumption) h1
 case a4H44 g0 g1 g2 g3 g4=>exact At.a4H44 (by assumption) (by assumption) (by assumption) (by assumption) (by assumption)
 case a7H04 g0 g1 g2=>exact absurd (by assumption) h1
 case a7H14 g0 g1 g2 g3=>exact absurd (by assumption) h1
 case a7H24 g0 g1 g2 g3=>exact absurd (by assumption) h1
 case a7H34 g0 g1 g2 g3=>exact absurd (by assumption) h1
 case a7H44 g0 g1 g2 g3=>exact At.a7H44 (by assumption) (by assumption) (by assumption) (by assumption)
 case a8H04 g0 g1 g2 g3=>exact absurd (by assumption) h1
 case a8H14 g0 g1 g2 g3 g4=>exact absurd (by assumption) h1
 case a8H24 g0 g1 g2 g3 g4=>exact absurd (by assumption) h1
 case a8H34 g0 g1 g2 g3 g4=>exact absurd (by assumption) h1
 case a8H44 g0 g1 g2 g3 g4=>exact At.a8H44 (by assumption) (by assumption) (by assumption) (by assumption) (by assumption)
 case a9H05 g0 g1 g2=>exact absurd (by assumption) h1
 case a9H15 g0 g1 g2 g3=>exact absurd (by assumption) h1
 case a9H25 g0 g1 g2 g3=>exact absurd (by assumption) h1
 case a9H35 g0 g1 g2 g3=>exact absurd (by assumption) h1
 case a9H45 g0 g1 g2 g3=>exact At.a9H45 (by assumption) (by assumption) (by assumption) (by assumption)
 case a9H55 g0 g1 g2 g3=>exact At.a9H55 (by assumption) (by assumption) (by assumption) (by assumption)
 case a10H05 g0 g1 g2 g3=>exact absurd (by assumption) h1
 case a10H15 g0 g1 g2 g3 g4=>exact absurd (by assumption) h1
 case a10H25 g0 g1 g2 g3 g4=>exact absurd (by assumption) h1
 case a10H35 g0 g1 g2 g3 g4=>exact absurd (by assumption) h1
 case a10H45 g0 g1 g2 g3 g4=>exact At.a10H45 (by assumption) (by assumption) (by assumption) (by assumption) (by assumption)
 case a10H55 g0 g1 g2 g3 g4=>exact At.a10H55 (by assumption) (by assumption) (by assumption) (by assumption) (by assumption)
 case a11H06 g0 g1 g2=>exact absurd (by assumption) h1
 case a11H16 g0 g1 g2 g3=>exact absurd (by assumption) h1
 case a11H26 g0 g1 g2 g3=>exact absurd (by assumption) h1
 case a11H36 g0 g1 g2 g3=>exact absurd (by assumption) h1
 case a11H46 g0 g1 g2 g3=>exact At.a11H46 (by assumption) (by assumption) (by assumption) (by assumption)
 case a11H56 g0 g1 g2 g3=>exact At.a11H56 (by assumption) (by assumption) (by assumption) (by assumption)
 case a11H66 g0 g1 g2 g3=>exact At.a11H66 (by assumption) (by assumption) (by assumption) (by assumption)
 case a12W g0 g1 g2 g3=>exact At.a12W (by assumption) (by assumption) (by assumption) (by assumption)
 case a13C g0 g1 g2 g3 g4=>exact absurd (by assumption) h1
 case a13W g0 g1 g2 g3 g4=>exact At.a13W (by assumption) (by assumption) (by assumption) (by assumption) (by assumption)
 case a14W g0 g1 g2 g3=>exact At.a14W (by assumption) (by assumption) (by assumption) (by assumption)
 case a15C g0 g1 g2 g3 g4=>exact absurd (by assumption) h1
 case a15W g0 g1 g2 g3 g4=>exact At.a15W (by assumption) (by assumption) (by assumption) (by assumption) (by assumption)
 case a16C g0 g1 g2 g3 g4 g5=>exact absurd (by assumption) h1
 case a16W g0 g1 g2 g3 g4 g5=>exact At.a16W (by assumption) (by assumption) (by assumption) (by assumption) (by assumption) (by assumption)
 case a17C g0 g1 g2 g3 g4=>exact absurd (by assumption) h1
 case a17W g0 g1 g2 g3 g4=>exact At.a17W (by assumption) (by assumption) (by assumption) (by assumption) (by assumption)
 case a18C g0 g1 g2 g3=>exact absurd (by assumption) h1
 case a19H01 g0 g1=>exact absurd (by assumption) h1
 case a19H11 g0 g1 g2=>exact absurd (by assumption) h1
 case a20H01 g0 g1 g2=>exact absurd (by assumption) h1
 case a20H11 g0 g1 g2 g3=>exact absurd (by assumption) h1
 case a21H01 g0 g1=>exact absurd (by assumption) h1
 case a21H11 g0 g1 g2=>exact absurd (by assumption) h1
 case a22H01 g0 g1 g2=>exact absurd (by assumption) h1
 case a22H11 g0 g1 g2 g3=>exact absurd (by assumption) h1
 case a23H01 g0 g1 g2 g3=>exact absurd (by assumption) h1
 case a23H11 g0 g1 g2 g3 g4=>exact absurd (by assumption) h1
 case a24H01 g0 g1 g2=>exact absurd (by assumption) h1
 case a24H11 g0 g1 g2 g3=>exact absurd (by assumption) h1
 case a25H02 g0 g1=>exact absurd (by assumption) h1
 case a25H12 g0 g1 g2=>exact absurd (by assumption) h1
 case a25H22 g0 g1 g2=>exact absurd (by assumption) h1
 case a26H02 g0 g1=>exact absurd (by assumption) h1
 case a26H12 g0 g1 g2=>exact absurd (by assumption) h1
 case a26H22 g0 g1 g2=>exact absurd (by assumption) h1
 case a27H02 g0 g1 g2=>exact absurd (by assumption) h1
 case a27H12 g0 g1 g2 g3=>exact absurd (by assumption) h1
 case a27H22 g0 g1 g2 g3=>exact absurd (by assumption) h1
 case a28H02 g0 g1 g2 g3=>exact absurd (by assumption) h1
 case a28H12 g0 g1 g2 g3 g4=>exact absurd (by assumption) h1
 case a28H22 g0 g1 g2 g3 g4=>exact absurd (by assumption) h1
 case a29H02 g0 g1 g2=>exact absurd (by assumption) h1
 case a29H12 g0 g1 g2 g3=>exact absurd (by assumption) h1
 case a29H22 g0 g1 g2 g3=>exact absurd (by assumption) h1
 case a32H02 g0 g1=>exact absurd (by assumption) h1
 case a32H12 g0 g1 g2=>exact absurd (by assumption) h1
 case a32H22 g0 g1 g2=>exact absurd (by assumption) h1
 case a33H02 g0 g1 g2=>exact absurd (by assumption) h1
 case a33H12 g0 g1 g2 g3=>exact absurd (by assumption) h1
 case a33H22 g0 g1 g2 g3=>exact absurd (by assumption) h1
 case a34H03 g0 g1=>exact absurd (by assumption) h1
 case a34H13 g0 g1 g2=>exact absurd (by assumption) h1
 case a34H23 g0 g1 g2=>exact absurd (by assumption) h1
 case a34H33 g0 g1 g2=>exact absurd (by assumption) h1
 case a35H03 g0 g1 g2=>exact absurd (by assumption) h1
 case a35H13 g0 g1 g2 g3=>exact absurd (by assumption) h1
 case a35H23 g0 g1 g2 g3=>exact absurd (by assumption) h1
 case a35H33 g0 g1 g2 g3=>exact absurd (by assumption) h1
 case a36H04 g0 g1=>exact absurd (by assumption) h1
 case a36H14 g0 g1 g2=>exact absurd (by assumption) h1
 case a36H24 g0 g1 g2=>exact absurd (by assumption) h1
 case a36H34 g0 g1 g2=>exact absurd (by assumption) h1
 case a36H44 g0 g1 g2=>exact At.a36H44 (by assumption) (by assumption) (by assumption)
 case a37H04 g0 g1 g2=>exact absurd (by assumption) h1
 case a37H14 g0 g1 g2 g3=>exact absurd (by assumption) h1
 case a37H24 g0 g1 g2 g3=>exact absurd (by assumption) h1
 case a37H34 g0 g1 g2 g3=>exact absurd (by assumption) h1
 case a37H44 g0 g1 g2 g3=>exact At.a37H44 (by assumption) (by assumption) (by assumption) (by assumption)
theorem At.out(h:At me own oth fo ow c g j r1 r2 r4 r5 r6 r7 q)(h1:g≠3):ow≠me∧inR j=false:=by
 cases h<;>first | exact⟨by assumption,rfl⟩ | contradiction
theorem own_buf{e:Nat×Int}{r:List (Nat×Int)}(h:At me own oth fo ow c g j r1 r2 r4 r5 r6 r7 (e::r))(hme:0 < me):
  (e.1=19∧e.2=me∧g=3∧At me own oth fo me c 3 j r1 r2 r4 r5 r6 r7 r)∨(e.1=0∧e.2=wr32 (c+1)∧g=3∧∀ c',At me own oth fo ow c' 3 j r1 r2 r4 r5 r6 r7 r)∨(e.1=19∧e.2=0∧g=3∧At me own oth fo 0 c 3 j r1 r2 r4 r5 r6 r7 r)∨(e.1=own∧e.2=0∧g=3∧ow=0∧∀ c',At me own oth 0 ow c' 0 j r1 r2 r4 r5 r6 r7 r)∨(e.1=own∧e.2=1∧g=0∧∀ c',At me own oth 1 ow c' 1 j r1 r2 r4 r5 r6 r7 r)∨(e.1=18∧e.2=oth∧g=1∧∀ c',At me own oth fo ow c' 2 j r1 r2 r4 r5 r6 r7 r):=by
 cases h
 case a0H04 g0 g1=>exact .inl ⟨rfl,rfl,by assumption,by apply At.a0H14<;>first | assumption | rfl | omega⟩
 case a0H14 g0 g1 g2=>exact .inr (.inl ⟨rfl,rfl,by assumption,fun c'=>by apply At.a0H24<;>first | assumption | rfl | omega⟩)
 case a0H24 g0 g1 g2=>exact .inr (.inr (.inl ⟨rfl,rfl,by assumption,by apply At.a0H34<;>first | assumption | rfl | omega⟩))
 case a0H34 g0 g1 g2=>exact .inr (.inr (.inr (.inl ⟨rfl,rfl,by assumption,by assumption,fun c'=>by apply At.a0H44<;>first | assumption | rfl | omega⟩)))
 case a1H04 g0 g1=>exact .inl ⟨rfl,rfl,by assumption,by apply At.a1H14<;>first | assumption | rfl | omega⟩
 case a1H14 g0 g1 g2=>exact .inr (.inl ⟨rfl,rfl,by assumption,fun c'=>by apply At.a1H24<;>first | assumption | rfl | omega⟩)
 case a1H24 g0 g1 g2=>exact .inr (.inr (.inl ⟨rfl,rfl,by assumption,by apply At.a1H34<;>first | assumption | rfl | omega⟩))
 case a1H34 g0 g1 g2=>exact .inr (.inr (.inr (.inl ⟨rfl,rfl,by assumption,by assumption,fun c'=>by apply At.a1H44<;>first | assumption | rfl | omega⟩)))
 case a2H04 g0 g1 g2=>exact .inl ⟨rfl,rfl,by assumption,by apply At.a2H14<;>first | assumption | rfl | omega⟩
 case a2H14 g0 g1 g2 g3=>exact .inr (.inl ⟨rfl,rfl,by assumption,fun c'=>by apply At.a2H24<;>first | assumption | rfl | omega⟩)
 case a2H24 g0 g1 g2 g3=>exact .inr (.inr (.inl ⟨rfl,rfl,by assumption,by apply At.a2H34<;>first | assumption | rfl | omega⟩))
 case a2H34 g0 g1 g2 g3=>exact .inr (.inr (.inr (.inl ⟨rfl,rfl,by assumption,by assumption,fun c'=>by apply At.a2H44<;>first | assumption | rfl | omega⟩)))
 case a3H04 g0 g1 g2 g3=>exact .inl ⟨rfl,rfl,by assumption,by apply At.a3H14<;>first | assumption | rfl | omega⟩
 case a3H14 g0 g1 g2 g3 g4=>exact .inr (.inl ⟨rfl,rfl,by assumption,fun c'=>by apply At.a3H24<;>first | assumption | rfl | omega⟩)
 case a3H24 g0 g1 g2 g3 g4=>exact .inr (.inr (.inl ⟨rfl,rfl,by assumption,by apply At.a3H34<;>first | assumption | rfl | omega⟩))
 case a3H34 g0 g1 g2 g3 g4=>exact .inr (.inr (.inr (.inl ⟨rfl,rfl,by assumption,by assumption,fun c'=>by apply At.a3H44<;>first | assumption | rfl | omega⟩)))
 case a4H04 g0 g1 g2 g3=>exact .inl ⟨rfl,rfl,by assumption,by apply At.a4H14<;>first | assumption | rfl | omega⟩
 case a4H14 g0 g1 g2 g3 g4=>exact .inr (.inl ⟨rfl,rfl,by assumption,fun c'=>by apply At.a4H24<;>first | assumption | rfl | omega⟩)
 case a4H24 g0 g1 g2 g3 g4=>exact .inr (.inr (.inl ⟨rfl,rfl,by assumption,by apply At.a4H34<;>first | assumption | rfl | omega⟩))
 case a4H34 g0 g1 g2 g3 g4=>exact .inr (.inr (.inr (.inl ⟨rfl,rfl,by assumption,by assumption,fun c'=>by apply At.a4H44<;>first | assumption | rfl | omega⟩)))
 case a7H04 g0 g1 g2=>exact .inl ⟨rfl,rfl,by assumption,by apply At.a7H14<;>first | assumption | rfl | omega⟩
 case a7H14 g0 g1 g2 g3=>exact .inr (.inl ⟨rfl,rfl,by assumption,fun c'=>by apply At.a7H24<;>first | assumption | rfl | omega⟩)
 case a7H24 g0 g1 g2 g3=>exact .inr (.inr (.inl ⟨rfl,rfl,by assumption,by apply At.a7H34<;>first | assumption | rfl | omega⟩))
 case a7H34 g0 g1 g2 g3=>exact .inr (.inr (.inr (.inl ⟨rfl,rfl,by assumption,by assumption,fun c'=>by apply At.a7H44<;>first | assumption | rfl | omega⟩)))
 case a8H04 g0 g1 g2 g3=>exact .inl ⟨rfl,rfl,by assumption,by apply At.a8H14<;>first | assumption | rfl | omega⟩
 case a8H14 g0 g1 g2 g3 g4=>exact .inr (.inl ⟨rfl,rfl,by assumption,fun c'=>by apply At.a8H24<;>first | assumption | rfl | omega⟩)
 case a8H24 g0 g1 g2 g3 g4=>exact .inr (.inr (.inl ⟨rfl,rfl,by assumption,by apply At.a8H34<;>first | assumption | rfl | omega⟩))
 case a8H34 g0 g1 g2 g3 g4=>exact .inr (.inr (.inr (.inl ⟨rfl,rfl,by assumption,by assumption,fun c'=>by apply At.a8H44<;>first | assumption | rfl | omega⟩)))
 case a9H05 g0 g1 g2=>exact .inl ⟨rfl,rfl,by assumption,by apply At.a9H15<;>first | assumption | rfl | omega⟩
 case a9H15 g0 g1 g2 g3=>exact .inr (.inl ⟨rfl,rfl,by assumption,fun c'=>by apply At.a9H25<;>first | assumption | rfl | omega⟩)
 case a9H25 g0 g1 g2 g3=>exact .inr (.inr (.inl ⟨rfl,rfl,by assumption,by apply At.a9H35<;>first | assumption | rfl | omega⟩))
 case a9H35 g0 g1 g2 g3=>exact .inr (.inr (.inr (.inl ⟨rfl,rfl,by assumption,by assumption,fun c'=>by apply At.a9H45<;>first | assumption | rfl | omega⟩)))
 case a9H45 g0 g1 g2 g3=>exact .inr (.inr (.inr (.inr (.inl ⟨rfl,rfl,by assumption,fun c'=>by apply At.a9H55<;>first | assumption | rfl | omega⟩))))
 case a10H05 g0 g1 g2 g3=>exact .inl ⟨rfl,rfl,by assumption,by apply At.a10H15<;>first | assumption | rfl | omega⟩
 case a10H15 g0 g1 g2 g3 g4=>exact .inr (.inl ⟨rfl,rfl,by assumption,fun c'=>by apply At.a10H25<;>first | assumption | rfl | omega⟩)
 case a10H25 g0 g1 g2 g3 g4=>exact .inr (.inr (.inl ⟨rfl,rfl,by assumption,by apply At.a10H35<;>first | assumption | rfl | omega⟩))
 case a10H35 g0 g1 g2 g3 g4=>exact .inr (.inr (.inr (.inl ⟨rfl,rfl,by assumption,by assumption,fun c'=>by apply At.a10H45<;>first | assumption | rfl | omega⟩)))
 case a10H45 g0 g1 g2 g3 g4=>exact .inr (.inr (.inr (.inr (.inl ⟨rfl,rfl,by assumption,fun c'=>by apply At.a10H55<;>first | assumption | rfl | omega⟩))))
 case a11H06 g0 g1 g2=>exact .inl ⟨rfl,rfl,by assumption,by apply At.a11H16<;>first | assumption | rfl | omega⟩
 case a11H16 g0 g1 g2 g3=>exact .inr (.inl ⟨rfl,rfl,by assumption,fun c'=>by apply At.a11H26<;>first | assumption | rfl | omega⟩)
 case a11H26 g0 g1 g2 g3=>exact .inr (.inr (.inl ⟨rfl,rfl,by assumption,by apply At.a11H36<;>first | assumption | rfl | omega⟩))
 case a11H36 g0 g1 g2 g3=>exact .inr (.inr (.inr (.inl ⟨rfl,rfl,by assumption,by assumption,fun c'=>by apply At.a11H46<;>first | assumption | rfl | omega⟩)))
 case a11H46 g0 g1 g2 g3=>exact .inr (.inr (.inr (.inr (.inl ⟨rfl,rfl,by assumption,fun c'=>by apply At.a11H56<;>first | assumption | rfl | omega⟩))))
 case a11H56 g0 g1 g2 g3=>exact .inr (.inr (.inr (.inr (.inr ⟨rfl,rfl,by assumption,fun c'=>by apply At.a11H66<;>first | assumption | rfl | omega⟩))))
 case a19H01 g0 g1=>exact .inl ⟨rfl,rfl,by assumption,by apply At.a19H11<;>first | assumption | rfl | omega⟩
 case a20H01 g0 g1 g2=>exact .inl ⟨rfl,rfl,by assumption,by apply At.a20H11<;>first | assumption | rfl | omega⟩
 case a21H01 g0 g1=>exact .inl ⟨rfl,rfl,by assumption,by apply At.a21H11<;>first | assumption | rfl | omega⟩
 case a22H01 g0 g1 g2=>exact .inl ⟨rfl,rfl,by assumption,by apply At.a22H11<;>first | assumption | rfl | omega⟩
 case a23H01 g0 g1 g2 g3=>exact .inl ⟨rfl,rfl,by assumption,by apply At.a23H11<;>first | assumption | rfl | omega⟩
 case a24H01 g0 g1 g2=>exact .inl ⟨rfl,rfl,by assumption,by apply At.a24H11<;>first | assumption | rfl | omega⟩
 case a25H02 g0 g1=>exact .inl ⟨rfl,rfl,by assumption,by apply At.a25H12<;>first | assumption | rfl | omega⟩
 case a25H12 g0 g1 g2=>exact .inr (.inl ⟨rfl,rfl,by assumption,fun c'=>by apply At.a25H22<;>first | assumption | rfl | omega⟩)
 case a26H02 g0 g1=>exact .inl ⟨rfl,rfl,by assumption,by apply At.a26H12<;>first | assumption | rfl | omega⟩
 case a26H12 g0 g1 g2=>exact .inr (.inl ⟨rfl,rfl,by assumption,fun c'=>by apply At.a26H22<;>first | assumption | rfl | omega⟩)
 case a27H02 g0 g1 g2=>exact .inl ⟨rfl,rfl,by assumption,by apply At.a27H12<;>first | assumption | rfl | omega⟩
 case a27H12 g0 g1 g2 g3=>exact .inr (.inl ⟨rfl,rfl,by assumption,fun c'=>by apply At.a27H22<;>first | assumption | rfl | omega⟩)
 case a28H02 g0 g1 g2 g3=>exact .inl ⟨rfl,rfl,by assumption,by apply At.a28H12<;>first | assumption | rfl | omega⟩
 case a28H12 g0 g1 g2 g3 g4=>exact .inr (.inl ⟨rfl,rfl,by assumption,fun c'=>by apply At.a28H22<;>first | assumption | rfl | omega⟩)
 case a29H02 g0 g1 g2=>exact .inl ⟨rfl,rfl,by assumption,by apply At.a29H12<;>first | assumption | rfl | omega⟩
 case a29H12 g0 g1 g2 g3=>exact .inr (.inl ⟨rfl,rfl,by assumption,fun c'=>by apply At.a29H22<;>first | assumption | rfl | omega⟩)
 case a32H02 g0 g1=>exact .inl ⟨rfl,rfl,by assumption,by apply At.a32H12<;>first | assumption | rfl | omega⟩
 case a32H12 g0 g1 g2=>exact .inr (.inl ⟨rfl,rfl,by assumption,fun c'=>by apply At.a32H22<;>first | assumption | rfl | omega⟩)
 case a33H02 g0 g1 g2=>exact .inl ⟨rfl,rfl,by assumption,by apply At.a33H12<;>first | assumption | rfl | omega⟩
 case a33H12 g0 g1 g2 g3=>exact .inr (.inl ⟨rfl,rfl,by assumption,fun c'=>by apply At.a33H22<;>first | assumption | rfl | omega⟩)
 case a34H03 g0 g1=>exact .inl ⟨rfl,rfl,by assumption,by apply At.a34H13<;>first | assumption | rfl | omega⟩
 case a34H13 g0 g1 g2=>exact .inr (.inl ⟨rfl,rfl,by assumption,fun c'=>by apply At.a34H23<;>first | assumption | rfl | omega⟩)
 case a34H23 g0 g1 g2=>exact .inr (.inr (.inl ⟨rfl,rfl,by assumption,by apply At.a34H33<;>first | assumption | rfl | omega⟩))
 case a35H03 g0 g1 g2=>exact .inl ⟨rfl,rfl,by assumption,by apply At.a35H13<;>first | assumption | rfl | omega⟩
 case a35H13 g0 g1 g2 g3=>exact .inr (.inl ⟨rfl,rfl,by assumption,fun c'=>by apply At.a35H23<;>first | assumption | rfl | omega⟩)
 case a35H23 g0 g1 g2 g3=>exact .inr (.inr (.inl ⟨rfl,rfl,by assumption,by apply At.a35H33<;>first | assumption | rfl | omega⟩))
 case a36H04 g0 g1=>exact .inl ⟨rfl,rfl,by assumption,by apply At.a36H14<;>first | assumption | rfl | omega⟩
 case a36H14 g0 g1 g2=>exact .inr (.inl ⟨rfl,rfl,by assumption,fun c'=>by apply At.a36H24<;>first | assumption | rfl | omega⟩)
 case a36H24 g0 g1 g2=>exact .inr (.inr (.inl ⟨rfl,rfl,by assumption,by apply At.a36H34<;>first | assumption | rfl | omega⟩))
 case a36H34 g0 g1 g2=>exact .inr (.inr (.inr (.inl ⟨rfl,rfl,by assumption,by assumption,fun c'=>by apply At.a36H44<;>first | assumption | rfl | omega⟩)))
 case a37H04 g0 g1 g2=>exact .inl ⟨rfl,rfl,by assumption,by apply At.a37H14<;>first | assumption | rfl | omega⟩
 case a37H14 g0 g1 g2 g3=>exact .inr (.inl ⟨rfl,rfl,by assumption,fun c'=>by apply At.a37H24<;>first | assumption | rfl | omega⟩)
 case a37H24 g0 g1 g2 g3=>exact .inr (.inr (.inl ⟨rfl,rfl,by assumption,by apply At.a37H34<;>first | assumption | rfl | omega⟩))
 case a37H34 g0 g1 g2 g3=>exact .inr (.inr (.inr (.inl ⟨rfl,rfl,by assumption,by assumption,fun c'=>by apply At.a37H44<;>first | assumption | rfl | omega⟩)))
end
structure Inw(A:Nat)(mem:List Int)(f:Nat→Loc)(q:Nat→List (Nat×Int))(g:Nat→Nat):Prop where
 hat:∀ t,t < 2→At ((t+1:Nat):Int) (ownA A t) (othA A t) (mem.getD (ownA A t) 0) (mem.getD 19 0) (mem.getD 0 0) (g t) (f t).j (f t).r1 (f t).r2 (f t).r4 (f t).r5 (f t).r6 (f t).r7 (q t)
 ex:∀ t u,t < 2→u < 2→t≠u→g t=3→g u≠3
 tw:∀ t u,t < 2→u < 2→t≠u→g t=3→g u=2→mem.getD 18 0=othA A u
 t01:mem.getD 18 0=0∨mem.getD 18 0=1
def X(A R:Nat):Lk:=⟨38,R,2,20,inR,24,fun mem f q=>∃ g,Inw A mem f q g⟩
section
variable{A R t:Nat}{codes:List (List Ins)}{s:Ts}{f:Nat→Loc}{i:Int}{g:Nat→Nat}{mem:List Int}{q:Nat→List (Nat×Int)}
theorem own_ne(A t:Nat):(ownA A t=16∧theirA A t=17∧othA A t=1)∨(ownA A t=17∧theirA A t=16∧othA A t=0):=by
 unfold ownA theirA othA
 by_cases e:t=A
 ·rw [if_pos e,if_pos e,if_pos e];exact .inl ⟨rfl,rfl,rfl⟩
 ·rw [if_neg e,if_neg e,if_neg e];exact .inr ⟨rfl,rfl,rfl⟩
theorem own_other{u:Nat}(hA:A < 2)(ht:t < 2)(hu:u < 2)(hne:t≠u):ownA A u=theirA A t∧othA A u=1 - othA A t∧ownA A u≠ownA A t:=by
 unfold ownA theirA othA
 by_cases e:t=A
 ·have e2:u≠A:=by omega
  rw [if_pos e,if_neg e2,if_neg e2,if_pos e,if_pos e];exact⟨rfl,rfl,by decide⟩
 ·have e2:u=A:=by omega
  rw [if_neg e,if_pos e2,if_pos e2,if_neg e,if_neg e];exact⟨rfl,rfl,by decide⟩
theorem Inw.turn{mem':List Int}{x:Loc}{q':List (Nat×Int)}{g':Nat}(h:Inw A mem f q g)(ht:t < 2)
  (hx:At ((t+1:Nat):Int) (ownA A t) (othA A t) (mem'.getD (ownA A t) 0) (mem'.getD 19 0) (mem'.getD 0 0) g' x.j x.r1 x.r2 x.r4 x.r5 x.r6 x.r7 q')
  (ho:∀ u,u < 2→t≠u→At ((u+1:Nat):Int) (ownA A u) (othA A u) (mem'.getD (ownA A u) 0) (mem'.getD 19 0) (mem'.getD 0 0) (g u) (f u).j (f u).r1 (f u).r2 (f u).r4 (f u).r5 (f u).r6 (f u).r7 (q u))
  (h1:∀ u,u < 2→t≠u→g'=3→g u≠3) (h2:∀ u,u < 2→t≠u→g'=3→g u=2→mem'.getD 18 0=othA A u) (h3:∀ u,u < 2→t≠u→g u=3→g'=2→mem'.getD 18 0=othA A t) (h4:mem'.getD 18 0=0∨mem'.getD 18 0=1):
  Inw A mem' (upF f t x) (upF q t q') (upF g t g'):=by
 refine⟨fun u hu=>?_,fun a b ha hb hne hg=>?_,fun a b ha hb hne hg hg2=>?_,h4⟩
 ·by_cases e:u=t
  ·subst e;rw [upF_self,upF_self,upF_self];exact hx
  ·rw [upF_ne _ _ e,upF_ne _ _ e,upF_ne _ _ e];exact ho u hu (fun e2=>e e2.symm)
 ·by_cases e:a=t
  ·subst e
   rw [upF_self] at hg
   rw [upF_ne _ _ (fun e=>hne e.symm)];exact h1 b hb hne hg
  ·rw [upF_ne _ _ e] at hg
   obtain rfl:b=t:=by omega
   rw [upF_self]
   intro e2
   exact h1 a ha (fun e=>hne e.symm) e2 hg
 ·by_cases e:a=t
  ·subst e
   rw [upF_self] at hg
   rw [upF_ne _ _ (fun e=>hne e.symm)] at hg2
   exact h2 b hb hne hg hg2
  ·rw [upF_ne _ _ e] at hg
   obtain rfl:b=t:=by omega
   rw [upF_self] at hg2
   exact h3 a ha (fun e=>hne e.symm) hg hg2
theorem Inw.put{x:Loc}{q':List (Nat×Int)}(h:Inw A mem f q g)(ht:t < 2)(hx:At ((t+1:Nat):Int) (ownA A t) (othA A t) (mem.getD (ownA A t) 0) (mem.getD 19 0) (mem.getD 0 0) (g t) x.j x.r1 x.r2 x.r4 x.r5 x.r6 x.r7 q'):Inw A mem (upF f t x) (upF q t q') g:=by
 have:=h.turn (mem':=mem) (g':=g t) ht hx (fun u hu _=>h.hat u hu) (fun u hu hne=>h.ex t u ht hu hne) (fun u hu hne=>h.tw t u ht hu hne) (fun u hu hne=>h.tw u t hu ht (fun e=>hne e.symm)) h.t01
 rwa [upF_id g t] at this
theorem I_loc{x:Loc}(h:Inw A mem f q g)(ht:t < 2)(hx:At ((t+1:Nat):Int) (ownA A t) (othA A t) (mem.getD (ownA A t) 0) (mem.getD 19 0) (mem.getD 0 0) (g t) x.j x.r1 x.r2 x.r4 x.r5 x.r6 x.r7 (q t)):(X A R).I mem (upF f t x) q:=by
 have:=h.put (q':=q t) ht hx
 rw [upF_id q t] at this
 exact⟨_,this⟩
theorem get_set{l:List Int}{a b:Nat}{v:Int}(h:a < l.length):(l.set a v).getD b 0=if a=b then v else l.getD b 0:=by
 rw [List.getD_eq_getElem?_getD,List.getElem?_set]
 by_cases e:a=b
 ·subst e;rw [if_pos rfl,if_pos rfl,if_pos h];rfl
 ·rw [if_neg e,if_neg e,←List.getD_eq_getElem?_getD]
theorem flush(h:(X A R).Inv s f i)(ht:t < 2)(hA:A < 2):(X A R).Inv (s.flush t) f i:=by
 refine h.flushed ht (fun e r hq=>?_)
 obtain⟨g,hI⟩:=h.I
 have hat:=hI.hat t ht
 rw [hq] at hat
 have hnm:s.mem.length=20:=h.nm
 have hon:=own_ne A t
 have hfu:∀ {mem':List Int} {g':Nat},Inw A mem' (upF f t (f t)) (upF s.buf t r) (upF g t g')→(X A R).I mem' f (upF s.buf t r):=fun h=>by rw [upF_id f t] at h;exact⟨_,h⟩
 have hne0:∀ u,u < 2→t≠u→ownA A u≠ownA A t∧(ownA A u=16∨ownA A u=17):=fun u hu hne=>⟨(own_other hA ht hu hne).2.2,by have:=own_ne A u;omega⟩
 have hog:g t=3→∀ u,u < 2→t≠u→∀ ow' c' fo',ow'≠((u+1:Nat):Int)→fo'=s.mem.getD (ownA A u) 0→At ((u+1:Nat):Int) (ownA A u) (othA A u) fo' ow' c' (g u) (f u).j (f u).r1 (f u).r2 (f u).r4 (f u).r5 (f u).r6 (f u).r7 (s.buf u):=fun h3 u hu hne ow' c' fo' ho hf=>by
  subst hf;exact (hI.hat u hu).other (hI.ex t u ht hu hne h3) ho
 rcases own_buf hat (by omega) with⟨e0,e1,hg,hr⟩ | ⟨e0,e1,hg,hr⟩ | ⟨e0,e1,hg,hr⟩ | ⟨e0,e1,hg,hz,hr⟩ | ⟨e0,e1,hg,hr⟩ | ⟨e0,e1,hg,hr⟩
 ·have hlt:e.1 < s.mem.length:=by omega
  have mo:(s.mem.set e.1 e.2).getD (ownA A t) 0=s.mem.getD (ownA A t) 0:=by rw [get_set (by omega),if_neg (by omega)]
  have m19:(s.mem.set e.1 e.2).getD 19 0=e.2:=by rw [get_set (by omega),if_pos (by omega)]
  have m0:(s.mem.set e.1 e.2).getD 0 0=s.mem.getD 0 0:=by rw [get_set (by omega),if_neg (by omega)]
  have m18:(s.mem.set e.1 e.2).getD 18 0=s.mem.getD 18 0:=by rw [get_set (by omega),if_neg (by omega)]
  have mu:∀ u,u < 2→t≠u→(s.mem.set e.1 e.2).getD (ownA A u) 0=s.mem.getD (ownA A u) 0:=fun u hu hne=>by have:=hne0 u hu hne;rw [get_set (by omega),if_neg (by omega)]
  refine⟨hfu (g':=3) (hI.turn ht (by rw [mo,m19,m0];rw [e1];exact hr) (fun u hu hne=>by rw [mu u hu hne,m19,m0];exact hog hg u hu hne _ _ _ (by rw [e1];omega) rfl) (fun u hu hne _=>hI.ex t u ht hu hne hg) (fun u hu hne _ h2=>by rw [m18];exact hI.tw t u ht hu hne hg h2) (fun _ _ _ _ h=>absurd h (by decide)) (by rw [m18];exact hI.t01)),.inl (by omega)⟩
 ·have hlt:e.1 < s.mem.length:=by omega
  have mo:(s.mem.set e.1 e.2).getD (ownA A t) 0=s.mem.getD (ownA A t) 0:=by rw [get_set (by omega),if_neg (by omega)]
  have m19:(s.mem.set e.1 e.2).getD 19 0=s.mem.getD 19 0:=by rw [get_set (by omega),if_neg (by omega)]
  have m0:(s.mem.set e.1 e.2).getD 0 0=e.2:=by rw [get_set (by omega),if_pos (by omega)]
  have m18:(s.mem.set e.1 e.2).getD 18 0=s.mem.getD 18 0:=by rw [get_set (by omega),if_neg (by omega)]
  have mu:∀ u,u < 2→t≠u→(s.mem.set e.1 e.2).getD (ownA A u) 0=s.mem.getD (ownA A u) 0:=fun u hu hne=>by have:=hne0 u hu hne;rw [get_set (by omega),if_neg (by omega)]
  refine⟨hfu (g':=3) (hI.turn ht (by rw [mo,m19,m0];exact hr _) (fun u hu hne=>by rw [mu u hu hne,m19,m0];exact hog hg u hu hne _ _ _ ((hI.hat u hu).out (hI.ex t u ht hu hne hg)).1 rfl) (fun u hu hne _=>hI.ex t u ht hu hne hg) (fun u hu hne _ h2=>by rw [m18];exact hI.tw t u ht hu hne hg h2) (fun _ _ _ _ h=>absurd h (by decide)) (by rw [m18];exact hI.t01)),.inr ⟨e0,by show 0 < 20;decide,e1⟩⟩
 ·have hlt:e.1 < s.mem.length:=by omega
  have mo:(s.mem.set e.1 e.2).getD (ownA A t) 0=s.mem.getD (ownA A t) 0:=by rw [get_set (by omega),if_neg (by omega)]
  have m19:(s.mem.set e.1 e.2).getD 19 0=e.2:=by rw [get_set (by omega),if_pos (by omega)]
  have m0:(s.mem.set e.1 e.2).getD 0 0=s.mem.getD 0 0:=by rw [get_set (by omega),if_neg (by omega)]
  have m18:(s.mem.set e.1 e.2).getD 18 0=s.mem.getD 18 0:=by rw [get_set (by omega),if_neg (by omega)]
  have mu:∀ u,u < 2→t≠u→(s.mem.set e.1 e.2).getD (ownA A u) 0=s.mem.getD (ownA A u) 0:=fun u hu hne=>by have:=hne0 u hu hne;rw [get_set (by omega),if_neg (by omega)]
  refine⟨hfu (g':=3) (hI.turn ht (by rw [mo,m19,m0];rw [e1];exact hr) (fun u hu hne=>by rw [mu u hu hne,m19,m0];exact hog hg u hu hne _ _ _ (by rw [e1];omega) rfl) (fun u hu hne _=>hI.ex t u ht hu hne hg) (fun u hu hne _ h2=>by rw [m18];exact hI.tw t u ht hu hne hg h2) (fun _ _ _ _ h=>absurd h (by decide)) (by rw [m18];exact hI.t01)),.inl (by omega)⟩
 ·have hlt:e.1 < s.mem.length:=by omega
  have mo:(s.mem.set e.1 e.2).getD (ownA A t) 0=e.2:=by rw [get_set (by omega),if_pos (by omega)]
  have m19:(s.mem.set e.1 e.2).getD 19 0=s.mem.getD 19 0:=by rw [get_set (by omega),if_neg (by omega)]
  have m0:(s.mem.set e.1 e.2).getD 0 0=s.mem.getD 0 0:=by rw [get_set (by omega),if_neg (by omega)]
  have m18:(s.mem.set e.1 e.2).getD 18 0=s.mem.getD 18 0:=by rw [get_set (by omega),if_neg (by omega)]
  have mu:∀ u,u < 2→t≠u→(s.mem.set e.1 e.2).getD (ownA A u) 0=s.mem.getD (ownA A u) 0:=fun u hu hne=>by have:=hne0 u hu hne;rw [get_set (by omega),if_neg (by omega)]
  refine⟨hfu (g':=0) (hI.turn ht (by rw [mo,m19,m0];rw [e1];exact hr _) (fun u hu hne=>by rw [mu u hu hne,m19,m0];exact hI.hat u hu) (fun _ _ _ h=>absurd h (by decide)) (fun _ _ _ h=>absurd h (by decide)) (fun _ _ _ _ h=>absurd h (by decide)) (by rw [m18];exact hI.t01)),.inl (by omega)⟩
 ·have hlt:e.1 < s.mem.length:=by omega
  have mo:(s.mem.set e.1 e.2).getD (ownA A t) 0=e.2:=by rw [get_set (by omega),if_pos (by omega)]
  have m19:(s.mem.set e.1 e.2).getD 19 0=s.mem.getD 19 0:=by rw [get_set (by omega),if_neg (by omega)]
  have m0:(s.mem.set e.1 e.2).getD 0 0=s.mem.getD 0 0:=by rw [get_set (by omega),if_neg (by omega)]
  have m18:(s.mem.set e.1 e.2).getD 18 0=s.mem.getD 18 0:=by rw [get_set (by omega),if_neg (by omega)]
  have mu:∀ u,u < 2→t≠u→(s.mem.set e.1 e.2).getD (ownA A u) 0=s.mem.getD (ownA A u) 0:=fun u hu hne=>by have:=hne0 u hu hne;rw [get_set (by omega),if_neg (by omega)]
  refine⟨hfu (g':=1) (hI.turn ht (by rw [mo,m19,m0];rw [e1];exact hr _) (fun u hu hne=>by rw [mu u hu hne,m19,m0];exact hI.hat u hu) (fun _ _ _ h=>absurd h (by decide)) (fun _ _ _ h=>absurd h (by decide)) (fun _ _ _ _ h=>absurd h (by decide)) (by rw [m18];exact hI.t01)),.inl (by omega)⟩
 ·have hlt:e.1 < s.mem.length:=by omega
  have mo:(s.mem.set e.1 e.2).getD (ownA A t) 0=s.mem.getD (ownA A t) 0:=by rw [get_set (by omega),if_neg (by omega)]
  have m19:(s.mem.set e.1 e.2).getD 19 0=s.mem.getD 19 0:=by rw [get_set (by omega),if_neg (by omega)]
  have m0:(s.mem.set e.1 e.2).getD 0 0=s.mem.getD 0 0:=by rw [get_set (by omega),if_neg (by omega)]
  have m18:(s.mem.set e.1 e.2).getD 18 0=e.2:=by rw [get_set (by omega),if_pos (by omega)]
  have mu:∀ u,u < 2→t≠u→(s.mem.set e.1 e.2).getD (ownA A u) 0=s.mem.getD (ownA A u) 0:=fun u hu hne=>by have:=hne0 u hu hne;rw [get_set (by omega),if_neg (by omega)]
  refine⟨hfu (g':=2) (hI.turn ht (by rw [mo,m19,m0];exact hr _) (fun u hu hne=>by rw [mu u hu hne,m19,m0];exact hI.hat u hu) (fun _ _ _ h=>absurd h (by decide)) (fun _ _ _ h=>absurd h (by decide)) (fun _ _ _ _ _=>by rw [m18,e1]) (by rw [m18];omega)),.inl (by omega)⟩
theorem at_ins{p j:Nat}{r0 r1 r2 r3 r4 r5 r6 r7:Int}(hc:codes[t]? = some (codeT A R t))(hs:s.ths[t]? = some (Loc.th 38 ⟨p,j,r0,r1,r2,r3,r4,r5,r6,r7,0⟩))(hp:p < R)(hj:j < 38){i:Ins}(hi:(base ((t+1:Nat):Int) (ownA A t) (theirA A t) (othA A t))[j]? = some i):AtI codes s t ⟨((p*38+j:Nat):Int),[r0,r1,r2,r3,r4,r5,r6,r7],0⟩ (movI (p*38) i):=by
 refine⟨hs,⟨codeT A R t,hc,?_⟩,rfl,by show (0:Int)≤((p*38+j:Nat):Int);omega⟩
 show (codeT A R t)[((p*38+j:Nat):Int).toNat]? = _
 rw [Int.toNat_natCast,code_get A R t p j hp hj,hi];rfl
theorem th_of{p j j':Nat}{r0 r1 r2 r3 r4 r5 r6 r7 st:Int}(e:j'=j+1):Loc.th 38 ⟨p,j',r0,r1,r2,r3,r4,r5,r6,r7,st⟩=⟨((p*38+j:Nat):Int)+1,[r0,r1,r2,r3,r4,r5,r6,r7],st⟩:=by
 subst e;unfold Loc.th;congr 1
theorem th_jmp{p k:Nat}{r0 r1 r2 r3 r4 r5 r6 r7 st:Int}(hp:p≤100)(hk:k < 38):Loc.th 38 ⟨p,k,r0,r1,r2,r3,r4,r5,r6,r7,st⟩=⟨wr32 ((k:Int)+((p*38:Nat):Int)),[r0,r1,r2,r3,r4,r5,r6,r7],st⟩:=by
 unfold Loc.th
 have:wr32 ((k:Int)+((p*38:Nat):Int))=((p*38+k:Nat):Int):=by unfold wr32;omega
 rw [this]
theorem th_last{p:Nat}{r0 r1 r2 r3 r4 r5 r6 r7 st:Int}:Loc.th 38 ⟨p+1,0,r0,r1,r2,r3,r4,r5,r6,r7,st⟩=⟨((p*38+37:Nat):Int)+1,[r0,r1,r2,r3,r4,r5,r6,r7],st⟩:=by
 unfold Loc.th;congr 1;show (((p+1)*38+0:Nat):Int)=_;omega
theorem load_q{q:List (Nat×Int)}(hq:s.buf t=q)(a:Nat):s.load t a=(lastQ q a).getD (s.mem.getD a 0):=by unfold Ts.load;rw [hq]
theorem empty_q{q:List (Nat×Int)}(hq:s.buf t=q):s.empty t=decide (q.length=0):=by unfold Ts.empty;rw [hq]
set_option maxHeartbeats 8000000 in
theorem step(h:(X A R).Inv s f i)(ht:t < 2)(hA:A < 2)(hR:R≤100)(hc:codes[t]? = some (codeT A R t))(h0:(f t).st=0)(hp:(f t).p < R)(hj:(f t).j < 38):∃ s' f' i',s.stepT codes t=some s'∧(X A R).Inv s' f' i':=by
 obtain⟨x,hx⟩:∃ x,f t=x:=⟨_,rfl⟩
 obtain⟨gf,hI⟩:=h.I
 have hat:=hI.hat t ht
 have hs:=h.hs t ht
 have hnm:s.mem.length=20:=h.nm
 rw [hx] at hat hs h0 hp hj
 obtain⟨p,j,r0,r1,r2,r3,r4,r5,r6,r7,st⟩:=x
 dsimp only at hat h0 hp hj
 subst h0
 generalize hq:s.buf t=q at hat
 generalize hgt:gf t=g at hat
 obtain⟨me,hme⟩:∃ me:Int,me=((t+1:Nat):Int):=⟨_,rfl⟩
 have hme0:0 < me:=by omega
 have hoo:=own_ne A t
 have hot:=fun u (hu:u < 2) (hne:t≠u)=>own_other hA ht hu hne
 obtain⟨own,hown⟩:∃ own,own=ownA A t:=⟨_,rfl⟩
 obtain⟨their,hth⟩:∃ their,their=theirA A t:=⟨_,rfl⟩
 obtain⟨oth,hoth⟩:∃ oth,oth=othA A t:=⟨_,rfl⟩
 rw [←hme,←hown,←hoth] at hat
 rw [←hown,←hth,←hoth] at hoo
 have ins:=fun {i:Ins} (hi:(base me own their oth)[j]? = some i)=>at_ins (A:=A) (R:=R) (i:=i) hc hs hp hj (by rw [←hme,←hown,←hth,←hoth];exact hi)
 cases hat
 case a0H04 g0 g1=>
  have hi:=ins (i:=⟨27,7,0,0,0⟩) rfl
  rw [movI_plain (i:=⟨27,7,0,0,0⟩) rfl] at hi
  have hmk:=st_mark hi
  have hg:=h.marked (t:=t) ⟨7,0,((p*38+0:Nat):Int),0,r7,0,0,false⟩ rfl (.inl rfl)
  have key:=hg.loc ht (⟨p,1,r0,r1,r2,r3,r4,r5,r6,r7,0⟩:Loc) (.inl ⟨rfl,hp,by show 1 < 38;decide⟩) (I_loc (mem:=s.mem) (q:=s.buf) hI ht (by rw [hq,hgt,←hme,←hown,←hoth];apply At.a1H04<;>first | assumption | rfl | (simp_all;done))) (by rw [hx];rfl) (by rw [hx]) (by rw [hx];rfl)
  rw [show Loc.th (X A R).Lb _=_ from th_of rfl] at key
  exact⟨_,_,_,hmk,key⟩
 case a0H14 g0 g1 g2=>
  have hi:=ins (i:=⟨27,7,0,0,0⟩) rfl
  rw [movI_plain (i:=⟨27,7,0,0,0⟩) rfl] at hi
  have hmk:=st_mark hi
  have hg:=h.marked (t:=t) ⟨7,0,((p*38+0:Nat):Int),0,r7,0,0,false⟩ rfl (.inl rfl)
  have key:=hg.loc ht (⟨p,1,r0,r1,r2,r3,r4,r5,r6,r7,0⟩:Loc) (.inl ⟨rfl,hp,by show 1 < 38;decide⟩) (I_loc (mem:=s.mem) (q:=s.buf) hI ht (by rw [hq,hgt,←hme,←hown,←hoth];apply At.a1H14<;>first | assumption | rfl | (simp_all;done))) (by rw [hx];rfl) (by rw [hx]) (by rw [hx];rfl)
  rw [show Loc.th (X A R).Lb _=_ from th_of rfl] at key
  exact⟨_,_,_,hmk,key⟩
 case a0H24 g0 g1 g2=>
  have hi:=ins (i:=⟨27,7,0,0,0⟩) rfl
  rw [movI_plain (i:=⟨27,7,0,0,0⟩) rfl] at hi
  have hmk:=st_mark hi
  have hg:=h.marked (t:=t) ⟨7,0,((p*38+0:Nat):Int),0,r7,0,0,false⟩ rfl (.inl rfl)
  have key:=hg.loc ht (⟨p,1,r0,r1,r2,r3,r4,r5,r6,r7,0⟩:Loc) (.inl ⟨rfl,hp,by show 1 < 38;decide⟩) (I_loc (mem:=s.mem) (q:=s.buf) hI ht (by rw [hq,hgt,←hme,←hown,←hoth];apply At.a1H24<;>first | assumption | rfl | (simp_all;done))) (by rw [hx];rfl) (by rw [hx]) (by rw [hx];rfl)
  rw [show Loc.th (X A R).Lb _=_ from th_of rfl] at key
  exact⟨_,_,_,hmk,key⟩
 case a0H34 g0 g1 g2=>
  have hi:=ins (i:=⟨27,7,0,0,0⟩) rfl
  rw [movI_plain (i:=⟨27,7,0,0,0⟩) rfl] at hi
  have hmk:=st_mark hi
  have hg:=h.marked (t:=t) ⟨7,0,((p*38+0:Nat):Int),0,r7,0,0,false⟩ rfl (.inl rfl)
  have key:=hg.loc ht (⟨p,1,r0,r1,r2,r3,r4,r5,r6,r7,0⟩:Loc) (.inl ⟨rfl,hp,by show 1 < 38;decide⟩) (I_loc (mem:=s.mem) (q:=s.buf) hI ht (by rw [hq,hgt,←hme,←hown,←hoth];apply At.a1H34<;>first | assumption | rfl | (simp_all;done))) (by rw [hx];rfl) (by rw [hx]) (by rw [hx];rfl)
  rw [show Loc.th (X A R).Lb _=_ from th_of rfl] at key
  exact⟨_,_,_,hmk,key⟩
 case a0H44 g0 g1 g2=>
  have hi:=ins (i:=⟨27,7,0,0,0⟩) rfl
  rw [movI_plain (i:=⟨27,7,0,0,0⟩) rfl] at hi
  have hmk:=st_mark hi
  have hg:=h.marked (t:=t) ⟨7,0,((p*38+0:Nat):Int),0,r7,0,0,false⟩ rfl (.inl rfl)
  have key:=hg.loc ht (⟨p,1,r0,r1,r2,r3,r4,r5,r6,r7,0⟩:Loc) (.inl ⟨rfl,hp,by show 1 < 38;decide⟩) (I_loc (mem:=s.mem) (q:=s.buf) hI ht (by rw [hq,hgt,←hme,←hown,←hoth];apply At.a1H44<;>first | assumption | rfl | (simp_all;done))) (by rw [hx];rfl) (by rw [hx]) (by rw [hx];rfl)
  rw [show Loc.th (X A R).Lb _=_ from th_of rfl] at key
  exact⟨_,_,_,hmk,key⟩
 case a1H04 g0 g1=>
  have hi:=ins (i:=⟨16,4,8,0,19⟩) rfl
  rw [movI_plain (i:=⟨16,4,8,0,19⟩) rfl] at hi
  have hst:=st_load hi (ad:=19) (addr_abs _ _ _ _ _) (by rw [hnm];omega)
  have hl:s.load t 19=(0:Int):=by rw [load_q hq];(first | rfl | (rcases hoo with⟨e,_⟩ | ⟨e,_⟩<;>rw [e]<;>rfl))
  rw [hl] at hst
  have hg:=h.noted (t:=t) ⟨1,0,((p*38+1:Nat):Int),19,(0:Int),0,0,false⟩ (show (1:Int)≠7 by decide) (show (1:Int)≠13 by decide)
  have key:=hg.loc ht (⟨p,2,r0,r1,r2,r3,(0:Int),r5,r6,r7,0⟩:Loc) (.inl ⟨rfl,hp,by show 2 < 38;decide⟩) (I_loc (mem:=s.mem) (q:=s.buf) hI ht (by rw [hq,hgt,←hme,←hown,←hoth];exact (At.a2H04 (by first | assumption | rfl | omega | (intro e;dsimp only at e;omega) | exact Int.le_refl _) (by first | assumption | rfl | omega | (intro e;dsimp only at e;omega) | exact Int.le_refl _) (by first | assumption | rfl | omega | (intro e;dsimp only at e;omega) | exact Int.le_refl _)))) (by rw [hx];rfl) (by rw [hx]) (by rw [hx];rfl)
  rw [show Loc.th (X A R).Lb _=_ from th_of rfl] at key
  exact⟨_,_,_,hst,key⟩
 case a1H14 g0 g1 g2=>
  have hi:=ins (i:=⟨16,4,8,0,19⟩) rfl
  rw [movI_plain (i:=⟨16,4,8,0,19⟩) rfl] at hi
  have hst:=st_load hi (ad:=19) (addr_abs _ _ _ _ _) (by rw [hnm];omega)
  have hl:s.load t 19=(0:Int):=by rw [load_q hq];(first | rfl | (rcases hoo with⟨e,_⟩ | ⟨e,_⟩<;>rw [e]<;>rfl))
  rw [hl] at hst
  have hg:=h.noted (t:=t) ⟨1,0,((p*38+1:Nat):Int),19,(0:Int),0,0,false⟩ (show (1:Int)≠7 by decide) (show (1:Int)≠13 by decide)
  have key:=hg.loc ht (⟨p,2,r0,r1,r2,r3,(0:Int),r5,r6,r7,0⟩:Loc) (.inl ⟨rfl,hp,by show 2 < 38;decide⟩) (I_loc (mem:=s.mem) (q:=s.buf) hI ht (by rw [hq,hgt,←hme,←hown,←hoth];exact (At.a2H14 (by first | assumption | rfl | omega | (intro e;dsimp only at e;omega) | exact Int.le_refl _) (by first | assumption | rfl | omega | (intro e;dsimp only at e;omega) | exact Int.le_refl _) (by first | assumption | rfl | omega | (intro e;dsimp only at e;omega) | exact Int.le_refl _) (by first | assumption | rfl | omega | (intro e;dsimp only at e;omega) | exact Int.le_refl _)))) (by rw [hx];rfl) (by rw [hx]) (by rw [hx];rfl)
  rw [show Loc.th (X A R).Lb _=_ from th_of rfl] at key
  exact⟨_,_,_,hst,key⟩
 case a1H24 g0 g1 g2=>
  have hi:=ins (i:=⟨16,4,8,0,19⟩) rfl
  rw [movI_plain (i:=⟨16,4,8,0,19⟩) rfl] at hi
  have hst:=st_load hi (ad:=19) (addr_abs _ _ _ _ _) (by rw [hnm];omega)
  have hl:s.load t 19=(0:Int):=by rw [load_q hq];(first | rfl | (rcases hoo with⟨e,_⟩ | ⟨e,_⟩<;>rw [e]<;>rfl))
  rw [hl] at hst
  have hg:=h.noted (t:=t) ⟨1,0,((p*38+1:Nat):Int),19,(0:Int),0,0,false⟩ (show (1:Int)≠7 by decide) (show (1:Int)≠13 by decide)
  have key:=hg.loc ht (⟨p,2,r0,r1,r2,r3,(0:Int),r5,r6,r7,0⟩:Loc) (.inl ⟨rfl,hp,by show 2 < 38;decide⟩) (I_loc (mem:=s.mem) (q:=s.buf) hI ht (by rw [hq,hgt,←hme,←hown,←hoth];exact (At.a2H24 (by first | assumption | rfl | omega | (intro e;dsimp only at e;omega) | exact Int.le_refl _) (by first | assumption | rfl | omega | (intro e;dsimp only at e;omega) | exact Int.le_refl _) (by first | assumption | rfl | omega | (intro e;dsimp only at e;omega) | exact Int.le_refl _) (by first | assumption | rfl | omega | (intro e;dsimp only at e;omega) | exact Int.le_refl _)))) (by rw [hx];rfl) (by rw [hx]) (by rw [hx];rfl)
  rw [show Loc.th (X A R).Lb _=_ from th_of rfl] at key
  exact⟨_,_,_,hst,key⟩
 case a1H34 g0 g1 g2=>
  have hi:=ins (i:=⟨16,4,8,0,19⟩) rfl
  rw [movI_plain (i:=⟨16,4,8,0,19⟩) rfl] at hi
  have hst:=st_load hi (ad:=19) (addr_abs _ _ _ _ _) (by rw [hnm];omega)
  have hl:s.load t 19=(s.mem.getD 19 0):=by rw [load_q hq];(first | rfl | (rcases hoo with⟨e,_⟩ | ⟨e,_⟩<;>rw [e]<;>rfl))
  rw [hl] at hst
  have hg:=h.noted (t:=t) ⟨1,0,((p*38+1:Nat):Int),19,(s.mem.getD 19 0),0,0,false⟩ (show (1:Int)≠7 by decide) (show (1:Int)≠13 by decide)
  have key:=hg.loc ht (⟨p,2,r0,r1,r2,r3,(s.mem.getD 19 0),r5,r6,r7,0⟩:Loc) (.inl ⟨rfl,hp,by show 2 < 38;decide⟩) (I_loc (mem:=s.mem) (q:=s.buf) hI ht (by rw [hq,hgt,←hme,←hown,←hoth];exact (At.a2H34 (by first | assumption | rfl | omega | (intro e;dsimp only at e;omega) | exact Int.le_refl _) (by first | assumption | rfl | omega | (intro e;dsimp only at e;omega) | exact Int.le_refl _) (by first | assumption | rfl | omega | (intro e;dsimp only at e;omega) | exact Int.le_refl _) (by first | assumption | rfl | omega | (intro e;dsimp only at e;omega) | exact Int.le_refl _)))) (by rw [hx];rfl) (by rw [hx]) (by rw [hx];rfl)
  rw [show Loc.th (X A R).Lb _=_ from th_of rfl] at key
  exact⟨_,_,_,hst,key⟩
 case a1H44 g0 g1 g2=>
  have hi:=ins (i:=⟨16,4,8,0,19⟩) rfl
  rw [movI_plain (i:=⟨16,4,8,0,19⟩) rfl] at hi
  have hst:=st_load hi (ad:=19) (addr_abs _ _ _ _ _) (by rw [hnm];omega)
  have hl:s.load t 19=(s.mem.getD 19 0):=by rw [load_q hq];(first | rfl | (rcases hoo with⟨e,_⟩ | ⟨e,_⟩<;>rw [e]<;>rfl))
  rw [hl] at hst
  have hg:=h.noted (t:=t) ⟨1,0,((p*38+1:Nat):Int),19,(s.mem.getD 19 0),0,0,false⟩ (show (1:Int)≠7 by decide) (show (1:Int)≠13 by decide)
  have key:=hg.loc ht (⟨p,2,r0,r1,r2,r3,(s.mem.getD 19 0),r5,r6,r7,0⟩:Loc) (.inl ⟨rfl,hp,by show 2 < 38;decide⟩) (I_loc (mem:=s.mem) (q:=s.buf) hI ht (by rw [hq,hgt,←hme,←hown,←hoth];exact (At.a2H44 (by first | assumption | rfl | omega | (intro e;dsimp only at e;omega) | exact Int.le_refl _) (by first | assumption | rfl | omega | (intro e;dsimp only at e;omega) | exact Int.le_refl _) (by first | assumption | rfl | omega | (intro e;dsimp only at e;omega) | exact Int.le_refl _) (by first | assumption | rfl | omega | (intro e;dsimp only at e;omega) | exact Int.le_refl _)))) (by rw [hx];rfl) (by rw [hx]) (by rw [hx];rfl)
  rw [show Loc.th (X A R).Lb _=_ from th_of rfl] at key
  exact⟨_,_,_,hst,key⟩
 case a2H04 g0 g1 g2=>
  have hi:=ins (i:=⟨1,5,0,0,me⟩) rfl
  rw [movI_plain (i:=⟨1,5,0,0,me⟩) rfl] at hi
  have hst:=st_set hi
  have key:=h.loc ht (⟨p,3,r0,r1,r2,r3,r4,(me),r6,r7,0⟩:Loc) (.inl ⟨rfl,hp,by show 3 < 38;decide⟩) (I_loc (mem:=s.mem) (q:=s.buf) hI ht (by rw [hq,hgt,←hme,←hown,←hoth];apply At.a3H04<;>first | assumption | rfl | (simp_all;done))) (by rw [hx];rfl) (by rw [hx]) (by rw [hx];rfl)
  rw [show Loc.th (X A R).Lb _=_ from th_of rfl] at key
  exact⟨_,_,_,hst,key⟩
 case a2H14 g0 g1 g2 g3=>
  have hi:=ins (i:=⟨1,5,0,0,me⟩) rfl
  rw [movI_plain (i:=⟨1,5,0,0,me⟩) rfl] at hi
  have hst:=st_set hi
  have key:=h.loc ht (⟨p,3,r0,r1,r2,r3,r4,(me),r6,r7,0⟩:Loc) (.inl ⟨rfl,hp,by show 3 < 38;decide⟩) (I_loc (mem:=s.mem) (q:=s.buf) hI ht (by rw [hq,hgt,←hme,←hown,←hoth];apply At.a3H14<;>first | assumption | rfl | (simp_all;done))) (by rw [hx];rfl) (by rw [hx]) (by rw [hx];rfl)
  rw [show Loc.th (X A R).Lb _=_ from th_of rfl] at key
  exact⟨_,_,_,hst,key⟩
 case a2H24 g0 g1 g2 g3=>
  have hi:=ins (i:=⟨1,5,0,0,me⟩) rfl
  rw [movI_plain (i:=⟨1,5,0,0,me⟩) rfl] at hi
  have hst:=st_set hi
  have key:=h.loc ht (⟨p,3,r0,r1,r2,r3,r4,(me),r6,r7,0⟩:Loc) (.inl ⟨rfl,hp,by show 3 < 38;decide⟩) (I_loc (mem:=s.mem) (q:=s.buf) hI ht (by rw [hq,hgt,←hme,←hown,←hoth];apply At.a3H24<;>first | assumption | rfl | (simp_all;done))) (by rw [hx];rfl) (by rw [hx]) (by rw [hx];rfl)
  rw [show Loc.th (X A R).Lb _=_ from th_of rfl] at key
  exact⟨_,_,_,hst,key⟩
 case a2H34 g0 g1 g2 g3=>
  have hi:=ins (i:=⟨1,5,0,0,me⟩) rfl
  rw [movI_plain (i:=⟨1,5,0,0,me⟩) rfl] at hi
  have hst:=st_set hi
  have key:=h.loc ht (⟨p,3,r0,r1,r2,r3,r4,(me),r6,r7,0⟩:Loc) (.inl ⟨rfl,hp,by show 3 < 38;decide⟩) (I_loc (mem:=s.mem) (q:=s.buf) hI ht (by rw [hq,hgt,←hme,←hown,←hoth];apply At.a3H34<;>first | assumption | rfl | (simp_all;done))) (by rw [hx];rfl) (by rw [hx]) (by rw [hx];rfl)
  rw [show Loc.th (X A R).Lb _=_ from th_of rfl] at key
  exact⟨_,_,_,hst,key⟩
 case a2H44 g0 g1 g2 g3=>
  have hi:=ins (i:=⟨1,5,0,0,me⟩) rfl
  rw [movI_plain (i:=⟨1,5,0,0,me⟩) rfl] at hi
  have hst:=st_set hi
  have key:=h.loc ht (⟨p,3,r0,r1,r2,r3,r4,(me),r6,r7,0⟩:Loc) (.inl ⟨rfl,hp,by show 3 < 38;decide⟩) (I_loc (mem:=s.mem) (q:=s.buf) hI ht (by rw [hq,hgt,←hme,←hown,←hoth];apply At.a3H44<;>first | assumption | rfl | (simp_all;done))) (by rw [hx];rfl) (by rw [hx]) (by rw [hx];rfl)
  rw [show Loc.th (X A R).Lb _=_ from th_of rfl] at key
  exact⟨_,_,_,hst,key⟩
 case a3H04 g0 g1 g2 g3=>
  have hi:=ins (i:=⟨12,6,4,5,0⟩) rfl
  rw [movI_plain (i:=⟨12,6,4,5,0⟩) rfl] at hi
  have hst:=st_same hi
  have hv:(if r4=r5 then (1:Int) else 0)=0:=by simp_all
  have key:=h.loc ht (⟨p,4,r0,r1,r2,r3,r4,r5,(if r4=r5 then (1:Int) else 0),r7,0⟩:Loc) (.inl ⟨rfl,hp,by show 4 < 38;decide⟩) (I_loc (mem:=s.mem) (q:=s.buf) hI ht (by rw [hq,hgt,←hme,←hown,←hoth];exact (At.a4H04 (by first | assumption | exact hv | (rw [hv];decide) | (show (if r4=r5 then (1:Int) else 0)≠0;rw [hv];decide)) (by first | assumption | exact hv | (rw [hv];decide) | (show (if r4=r5 then (1:Int) else 0)≠0;rw [hv];decide)) (by first | assumption | exact hv | (rw [hv];decide) | (show (if r4=r5 then (1:Int) else 0)≠0;rw [hv];decide)) (by first | assumption | exact hv | (rw [hv];decide) | (show (if r4=r5 then (1:Int) else 0)≠0;rw [hv];decide))))) (by rw [hx];rfl) (by rw [hx]) (by rw [hx];rfl)
  rw [show Loc.th (X A R).Lb _=_ from th_of rfl] at key
  exact⟨_,_,_,hst,key⟩
 case a3H14 g0 g1 g2 g3 g4=>
  have hi:=ins (i:=⟨12,6,4,5,0⟩) rfl
  rw [movI_plain (i:=⟨12,6,4,5,0⟩) rfl] at hi
  have hst:=st_same hi
  have hv:(if r4=r5 then (1:Int) else 0)=0:=by simp_all
  have key:=h.loc ht (⟨p,4,r0,r1,r2,r3,r4,r5,(if r4=r5 then (1:Int) else 0),r7,0⟩:Loc) (.inl ⟨rfl,hp,by show 4 < 38;decide⟩) (I_loc (mem:=s.mem) (q:=s.buf) hI ht (by rw [hq,hgt,←hme,←hown,←hoth];exact (At.a4H14 (by first | assumption | exact hv | (rw [hv];decide) | (show (if r4=r5 then (1:Int) else 0)≠0;rw [hv];decide)) (by first | assumption | exact hv | (rw [hv];decide) | (show (if r4=r5 then (1:Int) else 0)≠0;rw [hv];decide)) (by first | assumption | exact hv | (rw [hv];decide) | (show (if r4=r5 then (1:Int) else 0)≠0;rw [hv];decide)) (by first | assumption | exact hv | (rw [hv];decide) | (show (if r4=r5 then (1:Int) else 0)≠0;rw [hv];decide)) (by first | assumption | exact hv | (rw [hv];decide) | (show (if r4=r5 then (1:Int) else 0)≠0;rw [hv];decide))))) (by rw [hx];rfl) (by rw [hx]) (by rw [hx];rfl)
  rw [show Loc.th (X A R).Lb _=_ from th_of rfl] at key
  exact⟨_,_,_,hst,key⟩
 case a3H24 g0 g1 g2 g3 g4=>
  have hi:=ins (i:=⟨12,6,4,5,0⟩) rfl
  rw [movI_plain (i:=⟨12,6,4,5,0⟩) rfl] at hi
  have hst:=st_same hi
  have hv:(if r4=r5 then (1:Int) else 0)=0:=by simp_all
  have key:=h.loc ht (⟨p,4,r0,r1,r2,r3,r4,r5,(if r4=r5 then (1:Int) else 0),r7,0⟩:Loc) (.inl ⟨rfl,hp,by show 4 < 38;decide⟩) (I_loc (mem:=s.mem) (q:=s.buf) hI ht (by rw [hq,hgt,←hme,←hown,←hoth];exact (At.a4H24 (by first | assumption | exact hv | (rw [hv];decide) | (show (if r4=r5 then (1:Int) else 0)≠0;rw [hv];decide)) (by first | assumption | exact hv | (rw [hv];decide) | (show (if r4=r5 then (1:Int) else 0)≠0;rw [hv];decide)) (by first | assumption | exact hv | (rw [hv];decide) | (show (if r4=r5 then (1:Int) else 0)≠0;rw [hv];decide)) (by first | assumption | exact hv | (rw [hv];decide) | (show (if r4=r5 then (1:Int) else 0)≠0;rw [hv];decide)) (by first | assumption | exact hv | (rw [hv];decide) | (show (if r4=r5 then (1:Int) else 0)≠0;rw [hv];decide))))) (by rw [hx];rfl) (by rw [hx]) (by rw [hx];rfl)
  rw [show Loc.th (X A R).Lb _=_ from th_of rfl] at key
  exact⟨_,_,_,hst,key⟩
 case a3H34 g0 g1 g2 g3 g4=>
  have hi:=ins (i:=⟨12,6,4,5,0⟩) rfl
  rw [movI_plain (i:=⟨12,6,4,5,0⟩) rfl] at hi
  have hst:=st_same hi
  have hv:(if r4=r5 then (1:Int) else 0)=0:=by simp_all
  have key:=h.loc ht (⟨p,4,r0,r1,r2,r3,r4,r5,(if r4=r5 then (1:Int) else 0),r7,0⟩:Loc) (.inl ⟨rfl,hp,by show 4 < 38;decide⟩) (I_loc (mem:=s.mem) (q:=s.buf) hI ht (by rw [hq,hgt,←hme,←hown,←hoth];exact (At.a4H34 (by first | assumption | exact hv | (rw [hv];decide) | (show (if r4=r5 then (1:Int) else 0)≠0;rw [hv];decide)) (by first | assumption | exact hv | (rw [hv];decide) | (show (if r4=r5 then (1:Int) else 0)≠0;rw [hv];decide)) (by first | assumption | exact hv | (rw [hv];decide) | (show (if r4=r5 then (1:Int) else 0)≠0;rw [hv];decide)) (by first | assumption | exact hv | (rw [hv];decide) | (show (if r4=r5 then (1:Int) else 0)≠0;rw [hv];decide)) (by first | assumption | exact hv | (rw [hv];decide) | (show (if r4=r5 then (1:Int) else 0)≠0;rw [hv];decide))))) (by rw [hx];rfl) (by rw [hx]) (by rw [hx];rfl)
  rw [show Loc.th (X A R).Lb _=_ from th_of rfl] at key
  exact⟨_,_,_,hst,key⟩
 case a3H44 g0 g1 g2 g3 g4=>
  have hi:=ins (i:=⟨12,6,4,5,0⟩) rfl
  rw [movI_plain (i:=⟨12,6,4,5,0⟩) rfl] at hi
  have hst:=st_same hi
  have hv:(if r4=r5 then (1:Int) else 0)=0:=by simp_all
  have key:=h.loc ht (⟨p,4,r0,r1,r2,r3,r4,r5,(if r4=r5 then (1:Int) else 0),r7,0⟩:Loc) (.inl ⟨rfl,hp,by show 4 < 38;decide⟩) (I_loc (mem:=s.mem) (q:=s.buf) hI ht (by rw [hq,hgt,←hme,←hown,←hoth];exact (At.a4H44 (by first | assumption | exact hv | (rw [hv];decide) | (show (if r4=r5 then (1:Int) else 0)≠0;rw [hv];decide)) (by first | assumption | exact hv | (rw [hv];decide) | (show (if r4=r5 then (1:Int) else 0)≠0;rw [hv];decide)) (by first | assumption | exact hv | (rw [hv];decide) | (show (if r4=r5 then (1:Int) else 0)≠0;rw [hv];decide)) (by first | assumption | exact hv | (rw [hv];decide) | (show (if r4=r5 then (1:Int) else 0)≠0;rw [hv];decide)) (by first | assumption | exact hv | (rw [hv];decide) | (show (if r4=r5 then (1:Int) else 0)≠0;rw [hv];decide))))) (by rw [hx];rfl) (by rw [hx]) (by rw [hx];rfl)
  rw [show Loc.th (X A R).Lb _=_ from th_of rfl] at key
  exact⟨_,_,_,hst,key⟩
 case a4H04 g0 g1 g2 g3=>
  have hi:=ins (i:=⟨14,6,0,0,7⟩) rfl
  rw [movI_jump (i:=⟨14,6,0,0,7⟩) rfl] at hi
  have hst:=st_zero hi
  by_cases hz:r6=0
  ·rw [if_pos (by exact hz)] at hst
   have key:=h.loc ht (⟨p,7,r0,r1,r2,r3,r4,r5,r6,r7,0⟩:Loc) (.inl ⟨rfl,hp,by show 7 < 38;decide⟩) (I_loc (mem:=s.mem) (q:=s.buf) hI ht (by rw [hq,hgt,←hme,←hown,←hoth];apply At.a7H04<;>first | assumption | (simp_all;done))) (by rw [hx];rfl) (by rw [hx]) (by rw [hx];rfl)
   rw [show Loc.th (X A R).Lb _=_ from th_jmp (by omega) (by decide)] at key
   exact⟨_,_,_,hst,key⟩
  ·rw [if_neg (by exact hz)] at hst
   exfalso;simp_all
 case a4H14 g0 g1 g2 g3 g4=>
  have hi:=ins (i:=⟨14,6,0,0,7⟩) rfl
  rw [movI_jump (i:=⟨14,6,0,0,7⟩) rfl] at hi
  have hst:=st_zero hi
  by_cases hz:r6=0
  ·rw [if_pos (by exact hz)] at hst
   have key:=h.loc ht (⟨p,7,r0,r1,r2,r3,r4,r5,r6,r7,0⟩:Loc) (.inl ⟨rfl,hp,by show 7 < 38;decide⟩) (I_loc (mem:=s.mem) (q:=s.buf) hI ht (by rw [hq,hgt,←hme,←hown,←hoth];apply At.a7H14<;>first | assumption | (simp_all;done))) (by rw [hx];rfl) (by rw [hx]) (by rw [hx];rfl)
   rw [show Loc.th (X A R).Lb _=_ from th_jmp (by omega) (by decide)] at key
   exact⟨_,_,_,hst,key⟩
  ·rw [if_neg (by exact hz)] at hst
   exfalso;simp_all
 case a4H24 g0 g1 g2 g3 g4=>
  have hi:=ins (i:=⟨14,6,0,0,7⟩) rfl
  rw [movI_jump (i:=⟨14,6,0,0,7⟩) rfl] at hi
  have hst:=st_zero hi
  by_cases hz:r6=0
  ·rw [if_pos (by exact hz)] at hst
   have key:=h.loc ht (⟨p,7,r0,r1,r2,r3,r4,r5,r6,r7,0⟩:Loc) (.inl ⟨rfl,hp,by show 7 < 38;decide⟩) (I_loc (mem:=s.mem) (q:=s.buf) hI ht (by rw [hq,hgt,←hme,←hown,←hoth];apply At.a7H24<;>first | assumption | (simp_all;done))) (by rw [hx];rfl) (by rw [hx]) (by rw [hx];rfl)
   rw [show Loc.th (X A R).Lb _=_ from th_jmp (by omega) (by decide)] at key
   exact⟨_,_,_,hst,key⟩
  ·rw [if_neg (by exact hz)] at hst
   exfalso;simp_all
 case a4H34 g0 g1 g2 g3 g4=>
  have hi:=ins (i:=⟨14,6,0,0,7⟩) rfl
  rw [movI_jump (i:=⟨14,6,0,0,7⟩) rfl] at hi
  have hst:=st_zero hi
  by_cases hz:r6=0
  ·rw [if_pos (by exact hz)] at hst
   have key:=h.loc ht (⟨p,7,r0,r1,r2,r3,r4,r5,r6,r7,0⟩:Loc) (.inl ⟨rfl,hp,by show 7 < 38;decide⟩) (I_loc (mem:=s.mem) (q:=s.buf) hI ht (by rw [hq,hgt,←hme,←hown,←hoth];apply At.a7H34<;>first | assumption | (simp_all;done))) (by rw [hx];rfl) (by rw [hx]) (by rw [hx];rfl)
   rw [show Loc.th (X A R).Lb _=_ from th_jmp (by omega) (by decide)] at key
   exact⟨_,_,_,hst,key⟩
  ·rw [if_neg (by exact hz)] at hst
   exfalso;simp_all
 case a4H44 g0 g1 g2 g3 g4=>
  have hi:=ins (i:=⟨14,6,0,0,7⟩) rfl
  rw [movI_jump (i:=⟨14,6,0,0,7⟩) rfl] at hi
  have hst:=st_zero hi
  by_cases hz:r6=0
  ·rw [if_pos (by exact hz)] at hst
   have key:=h.loc ht (⟨p,7,r0,r1,r2,r3,r4,r5,r6,r7,0⟩:Loc) (.inl ⟨rfl,hp,by show 7 < 38;decide⟩) (I_loc (mem:=s.mem) (q:=s.buf) hI ht (by rw [hq,hgt,←hme,←hown,←hoth];apply At.a7H44<;>first | assumption | (simp_all;done))) (by rw [hx];rfl) (by rw [hx]) (by rw [hx];rfl)
   rw [show Loc.th (X A R).Lb _=_ from th_jmp (by omega) (by decide)] at key
   exact⟨_,_,_,hst,key⟩
  ·rw [if_neg (by exact hz)] at hst
   exfalso;simp_all
 case a7H04 g0 g1 g2=>
  have hi:=ins (i:=⟨1,4,0,0,1⟩) rfl
  rw [movI_plain (i:=⟨1,4,0,0,1⟩) rfl] at hi
  have hst:=st_set hi
  have key:=h.loc ht (⟨p,8,r0,r1,r2,r3,(1),r5,r6,r7,0⟩:Loc) (.inl ⟨rfl,hp,by show 8 < 38;decide⟩) (I_loc (mem:=s.mem) (q:=s.buf) hI ht (by rw [hq,hgt,←hme,←hown,←hoth];apply At.a8H04<;>first | assumption | rfl | (simp_all;done))) (by rw [hx];rfl) (by rw [hx]) (by rw [hx];rfl)
  rw [show Loc.th (X A R).Lb _=_ from th_of rfl] at key
  exact⟨_,_,_,hst,key⟩
 case a7H14 g0 g1 g2 g3=>
  have hi:=ins (i:=⟨1,4,0,0,1⟩) rfl
  rw [movI_plain (i:=⟨1,4,0,0,1⟩) rfl] at hi
  have hst:=st_set hi
  have key:=h.loc ht (⟨p,8,r0,r1,r2,r3,(1),r5,r6,r7,0⟩:Loc) (.inl ⟨rfl,hp,by show 8 < 38;decide⟩) (I_loc (mem:=s.mem) (q:=s.buf) hI ht (by rw [hq,hgt,←hme,←hown,←hoth];apply At.a8H14<;>first | assumption | rfl | (simp_all;done))) (by rw [hx];rfl) (by rw [hx]) (by rw [hx];rfl)
  rw [show Loc.th (X A R).Lb _=_ from th_of rfl] at key
  exact⟨_,_,_,hst,key⟩
 case a7H24 g0 g1 g2 g3=>
  have hi:=ins (i:=⟨1,4,0,0,1⟩) rfl
  rw [movI_plain (i:=⟨1,4,0,0,1⟩) rfl] at hi
  have hst:=st_set hi
  have key:=h.loc ht (⟨p,8,r0,r1,r2,r3,(1),r5,r6,r7,0⟩:Loc) (.inl ⟨rfl,hp,by show 8 < 38;decide⟩) (I_loc (mem:=s.mem) (q:=s.buf) hI ht (by rw [hq,hgt,←hme,←hown,←hoth];apply At.a8H24<;>first | assumption | rfl | (simp_all;done))) (by rw [hx];rfl) (by rw [hx]) (by rw [hx];rfl)
  rw [show Loc.th (X A R).Lb _=_ from th_of rfl] at key
  exact⟨_,_,_,hst,key⟩
 case a7H34 g0 g1 g2 g3=>
  have hi:=ins (i:=⟨1,4,0,0,1⟩) rfl
  rw [movI_plain (i:=⟨1,4,0,0,1⟩) rfl] at hi
  have hst:=st_set hi
  have key:=h.loc ht (⟨p,8,r0,r1,r2,r3,(1),r5,r6,r7,0⟩:Loc) (.inl ⟨rfl,hp,by show 8 < 38;decide⟩) (I_loc (mem:=s.mem) (q:=s.buf) hI ht (by rw [hq,hgt,←hme,←hown,←hoth];apply At.a8H34<;>first | assumption | rfl | (simp_all;done))) (by rw [hx];rfl) (by rw [hx]) (by rw [hx];rfl)
  rw [show Loc.th (X A R).Lb _=_ from th_of rfl] at key
  exact⟨_,_,_,hst,key⟩
 case a7H44 g0 g1 g2 g3=>
  have hi:=ins (i:=⟨1,4,0,0,1⟩) rfl
  rw [movI_plain (i:=⟨1,4,0,0,1⟩) rfl] at hi
  have hst:=st_set hi
  have key:=h.loc ht (⟨p,8,r0,r1,r2,r3,(1),r5,r6,r7,0⟩:Loc) (.inl ⟨rfl,hp,by show 8 < 38;decide⟩) (I_loc (mem:=s.mem) (q:=s.buf) hI ht (by rw [hq,hgt,←hme,←hown,←hoth];apply At.a8H44<;>first | assumption | rfl | (simp_all;done))) (by rw [hx];rfl) (by rw [hx]) (by rw [hx];rfl)
  rw [show Loc.th (X A R).Lb _=_ from th_of rfl] at key
  exact⟨_,_,_,hst,key⟩
 case a8H04 g0 g1 g2 g3=>
  have hi:=ins (i:=⟨17,4,8,0,(own:Int)⟩) rfl
  rw [movI_plain (i:=⟨17,4,8,0,(own:Int)⟩) rfl] at hi
  have hst:=st_store hi (ad:=own) (addr_abs _ _ _ _ _) (by rw [hnm];omega)
  by_cases hro:s.roomy t=true
  ·rw [if_pos hro] at hst
   have hrv:r4=1:=by assumption
   have key:=h.stored ht ((p*38+8:Nat):Int) own r4 (⟨p,9,r0,r1,r2,r3,r4,r5,r6,r7,0⟩:Loc) (.inl ⟨rfl,hp,by show 9 < 38;decide⟩) (by
    have:=hI.put (q':=s.buf t++[(own,r4)]) (x:=⟨p,9,r0,r1,r2,r3,r4,r5,r6,r7,0⟩) ht (show At ((t+1:Nat):Int) (ownA A t) (othA A t) (s.mem.getD (ownA A t) 0) (s.mem.getD 19 0) (s.mem.getD 0 0) (gf t) _ _ _ _ _ _ _ _ from by rw [hq,hgt,hrv,←hme,←hown,←hoth];apply At.a9H05<;>first | assumption | rfl | (simp_all;done))
    exact⟨_,this⟩) (by rw [hx];rfl) (by rw [hx]) (.inl ⟨by omega,by rw [hx];rfl⟩)
   rw [show Loc.th (X A R).Lb _=_ from th_of rfl] at key
   exact⟨_,_,_,hst,key⟩
  ·rw [if_neg hro] at hst
   exact⟨_,f,i,hst,flush h ht hA⟩
 case a8H14 g0 g1 g2 g3 g4=>
  have hi:=ins (i:=⟨17,4,8,0,(own:Int)⟩) rfl
  rw [movI_plain (i:=⟨17,4,8,0,(own:Int)⟩) rfl] at hi
  have hst:=st_store hi (ad:=own) (addr_abs _ _ _ _ _) (by rw [hnm];omega)
  by_cases hro:s.roomy t=true
  ·rw [if_pos hro] at hst
   have hrv:r4=1:=by assumption
   have key:=h.stored ht ((p*38+8:Nat):Int) own r4 (⟨p,9,r0,r1,r2,r3,r4,r5,r6,r7,0⟩:Loc) (.inl ⟨rfl,hp,by show 9 < 38;decide⟩) (by
    have:=hI.put (q':=s.buf t++[(own,r4)]) (x:=⟨p,9,r0,r1,r2,r3,r4,r5,r6,r7,0⟩) ht (show At ((t+1:Nat):Int) (ownA A t) (othA A t) (s.mem.getD (ownA A t) 0) (s.mem.getD 19 0) (s.mem.getD 0 0) (gf t) _ _ _ _ _ _ _ _ from by rw [hq,hgt,hrv,←hme,←hown,←hoth];apply At.a9H15<;>first | assumption | rfl | (simp_all;done))
    exact⟨_,this⟩) (by rw [hx];rfl) (by rw [hx]) (.inl ⟨by omega,by rw [hx];rfl⟩)
   rw [show Loc.th (X A R).Lb _=_ from th_of rfl] at key
   exact⟨_,_,_,hst,key⟩
  ·rw [if_neg hro] at hst
   exact⟨_,f,i,hst,flush h ht hA⟩
 case a8H24 g0 g1 g2 g3 g4=>
  have hi:=ins (i:=⟨17,4,8,0,(own:Int)⟩) rfl
  rw [movI_plain (i:=⟨17,4,8,0,(own:Int)⟩) rfl] at hi
  have hst:=st_store hi (ad:=own) (addr_abs _ _ _ _ _) (by rw [hnm];omega)
  by_cases hro:s.roomy t=true
  ·rw [if_pos hro] at hst
   have hrv:r4=1:=by assumption
   have key:=h.stored ht ((p*38+8:Nat):Int) own r4 (⟨p,9,r0,r1,r2,r3,r4,r5,r6,r7,0⟩:Loc) (.inl ⟨rfl,hp,by show 9 < 38;decide⟩) (by
    have:=hI.put (q':=s.buf t++[(own,r4)]) (x:=⟨p,9,r0,r1,r2,r3,r4,r5,r6,r7,0⟩) ht (show At ((t+1:Nat):Int) (ownA A t) (othA A t) (s.mem.getD (ownA A t) 0) (s.mem.getD 19 0) (s.mem.getD 0 0) (gf t) _ _ _ _ _ _ _ _ from by rw [hq,hgt,hrv,←hme,←hown,←hoth];apply At.a9H25<;>first | assumption | rfl | (simp_all;done))
    exact⟨_,this⟩) (by rw [hx];rfl) (by rw [hx]) (.inl ⟨by omega,by rw [hx];rfl⟩)
   rw [show Loc.th (X A R).Lb _=_ from th_of rfl] at key
   exact⟨_,_,_,hst,key⟩
  ·rw [if_neg hro] at hst
   exact⟨_,f,i,hst,flush h ht hA⟩
 case a8H34 g0 g1 g2 g3 g4=>
  have hi:=ins (i:=⟨17,4,8,0,(own:Int)⟩) rfl
  rw [movI_plain (i:=⟨17,4,8,0,(own:Int)⟩) rfl] at hi
  have hst:=st_store hi (ad:=own) (addr_abs _ _ _ _ _) (by rw [hnm];omega)
  by_cases hro:s.roomy t=true
  ·rw [if_pos hro] at hst
   have hrv:r4=1:=by assumption
   have key:=h.stored ht ((p*38+8:Nat):Int) own r4 (⟨p,9,r0,r1,r2,r3,r4,r5,r6,r7,0⟩:Loc) (.inl ⟨rfl,hp,by show 9 < 38;decide⟩) (by
    have:=hI.put (q':=s.buf t++[(own,r4)]) (x:=⟨p,9,r0,r1,r2,r3,r4,r5,r6,r7,0⟩) ht (show At ((t+1:Nat):Int) (ownA A t) (othA A t) (s.mem.getD (ownA A t) 0) (s.mem.getD 19 0) (s.mem.getD 0 0) (gf t) _ _ _ _ _ _ _ _ from by rw [hq,hgt,hrv,←hme,←hown,←hoth];apply At.a9H35<;>first | assumption | rfl | (simp_all;done))
    exact⟨_,this⟩) (by rw [hx];rfl) (by rw [hx]) (.inl ⟨by omega,by rw [hx];rfl⟩)
   rw [show Loc.th (X A R).Lb _=_ from th_of rfl] at key
   exact⟨_,_,_,hst,key⟩
  ·rw [if_neg hro] at hst
   exact⟨_,f,i,hst,flush h ht hA⟩
 case a8H44 g0 g1 g2 g3 g4=>
  have hi:=ins (i:=⟨17,4,8,0,(own:Int)⟩) rfl
  rw [movI_plain (i:=⟨17,4,8,0,(own:Int)⟩) rfl] at hi
  have hst:=st_store hi (ad:=own) (addr_abs _ _ _ _ _) (by rw [hnm];omega)
  by_cases hro:s.roomy t=true
  ·rw [if_pos hro] at hst
   have hrv:r4=1:=by assumption
   have key:=h.stored ht ((p*38+8:Nat):Int) own r4 (⟨p,9,r0,r1,r2,r3,r4,r5,r6,r7,0⟩:Loc) (.inl ⟨rfl,hp,by show 9 < 38;decide⟩) (by
    have:=hI.put (q':=s.buf t++[(own,r4)]) (x:=⟨p,9,r0,r1,r2,r3,r4,r5,r6,r7,0⟩) ht (show At ((t+1:Nat):Int) (ownA A t) (othA A t) (s.mem.getD (ownA A t) 0) (s.mem.getD 19 0) (s.mem.getD 0 0) (gf t) _ _ _ _ _ _ _ _ from by rw [hq,hgt,hrv,←hme,←hown,←hoth];apply At.a9H45<;>first | assumption | rfl | (simp_all;done))
    exact⟨_,this⟩) (by rw [hx];rfl) (by rw [hx]) (.inl ⟨by omega,by rw [hx];rfl⟩)
   rw [show Loc.th (X A R).Lb _=_ from th_of rfl] at key
   exact⟨_,_,_,hst,key⟩
  ·rw [if_neg hro] at hst
   exact⟨_,f,i,hst,flush h ht hA⟩
 case a9H05 g0 g1 g2=>
  have hi:=ins (i:=⟨1,4,0,0,oth⟩) rfl
  rw [movI_plain (i:=⟨1,4,0,0,oth⟩) rfl] at hi
  have hst:=st_set hi
  have key:=h.loc ht (⟨p,10,r0,r1,r2,r3,(oth),r5,r6,r7,0⟩:Loc) (.inl ⟨rfl,hp,by show 10 < 38;decide⟩) (I_loc (mem:=s.mem) (q:=s.buf) hI ht (by rw [hq,hgt,←hme,←hown,←hoth];apply At.a10H05<;>first | assumption | rfl | (simp_all;done))) (by rw [hx];rfl) (by rw [hx]) (by rw [hx];rfl)
  rw [show Loc.th (X A R).Lb _=_ from th_of rfl] at key
  exact⟨_,_,_,hst,key⟩
 case a9H15 g0 g1 g2 g3=>
  have hi:=ins (i:=⟨1,4,0,0,oth⟩) rfl
  rw [movI_plain (i:=⟨1,4,0,0,oth⟩) rfl] at hi
  have hst:=st_set hi
  have key:=h.loc ht (⟨p,10,r0,r1,r2,r3,(oth),r5,r6,r7,0⟩:Loc) (.inl ⟨rfl,hp,by show 10 < 38;decide⟩) (I_loc (mem:=s.mem) (q:=s.buf) hI ht (by rw [hq,hgt,←hme,←hown,←hoth];apply At.a10H15<;>first | assumption | rfl | (simp_all;done))) (by rw [hx];rfl) (by rw [hx]) (by rw [hx];rfl)
  rw [show Loc.th (X A R).Lb _=_ from th_of rfl] at key
  exact⟨_,_,_,hst,key⟩
 case a9H25 g0 g1 g2 g3=>
  have hi:=ins (i:=⟨1,4,0,0,oth⟩) rfl
  rw [movI_plain (i:=⟨1,4,0,0,oth⟩) rfl] at hi
  have hst:=st_set hi
  have key:=h.loc ht (⟨p,10,r0,r1,r2,r3,(oth),r5,r6,r7,0⟩:Loc) (.inl ⟨rfl,hp,by show 10 < 38;decide⟩) (I_loc (mem:=s.mem) (q:=s.buf) hI ht (by rw [hq,hgt,←hme,←hown,←hoth];apply At.a10H25<;>first | assumption | rfl | (simp_all;done))) (by rw [hx];rfl) (by rw [hx]) (by rw [hx];rfl)
  rw [show Loc.th (X A R).Lb _=_ from th_of rfl] at key
  exact⟨_,_,_,hst,key⟩
 case a9H35 g0 g1 g2 g3=>
  have hi:=ins (i:=⟨1,4,0,0,oth⟩) rfl
  rw [movI_plain (i:=⟨1,4,0,0,oth⟩) rfl] at hi
  have hst:=st_set hi
  have key:=h.loc ht (⟨p,10,r0,r1,r2,r3,(oth),r5,r6,r7,0⟩:Loc) (.inl ⟨rfl,hp,by show 10 < 38;decide⟩) (I_loc (mem:=s.mem) (q:=s.buf) hI ht (by rw [hq,hgt,←hme,←hown,←hoth];apply At.a10H35<;>first | assumption | rfl | (simp_all;done))) (by rw [hx];rfl) (by rw [hx]) (by rw [hx];rfl)
  rw [show Loc.th (X A R).Lb _=_ from th_of rfl] at key
  exact⟨_,_,_,hst,key⟩
 case a9H45 g0 g1 g2 g3=>
  have hi:=ins (i:=⟨1,4,0,0,oth⟩) rfl
  rw [movI_plain (i:=⟨1,4,0,0,oth⟩) rfl] at hi
  have hst:=st_set hi
  have key:=h.loc ht (⟨p,10,r0,r1,r2,r3,(oth),r5,r6,r7,0⟩:Loc) (.inl ⟨rfl,hp,by show 10 < 38;decide⟩) (I_loc (mem:=s.mem) (q:=s.buf) hI ht (by rw [hq,hgt,←hme,←hown,←hoth];apply At.a10H45<;>first | assumption | rfl | (simp_all;done))) (by rw [hx];rfl) (by rw [hx]) (by rw [hx];rfl)
  rw [show Loc.th (X A R).Lb _=_ from th_of rfl] at key
  exact⟨_,_,_,hst,key⟩
 case a9H55 g0 g1 g2 g3=>
  have hi:=ins (i:=⟨1,4,0,0,oth⟩) rfl
  rw [movI_plain (i:=⟨1,4,0,0,oth⟩) rfl] at hi
  have hst:=st_set hi
  have key:=h.loc ht (⟨p,10,r0,r1,r2,r3,(oth),r5,r6,r7,0⟩:Loc) (.inl ⟨rfl,hp,by show 10 < 38;decide⟩) (I_loc (mem:=s.mem) (q:=s.buf) hI ht (by rw [hq,hgt,←hme,←hown,←hoth];apply At.a10H55<;>first | assumption | rfl | (simp_all;done))) (by rw [hx];rfl) (by rw [hx]) (by rw [hx];rfl)
  rw [show Loc.th (X A R).Lb _=_ from th_of rfl] at key
  exact⟨_,_,_,hst,key⟩
 case a10H05 g0 g1 g2 g3=>
  have hi:=ins (i:=⟨17,4,8,0,18⟩) rfl
  rw [movI_plain (i:=⟨17,4,8,0,18⟩) rfl] at hi
  have hst:=st_store hi (ad:=18) (addr_abs _ _ _ _ _) (by rw [hnm];omega)
  by_cases hro:s.roomy t=true
  ·rw [if_pos hro] at hst
   have hrv:r4=oth:=by assumption
   have key:=h.stored ht ((p*38+10:Nat):Int) 18 r4 (⟨p,11,r0,r1,r2,r3,r4,r5,r6,r7,0⟩:Loc) (.inl ⟨rfl,hp,by show 11 < 38;decide⟩) (by
    have:=hI.put (q':=s.buf t++[(18,r4)]) (x:=⟨p,11,r0,r1,r2,r3,r4,r5,r6,r7,0⟩) ht (show At ((t+1:Nat):Int) (ownA A t) (othA A t) (s.mem.getD (ownA A t) 0) (s.mem.getD 19 0) (s.mem.getD 0 0) (gf t) _ _ _ _ _ _ _ _ from by rw [hq,hgt,hrv,←hme,←hown,←hoth];apply At.a11H06<;>first | assumption | rfl | (simp_all;done))
    exact⟨_,this⟩) (by rw [hx];rfl) (by rw [hx]) (.inl ⟨by omega,by rw [hx];rfl⟩)
   rw [show Loc.th (X A R).Lb _=_ from th_of rfl] at key
   exact⟨_,_,_,hst,key⟩
  ·rw [if_neg hro] at hst
   exact⟨_,f,i,hst,flush h ht hA⟩
 case a10H15 g0 g1 g2 g3 g4=>
  have hi:=ins (i:=⟨17,4,8,0,18⟩) rfl
  rw [movI_plain (i:=⟨17,4,8,0,18⟩) rfl] at hi
  have hst:=st_store hi (ad:=18) (addr_abs _ _ _ _ _) (by rw [hnm];omega)
  by_cases hro:s.roomy t=true
  ·rw [if_pos hro] at hst
   have hrv:r4=oth:=by assumption
   have key:=h.stored ht ((p*38+10:Nat):Int) 18 r4 (⟨p,11,r0,r1,r2,r3,r4,r5,r6,r7,0⟩:Loc) (.inl ⟨rfl,hp,by show 11 < 38;decide⟩) (by
    have:=hI.put (q':=s.buf t++[(18,r4)]) (x:=⟨p,11,r0,r1,r2,r3,r4,r5,r6,r7,0⟩) ht (show At ((t+1:Nat):Int) (ownA A t) (othA A t) (s.mem.getD (ownA A t) 0) (s.mem.getD 19 0) (s.mem.getD 0 0) (gf t) _ _ _ _ _ _ _ _ from by rw [hq,hgt,hrv,←hme,←hown,←hoth];apply At.a11H16<;>first | assumption | rfl | (simp_all;done))
    exact⟨_,this⟩) (by rw [hx];rfl) (by rw [hx]) (.inl ⟨by omega,by rw [hx];rfl⟩)
   rw [show Loc.th (X A R).Lb _=_ from th_of rfl] at key
   exact⟨_,_,_,hst,key⟩
  ·rw [if_neg hro] at hst
   exact⟨_,f,i,hst,flush h ht hA⟩
 case a10H25 g0 g1 g2 g3 g4=>
  have hi:=ins (i:=⟨17,4,8,0,18⟩) rfl
  rw [movI_plain (i:=⟨17,4,8,0,18⟩) rfl] at hi
  have hst:=st_store hi (ad:=18) (addr_abs _ _ _ _ _) (by rw [hnm];omega)
  by_cases hro:s.roomy t=true
  ·rw [if_pos hro] at hst
   have hrv:r4=oth:=by assumption
   have key:=h.stored ht ((p*38+10:Nat):Int) 18 r4 (⟨p,11,r0,r1,r2,r3,r4,r5,r6,r7,0⟩:Loc) (.inl ⟨rfl,hp,by show 11 < 38;decide⟩) (by
    have:=hI.put (q':=s.buf t++[(18,r4)]) (x:=⟨p,11,r0,r1,r2,r3,r4,r5,r6,r7,0⟩) ht (show At ((t+1:Nat):Int) (ownA A t) (othA A t) (s.mem.getD (ownA A t) 0) (s.mem.getD 19 0) (s.mem.getD 0 0) (gf t) _ _ _ _ _ _ _ _ from by rw [hq,hgt,hrv,←hme,←hown,←hoth];apply At.a11H26<;>first | assumption | rfl | (simp_all;done))
    exact⟨_,this⟩) (by rw [hx];rfl) (by rw [hx]) (.inl ⟨by omega,by rw [hx];rfl⟩)
   rw [show Loc.th (X A R).Lb _=_ from th_of rfl] at key
   exact⟨_,_,_,hst,key⟩
  ·rw [if_neg hro] at hst
   exact⟨_,f,i,hst,flush h ht hA⟩
 case a10H35 g0 g1 g2 g3 g4=>
  have hi:=ins (i:=⟨17,4,8,0,18⟩) rfl
  rw [movI_plain (i:=⟨17,4,8,0,18⟩) rfl] at hi
  have hst:=st_store hi (ad:=18) (addr_abs _ _ _ _ _) (by rw [hnm];omega)
  by_cases hro:s.roomy t=true
  ·rw [if_pos hro] at hst
   have hrv:r4=oth:=by assumption
   have key:=h.stored ht ((p*38+10:Nat):Int) 18 r4 (⟨p,11,r0,r1,r2,r3,r4,r5,r6,r7,0⟩:Loc) (.inl ⟨rfl,hp,by show 11 < 38;decide⟩) (by
    have:=hI.put (q':=s.buf t++[(18,r4)]) (x:=⟨p,11,r0,r1,r2,r3,r4,r5,r6,r7,0⟩) ht (show At ((t+1:Nat):Int) (ownA A t) (othA A t) (s.mem.getD (ownA A t) 0) (s.mem.getD 19 0) (s.mem.getD 0 0) (gf t) _ _ _ _ _ _ _ _ from by rw [hq,hgt,hrv,←hme,←hown,←hoth];apply At.a11H36<;>first | assumption | rfl | (simp_all;done))
    exact⟨_,this⟩) (by rw [hx];rfl) (by rw [hx]) (.inl ⟨by omega,by rw [hx];rfl⟩)
   rw [show Loc.th (X A R).Lb _=_ from th_of rfl] at key
   exact⟨_,_,_,hst,key⟩
  ·rw [if_neg hro] at hst
   exact⟨_,f,i,hst,flush h ht hA⟩
 case a10H45 g0 g1 g2 g3 g4=>
  have hi:=ins (i:=⟨17,4,8,0,18⟩) rfl
  rw [movI_plain (i:=⟨17,4,8,0,18⟩) rfl] at hi
  have hst:=st_store hi (ad:=18) (addr_abs _ _ _ _ _) (by rw [hnm];omega)
  by_cases hro:s.roomy t=true
  ·rw [if_pos hro] at hst
   have hrv:r4=oth:=by assumption
   have key:=h.stored ht ((p*38+10:Nat):Int) 18 r4 (⟨p,11,r0,r1,r2,r3,r4,r5,r6,r7,0⟩:Loc) (.inl ⟨rfl,hp,by show 11 < 38;decide⟩) (by
    have:=hI.put (q':=s.buf t++[(18,r4)]) (x:=⟨p,11,r0,r1,r2,r3,r4,r5,r6,r7,0⟩) ht (show At ((t+1:Nat):Int) (ownA A t) (othA A t) (s.mem.getD (ownA A t) 0) (s.mem.getD 19 0) (s.mem.getD 0 0) (gf t) _ _ _ _ _ _ _ _ from by rw [hq,hgt,hrv,←hme,←hown,←hoth];apply At.a11H46<;>first | assumption | rfl | (simp_all;done))
    exact⟨_,this⟩) (by rw [hx];rfl) (by rw [hx]) (.inl ⟨by omega,by rw [hx];rfl⟩)
   rw [show Loc.th (X A R).Lb _=_ from th_of rfl] at key
   exact⟨_,_,_,hst,key⟩
  ·rw [if_neg hro] at hst
   exact⟨_,f,i,hst,flush h ht hA⟩
 case a10H55 g0 g1 g2 g3 g4=>
  have hi:=ins (i:=⟨17,4,8,0,18⟩) rfl
  rw [movI_plain (i:=⟨17,4,8,0,18⟩) rfl] at hi
  have hst:=st_store hi (ad:=18) (addr_abs _ _ _ _ _) (by rw [hnm];omega)
  by_cases hro:s.roomy t=true
  ·rw [if_pos hro] at hst
   have hrv:r4=oth:=by assumption
   have key:=h.stored ht ((p*38+10:Nat):Int) 18 r4 (⟨p,11,r0,r1,r2,r3,r4,r5,r6,r7,0⟩:Loc) (.inl ⟨rfl,hp,by show 11 < 38;decide⟩) (by
    have:=hI.put (q':=s.buf t++[(18,r4)]) (x:=⟨p,11,r0,r1,r2,r3,r4,r5,r6,r7,0⟩) ht (show At ((t+1:Nat):Int) (ownA A t) (othA A t) (s.mem.getD (ownA A t) 0) (s.mem.getD 19 0) (s.mem.getD 0 0) (gf t) _ _ _ _ _ _ _ _ from by rw [hq,hgt,hrv,←hme,←hown,←hoth];apply At.a11H56<;>first | assumption | rfl | (simp_all;done))
    exact⟨_,this⟩) (by rw [hx];rfl) (by rw [hx]) (.inl ⟨by omega,by rw [hx];rfl⟩)
   rw [show Loc.th (X A R).Lb _=_ from th_of rfl] at key
   exact⟨_,_,_,hst,key⟩
  ·rw [if_neg hro] at hst
   exact⟨_,f,i,hst,flush h ht hA⟩
 case a11H06 g0 g1 g2=>
  have hi:=ins (i:=⟨18,0,0,0,0⟩) rfl
  rw [movI_plain (i:=⟨18,0,0,0,0⟩) rfl] at hi
  exact⟨_,f,i,st_drain hi (by show drainsI 18;decide) (fun e=>absurd e (by decide)) (by rw [empty_q hq];rfl),flush h ht hA⟩
 case a11H16 g0 g1 g2 g3=>
  have hi:=ins (i:=⟨18,0,0,0,0⟩) rfl
  rw [movI_plain (i:=⟨18,0,0,0,0⟩) rfl] at hi
  exact⟨_,f,i,st_drain hi (by show drainsI 18;decide) (fun e=>absurd e (by decide)) (by rw [empty_q hq];rfl),flush h ht hA⟩
 case a11H26 g0 g1 g2 g3=>
  have hi:=ins (i:=⟨18,0,0,0,0⟩) rfl
  rw [movI_plain (i:=⟨18,0,0,0,0⟩) rfl] at hi
  exact⟨_,f,i,st_drain hi (by show drainsI 18;decide) (fun e=>absurd e (by decide)) (by rw [empty_q hq];rfl),flush h ht hA⟩
 case a11H36 g0 g1 g2 g3=>
  have hi:=ins (i:=⟨18,0,0,0,0⟩) rfl
  rw [movI_plain (i:=⟨18,0,0,0,0⟩) rfl] at hi
  exact⟨_,f,i,st_drain hi (by show drainsI 18;decide) (fun e=>absurd e (by decide)) (by rw [empty_q hq];rfl),flush h ht hA⟩
 case a11H46 g0 g1 g2 g3=>
  have hi:=ins (i:=⟨18,0,0,0,0⟩) rfl
  rw [movI_plain (i:=⟨18,0,0,0,0⟩) rfl] at hi
  exact⟨_,f,i,st_drain hi (by show drainsI 18;decide) (fun e=>absurd e (by decide)) (by rw [empty_q hq];rfl),flush h ht hA⟩
 case a11H56 g0 g1 g2 g3=>
  have hi:=ins (i:=⟨18,0,0,0,0⟩) rfl
  rw [movI_plain (i:=⟨18,0,0,0,0⟩) rfl] at hi
  exact⟨_,f,i,st_drain hi (by show drainsI 18;decide) (fun e=>absurd e (by decide)) (by rw [empty_q hq];rfl),flush h ht hA⟩
 case a11H66 g0 g1 g2 g3=>
  have hi:=ins (i:=⟨18,0,0,0,0⟩) rfl
  rw [movI_plain (i:=⟨18,0,0,0,0⟩) rfl] at hi
  have hst:=st_fence hi (by rw [empty_q hq];rfl)
  have hg:=h.noted (t:=t) ⟨5,0,((p*38+11:Nat):Int),0,0,0,0,false⟩ (show (5:Int)≠7 by decide) (show (5:Int)≠13 by decide)
  have key:=hg.loc ht (⟨p,12,r0,r1,r2,r3,r4,r5,r6,r7,0⟩:Loc) (.inl ⟨rfl,hp,by show 12 < 38;decide⟩) (I_loc (mem:=s.mem) (q:=s.buf) hI ht (by rw [hq,hgt,←hme,←hown,←hoth];apply At.a12W<;>first | assumption | rfl | (simp_all;done))) (by rw [hx];rfl) (by rw [hx]) (by rw [hx];rfl)
  rw [show Loc.th (X A R).Lb _=_ from th_of rfl] at key
  exact⟨_,_,_,hst,key⟩
 case a12W g0 g1 g2 g3=>
  have hi:=ins (i:=⟨16,4,8,0,(their:Int)⟩) rfl
  rw [movI_plain (i:=⟨16,4,8,0,(their:Int)⟩) rfl] at hi
  have hst:=st_load hi (ad:=their) (addr_abs _ _ _ _ _) (by rw [hnm];omega)
  have hl:s.load t their=(s.mem.getD their 0):=by rw [load_q hq];(first | rfl | (rcases hoo with⟨e,_⟩ | ⟨e,_⟩<;>rw [e]<;>rfl))
  rw [hl] at hst
  have hg:=h.noted (t:=t) ⟨1,0,((p*38+12:Nat):Int),their,(s.mem.getD their 0),0,0,false⟩ (show (1:Int)≠7 by decide) (show (1:Int)≠13 by decide)
  by_cases hz:s.mem.getD their 0=0
  ·skip
   have hz0:∀ u,u < 2→t≠u→gf u=0:=fun u hu hne=>(hI.hat u hu).zero (by rw [(hot u hu hne).1,←hth];exact hz)
   have key:=hg.loc ht (⟨p,13,r0,r1,r2,r3,(s.mem.getD their 0),r5,r6,r7,0⟩:Loc) (.inl ⟨rfl,hp,by show 13 < 38;decide⟩) (⟨_,by have:=hI.turn (mem':=s.mem) (x:=⟨p,13,r0,r1,r2,r3,(s.mem.getD their 0),r5,r6,r7,0⟩) (q':=s.buf t) (g':=3) ht (show At ((t+1:Nat):Int) (ownA A t) (othA A t) (s.mem.getD (ownA A t) 0) (s.mem.getD 19 0) (s.mem.getD 0 0) 3 _ _ _ _ _ _ _ (s.buf t) from by rw [hq,←hme,←hown,←hoth];exact (At.a13C (by first | assumption | rfl | exact hz) (by first | assumption | rfl | exact hz) (by first | assumption | rfl | exact hz) (by first | assumption | rfl | exact hz) (by first | assumption | rfl | exact hz))) (fun u hu _=>hI.hat u hu) (fun u hu hne _ e=>by rw [hz0 u hu hne] at e;cases e) (fun u hu hne _ e=>by rw [hz0 u hu hne] at e;cases e) (fun _ _ _ _ h=>absurd h (by decide)) hI.t01;rw [upF_id s.buf t] at this;exact this⟩) (by rw [hx];rfl) (by rw [hx]) (by rw [hx];rfl)
   rw [show Loc.th (X A R).Lb _=_ from th_of rfl] at key
   exact⟨_,_,_,hst,key⟩
  ·skip
   have key:=hg.loc ht (⟨p,13,r0,r1,r2,r3,(s.mem.getD their 0),r5,r6,r7,0⟩:Loc) (.inl ⟨rfl,hp,by show 13 < 38;decide⟩) (I_loc (mem:=s.mem) (q:=s.buf) hI ht (by rw [hq,hgt,←hme,←hown,←hoth];exact (At.a13W (by first | assumption | exact hz) (by first | assumption | exact hz) (by first | assumption | exact hz) (by first | assumption | exact hz) (by first | assumption | exact hz)))) (by rw [hx];rfl) (by rw [hx]) (by rw [hx];rfl)
   rw [show Loc.th (X A R).Lb _=_ from th_of rfl] at key
   exact⟨_,_,_,hst,key⟩
 case a13C g0 g1 g2 g3 g4=>
  have hi:=ins (i:=⟨14,4,0,0,18⟩) rfl
  rw [movI_jump (i:=⟨14,4,0,0,18⟩) rfl] at hi
  have hst:=st_zero hi
  by_cases hz:r4=0
  ·rw [if_pos (by exact hz)] at hst
   have key:=h.loc ht (⟨p,18,r0,r1,r2,r3,r4,r5,r6,r7,0⟩:Loc) (.inl ⟨rfl,hp,by show 18 < 38;decide⟩) (I_loc (mem:=s.mem) (q:=s.buf) hI ht (by rw [hq,hgt,←hme,←hown,←hoth];apply At.a18C<;>first | assumption | (simp_all;done))) (by rw [hx];rfl) (by rw [hx]) (by rw [hx];rfl)
   rw [show Loc.th (X A R).Lb _=_ from th_jmp (by omega) (by decide)] at key
   exact⟨_,_,_,hst,key⟩
  ·rw [if_neg (by exact hz)] at hst
   exfalso;simp_all
 case a13W g0 g1 g2 g3 g4=>
  have hi:=ins (i:=⟨14,4,0,0,18⟩) rfl
  rw [movI_jump (i:=⟨14,4,0,0,18⟩) rfl] at hi
  have hst:=st_zero hi
  by_cases hz:r4=0
  ·rw [if_pos (by exact hz)] at hst
   exfalso;simp_all
  ·rw [if_neg (by exact hz)] at hst
   have key:=h.loc ht (⟨p,14,r0,r1,r2,r3,r4,r5,r6,r7,0⟩:Loc) (.inl ⟨rfl,hp,by show 14 < 38;decide⟩) (I_loc (mem:=s.mem) (q:=s.buf) hI ht (by rw [hq,hgt,←hme,←hown,←hoth];apply At.a14W<;>first | assumption | (simp_all;done))) (by rw [hx];rfl) (by rw [hx]) (by rw [hx];rfl)
   rw [show Loc.th (X A R).Lb _=_ from th_of rfl] at key
   exact⟨_,_,_,hst,key⟩
 case a14W g0 g1 g2 g3=>
  have hi:=ins (i:=⟨16,4,8,0,18⟩) rfl
  rw [movI_plain (i:=⟨16,4,8,0,18⟩) rfl] at hi
  have hst:=st_load hi (ad:=18) (addr_abs _ _ _ _ _) (by rw [hnm];omega)
  have hl:s.load t 18=(s.mem.getD 18 0):=by rw [load_q hq];(first | rfl | (rcases hoo with⟨e,_⟩ | ⟨e,_⟩<;>rw [e]<;>rfl))
  rw [hl] at hst
  have hg:=h.noted (t:=t) ⟨1,0,((p*38+14:Nat):Int),18,(s.mem.getD 18 0),0,0,false⟩ (show (1:Int)≠7 by decide) (show (1:Int)≠13 by decide)
  by_cases hz:s.mem.getD 18 0=oth
  ·skip
   have key:=hg.loc ht (⟨p,15,r0,r1,r2,r3,(s.mem.getD 18 0),r5,r6,r7,0⟩:Loc) (.inl ⟨rfl,hp,by show 15 < 38;decide⟩) (I_loc (mem:=s.mem) (q:=s.buf) hI ht (by rw [hq,hgt,←hme,←hown,←hoth];exact (At.a15W (by first | assumption | exact hz) (by first | assumption | exact hz) (by first | assumption | exact hz) (by first | assumption | exact hz) (by first | assumption | exact hz)))) (by rw [hx];rfl) (by rw [hx]) (by rw [hx];rfl)
   rw [show Loc.th (X A R).Lb _=_ from th_of rfl] at key
   exact⟨_,_,_,hst,key⟩
  ·skip
   have hg2:gf t=2:=by rw [hgt];assumption
   have key:=hg.loc ht (⟨p,15,r0,r1,r2,r3,(s.mem.getD 18 0),r5,r6,r7,0⟩:Loc) (.inl ⟨rfl,hp,by show 15 < 38;decide⟩) (⟨_,by have:=hI.turn (mem':=s.mem) (x:=⟨p,15,r0,r1,r2,r3,(s.mem.getD 18 0),r5,r6,r7,0⟩) (q':=s.buf t) (g':=3) ht (show At ((t+1:Nat):Int) (ownA A t) (othA A t) (s.mem.getD (ownA A t) 0) (s.mem.getD 19 0) (s.mem.getD 0 0) 3 _ _ _ _ _ _ _ (s.buf t) from by rw [hq,←hme,←hown,←hoth];exact (At.a15C (by first | assumption | rfl | exact hz) (by first | assumption | rfl | exact hz) (by first | assumption | rfl | exact hz) (by first | assumption | rfl | exact hz) (by first | assumption | rfl | exact hz))) (fun u hu _=>hI.hat u hu) (fun u hu hne _ e=>hz (by rw [hoth];exact hI.tw u t hu ht (fun e=>hne e.symm) e hg2)) (fun u hu hne _ _=>by have h1:=(hot u hu hne).2.1;rw [←hoth] at h1;have:=hI.t01;omega) (fun _ _ _ _ h=>absurd h (by decide)) hI.t01;rw [upF_id s.buf t] at this;exact this⟩) (by rw [hx];rfl) (by rw [hx]) (by rw [hx];rfl)
   rw [show Loc.th (X A R).Lb _=_ from th_of rfl] at key
   exact⟨_,_,_,hst,key⟩
 case a15C g0 g1 g2 g3 g4=>
  have hi:=ins (i:=⟨1,6,0,0,oth⟩) rfl
  rw [movI_plain (i:=⟨1,6,0,0,oth⟩) rfl] at hi
  have hst:=st_set hi
  have key:=h.loc ht (⟨p,16,r0,r1,r2,r3,r4,r5,(oth),r7,0⟩:Loc) (.inl ⟨rfl,hp,by show 16 < 38;decide⟩) (I_loc (mem:=s.mem) (q:=s.buf) hI ht (by rw [hq,hgt,←hme,←hown,←hoth];apply At.a16C<;>first | assumption | rfl | (simp_all;done))) (by rw [hx];rfl) (by rw [hx]) (by rw [hx];rfl)
  rw [show Loc.th (X A R).Lb _=_ from th_of rfl] at key
  exact⟨_,_,_,hst,key⟩
 case a15W g0 g1 g2 g3 g4=>
  have hi:=ins (i:=⟨1,6,0,0,oth⟩) rfl
  rw [movI_plain (i:=⟨1,6,0,0,oth⟩) rfl] at hi
  have hst:=st_set hi
  have key:=h.loc ht (⟨p,16,r0,r1,r2,r3,r4,r5,(oth),r7,0⟩:Loc) (.inl ⟨rfl,hp,by show 16 < 38;decide⟩) (I_loc (mem:=s.mem) (q:=s.buf) hI ht (by rw [hq,hgt,←hme,←hown,←hoth];apply At.a16W<;>first | assumption | rfl | (simp_all;done))) (by rw [hx];rfl) (by rw [hx]) (by rw [hx];rfl)
  rw [show Loc.th (X A R).Lb _=_ from th_of rfl] at key
  exact⟨_,_,_,hst,key⟩
 case a16C g0 g1 g2 g3 g4 g5=>
  have hi:=ins (i:=⟨12,6,4,6,0⟩) rfl
  rw [movI_plain (i:=⟨12,6,4,6,0⟩) rfl] at hi
  have hst:=st_same hi
  have hv:(if r4=r6 then (1:Int) else 0)=0:=by simp_all
  have key:=h.loc ht (⟨p,17,r0,r1,r2,r3,r4,r5,(if r4=r6 then (1:Int) else 0),r7,0⟩:Loc) (.inl ⟨rfl,hp,by show 17 < 38;decide⟩) (I_loc (mem:=s.mem) (q:=s.buf) hI ht (by rw [hq,hgt,←hme,←hown,←hoth];exact (At.a17C (by first | assumption | exact hv | (rw [hv];decide) | (show (if r4=r6 then (1:Int) else 0)≠0;rw [hv];decide)) (by first | assumption | exact hv | (rw [hv];decide) | (show (if r4=r6 then (1:Int) else 0)≠0;rw [hv];decide)) (by first | assumption | exact hv | (rw [hv];decide) | (show (if r4=r6 then (1:Int) else 0)≠0;rw [hv];decide)) (by first | assumption | exact hv | (rw [hv];decide) | (show (if r4=r6 then (1:Int) else 0)≠0;rw [hv];decide)) (by first | assumption | exact hv | (rw [hv];decide) | (show (if r4=r6 then (1:Int) else 0)≠0;rw [hv];decide))))) (by rw [hx];rfl) (by rw [hx]) (by rw [hx];rfl)
  rw [show Loc.th (X A R).Lb _=_ from th_of rfl] at key
  exact⟨_,_,_,hst,key⟩
 case a16W g0 g1 g2 g3 g4 g5=>
  have hi:=ins (i:=⟨12,6,4,6,0⟩) rfl
  rw [movI_plain (i:=⟨12,6,4,6,0⟩) rfl] at hi
  have hst:=st_same hi
  have hv:(if r4=r6 then (1:Int) else 0)=1:=by simp_all
  have key:=h.loc ht (⟨p,17,r0,r1,r2,r3,r4,r5,(if r4=r6 then (1:Int) else 0),r7,0⟩:Loc) (.inl ⟨rfl,hp,by show 17 < 38;decide⟩) (I_loc (mem:=s.mem) (q:=s.buf) hI ht (by rw [hq,hgt,←hme,←hown,←hoth];exact (At.a17W (by first | assumption | exact hv | (rw [hv];decide) | (show (if r4=r6 then (1:Int) else 0)≠0;rw [hv];decide)) (by first | assumption | exact hv | (rw [hv];decide) | (show (if r4=r6 then (1:Int) else 0)≠0;rw [hv];decide)) (by first | assumption | exact hv | (rw [hv];decide) | (show (if r4=r6 then (1:Int) else 0)≠0;rw [hv];decide)) (by first | assumption | exact hv | (rw [hv];decide) | (show (if r4=r6 then (1:Int) else 0)≠0;rw [hv];decide)) (by first | assumption | exact hv | (rw [hv];decide) | (show (if r4=r6 then (1:Int) else 0)≠0;rw [hv];decide))))) (by rw [hx];rfl) (by rw [hx]) (by rw [hx];rfl)
  rw [show Loc.th (X A R).Lb _=_ from th_of rfl] at key
  exact⟨_,_,_,hst,key⟩
 case a17C g0 g1 g2 g3 g4=>
  have hi:=ins (i:=⟨15,6,0,0,12⟩) rfl
  rw [movI_jump (i:=⟨15,6,0,0,12⟩) rfl] at hi
  have hst:=st_some hi
  by_cases hz:r6≠0
  ·rw [if_pos (by exact hz)] at hst
   exfalso;simp_all
  ·rw [if_neg (by exact hz)] at hst
   have key:=h.loc ht (⟨p,18,r0,r1,r2,r3,r4,r5,r6,r7,0⟩:Loc) (.inl ⟨rfl,hp,by show 18 < 38;decide⟩) (I_loc (mem:=s.mem) (q:=s.buf) hI ht (by rw [hq,hgt,←hme,←hown,←hoth];apply At.a18C<;>first | assumption | (simp_all;done))) (by rw [hx];rfl) (by rw [hx]) (by rw [hx];rfl)
   rw [show Loc.th (X A R).Lb _=_ from th_of rfl] at key
   exact⟨_,_,_,hst,key⟩
 case a17W g0 g1 g2 g3 g4=>
  have hi:=ins (i:=⟨15,6,0,0,12⟩) rfl
  rw [movI_jump (i:=⟨15,6,0,0,12⟩) rfl] at hi
  have hst:=st_some hi
  by_cases hz:r6≠0
  ·rw [if_pos (by exact hz)] at hst
   have key:=h.loc ht (⟨p,12,r0,r1,r2,r3,r4,r5,r6,r7,0⟩:Loc) (.inl ⟨rfl,hp,by show 12 < 38;decide⟩) (I_loc (mem:=s.mem) (q:=s.buf) hI ht (by rw [hq,hgt,←hme,←hown,←hoth];apply At.a12W<;>first | assumption | (simp_all;done))) (by rw [hx];rfl) (by rw [hx]) (by rw [hx];rfl)
   rw [show Loc.th (X A R).Lb _=_ from th_jmp (by omega) (by decide)] at key
   exact⟨_,_,_,hst,key⟩
  ·rw [if_neg (by exact hz)] at hst
   exfalso;simp_all
 case a18C g0 g1 g2 g3=>
  have hi:=ins (i:=⟨17,5,8,0,19⟩) rfl
  rw [movI_plain (i:=⟨17,5,8,0,19⟩) rfl] at hi
  have hst:=st_store hi (ad:=19) (addr_abs _ _ _ _ _) (by rw [hnm];omega)
  by_cases hro:s.roomy t=true
  ·rw [if_pos hro] at hst
   have hrv:r5=me:=by assumption
   have key:=h.stored ht ((p*38+18:Nat):Int) 19 r5 (⟨p,19,r0,r1,r2,r3,r4,r5,r6,r7,0⟩:Loc) (.inl ⟨rfl,hp,by show 19 < 38;decide⟩) (by
    have:=hI.put (q':=s.buf t++[(19,r5)]) (x:=⟨p,19,r0,r1,r2,r3,r4,r5,r6,r7,0⟩) ht (show At ((t+1:Nat):Int) (ownA A t) (othA A t) (s.mem.getD (ownA A t) 0) (s.mem.getD 19 0) (s.mem.getD 0 0) (gf t) _ _ _ _ _ _ _ _ from by rw [hq,hgt,hrv,←hme,←hown,←hoth];apply At.a19H01<;>first | assumption | rfl | (simp_all;done))
    exact⟨_,this⟩) (by rw [hx];rfl) (by rw [hx]) (.inl ⟨by omega,by rw [hx];rfl⟩)
   rw [show Loc.th (X A R).Lb _=_ from th_of rfl] at key
   exact⟨_,_,_,hst,key⟩
  ·rw [if_neg hro] at hst
   exact⟨_,f,i,hst,flush h ht hA⟩
 case a19H01 g0 g1=>
  have hi:=ins (i:=⟨1,7,0,0,0⟩) rfl
  rw [movI_plain (i:=⟨1,7,0,0,0⟩) rfl] at hi
  have hst:=st_set hi
  have key:=h.loc ht (⟨p,20,r0,r1,r2,r3,r4,r5,r6,(0),0⟩:Loc) (.inl ⟨rfl,hp,by show 20 < 38;decide⟩) (I_loc (mem:=s.mem) (q:=s.buf) hI ht (by rw [hq,hgt,←hme,←hown,←hoth];apply At.a20H01<;>first | assumption | rfl | (simp_all;done))) (by rw [hx];rfl) (by rw [hx]) (by rw [hx];rfl)
  rw [show Loc.th (X A R).Lb _=_ from th_of rfl] at key
  exact⟨_,_,_,hst,key⟩
 case a19H11 g0 g1 g2=>
  have hi:=ins (i:=⟨1,7,0,0,0⟩) rfl
  rw [movI_plain (i:=⟨1,7,0,0,0⟩) rfl] at hi
  have hst:=st_set hi
  have key:=h.loc ht (⟨p,20,r0,r1,r2,r3,r4,r5,r6,(0),0⟩:Loc) (.inl ⟨rfl,hp,by show 20 < 38;decide⟩) (I_loc (mem:=s.mem) (q:=s.buf) hI ht (by rw [hq,hgt,←hme,←hown,←hoth];apply At.a20H11<;>first | assumption | rfl | (simp_all;done))) (by rw [hx];rfl) (by rw [hx]) (by rw [hx];rfl)
  rw [show Loc.th (X A R).Lb _=_ from th_of rfl] at key
  exact⟨_,_,_,hst,key⟩
 case a20H01 g0 g1 g2=>
  have hi:=ins (i:=⟨27,7,0,0,1⟩) rfl
  rw [movI_plain (i:=⟨27,7,0,0,1⟩) rfl] at hi
  have hmk:=st_mark hi
  have r70:r7=0:=by assumption
  subst r70
  have key:=h.enters ht ((p*38+20:Nat):Int) (⟨p,21,r0,r1,r2,r3,r4,r5,r6,0,0⟩:Loc) (.inl ⟨rfl,hp,by show 21 < 38;decide⟩) (I_loc (mem:=s.mem) (q:=s.buf) hI ht (by rw [hq,hgt,←hme,←hown,←hoth];apply At.a21H01<;>first | assumption | rfl | (simp_all;done))) (fun u hu=>by
   by_cases e:t=u
   ·subst e;rw [hx];rfl
   ·exact ((hI.hat u hu).out (hI.ex t u ht hu e (by rw [hgt];assumption))).2) rfl (by rw [hx]) (by rw [hx];rfl)
  rw [show Loc.th (X A R).Lb _=_ from th_of rfl] at key
  exact⟨_,_,_,hmk,key⟩
 case a20H11 g0 g1 g2 g3=>
  have hi:=ins (i:=⟨27,7,0,0,1⟩) rfl
  rw [movI_plain (i:=⟨27,7,0,0,1⟩) rfl] at hi
  have hmk:=st_mark hi
  have r70:r7=0:=by assumption
  subst r70
  have key:=h.enters ht ((p*38+20:Nat):Int) (⟨p,21,r0,r1,r2,r3,r4,r5,r6,0,0⟩:Loc) (.inl ⟨rfl,hp,by show 21 < 38;decide⟩) (I_loc (mem:=s.mem) (q:=s.buf) hI ht (by rw [hq,hgt,←hme,←hown,←hoth];apply At.a21H11<;>first | assumption | rfl | (simp_all;done))) (fun u hu=>by
   by_cases e:t=u
   ·subst e;rw [hx];rfl
   ·exact ((hI.hat u hu).out (hI.ex t u ht hu e (by rw [hgt];assumption))).2) rfl (by rw [hx]) (by rw [hx];rfl)
  rw [show Loc.th (X A R).Lb _=_ from th_of rfl] at key
  exact⟨_,_,_,hmk,key⟩
 case a21H01 g0 g1=>
  have hi:=ins (i:=⟨16,1,8,0,0⟩) rfl
  rw [movI_plain (i:=⟨16,1,8,0,0⟩) rfl] at hi
  have hst:=st_load hi (ad:=0) (addr_abs _ _ _ _ _) (by rw [hnm];omega)
  have hl:s.load t 0=(s.mem.getD 0 0):=by rw [load_q hq];(first | rfl | (rcases hoo with⟨e,_⟩ | ⟨e,_⟩<;>rw [e]<;>rfl))
  rw [hl] at hst
  have hg:=h.noted (t:=t) ⟨1,0,((p*38+21:Nat):Int),0,(s.mem.getD 0 0),0,0,false⟩ (show (1:Int)≠7 by decide) (show (1:Int)≠13 by decide)
  have key:=hg.loc ht (⟨p,22,r0,(s.mem.getD 0 0),r2,r3,r4,r5,r6,r7,0⟩:Loc) (.inl ⟨rfl,hp,by show 22 < 38;decide⟩) (I_loc (mem:=s.mem) (q:=s.buf) hI ht (by rw [hq,hgt,←hme,←hown,←hoth];exact (At.a22H01 (by first | assumption | rfl | omega | (intro e;dsimp only at e;omega) | exact Int.le_refl _) (by first | assumption | rfl | omega | (intro e;dsimp only at e;omega) | exact Int.le_refl _) (by first | assumption | rfl | omega | (intro e;dsimp only at e;omega) | exact Int.le_refl _)))) (by rw [hx];rfl) (by rw [hx]) (by rw [hx];rfl)
  rw [show Loc.th (X A R).Lb _=_ from th_of rfl] at key
  exact⟨_,_,_,hst,key⟩
 case a21H11 g0 g1 g2=>
  have hi:=ins (i:=⟨16,1,8,0,0⟩) rfl
  rw [movI_plain (i:=⟨16,1,8,0,0⟩) rfl] at hi
  have hst:=st_load hi (ad:=0) (addr_abs _ _ _ _ _) (by rw [hnm];omega)
  have hl:s.load t 0=(s.mem.getD 0 0):=by rw [load_q hq];(first | rfl | (rcases hoo with⟨e,_⟩ | ⟨e,_⟩<;>rw [e]<;>rfl))
  rw [hl] at hst
  have hg:=h.noted (t:=t) ⟨1,0,((p*38+21:Nat):Int),0,(s.mem.getD 0 0),0,0,false⟩ (show (1:Int)≠7 by decide) (show (1:Int)≠13 by decide)
  have key:=hg.loc ht (⟨p,22,r0,(s.mem.getD 0 0),r2,r3,r4,r5,r6,r7,0⟩:Loc) (.inl ⟨rfl,hp,by show 22 < 38;decide⟩) (I_loc (mem:=s.mem) (q:=s.buf) hI ht (by rw [hq,hgt,←hme,←hown,←hoth];exact (At.a22H11 (by first | assumption | rfl | omega | (intro e;dsimp only at e;omega) | exact Int.le_refl _) (by first | assumption | rfl | omega | (intro e;dsimp only at e;omega) | exact Int.le_refl _) (by first | assumption | rfl | omega | (intro e;dsimp only at e;omega) | exact Int.le_refl _) (by first | assumption | rfl | omega | (intro e;dsimp only at e;omega) | exact Int.le_refl _)))) (by rw [hx];rfl) (by rw [hx]) (by rw [hx];rfl)
  rw [show Loc.th (X A R).Lb _=_ from th_of rfl] at key
  exact⟨_,_,_,hst,key⟩
 case a22H01 g0 g1 g2=>
  have hi:=ins (i:=⟨1,2,0,0,1⟩) rfl
  rw [movI_plain (i:=⟨1,2,0,0,1⟩) rfl] at hi
  have hst:=st_set hi
  have key:=h.loc ht (⟨p,23,r0,r1,(1),r3,r4,r5,r6,r7,0⟩:Loc) (.inl ⟨rfl,hp,by show 23 < 38;decide⟩) (I_loc (mem:=s.mem) (q:=s.buf) hI ht (by rw [hq,hgt,←hme,←hown,←hoth];apply At.a23H01<;>first | assumption | rfl | (simp_all;done))) (by rw [hx];rfl) (by rw [hx]) (by rw [hx];rfl)
  rw [show Loc.th (X A R).Lb _=_ from th_of rfl] at key
  exact⟨_,_,_,hst,key⟩
 case a22H11 g0 g1 g2 g3=>
  have hi:=ins (i:=⟨1,2,0,0,1⟩) rfl
  rw [movI_plain (i:=⟨1,2,0,0,1⟩) rfl] at hi
  have hst:=st_set hi
  have key:=h.loc ht (⟨p,23,r0,r1,(1),r3,r4,r5,r6,r7,0⟩:Loc) (.inl ⟨rfl,hp,by show 23 < 38;decide⟩) (I_loc (mem:=s.mem) (q:=s.buf) hI ht (by rw [hq,hgt,←hme,←hown,←hoth];apply At.a23H11<;>first | assumption | rfl | (simp_all;done))) (by rw [hx];rfl) (by rw [hx]) (by rw [hx];rfl)
  rw [show Loc.th (X A R).Lb _=_ from th_of rfl] at key
  exact⟨_,_,_,hst,key⟩
 case a23H01 g0 g1 g2 g3=>
  have hi:=ins (i:=⟨3,1,1,2,0⟩) rfl
  rw [movI_plain (i:=⟨3,1,1,2,0⟩) rfl] at hi
  have hst:=st_add hi
  have key:=h.loc ht (⟨p,24,r0,(wr32 (r1+r2)),r2,r3,r4,r5,r6,r7,0⟩:Loc) (.inl ⟨rfl,hp,by show 24 < 38;decide⟩) (I_loc (mem:=s.mem) (q:=s.buf) hI ht (by rw [hq,hgt,←hme,←hown,←hoth];apply At.a24H01<;>first | assumption | rfl | (simp_all;done))) (by rw [hx];rfl) (by rw [hx]) (by rw [hx];rfl)
  rw [show Loc.th (X A R).Lb _=_ from th_of rfl] at key
  exact⟨_,_,_,hst,key⟩
 case a23H11 g0 g1 g2 g3 g4=>
  have hi:=ins (i:=⟨3,1,1,2,0⟩) rfl
  rw [movI_plain (i:=⟨3,1,1,2,0⟩) rfl] at hi
  have hst:=st_add hi
  have key:=h.loc ht (⟨p,24,r0,(wr32 (r1+r2)),r2,r3,r4,r5,r6,r7,0⟩:Loc) (.inl ⟨rfl,hp,by show 24 < 38;decide⟩) (I_loc (mem:=s.mem) (q:=s.buf) hI ht (by rw [hq,hgt,←hme,←hown,←hoth];apply At.a24H11<;>first | assumption | rfl | (simp_all;done))) (by rw [hx];rfl) (by rw [hx]) (by rw [hx];rfl)
  rw [show Loc.th (X A R).Lb _=_ from th_of rfl] at key
  exact⟨_,_,_,hst,key⟩
 case a24H01 g0 g1 g2=>
  have hi:=ins (i:=⟨17,1,8,0,0⟩) rfl
  rw [movI_plain (i:=⟨17,1,8,0,0⟩) rfl] at hi
  have hst:=st_store hi (ad:=0) (addr_abs _ _ _ _ _) (by rw [hnm];omega)
  by_cases hro:s.roomy t=true
  ·rw [if_pos hro] at hst
   have hrv:r1=(wr32 (s.mem.getD 0 0+1)):=by assumption
   have key:=h.stored ht ((p*38+24:Nat):Int) 0 r1 (⟨p,25,r0,r1,r2,r3,r4,r5,r6,r7,0⟩:Loc) (.inl ⟨rfl,hp,by show 25 < 38;decide⟩) (by
    have:=hI.put (q':=s.buf t++[(0,r1)]) (x:=⟨p,25,r0,r1,r2,r3,r4,r5,r6,r7,0⟩) ht (show At ((t+1:Nat):Int) (ownA A t) (othA A t) (s.mem.getD (ownA A t) 0) (s.mem.getD 19 0) (s.mem.getD 0 0) (gf t) _ _ _ _ _ _ _ _ from by rw [hq,hgt,hrv,←hme,←hown,←hoth];apply At.a25H02<;>first | assumption | rfl | (simp_all;done))
    exact⟨_,this⟩) (by rw [hx];rfl) (by rw [hx]) (.inr ⟨rfl,by rw [hx];rfl,rfl⟩)
   rw [show Loc.th (X A R).Lb _=_ from th_of rfl] at key
   exact⟨_,_,_,hst,key⟩
  ·rw [if_neg hro] at hst
   exact⟨_,f,i,hst,flush h ht hA⟩
 case a24H11 g0 g1 g2 g3=>
  have hi:=ins (i:=⟨17,1,8,0,0⟩) rfl
  rw [movI_plain (i:=⟨17,1,8,0,0⟩) rfl] at hi
  have hst:=st_store hi (ad:=0) (addr_abs _ _ _ _ _) (by rw [hnm];omega)
  by_cases hro:s.roomy t=true
  ·rw [if_pos hro] at hst
   have hrv:r1=(wr32 (s.mem.getD 0 0+1)):=by assumption
   have key:=h.stored ht ((p*38+24:Nat):Int) 0 r1 (⟨p,25,r0,r1,r2,r3,r4,r5,r6,r7,0⟩:Loc) (.inl ⟨rfl,hp,by show 25 < 38;decide⟩) (by
    have:=hI.put (q':=s.buf t++[(0,r1)]) (x:=⟨p,25,r0,r1,r2,r3,r4,r5,r6,r7,0⟩) ht (show At ((t+1:Nat):Int) (ownA A t) (othA A t) (s.mem.getD (ownA A t) 0) (s.mem.getD 19 0) (s.mem.getD 0 0) (gf t) _ _ _ _ _ _ _ _ from by rw [hq,hgt,hrv,←hme,←hown,←hoth];apply At.a25H12<;>first | assumption | rfl | (simp_all;done))
    exact⟨_,this⟩) (by rw [hx];rfl) (by rw [hx]) (.inr ⟨rfl,by rw [hx];rfl,rfl⟩)
   rw [show Loc.th (X A R).Lb _=_ from th_of rfl] at key
   exact⟨_,_,_,hst,key⟩
  ·rw [if_neg hro] at hst
   exact⟨_,f,i,hst,flush h ht hA⟩
 case a25H02 g0 g1=>
  have hi:=ins (i:=⟨27,7,0,0,2⟩) rfl
  rw [movI_plain (i:=⟨27,7,0,0,2⟩) rfl] at hi
  have hmk:=st_mark hi
  have key:=h.leaves ht ((p*38+25:Nat):Int) r7 (⟨p,26,r0,r1,r2,r3,r4,r5,r6,r7,0⟩:Loc) (.inl ⟨rfl,hp,by show 26 < 38;decide⟩) (I_loc (mem:=s.mem) (q:=s.buf) hI ht (by rw [hq,hgt,←hme,←hown,←hoth];apply At.a26H02<;>first | assumption | rfl | (simp_all;done))) (by rw [hx];rfl) rfl (by rw [hx]) (by rw [hx];rfl)
  rw [show Loc.th (X A R).Lb _=_ from th_of rfl] at key
  exact⟨_,_,_,hmk,key⟩
 case a25H12 g0 g1 g2=>
  have hi:=ins (i:=⟨27,7,0,0,2⟩) rfl
  rw [movI_plain (i:=⟨27,7,0,0,2⟩) rfl] at hi
  have hmk:=st_mark hi
  have key:=h.leaves ht ((p*38+25:Nat):Int) r7 (⟨p,26,r0,r1,r2,r3,r4,r5,r6,r7,0⟩:Loc) (.inl ⟨rfl,hp,by show 26 < 38;decide⟩) (I_loc (mem:=s.mem) (q:=s.buf) hI ht (by rw [hq,hgt,←hme,←hown,←hoth];apply At.a26H12<;>first | assumption | rfl | (simp_all;done))) (by rw [hx];rfl) rfl (by rw [hx]) (by rw [hx];rfl)
  rw [show Loc.th (X A R).Lb _=_ from th_of rfl] at key
  exact⟨_,_,_,hmk,key⟩
 case a25H22 g0 g1 g2=>
  have hi:=ins (i:=⟨27,7,0,0,2⟩) rfl
  rw [movI_plain (i:=⟨27,7,0,0,2⟩) rfl] at hi
  have hmk:=st_mark hi
  have key:=h.leaves ht ((p*38+25:Nat):Int) r7 (⟨p,26,r0,r1,r2,r3,r4,r5,r6,r7,0⟩:Loc) (.inl ⟨rfl,hp,by show 26 < 38;decide⟩) (I_loc (mem:=s.mem) (q:=s.buf) hI ht (by rw [hq,hgt,←hme,←hown,←hoth];apply At.a26H22<;>first | assumption | rfl | (simp_all;done))) (by rw [hx];rfl) rfl (by rw [hx]) (by rw [hx];rfl)
  rw [show Loc.th (X A R).Lb _=_ from th_of rfl] at key
  exact⟨_,_,_,hmk,key⟩
 case a26H02 g0 g1=>
  have hi:=ins (i:=⟨16,4,8,0,19⟩) rfl
  rw [movI_plain (i:=⟨16,4,8,0,19⟩) rfl] at hi
  have hst:=st_load hi (ad:=19) (addr_abs _ _ _ _ _) (by rw [hnm];omega)
  have hl:s.load t 19=me:=by rw [load_q hq];(first | rfl | (rcases hoo with⟨e,_⟩ | ⟨e,_⟩<;>rw [e]<;>rfl))
  rw [hl] at hst
  have hg:=h.noted (t:=t) ⟨1,0,((p*38+26:Nat):Int),19,me,0,0,false⟩ (show (1:Int)≠7 by decide) (show (1:Int)≠13 by decide)
  have key:=hg.loc ht (⟨p,27,r0,r1,r2,r3,me,r5,r6,r7,0⟩:Loc) (.inl ⟨rfl,hp,by show 27 < 38;decide⟩) (I_loc (mem:=s.mem) (q:=s.buf) hI ht (by rw [hq,hgt,←hme,←hown,←hoth];exact (At.a27H02 (by first | assumption | rfl | omega | (intro e;dsimp only at e;omega) | exact Int.le_refl _) (by first | assumption | rfl | omega | (intro e;dsimp only at e;omega) | exact Int.le_refl _) (by first | assumption | rfl | omega | (intro e;dsimp only at e;omega) | exact Int.le_refl _)))) (by rw [hx];rfl) (by rw [hx]) (by rw [hx];rfl)
  rw [show Loc.th (X A R).Lb _=_ from th_of rfl] at key
  exact⟨_,_,_,hst,key⟩
 case a26H12 g0 g1 g2=>
  have hi:=ins (i:=⟨16,4,8,0,19⟩) rfl
  rw [movI_plain (i:=⟨16,4,8,0,19⟩) rfl] at hi
  have hst:=st_load hi (ad:=19) (addr_abs _ _ _ _ _) (by rw [hnm];omega)
  have hl:s.load t 19=(s.mem.getD 19 0):=by rw [load_q hq];(first | rfl | (rcases hoo with⟨e,_⟩ | ⟨e,_⟩<;>rw [e]<;>rfl))
  rw [hl] at hst
  have hg:=h.noted (t:=t) ⟨1,0,((p*38+26:Nat):Int),19,(s.mem.getD 19 0),0,0,false⟩ (show (1:Int)≠7 by decide) (show (1:Int)≠13 by decide)
  have key:=hg.loc ht (⟨p,27,r0,r1,r2,r3,(s.mem.getD 19 0),r5,r6,r7,0⟩:Loc) (.inl ⟨rfl,hp,by show 27 < 38;decide⟩) (I_loc (mem:=s.mem) (q:=s.buf) hI ht (by rw [hq,hgt,←hme,←hown,←hoth];exact (At.a27H12 (by first | assumption | rfl | omega | (intro e;dsimp only at e;omega) | exact Int.le_refl _) (by first | assumption | rfl | omega | (intro e;dsimp only at e;omega) | exact Int.le_refl _) (by first | assumption | rfl | omega | (intro e;dsimp only at e;omega) | exact Int.le_refl _) (by first | assumption | rfl | omega | (intro e;dsimp only at e;omega) | exact Int.le_refl _)))) (by rw [hx];rfl) (by rw [hx]) (by rw [hx];rfl)
  rw [show Loc.th (X A R).Lb _=_ from th_of rfl] at key
  exact⟨_,_,_,hst,key⟩
 case a26H22 g0 g1 g2=>
  have hi:=ins (i:=⟨16,4,8,0,19⟩) rfl
  rw [movI_plain (i:=⟨16,4,8,0,19⟩) rfl] at hi
  have hst:=st_load hi (ad:=19) (addr_abs _ _ _ _ _) (by rw [hnm];omega)
  have hl:s.load t 19=(s.mem.getD 19 0):=by rw [load_q hq];(first | rfl | (rcases hoo with⟨e,_⟩ | ⟨e,_⟩<;>rw [e]<;>rfl))
  rw [hl] at hst
  have hg:=h.noted (t:=t) ⟨1,0,((p*38+26:Nat):Int),19,(s.mem.getD 19 0),0,0,false⟩ (show (1:Int)≠7 by decide) (show (1:Int)≠13 by decide)
  have key:=hg.loc ht (⟨p,27,r0,r1,r2,r3,(s.mem.getD 19 0),r5,r6,r7,0⟩:Loc) (.inl ⟨rfl,hp,by show 27 < 38;decide⟩) (I_loc (mem:=s.mem) (q:=s.buf) hI ht (by rw [hq,hgt,←hme,←hown,←hoth];exact (At.a27H22 (by first | assumption | rfl | omega | (intro e;dsimp only at e;omega) | exact Int.le_refl _) (by first | assumption | rfl | omega | (intro e;dsimp only at e;omega) | exact Int.le_refl _) (by first | assumption | rfl | omega | (intro e;dsimp only at e;omega) | exact Int.le_refl _) (by first | assumption | rfl | omega | (intro e;dsimp only at e;omega) | exact Int.le_refl _)))) (by rw [hx];rfl) (by rw [hx]) (by rw [hx];rfl)
  rw [show Loc.th (X A R).Lb _=_ from th_of rfl] at key
  exact⟨_,_,_,hst,key⟩
 case a27H02 g0 g1 g2=>
  have hi:=ins (i:=⟨1,5,0,0,me⟩) rfl
  rw [movI_plain (i:=⟨1,5,0,0,me⟩) rfl] at hi
  have hst:=st_set hi
  have key:=h.loc ht (⟨p,28,r0,r1,r2,r3,r4,(me),r6,r7,0⟩:Loc) (.inl ⟨rfl,hp,by show 28 < 38;decide⟩) (I_loc (mem:=s.mem) (q:=s.buf) hI ht (by rw [hq,hgt,←hme,←hown,←hoth];apply At.a28H02<;>first | assumption | rfl | (simp_all;done))) (by rw [hx];rfl) (by rw [hx]) (by rw [hx];rfl)
  rw [show Loc.th (X A R).Lb _=_ from th_of rfl] at key
  exact⟨_,_,_,hst,key⟩
 case a27H12 g0 g1 g2 g3=>
  have hi:=ins (i:=⟨1,5,0,0,me⟩) rfl
  rw [movI_plain (i:=⟨1,5,0,0,me⟩) rfl] at hi
  have hst:=st_set hi
  have key:=h.loc ht (⟨p,28,r0,r1,r2,r3,r4,(me),r6,r7,0⟩:Loc) (.inl ⟨rfl,hp,by show 28 < 38;decide⟩) (I_loc (mem:=s.mem) (q:=s.buf) hI ht (by rw [hq,hgt,←hme,←hown,←hoth];apply At.a28H12<;>first | assumption | rfl | (simp_all;done))) (by rw [hx];rfl) (by rw [hx]) (by rw [hx];rfl)
  rw [show Loc.th (X A R).Lb _=_ from th_of rfl] at key
  exact⟨_,_,_,hst,key⟩
 case a27H22 g0 g1 g2 g3=>
  have hi:=ins (i:=⟨1,5,0,0,me⟩) rfl
  rw [movI_plain (i:=⟨1,5,0,0,me⟩) rfl] at hi
  have hst:=st_set hi
  have key:=h.loc ht (⟨p,28,r0,r1,r2,r3,r4,(me),r6,r7,0⟩:Loc) (.inl ⟨rfl,hp,by show 28 < 38;decide⟩) (I_loc (mem:=s.mem) (q:=s.buf) hI ht (by rw [hq,hgt,←hme,←hown,←hoth];apply At.a28H22<;>first | assumption | rfl | (simp_all;done))) (by rw [hx];rfl) (by rw [hx]) (by rw [hx];rfl)
  rw [show Loc.th (X A R).Lb _=_ from th_of rfl] at key
  exact⟨_,_,_,hst,key⟩
 case a28H02 g0 g1 g2 g3=>
  have hi:=ins (i:=⟨12,6,4,5,0⟩) rfl
  rw [movI_plain (i:=⟨12,6,4,5,0⟩) rfl] at hi
  have hst:=st_same hi
  have hv:(if r4=r5 then (1:Int) else 0)=1:=by simp_all
  have key:=h.loc ht (⟨p,29,r0,r1,r2,r3,r4,r5,(if r4=r5 then (1:Int) else 0),r7,0⟩:Loc) (.inl ⟨rfl,hp,by show 29 < 38;decide⟩) (I_loc (mem:=s.mem) (q:=s.buf) hI ht (by rw [hq,hgt,←hme,←hown,←hoth];exact (At.a29H02 (by first | assumption | exact hv | (rw [hv];decide) | (show (if r4=r5 then (1:Int) else 0)≠0;rw [hv];decide)) (by first | assumption | exact hv | (rw [hv];decide) | (show (if r4=r5 then (1:Int) else 0)≠0;rw [hv];decide)) (by first | assumption | exact hv | (rw [hv];decide) | (show (if r4=r5 then (1:Int) else 0)≠0;rw [hv];decide))))) (by rw [hx];rfl) (by rw [hx]) (by rw [hx];rfl)
  rw [show Loc.th (X A R).Lb _=_ from th_of rfl] at key
  exact⟨_,_,_,hst,key⟩
 case a28H12 g0 g1 g2 g3 g4=>
  have hi:=ins (i:=⟨12,6,4,5,0⟩) rfl
  rw [movI_plain (i:=⟨12,6,4,5,0⟩) rfl] at hi
  have hst:=st_same hi
  have hv:(if r4=r5 then (1:Int) else 0)=1:=by simp_all
  have key:=h.loc ht (⟨p,29,r0,r1,r2,r3,r4,r5,(if r4=r5 then (1:Int) else 0),r7,0⟩:Loc) (.inl ⟨rfl,hp,by show 29 < 38;decide⟩) (I_loc (mem:=s.mem) (q:=s.buf) hI ht (by rw [hq,hgt,←hme,←hown,←hoth];exact (At.a29H12 (by first | assumption | exact hv | (rw [hv];decide) | (show (if r4=r5 then (1:Int) else 0)≠0;rw [hv];decide)) (by first | assumption | exact hv | (rw [hv];decide) | (show (if r4=r5 then (1:Int) else 0)≠0;rw [hv];decide)) (by first | assumption | exact hv | (rw [hv];decide) | (show (if r4=r5 then (1:Int) else 0)≠0;rw [hv];decide)) (by first | assumption | exact hv | (rw [hv];decide) | (show (if r4=r5 then (1:Int) else 0)≠0;rw [hv];decide))))) (by rw [hx];rfl) (by rw [hx]) (by rw [hx];rfl)
  rw [show Loc.th (X A R).Lb _=_ from th_of rfl] at key
  exact⟨_,_,_,hst,key⟩
 case a28H22 g0 g1 g2 g3 g4=>
  have hi:=ins (i:=⟨12,6,4,5,0⟩) rfl
  rw [movI_plain (i:=⟨12,6,4,5,0⟩) rfl] at hi
  have hst:=st_same hi
  have hv:(if r4=r5 then (1:Int) else 0)=1:=by simp_all
  have key:=h.loc ht (⟨p,29,r0,r1,r2,r3,r4,r5,(if r4=r5 then (1:Int) else 0),r7,0⟩:Loc) (.inl ⟨rfl,hp,by show 29 < 38;decide⟩) (I_loc (mem:=s.mem) (q:=s.buf) hI ht (by rw [hq,hgt,←hme,←hown,←hoth];exact (At.a29H22 (by first | assumption | exact hv | (rw [hv];decide) | (show (if r4=r5 then (1:Int) else 0)≠0;rw [hv];decide)) (by first | assumption | exact hv | (rw [hv];decide) | (show (if r4=r5 then (1:Int) else 0)≠0;rw [hv];decide)) (by first | assumption | exact hv | (rw [hv];decide) | (show (if r4=r5 then (1:Int) else 0)≠0;rw [hv];decide)) (by first | assumption | exact hv | (rw [hv];decide) | (show (if r4=r5 then (1:Int) else 0)≠0;rw [hv];decide))))) (by rw [hx];rfl) (by rw [hx]) (by rw [hx];rfl)
  rw [show Loc.th (X A R).Lb _=_ from th_of rfl] at key
  exact⟨_,_,_,hst,key⟩
 case a29H02 g0 g1 g2=>
  have hi:=ins (i:=⟨15,6,0,0,32⟩) rfl
  rw [movI_jump (i:=⟨15,6,0,0,32⟩) rfl] at hi
  have hst:=st_some hi
  by_cases hz:r6≠0
  ·rw [if_pos (by exact hz)] at hst
   have key:=h.loc ht (⟨p,32,r0,r1,r2,r3,r4,r5,r6,r7,0⟩:Loc) (.inl ⟨rfl,hp,by show 32 < 38;decide⟩) (I_loc (mem:=s.mem) (q:=s.buf) hI ht (by rw [hq,hgt,←hme,←hown,←hoth];apply At.a32H02<;>first | assumption | (simp_all;done))) (by rw [hx];rfl) (by rw [hx]) (by rw [hx];rfl)
   rw [show Loc.th (X A R).Lb _=_ from th_jmp (by omega) (by decide)] at key
   exact⟨_,_,_,hst,key⟩
  ·rw [if_neg (by exact hz)] at hst
   exfalso;simp_all
 case a29H12 g0 g1 g2 g3=>
  have hi:=ins (i:=⟨15,6,0,0,32⟩) rfl
  rw [movI_jump (i:=⟨15,6,0,0,32⟩) rfl] at hi
  have hst:=st_some hi
  by_cases hz:r6≠0
  ·rw [if_pos (by exact hz)] at hst
   have key:=h.loc ht (⟨p,32,r0,r1,r2,r3,r4,r5,r6,r7,0⟩:Loc) (.inl ⟨rfl,hp,by show 32 < 38;decide⟩) (I_loc (mem:=s.mem) (q:=s.buf) hI ht (by rw [hq,hgt,←hme,←hown,←hoth];apply At.a32H12<;>first | assumption | (simp_all;done))) (by rw [hx];rfl) (by rw [hx]) (by rw [hx];rfl)
   rw [show Loc.th (X A R).Lb _=_ from th_jmp (by omega) (by decide)] at key
   exact⟨_,_,_,hst,key⟩
  ·rw [if_neg (by exact hz)] at hst
   exfalso;simp_all
 case a29H22 g0 g1 g2 g3=>
  have hi:=ins (i:=⟨15,6,0,0,32⟩) rfl
  rw [movI_jump (i:=⟨15,6,0,0,32⟩) rfl] at hi
  have hst:=st_some hi
  by_cases hz:r6≠0
  ·rw [if_pos (by exact hz)] at hst
   have key:=h.loc ht (⟨p,32,r0,r1,r2,r3,r4,r5,r6,r7,0⟩:Loc) (.inl ⟨rfl,hp,by show 32 < 38;decide⟩) (I_loc (mem:=s.mem) (q:=s.buf) hI ht (by rw [hq,hgt,←hme,←hown,←hoth];apply At.a32H22<;>first | assumption | (simp_all;done))) (by rw [hx];rfl) (by rw [hx]) (by rw [hx];rfl)
   rw [show Loc.th (X A R).Lb _=_ from th_jmp (by omega) (by decide)] at key
   exact⟨_,_,_,hst,key⟩
  ·rw [if_neg (by exact hz)] at hst
   exfalso;simp_all
 case a32H02 g0 g1=>
  have hi:=ins (i:=⟨1,4,0,0,0⟩) rfl
  rw [movI_plain (i:=⟨1,4,0,0,0⟩) rfl] at hi
  have hst:=st_set hi
  have key:=h.loc ht (⟨p,33,r0,r1,r2,r3,(0),r5,r6,r7,0⟩:Loc) (.inl ⟨rfl,hp,by show 33 < 38;decide⟩) (I_loc (mem:=s.mem) (q:=s.buf) hI ht (by rw [hq,hgt,←hme,←hown,←hoth];apply At.a33H02<;>first | assumption | rfl | (simp_all;done))) (by rw [hx];rfl) (by rw [hx]) (by rw [hx];rfl)
  rw [show Loc.th (X A R).Lb _=_ from th_of rfl] at key
  exact⟨_,_,_,hst,key⟩
 case a32H12 g0 g1 g2=>
  have hi:=ins (i:=⟨1,4,0,0,0⟩) rfl
  rw [movI_plain (i:=⟨1,4,0,0,0⟩) rfl] at hi
  have hst:=st_set hi
  have key:=h.loc ht (⟨p,33,r0,r1,r2,r3,(0),r5,r6,r7,0⟩:Loc) (.inl ⟨rfl,hp,by show 33 < 38;decide⟩) (I_loc (mem:=s.mem) (q:=s.buf) hI ht (by rw [hq,hgt,←hme,←hown,←hoth];apply At.a33H12<;>first | assumption | rfl | (simp_all;done))) (by rw [hx];rfl) (by rw [hx]) (by rw [hx];rfl)
  rw [show Loc.th (X A R).Lb _=_ from th_of rfl] at key
  exact⟨_,_,_,hst,key⟩
 case a32H22 g0 g1 g2=>
  have hi:=ins (i:=⟨1,4,0,0,0⟩) rfl
  rw [movI_plain (i:=⟨1,4,0,0,0⟩) rfl] at hi
  have hst:=st_set hi
  have key:=h.loc ht (⟨p,33,r0,r1,r2,r3,(0),r5,r6,r7,0⟩:Loc) (.inl ⟨rfl,hp,by show 33 < 38;decide⟩) (I_loc (mem:=s.mem) (q:=s.buf) hI ht (by rw [hq,hgt,←hme,←hown,←hoth];apply At.a33H22<;>first | assumption | rfl | (simp_all;done))) (by rw [hx];rfl) (by rw [hx]) (by rw [hx];rfl)
  rw [show Loc.th (X A R).Lb _=_ from th_of rfl] at key
  exact⟨_,_,_,hst,key⟩
 case a33H02 g0 g1 g2=>
  have hi:=ins (i:=⟨17,4,8,0,19⟩) rfl
  rw [movI_plain (i:=⟨17,4,8,0,19⟩) rfl] at hi
  have hst:=st_store hi (ad:=19) (addr_abs _ _ _ _ _) (by rw [hnm];omega)
  by_cases hro:s.roomy t=true
  ·rw [if_pos hro] at hst
   have hrv:r4=0:=by assumption
   have key:=h.stored ht ((p*38+33:Nat):Int) 19 r4 (⟨p,34,r0,r1,r2,r3,r4,r5,r6,r7,0⟩:Loc) (.inl ⟨rfl,hp,by show 34 < 38;decide⟩) (by
    have:=hI.put (q':=s.buf t++[(19,r4)]) (x:=⟨p,34,r0,r1,r2,r3,r4,r5,r6,r7,0⟩) ht (show At ((t+1:Nat):Int) (ownA A t) (othA A t) (s.mem.getD (ownA A t) 0) (s.mem.getD 19 0) (s.mem.getD 0 0) (gf t) _ _ _ _ _ _ _ _ from by rw [hq,hgt,hrv,←hme,←hown,←hoth];apply At.a34H03<;>first | assumption | rfl | (simp_all;done))
    exact⟨_,this⟩) (by rw [hx];rfl) (by rw [hx]) (.inl ⟨by omega,by rw [hx];rfl⟩)
   rw [show Loc.th (X A R).Lb _=_ from th_of rfl] at key
   exact⟨_,_,_,hst,key⟩
  ·rw [if_neg hro] at hst
   exact⟨_,f,i,hst,flush h ht hA⟩
 case a33H12 g0 g1 g2 g3=>
  have hi:=ins (i:=⟨17,4,8,0,19⟩) rfl
  rw [movI_plain (i:=⟨17,4,8,0,19⟩) rfl] at hi
  have hst:=st_store hi (ad:=19) (addr_abs _ _ _ _ _) (by rw [hnm];omega)
  by_cases hro:s.roomy t=true
  ·rw [if_pos hro] at hst
   have hrv:r4=0:=by assumption
   have key:=h.stored ht ((p*38+33:Nat):Int) 19 r4 (⟨p,34,r0,r1,r2,r3,r4,r5,r6,r7,0⟩:Loc) (.inl ⟨rfl,hp,by show 34 < 38;decide⟩) (by
    have:=hI.put (q':=s.buf t++[(19,r4)]) (x:=⟨p,34,r0,r1,r2,r3,r4,r5,r6,r7,0⟩) ht (show At ((t+1:Nat):Int) (ownA A t) (othA A t) (s.mem.getD (ownA A t) 0) (s.mem.getD 19 0) (s.mem.getD 0 0) (gf t) _ _ _ _ _ _ _ _ from by rw [hq,hgt,hrv,←hme,←hown,←hoth];apply At.a34H13<;>first | assumption | rfl | (simp_all;done))
    exact⟨_,this⟩) (by rw [hx];rfl) (by rw [hx]) (.inl ⟨by omega,by rw [hx];rfl⟩)
   rw [show Loc.th (X A R).Lb _=_ from th_of rfl] at key
   exact⟨_,_,_,hst,key⟩
  ·rw [if_neg hro] at hst
   exact⟨_,f,i,hst,flush h ht hA⟩
 case a33H22 g0 g1 g2 g3=>
  have hi:=ins (i:=⟨17,4,8,0,19⟩) rfl
  rw [movI_plain (i:=⟨17,4,8,0,19⟩) rfl] at hi
  have hst:=st_store hi (ad:=19) (addr_abs _ _ _ _ _) (by rw [hnm];omega)
  by_cases hro:s.roomy t=true
  ·rw [if_pos hro] at hst
   have hrv:r4=0:=by assumption
   have key:=h.stored ht ((p*38+33:Nat):Int) 19 r4 (⟨p,34,r0,r1,r2,r3,r4,r5,r6,r7,0⟩:Loc) (.inl ⟨rfl,hp,by show 34 < 38;decide⟩) (by
    have:=hI.put (q':=s.buf t++[(19,r4)]) (x:=⟨p,34,r0,r1,r2,r3,r4,r5,r6,r7,0⟩) ht (show At ((t+1:Nat):Int) (ownA A t) (othA A t) (s.mem.getD (ownA A t) 0) (s.mem.getD 19 0) (s.mem.getD 0 0) (gf t) _ _ _ _ _ _ _ _ from by rw [hq,hgt,hrv,←hme,←hown,←hoth];apply At.a34H23<;>first | assumption | rfl | (simp_all;done))
    exact⟨_,this⟩) (by rw [hx];rfl) (by rw [hx]) (.inl ⟨by omega,by rw [hx];rfl⟩)
   rw [show Loc.th (X A R).Lb _=_ from th_of rfl] at key
   exact⟨_,_,_,hst,key⟩
  ·rw [if_neg hro] at hst
   exact⟨_,f,i,hst,flush h ht hA⟩
 case a34H03 g0 g1=>
  have hi:=ins (i:=⟨1,4,0,0,0⟩) rfl
  rw [movI_plain (i:=⟨1,4,0,0,0⟩) rfl] at hi
  have hst:=st_set hi
  have key:=h.loc ht (⟨p,35,r0,r1,r2,r3,(0),r5,r6,r7,0⟩:Loc) (.inl ⟨rfl,hp,by show 35 < 38;decide⟩) (I_loc (mem:=s.mem) (q:=s.buf) hI ht (by rw [hq,hgt,←hme,←hown,←hoth];apply At.a35H03<;>first | assumption | rfl | (simp_all;done))) (by rw [hx];rfl) (by rw [hx]) (by rw [hx];rfl)
  rw [show Loc.th (X A R).Lb _=_ from th_of rfl] at key
  exact⟨_,_,_,hst,key⟩
 case a34H13 g0 g1 g2=>
  have hi:=ins (i:=⟨1,4,0,0,0⟩) rfl
  rw [movI_plain (i:=⟨1,4,0,0,0⟩) rfl] at hi
  have hst:=st_set hi
  have key:=h.loc ht (⟨p,35,r0,r1,r2,r3,(0),r5,r6,r7,0⟩:Loc) (.inl ⟨rfl,hp,by show 35 < 38;decide⟩) (I_loc (mem:=s.mem) (q:=s.buf) hI ht (by rw [hq,hgt,←hme,←hown,←hoth];apply At.a35H13<;>first | assumption | rfl | (simp_all;done))) (by rw [hx];rfl) (by rw [hx]) (by rw [hx];rfl)
  rw [show Loc.th (X A R).Lb _=_ from th_of rfl] at key
  exact⟨_,_,_,hst,key⟩
 case a34H23 g0 g1 g2=>
  have hi:=ins (i:=⟨1,4,0,0,0⟩) rfl
  rw [movI_plain (i:=⟨1,4,0,0,0⟩) rfl] at hi
  have hst:=st_set hi
  have key:=h.loc ht (⟨p,35,r0,r1,r2,r3,(0),r5,r6,r7,0⟩:Loc) (.inl ⟨rfl,hp,by show 35 < 38;decide⟩) (I_loc (mem:=s.mem) (q:=s.buf) hI ht (by rw [hq,hgt,←hme,←hown,←hoth];apply At.a35H23<;>first | assumption | rfl | (simp_all;done))) (by rw [hx];rfl) (by rw [hx]) (by rw [hx];rfl)
  rw [show Loc.th (X A R).Lb _=_ from th_of rfl] at key
  exact⟨_,_,_,hst,key⟩
 case a34H33 g0 g1 g2=>
  have hi:=ins (i:=⟨1,4,0,0,0⟩) rfl
  rw [movI_plain (i:=⟨1,4,0,0,0⟩) rfl] at hi
  have hst:=st_set hi
  have key:=h.loc ht (⟨p,35,r0,r1,r2,r3,(0),r5,r6,r7,0⟩:Loc) (.inl ⟨rfl,hp,by show 35 < 38;decide⟩) (I_loc (mem:=s.mem) (q:=s.buf) hI ht (by rw [hq,hgt,←hme,←hown,←hoth];apply At.a35H33<;>first | assumption | rfl | (simp_all;done))) (by rw [hx];rfl) (by rw [hx]) (by rw [hx];rfl)
  rw [show Loc.th (X A R).Lb _=_ from th_of rfl] at key
  exact⟨_,_,_,hst,key⟩
 case a35H03 g0 g1 g2=>
  have hi:=ins (i:=⟨17,4,8,0,(own:Int)⟩) rfl
  rw [movI_plain (i:=⟨17,4,8,0,(own:Int)⟩) rfl] at hi
  have hst:=st_store hi (ad:=own) (addr_abs _ _ _ _ _) (by rw [hnm];omega)
  by_cases hro:s.roomy t=true
  ·rw [if_pos hro] at hst
   have hrv:r4=0:=by assumption
   have key:=h.stored ht ((p*38+35:Nat):Int) own r4 (⟨p,36,r0,r1,r2,r3,r4,r5,r6,r7,0⟩:Loc) (.inl ⟨rfl,hp,by show 36 < 38;decide⟩) (by
    have:=hI.put (q':=s.buf t++[(own,r4)]) (x:=⟨p,36,r0,r1,r2,r3,r4,r5,r6,r7,0⟩) ht (show At ((t+1:Nat):Int) (ownA A t) (othA A t) (s.mem.getD (ownA A t) 0) (s.mem.getD 19 0) (s.mem.getD 0 0) (gf t) _ _ _ _ _ _ _ _ from by rw [hq,hgt,hrv,←hme,←hown,←hoth];apply At.a36H04<;>first | assumption | rfl | (simp_all;done))
    exact⟨_,this⟩) (by rw [hx];rfl) (by rw [hx]) (.inl ⟨by omega,by rw [hx];rfl⟩)
   rw [show Loc.th (X A R).Lb _=_ from th_of rfl] at key
   exact⟨_,_,_,hst,key⟩
  ·rw [if_neg hro] at hst
   exact⟨_,f,i,hst,flush h ht hA⟩
 case a35H13 g0 g1 g2 g3=>
  have hi:=ins (i:=⟨17,4,8,0,(own:Int)⟩) rfl
  rw [movI_plain (i:=⟨17,4,8,0,(own:Int)⟩) rfl] at hi
  have hst:=st_store hi (ad:=own) (addr_abs _ _ _ _ _) (by rw [hnm];omega)
  by_cases hro:s.roomy t=true
  ·rw [if_pos hro] at hst
   have hrv:r4=0:=by assumption
   have key:=h.stored ht ((p*38+35:Nat):Int) own r4 (⟨p,36,r0,r1,r2,r3,r4,r5,r6,r7,0⟩:Loc) (.inl ⟨rfl,hp,by show 36 < 38;decide⟩) (by
    have:=hI.put (q':=s.buf t++[(own,r4)]) (x:=⟨p,36,r0,r1,r2,r3,r4,r5,r6,r7,0⟩) ht (show At ((t+1:Nat):Int) (ownA A t) (othA A t) (s.mem.getD (ownA A t) 0) (s.mem.getD 19 0) (s.mem.getD 0 0) (gf t) _ _ _ _ _ _ _ _ from by rw [hq,hgt,hrv,←hme,←hown,←hoth];apply At.a36H14<;>first | assumption | rfl | (simp_all;done))
    exact⟨_,this⟩) (by rw [hx];rfl) (by rw [hx]) (.inl ⟨by omega,by rw [hx];rfl⟩)
   rw [show Loc.th (X A R).Lb _=_ from th_of rfl] at key
   exact⟨_,_,_,hst,key⟩
  ·rw [if_neg hro] at hst
   exact⟨_,f,i,hst,flush h ht hA⟩
 case a35H23 g0 g1 g2 g3=>
  have hi:=ins (i:=⟨17,4,8,0,(own:Int)⟩) rfl
  rw [movI_plain (i:=⟨17,4,8,0,(own:Int)⟩) rfl] at hi
  have hst:=st_store hi (ad:=own) (addr_abs _ _ _ _ _) (by rw [hnm];omega)
  by_cases hro:s.roomy t=true
  ·rw [if_pos hro] at hst
   have hrv:r4=0:=by assumption
   have key:=h.stored ht ((p*38+35:Nat):Int) own r4 (⟨p,36,r0,r1,r2,r3,r4,r5,r6,r7,0⟩:Loc) (.inl ⟨rfl,hp,by show 36 < 38;decide⟩) (by
    have:=hI.put (q':=s.buf t++[(own,r4)]) (x:=⟨p,36,r0,r1,r2,r3,r4,r5,r6,r7,0⟩) ht (show At ((t+1:Nat):Int) (ownA A t) (othA A t) (s.mem.getD (ownA A t) 0) (s.mem.getD 19 0) (s.mem.getD 0 0) (gf t) _ _ _ _ _ _ _ _ from by rw [hq,hgt,hrv,←hme,←hown,←hoth];apply At.a36H24<;>first | assumption | rfl | (simp_all;done))
    exact⟨_,this⟩) (by rw [hx];rfl) (by rw [hx]) (.inl ⟨by omega,by rw [hx];rfl⟩)
   rw [show Loc.th (X A R).Lb _=_ from th_of rfl] at key
   exact⟨_,_,_,hst,key⟩
  ·rw [if_neg hro] at hst
   exact⟨_,f,i,hst,flush h ht hA⟩
 case a35H33 g0 g1 g2 g3=>
  have hi:=ins (i:=⟨17,4,8,0,(own:Int)⟩) rfl
  rw [movI_plain (i:=⟨17,4,8,0,(own:Int)⟩) rfl] at hi
  have hst:=st_store hi (ad:=own) (addr_abs _ _ _ _ _) (by rw [hnm];omega)
  by_cases hro:s.roomy t=true
  ·rw [if_pos hro] at hst
   have hrv:r4=0:=by assumption
   have key:=h.stored ht ((p*38+35:Nat):Int) own r4 (⟨p,36,r0,r1,r2,r3,r4,r5,r6,r7,0⟩:Loc) (.inl ⟨rfl,hp,by show 36 < 38;decide⟩) (by
    have:=hI.put (q':=s.buf t++[(own,r4)]) (x:=⟨p,36,r0,r1,r2,r3,r4,r5,r6,r7,0⟩) ht (show At ((t+1:Nat):Int) (ownA A t) (othA A t) (s.mem.getD (ownA A t) 0) (s.mem.getD 19 0) (s.mem.getD 0 0) (gf t) _ _ _ _ _ _ _ _ from by rw [hq,hgt,hrv,←hme,←hown,←hoth];apply At.a36H34<;>first | assumption | rfl | (simp_all;done))
    exact⟨_,this⟩) (by rw [hx];rfl) (by rw [hx]) (.inl ⟨by omega,by rw [hx];rfl⟩)
   rw [show Loc.th (X A R).Lb _=_ from th_of rfl] at key
   exact⟨_,_,_,hst,key⟩
  ·rw [if_neg hro] at hst
   exact⟨_,f,i,hst,flush h ht hA⟩
 case a36H04 g0 g1=>
  have hi:=ins (i:=⟨1,7,0,0,0⟩) rfl
  rw [movI_plain (i:=⟨1,7,0,0,0⟩) rfl] at hi
  have hst:=st_set hi
  have key:=h.loc ht (⟨p,37,r0,r1,r2,r3,r4,r5,r6,(0),0⟩:Loc) (.inl ⟨rfl,hp,by show 37 < 38;decide⟩) (I_loc (mem:=s.mem) (q:=s.buf) hI ht (by rw [hq,hgt,←hme,←hown,←hoth];apply At.a37H04<;>first | assumption | rfl | (simp_all;done))) (by rw [hx];rfl) (by rw [hx]) (by rw [hx];rfl)
  rw [show Loc.th (X A R).Lb _=_ from th_of rfl] at key
  exact⟨_,_,_,hst,key⟩
 case a36H14 g0 g1 g2=>
  have hi:=ins (i:=⟨1,7,0,0,0⟩) rfl
  rw [movI_plain (i:=⟨1,7,0,0,0⟩) rfl] at hi
  have hst:=st_set hi
  have key:=h.loc ht (⟨p,37,r0,r1,r2,r3,r4,r5,r6,(0),0⟩:Loc) (.inl ⟨rfl,hp,by show 37 < 38;decide⟩) (I_loc (mem:=s.mem) (q:=s.buf) hI ht (by rw [hq,hgt,←hme,←hown,←hoth];apply At.a37H14<;>first | assumption | rfl | (simp_all;done))) (by rw [hx];rfl) (by rw [hx]) (by rw [hx];rfl)
  rw [show Loc.th (X A R).Lb _=_ from th_of rfl] at key
  exact⟨_,_,_,hst,key⟩
 case a36H24 g0 g1 g2=>
  have hi:=ins (i:=⟨1,7,0,0,0⟩) rfl
  rw [movI_plain (i:=⟨1,7,0,0,0⟩) rfl] at hi
  have hst:=st_set hi
  have key:=h.loc ht (⟨p,37,r0,r1,r2,r3,r4,r5,r6,(0),0⟩:Loc) (.inl ⟨rfl,hp,by show 37 < 38;decide⟩) (I_loc (mem:=s.mem) (q:=s.buf) hI ht (by rw [hq,hgt,←hme,←hown,←hoth];apply At.a37H24<;>first | assumption | rfl | (simp_all;done))) (by rw [hx];rfl) (by rw [hx]) (by rw [hx];rfl)
  rw [show Loc.th (X A R).Lb _=_ from th_of rfl] at key
  exact⟨_,_,_,hst,key⟩
 case a36H34 g0 g1 g2=>
  have hi:=ins (i:=⟨1,7,0,0,0⟩) rfl
  rw [movI_plain (i:=⟨1,7,0,0,0⟩) rfl] at hi
  have hst:=st_set hi
  have key:=h.loc ht (⟨p,37,r0,r1,r2,r3,r4,r5,r6,(0),0⟩:Loc) (.inl ⟨rfl,hp,by show 37 < 38;decide⟩) (I_loc (mem:=s.mem) (q:=s.buf) hI ht (by rw [hq,hgt,←hme,←hown,←hoth];apply At.a37H34<;>first | assumption | rfl | (simp_all;done))) (by rw [hx];rfl) (by rw [hx]) (by rw [hx];rfl)
  rw [show Loc.th (X A R).Lb _=_ from th_of rfl] at key
  exact⟨_,_,_,hst,key⟩
 case a36H44 g0 g1 g2=>
  have hi:=ins (i:=⟨1,7,0,0,0⟩) rfl
  rw [movI_plain (i:=⟨1,7,0,0,0⟩) rfl] at hi
  have hst:=st_set hi
  have key:=h.loc ht (⟨p,37,r0,r1,r2,r3,r4,r5,r6,(0),0⟩:Loc) (.inl ⟨rfl,hp,by show 37 < 38;decide⟩) (I_loc (mem:=s.mem) (q:=s.buf) hI ht (by rw [hq,hgt,←hme,←hown,←hoth];apply At.a37H44<;>first | assumption | rfl | (simp_all;done))) (by rw [hx];rfl) (by rw [hx]) (by rw [hx];rfl)
  rw [show Loc.th (X A R).Lb _=_ from th_of rfl] at key
  exact⟨_,_,_,hst,key⟩
 case a37H04 g0 g1 g2=>
  have hi:=ins (i:=⟨27,7,0,0,3⟩) rfl
  rw [movI_plain (i:=⟨27,7,0,0,3⟩) rfl] at hi
  have hmk:=st_mark hi
  have hg:=h.marked (t:=t) ⟨7,0,((p*38+37:Nat):Int),0,r7,0,3,false⟩ rfl (.inr ⟨rfl,by assumption⟩)
  have key:=hg.again ht (⟨p+1,0,r0,r1,r2,r3,r4,r5,r6,r7,0⟩:Loc) (by
   by_cases e:p+1 < R
   ·exact .inl ⟨rfl,e,by show 0 < 38;decide⟩
   ·exact .inr ⟨by show p+1=R;omega,rfl,.inl rfl⟩) (I_loc (mem:=s.mem) (q:=s.buf) hI ht (by rw [hq,hgt,←hme,←hown,←hoth];apply At.a0H04<;>first | assumption | rfl | (simp_all;done))) (by rw [hx];rfl) (by rw [hx]) (by rw [hx];show 24 < 37;decide) rfl
  rw [show Loc.th (X A R).Lb _=_ from th_last] at key
  exact⟨_,_,_,hmk,key⟩
 case a37H14 g0 g1 g2 g3=>
  have hi:=ins (i:=⟨27,7,0,0,3⟩) rfl
  rw [movI_plain (i:=⟨27,7,0,0,3⟩) rfl] at hi
  have hmk:=st_mark hi
  have hg:=h.marked (t:=t) ⟨7,0,((p*38+37:Nat):Int),0,r7,0,3,false⟩ rfl (.inr ⟨rfl,by assumption⟩)
  have key:=hg.again ht (⟨p+1,0,r0,r1,r2,r3,r4,r5,r6,r7,0⟩:Loc) (by
   by_cases e:p+1 < R
   ·exact .inl ⟨rfl,e,by show 0 < 38;decide⟩
   ·exact .inr ⟨by show p+1=R;omega,rfl,.inl rfl⟩) (I_loc (mem:=s.mem) (q:=s.buf) hI ht (by rw [hq,hgt,←hme,←hown,←hoth];apply At.a0H14<;>first | assumption | rfl | (simp_all;done))) (by rw [hx];rfl) (by rw [hx]) (by rw [hx];show 24 < 37;decide) rfl
  rw [show Loc.th (X A R).Lb _=_ from th_last] at key
  exact⟨_,_,_,hmk,key⟩
 case a37H24 g0 g1 g2 g3=>
  have hi:=ins (i:=⟨27,7,0,0,3⟩) rfl
  rw [movI_plain (i:=⟨27,7,0,0,3⟩) rfl] at hi
  have hmk:=st_mark hi
  have hg:=h.marked (t:=t) ⟨7,0,((p*38+37:Nat):Int),0,r7,0,3,false⟩ rfl (.inr ⟨rfl,by assumption⟩)
  have key:=hg.again ht (⟨p+1,0,r0,r1,r2,r3,r4,r5,r6,r7,0⟩:Loc) (by
   by_cases e:p+1 < R
   ·exact .inl ⟨rfl,e,by show 0 < 38;decide⟩
   ·exact .inr ⟨by show p+1=R;omega,rfl,.inl rfl⟩) (I_loc (mem:=s.mem) (q:=s.buf) hI ht (by rw [hq,hgt,←hme,←hown,←hoth];apply At.a0H24<;>first | assumption | rfl | (simp_all;done))) (by rw [hx];rfl) (by rw [hx]) (by rw [hx];show 24 < 37;decide) rfl
  rw [show Loc.th (X A R).Lb _=_ from th_last] at key
  exact⟨_,_,_,hmk,key⟩
 case a37H34 g0 g1 g2 g3=>
  have hi:=ins (i:=⟨27,7,0,0,3⟩) rfl
  rw [movI_plain (i:=⟨27,7,0,0,3⟩) rfl] at hi
  have hmk:=st_mark hi
  have hg:=h.marked (t:=t) ⟨7,0,((p*38+37:Nat):Int),0,r7,0,3,false⟩ rfl (.inr ⟨rfl,by assumption⟩)
  have key:=hg.again ht (⟨p+1,0,r0,r1,r2,r3,r4,r5,r6,r7,0⟩:Loc) (by
   by_cases e:p+1 < R
   ·exact .inl ⟨rfl,e,by show 0 < 38;decide⟩
   ·exact .inr ⟨by show p+1=R;omega,rfl,.inl rfl⟩) (I_loc (mem:=s.mem) (q:=s.buf) hI ht (by rw [hq,hgt,←hme,←hown,←hoth];apply At.a0H34<;>first | assumption | rfl | (simp_all;done))) (by rw [hx];rfl) (by rw [hx]) (by rw [hx];show 24 < 37;decide) rfl
  rw [show Loc.th (X A R).Lb _=_ from th_last] at key
  exact⟨_,_,_,hmk,key⟩
 case a37H44 g0 g1 g2 g3=>
  have hi:=ins (i:=⟨27,7,0,0,3⟩) rfl
  rw [movI_plain (i:=⟨27,7,0,0,3⟩) rfl] at hi
  have hmk:=st_mark hi
  have hg:=h.marked (t:=t) ⟨7,0,((p*38+37:Nat):Int),0,r7,0,3,false⟩ rfl (.inr ⟨rfl,by assumption⟩)
  have key:=hg.again ht (⟨p+1,0,r0,r1,r2,r3,r4,r5,r6,r7,0⟩:Loc) (by
   by_cases e:p+1 < R
   ·exact .inl ⟨rfl,e,by show 0 < 38;decide⟩
   ·exact .inr ⟨by show p+1=R;omega,rfl,.inl rfl⟩) (I_loc (mem:=s.mem) (q:=s.buf) hI ht (by rw [hq,hgt,←hme,←hown,←hoth];apply At.a0H44<;>first | assumption | rfl | (simp_all;done))) (by rw [hx];rfl) (by rw [hx]) (by rw [hx];show 24 < 37;decide) rfl
  rw [show Loc.th (X A R).Lb _=_ from th_last] at key
  exact⟨_,_,_,hmk,key⟩
theorem run(hA:A < 2)(hR:R≤100)(hc:∀ t,t < 2→codes[t]? = some (codeT A R t))(l:List (Nat×Nat))(h:(X A R).Inv s f i):∃ s',Ts.run codes s l=some s'∧∃ f' i',(X A R).Inv s' f' i':=
 Lk.run codes (fun t ht=>⟨_,hc t ht,code_len A R t⟩)
  (fun s f i t h ht=>by
   obtain⟨g,hI⟩:=h.I
   exact I_loc (x:={ f t with st:=2 }) hI ht (hI.hat t ht))
  (fun s f i t h ht h0 hp hj=>step h ht hA hR (hc t ht) h0 hp hj) (fun s f i t h ht=>flush h ht hA) l s f i h
end
end Go.Proofs.YtckmkaeopnnbbaaGreatDoor.As.Pet
