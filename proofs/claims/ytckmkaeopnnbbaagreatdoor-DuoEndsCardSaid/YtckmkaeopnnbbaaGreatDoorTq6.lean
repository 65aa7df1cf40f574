/- Plain Lean: dekker's lock: one at a time. No program in sight. -/
import Derived.Test.YtckmkaeopnnbbaaGreatDoorTq7
import Derived.Test.YtckmkaeopnnbbaaGreatDoorLocks2
set_option linter.unusedVariables false
set_option linter.unusedSimpArgs false
namespace Go.Proofs.YtckmkaeopnnbbaaGreatDoor.As.Dek
open Wd

def baseF(me:Int):List Ins:=[⟨27,7,0,0,0⟩,⟨16,4,8,0,18⟩,⟨1,5,0,0,me⟩,⟨12,6,4,5,0⟩,⟨14,6,0,0,7⟩,⟨1,7,0,0,1⟩,⟨13,0,0,0,18⟩,⟨1,4,0,0,1⟩,⟨17,4,8,0,16⟩,⟨16,4,8,0,17⟩,⟨14,4,0,0,16⟩,⟨1,4,0,0,0⟩,⟨17,4,8,0,16⟩,⟨16,4,8,0,17⟩,⟨15,4,0,0,13⟩,⟨13,0,0,0,7⟩,⟨17,5,8,0,18⟩,⟨1,7,0,0,0⟩,⟨27,7,0,0,1⟩,⟨16,1,8,0,0⟩,⟨1,2,0,0,1⟩,⟨3,1,1,2,0⟩,⟨17,1,8,0,0⟩,⟨27,7,0,0,2⟩,⟨16,4,8,0,18⟩,⟨1,5,0,0,me⟩,⟨12,6,4,5,0⟩,⟨15,6,0,0,30⟩,⟨1,7,0,0,2⟩,⟨13,0,0,0,35⟩,⟨1,4,0,0,0⟩,⟨17,4,8,0,18⟩,⟨1,4,0,0,0⟩,⟨17,4,8,0,16⟩,⟨1,7,0,0,0⟩,⟨27,7,0,0,3⟩]
def baseS(me:Int):List Ins:=[⟨27,7,0,0,0⟩,⟨16,4,8,0,18⟩,⟨1,5,0,0,me⟩,⟨12,6,4,5,0⟩,⟨14,6,0,0,7⟩,⟨1,7,0,0,1⟩,⟨13,0,0,0,14⟩,⟨1,4,0,0,1⟩,⟨17,4,8,0,17⟩,⟨25,0,0,0,0⟩,⟨16,4,8,0,16⟩,⟨15,4,0,0,10⟩,⟨17,5,8,0,18⟩,⟨1,7,0,0,0⟩,⟨27,7,0,0,1⟩,⟨16,1,8,0,0⟩,⟨1,2,0,0,1⟩,⟨3,1,1,2,0⟩,⟨17,1,8,0,0⟩,⟨27,7,0,0,2⟩,⟨16,4,8,0,18⟩,⟨1,5,0,0,me⟩,⟨12,6,4,5,0⟩,⟨15,6,0,0,26⟩,⟨1,7,0,0,2⟩,⟨13,0,0,0,31⟩,⟨1,4,0,0,0⟩,⟨17,4,8,0,18⟩,⟨1,4,0,0,0⟩,⟨17,4,8,0,17⟩,⟨1,7,0,0,0⟩,⟨27,7,0,0,3⟩]
theorem baseF_eq(t:Nat):baseR (resL (linDekFast 16 t)) (resL (linDekOutA 16 t))=baseF ((t+1:Nat):Int):=by
 have e1:resL (linDekFast 16 t)=[⟨16,4,8,0,18⟩,⟨1,5,0,0,((t+1:Nat):Int)⟩,⟨12,6,4,5,0⟩,⟨14,6,0,0,6⟩,⟨1,7,0,0,1⟩,⟨13,0,0,0,17⟩,⟨1,4,0,0,1⟩,⟨17,4,8,0,16⟩,⟨16,4,8,0,17⟩,⟨14,4,0,0,15⟩,⟨1,4,0,0,0⟩,⟨17,4,8,0,16⟩,⟨16,4,8,0,17⟩,⟨15,4,0,0,12⟩,⟨13,0,0,0,6⟩,⟨17,5,8,0,18⟩,⟨1,7,0,0,0⟩]:=rfl
 have e2:resL (linDekOutA 16 t)=[⟨16,4,8,0,18⟩,⟨1,5,0,0,((t+1:Nat):Int)⟩,⟨12,6,4,5,0⟩,⟨15,6,0,0,6⟩,⟨1,7,0,0,2⟩,⟨13,0,0,0,11⟩,⟨1,4,0,0,0⟩,⟨17,4,8,0,18⟩,⟨1,4,0,0,0⟩,⟨17,4,8,0,16⟩,⟨1,7,0,0,0⟩]:=rfl
 rw [e1,e2,baseR_eq]
 simp [baseF,incR,movI,jumps,wr32]
theorem baseS_eq(t:Nat):baseR (resL (linDekSlow 16 t)) (resL (linDekOutB 16 t))=baseS ((t+1:Nat):Int):=by
 have e1:resL (linDekSlow 16 t)=[⟨16,4,8,0,18⟩,⟨1,5,0,0,((t+1:Nat):Int)⟩,⟨12,6,4,5,0⟩,⟨14,6,0,0,6⟩,⟨1,7,0,0,1⟩,⟨13,0,0,0,13⟩,⟨1,4,0,0,1⟩,⟨17,4,8,0,17⟩,⟨25,0,0,0,0⟩,⟨16,4,8,0,16⟩,⟨15,4,0,0,9⟩,⟨17,5,8,0,18⟩,⟨1,7,0,0,0⟩]:=rfl
 have e2:resL (linDekOutB 16 t)=[⟨16,4,8,0,18⟩,⟨1,5,0,0,((t+1:Nat):Int)⟩,⟨12,6,4,5,0⟩,⟨15,6,0,0,6⟩,⟨1,7,0,0,2⟩,⟨13,0,0,0,11⟩,⟨1,4,0,0,0⟩,⟨17,4,8,0,18⟩,⟨1,4,0,0,0⟩,⟨17,4,8,0,17⟩,⟨1,7,0,0,0⟩]:=rfl
 rw [e1,e2,baseR_eq]
 simp [baseS,incR,movI,jumps,wr32]
def codeF(R t:Nat):List Ins:=roundsR (resL (linDekFast 16 t)) (resL (linDekOutA 16 t)) R []
def codeS(R t:Nat):List Ins:=roundsR (resL (linDekSlow 16 t)) (resL (linDekOutB 16 t)) R []
theorem codeF_len(R t:Nat):(codeF R t).length=R*36:=by
 unfold codeF
 rw [roundsR_len,baseF_eq];simp [baseF]
theorem codeS_len(R t:Nat):(codeS R t).length=R*32:=by
 unfold codeS
 rw [roundsR_len,baseS_eq];simp [baseS]
theorem codeF_get(R t p j:Nat)(hp:p < R)(hj:j < 36):(codeF R t)[p*36+j]? = ((baseF ((t+1:Nat):Int))[j]?).map (movI (p*36)):=by
 have h:=roundsR_get (resL (linDekFast 16 t)) (resL (linDekOutA 16 t)) R [] p j hp (by rw [baseF_eq];exact hj)
 rw [baseF_eq] at h
 have e:([]:List Ins).length+p*(baseF ((t+1:Nat):Int)).length=p*36:=by rw [List.length_nil,Nat.zero_add];rfl
 rw [e] at h
 exact h
theorem codeS_get(R t p j:Nat)(hp:p < R)(hj:j < 32):(codeS R t)[p*32+j]? = ((baseS ((t+1:Nat):Int))[j]?).map (movI (p*32)):=by
 have h:=roundsR_get (resL (linDekSlow 16 t)) (resL (linDekOutB 16 t)) R [] p j hp (by rw [baseS_eq];exact hj)
 rw [baseS_eq] at h
 have e:([]:List Ins).length+p*(baseS ((t+1:Nat):Int)).length=p*32:=by rw [List.length_nil,Nat.zero_add];rfl
 rw [e] at h
 exact h
inductive AtF(me c:Int):Nat→Bool→Nat→Int→Int→Int→Int→Int→Int→Prop
 | f0 {r1 r2 r4 r5 r6 r7:Int}  : AtF me c 0 false 0 r1 r2 r4 r5 r6 r7
 | f1 {r1 r2 r4 r5 r6 r7:Int}  : AtF me c 0 false 1 r1 r2 r4 r5 r6 r7
 | f2 {r1 r2 r4 r5 r6 r7:Int} (h0:r4≠me):AtF me c 0 false 2 r1 r2 r4 r5 r6 r7
 | f3 {r1 r2 r4 r5 r6 r7:Int} (h0:r4≠me) (h1:r5=me):AtF me c 0 false 3 r1 r2 r4 r5 r6 r7
 | f4 {r1 r2 r4 r5 r6 r7:Int} (h0:r5=me) (h1:r6=0):AtF me c 0 false 4 r1 r2 r4 r5 r6 r7
 | f7 {r1 r2 r4 r5 r6 r7:Int} (h0:r5=me):AtF me c 0 false 7 r1 r2 r4 r5 r6 r7
 | f8 {r1 r2 r4 r5 r6 r7:Int} (h0:r5=me) (h1:r4=1):AtF me c 0 false 8 r1 r2 r4 r5 r6 r7
 | f9 {r1 r2 r4 r5 r6 r7:Int} (h0:r5=me):AtF me c 1 false 9 r1 r2 r4 r5 r6 r7
 | f10 {r1 r2 r4 r5 r6 r7:Int} (h0:r5=me) (h1:r4≠0):AtF me c 1 false 10 r1 r2 r4 r5 r6 r7
 | f10t {r1 r2 r4 r5 r6 r7:Int} (h0:r5=me) (h1:r4=0):AtF me c 1 true 10 r1 r2 r4 r5 r6 r7
 | f11 {r1 r2 r4 r5 r6 r7:Int} (h0:r5=me):AtF me c 1 false 11 r1 r2 r4 r5 r6 r7
 | f12 {r1 r2 r4 r5 r6 r7:Int} (h0:r5=me) (h1:r4=0):AtF me c 1 false 12 r1 r2 r4 r5 r6 r7
 | f13 {r1 r2 r4 r5 r6 r7:Int} (h0:r5=me):AtF me c 0 false 13 r1 r2 r4 r5 r6 r7
 | f14 {r1 r2 r4 r5 r6 r7:Int} (h0:r5=me):AtF me c 0 false 14 r1 r2 r4 r5 r6 r7
 | f15 {r1 r2 r4 r5 r6 r7:Int} (h0:r5=me):AtF me c 0 false 15 r1 r2 r4 r5 r6 r7
 | f16t {r1 r2 r4 r5 r6 r7:Int} (h0:r5=me):AtF me c 1 true 16 r1 r2 r4 r5 r6 r7
 | f17 {r1 r2 r4 r5 r6 r7:Int}  : AtF me c 2 false 17 r1 r2 r4 r5 r6 r7
 | f18 {r1 r2 r4 r5 r6 r7:Int} (h0:r7=0):AtF me c 2 false 18 r1 r2 r4 r5 r6 r7
 | f19 {r1 r2 r4 r5 r6 r7:Int}  : AtF me c 2 false 19 r1 r2 r4 r5 r6 r7
 | f20 {r1 r2 r4 r5 r6 r7:Int} (h0:r1=c):AtF me c 2 false 20 r1 r2 r4 r5 r6 r7
 | f21 {r1 r2 r4 r5 r6 r7:Int} (h0:r1=c) (h1:r2=1):AtF me c 2 false 21 r1 r2 r4 r5 r6 r7
 | f22 {r1 r2 r4 r5 r6 r7:Int} (h0:r1=wr32 (c+1)):AtF me c 2 false 22 r1 r2 r4 r5 r6 r7
 | f23 {r1 r2 r4 r5 r6 r7:Int}  : AtF me c 3 false 23 r1 r2 r4 r5 r6 r7
 | f24 {r1 r2 r4 r5 r6 r7:Int}  : AtF me c 3 false 24 r1 r2 r4 r5 r6 r7
 | f25 {r1 r2 r4 r5 r6 r7:Int} (h0:r4=me):AtF me c 3 false 25 r1 r2 r4 r5 r6 r7
 | f26 {r1 r2 r4 r5 r6 r7:Int} (h0:r4=me) (h1:r5=me):AtF me c 3 false 26 r1 r2 r4 r5 r6 r7
 | f27 {r1 r2 r4 r5 r6 r7:Int} (h0:r6=1):AtF me c 3 false 27 r1 r2 r4 r5 r6 r7
 | f30 {r1 r2 r4 r5 r6 r7:Int}  : AtF me c 3 false 30 r1 r2 r4 r5 r6 r7
 | f31 {r1 r2 r4 r5 r6 r7:Int} (h0:r4=0):AtF me c 3 false 31 r1 r2 r4 r5 r6 r7
 | f32 {r1 r2 r4 r5 r6 r7:Int}  : AtF me c 4 false 32 r1 r2 r4 r5 r6 r7
 | f33 {r1 r2 r4 r5 r6 r7:Int} (h0:r4=0):AtF me c 4 false 33 r1 r2 r4 r5 r6 r7
 | f34 {r1 r2 r4 r5 r6 r7:Int}  : AtF me c 0 false 34 r1 r2 r4 r5 r6 r7
 | f35 {r1 r2 r4 r5 r6 r7:Int} (h0:r7=0):AtF me c 0 false 35 r1 r2 r4 r5 r6 r7
inductive AtS(me ow c:Int)(g:Nat):Nat→Int→Int→Int→Int→Int→Int→List (Nat×Int)→Prop
 | s0H04 {r1 r2 r4 r5 r6 r7:Int} (h0:g=3):AtS me ow c g 0 r1 r2 r4 r5 r6 r7 [(18,me),(0,wr32 (c+1)),(18,0),(17,0)]
 | s0H14 {r1 r2 r4 r5 r6 r7:Int} (h0:g=3) (h1:ow=me):AtS me ow c g 0 r1 r2 r4 r5 r6 r7 [(0,wr32 (c+1)),(18,0),(17,0)]
 | s0H24 {r1 r2 r4 r5 r6 r7:Int} (h0:g=3) (h1:ow=me):AtS me ow c g 0 r1 r2 r4 r5 r6 r7 [(18,0),(17,0)]
 | s0H34 {r1 r2 r4 r5 r6 r7:Int} (h0:g=3) (h1:ow=0):AtS me ow c g 0 r1 r2 r4 r5 r6 r7 [(17,0)]
 | s0H44 {r1 r2 r4 r5 r6 r7:Int} (h0:g=0) (h1:ow≠me):AtS me ow c g 0 r1 r2 r4 r5 r6 r7 []
 | s1H04 {r1 r2 r4 r5 r6 r7:Int} (h0:g=3):AtS me ow c g 1 r1 r2 r4 r5 r6 r7 [(18,me),(0,wr32 (c+1)),(18,0),(17,0)]
 | s1H14 {r1 r2 r4 r5 r6 r7:Int} (h0:g=3) (h1:ow=me):AtS me ow c g 1 r1 r2 r4 r5 r6 r7 [(0,wr32 (c+1)),(18,0),(17,0)]
 | s1H24 {r1 r2 r4 r5 r6 r7:Int} (h0:g=3) (h1:ow=me):AtS me ow c g 1 r1 r2 r4 r5 r6 r7 [(18,0),(17,0)]
 | s1H34 {r1 r2 r4 r5 r6 r7:Int} (h0:g=3) (h1:ow=0):AtS me ow c g 1 r1 r2 r4 r5 r6 r7 [(17,0)]
 | s1H44 {r1 r2 r4 r5 r6 r7:Int} (h0:g=0) (h1:ow≠me):AtS me ow c g 1 r1 r2 r4 r5 r6 r7 []
 | s2H04 {r1 r2 r4 r5 r6 r7:Int} (h0:g=3) (h1:r4≠me):AtS me ow c g 2 r1 r2 r4 r5 r6 r7 [(18,me),(0,wr32 (c+1)),(18,0),(17,0)]
 | s2H14 {r1 r2 r4 r5 r6 r7:Int} (h0:g=3) (h1:ow=me) (h2:r4≠me):AtS me ow c g 2 r1 r2 r4 r5 r6 r7 [(0,wr32 (c+1)),(18,0),(17,0)]
 | s2H24 {r1 r2 r4 r5 r6 r7:Int} (h0:g=3) (h1:ow=me) (h2:r4≠me):AtS me ow c g 2 r1 r2 r4 r5 r6 r7 [(18,0),(17,0)]
 | s2H34 {r1 r2 r4 r5 r6 r7:Int} (h0:g=3) (h1:ow=0) (h2:r4≠me):AtS me ow c g 2 r1 r2 r4 r5 r6 r7 [(17,0)]
 | s2H44 {r1 r2 r4 r5 r6 r7:Int} (h0:g=0) (h1:ow≠me) (h2:r4≠me):AtS me ow c g 2 r1 r2 r4 r5 r6 r7 []
 | s3H04 {r1 r2 r4 r5 r6 r7:Int} (h0:g=3) (h1:r4≠me) (h2:r5=me):AtS me ow c g 3 r1 r2 r4 r5 r6 r7 [(18,me),(0,wr32 (c+1)),(18,0),(17,0)]
 | s3H14 {r1 r2 r4 r5 r6 r7:Int} (h0:g=3) (h1:ow=me) (h2:r4≠me) (h3:r5=me):AtS me ow c g 3 r1 r2 r4 r5 r6 r7 [(0,wr32 (c+1)),(18,0),(17,0)]
 | s3H24 {r1 r2 r4 r5 r6 r7:Int} (h0:g=3) (h1:ow=me) (h2:r4≠me) (h3:r5=me):AtS me ow c g 3 r1 r2 r4 r5 r6 r7 [(18,0),(17,0)]
 | s3H34 {r1 r2 r4 r5 r6 r7:Int} (h0:g=3) (h1:ow=0) (h2:r4≠me) (h3:r5=me):AtS me ow c g 3 r1 r2 r4 r5 r6 r7 [(17,0)]
 | s3H44 {r1 r2 r4 r5 r6 r7:Int} (h0:g=0) (h1:ow≠me) (h2:r4≠me) (h3:r5=me):AtS me ow c g 3 r1 r2 r4 r5 r6 r7 []
 | s4H04 {r1 r2 r4 r5 r6 r7:Int} (h0:g=3) (h1:r5=me) (h2:r6=0):AtS me ow c g 4 r1 r2 r4 r5 r6 r7 [(18,me),(0,wr32 (c+1)),(18,0),(17,0)]
 | s4H14 {r1 r2 r4 r5 r6 r7:Int} (h0:g=3) (h1:ow=me) (h2:r5=me) (h3:r6=0):AtS me ow c g 4 r1 r2 r4 r5 r6 r7 [(0,wr32 (c+1)),(18,0),(17,0)]
 | s4H24 {r1 r2 r4 r5 r6 r7:Int} (h0:g=3) (h1:ow=me) (h2:r5=me) (h3:r6=0):AtS me ow c g 4 r1 r2 r4 r5 r6 r7 [(18,0),(17,0)]
 | s4H34 {r1 r2 r4 r5 r6 r7:Int} (h0:g=3) (h1:ow=0) (h2:r5=me) (h3:r6=0):AtS me ow c g 4 r1 r2 r4 r5 r6 r7 [(17,0)]
 | s4H44 {r1 r2 r4 r5 r6 r7:Int} (h0:g=0) (h1:ow≠me) (h2:r5=me) (h3:r6=0):AtS me ow c g 4 r1 r2 r4 r5 r6 r7 []
 | s7H04 {r1 r2 r4 r5 r6 r7:Int} (h0:g=3) (h1:r5=me):AtS me ow c g 7 r1 r2 r4 r5 r6 r7 [(18,me),(0,wr32 (c+1)),(18,0),(17,0)]
 | s7H14 {r1 r2 r4 r5 r6 r7:Int} (h0:g=3) (h1:ow=me) (h2:r5=me):AtS me ow c g 7 r1 r2 r4 r5 r6 r7 [(0,wr32 (c+1)),(18,0),(17,0)]
 | s7H24 {r1 r2 r4 r5 r6 r7:Int} (h0:g=3) (h1:ow=me) (h2:r5=me):AtS me ow c g 7 r1 r2 r4 r5 r6 r7 [(18,0),(17,0)]
 | s7H34 {r1 r2 r4 r5 r6 r7:Int} (h0:g=3) (h1:ow=0) (h2:r5=me):AtS me ow c g 7 r1 r2 r4 r5 r6 r7 [(17,0)]
 | s7H44 {r1 r2 r4 r5 r6 r7:Int} (h0:g=0) (h1:ow≠me) (h2:r5=me):AtS me ow c g 7 r1 r2 r4 r5 r6 r7 []
 | s8H04 {r1 r2 r4 r5 r6 r7:Int} (h0:g=3) (h1:r5=me) (h2:r4=1):AtS me ow c g 8 r1 r2 r4 r5 r6 r7 [(18,me),(0,wr32 (c+1)),(18,0),(17,0)]
 | s8H14 {r1 r2 r4 r5 r6 r7:Int} (h0:g=3) (h1:ow=me) (h2:r5=me) (h3:r4=1):AtS me ow c g 8 r1 r2 r4 r5 r6 r7 [(0,wr32 (c+1)),(18,0),(17,0)]
 | s8H24 {r1 r2 r4 r5 r6 r7:Int} (h0:g=3) (h1:ow=me) (h2:r5=me) (h3:r4=1):AtS me ow c g 8 r1 r2 r4 r5 r6 r7 [(18,0),(17,0)]
 | s8H34 {r1 r2 r4 r5 r6 r7:Int} (h0:g=3) (h1:ow=0) (h2:r5=me) (h3:r4=1):AtS me ow c g 8 r1 r2 r4 r5 r6 r7 [(17,0)]
 | s8H44 {r1 r2 r4 r5 r6 r7:Int} (h0:g=0) (h1:ow≠me) (h2:r5=me) (h3:r4=1):AtS me ow c g 8 r1 r2 r4 r5 r6 r7 []
 | s9H05 {r1 r2 r4 r5 r6 r7:Int} (h0:g=3) (h1:r5=me):AtS me ow c g 9 r1 r2 r4 r5 r6 r7 [(18,me),(0,wr32 (c+1)),(18,0),(17,0),(17,1)]
 | s9H15 {r1 r2 r4 r5 r6 r7:Int} (h0:g=3) (h1:ow=me) (h2:r5=me):AtS me ow c g 9 r1 r2 r4 r5 r6 r7 [(0,wr32 (c+1)),(18,0),(17,0),(17,1)]
 | s9H25 {r1 r2 r4 r5 r6 r7:Int} (h0:g=3) (h1:ow=me) (h2:r5=me):AtS me ow c g 9 r1 r2 r4 r5 r6 r7 [(18,0),(17,0),(17,1)]
 | s9H35 {r1 r2 r4 r5 r6 r7:Int} (h0:g=3) (h1:ow=0) (h2:r5=me):AtS me ow c g 9 r1 r2 r4 r5 r6 r7 [(17,0),(17,1)]
 | s9H45 {r1 r2 r4 r5 r6 r7:Int} (h0:g=0) (h1:ow≠me) (h2:r5=me):AtS me ow c g 9 r1 r2 r4 r5 r6 r7 [(17,1)]
 | s9H55 {r1 r2 r4 r5 r6 r7:Int} (h0:g=1) (h1:ow≠me) (h2:r5=me):AtS me ow c g 9 r1 r2 r4 r5 r6 r7 []
 | s10W {r1 r2 r4 r5 r6 r7:Int} (h0:g=2) (h1:ow≠me) (h2:r5=me):AtS me ow c g 10 r1 r2 r4 r5 r6 r7 []
 | s11C {r1 r2 r4 r5 r6 r7:Int} (h0:g=3) (h1:ow≠me) (h2:r5=me) (h3:r4=0):AtS me ow c g 11 r1 r2 r4 r5 r6 r7 []
 | s11W {r1 r2 r4 r5 r6 r7:Int} (h0:g=2) (h1:ow≠me) (h2:r5=me) (h3:r4≠0):AtS me ow c g 11 r1 r2 r4 r5 r6 r7 []
 | s12C {r1 r2 r4 r5 r6 r7:Int} (h0:g=3) (h1:ow≠me) (h2:r5=me):AtS me ow c g 12 r1 r2 r4 r5 r6 r7 []
 | s13H01 {r1 r2 r4 r5 r6 r7:Int} (h0:g=3):AtS me ow c g 13 r1 r2 r4 r5 r6 r7 [(18,me)]
 | s13H11 {r1 r2 r4 r5 r6 r7:Int} (h0:g=3) (h1:ow=me):AtS me ow c g 13 r1 r2 r4 r5 r6 r7 []
 | s14H01 {r1 r2 r4 r5 r6 r7:Int} (h0:g=3) (h1:r7=0):AtS me ow c g 14 r1 r2 r4 r5 r6 r7 [(18,me)]
 | s14H11 {r1 r2 r4 r5 r6 r7:Int} (h0:g=3) (h1:ow=me) (h2:r7=0):AtS me ow c g 14 r1 r2 r4 r5 r6 r7 []
 | s15H01 {r1 r2 r4 r5 r6 r7:Int} (h0:g=3):AtS me ow c g 15 r1 r2 r4 r5 r6 r7 [(18,me)]
 | s15H11 {r1 r2 r4 r5 r6 r7:Int} (h0:g=3) (h1:ow=me):AtS me ow c g 15 r1 r2 r4 r5 r6 r7 []
 | s16H01 {r1 r2 r4 r5 r6 r7:Int} (h0:g=3) (h1:r1=c):AtS me ow c g 16 r1 r2 r4 r5 r6 r7 [(18,me)]
 | s16H11 {r1 r2 r4 r5 r6 r7:Int} (h0:g=3) (h1:ow=me) (h2:r1=c):AtS me ow c g 16 r1 r2 r4 r5 r6 r7 []
 | s17H01 {r1 r2 r4 r5 r6 r7:Int} (h0:g=3) (h1:r1=c) (h2:r2=1):AtS me ow c g 17 r1 r2 r4 r5 r6 r7 [(18,me)]
 | s17H11 {r1 r2 r4 r5 r6 r7:Int} (h0:g=3) (h1:ow=me) (h2:r1=c) (h3:r2=1):AtS me ow c g 17 r1 r2 r4 r5 r6 r7 []
 | s18H01 {r1 r2 r4 r5 r6 r7:Int} (h0:g=3) (h1:r1=wr32 (c+1)):AtS me ow c g 18 r1 r2 r4 r5 r6 r7 [(18,me)]
 | s18H11 {r1 r2 r4 r5 r6 r7:Int} (h0:g=3) (h1:ow=me) (h2:r1=wr32 (c+1)):AtS me ow c g 18 r1 r2 r4 r5 r6 r7 []
 | s19H02 {r1 r2 r4 r5 r6 r7:Int} (h0:g=3):AtS me ow c g 19 r1 r2 r4 r5 r6 r7 [(18,me),(0,wr32 (c+1))]
 | s19H12 {r1 r2 r4 r5 r6 r7:Int} (h0:g=3) (h1:ow=me):AtS me ow c g 19 r1 r2 r4 r5 r6 r7 [(0,wr32 (c+1))]
 | s19H22 {r1 r2 r4 r5 r6 r7:Int} (h0:g=3) (h1:ow=me):AtS me ow c g 19 r1 r2 r4 r5 r6 r7 []
 | s20H02 {r1 r2 r4 r5 r6 r7:Int} (h0:g=3):AtS me ow c g 20 r1 r2 r4 r5 r6 r7 [(18,me),(0,wr32 (c+1))]
 | s20H12 {r1 r2 r4 r5 r6 r7:Int} (h0:g=3) (h1:ow=me):AtS me ow c g 20 r1 r2 r4 r5 r6 r7 [(0,wr32 (c+1))]
 | s20H22 {r1 r2 r4 r5 r6 r7:Int} (h0:g=3) (h1:ow=me):AtS me ow c g 20 r1 r2 r4 r5 r6 r7 []
 | s21H02 {r1 r2 r4 r5 r6 r7:Int} (h0:g=3) (h1:r4=me):AtS me ow c g 21 r1 r2 r4 r5 r6 r7 [(18,me),(0,wr32 (c+1))]
 | s21H12 {r1 r2 r4 r5 r6 r7:Int} (h0:g=3) (h1:ow=me) (h2:r4=me):AtS me ow c g 21 r1 r2 r4 r5 r6 r7 [(0,wr32 (c+1))]
 | s21H22 {r1 r2 r4 r5 r6 r7:Int} (h0:g=3) (h1:ow=me) (h2:r4=me):AtS me ow c g 21 r1 r2 r4 r5 r6 r7 []
 | s22H02 {r1 r2 r4 r5 r6 r7:Int} (h0:g=3) (h1:r4=me) (h2:r5=me):AtS me ow c g 22 r1 r2 r4 r5 r6 r7 [(18,me),(0,wr32 (c+1))]
 | s22H12 {r1 r2 r4 r5 r6 r7:Int} (h0:g=3) (h1:ow=me) (h2:r4=me) (h3:r5=me):AtS me ow c g 22 r1 r2 r4 r5 r6 r7 [(0,wr32 (c+1))]
 | s22H22 {r1 r2 r4 r5 r6 r7:Int} (h0:g=3) (h1:ow=me) (h2:r4=me) (h3:r5=me):AtS me ow c g 22 r1 r2 r4 r5 r6 r7 []
 | s23H02 {r1 r2 r4 r5 r6 r7:Int} (h0:g=3) (h1:r6=1):AtS me ow c g 23 r1 r2 r4 r5 r6 r7 [(18,me),(0,wr32 (c+1))]
 | s23H12 {r1 r2 r4 r5 r6 r7:Int} (h0:g=3) (h1:ow=me) (h2:r6=1):AtS me ow c g 23 r1 r2 r4 r5 r6 r7 [(0,wr32 (c+1))]
 | s23H22 {r1 r2 r4 r5 r6 r7:Int} (h0:g=3) (h1:ow=me) (h2:r6=1):AtS me ow c g 23 r1 r2 r4 r5 r6 r7 []
 | s26H02 {r1 r2 r4 r5 r6 r7:Int} (h0:g=3):AtS me ow c g 26 r1 r2 r4 r5 r6 r7 [(18,me),(0,wr32 (c+1))]
 | s26H12 {r1 r2 r4 r5 r6 r7:Int} (h0:g=3) (h1:ow=me):AtS me ow c g 26 r1 r2 r4 r5 r6 r7 [(0,wr32 (c+1))]
 | s26H22 {r1 r2 r4 r5 r6 r7:Int} (h0:g=3) (h1:ow=me):AtS me ow c g 26 r1 r2 r4 r5 r6 r7 []
 | s27H02 {r1 r2 r4 r5 r6 r7:Int} (h0:g=3) (h1:r4=0):AtS me ow c g 27 r1 r2 r4 r5 r6 r7 [(18,me),(0,wr32 (c+1))]
 | s27H12 {r1 r2 r4 r5 r6 r7:Int} (h0:g=3) (h1:ow=me) (h2:r4=0):AtS me ow c g 27 r1 r2 r4 r5 r6 r7 [(0,wr32 (c+1))]
 | s27H22 {r1 r2 r4 r5 r6 r7:Int} (h0:g=3) (h1:ow=me) (h2:r4=0):AtS me ow c g 27 r1 r2 r4 r5 r6 r7 []
 | s28H03 {r1 r2 r4 r5 r6 r7:Int} (h0:g=3):AtS me ow c g 28 r1 r2 r4 r5 r6 r7 [(18,me),(0,wr32 (c+1)),(18,0)]
 | s28H13 {r1 r2 r4 r5 r6 r7:Int} (h0:g=3) (h1:ow=me):AtS me ow c g 28 r1 r2 r4 r5 r6 r7 [(0,wr32 (c+1)),(18,0)]
 | s28H23 {r1 r2 r4 r5 r6 r7:Int} (h0:g=3) (h1:ow=me):AtS me ow c g 28 r1 r2 r4 r5 r6 r7 [(18,0)]
 | s28H33 {r1 r2 r4 r5 r6 r7:Int} (h0:g=3) (h1:ow=0):AtS me ow c g 28 r1 r2 r4 r5 r6 r7 []
 | s29H03 {r1 r2 r4 r5 r6 r7:Int} (h0:g=3) (h1:r4=0):AtS me ow c g 29 r1 r2 r4 r5 r6 r7 [(18,me),(0,wr32 (c+1)),(18,0)]
 | s29H13 {r1 r2 r4 r5 r6 r7:Int} (h0:g=3) (h1:ow=me) (h2:r4=0):AtS me ow c g 29 r1 r2 r4 r5 r6 r7 [(0,wr32 (c+1)),(18,0)]
 | s29H23 {r1 r2 r4 r5 r6 r7:Int} (h0:g=3) (h1:ow=me) (h2:r4=0):AtS me ow c g 29 r1 r2 r4 r5 r6 r7 [(18,0)]
 | s29H33 {r1 r2 r4 r5 r6 r7:Int} (h0:g=3) (h1:ow=0) (h2:r4=0):AtS me ow c g 29 r1 r2 r4 r5 r6 r7 []
 | s30H04 {r1 r2 r4 r5 r6 r7:Int} (h0:g=3):AtS me ow c g 30 r1 r2 r4 r5 r6 r7 [(18,me),(0,wr32 (c+1)),(18,0),(17,0)]
 | s30H14 {r1 r2 r4 r5 r6 r7:Int} (h0:g=3) (h1:ow=me):AtS me ow c g 30 r1 r2 r4 r5 r6 r7 [(0,wr32 (c+1)),(18,0),(17,0)]
 | s30H24 {r1 r2 r4 r5 r6 r7:Int} (h0:g=3) (h1:ow=me):AtS me ow c g 30 r1 r2 r4 r5 r6 r7 [(18,0),(17,0)]
 | s30H34 {r1 r2 r4 r5 r6 r7:Int} (h0:g=3) (h1:ow=0):AtS me ow c g 30 r1 r2 r4 r5 r6 r7 [(17,0)]
 | s30H44 {r1 r2 r4 r5 r6 r7:Int} (h0:g=0) (h1:ow≠me):AtS me ow c g 30 r1 r2 r4 r5 r6 r7 []
 | s31H04 {r1 r2 r4 r5 r6 r7:Int} (h0:g=3) (h1:r7=0):AtS me ow c g 31 r1 r2 r4 r5 r6 r7 [(18,me),(0,wr32 (c+1)),(18,0),(17,0)]
 | s31H14 {r1 r2 r4 r5 r6 r7:Int} (h0:g=3) (h1:ow=me) (h2:r7=0):AtS me ow c g 31 r1 r2 r4 r5 r6 r7 [(0,wr32 (c+1)),(18,0),(17,0)]
 | s31H24 {r1 r2 r4 r5 r6 r7:Int} (h0:g=3) (h1:ow=me) (h2:r7=0):AtS me ow c g 31 r1 r2 r4 r5 r6 r7 [(18,0),(17,0)]
 | s31H34 {r1 r2 r4 r5 r6 r7:Int} (h0:g=3) (h1:ow=0) (h2:r7=0):AtS me ow c g 31 r1 r2 r4 r5 r6 r7 [(17,0)]
 | s31H44 {r1 r2 r4 r5 r6 r7:Int} (h0:g=0) (h1:ow≠me) (h2:r7=0):AtS me ow c g 31 r1 r2 r4 r5 r6 r7 []
def inF(j:Nat):Bool:=decide (19≤j) && decide (j≤23)
def inS(j:Nat):Bool:=decide (15≤j) && decide (j≤19)
section
variable{me ow c r1 r2 r4 r5 r6 r7:Int}{g j σ:Nat}{pt:Bool}{q:List (Nat×Int)}
theorem AtF.free{c':Int}(h:AtF me c σ pt j r1 r2 r4 r5 r6 r7)(hσ:σ=0∨σ=1):AtF me c' σ pt j r1 r2 r4 r5 r6 r7∧inF j=false:=by
 cases h
 case f0  => exact⟨AtF.f0 ,rfl⟩
 case f1  => exact⟨AtF.f1 ,rfl⟩
 case f2 g0=>exact⟨AtF.f2 (by assumption),rfl⟩
 case f3 g0 g1=>exact⟨AtF.f3 (by assumption) (by assumption),rfl⟩
 case f4 g0 g1=>exact⟨AtF.f4 (by assumption) (by assumption),rfl⟩
 case f7 g0=>exact⟨AtF.f7 (by assumption),rfl⟩
 case f8 g0 g1=>exact⟨AtF.f8 (by assumption) (by assumption),rfl⟩
 case f9 g0=>exact⟨AtF.f9 (by assumption),rfl⟩
 case f10 g0 g1=>exact⟨AtF.f10 (by assumption) (by assumption),rfl⟩
 case f10t g0 g1=>exact⟨AtF.f10t (by assumption) (by assumption),rfl⟩
 case f11 g0=>exact⟨AtF.f11 (by assumption),rfl⟩
 case f12 g0 g1=>exact⟨AtF.f12 (by assumption) (by assumption),rfl⟩
 case f13 g0=>exact⟨AtF.f13 (by assumption),rfl⟩
 case f14 g0=>exact⟨AtF.f14 (by assumption),rfl⟩
 case f15 g0=>exact⟨AtF.f15 (by assumption),rfl⟩
 case f16t g0=>exact⟨AtF.f16t (by assumption),rfl⟩
 case f17  => exact absurd hσ (by decide)
 case f18 g0=>exact absurd hσ (by decide)
 case f19  => exact absurd hσ (by decide)
 case f20 g0=>exact absurd hσ (by decide)
 case f21 g0 g1=>exact absurd hσ (by decide)
 case f22 g0=>exact absurd hσ (by decide)
 case f23  => exact absurd hσ (by decide)
 case f24  => exact absurd hσ (by decide)
 case f25 g0=>exact absurd hσ (by decide)
 case f26 g0 g1=>exact absurd hσ (by decide)
 case f27 g0=>exact absurd hσ (by decide)
 case f30  => exact absurd hσ (by decide)
 case f31 g0=>exact absurd hσ (by decide)
 case f32  => exact absurd hσ (by decide)
 case f33 g0=>exact absurd hσ (by decide)
 case f34  => exact⟨AtF.f34 ,rfl⟩
 case f35 g0=>exact⟨AtF.f35 (by assumption),rfl⟩
theorem AtF.pt1(h:AtF me c σ true j r1 r2 r4 r5 r6 r7):σ=1:=by
 cases h<;>rfl
theorem AtS.other{ow' c':Int}(h:AtS me ow c g j r1 r2 r4 r5 r6 r7 q)(h1:g≠3)(h2:ow'≠me):AtS me ow' c' g j r1 r2 r4 r5 r6 r7 q:=by
 cases h
 case s0H04 g0=>exact absurd (by assumption) h1
 case s0H14 g0 g1=>exact absurd (by assumption) h1
 case s0H24 g0 g1=>exact absurd (by assumption) h1
 case s0H34 g0 g1=>exact absurd (by assumption) h1
 case s0H44 g0 g1=>exact AtS.s0H44 (by assumption) (by assumption)
 case s1H04 g0=>exact absurd (by assumption) h1
 case s1H14 g0 g1=>exact absurd (by assumption) h1
 case s1H24 g0 g1=>exact absurd (by assumption) h1
 case s1H34 g0 g1=>exact absurd (by assumption) h1
 case s1H44 g0 g1=>exact AtS.s1H44 (by assumption) (by assumption)
 case s2H04 g0 g1=>exact absurd (by assumption) h1
 case s2H14 g0 g1 g2=>exact absurd (by assumption) h1
 case s2H24 g0 g1 g2=>exact absurd (by assumption) h1
 case s2H34 g0 g1 g2=>exact absurd (by assumption) h1
 case s2H44 g0 g1 g2=>exact AtS.s2H44 (by assumption) (by assumption) (by assumption)
 case s3H04 g0 g1 g2=>exact absurd (by assumption) h1
 case s3H14 g0 g1 g2 g3=>exact absurd (by assumption) h1
 case s3H24 g0 g1 g2 g3=>exact absurd (by assumption) h1
 case s3H34 g0 g1 g2 g3=>exact absurd (by assumption) h1
 case s3H44 g0 g1 g2 g3=>exact AtS.s3H44 (by assumption) (by assumption) (by assumption) (by assumption)
 case s4H04 g0 g1 g2=>exact absurd (by assumption) h1
 case s4H14 g0 g1 g2 g3=>exact absurd (by assumption) h1
 case s4H24 g0 g1 g2 g3=>exact absurd (by assumption) h1
 case s4H34 g0 g1 g2 g3=>exact absurd (by assumption) h1
 case s4H44 g0 g1 g2 g3=>exact AtS.s4H44 (by assumption) (by assumption) (by assumption) (by assumption)
 case s7H04 g0 g1=>exact absurd (by assumption) h1
 case s7H14 g0 g1 g2=>exact absurd (by assumption) h1
 case s7H24 g0 g1 g2=>exact absurd (by assumption) h1
 case s7H34 g0 g1 g2=>exact absurd (by assumption) h1
 case s7H44 g0 g1 g2=>exact AtS.s7H44 (by assumption) (by assumption) (by assumption)
 case s8H04 g0 g1 g2=>exact absurd (by assumption) h1
 case s8H14 g0 g1 g2 g3=>exact absurd (by assumption) h1
 case s8H24 g0 g1 g2 g3=>exact absurd (by assumption) h1
 case s8H34 g0 g1 g2 g3=>exact absurd (by assumption) h1
 case s8H44 g0 g1 g2 g3=>exact AtS.s8H44 (by assumption) (by assumption) (by assumption) (by assumption)
 case s9H05 g0 g1=>exact absurd (by assumption) h1
 case s9H15 g0 g1 g2=>exact absurd (by assumption) h1
 case s9H25 g0 g1 g2=>exact absurd (by assumption) h1
 case s9H35 g0 g1 g2=>exact absurd (by assumption) h1
 case s9H45 g0 g1 g2=>exact AtS.s9H45 (by assumption) (by assumption) (by assumption)
 case s9H55 g0 g1 g2=>exact AtS.s9H55 (by assumption) (by assumption) (by assumption)
 case s10W g0 g1 g2=>exact AtS.s10W (by assumption) (by assumption) (by assumption)
 case s11C g0 g1 g2 g3=>exact absurd (by assumption) h1
 case s11W g0 g1 g2 g3=>exact AtS.s11W (by assumption) (by assumption) (by assumption) (by assumption)
 case s12C g0 g1 g2=>exact absurd (by assumption) h1
 case s13H01 g0=>exact absurd (by assumption) h1
 case s13H11 g0 g1=>exact absurd (by assumption) h1
 case s14H01 g0 g1=>exact absurd (by assumption) h1
 case s14H11 g0 g1 g2=>exact absurd (by assumption) h1
 case s15H01 g0=>exact absurd (by assumption) h1
 case s15H11 g0 g1=>exact absurd (by assumption) h1
 case s16H01 g0 g1=>exact absurd (by assumption) h1
 case s16H11 g0 g1 g2=>exact absurd (by assumption) h1
 case s17H01 g0 g1 g2=>exact absurd (by assumption) h1
 case s17H11 g0 g1 g2 g3=>exact absurd (by assumption) h1
 case s18H01 g0 g1=>exact absurd (by assumption) h1
 case s18H11 g0 g1 g2=>exact absurd (by assumption) h1
 case s19H02 g0=>exact absurd (by assumption) h1
 case s19H12 g0 g1=>exact absurd (by assumption) h1
 case s19H22 g0 g1=>exact absurd (by assumption) h1
 case s20H02 g0=>exact absurd (by assumption) h1
 case s20H12 g0 g1=>exact absurd (by assumption) h1
 case s20H22 g0 g1=>exact absurd (by assumption) h1
 case s21H02 g0 g1=>exact absurd (by assumption) h1
 case s21H12 g0 g1 g2=>exact absurd (by assumption) h1
 case s21H22 g0 g1 g2=>exact absurd (by assumption) h1
 case s22H02 g0 g1 g2=>exact absurd (by assumption) h1
 case s22H12 g0 g1 g2 g3=>exact absurd (by assumption) h1
 case s22H22 g0 g1 g2 g3=>exact absurd (by assumption) h1
 case s23H02 g0 g1=>exact absurd (by assumption) h1
 case s23H12 g0 g1 g2=>exact absurd (by assumption) h1
 case s23H22 g0 g1 g2=>exact absurd (by assumption) h1
 case s26H02 g0=>exact absurd (by assumption) h1
 case s26H12 g0 g1=>exact absurd (by assumption) h1
 case s26H22 g0 g1=>exact absurd (by assumption) h1
 case s27H02 g0 g1=>exact absurd (by assumption) h1
 case s27H12 g0 g1 g2=>exact absurd (by assumption) h1
 case s27H22 g0 g1 g2=>exact absurd (by assumption) h1
 case s28H03 g0=>exact absurd (by assumption) h1
 case s28H13 g0 g1=>exact absurd (by assumption) h1
 case s28H23 g0 g1=>exact absurd (by assumption) h1
 case s28H33 g0 g1=>exact absurd (by assumption) h1
 case s29H03 g0 g1=>exact absurd (by assumption) h1
 case s29H13 g0 g1 g2=>exact absurd (by assumption) h1
 case s29H23 g0 g1 g2=>exact absurd (by assumption) h1
 case s29H33 g0 g1 g2=>exact absurd (by assumption) h1
 case s30H04 g0=>exact absurd (by assumption) h1
 case s30H14 g0 g1=>exact absurd (by assumption) h1
 case s30H24 g0 g1=>exact absurd (by assumption) h1
 case s30H34 g0 g1=>exact absurd (by assumption) h1
 case s30H44 g0 g1=>exact AtS.s30H44 (by assumption) (by assumption)
 case s31H04 g0 g1=>exact absurd (by assumption) h1
 case s31H14 g0 g1 g2=>exact absurd (by assumption) h1
 case s31H24 g0 g1 g2=>exact absurd (by assumption) h1
 case s31H34 g0 g1 g2=>exact absurd (by assumption) h1
 case s31H44 g0 g1 g2=>exact AtS.s31H44 (by assumption) (by assumption) (by assumption)
theorem AtS.out(h:AtS me ow c g j r1 r2 r4 r5 r6 r7 q)(h1:g≠3):ow≠me∧inS j=false:=by
 cases h<;>first | exact⟨by assumption,rfl⟩ | contradiction
theorem AtS.g1(h:AtS me ow c g 9 r1 r2 r4 r5 r6 r7 []):g=1∧ow≠me∧r5=me:=by
 cases h
 exact⟨by assumption,by assumption,by assumption⟩
theorem own_buf{e:Nat×Int}{r:List (Nat×Int)}(h:AtS me ow c g j r1 r2 r4 r5 r6 r7 (e::r))(hme:0 < me):
  (e.1=18∧e.2=me∧g=3∧AtS me me c 3 j r1 r2 r4 r5 r6 r7 r)∨(e.1=0∧e.2=wr32 (c+1)∧g=3∧∀ c',AtS me ow c' 3 j r1 r2 r4 r5 r6 r7 r)∨(e.1=18∧e.2=0∧g=3∧AtS me 0 c 3 j r1 r2 r4 r5 r6 r7 r)∨(e.1=17∧e.2=0∧g=3∧ow=0∧∀ c',AtS me ow c' 0 j r1 r2 r4 r5 r6 r7 r)∨(e.1=17∧e.2=1∧g=0∧∀ c',AtS me ow c' 1 j r1 r2 r4 r5 r6 r7 r):=by
 cases h
 case s0H04 g0=>exact .inl ⟨rfl,rfl,by assumption,by apply AtS.s0H14<;>first | assumption | rfl | omega⟩
 case s0H14 g0 g1=>exact .inr (.inl ⟨rfl,rfl,by assumption,fun c'=>by apply AtS.s0H24<;>first | assumption | rfl | omega⟩)
 case s0H24 g0 g1=>exact .inr (.inr (.inl ⟨rfl,rfl,by assumption,by apply AtS.s0H34<;>first | assumption | rfl | omega⟩))
 case s0H34 g0 g1=>exact .inr (.inr (.inr (.inl ⟨rfl,rfl,by assumption,by assumption,fun c'=>by apply AtS.s0H44<;>first | assumption | rfl | omega⟩)))
 case s1H04 g0=>exact .inl ⟨rfl,rfl,by assumption,by apply AtS.s1H14<;>first | assumption | rfl | omega⟩
 case s1H14 g0 g1=>exact .inr (.inl ⟨rfl,rfl,by assumption,fun c'=>by apply AtS.s1H24<;>first | assumption | rfl | omega⟩)
 case s1H24 g0 g1=>exact .inr (.inr (.inl ⟨rfl,rfl,by assumption,by apply AtS.s1H34<;>first | assumption | rfl | omega⟩))
 case s1H34 g0 g1=>exact .inr (.inr (.inr (.inl ⟨rfl,rfl,by assumption,by assumption,fun c'=>by apply AtS.s1H44<;>first | assumption | rfl | omega⟩)))
 case s2H04 g0 g1=>exact .inl ⟨rfl,rfl,by assumption,by apply AtS.s2H14<;>first | assumption | rfl | omega⟩
 case s2H14 g0 g1 g2=>exact .inr (.inl ⟨rfl,rfl,by assumption,fun c'=>by apply AtS.s2H24<;>first | assumption | rfl | omega⟩)
 case s2H24 g0 g1 g2=>exact .inr (.inr (.inl ⟨rfl,rfl,by assumption,by apply AtS.s2H34<;>first | assumption | rfl | omega⟩))
 case s2H34 g0 g1 g2=>exact .inr (.inr (.inr (.inl ⟨rfl,rfl,by assumption,by assumption,fun c'=>by apply AtS.s2H44<;>first | assumption | rfl | omega⟩)))
 case s3H04 g0 g1 g2=>exact .inl ⟨rfl,rfl,by assumption,by apply AtS.s3H14<;>first | assumption | rfl | omega⟩
 case s3H14 g0 g1 g2 g3=>exact .inr (.inl ⟨rfl,rfl,by assumption,fun c'=>by apply AtS.s3H24<;>first | assumption | rfl | omega⟩)
 case s3H24 g0 g1 g2 g3=>exact .inr (.inr (.inl ⟨rfl,rfl,by assumption,by apply AtS.s3H34<;>first | assumption | rfl | omega⟩))
 case s3H34 g0 g1 g2 g3=>exact .inr (.inr (.inr (.inl ⟨rfl,rfl,by assumption,by assumption,fun c'=>by apply AtS.s3H44<;>first | assumption | rfl | omega⟩)))
 case s4H04 g0 g1 g2=>exact .inl ⟨rfl,rfl,by assumption,by apply AtS.s4H14<;>first | assumption | rfl | omega⟩
 case s4H14 g0 g1 g2 g3=>exact .inr (.inl ⟨rfl,rfl,by assumption,fun c'=>by apply AtS.s4H24<;>first | assumption | rfl | omega⟩)
 case s4H24 g0 g1 g2 g3=>exact .inr (.inr (.inl ⟨rfl,rfl,by assumption,by apply AtS.s4H34<;>first | assumption | rfl | omega⟩))
 case s4H34 g0 g1 g2 g3=>exact .inr (.inr (.inr (.inl ⟨rfl,rfl,by assumption,by assumption,fun c'=>by apply AtS.s4H44<;>first | assumption | rfl | omega⟩)))
 case s7H04 g0 g1=>exact .inl ⟨rfl,rfl,by assumption,by apply AtS.s7H14<;>first | assumption | rfl | omega⟩
 case s7H14 g0 g1 g2=>exact .inr (.inl ⟨rfl,rfl,by assumption,fun c'=>by apply AtS.s7H24<;>first | assumption | rfl | omega⟩)
 case s7H24 g0 g1 g2=>exact .inr (.inr (.inl ⟨rfl,rfl,by assumption,by apply AtS.s7H34<;>first | assumption | rfl | omega⟩))
 case s7H34 g0 g1 g2=>exact .inr (.inr (.inr (.inl ⟨rfl,rfl,by assumption,by assumption,fun c'=>by apply AtS.s7H44<;>first | assumption | rfl | omega⟩)))
 case s8H04 g0 g1 g2=>exact .inl ⟨rfl,rfl,by assumption,by apply AtS.s8H14<;>first | assumption | rfl | omega⟩
 case s8H14 g0 g1 g2 g3=>exact .inr (.inl ⟨rfl,rfl,by assumption,fun c'=>by apply AtS.s8H24<;>first | assumption | rfl | omega⟩)
 case s8H24 g0 g1 g2 g3=>exact .inr (.inr (.inl ⟨rfl,rfl,by assumption,by apply AtS.s8H34<;>first | assumption | rfl | omega⟩))
 case s8H34 g0 g1 g2 g3=>exact .inr (.inr (.inr (.inl ⟨rfl,rfl,by assumption,by assumption,fun c'=>by apply AtS.s8H44<;>first | assumption | rfl | omega⟩)))
 case s9H05 g0 g1=>exact .inl ⟨rfl,rfl,by assumption,by apply AtS.s9H15<;>first | assumption | rfl | omega⟩
 case s9H15 g0 g1 g2=>exact .inr (.inl ⟨rfl,rfl,by assumption,fun c'=>by apply AtS.s9H25<;>first | assumption | rfl | omega⟩)
 case s9H25 g0 g1 g2=>exact .inr (.inr (.inl ⟨rfl,rfl,by assumption,by apply AtS.s9H35<;>first | assumption | rfl | omega⟩))
 case s9H35 g0 g1 g2=>exact .inr (.inr (.inr (.inl ⟨rfl,rfl,by assumption,by assumption,fun c'=>by apply AtS.s9H45<;>first | assumption | rfl | omega⟩)))
 case s9H45 g0 g1 g2=>exact .inr (.inr (.inr (.inr ⟨rfl,rfl,by assumption,fun c'=>by apply AtS.s9H55<;>first | assumption | rfl | omega⟩)))
 case s13H01 g0=>exact .inl ⟨rfl,rfl,by assumption,by apply AtS.s13H11<;>first | assumption | rfl | omega⟩
 case s14H01 g0 g1=>exact .inl ⟨rfl,rfl,by assumption,by apply AtS.s14H11<;>first | assumption | rfl | omega⟩
 case s15H01 g0=>exact .inl ⟨rfl,rfl,by assumption,by apply AtS.s15H11<;>first | assumption | rfl | omega⟩
 case s16H01 g0 g1=>exact .inl ⟨rfl,rfl,by assumption,by apply AtS.s16H11<;>first | assumption | rfl | omega⟩
 case s17H01 g0 g1 g2=>exact .inl ⟨rfl,rfl,by assumption,by apply AtS.s17H11<;>first | assumption | rfl | omega⟩
 case s18H01 g0 g1=>exact .inl ⟨rfl,rfl,by assumption,by apply AtS.s18H11<;>first | assumption | rfl | omega⟩
 case s19H02 g0=>exact .inl ⟨rfl,rfl,by assumption,by apply AtS.s19H12<;>first | assumption | rfl | omega⟩
 case s19H12 g0 g1=>exact .inr (.inl ⟨rfl,rfl,by assumption,fun c'=>by apply AtS.s19H22<;>first | assumption | rfl | omega⟩)
 case s20H02 g0=>exact .inl ⟨rfl,rfl,by assumption,by apply AtS.s20H12<;>first | assumption | rfl | omega⟩
 case s20H12 g0 g1=>exact .inr (.inl ⟨rfl,rfl,by assumption,fun c'=>by apply AtS.s20H22<;>first | assumption | rfl | omega⟩)
 case s21H02 g0 g1=>exact .inl ⟨rfl,rfl,by assumption,by apply AtS.s21H12<;>first | assumption | rfl | omega⟩
 case s21H12 g0 g1 g2=>exact .inr (.inl ⟨rfl,rfl,by assumption,fun c'=>by apply AtS.s21H22<;>first | assumption | rfl | omega⟩)
 case s22H02 g0 g1 g2=>exact .inl ⟨rfl,rfl,by assumption,by apply AtS.s22H12<;>first | assumption | rfl | omega⟩
 case s22H12 g0 g1 g2 g3=>exact .inr (.inl ⟨rfl,rfl,by assumption,fun c'=>by apply AtS.s22H22<;>first | assumption | rfl | omega⟩)
 case s23H02 g0 g1=>exact .inl ⟨rfl,rfl,by assumption,by apply AtS.s23H12<;>first | assumption | rfl | omega⟩
 case s23H12 g0 g1 g2=>exact .inr (.inl ⟨rfl,rfl,by assumption,fun c'=>by apply AtS.s23H22<;>first | assumption | rfl | omega⟩)
 case s26H02 g0=>exact .inl ⟨rfl,rfl,by assumption,by apply AtS.s26H12<;>first | assumption | rfl | omega⟩
 case s26H12 g0 g1=>exact .inr (.inl ⟨rfl,rfl,by assumption,fun c'=>by apply AtS.s26H22<;>first | assumption | rfl | omega⟩)
 case s27H02 g0 g1=>exact .inl ⟨rfl,rfl,by assumption,by apply AtS.s27H12<;>first | assumption | rfl | omega⟩
 case s27H12 g0 g1 g2=>exact .inr (.inl ⟨rfl,rfl,by assumption,fun c'=>by apply AtS.s27H22<;>first | assumption | rfl | omega⟩)
 case s28H03 g0=>exact .inl ⟨rfl,rfl,by assumption,by apply AtS.s28H13<;>first | assumption | rfl | omega⟩
 case s28H13 g0 g1=>exact .inr (.inl ⟨rfl,rfl,by assumption,fun c'=>by apply AtS.s28H23<;>first | assumption | rfl | omega⟩)
 case s28H23 g0 g1=>exact .inr (.inr (.inl ⟨rfl,rfl,by assumption,by apply AtS.s28H33<;>first | assumption | rfl | omega⟩))
 case s29H03 g0 g1=>exact .inl ⟨rfl,rfl,by assumption,by apply AtS.s29H13<;>first | assumption | rfl | omega⟩
 case s29H13 g0 g1 g2=>exact .inr (.inl ⟨rfl,rfl,by assumption,fun c'=>by apply AtS.s29H23<;>first | assumption | rfl | omega⟩)
 case s29H23 g0 g1 g2=>exact .inr (.inr (.inl ⟨rfl,rfl,by assumption,by apply AtS.s29H33<;>first | assumption | rfl | omega⟩))
 case s30H04 g0=>exact .inl ⟨rfl,rfl,by assumption,by apply AtS.s30H14<;>first | assumption | rfl | omega⟩
 case s30H14 g0 g1=>exact .inr (.inl ⟨rfl,rfl,by assumption,fun c'=>by apply AtS.s30H24<;>first | assumption | rfl | omega⟩)
 case s30H24 g0 g1=>exact .inr (.inr (.inl ⟨rfl,rfl,by assumption,by apply AtS.s30H34<;>first | assumption | rfl | omega⟩))
 case s30H34 g0 g1=>exact .inr (.inr (.inr (.inl ⟨rfl,rfl,by assumption,by assumption,fun c'=>by apply AtS.s30H44<;>first | assumption | rfl | omega⟩)))
 case s31H04 g0 g1=>exact .inl ⟨rfl,rfl,by assumption,by apply AtS.s31H14<;>first | assumption | rfl | omega⟩
 case s31H14 g0 g1 g2=>exact .inr (.inl ⟨rfl,rfl,by assumption,fun c'=>by apply AtS.s31H24<;>first | assumption | rfl | omega⟩)
 case s31H24 g0 g1 g2=>exact .inr (.inr (.inl ⟨rfl,rfl,by assumption,by apply AtS.s31H34<;>first | assumption | rfl | omega⟩))
 case s31H34 g0 g1 g2=>exact .inr (.inr (.inr (.inl ⟨rfl,rfl,by assumption,by assumption,fun c'=>by apply AtS.s31H44<;>first | assumption | rfl | omega⟩)))
end
def meN(t:Nat):Int:=((t+1:Nat):Int)
theorem meN_pos(t:Nat):0 < meN t:=by unfold meN;omega
theorem meN_ne{t u:Nat}(h:t≠u):meN t≠meN u:=by unfold meN;omega
structure Inw(A:Nat)(mem:List Int)(f:Nat→Loc)(q:Nat→List (Nat×Int))(σ σ':Nat)(c':Int)(pt:Bool)(g:Nat):Prop where
 pth:Pth (meN A) 18 σ (mem.getD 0 0) (q A) σ' c'
 hf:AtF (meN A) c' σ' pt (f A).j (f A).r1 (f A).r2 (f A).r4 (f A).r5 (f A).r6 (f A).r7
 mo:Mo (meN A) σ (mem.getD 18 0)
 fa:mem.getD 16 0=if σ=0 then 0 else 1
 hs:AtS (meN (1 - A)) (mem.getD 18 0) (mem.getD 0 0) g (f (1 - A)).j (f (1 - A)).r1 (f (1 - A)).r2 (f (1 - A)).r4 (f (1 - A)).r5 (f (1 - A)).r6 (f (1 - A)).r7 (q (1 - A))
 fb:mem.getD 17 0=if g=0 then 0 else 1
 cC:g=3→NoT 18 (qv 18 (meN A) (q A) pt)∧(σ=0∨σ=1)
 cW:g=2→AmT 18 (qv 18 (meN A) (q A) pt)∧(σ=0→NoT 18 (qv 18 (meN A) (q A) pt))
def X(A R:Nat):Wd.Lk:=⟨fun t=>if t=A then 36 else 32,R,2,19,fun t=>if t=A then inF else inS,fun t=>if t=A then 22 else 18,fun mem f q=>∃ σ σ' c' pt g,Inw A mem f q σ σ' c' pt g⟩
section
variable{A R t σ σ' g:Nat}{codes:List (List Ins)}{s:Ts}{f:Nat→Loc}{i c':Int}{mem:List Int}{q:Nat→List (Nat×Int)}{pt:Bool}
theorem Inw.free(h:Inw A mem f q σ σ' c' pt g)(h3:g=3):σ'=0∨σ'=1:=by
 obtain⟨h1,h2⟩:=h.cC h3
 refine (h.pth.free (fun e he=>h1 e ?_) h2 0).2
 unfold qv
 split
 ·exact List.mem_append_left _ he
 ·exact he
theorem Inw.fast{x:Loc}{q':List (Nat×Int)}{σ2:Nat}{c2:Int}{pt2:Bool}(h:Inw A mem f q σ σ' c' pt g)(hA:A < 2)(hp:Pth (meN A) 18 σ (mem.getD 0 0) q' σ2 c2)(hx:AtF (meN A) c2 σ2 pt2 x.j x.r1 x.r2 x.r4 x.r5 x.r6 x.r7)
  (h1:g=3→NoT 18 (qv 18 (meN A) (q A) pt)→NoT 18 (qv 18 (meN A) q' pt2)) (h2:g=2→AmT 18 (qv 18 (meN A) (q A) pt)→(σ=0→NoT 18 (qv 18 (meN A) (q A) pt))→AmT 18 (qv 18 (meN A) q' pt2)∧(σ=0→NoT 18 (qv 18 (meN A) q' pt2))):Inw A mem (upF f A x) (upF q A q') σ σ2 c2 pt2 g:=by
 have hne:1 - A≠A:=by omega
 refine⟨by rw [upF_self];exact hp,by rw [upF_self];exact hx,h.mo,h.fa,by rw [upF_ne _ _ hne,upF_ne _ _ hne];exact h.hs,h.fb,fun e=>?_,fun e=>?_⟩
 ·rw [upF_self];exact⟨h1 e (h.cC e).1,(h.cC e).2⟩
 ·rw [upF_self];exact h2 e (h.cW e).1 (h.cW e).2
theorem IF{x:Loc}(h:Inw A mem f q σ σ' c' pt g)(hA:A < 2)(hx:AtF (meN A) c' σ' pt x.j x.r1 x.r2 x.r4 x.r5 x.r6 x.r7):(X A R).I mem (upF f A x) q:=by
 have:=h.fast (q':=q A) hA h.pth hx (fun _ h=>h) (fun _ h h2=>⟨h,h2⟩)
 rw [upF_id q A] at this
 exact⟨_,_,_,_,_,this⟩
theorem Inw.slow{x:Loc}{q':List (Nat×Int)}{g2:Nat}(h:Inw A mem f q σ σ' c' pt g)(hA:A < 2)(hx:AtS (meN (1 - A)) (mem.getD 18 0) (mem.getD 0 0) g2 x.j x.r1 x.r2 x.r4 x.r5 x.r6 x.r7 q')(hb:g2=0↔g=0)
  (h1:g2=3→NoT 18 (qv 18 (meN A) (q A) pt)∧(σ=0∨σ=1)) (h2:g2=2→AmT 18 (qv 18 (meN A) (q A) pt)∧(σ=0→NoT 18 (qv 18 (meN A) (q A) pt))):Inw A mem (upF f (1 - A) x) (upF q (1 - A) q') σ σ' c' pt g2:=by
 have hne:A≠1 - A:=by omega
 refine⟨by rw [upF_ne _ _ hne];exact h.pth,by rw [upF_ne _ _ hne];exact h.hf,h.mo,h.fa,by rw [upF_self,upF_self];exact hx,?_,by rw [upF_ne _ _ hne];exact h1,by rw [upF_ne _ _ hne];exact h2⟩
 rw [h.fb]
 by_cases e:g=0
 ·rw [if_pos e,if_pos (hb.2 e)]
 ·rw [if_neg e,if_neg (fun e2=>e (hb.1 e2))]
theorem IS{x:Loc}(h:Inw A mem f q σ σ' c' pt g)(hA:A < 2)(hx:AtS (meN (1 - A)) (mem.getD 18 0) (mem.getD 0 0) g x.j x.r1 x.r2 x.r4 x.r5 x.r6 x.r7 (q (1 - A))):(X A R).I mem (upF f (1 - A) x) q:=by
 have:=h.slow (q':=q (1 - A)) hA hx Iff.rfl h.cC h.cW
 rw [upF_id q (1 - A)] at this
 exact⟨_,_,_,_,_,this⟩
theorem qv_cons(e:Nat×Int)(r:List (Nat×Int))(me:Int)(pt:Bool):qv 18 me (e::r) pt=e::qv 18 me r pt:=by
 unfold qv
 split<;>rfl
theorem if01{x:Nat}{v:Int}(h:v=if x=0 then 0 else 1)(h0:v=0):x=0:=by
 by_cases e:x=0
 ·exact e
 ·rw [if_neg e] at h;omega
theorem qv_mem{e:Nat×Int}{r:List (Nat×Int)}{me:Int}{pt:Bool}(h:e∈r):e∈qv 18 me r pt:=by
 unfold qv
 split
 ·exact List.mem_append_left _ h
 ·exact h
theorem not_tail{e:Nat×Int}{r:List (Nat×Int)}(h:NoT 18 (e::r)):NoT 18 r∧e.1≠18:=⟨fun x hx=>h x (List.mem_cons_of_mem _ hx),h e (List.mem_cons_self ..)⟩
theorem am_tail{e:Nat×Int}{r:List (Nat×Int)}(h:AmT 18 (e::r)):AmT 18 r∧(e=(16,0)→NoT 18 r):=by
 unfold AmT at h
 by_cases e1:e=(16,0)
 ·rw [if_pos e1] at h;exact⟨h.am,fun _=>h⟩
 ·rw [if_neg e1] at h;exact⟨h,fun e2=>absurd e2 e1⟩
theorem flushF(h:(X A R).Inv s f i)(hA:A < 2):(X A R).Inv (s.flush A) f i:=by
 refine h.flushed hA (fun e r hq=>?_)
 obtain⟨σ,σ',c',pt,g,hI⟩:=h.I
 have hnm:s.mem.length=19:=h.nm
 have hp:=hI.pth
 rw [hq] at hp
 have hne:1 - A≠A:=by omega
 have hcC:=hI.cC
 have hcW:=hI.cW
 rw [hq,qv_cons] at hcC hcW
 have fin:∀ {σ2:Nat},Pth (meN A) 18 σ2 ((s.mem.set e.1 e.2).getD 0 0) r σ' c'→Mo (meN A) σ2 ((s.mem.set e.1 e.2).getD 18 0)→(s.mem.set e.1 e.2).getD 16 0=(if σ2=0 then 0 else 1)→AtS (meN (1 - A)) ((s.mem.set e.1 e.2).getD 18 0) ((s.mem.set e.1 e.2).getD 0 0) g (f (1 - A)).j (f (1 - A)).r1 (f (1 - A)).r2 (f (1 - A)).r4 (f (1 - A)).r5 (f (1 - A)).r6 (f (1 - A)).r7 (s.buf (1 - A))→(s.mem.set e.1 e.2).getD 17 0=s.mem.getD 17 0→(g=3→σ2=0∨σ2=1)→(σ2=0→e=(16,0))→(X A R).I (s.mem.set e.1 e.2) f (upF s.buf A r):=fun h1 h2 h3 h4 h5 h6 h7=>by
  refine⟨_,σ',c',pt,g,by rw [upF_self];exact h1,hI.hf,h2,h3,by rw [upF_ne _ _ hne];exact h4,by rw [h5];exact hI.fb,fun e3=>⟨?_,h6 e3⟩,fun e2=>⟨?_,fun e0=>?_⟩⟩
  ·rw [upF_self];exact (not_tail (hcC e3).1).1
  ·rw [upF_self];exact (am_tail (hcW e2).1).1
  ·rw [upF_self];exact (am_tail (hcW e2).1).2 (h7 e0)
 have hoth:g≠3→∀ ow' c2,ow'≠meN (1 - A)→AtS (meN (1 - A)) ow' c2 g (f (1 - A)).j (f (1 - A)).r1 (f (1 - A)).r2 (f (1 - A)).r4 (f (1 - A)).r5 (f (1 - A)).r6 (f (1 - A)).r7 (s.buf (1 - A)):=fun h3 ow' c2 ho=>hI.hs.other h3 ho
 have hmo:=hI.mo
 have hmp:=meN_pos (1 - A)
 have hmn:=meN_ne (t:=A) (u:=1 - A) (by omega)
 generalize hσ':σ'=σ2 at hp
 generalize hc0:s.mem.getD 0 0=c at hp
 cases hp
 case up hp=>
  subst hσ'
  have m0:(s.mem.set 16 _).getD 0 0=_:=get_set (v:=1) (by omega) |>.trans (if_neg (by decide))
  have m16:(s.mem.set 16 _).getD 16 0=_:=get_set (v:=1) (by omega) |>.trans (if_pos rfl)
  have m17:(s.mem.set 16 _).getD 17 0=_:=get_set (v:=1) (by omega) |>.trans (if_neg (by decide))
  have m18:(s.mem.set 16 _).getD 18 0=_:=get_set (v:=1) (by omega) |>.trans (if_neg (by decide))
  exact⟨fin (by rw [m0];exact (by rw [hc0];exact hp)) (by rw [m18];exact⟨fun e=>by omega,fun e=>by omega,fun _=>hmo.2.2 (.inl rfl)⟩) (by rw [m16];rfl) (by rw [m18,m0];exact hI.hs) (m17) (fun e3=>.inr rfl) (fun e0=>absurd e0 (by decide)),.inl (show (16:Nat)≠0 by decide)⟩
 case down hp=>
  subst hσ'
  have m0:(s.mem.set 16 _).getD 0 0=_:=get_set (v:=0) (by omega) |>.trans (if_neg (by decide))
  have m16:(s.mem.set 16 _).getD 16 0=_:=get_set (v:=0) (by omega) |>.trans (if_pos rfl)
  have m17:(s.mem.set 16 _).getD 17 0=_:=get_set (v:=0) (by omega) |>.trans (if_neg (by decide))
  have m18:(s.mem.set 16 _).getD 18 0=_:=get_set (v:=0) (by omega) |>.trans (if_neg (by decide))
  exact⟨fin (by rw [m0];exact (by rw [hc0];exact hp)) (by rw [m18];exact⟨fun e=>by omega,fun e=>by omega,fun _=>hmo.2.2 (.inr rfl)⟩) (by rw [m16];rfl) (by rw [m18,m0];exact hI.hs) (m17) (fun e3=>.inl rfl) (fun e0=>rfl),.inl (show (16:Nat)≠0 by decide)⟩
 case own hp=>
  subst hσ'
  have m0:(s.mem.set 18 _).getD 0 0=_:=get_set (v:=meN A) (by omega) |>.trans (if_neg (by decide))
  have m16:(s.mem.set 18 _).getD 16 0=_:=get_set (v:=meN A) (by omega) |>.trans (if_neg (by decide))
  have m17:(s.mem.set 18 _).getD 17 0=_:=get_set (v:=meN A) (by omega) |>.trans (if_neg (by decide))
  have m18:(s.mem.set 18 _).getD 18 0=_:=get_set (v:=meN A) (by omega) |>.trans (if_pos rfl)
  exact⟨fin (by rw [m0];exact (by rw [hc0];exact hp)) (by rw [m18];exact⟨fun _=>rfl,fun e=>by omega,fun e=>by omega⟩) (by rw [m16];rw [hI.fa];rfl) (by rw [m18,m0];exact hoth (fun e3=>by have:=(hcC e3);have h1:=(not_tail this.1).2;have h2:=this.2;first | exact absurd rfl h1 | omega) _ _ hmn) (m17) (fun e3=>absurd e3 (fun e3=>by have:=(hcC e3);have h1:=(not_tail this.1).2;have h2:=this.2;first | exact absurd rfl h1 | omega)) (fun e0=>absurd e0 (by decide)),.inl (show (18:Nat)≠0 by decide)⟩
 case add hp=>
  subst hσ'
  have m0:(s.mem.set 0 _).getD 0 0=_:=get_set (v:=wr32 (c+1)) (by omega) |>.trans (if_pos rfl)
  have m16:(s.mem.set 0 _).getD 16 0=_:=get_set (v:=wr32 (c+1)) (by omega) |>.trans (if_neg (by decide))
  have m17:(s.mem.set 0 _).getD 17 0=_:=get_set (v:=wr32 (c+1)) (by omega) |>.trans (if_neg (by decide))
  have m18:(s.mem.set 0 _).getD 18 0=_:=get_set (v:=wr32 (c+1)) (by omega) |>.trans (if_neg (by decide))
  exact⟨fin (by rw [m0];exact hp) (by rw [m18];exact⟨fun _=>hmo.1 (.inl rfl),fun e=>by omega,fun e=>by omega⟩) (by rw [m16];rw [hI.fa];rfl) (by rw [m18,m0];exact hoth (fun e3=>by have:=(hcC e3);have h1:=(not_tail this.1).2;have h2:=this.2;first | exact absurd rfl h1 | omega) _ _ (hI.hs.out (fun e3=>by have:=(hcC e3);have h1:=(not_tail this.1).2;have h2:=this.2;first | exact absurd rfl h1 | omega)).1) (m17) (fun e3=>absurd e3 (fun e3=>by have:=(hcC e3);have h1:=(not_tail this.1).2;have h2:=this.2;first | exact absurd rfl h1 | omega)) (fun e0=>absurd e0 (by decide)),.inr ⟨rfl,by show 0 < 19;decide,(by first | rfl | (rw [hc0]))⟩⟩
 case rel hp=>
  subst hσ'
  have m0:(s.mem.set 18 _).getD 0 0=_:=get_set (v:=0) (by omega) |>.trans (if_neg (by decide))
  have m16:(s.mem.set 18 _).getD 16 0=_:=get_set (v:=0) (by omega) |>.trans (if_neg (by decide))
  have m17:(s.mem.set 18 _).getD 17 0=_:=get_set (v:=0) (by omega) |>.trans (if_neg (by decide))
  have m18:(s.mem.set 18 _).getD 18 0=_:=get_set (v:=0) (by omega) |>.trans (if_pos rfl)
  exact⟨fin (by rw [m0];exact (by rw [hc0];exact hp)) (by rw [m18];exact⟨fun e=>by omega,fun _=>rfl,fun e=>by omega⟩) (by rw [m16];rw [hI.fa];rfl) (by rw [m18,m0];exact hoth (fun e3=>by have:=(hcC e3);have h1:=(not_tail this.1).2;have h2:=this.2;first | exact absurd rfl h1 | omega) _ _ (by omega)) (m17) (fun e3=>absurd e3 (fun e3=>by have:=(hcC e3);have h1:=(not_tail this.1).2;have h2:=this.2;first | exact absurd rfl h1 | omega)) (fun e0=>absurd e0 (by decide)),.inl (show (18:Nat)≠0 by decide)⟩
 case off hp=>
  subst hσ'
  have m0:(s.mem.set 16 _).getD 0 0=_:=get_set (v:=0) (by omega) |>.trans (if_neg (by decide))
  have m16:(s.mem.set 16 _).getD 16 0=_:=get_set (v:=0) (by omega) |>.trans (if_pos rfl)
  have m17:(s.mem.set 16 _).getD 17 0=_:=get_set (v:=0) (by omega) |>.trans (if_neg (by decide))
  have m18:(s.mem.set 16 _).getD 18 0=_:=get_set (v:=0) (by omega) |>.trans (if_neg (by decide))
  exact⟨fin (by rw [m0];exact (by rw [hc0];exact hp)) (by rw [m18];exact⟨fun e=>by omega,fun e=>by omega,fun _=>by rw [hmo.2.1 rfl];have:=meN_pos A;omega⟩) (by rw [m16];rfl) (by rw [m18,m0];exact hI.hs) (m17) (fun e3=>.inl rfl) (fun e0=>rfl),.inl (show (16:Nat)≠0 by decide)⟩
theorem flushS(h:(X A R).Inv s f i)(hA:A < 2):(X A R).Inv (s.flush (1 - A)) f i:=by
 refine h.flushed (by show 1 - A < 2;omega) (fun e r hq=>?_)
 obtain⟨σ,σ',c',pt,g,hI⟩:=h.I
 have hnm:s.mem.length=19:=h.nm
 have hs:=hI.hs
 rw [hq] at hs
 have hne:A≠1 - A:=by omega
 have fin:∀ {g2:Nat} {c2:Int},Pth (meN A) 18 σ ((s.mem.set e.1 e.2).getD 0 0) (s.buf A) σ' c2→AtF (meN A) c2 σ' pt (f A).j (f A).r1 (f A).r2 (f A).r4 (f A).r5 (f A).r6 (f A).r7→Mo (meN A) σ ((s.mem.set e.1 e.2).getD 18 0)→(s.mem.set e.1 e.2).getD 16 0=s.mem.getD 16 0→AtS (meN (1 - A)) ((s.mem.set e.1 e.2).getD 18 0) ((s.mem.set e.1 e.2).getD 0 0) g2 (f (1 - A)).j (f (1 - A)).r1 (f (1 - A)).r2 (f (1 - A)).r4 (f (1 - A)).r5 (f (1 - A)).r6 (f (1 - A)).r7 r→(s.mem.set e.1 e.2).getD 17 0=(if g2=0 then 0 else 1)→(g2=3→g=3)→g2≠2→(X A R).I (s.mem.set e.1 e.2) f (upF s.buf (1 - A) r):=fun h1 h2 h3 h4 h5 h6 h7 h8=>by
  refine⟨σ,σ',_,pt,_,by rw [upF_ne _ _ hne];exact h1,h2,h3,by rw [h4];exact hI.fa,by rw [upF_self];exact h5,h6,fun e3=>?_,fun e2=>absurd e2 h8⟩
  rw [upF_ne _ _ hne];exact hI.cC (h7 e3)
 have hmp:=meN_pos A
 have hmn:=meN_ne (t:=A) (u:=1 - A) (by omega)
 have hNo:g=3→∀ c2,Pth (meN A) 18 σ c2 (s.buf A) σ' c2:=fun h3 c2=>(hI.pth.free (fun e he=>(hI.cC h3).1 e (qv_mem he)) (hI.cC h3).2 c2).1
 have hMo:g=3→∀ ow',ow'≠meN A→Mo (meN A) σ ow':=fun h3 ow' ho=>by
  have:=(hI.cC h3).2
  exact⟨fun e=>by omega,fun e=>by omega,fun _=>ho⟩
 obtain⟨ad,v⟩:=e
 rcases own_buf hs (meN_pos _) with⟨e0,e1,hg,hr⟩ | ⟨e0,e1,hg,hr⟩ | ⟨e0,e1,hg,hr⟩ | ⟨e0,e1,hg,hz,hr⟩ | ⟨e0,e1,hg,hr⟩
 ·dsimp only at e0 e1
  subst e0 e1
  have m0:(s.mem.set 18 (meN (1 - A))).getD 0 0=_:=(get_set (by omega)).trans (if_neg (by decide))
  have m16:(s.mem.set 18 (meN (1 - A))).getD 16 0=_:=(get_set (by omega)).trans (if_neg (by decide))
  have m17:(s.mem.set 18 (meN (1 - A))).getD 17 0=_:=(get_set (by omega)).trans (if_neg (by decide))
  have m18:(s.mem.set 18 (meN (1 - A))).getD 18 0=_:=(get_set (by omega)).trans (if_pos rfl)
  exact⟨fin (g2:=3) (by rw [m0];exact hI.pth) (hI.hf) (by rw [m18];exact hMo hg _ (fun e=>hmn e.symm)) m16 (by rw [m18,m0];exact hr) (by rw [m17];rw [hI.fb,hg]) (fun _=>hg) (by decide),.inl (show (18:Nat)≠0 by decide)⟩
 ·dsimp only at e0 e1
  subst e0 e1
  have m0:(s.mem.set 0 (wr32 (s.mem.getD 0 0+1))).getD 0 0=_:=(get_set (by omega)).trans (if_pos rfl)
  have m16:(s.mem.set 0 (wr32 (s.mem.getD 0 0+1))).getD 16 0=_:=(get_set (by omega)).trans (if_neg (by decide))
  have m17:(s.mem.set 0 (wr32 (s.mem.getD 0 0+1))).getD 17 0=_:=(get_set (by omega)).trans (if_neg (by decide))
  have m18:(s.mem.set 0 (wr32 (s.mem.getD 0 0+1))).getD 18 0=_:=(get_set (by omega)).trans (if_neg (by decide))
  exact⟨fin (g2:=3) (by rw [m0];exact hNo hg _) ((hI.hf.free (hI.free hg)).1) (by rw [m18];exact hI.mo) m16 (by rw [m18,m0];exact hr _) (by rw [m17];rw [hI.fb,hg]) (fun _=>hg) (by decide),.inr ⟨rfl,by show 0 < 19;decide,rfl⟩⟩
 ·dsimp only at e0 e1
  subst e0 e1
  have m0:(s.mem.set 18 (0)).getD 0 0=_:=(get_set (by omega)).trans (if_neg (by decide))
  have m16:(s.mem.set 18 (0)).getD 16 0=_:=(get_set (by omega)).trans (if_neg (by decide))
  have m17:(s.mem.set 18 (0)).getD 17 0=_:=(get_set (by omega)).trans (if_neg (by decide))
  have m18:(s.mem.set 18 (0)).getD 18 0=_:=(get_set (by omega)).trans (if_pos rfl)
  exact⟨fin (g2:=3) (by rw [m0];exact hI.pth) (hI.hf) (by rw [m18];exact hMo hg _ (by omega)) m16 (by rw [m18,m0];exact hr) (by rw [m17];rw [hI.fb,hg]) (fun _=>hg) (by decide),.inl (show (18:Nat)≠0 by decide)⟩
 ·dsimp only at e0 e1
  subst e0 e1
  have m0:(s.mem.set 17 (0)).getD 0 0=_:=(get_set (by omega)).trans (if_neg (by decide))
  have m16:(s.mem.set 17 (0)).getD 16 0=_:=(get_set (by omega)).trans (if_neg (by decide))
  have m17:(s.mem.set 17 (0)).getD 17 0=_:=(get_set (by omega)).trans (if_pos rfl)
  have m18:(s.mem.set 17 (0)).getD 18 0=_:=(get_set (by omega)).trans (if_neg (by decide))
  exact⟨fin (g2:=0) (by rw [m0];exact hI.pth) (hI.hf) (by rw [m18];exact hI.mo) m16 (by rw [m18,m0];exact hr _) (by rw [m17];rfl) (fun e=>absurd e (by decide)) (by decide),.inl (show (17:Nat)≠0 by decide)⟩
 ·dsimp only at e0 e1
  subst e0 e1
  have m0:(s.mem.set 17 (1)).getD 0 0=_:=(get_set (by omega)).trans (if_neg (by decide))
  have m16:(s.mem.set 17 (1)).getD 16 0=_:=(get_set (by omega)).trans (if_neg (by decide))
  have m17:(s.mem.set 17 (1)).getD 17 0=_:=(get_set (by omega)).trans (if_pos rfl)
  have m18:(s.mem.set 17 (1)).getD 18 0=_:=(get_set (by omega)).trans (if_neg (by decide))
  exact⟨fin (g2:=1) (by rw [m0];exact hI.pth) (hI.hf) (by rw [m18];exact hI.mo) m16 (by rw [m18,m0];exact hr _) (by rw [m17];rfl) (fun e=>absurd e (by decide)) (by decide),.inl (show (17:Nat)≠0 by decide)⟩
theorem flush(h:(X A R).Inv s f i)(ht:t < 2)(hA:A < 2):(X A R).Inv (s.flush t) f i:=by
 by_cases e:t=A
 ·subst e;exact flushF h hA
 ·obtain rfl:t=1 - A:=by omega
  exact flushS h hA
theorem X_F:(X A R).Lb A=36∧(X A R).inR A=inF∧(X A R).js A=22:=⟨if_pos rfl,if_pos rfl,if_pos rfl⟩
theorem X_S(hA:A < 2):(X A R).Lb (1 - A)=32∧(X A R).inR (1 - A)=inS∧(X A R).js (1 - A)=18:=⟨if_neg (by omega),if_neg (by omega),if_neg (by omega)⟩
set_option maxHeartbeats 8000000 in
theorem stepF(h:(X A R).Inv s f i)(hA:A < 2)(hR:R≤100)(hc:codes[A]? = some (codeF R A))(h0:(f A).st=0)(hp:(f A).p < R)(hj:(f A).j < 36):∃ s' f' i',s.stepT codes A=some s'∧(X A R).Inv s' f' i':=by
 obtain⟨eL,er,ej⟩:=X_F (A:=A) (R:=R)
 have ht:A < (X A R).T:=by show A < 2;omega
 obtain⟨x,hx⟩:∃ x,f A=x:=⟨_,rfl⟩
 obtain⟨σ,σ',c,pt,g,hI⟩:=h.I
 have hat:=hI.hf
 have hs:=h.hs _ ht
 have hnm:s.mem.length=19:=h.nm
 rw [hx] at hat hs h0 hp hj
 rw [eL] at hs
 obtain⟨p,j,r0,r1,r2,r3,r4,r5,r6,r7,st⟩:=x
 dsimp only at hat h0 hp hj
 subst h0
 obtain⟨me,hme⟩:∃ me:Int,me=meN A:=⟨_,rfl⟩
 have hme0:0 < me:=by have:=meN_pos A;omega
 have ins:=fun {i:Ins} (hi:(baseF me)[j]? = some i)=>at_ins (L:=36) (i:=i) hc hs (codeF_get R A p j hp hj) (by show (baseF (meN A))[j]? = _;rw [←hme];exact hi)
 have hq0:∃ q,s.buf A=q:=⟨_,rfl⟩
 obtain⟨q,hq⟩:=hq0
 have hpth:=hI.pth
 have hno:(lastQ q 17).getD (s.mem.getD 17 0)=s.mem.getD 17 0:=by rw [←hq];exact hpth.none_at (by decide) _
 have hcnt:(lastQ q 0).getD (s.mem.getD 0 0)=c:=by rw [←hq];exact hpth.cnt (by decide)
 have hmo:Mo me σ' ((lastQ q 18).getD (s.mem.getD 18 0)):=by rw [←hq,hme];exact hpth.mo (by decide) (by rw [←hme];exact hme0) hI.mo
 rw [hq] at hpth
 rw [←hme] at hat hpth
 generalize hv17:(lastQ q 17).getD (s.mem.getD 17 0)=v17 at hno
 generalize hv18:(lastQ q 18).getD (s.mem.getD 18 0)=v18 at hmo
 cases hat
 case f0  =>
  have hi:=ins (i:=⟨27,7,0,0,0⟩) rfl
  rw [movI_plain (i:=⟨27,7,0,0,0⟩) rfl] at hi
  have hmk:=st_mark hi
  have hg:=h.marked (t:=A) ⟨7,0,((p*36+0:Nat):Int),0,r7,0,0,false⟩ rfl (.inl rfl)
  have key:=W_loc hg ht eL er ej (⟨p,1,r0,r1,r2,r3,r4,r5,r6,r7,0⟩:Loc) (.inl ⟨rfl,hp,by show 1 < 36;decide⟩) (IF hI hA (by rw [←hme];exact (AtF.f1 ))) (by rw [hx];rfl) (by rw [hx]) (by rw [hx];rfl)
  rw [show Loc.th 36 _=_ from th_of rfl] at key
  exact⟨_,_,_,hmk,key⟩
 case f1  =>
  have hi:=ins (i:=⟨16,4,8,0,18⟩) rfl
  rw [movI_plain (i:=⟨16,4,8,0,18⟩) rfl] at hi
  have hst:=st_load hi (ad:=18) (addr_abs _ _ _ _ _) (by rw [hnm];omega)
  have hl:s.load A 18=v18:=by rw [load_q hq];assumption
  rw [hl] at hst
  have hg:=h.noted (t:=A) ⟨1,0,((p*36+1:Nat):Int),18,v18,0,0,false⟩ (show (1:Int)≠7 by decide) (show (1:Int)≠13 by decide)
  have hv:v18≠me:=hmo.2.2 (.inl rfl)
  have key:=W_loc hg ht eL er ej (⟨p,2,r0,r1,r2,r3,v18,r5,r6,r7,0⟩:Loc) (.inl ⟨rfl,hp,by show 2 < 36;decide⟩) (IF hI hA (by rw [←hme];exact (AtF.f2 (by first | assumption | rfl)))) (by rw [hx];rfl) (by rw [hx]) (by rw [hx];rfl)
  rw [show Loc.th 36 _=_ from th_of rfl] at key
  exact⟨_,_,_,hst,key⟩
 case f2 g0=>
  have hi:=ins (i:=⟨1,5,0,0,me⟩) rfl
  rw [movI_plain (i:=⟨1,5,0,0,me⟩) rfl] at hi
  have hst:=st_set hi
  have key:=W_loc h ht eL er ej (⟨p,3,r0,r1,r2,r3,r4,(me),r6,r7,0⟩:Loc) (.inl ⟨rfl,hp,by show 3 < 36;decide⟩) (IF hI hA (by rw [←hme];apply AtF.f3<;>first | assumption | rfl | (simp_all;done))) (by rw [hx];rfl) (by rw [hx]) (by rw [hx];rfl)
  rw [show Loc.th 36 _=_ from th_of rfl] at key
  exact⟨_,_,_,hst,key⟩
 case f3 g0 g1=>
  have hi:=ins (i:=⟨12,6,4,5,0⟩) rfl
  rw [movI_plain (i:=⟨12,6,4,5,0⟩) rfl] at hi
  have hst:=st_same hi
  have hv:(if r4=r5 then (1:Int) else 0)=0:=by simp_all
  have key:=W_loc h ht eL er ej (⟨p,4,r0,r1,r2,r3,r4,r5,(if r4=r5 then (1:Int) else 0),r7,0⟩:Loc) (.inl ⟨rfl,hp,by show 4 < 36;decide⟩) (IF hI hA (by rw [←hme];exact (AtF.f4 (by first | assumption | exact hv | (rw [hv];decide)) (by first | assumption | exact hv | (rw [hv];decide))))) (by rw [hx];rfl) (by rw [hx]) (by rw [hx];rfl)
  rw [show Loc.th 36 _=_ from th_of rfl] at key
  exact⟨_,_,_,hst,key⟩
 case f4 g0 g1=>
  have hi:=ins (i:=⟨14,6,0,0,7⟩) rfl
  rw [movI_jump (i:=⟨14,6,0,0,7⟩) rfl] at hi
  have hst:=st_zero hi
  by_cases hz:r6=0
  ·rw [if_pos (by exact hz)] at hst
   have key:=W_loc h ht eL er ej (⟨p,7,r0,r1,r2,r3,r4,r5,r6,r7,0⟩:Loc) (.inl ⟨rfl,hp,by show 7 < 36;decide⟩) (IF hI hA (by rw [←hme];exact (AtF.f7 (by first | assumption | (simp_all;done))))) (by rw [hx];rfl) (by rw [hx]) (by rw [hx];rfl)
   rw [show Loc.th 36 _=_ from th_jmp (by omega) (by decide) (by decide)] at key
   exact⟨_,_,_,hst,key⟩
  ·rw [if_neg (by exact hz)] at hst
   exfalso;simp_all
 case f7 g0=>
  have hi:=ins (i:=⟨1,4,0,0,1⟩) rfl
  rw [movI_plain (i:=⟨1,4,0,0,1⟩) rfl] at hi
  have hst:=st_set hi
  have key:=W_loc h ht eL er ej (⟨p,8,r0,r1,r2,r3,(1),r5,r6,r7,0⟩:Loc) (.inl ⟨rfl,hp,by show 8 < 36;decide⟩) (IF hI hA (by rw [←hme];apply AtF.f8<;>first | assumption | rfl | (simp_all;done))) (by rw [hx];rfl) (by rw [hx]) (by rw [hx];rfl)
  rw [show Loc.th 36 _=_ from th_of rfl] at key
  exact⟨_,_,_,hst,key⟩
 case f8 g0 g1=>
  have hi:=ins (i:=⟨17,4,8,0,16⟩) rfl
  rw [movI_plain (i:=⟨17,4,8,0,16⟩) rfl] at hi
  have hst:=st_store hi (ad:=16) (addr_abs _ _ _ _ _) (by rw [hnm];omega)
  by_cases hro:s.roomy A=true
  ·rw [if_pos hro] at hst
   have hrv:r4=1:=by assumption
   have key:=W_stored h ht eL er ej ((p*36+8:Nat):Int) 16 r4 (⟨p,9,r0,r1,r2,r3,r4,r5,r6,r7,0⟩:Loc) (.inl ⟨rfl,hp,by show 9 < 36;decide⟩) (⟨_,_,_,_,_,hI.fast (q':=s.buf A++[(16,r4)]) (pt2:=false) hA (by rw [hrv];exact hI.pth.trans (.up .nil)) (by rw [←hme];exact (AtF.f9 (by first | assumption | rfl | (simp_all;done)))) (by rw [hrv];exact fun _ h=>h.snoc (show (16:Nat)≠18 by decide)) (by rw [hrv];exact fun _ h h2=>⟨h.snoc (show (16:Nat)≠18 by decide),fun e0=>(h2 e0).snoc (show (16:Nat)≠18 by decide)⟩)⟩) (by rw [hx];rfl) (by rw [hx]) (.inl ⟨by decide,by rw [hx];rfl⟩)
   rw [show Loc.th 36 _=_ from th_of rfl] at key
   exact⟨_,_,_,hst,key⟩
  ·rw [if_neg hro] at hst
   exact⟨_,f,i,hst,flush h ht hA⟩
 case f9 g0=>
  have hi:=ins (i:=⟨16,4,8,0,17⟩) rfl
  rw [movI_plain (i:=⟨16,4,8,0,17⟩) rfl] at hi
  have hst:=st_load hi (ad:=17) (addr_abs _ _ _ _ _) (by rw [hnm];omega)
  have hl:s.load A 17=v17:=by rw [load_q hq];assumption
  rw [hl] at hst
  have hg:=h.noted (t:=A) ⟨1,0,((p*36+9:Nat):Int),17,v17,0,0,false⟩ (show (1:Int)≠7 by decide) (show (1:Int)≠13 by decide)
  by_cases hz:v17=0
  ·have hg0:g=0:=if01 hI.fb (by omega)
   have key:=W_loc hg ht eL er ej (⟨p,10,r0,r1,r2,r3,v17,r5,r6,r7,0⟩:Loc) (.inl ⟨rfl,hp,by show 10 < 36;decide⟩) (⟨_,_,_,_,_,by have:=hI.fast (x:=⟨p,10,r0,r1,r2,r3,v17,r5,r6,r7,0⟩) (q':=s.buf A) (pt2:=true) hA hI.pth (by rw [←hme];exact (AtF.f10t (by first | assumption | exact hz) (by first | assumption | exact hz))) (fun e=>absurd e (by omega)) (fun e=>absurd e (by omega));rw [upF_id s.buf A] at this;exact this⟩) (by rw [hx];rfl) (by rw [hx]) (by rw [hx];rfl)
   rw [show Loc.th 36 _=_ from th_of rfl] at key
   exact⟨_,_,_,hst,key⟩
  ·skip
   have key:=W_loc hg ht eL er ej (⟨p,10,r0,r1,r2,r3,v17,r5,r6,r7,0⟩:Loc) (.inl ⟨rfl,hp,by show 10 < 36;decide⟩) (IF hI hA (by rw [←hme];exact (AtF.f10 (by first | assumption | exact hz) (by first | assumption | exact hz)))) (by rw [hx];rfl) (by rw [hx]) (by rw [hx];rfl)
   rw [show Loc.th 36 _=_ from th_of rfl] at key
   exact⟨_,_,_,hst,key⟩
 case f10 g0 g1=>
  have hi:=ins (i:=⟨14,4,0,0,16⟩) rfl
  rw [movI_jump (i:=⟨14,4,0,0,16⟩) rfl] at hi
  have hst:=st_zero hi
  by_cases hz:r4=0
  ·rw [if_pos (by exact hz)] at hst
   exfalso;simp_all
  ·rw [if_neg (by exact hz)] at hst
   have key:=W_loc h ht eL er ej (⟨p,11,r0,r1,r2,r3,r4,r5,r6,r7,0⟩:Loc) (.inl ⟨rfl,hp,by show 11 < 36;decide⟩) (IF hI hA (by rw [←hme];exact (AtF.f11 (by first | assumption | (simp_all;done))))) (by rw [hx];rfl) (by rw [hx]) (by rw [hx];rfl)
   rw [show Loc.th 36 _=_ from th_of rfl] at key
   exact⟨_,_,_,hst,key⟩
 case f10t g0 g1=>
  have hi:=ins (i:=⟨14,4,0,0,16⟩) rfl
  rw [movI_jump (i:=⟨14,4,0,0,16⟩) rfl] at hi
  have hst:=st_zero hi
  by_cases hz:r4=0
  ·rw [if_pos (by exact hz)] at hst
   have key:=W_loc h ht eL er ej (⟨p,16,r0,r1,r2,r3,r4,r5,r6,r7,0⟩:Loc) (.inl ⟨rfl,hp,by show 16 < 36;decide⟩) (IF hI hA (by rw [←hme];exact (AtF.f16t (by first | assumption | (simp_all;done))))) (by rw [hx];rfl) (by rw [hx]) (by rw [hx];rfl)
   rw [show Loc.th 36 _=_ from th_jmp (by omega) (by decide) (by decide)] at key
   exact⟨_,_,_,hst,key⟩
  ·rw [if_neg (by exact hz)] at hst
   exfalso;simp_all
 case f11 g0=>
  have hi:=ins (i:=⟨1,4,0,0,0⟩) rfl
  rw [movI_plain (i:=⟨1,4,0,0,0⟩) rfl] at hi
  have hst:=st_set hi
  have key:=W_loc h ht eL er ej (⟨p,12,r0,r1,r2,r3,(0),r5,r6,r7,0⟩:Loc) (.inl ⟨rfl,hp,by show 12 < 36;decide⟩) (IF hI hA (by rw [←hme];apply AtF.f12<;>first | assumption | rfl | (simp_all;done))) (by rw [hx];rfl) (by rw [hx]) (by rw [hx];rfl)
  rw [show Loc.th 36 _=_ from th_of rfl] at key
  exact⟨_,_,_,hst,key⟩
 case f12 g0 g1=>
  have hi:=ins (i:=⟨17,4,8,0,16⟩) rfl
  rw [movI_plain (i:=⟨17,4,8,0,16⟩) rfl] at hi
  have hst:=st_store hi (ad:=16) (addr_abs _ _ _ _ _) (by rw [hnm];omega)
  by_cases hro:s.roomy A=true
  ·rw [if_pos hro] at hst
   have hrv:r4=0:=by assumption
   have key:=W_stored h ht eL er ej ((p*36+12:Nat):Int) 16 r4 (⟨p,13,r0,r1,r2,r3,r4,r5,r6,r7,0⟩:Loc) (.inl ⟨rfl,hp,by show 13 < 36;decide⟩) (⟨_,_,_,_,_,hI.fast (q':=s.buf A++[(16,r4)]) (pt2:=false) hA (by rw [hrv];exact hI.pth.trans (.down .nil)) (by rw [←hme];exact (AtF.f13 (by first | assumption | rfl | (simp_all;done)))) (by rw [hrv];exact fun _ h=>h.snoc (show (16:Nat)≠18 by decide)) (by rw [hrv];exact fun _ h h2=>⟨h.snoc (show (16:Nat)≠18 by decide),fun e0=>(h2 e0).snoc (show (16:Nat)≠18 by decide)⟩)⟩) (by rw [hx];rfl) (by rw [hx]) (.inl ⟨by decide,by rw [hx];rfl⟩)
   rw [show Loc.th 36 _=_ from th_of rfl] at key
   exact⟨_,_,_,hst,key⟩
  ·rw [if_neg hro] at hst
   exact⟨_,f,i,hst,flush h ht hA⟩
 case f13 g0=>
  have hi:=ins (i:=⟨16,4,8,0,17⟩) rfl
  rw [movI_plain (i:=⟨16,4,8,0,17⟩) rfl] at hi
  have hst:=st_load hi (ad:=17) (addr_abs _ _ _ _ _) (by rw [hnm];omega)
  have hl:s.load A 17=v17:=by rw [load_q hq];assumption
  rw [hl] at hst
  have hg:=h.noted (t:=A) ⟨1,0,((p*36+13:Nat):Int),17,v17,0,0,false⟩ (show (1:Int)≠7 by decide) (show (1:Int)≠13 by decide)
  have key:=W_loc hg ht eL er ej (⟨p,14,r0,r1,r2,r3,v17,r5,r6,r7,0⟩:Loc) (.inl ⟨rfl,hp,by show 14 < 36;decide⟩) (IF hI hA (by rw [←hme];exact (AtF.f14 (by first | assumption | rfl | omega | (intro e;dsimp only at e;omega))))) (by rw [hx];rfl) (by rw [hx]) (by rw [hx];rfl)
  rw [show Loc.th 36 _=_ from th_of rfl] at key
  exact⟨_,_,_,hst,key⟩
 case f14 g0=>
  have hi:=ins (i:=⟨15,4,0,0,13⟩) rfl
  rw [movI_jump (i:=⟨15,4,0,0,13⟩) rfl] at hi
  have hst:=st_some hi
  by_cases hz:r4≠0
  ·rw [if_pos (by exact hz)] at hst
   have key:=W_loc h ht eL er ej (⟨p,13,r0,r1,r2,r3,r4,r5,r6,r7,0⟩:Loc) (.inl ⟨rfl,hp,by show 13 < 36;decide⟩) (IF hI hA (by rw [←hme];exact (AtF.f13 (by first | assumption | (simp_all;done))))) (by rw [hx];rfl) (by rw [hx]) (by rw [hx];rfl)
   rw [show Loc.th 36 _=_ from th_jmp (by omega) (by decide) (by decide)] at key
   exact⟨_,_,_,hst,key⟩
  ·rw [if_neg (by exact hz)] at hst
   have key:=W_loc h ht eL er ej (⟨p,15,r0,r1,r2,r3,r4,r5,r6,r7,0⟩:Loc) (.inl ⟨rfl,hp,by show 15 < 36;decide⟩) (IF hI hA (by rw [←hme];exact (AtF.f15 (by first | assumption | (simp_all;done))))) (by rw [hx];rfl) (by rw [hx]) (by rw [hx];rfl)
   rw [show Loc.th 36 _=_ from th_of rfl] at key
   exact⟨_,_,_,hst,key⟩
 case f15 g0=>
  have hi:=ins (i:=⟨13,0,0,0,7⟩) rfl
  rw [movI_jump (i:=⟨13,0,0,0,7⟩) rfl] at hi
  have hst:=st_jump hi
  have key:=W_loc h ht eL er ej (⟨p,7,r0,r1,r2,r3,r4,r5,r6,r7,0⟩:Loc) (.inl ⟨rfl,hp,by show 7 < 36;decide⟩) (IF hI hA (by rw [←hme];exact (AtF.f7 (by first | assumption | rfl | (simp_all;done))))) (by rw [hx];rfl) (by rw [hx]) (by rw [hx];rfl)
  rw [show Loc.th 36 _=_ from th_jmp (by omega) (by decide) (by decide)] at key
  exact⟨_,_,_,hst,key⟩
 case f16t g0=>
  have hi:=ins (i:=⟨17,5,8,0,18⟩) rfl
  rw [movI_plain (i:=⟨17,5,8,0,18⟩) rfl] at hi
  have hst:=st_store hi (ad:=18) (addr_abs _ _ _ _ _) (by rw [hnm];omega)
  by_cases hro:s.roomy A=true
  ·rw [if_pos hro] at hst
   have hrv:r5=me:=by assumption
   have key:=W_stored h ht eL er ej ((p*36+16:Nat):Int) 18 r5 (⟨p,17,r0,r1,r2,r3,r4,r5,r6,r7,0⟩:Loc) (.inl ⟨rfl,hp,by show 17 < 36;decide⟩) (⟨_,_,_,_,_,hI.fast (q':=s.buf A++[(18,r5)]) (pt2:=false) hA (by rw [hrv,hme];exact hI.pth.trans (.own .nil)) (by rw [←hme];exact (AtF.f17 )) (by rw [hrv,hme];exact fun _ h=>h) (by rw [hrv,hme];exact fun _ h h2=>⟨h,h2⟩)⟩) (by rw [hx];rfl) (by rw [hx]) (.inl ⟨by decide,by rw [hx];rfl⟩)
   rw [show Loc.th 36 _=_ from th_of rfl] at key
   exact⟨_,_,_,hst,key⟩
  ·rw [if_neg hro] at hst
   exact⟨_,f,i,hst,flush h ht hA⟩
 case f17  =>
  have hi:=ins (i:=⟨1,7,0,0,0⟩) rfl
  rw [movI_plain (i:=⟨1,7,0,0,0⟩) rfl] at hi
  have hst:=st_set hi
  have key:=W_loc h ht eL er ej (⟨p,18,r0,r1,r2,r3,r4,r5,r6,(0),0⟩:Loc) (.inl ⟨rfl,hp,by show 18 < 36;decide⟩) (IF hI hA (by rw [←hme];exact (AtF.f18 (by first | assumption | rfl | (simp_all;done))))) (by rw [hx];rfl) (by rw [hx]) (by rw [hx];rfl)
  rw [show Loc.th 36 _=_ from th_of rfl] at key
  exact⟨_,_,_,hst,key⟩
 case f18 g0=>
  have hi:=ins (i:=⟨27,7,0,0,1⟩) rfl
  rw [movI_plain (i:=⟨27,7,0,0,1⟩) rfl] at hi
  have hmk:=st_mark hi
  have r70:r7=0:=by assumption
  subst r70
  have key:=W_enters h ht eL er ej ((p*36+18:Nat):Int) (⟨p,19,r0,r1,r2,r3,r4,r5,r6,0,0⟩:Loc) (.inl ⟨rfl,hp,by show 19 < 36;decide⟩) (IF hI hA (by rw [←hme];exact (AtF.f19 ))) (fun u hu=>by
   have hu:u < 2:=hu
   by_cases e:u=A
   ·subst e;rw [er,hx];rfl
   ·have hg3:g≠3:=fun e=>by have:=hI.free e;omega
    obtain rfl:u=1 - A:=by omega
    rw [(X_S hA).2.1];exact (hI.hs.out hg3).2) rfl (by rw [hx]) (by rw [hx];rfl)
  rw [show Loc.th 36 _=_ from th_of rfl] at key
  exact⟨_,_,_,hmk,key⟩
 case f19  =>
  have hi:=ins (i:=⟨16,1,8,0,0⟩) rfl
  rw [movI_plain (i:=⟨16,1,8,0,0⟩) rfl] at hi
  have hst:=st_load hi (ad:=0) (addr_abs _ _ _ _ _) (by rw [hnm];omega)
  have hl:s.load A 0=c:=by rw [load_q hq];assumption
  rw [hl] at hst
  have hg:=h.noted (t:=A) ⟨1,0,((p*36+19:Nat):Int),0,c,0,0,false⟩ (show (1:Int)≠7 by decide) (show (1:Int)≠13 by decide)
  have key:=W_loc hg ht eL er ej (⟨p,20,r0,c,r2,r3,r4,r5,r6,r7,0⟩:Loc) (.inl ⟨rfl,hp,by show 20 < 36;decide⟩) (IF hI hA (by rw [←hme];exact (AtF.f20 (by first | assumption | rfl | omega | (intro e;dsimp only at e;omega))))) (by rw [hx];rfl) (by rw [hx]) (by rw [hx];rfl)
  rw [show Loc.th 36 _=_ from th_of rfl] at key
  exact⟨_,_,_,hst,key⟩
 case f20 g0=>
  have hi:=ins (i:=⟨1,2,0,0,1⟩) rfl
  rw [movI_plain (i:=⟨1,2,0,0,1⟩) rfl] at hi
  have hst:=st_set hi
  have key:=W_loc h ht eL er ej (⟨p,21,r0,r1,(1),r3,r4,r5,r6,r7,0⟩:Loc) (.inl ⟨rfl,hp,by show 21 < 36;decide⟩) (IF hI hA (by rw [←hme];apply AtF.f21<;>first | assumption | rfl | (simp_all;done))) (by rw [hx];rfl) (by rw [hx]) (by rw [hx];rfl)
  rw [show Loc.th 36 _=_ from th_of rfl] at key
  exact⟨_,_,_,hst,key⟩
 case f21 g0 g1=>
  have hi:=ins (i:=⟨3,1,1,2,0⟩) rfl
  rw [movI_plain (i:=⟨3,1,1,2,0⟩) rfl] at hi
  have hst:=st_add hi
  have key:=W_loc h ht eL er ej (⟨p,22,r0,(wr32 (r1+r2)),r2,r3,r4,r5,r6,r7,0⟩:Loc) (.inl ⟨rfl,hp,by show 22 < 36;decide⟩) (IF hI hA (by rw [←hme];exact (AtF.f22 (by first | assumption | rfl | (simp_all;done))))) (by rw [hx];rfl) (by rw [hx]) (by rw [hx];rfl)
  rw [show Loc.th 36 _=_ from th_of rfl] at key
  exact⟨_,_,_,hst,key⟩
 case f22 g0=>
  have hi:=ins (i:=⟨17,1,8,0,0⟩) rfl
  rw [movI_plain (i:=⟨17,1,8,0,0⟩) rfl] at hi
  have hst:=st_store hi (ad:=0) (addr_abs _ _ _ _ _) (by rw [hnm];omega)
  by_cases hro:s.roomy A=true
  ·rw [if_pos hro] at hst
   have hrv:r1=(wr32 (c+1)):=by assumption
   have key:=W_stored h ht eL er ej ((p*36+22:Nat):Int) 0 r1 (⟨p,23,r0,r1,r2,r3,r4,r5,r6,r7,0⟩:Loc) (.inl ⟨rfl,hp,by show 23 < 36;decide⟩) (⟨_,_,_,_,_,hI.fast (q':=s.buf A++[(0,r1)]) (pt2:=false) hA (by rw [hrv];exact hI.pth.trans (.add .nil)) (by rw [←hme];exact (AtF.f23 )) (by rw [hrv];exact fun _ h=>h.snoc (show (0:Nat)≠18 by decide)) (by rw [hrv];exact fun _ h h2=>⟨h.snoc (show (0:Nat)≠18 by decide),fun e0=>(h2 e0).snoc (show (0:Nat)≠18 by decide)⟩)⟩) (by rw [hx];rfl) (by rw [hx]) (.inr ⟨rfl,by rw [hx],rfl⟩)
   rw [show Loc.th 36 _=_ from th_of rfl] at key
   exact⟨_,_,_,hst,key⟩
  ·rw [if_neg hro] at hst
   exact⟨_,f,i,hst,flush h ht hA⟩
 case f23  =>
  have hi:=ins (i:=⟨27,7,0,0,2⟩) rfl
  rw [movI_plain (i:=⟨27,7,0,0,2⟩) rfl] at hi
  have hmk:=st_mark hi
  have key:=W_leaves h ht eL er ej ((p*36+23:Nat):Int) r7 (⟨p,24,r0,r1,r2,r3,r4,r5,r6,r7,0⟩:Loc) (.inl ⟨rfl,hp,by show 24 < 36;decide⟩) (IF hI hA (by rw [←hme];exact (AtF.f24 ))) (by rw [hx];rfl) rfl (by rw [hx]) (by rw [hx];rfl)
  rw [show Loc.th 36 _=_ from th_of rfl] at key
  exact⟨_,_,_,hmk,key⟩
 case f24  =>
  have hi:=ins (i:=⟨16,4,8,0,18⟩) rfl
  rw [movI_plain (i:=⟨16,4,8,0,18⟩) rfl] at hi
  have hst:=st_load hi (ad:=18) (addr_abs _ _ _ _ _) (by rw [hnm];omega)
  have hl:s.load A 18=v18:=by rw [load_q hq];assumption
  rw [hl] at hst
  have hg:=h.noted (t:=A) ⟨1,0,((p*36+24:Nat):Int),18,v18,0,0,false⟩ (show (1:Int)≠7 by decide) (show (1:Int)≠13 by decide)
  have hv:v18=me:=hmo.1 (.inr rfl)
  have key:=W_loc hg ht eL er ej (⟨p,25,r0,r1,r2,r3,v18,r5,r6,r7,0⟩:Loc) (.inl ⟨rfl,hp,by show 25 < 36;decide⟩) (IF hI hA (by rw [←hme];exact (AtF.f25 (by first | assumption | rfl)))) (by rw [hx];rfl) (by rw [hx]) (by rw [hx];rfl)
  rw [show Loc.th 36 _=_ from th_of rfl] at key
  exact⟨_,_,_,hst,key⟩
 case f25 g0=>
  have hi:=ins (i:=⟨1,5,0,0,me⟩) rfl
  rw [movI_plain (i:=⟨1,5,0,0,me⟩) rfl] at hi
  have hst:=st_set hi
  have key:=W_loc h ht eL er ej (⟨p,26,r0,r1,r2,r3,r4,(me),r6,r7,0⟩:Loc) (.inl ⟨rfl,hp,by show 26 < 36;decide⟩) (IF hI hA (by rw [←hme];apply AtF.f26<;>first | assumption | rfl | (simp_all;done))) (by rw [hx];rfl) (by rw [hx]) (by rw [hx];rfl)
  rw [show Loc.th 36 _=_ from th_of rfl] at key
  exact⟨_,_,_,hst,key⟩
 case f26 g0 g1=>
  have hi:=ins (i:=⟨12,6,4,5,0⟩) rfl
  rw [movI_plain (i:=⟨12,6,4,5,0⟩) rfl] at hi
  have hst:=st_same hi
  have hv:(if r4=r5 then (1:Int) else 0)=1:=by simp_all
  have key:=W_loc h ht eL er ej (⟨p,27,r0,r1,r2,r3,r4,r5,(if r4=r5 then (1:Int) else 0),r7,0⟩:Loc) (.inl ⟨rfl,hp,by show 27 < 36;decide⟩) (IF hI hA (by rw [←hme];exact (AtF.f27 (by first | assumption | exact hv | (rw [hv];decide))))) (by rw [hx];rfl) (by rw [hx]) (by rw [hx];rfl)
  rw [show Loc.th 36 _=_ from th_of rfl] at key
  exact⟨_,_,_,hst,key⟩
 case f27 g0=>
  have hi:=ins (i:=⟨15,6,0,0,30⟩) rfl
  rw [movI_jump (i:=⟨15,6,0,0,30⟩) rfl] at hi
  have hst:=st_some hi
  by_cases hz:r6≠0
  ·rw [if_pos (by exact hz)] at hst
   have key:=W_loc h ht eL er ej (⟨p,30,r0,r1,r2,r3,r4,r5,r6,r7,0⟩:Loc) (.inl ⟨rfl,hp,by show 30 < 36;decide⟩) (IF hI hA (by rw [←hme];exact (AtF.f30 ))) (by rw [hx];rfl) (by rw [hx]) (by rw [hx];rfl)
   rw [show Loc.th 36 _=_ from th_jmp (by omega) (by decide) (by decide)] at key
   exact⟨_,_,_,hst,key⟩
  ·rw [if_neg (by exact hz)] at hst
   exfalso;simp_all
 case f30  =>
  have hi:=ins (i:=⟨1,4,0,0,0⟩) rfl
  rw [movI_plain (i:=⟨1,4,0,0,0⟩) rfl] at hi
  have hst:=st_set hi
  have key:=W_loc h ht eL er ej (⟨p,31,r0,r1,r2,r3,(0),r5,r6,r7,0⟩:Loc) (.inl ⟨rfl,hp,by show 31 < 36;decide⟩) (IF hI hA (by rw [←hme];exact (AtF.f31 (by first | assumption | rfl | (simp_all;done))))) (by rw [hx];rfl) (by rw [hx]) (by rw [hx];rfl)
  rw [show Loc.th 36 _=_ from th_of rfl] at key
  exact⟨_,_,_,hst,key⟩
 case f31 g0=>
  have hi:=ins (i:=⟨17,4,8,0,18⟩) rfl
  rw [movI_plain (i:=⟨17,4,8,0,18⟩) rfl] at hi
  have hst:=st_store hi (ad:=18) (addr_abs _ _ _ _ _) (by rw [hnm];omega)
  by_cases hro:s.roomy A=true
  ·rw [if_pos hro] at hst
   have hrv:r4=0:=by assumption
   have key:=W_stored h ht eL er ej ((p*36+31:Nat):Int) 18 r4 (⟨p,32,r0,r1,r2,r3,r4,r5,r6,r7,0⟩:Loc) (.inl ⟨rfl,hp,by show 32 < 36;decide⟩) (⟨_,_,_,_,_,hI.fast (q':=s.buf A++[(18,r4)]) (pt2:=false) hA (by rw [hrv];exact hI.pth.trans (.rel .nil)) (by rw [←hme];exact (AtF.f32 )) (by rw [hrv];exact fun e3 _=>absurd (hI.free e3) (by decide)) (by rw [hrv];exact fun e2 ha hn=>⟨AmT.none (hI.pth.am_in (by decide) ha hn (.inr (.inl rfl))),fun e0=>absurd (hI.pth.free (hn e0) (.inl e0) 0).2 (by decide)⟩)⟩) (by rw [hx];rfl) (by rw [hx]) (.inl ⟨by decide,by rw [hx];rfl⟩)
   rw [show Loc.th 36 _=_ from th_of rfl] at key
   exact⟨_,_,_,hst,key⟩
  ·rw [if_neg hro] at hst
   exact⟨_,f,i,hst,flush h ht hA⟩
 case f32  =>
  have hi:=ins (i:=⟨1,4,0,0,0⟩) rfl
  rw [movI_plain (i:=⟨1,4,0,0,0⟩) rfl] at hi
  have hst:=st_set hi
  have key:=W_loc h ht eL er ej (⟨p,33,r0,r1,r2,r3,(0),r5,r6,r7,0⟩:Loc) (.inl ⟨rfl,hp,by show 33 < 36;decide⟩) (IF hI hA (by rw [←hme];exact (AtF.f33 (by first | assumption | rfl | (simp_all;done))))) (by rw [hx];rfl) (by rw [hx]) (by rw [hx];rfl)
  rw [show Loc.th 36 _=_ from th_of rfl] at key
  exact⟨_,_,_,hst,key⟩
 case f33 g0=>
  have hi:=ins (i:=⟨17,4,8,0,16⟩) rfl
  rw [movI_plain (i:=⟨17,4,8,0,16⟩) rfl] at hi
  have hst:=st_store hi (ad:=16) (addr_abs _ _ _ _ _) (by rw [hnm];omega)
  by_cases hro:s.roomy A=true
  ·rw [if_pos hro] at hst
   have hrv:r4=0:=by assumption
   have key:=W_stored h ht eL er ej ((p*36+33:Nat):Int) 16 r4 (⟨p,34,r0,r1,r2,r3,r4,r5,r6,r7,0⟩:Loc) (.inl ⟨rfl,hp,by show 34 < 36;decide⟩) (⟨_,_,_,_,_,hI.fast (q':=s.buf A++[(16,r4)]) (pt2:=false) hA (by rw [hrv];exact hI.pth.trans (.off .nil)) (by rw [←hme];exact (AtF.f34 )) (by rw [hrv];exact fun _ h=>h.snoc (show (16:Nat)≠18 by decide)) (by rw [hrv];exact fun _ h h2=>⟨h.snoc (show (16:Nat)≠18 by decide),fun e0=>(h2 e0).snoc (show (16:Nat)≠18 by decide)⟩)⟩) (by rw [hx];rfl) (by rw [hx]) (.inl ⟨by decide,by rw [hx];rfl⟩)
   rw [show Loc.th 36 _=_ from th_of rfl] at key
   exact⟨_,_,_,hst,key⟩
  ·rw [if_neg hro] at hst
   exact⟨_,f,i,hst,flush h ht hA⟩
 case f34  =>
  have hi:=ins (i:=⟨1,7,0,0,0⟩) rfl
  rw [movI_plain (i:=⟨1,7,0,0,0⟩) rfl] at hi
  have hst:=st_set hi
  have key:=W_loc h ht eL er ej (⟨p,35,r0,r1,r2,r3,r4,r5,r6,(0),0⟩:Loc) (.inl ⟨rfl,hp,by show 35 < 36;decide⟩) (IF hI hA (by rw [←hme];exact (AtF.f35 (by first | assumption | rfl | (simp_all;done))))) (by rw [hx];rfl) (by rw [hx]) (by rw [hx];rfl)
  rw [show Loc.th 36 _=_ from th_of rfl] at key
  exact⟨_,_,_,hst,key⟩
 case f35 g0=>
  have hi:=ins (i:=⟨27,7,0,0,3⟩) rfl
  rw [movI_plain (i:=⟨27,7,0,0,3⟩) rfl] at hi
  have hmk:=st_mark hi
  have hg:=h.marked (t:=A) ⟨7,0,((p*36+35:Nat):Int),0,r7,0,3,false⟩ rfl (.inr ⟨rfl,by assumption⟩)
  have key:=W_again hg ht eL er ej (⟨p+1,0,r0,r1,r2,r3,r4,r5,r6,r7,0⟩:Loc) (by
   by_cases e:p+1 < R
   ·exact .inl ⟨rfl,e,by show 0 < 36;decide⟩
   ·exact .inr ⟨by show p+1=R;omega,rfl,.inl rfl⟩) (IF hI hA (by rw [←hme];exact (AtF.f0 ))) (by rw [hx];rfl) (by rw [hx]) (by rw [hx];show 22 < 35;decide) rfl
  rw [show Loc.th 36 _=_ from th_last rfl] at key
  exact⟨_,_,_,hmk,key⟩
set_option maxHeartbeats 8000000 in
theorem stepS(h:(X A R).Inv s f i)(hA:A < 2)(hR:R≤100)(hc:codes[(1 - A)]? = some (codeS R (1 - A)))(h0:(f (1 - A)).st=0)(hp:(f (1 - A)).p < R)(hj:(f (1 - A)).j < 32):∃ s' f' i',s.stepT codes (1 - A)=some s'∧(X A R).Inv s' f' i':=by
 obtain⟨eL,er,ej⟩:=X_S (R:=R) hA
 have ht:(1 - A) < (X A R).T:=by show (1 - A) < 2;omega
 obtain⟨x,hx⟩:∃ x,f (1 - A)=x:=⟨_,rfl⟩
 obtain⟨σ,σ',c,pt,g,hI⟩:=h.I
 have hat:=hI.hs
 have hs:=h.hs _ ht
 have hnm:s.mem.length=19:=h.nm
 rw [hx] at hat hs h0 hp hj
 rw [eL] at hs
 obtain⟨p,j,r0,r1,r2,r3,r4,r5,r6,r7,st⟩:=x
 dsimp only at hat h0 hp hj
 subst h0
 obtain⟨me,hme⟩:∃ me:Int,me=meN (1 - A):=⟨_,rfl⟩
 have hme0:0 < me:=by have:=meN_pos (1 - A);omega
 have ins:=fun {i:Ins} (hi:(baseS me)[j]? = some i)=>at_ins (L:=32) (i:=i) hc hs (codeS_get R (1 - A) p j hp hj) (by show (baseS (meN (1 - A)))[j]? = _;rw [←hme];exact hi)
 generalize hq:s.buf (1 - A)=q at hat
 rw [←hme] at hat
 cases hat
 case s0H04 g0=>
  have hi:=ins (i:=⟨27,7,0,0,0⟩) rfl
  rw [movI_plain (i:=⟨27,7,0,0,0⟩) rfl] at hi
  have hmk:=st_mark hi
  have hg:=h.marked (t:=(1 - A)) ⟨7,0,((p*32+0:Nat):Int),0,r7,0,0,false⟩ rfl (.inl rfl)
  have key:=W_loc hg ht eL er ej (⟨p,1,r0,r1,r2,r3,r4,r5,r6,r7,0⟩:Loc) (.inl ⟨rfl,hp,by show 1 < 32;decide⟩) (IS (mem:=s.mem) (q:=s.buf) hI hA (by rw [←hme,hq];exact (AtS.s1H04 (by first | assumption | rfl | (simp_all;done))))) (by rw [hx];rfl) (by rw [hx]) (by rw [hx];rfl)
  rw [show Loc.th 32 _=_ from th_of rfl] at key
  exact⟨_,_,_,hmk,key⟩
 case s0H14 g0 g1=>
  have hi:=ins (i:=⟨27,7,0,0,0⟩) rfl
  rw [movI_plain (i:=⟨27,7,0,0,0⟩) rfl] at hi
  have hmk:=st_mark hi
  have hg:=h.marked (t:=(1 - A)) ⟨7,0,((p*32+0:Nat):Int),0,r7,0,0,false⟩ rfl (.inl rfl)
  have key:=W_loc hg ht eL er ej (⟨p,1,r0,r1,r2,r3,r4,r5,r6,r7,0⟩:Loc) (.inl ⟨rfl,hp,by show 1 < 32;decide⟩) (IS (mem:=s.mem) (q:=s.buf) hI hA (by rw [←hme,hq];apply AtS.s1H14<;>first | assumption | rfl | (simp_all;done))) (by rw [hx];rfl) (by rw [hx]) (by rw [hx];rfl)
  rw [show Loc.th 32 _=_ from th_of rfl] at key
  exact⟨_,_,_,hmk,key⟩
 case s0H24 g0 g1=>
  have hi:=ins (i:=⟨27,7,0,0,0⟩) rfl
  rw [movI_plain (i:=⟨27,7,0,0,0⟩) rfl] at hi
  have hmk:=st_mark hi
  have hg:=h.marked (t:=(1 - A)) ⟨7,0,((p*32+0:Nat):Int),0,r7,0,0,false⟩ rfl (.inl rfl)
  have key:=W_loc hg ht eL er ej (⟨p,1,r0,r1,r2,r3,r4,r5,r6,r7,0⟩:Loc) (.inl ⟨rfl,hp,by show 1 < 32;decide⟩) (IS (mem:=s.mem) (q:=s.buf) hI hA (by rw [←hme,hq];apply AtS.s1H24<;>first | assumption | rfl | (simp_all;done))) (by rw [hx];rfl) (by rw [hx]) (by rw [hx];rfl)
  rw [show Loc.th 32 _=_ from th_of rfl] at key
  exact⟨_,_,_,hmk,key⟩
 case s0H34 g0 g1=>
  have hi:=ins (i:=⟨27,7,0,0,0⟩) rfl
  rw [movI_plain (i:=⟨27,7,0,0,0⟩) rfl] at hi
  have hmk:=st_mark hi
  have hg:=h.marked (t:=(1 - A)) ⟨7,0,((p*32+0:Nat):Int),0,r7,0,0,false⟩ rfl (.inl rfl)
  have key:=W_loc hg ht eL er ej (⟨p,1,r0,r1,r2,r3,r4,r5,r6,r7,0⟩:Loc) (.inl ⟨rfl,hp,by show 1 < 32;decide⟩) (IS (mem:=s.mem) (q:=s.buf) hI hA (by rw [←hme,hq];apply AtS.s1H34<;>first | assumption | rfl | (simp_all;done))) (by rw [hx];rfl) (by rw [hx]) (by rw [hx];rfl)
  rw [show Loc.th 32 _=_ from th_of rfl] at key
  exact⟨_,_,_,hmk,key⟩
 case s0H44 g0 g1=>
  have hi:=ins (i:=⟨27,7,0,0,0⟩) rfl
  rw [movI_plain (i:=⟨27,7,0,0,0⟩) rfl] at hi
  have hmk:=st_mark hi
  have hg:=h.marked (t:=(1 - A)) ⟨7,0,((p*32+0:Nat):Int),0,r7,0,0,false⟩ rfl (.inl rfl)
  have key:=W_loc hg ht eL er ej (⟨p,1,r0,r1,r2,r3,r4,r5,r6,r7,0⟩:Loc) (.inl ⟨rfl,hp,by show 1 < 32;decide⟩) (IS (mem:=s.mem) (q:=s.buf) hI hA (by rw [←hme,hq];apply AtS.s1H44<;>first | assumption | rfl | (simp_all;done))) (by rw [hx];rfl) (by rw [hx]) (by rw [hx];rfl)
  rw [show Loc.th 32 _=_ from th_of rfl] at key
  exact⟨_,_,_,hmk,key⟩
 case s1H04 g0=>
  have hi:=ins (i:=⟨16,4,8,0,18⟩) rfl
  rw [movI_plain (i:=⟨16,4,8,0,18⟩) rfl] at hi
  have hst:=st_load hi (ad:=18) (addr_abs _ _ _ _ _) (by rw [hnm];omega)
  have hl:s.load (1 - A) 18=(0:Int):=by rw [load_q hq];rfl
  rw [hl] at hst
  have hg:=h.noted (t:=(1 - A)) ⟨1,0,((p*32+1:Nat):Int),18,(0:Int),0,0,false⟩ (show (1:Int)≠7 by decide) (show (1:Int)≠13 by decide)
  have key:=W_loc hg ht eL er ej (⟨p,2,r0,r1,r2,r3,(0:Int),r5,r6,r7,0⟩:Loc) (.inl ⟨rfl,hp,by show 2 < 32;decide⟩) (IS (mem:=s.mem) (q:=s.buf) hI hA (by rw [←hme,hq];exact (AtS.s2H04 (by first | assumption | rfl | omega | (intro e;dsimp only at e;omega)) (by first | assumption | rfl | omega | (intro e;dsimp only at e;omega))))) (by rw [hx];rfl) (by rw [hx]) (by rw [hx];rfl)
  rw [show Loc.th 32 _=_ from th_of rfl] at key
  exact⟨_,_,_,hst,key⟩
 case s1H14 g0 g1=>
  have hi:=ins (i:=⟨16,4,8,0,18⟩) rfl
  rw [movI_plain (i:=⟨16,4,8,0,18⟩) rfl] at hi
  have hst:=st_load hi (ad:=18) (addr_abs _ _ _ _ _) (by rw [hnm];omega)
  have hl:s.load (1 - A) 18=(0:Int):=by rw [load_q hq];rfl
  rw [hl] at hst
  have hg:=h.noted (t:=(1 - A)) ⟨1,0,((p*32+1:Nat):Int),18,(0:Int),0,0,false⟩ (show (1:Int)≠7 by decide) (show (1:Int)≠13 by decide)
  have key:=W_loc hg ht eL er ej (⟨p,2,r0,r1,r2,r3,(0:Int),r5,r6,r7,0⟩:Loc) (.inl ⟨rfl,hp,by show 2 < 32;decide⟩) (IS (mem:=s.mem) (q:=s.buf) hI hA (by rw [←hme,hq];exact (AtS.s2H14 (by first | assumption | rfl | omega | (intro e;dsimp only at e;omega)) (by first | assumption | rfl | omega | (intro e;dsimp only at e;omega)) (by first | assumption | rfl | omega | (intro e;dsimp only at e;omega))))) (by rw [hx];rfl) (by rw [hx]) (by rw [hx];rfl)
  rw [show Loc.th 32 _=_ from th_of rfl] at key
  exact⟨_,_,_,hst,key⟩
 case s1H24 g0 g1=>
  have hi:=ins (i:=⟨16,4,8,0,18⟩) rfl
  rw [movI_plain (i:=⟨16,4,8,0,18⟩) rfl] at hi
  have hst:=st_load hi (ad:=18) (addr_abs _ _ _ _ _) (by rw [hnm];omega)
  have hl:s.load (1 - A) 18=(0:Int):=by rw [load_q hq];rfl
  rw [hl] at hst
  have hg:=h.noted (t:=(1 - A)) ⟨1,0,((p*32+1:Nat):Int),18,(0:Int),0,0,false⟩ (show (1:Int)≠7 by decide) (show (1:Int)≠13 by decide)
  have key:=W_loc hg ht eL er ej (⟨p,2,r0,r1,r2,r3,(0:Int),r5,r6,r7,0⟩:Loc) (.inl ⟨rfl,hp,by show 2 < 32;decide⟩) (IS (mem:=s.mem) (q:=s.buf) hI hA (by rw [←hme,hq];exact (AtS.s2H24 (by first | assumption | rfl | omega | (intro e;dsimp only at e;omega)) (by first | assumption | rfl | omega | (intro e;dsimp only at e;omega)) (by first | assumption | rfl | omega | (intro e;dsimp only at e;omega))))) (by rw [hx];rfl) (by rw [hx]) (by rw [hx];rfl)
  rw [show Loc.th 32 _=_ from th_of rfl] at key
  exact⟨_,_,_,hst,key⟩
 case s1H34 g0 g1=>
  have hi:=ins (i:=⟨16,4,8,0,18⟩) rfl
  rw [movI_plain (i:=⟨16,4,8,0,18⟩) rfl] at hi
  have hst:=st_load hi (ad:=18) (addr_abs _ _ _ _ _) (by rw [hnm];omega)
  have hl:s.load (1 - A) 18=(s.mem.getD 18 0):=by rw [load_q hq];rfl
  rw [hl] at hst
  have hg:=h.noted (t:=(1 - A)) ⟨1,0,((p*32+1:Nat):Int),18,(s.mem.getD 18 0),0,0,false⟩ (show (1:Int)≠7 by decide) (show (1:Int)≠13 by decide)
  have key:=W_loc hg ht eL er ej (⟨p,2,r0,r1,r2,r3,(s.mem.getD 18 0),r5,r6,r7,0⟩:Loc) (.inl ⟨rfl,hp,by show 2 < 32;decide⟩) (IS (mem:=s.mem) (q:=s.buf) hI hA (by rw [←hme,hq];exact (AtS.s2H34 (by first | assumption | rfl | omega | (intro e;dsimp only at e;omega)) (by first | assumption | rfl | omega | (intro e;dsimp only at e;omega)) (by first | assumption | rfl | omega | (intro e;dsimp only at e;omega))))) (by rw [hx];rfl) (by rw [hx]) (by rw [hx];rfl)
  rw [show Loc.th 32 _=_ from th_of rfl] at key
  exact⟨_,_,_,hst,key⟩
 case s1H44 g0 g1=>
  have hi:=ins (i:=⟨16,4,8,0,18⟩) rfl
  rw [movI_plain (i:=⟨16,4,8,0,18⟩) rfl] at hi
  have hst:=st_load hi (ad:=18) (addr_abs _ _ _ _ _) (by rw [hnm];omega)
  have hl:s.load (1 - A) 18=(s.mem.getD 18 0):=by rw [load_q hq];rfl
  rw [hl] at hst
  have hg:=h.noted (t:=(1 - A)) ⟨1,0,((p*32+1:Nat):Int),18,(s.mem.getD 18 0),0,0,false⟩ (show (1:Int)≠7 by decide) (show (1:Int)≠13 by decide)
  have key:=W_loc hg ht eL er ej (⟨p,2,r0,r1,r2,r3,(s.mem.getD 18 0),r5,r6,r7,0⟩:Loc) (.inl ⟨rfl,hp,by show 2 < 32;decide⟩) (IS (mem:=s.mem) (q:=s.buf) hI hA (by rw [←hme,hq];exact (AtS.s2H44 (by first | assumption | rfl | omega | (intro e;dsimp only at e;omega)) (by first | assumption | rfl | omega | (intro e;dsimp only at e;omega)) (by first | assumption | rfl | omega | (intro e;dsimp only at e;omega))))) (by rw [hx];rfl) (by rw [hx]) (by rw [hx];rfl)
  rw [show Loc.th 32 _=_ from th_of rfl] at key
  exact⟨_,_,_,hst,key⟩
 case s2H04 g0 g1=>
  have hi:=ins (i:=⟨1,5,0,0,me⟩) rfl
  rw [movI_plain (i:=⟨1,5,0,0,me⟩) rfl] at hi
  have hst:=st_set hi
  have key:=W_loc h ht eL er ej (⟨p,3,r0,r1,r2,r3,r4,(me),r6,r7,0⟩:Loc) (.inl ⟨rfl,hp,by show 3 < 32;decide⟩) (IS (mem:=s.mem) (q:=s.buf) hI hA (by rw [←hme,hq];apply AtS.s3H04<;>first | assumption | rfl | (simp_all;done))) (by rw [hx];rfl) (by rw [hx]) (by rw [hx];rfl)
  rw [show Loc.th 32 _=_ from th_of rfl] at key
  exact⟨_,_,_,hst,key⟩
 case s2H14 g0 g1 g2=>
  have hi:=ins (i:=⟨1,5,0,0,me⟩) rfl
  rw [movI_plain (i:=⟨1,5,0,0,me⟩) rfl] at hi
  have hst:=st_set hi
  have key:=W_loc h ht eL er ej (⟨p,3,r0,r1,r2,r3,r4,(me),r6,r7,0⟩:Loc) (.inl ⟨rfl,hp,by show 3 < 32;decide⟩) (IS (mem:=s.mem) (q:=s.buf) hI hA (by rw [←hme,hq];apply AtS.s3H14<;>first | assumption | rfl | (simp_all;done))) (by rw [hx];rfl) (by rw [hx]) (by rw [hx];rfl)
  rw [show Loc.th 32 _=_ from th_of rfl] at key
  exact⟨_,_,_,hst,key⟩
 case s2H24 g0 g1 g2=>
  have hi:=ins (i:=⟨1,5,0,0,me⟩) rfl
  rw [movI_plain (i:=⟨1,5,0,0,me⟩) rfl] at hi
  have hst:=st_set hi
  have key:=W_loc h ht eL er ej (⟨p,3,r0,r1,r2,r3,r4,(me),r6,r7,0⟩:Loc) (.inl ⟨rfl,hp,by show 3 < 32;decide⟩) (IS (mem:=s.mem) (q:=s.buf) hI hA (by rw [←hme,hq];apply AtS.s3H24<;>first | assumption | rfl | (simp_all;done))) (by rw [hx];rfl) (by rw [hx]) (by rw [hx];rfl)
  rw [show Loc.th 32 _=_ from th_of rfl] at key
  exact⟨_,_,_,hst,key⟩
 case s2H34 g0 g1 g2=>
  have hi:=ins (i:=⟨1,5,0,0,me⟩) rfl
  rw [movI_plain (i:=⟨1,5,0,0,me⟩) rfl] at hi
  have hst:=st_set hi
  have key:=W_loc h ht eL er ej (⟨p,3,r0,r1,r2,r3,r4,(me),r6,r7,0⟩:Loc) (.inl ⟨rfl,hp,by show 3 < 32;decide⟩) (IS (mem:=s.mem) (q:=s.buf) hI hA (by rw [←hme,hq];apply AtS.s3H34<;>first | assumption | rfl | (simp_all;done))) (by rw [hx];rfl) (by rw [hx]) (by rw [hx];rfl)
  rw [show Loc.th 32 _=_ from th_of rfl] at key
  exact⟨_,_,_,hst,key⟩
 case s2H44 g0 g1 g2=>
  have hi:=ins (i:=⟨1,5,0,0,me⟩) rfl
  rw [movI_plain (i:=⟨1,5,0,0,me⟩) rfl] at hi
  have hst:=st_set hi
  have key:=W_loc h ht eL er ej (⟨p,3,r0,r1,r2,r3,r4,(me),r6,r7,0⟩:Loc) (.inl ⟨rfl,hp,by show 3 < 32;decide⟩) (IS (mem:=s.mem) (q:=s.buf) hI hA (by rw [←hme,hq];apply AtS.s3H44<;>first | assumption | rfl | (simp_all;done))) (by rw [hx];rfl) (by rw [hx]) (by rw [hx];rfl)
  rw [show Loc.th 32 _=_ from th_of rfl] at key
  exact⟨_,_,_,hst,key⟩
 case s3H04 g0 g1 g2=>
  have hi:=ins (i:=⟨12,6,4,5,0⟩) rfl
  rw [movI_plain (i:=⟨12,6,4,5,0⟩) rfl] at hi
  have hst:=st_same hi
  have hv:(if r4=r5 then (1:Int) else 0)=0:=by simp_all
  have key:=W_loc h ht eL er ej (⟨p,4,r0,r1,r2,r3,r4,r5,(if r4=r5 then (1:Int) else 0),r7,0⟩:Loc) (.inl ⟨rfl,hp,by show 4 < 32;decide⟩) (IS (mem:=s.mem) (q:=s.buf) hI hA (by rw [←hme,hq];exact (AtS.s4H04 (by first | assumption | exact hv | (rw [hv];decide)) (by first | assumption | exact hv | (rw [hv];decide)) (by first | assumption | exact hv | (rw [hv];decide))))) (by rw [hx];rfl) (by rw [hx]) (by rw [hx];rfl)
  rw [show Loc.th 32 _=_ from th_of rfl] at key
  exact⟨_,_,_,hst,key⟩
 case s3H14 g0 g1 g2 g3=>
  have hi:=ins (i:=⟨12,6,4,5,0⟩) rfl
  rw [movI_plain (i:=⟨12,6,4,5,0⟩) rfl] at hi
  have hst:=st_same hi
  have hv:(if r4=r5 then (1:Int) else 0)=0:=by simp_all
  have key:=W_loc h ht eL er ej (⟨p,4,r0,r1,r2,r3,r4,r5,(if r4=r5 then (1:Int) else 0),r7,0⟩:Loc) (.inl ⟨rfl,hp,by show 4 < 32;decide⟩) (IS (mem:=s.mem) (q:=s.buf) hI hA (by rw [←hme,hq];exact (AtS.s4H14 (by first | assumption | exact hv | (rw [hv];decide)) (by first | assumption | exact hv | (rw [hv];decide)) (by first | assumption | exact hv | (rw [hv];decide)) (by first | assumption | exact hv | (rw [hv];decide))))) (by rw [hx];rfl) (by rw [hx]) (by rw [hx];rfl)
  rw [show Loc.th 32 _=_ from th_of rfl] at key
  exact⟨_,_,_,hst,key⟩
 case s3H24 g0 g1 g2 g3=>
  have hi:=ins (i:=⟨12,6,4,5,0⟩) rfl
  rw [movI_plain (i:=⟨12,6,4,5,0⟩) rfl] at hi
  have hst:=st_same hi
  have hv:(if r4=r5 then (1:Int) else 0)=0:=by simp_all
  have key:=W_loc h ht eL er ej (⟨p,4,r0,r1,r2,r3,r4,r5,(if r4=r5 then (1:Int) else 0),r7,0⟩:Loc) (.inl ⟨rfl,hp,by show 4 < 32;decide⟩) (IS (mem:=s.mem) (q:=s.buf) hI hA (by rw [←hme,hq];exact (AtS.s4H24 (by first | assumption | exact hv | (rw [hv];decide)) (by first | assumption | exact hv | (rw [hv];decide)) (by first | assumption | exact hv | (rw [hv];decide)) (by first | assumption | exact hv | (rw [hv];decide))))) (by rw [hx];rfl) (by rw [hx]) (by rw [hx];rfl)
  rw [show Loc.th 32 _=_ from th_of rfl] at key
  exact⟨_,_,_,hst,key⟩
 case s3H34 g0 g1 g2 g3=>
  have hi:=ins (i:=⟨12,6,4,5,0⟩) rfl
  rw [movI_plain (i:=⟨12,6,4,5,0⟩) rfl] at hi
  have hst:=st_same hi
  have hv:(if r4=r5 then (1:Int) else 0)=0:=by simp_all
  have key:=W_loc h ht eL er ej (⟨p,4,r0,r1,r2,r3,r4,r5,(if r4=r5 then (1:Int) else 0),r7,0⟩:Loc) (.inl ⟨rfl,hp,by show 4 < 32;decide⟩) (IS (mem:=s.mem) (q:=s.buf) hI hA (by rw [←hme,hq];exact (AtS.s4H34 (by first | assumption | exact hv | (rw [hv];decide)) (by first | assumption | exact hv | (rw [hv];decide)) (by first | assumption | exact hv | (rw [hv];decide)) (by first | assumption | exact hv | (rw [hv];decide))))) (by rw [hx];rfl) (by rw [hx]) (by rw [hx];rfl)
  rw [show Loc.th 32 _=_ from th_of rfl] at key
  exact⟨_,_,_,hst,key⟩
 case s3H44 g0 g1 g2 g3=>
  have hi:=ins (i:=⟨12,6,4,5,0⟩) rfl
  rw [movI_plain (i:=⟨12,6,4,5,0⟩) rfl] at hi
  have hst:=st_same hi
  have hv:(if r4=r5 then (1:Int) else 0)=0:=by simp_all
  have key:=W_loc h ht eL er ej (⟨p,4,r0,r1,r2,r3,r4,r5,(if r4=r5 then (1:Int) else 0),r7,0⟩:Loc) (.inl ⟨rfl,hp,by show 4 < 32;decide⟩) (IS (mem:=s.mem) (q:=s.buf) hI hA (by rw [←hme,hq];exact (AtS.s4H44 (by first | assumption | exact hv | (rw [hv];decide)) (by first | assumption | exact hv | (rw [hv];decide)) (by first | assumption | exact hv | (rw [hv];decide)) (by first | assumption | exact hv | (rw [hv];decide))))) (by rw [hx];rfl) (by rw [hx]) (by rw [hx];rfl)
  rw [show Loc.th 32 _=_ from th_of rfl] at key
  exact⟨_,_,_,hst,key⟩
 case s4H04 g0 g1 g2=>
  have hi:=ins (i:=⟨14,6,0,0,7⟩) rfl
  rw [movI_jump (i:=⟨14,6,0,0,7⟩) rfl] at hi
  have hst:=st_zero hi
  by_cases hz:r6=0
  ·rw [if_pos (by exact hz)] at hst
   have key:=W_loc h ht eL er ej (⟨p,7,r0,r1,r2,r3,r4,r5,r6,r7,0⟩:Loc) (.inl ⟨rfl,hp,by show 7 < 32;decide⟩) (IS (mem:=s.mem) (q:=s.buf) hI hA (by rw [←hme,hq];apply AtS.s7H04<;>first | assumption | (simp_all;done))) (by rw [hx];rfl) (by rw [hx]) (by rw [hx];rfl)
   rw [show Loc.th 32 _=_ from th_jmp (by omega) (by decide) (by decide)] at key
   exact⟨_,_,_,hst,key⟩
  ·rw [if_neg (by exact hz)] at hst
   exfalso;simp_all
 case s4H14 g0 g1 g2 g3=>
  have hi:=ins (i:=⟨14,6,0,0,7⟩) rfl
  rw [movI_jump (i:=⟨14,6,0,0,7⟩) rfl] at hi
  have hst:=st_zero hi
  by_cases hz:r6=0
  ·rw [if_pos (by exact hz)] at hst
   have key:=W_loc h ht eL er ej (⟨p,7,r0,r1,r2,r3,r4,r5,r6,r7,0⟩:Loc) (.inl ⟨rfl,hp,by show 7 < 32;decide⟩) (IS (mem:=s.mem) (q:=s.buf) hI hA (by rw [←hme,hq];apply AtS.s7H14<;>first | assumption | (simp_all;done))) (by rw [hx];rfl) (by rw [hx]) (by rw [hx];rfl)
   rw [show Loc.th 32 _=_ from th_jmp (by omega) (by decide) (by decide)] at key
   exact⟨_,_,_,hst,key⟩
  ·rw [if_neg (by exact hz)] at hst
   exfalso;simp_all
 case s4H24 g0 g1 g2 g3=>
  have hi:=ins (i:=⟨14,6,0,0,7⟩) rfl
  rw [movI_jump (i:=⟨14,6,0,0,7⟩) rfl] at hi
  have hst:=st_zero hi
  by_cases hz:r6=0
  ·rw [if_pos (by exact hz)] at hst
   have key:=W_loc h ht eL er ej (⟨p,7,r0,r1,r2,r3,r4,r5,r6,r7,0⟩:Loc) (.inl ⟨rfl,hp,by show 7 < 32;decide⟩) (IS (mem:=s.mem) (q:=s.buf) hI hA (by rw [←hme,hq];apply AtS.s7H24<;>first | assumption | (simp_all;done))) (by rw [hx];rfl) (by rw [hx]) (by rw [hx];rfl)
   rw [show Loc.th 32 _=_ from th_jmp (by omega) (by decide) (by decide)] at key
   exact⟨_,_,_,hst,key⟩
  ·rw [if_neg (by exact hz)] at hst
   exfalso;simp_all
 case s4H34 g0 g1 g2 g3=>
  have hi:=ins (i:=⟨14,6,0,0,7⟩) rfl
  rw [movI_jump (i:=⟨14,6,0,0,7⟩) rfl] at hi
  have hst:=st_zero hi
  by_cases hz:r6=0
  ·rw [if_pos (by exact hz)] at hst
   have key:=W_loc h ht eL er ej (⟨p,7,r0,r1,r2,r3,r4,r5,r6,r7,0⟩:Loc) (.inl ⟨rfl,hp,by show 7 < 32;decide⟩) (IS (mem:=s.mem) (q:=s.buf) hI hA (by rw [←hme,hq];apply AtS.s7H34<;>first | assumption | (simp_all;done))) (by rw [hx];rfl) (by rw [hx]) (by rw [hx];rfl)
   rw [show Loc.th 32 _=_ from th_jmp (by omega) (by decide) (by decide)] at key
   exact⟨_,_,_,hst,key⟩
  ·rw [if_neg (by exact hz)] at hst
   exfalso;simp_all
 case s4H44 g0 g1 g2 g3=>
  have hi:=ins (i:=⟨14,6,0,0,7⟩) rfl
  rw [movI_jump (i:=⟨14,6,0,0,7⟩) rfl] at hi
  have hst:=st_zero hi
  by_cases hz:r6=0
  ·rw [if_pos (by exact hz)] at hst
   have key:=W_loc h ht eL er ej (⟨p,7,r0,r1,r2,r3,r4,r5,r6,r7,0⟩:Loc) (.inl ⟨rfl,hp,by show 7 < 32;decide⟩) (IS (mem:=s.mem) (q:=s.buf) hI hA (by rw [←hme,hq];apply AtS.s7H44<;>first | assumption | (simp_all;done))) (by rw [hx];rfl) (by rw [hx]) (by rw [hx];rfl)
   rw [show Loc.th 32 _=_ from th_jmp (by omega) (by decide) (by decide)] at key
   exact⟨_,_,_,hst,key⟩
  ·rw [if_neg (by exact hz)] at hst
   exfalso;simp_all
 case s7H04 g0 g1=>
  have hi:=ins (i:=⟨1,4,0,0,1⟩) rfl
  rw [movI_plain (i:=⟨1,4,0,0,1⟩) rfl] at hi
  have hst:=st_set hi
  have key:=W_loc h ht eL er ej (⟨p,8,r0,r1,r2,r3,(1),r5,r6,r7,0⟩:Loc) (.inl ⟨rfl,hp,by show 8 < 32;decide⟩) (IS (mem:=s.mem) (q:=s.buf) hI hA (by rw [←hme,hq];apply AtS.s8H04<;>first | assumption | rfl | (simp_all;done))) (by rw [hx];rfl) (by rw [hx]) (by rw [hx];rfl)
  rw [show Loc.th 32 _=_ from th_of rfl] at key
  exact⟨_,_,_,hst,key⟩
 case s7H14 g0 g1 g2=>
  have hi:=ins (i:=⟨1,4,0,0,1⟩) rfl
  rw [movI_plain (i:=⟨1,4,0,0,1⟩) rfl] at hi
  have hst:=st_set hi
  have key:=W_loc h ht eL er ej (⟨p,8,r0,r1,r2,r3,(1),r5,r6,r7,0⟩:Loc) (.inl ⟨rfl,hp,by show 8 < 32;decide⟩) (IS (mem:=s.mem) (q:=s.buf) hI hA (by rw [←hme,hq];apply AtS.s8H14<;>first | assumption | rfl | (simp_all;done))) (by rw [hx];rfl) (by rw [hx]) (by rw [hx];rfl)
  rw [show Loc.th 32 _=_ from th_of rfl] at key
  exact⟨_,_,_,hst,key⟩
 case s7H24 g0 g1 g2=>
  have hi:=ins (i:=⟨1,4,0,0,1⟩) rfl
  rw [movI_plain (i:=⟨1,4,0,0,1⟩) rfl] at hi
  have hst:=st_set hi
  have key:=W_loc h ht eL er ej (⟨p,8,r0,r1,r2,r3,(1),r5,r6,r7,0⟩:Loc) (.inl ⟨rfl,hp,by show 8 < 32;decide⟩) (IS (mem:=s.mem) (q:=s.buf) hI hA (by rw [←hme,hq];apply AtS.s8H24<;>first | assumption | rfl | (simp_all;done))) (by rw [hx];rfl) (by rw [hx]) (by rw [hx];rfl)
  rw [show Loc.th 32 _=_ from th_of rfl] at key
  exact⟨_,_,_,hst,key⟩
 case s7H34 g0 g1 g2=>
  have hi:=ins (i:=⟨1,4,0,0,1⟩) rfl
  rw [movI_plain (i:=⟨1,4,0,0,1⟩) rfl] at hi
  have hst:=st_set hi
  have key:=W_loc h ht eL er ej (⟨p,8,r0,r1,r2,r3,(1),r5,r6,r7,0⟩:Loc) (.inl ⟨rfl,hp,by show 8 < 32;decide⟩) (IS (mem:=s.mem) (q:=s.buf) hI hA (by rw [←hme,hq];apply AtS.s8H34<;>first | assumption | rfl | (simp_all;done))) (by rw [hx];rfl) (by rw [hx]) (by rw [hx];rfl)
  rw [show Loc.th 32 _=_ from th_of rfl] at key
  exact⟨_,_,_,hst,key⟩
 case s7H44 g0 g1 g2=>
  have hi:=ins (i:=⟨1,4,0,0,1⟩) rfl
  rw [movI_plain (i:=⟨1,4,0,0,1⟩) rfl] at hi
  have hst:=st_set hi
  have key:=W_loc h ht eL er ej (⟨p,8,r0,r1,r2,r3,(1),r5,r6,r7,0⟩:Loc) (.inl ⟨rfl,hp,by show 8 < 32;decide⟩) (IS (mem:=s.mem) (q:=s.buf) hI hA (by rw [←hme,hq];apply AtS.s8H44<;>first | assumption | rfl | (simp_all;done))) (by rw [hx];rfl) (by rw [hx]) (by rw [hx];rfl)
  rw [show Loc.th 32 _=_ from th_of rfl] at key
  exact⟨_,_,_,hst,key⟩
 case s8H04 g0 g1 g2=>
  have hi:=ins (i:=⟨17,4,8,0,17⟩) rfl
  rw [movI_plain (i:=⟨17,4,8,0,17⟩) rfl] at hi
  have hst:=st_store hi (ad:=17) (addr_abs _ _ _ _ _) (by rw [hnm];omega)
  by_cases hro:s.roomy (1 - A)=true
  ·rw [if_pos hro] at hst
   have hrv:r4=1:=by assumption
   have key:=W_stored h ht eL er ej ((p*32+8:Nat):Int) 17 r4 (⟨p,9,r0,r1,r2,r3,r4,r5,r6,r7,0⟩:Loc) (.inl ⟨rfl,hp,by show 9 < 32;decide⟩) (⟨_,_,_,_,_,hI.slow (q':=s.buf (1 - A)++[(17,r4)]) hA (by rw [←hme,hq,hrv];apply AtS.s9H05<;>first | assumption | rfl | (simp_all;done)) Iff.rfl hI.cC hI.cW⟩) (by rw [hx];rfl) (by rw [hx]) (.inl ⟨by decide,by rw [hx];rfl⟩)
   rw [show Loc.th 32 _=_ from th_of rfl] at key
   exact⟨_,_,_,hst,key⟩
  ·rw [if_neg hro] at hst
   exact⟨_,f,i,hst,flush h ht hA⟩
 case s8H14 g0 g1 g2 g3=>
  have hi:=ins (i:=⟨17,4,8,0,17⟩) rfl
  rw [movI_plain (i:=⟨17,4,8,0,17⟩) rfl] at hi
  have hst:=st_store hi (ad:=17) (addr_abs _ _ _ _ _) (by rw [hnm];omega)
  by_cases hro:s.roomy (1 - A)=true
  ·rw [if_pos hro] at hst
   have hrv:r4=1:=by assumption
   have key:=W_stored h ht eL er ej ((p*32+8:Nat):Int) 17 r4 (⟨p,9,r0,r1,r2,r3,r4,r5,r6,r7,0⟩:Loc) (.inl ⟨rfl,hp,by show 9 < 32;decide⟩) (⟨_,_,_,_,_,hI.slow (q':=s.buf (1 - A)++[(17,r4)]) hA (by rw [←hme,hq,hrv];apply AtS.s9H15<;>first | assumption | rfl | (simp_all;done)) Iff.rfl hI.cC hI.cW⟩) (by rw [hx];rfl) (by rw [hx]) (.inl ⟨by decide,by rw [hx];rfl⟩)
   rw [show Loc.th 32 _=_ from th_of rfl] at key
   exact⟨_,_,_,hst,key⟩
  ·rw [if_neg hro] at hst
   exact⟨_,f,i,hst,flush h ht hA⟩
 case s8H24 g0 g1 g2 g3=>
  have hi:=ins (i:=⟨17,4,8,0,17⟩) rfl
  rw [movI_plain (i:=⟨17,4,8,0,17⟩) rfl] at hi
  have hst:=st_store hi (ad:=17) (addr_abs _ _ _ _ _) (by rw [hnm];omega)
  by_cases hro:s.roomy (1 - A)=true
  ·rw [if_pos hro] at hst
   have hrv:r4=1:=by assumption
   have key:=W_stored h ht eL er ej ((p*32+8:Nat):Int) 17 r4 (⟨p,9,r0,r1,r2,r3,r4,r5,r6,r7,0⟩:Loc) (.inl ⟨rfl,hp,by show 9 < 32;decide⟩) (⟨_,_,_,_,_,hI.slow (q':=s.buf (1 - A)++[(17,r4)]) hA (by rw [←hme,hq,hrv];apply AtS.s9H25<;>first | assumption | rfl | (simp_all;done)) Iff.rfl hI.cC hI.cW⟩) (by rw [hx];rfl) (by rw [hx]) (.inl ⟨by decide,by rw [hx];rfl⟩)
   rw [show Loc.th 32 _=_ from th_of rfl] at key
   exact⟨_,_,_,hst,key⟩
  ·rw [if_neg hro] at hst
   exact⟨_,f,i,hst,flush h ht hA⟩
 case s8H34 g0 g1 g2 g3=>
  have hi:=ins (i:=⟨17,4,8,0,17⟩) rfl
  rw [movI_plain (i:=⟨17,4,8,0,17⟩) rfl] at hi
  have hst:=st_store hi (ad:=17) (addr_abs _ _ _ _ _) (by rw [hnm];omega)
  by_cases hro:s.roomy (1 - A)=true
  ·rw [if_pos hro] at hst
   have hrv:r4=1:=by assumption
   have key:=W_stored h ht eL er ej ((p*32+8:Nat):Int) 17 r4 (⟨p,9,r0,r1,r2,r3,r4,r5,r6,r7,0⟩:Loc) (.inl ⟨rfl,hp,by show 9 < 32;decide⟩) (⟨_,_,_,_,_,hI.slow (q':=s.buf (1 - A)++[(17,r4)]) hA (by rw [←hme,hq,hrv];apply AtS.s9H35<;>first | assumption | rfl | (simp_all;done)) Iff.rfl hI.cC hI.cW⟩) (by rw [hx];rfl) (by rw [hx]) (.inl ⟨by decide,by rw [hx];rfl⟩)
   rw [show Loc.th 32 _=_ from th_of rfl] at key
   exact⟨_,_,_,hst,key⟩
  ·rw [if_neg hro] at hst
   exact⟨_,f,i,hst,flush h ht hA⟩
 case s8H44 g0 g1 g2 g3=>
  have hi:=ins (i:=⟨17,4,8,0,17⟩) rfl
  rw [movI_plain (i:=⟨17,4,8,0,17⟩) rfl] at hi
  have hst:=st_store hi (ad:=17) (addr_abs _ _ _ _ _) (by rw [hnm];omega)
  by_cases hro:s.roomy (1 - A)=true
  ·rw [if_pos hro] at hst
   have hrv:r4=1:=by assumption
   have key:=W_stored h ht eL er ej ((p*32+8:Nat):Int) 17 r4 (⟨p,9,r0,r1,r2,r3,r4,r5,r6,r7,0⟩:Loc) (.inl ⟨rfl,hp,by show 9 < 32;decide⟩) (⟨_,_,_,_,_,hI.slow (q':=s.buf (1 - A)++[(17,r4)]) hA (by rw [←hme,hq,hrv];apply AtS.s9H45<;>first | assumption | rfl | (simp_all;done)) Iff.rfl hI.cC hI.cW⟩) (by rw [hx];rfl) (by rw [hx]) (.inl ⟨by decide,by rw [hx];rfl⟩)
   rw [show Loc.th 32 _=_ from th_of rfl] at key
   exact⟨_,_,_,hst,key⟩
  ·rw [if_neg hro] at hst
   exact⟨_,f,i,hst,flush h ht hA⟩
 case s9H05 g0 g1=>
  have hi:=ins (i:=⟨25,0,0,0,0⟩) rfl
  rw [movI_plain (i:=⟨25,0,0,0,0⟩) rfl] at hi
  exact⟨_,f,i,st_drain hi (by show drainsI 25;decide) (fun e=>absurd e (by decide)) (by rw [empty_q hq];rfl),flush h ht hA⟩
 case s9H15 g0 g1 g2=>
  have hi:=ins (i:=⟨25,0,0,0,0⟩) rfl
  rw [movI_plain (i:=⟨25,0,0,0,0⟩) rfl] at hi
  exact⟨_,f,i,st_drain hi (by show drainsI 25;decide) (fun e=>absurd e (by decide)) (by rw [empty_q hq];rfl),flush h ht hA⟩
 case s9H25 g0 g1 g2=>
  have hi:=ins (i:=⟨25,0,0,0,0⟩) rfl
  rw [movI_plain (i:=⟨25,0,0,0,0⟩) rfl] at hi
  exact⟨_,f,i,st_drain hi (by show drainsI 25;decide) (fun e=>absurd e (by decide)) (by rw [empty_q hq];rfl),flush h ht hA⟩
 case s9H35 g0 g1 g2=>
  have hi:=ins (i:=⟨25,0,0,0,0⟩) rfl
  rw [movI_plain (i:=⟨25,0,0,0,0⟩) rfl] at hi
  exact⟨_,f,i,st_drain hi (by show drainsI 25;decide) (fun e=>absurd e (by decide)) (by rw [empty_q hq];rfl),flush h ht hA⟩
 case s9H45 g0 g1 g2=>
  have hi:=ins (i:=⟨25,0,0,0,0⟩) rfl
  rw [movI_plain (i:=⟨25,0,0,0,0⟩) rfl] at hi
  exact⟨_,f,i,st_drain hi (by show drainsI 25;decide) (fun e=>absurd e (by decide)) (by rw [empty_q hq];rfl),flush h ht hA⟩
 case s9H55 g0 g1 g2=>
  have hi:=ins (i:=⟨25,0,0,0,0⟩) rfl
  rw [movI_plain (i:=⟨25,0,0,0,0⟩) rfl] at hi
  have hst:=st_remote hi (by rw [empty_q hq];rfl)
  have hr:(X A R).Inv s.remote f i:=remote_inv (X:=X A R) (P:=fun s=>(X A R).Inv s f i) (fun t s ht h=>flush h ht hA) h.nb h
  have hbA:s.remote.buf A=[]:=remote_buf (by rw [h.nb];show A < 2;omega)
  have hbB:s.remote.buf (1 - A)=[]:=remote_buf (by rw [h.nb];show 1 - A < 2;omega)
  have hg:=hr.noted (t:=1 - A) ⟨10,0,((p*32+9:Nat):Int),0,0,0,0,false⟩ (show (10:Int)≠7 by decide) (show (10:Int)≠13 by decide)
  obtain⟨σ2,σ3,c3,pt3,g3,hJ⟩:=hr.I
  have hat3:=hJ.hs
  rw [hx,hbB,←hme] at hat3
  obtain⟨e1,e2,e3⟩:=hat3.g1
  have hp3:=hJ.pth
  have hf3:=hJ.hf
  rw [hbA] at hp3
  have hσ:σ3=σ2:=by cases hp3;rfl
  have hq3:AmT 18 (qv 18 (meN A) (s.remote.buf A) pt3)∧(σ2=0→NoT 18 (qv 18 (meN A) (s.remote.buf A) pt3)):=by
   rw [hbA]
   cases pt3 with
   | false=>exact⟨trivial,fun _ x hx=>by cases hx⟩
   | true=>
    have:=hf3.pt1
    exact⟨AmT.none (q:=[]) (fun x hx=>by cases hx),fun e=>by omega⟩
  have hths:s.remote.ths=s.ths:=s.remote_same.ths
  have key:=W_loc hg ht eL er ej (⟨p,10,r0,r1,r2,r3,r4,r5,r6,r7,0⟩:Loc) (.inl ⟨rfl,hp,by show 10 < 32;decide⟩) (⟨_,_,_,_,_,by have:=hJ.slow (x:=⟨p,10,r0,r1,r2,r3,r4,r5,r6,r7,0⟩) (q':=s.remote.buf (1 - A)) (g2:=2) hA (by rw [←hme,hbB];exact (AtS.s10W (by first | assumption | rfl) (by first | assumption | rfl) (by first | assumption | rfl))) (by omega) (fun e=>absurd e (by decide)) (fun _=>hq3);rw [upF_id s.remote.buf (1 - A)] at this;exact this⟩) (by rw [hx];rfl) (by rw [hx]) (by rw [hx];rfl)
  rw [show Loc.th 32 _=_ from th_of rfl] at key
  exact⟨_,_,_,hst,key⟩
 case s10W g0 g1 g2=>
  have hi:=ins (i:=⟨16,4,8,0,16⟩) rfl
  rw [movI_plain (i:=⟨16,4,8,0,16⟩) rfl] at hi
  have hst:=st_load hi (ad:=16) (addr_abs _ _ _ _ _) (by rw [hnm];omega)
  have hl:s.load (1 - A) 16=(s.mem.getD 16 0):=by rw [load_q hq];rfl
  rw [hl] at hst
  have hg:=h.noted (t:=(1 - A)) ⟨1,0,((p*32+10:Nat):Int),16,(s.mem.getD 16 0),0,0,false⟩ (show (1:Int)≠7 by decide) (show (1:Int)≠13 by decide)
  by_cases hz:s.mem.getD 16 0=0
  ·have hσ0:σ=0:=if01 hI.fa hz
   have hg2:g=2:=by assumption
   have key:=W_loc hg ht eL er ej (⟨p,11,r0,r1,r2,r3,(s.mem.getD 16 0),r5,r6,r7,0⟩:Loc) (.inl ⟨rfl,hp,by show 11 < 32;decide⟩) (⟨_,_,_,_,_,by have:=hI.slow (x:=⟨p,11,r0,r1,r2,r3,(s.mem.getD 16 0),r5,r6,r7,0⟩) (q':=s.buf (1 - A)) (g2:=3) hA (by rw [←hme,hq];exact (AtS.s11C (by first | assumption | rfl | exact hz) (by first | assumption | rfl | exact hz) (by first | assumption | rfl | exact hz) (by first | assumption | rfl | exact hz))) (by omega) (fun _=>⟨(hI.cW hg2).2 hσ0,.inl hσ0⟩) (fun e=>absurd e (by decide));rw [upF_id s.buf (1 - A)] at this;exact this⟩) (by rw [hx];rfl) (by rw [hx]) (by rw [hx];rfl)
   rw [show Loc.th 32 _=_ from th_of rfl] at key
   exact⟨_,_,_,hst,key⟩
  ·skip
   have key:=W_loc hg ht eL er ej (⟨p,11,r0,r1,r2,r3,(s.mem.getD 16 0),r5,r6,r7,0⟩:Loc) (.inl ⟨rfl,hp,by show 11 < 32;decide⟩) (IS (mem:=s.mem) (q:=s.buf) hI hA (by rw [←hme,hq];exact (AtS.s11W (by first | assumption | exact hz) (by first | assumption | exact hz) (by first | assumption | exact hz) (by first | assumption | exact hz)))) (by rw [hx];rfl) (by rw [hx]) (by rw [hx];rfl)
   rw [show Loc.th 32 _=_ from th_of rfl] at key
   exact⟨_,_,_,hst,key⟩
 case s11C g0 g1 g2 g3=>
  have hi:=ins (i:=⟨15,4,0,0,10⟩) rfl
  rw [movI_jump (i:=⟨15,4,0,0,10⟩) rfl] at hi
  have hst:=st_some hi
  by_cases hz:r4≠0
  ·rw [if_pos (by exact hz)] at hst
   exfalso;simp_all
  ·rw [if_neg (by exact hz)] at hst
   have key:=W_loc h ht eL er ej (⟨p,12,r0,r1,r2,r3,r4,r5,r6,r7,0⟩:Loc) (.inl ⟨rfl,hp,by show 12 < 32;decide⟩) (IS (mem:=s.mem) (q:=s.buf) hI hA (by rw [←hme,hq];apply AtS.s12C<;>first | assumption | (simp_all;done))) (by rw [hx];rfl) (by rw [hx]) (by rw [hx];rfl)
   rw [show Loc.th 32 _=_ from th_of rfl] at key
   exact⟨_,_,_,hst,key⟩
 case s11W g0 g1 g2 g3=>
  have hi:=ins (i:=⟨15,4,0,0,10⟩) rfl
  rw [movI_jump (i:=⟨15,4,0,0,10⟩) rfl] at hi
  have hst:=st_some hi
  by_cases hz:r4≠0
  ·rw [if_pos (by exact hz)] at hst
   have key:=W_loc h ht eL er ej (⟨p,10,r0,r1,r2,r3,r4,r5,r6,r7,0⟩:Loc) (.inl ⟨rfl,hp,by show 10 < 32;decide⟩) (IS (mem:=s.mem) (q:=s.buf) hI hA (by rw [←hme,hq];apply AtS.s10W<;>first | assumption | (simp_all;done))) (by rw [hx];rfl) (by rw [hx]) (by rw [hx];rfl)
   rw [show Loc.th 32 _=_ from th_jmp (by omega) (by decide) (by decide)] at key
   exact⟨_,_,_,hst,key⟩
  ·rw [if_neg (by exact hz)] at hst
   exfalso;simp_all
 case s12C g0 g1 g2=>
  have hi:=ins (i:=⟨17,5,8,0,18⟩) rfl
  rw [movI_plain (i:=⟨17,5,8,0,18⟩) rfl] at hi
  have hst:=st_store hi (ad:=18) (addr_abs _ _ _ _ _) (by rw [hnm];omega)
  by_cases hro:s.roomy (1 - A)=true
  ·rw [if_pos hro] at hst
   have hrv:r5=me:=by assumption
   have key:=W_stored h ht eL er ej ((p*32+12:Nat):Int) 18 r5 (⟨p,13,r0,r1,r2,r3,r4,r5,r6,r7,0⟩:Loc) (.inl ⟨rfl,hp,by show 13 < 32;decide⟩) (⟨_,_,_,_,_,hI.slow (q':=s.buf (1 - A)++[(18,r5)]) hA (by rw [←hme,hq,hrv];exact (AtS.s13H01 (by first | assumption | rfl | (simp_all;done)))) Iff.rfl hI.cC hI.cW⟩) (by rw [hx];rfl) (by rw [hx]) (.inl ⟨by decide,by rw [hx];rfl⟩)
   rw [show Loc.th 32 _=_ from th_of rfl] at key
   exact⟨_,_,_,hst,key⟩
  ·rw [if_neg hro] at hst
   exact⟨_,f,i,hst,flush h ht hA⟩
 case s13H01 g0=>
  have hi:=ins (i:=⟨1,7,0,0,0⟩) rfl
  rw [movI_plain (i:=⟨1,7,0,0,0⟩) rfl] at hi
  have hst:=st_set hi
  have key:=W_loc h ht eL er ej (⟨p,14,r0,r1,r2,r3,r4,r5,r6,(0),0⟩:Loc) (.inl ⟨rfl,hp,by show 14 < 32;decide⟩) (IS (mem:=s.mem) (q:=s.buf) hI hA (by rw [←hme,hq];apply AtS.s14H01<;>first | assumption | rfl | (simp_all;done))) (by rw [hx];rfl) (by rw [hx]) (by rw [hx];rfl)
  rw [show Loc.th 32 _=_ from th_of rfl] at key
  exact⟨_,_,_,hst,key⟩
 case s13H11 g0 g1=>
  have hi:=ins (i:=⟨1,7,0,0,0⟩) rfl
  rw [movI_plain (i:=⟨1,7,0,0,0⟩) rfl] at hi
  have hst:=st_set hi
  have key:=W_loc h ht eL er ej (⟨p,14,r0,r1,r2,r3,r4,r5,r6,(0),0⟩:Loc) (.inl ⟨rfl,hp,by show 14 < 32;decide⟩) (IS (mem:=s.mem) (q:=s.buf) hI hA (by rw [←hme,hq];apply AtS.s14H11<;>first | assumption | rfl | (simp_all;done))) (by rw [hx];rfl) (by rw [hx]) (by rw [hx];rfl)
  rw [show Loc.th 32 _=_ from th_of rfl] at key
  exact⟨_,_,_,hst,key⟩
 case s14H01 g0 g1=>
  have hi:=ins (i:=⟨27,7,0,0,1⟩) rfl
  rw [movI_plain (i:=⟨27,7,0,0,1⟩) rfl] at hi
  have hmk:=st_mark hi
  have r70:r7=0:=by assumption
  subst r70
  have key:=W_enters h ht eL er ej ((p*32+14:Nat):Int) (⟨p,15,r0,r1,r2,r3,r4,r5,r6,0,0⟩:Loc) (.inl ⟨rfl,hp,by show 15 < 32;decide⟩) (IS (mem:=s.mem) (q:=s.buf) hI hA (by rw [←hme,hq];exact (AtS.s15H01 (by first | assumption | rfl | (simp_all;done))))) (fun u hu=>by
   have hu:u < 2:=hu
   by_cases e:u=(1 - A)
   ·subst e;rw [er,hx];rfl
   ·obtain rfl:u=A:=by omega
    rw [X_F.2.1];exact (hI.hf.free (c':=0) (hI.free (by assumption))).2) rfl (by rw [hx]) (by rw [hx];rfl)
  rw [show Loc.th 32 _=_ from th_of rfl] at key
  exact⟨_,_,_,hmk,key⟩
 case s14H11 g0 g1 g2=>
  have hi:=ins (i:=⟨27,7,0,0,1⟩) rfl
  rw [movI_plain (i:=⟨27,7,0,0,1⟩) rfl] at hi
  have hmk:=st_mark hi
  have r70:r7=0:=by assumption
  subst r70
  have key:=W_enters h ht eL er ej ((p*32+14:Nat):Int) (⟨p,15,r0,r1,r2,r3,r4,r5,r6,0,0⟩:Loc) (.inl ⟨rfl,hp,by show 15 < 32;decide⟩) (IS (mem:=s.mem) (q:=s.buf) hI hA (by rw [←hme,hq];apply AtS.s15H11<;>first | assumption | rfl | (simp_all;done))) (fun u hu=>by
   have hu:u < 2:=hu
   by_cases e:u=(1 - A)
   ·subst e;rw [er,hx];rfl
   ·obtain rfl:u=A:=by omega
    rw [X_F.2.1];exact (hI.hf.free (c':=0) (hI.free (by assumption))).2) rfl (by rw [hx]) (by rw [hx];rfl)
  rw [show Loc.th 32 _=_ from th_of rfl] at key
  exact⟨_,_,_,hmk,key⟩
 case s15H01 g0=>
  have hi:=ins (i:=⟨16,1,8,0,0⟩) rfl
  rw [movI_plain (i:=⟨16,1,8,0,0⟩) rfl] at hi
  have hst:=st_load hi (ad:=0) (addr_abs _ _ _ _ _) (by rw [hnm];omega)
  have hl:s.load (1 - A) 0=(s.mem.getD 0 0):=by rw [load_q hq];rfl
  rw [hl] at hst
  have hg:=h.noted (t:=(1 - A)) ⟨1,0,((p*32+15:Nat):Int),0,(s.mem.getD 0 0),0,0,false⟩ (show (1:Int)≠7 by decide) (show (1:Int)≠13 by decide)
  have key:=W_loc hg ht eL er ej (⟨p,16,r0,(s.mem.getD 0 0),r2,r3,r4,r5,r6,r7,0⟩:Loc) (.inl ⟨rfl,hp,by show 16 < 32;decide⟩) (IS (mem:=s.mem) (q:=s.buf) hI hA (by rw [←hme,hq];exact (AtS.s16H01 (by first | assumption | rfl | omega | (intro e;dsimp only at e;omega)) (by first | assumption | rfl | omega | (intro e;dsimp only at e;omega))))) (by rw [hx];rfl) (by rw [hx]) (by rw [hx];rfl)
  rw [show Loc.th 32 _=_ from th_of rfl] at key
  exact⟨_,_,_,hst,key⟩
 case s15H11 g0 g1=>
  have hi:=ins (i:=⟨16,1,8,0,0⟩) rfl
  rw [movI_plain (i:=⟨16,1,8,0,0⟩) rfl] at hi
  have hst:=st_load hi (ad:=0) (addr_abs _ _ _ _ _) (by rw [hnm];omega)
  have hl:s.load (1 - A) 0=(s.mem.getD 0 0):=by rw [load_q hq];rfl
  rw [hl] at hst
  have hg:=h.noted (t:=(1 - A)) ⟨1,0,((p*32+15:Nat):Int),0,(s.mem.getD 0 0),0,0,false⟩ (show (1:Int)≠7 by decide) (show (1:Int)≠13 by decide)
  have key:=W_loc hg ht eL er ej (⟨p,16,r0,(s.mem.getD 0 0),r2,r3,r4,r5,r6,r7,0⟩:Loc) (.inl ⟨rfl,hp,by show 16 < 32;decide⟩) (IS (mem:=s.mem) (q:=s.buf) hI hA (by rw [←hme,hq];exact (AtS.s16H11 (by first | assumption | rfl | omega | (intro e;dsimp only at e;omega)) (by first | assumption | rfl | omega | (intro e;dsimp only at e;omega)) (by first | assumption | rfl | omega | (intro e;dsimp only at e;omega))))) (by rw [hx];rfl) (by rw [hx]) (by rw [hx];rfl)
  rw [show Loc.th 32 _=_ from th_of rfl] at key
  exact⟨_,_,_,hst,key⟩
 case s16H01 g0 g1=>
  have hi:=ins (i:=⟨1,2,0,0,1⟩) rfl
  rw [movI_plain (i:=⟨1,2,0,0,1⟩) rfl] at hi
  have hst:=st_set hi
  have key:=W_loc h ht eL er ej (⟨p,17,r0,r1,(1),r3,r4,r5,r6,r7,0⟩:Loc) (.inl ⟨rfl,hp,by show 17 < 32;decide⟩) (IS (mem:=s.mem) (q:=s.buf) hI hA (by rw [←hme,hq];apply AtS.s17H01<;>first | assumption | rfl | (simp_all;done))) (by rw [hx];rfl) (by rw [hx]) (by rw [hx];rfl)
  rw [show Loc.th 32 _=_ from th_of rfl] at key
  exact⟨_,_,_,hst,key⟩
 case s16H11 g0 g1 g2=>
  have hi:=ins (i:=⟨1,2,0,0,1⟩) rfl
  rw [movI_plain (i:=⟨1,2,0,0,1⟩) rfl] at hi
  have hst:=st_set hi
  have key:=W_loc h ht eL er ej (⟨p,17,r0,r1,(1),r3,r4,r5,r6,r7,0⟩:Loc) (.inl ⟨rfl,hp,by show 17 < 32;decide⟩) (IS (mem:=s.mem) (q:=s.buf) hI hA (by rw [←hme,hq];apply AtS.s17H11<;>first | assumption | rfl | (simp_all;done))) (by rw [hx];rfl) (by rw [hx]) (by rw [hx];rfl)
  rw [show Loc.th 32 _=_ from th_of rfl] at key
  exact⟨_,_,_,hst,key⟩
 case s17H01 g0 g1 g2=>
  have hi:=ins (i:=⟨3,1,1,2,0⟩) rfl
  rw [movI_plain (i:=⟨3,1,1,2,0⟩) rfl] at hi
  have hst:=st_add hi
  have key:=W_loc h ht eL er ej (⟨p,18,r0,(wr32 (r1+r2)),r2,r3,r4,r5,r6,r7,0⟩:Loc) (.inl ⟨rfl,hp,by show 18 < 32;decide⟩) (IS (mem:=s.mem) (q:=s.buf) hI hA (by rw [←hme,hq];apply AtS.s18H01<;>first | assumption | rfl | (simp_all;done))) (by rw [hx];rfl) (by rw [hx]) (by rw [hx];rfl)
  rw [show Loc.th 32 _=_ from th_of rfl] at key
  exact⟨_,_,_,hst,key⟩
 case s17H11 g0 g1 g2 g3=>
  have hi:=ins (i:=⟨3,1,1,2,0⟩) rfl
  rw [movI_plain (i:=⟨3,1,1,2,0⟩) rfl] at hi
  have hst:=st_add hi
  have key:=W_loc h ht eL er ej (⟨p,18,r0,(wr32 (r1+r2)),r2,r3,r4,r5,r6,r7,0⟩:Loc) (.inl ⟨rfl,hp,by show 18 < 32;decide⟩) (IS (mem:=s.mem) (q:=s.buf) hI hA (by rw [←hme,hq];apply AtS.s18H11<;>first | assumption | rfl | (simp_all;done))) (by rw [hx];rfl) (by rw [hx]) (by rw [hx];rfl)
  rw [show Loc.th 32 _=_ from th_of rfl] at key
  exact⟨_,_,_,hst,key⟩
 case s18H01 g0 g1=>
  have hi:=ins (i:=⟨17,1,8,0,0⟩) rfl
  rw [movI_plain (i:=⟨17,1,8,0,0⟩) rfl] at hi
  have hst:=st_store hi (ad:=0) (addr_abs _ _ _ _ _) (by rw [hnm];omega)
  by_cases hro:s.roomy (1 - A)=true
  ·rw [if_pos hro] at hst
   have hrv:r1=(wr32 (s.mem.getD 0 0+1)):=by assumption
   have key:=W_stored h ht eL er ej ((p*32+18:Nat):Int) 0 r1 (⟨p,19,r0,r1,r2,r3,r4,r5,r6,r7,0⟩:Loc) (.inl ⟨rfl,hp,by show 19 < 32;decide⟩) (⟨_,_,_,_,_,hI.slow (q':=s.buf (1 - A)++[(0,r1)]) hA (by rw [←hme,hq,hrv];exact (AtS.s19H02 (by first | assumption | rfl | (simp_all;done)))) Iff.rfl hI.cC hI.cW⟩) (by rw [hx];rfl) (by rw [hx]) (.inr ⟨rfl,by rw [hx],rfl⟩)
   rw [show Loc.th 32 _=_ from th_of rfl] at key
   exact⟨_,_,_,hst,key⟩
  ·rw [if_neg hro] at hst
   exact⟨_,f,i,hst,flush h ht hA⟩
 case s18H11 g0 g1 g2=>
  have hi:=ins (i:=⟨17,1,8,0,0⟩) rfl
  rw [movI_plain (i:=⟨17,1,8,0,0⟩) rfl] at hi
  have hst:=st_store hi (ad:=0) (addr_abs _ _ _ _ _) (by rw [hnm];omega)
  by_cases hro:s.roomy (1 - A)=true
  ·rw [if_pos hro] at hst
   have hrv:r1=(wr32 (s.mem.getD 0 0+1)):=by assumption
   have key:=W_stored h ht eL er ej ((p*32+18:Nat):Int) 0 r1 (⟨p,19,r0,r1,r2,r3,r4,r5,r6,r7,0⟩:Loc) (.inl ⟨rfl,hp,by show 19 < 32;decide⟩) (⟨_,_,_,_,_,hI.slow (q':=s.buf (1 - A)++[(0,r1)]) hA (by rw [←hme,hq,hrv];apply AtS.s19H12<;>first | assumption | rfl | (simp_all;done)) Iff.rfl hI.cC hI.cW⟩) (by rw [hx];rfl) (by rw [hx]) (.inr ⟨rfl,by rw [hx],rfl⟩)
   rw [show Loc.th 32 _=_ from th_of rfl] at key
   exact⟨_,_,_,hst,key⟩
  ·rw [if_neg hro] at hst
   exact⟨_,f,i,hst,flush h ht hA⟩
 case s19H02 g0=>
  have hi:=ins (i:=⟨27,7,0,0,2⟩) rfl
  rw [movI_plain (i:=⟨27,7,0,0,2⟩) rfl] at hi
  have hmk:=st_mark hi
  have key:=W_leaves h ht eL er ej ((p*32+19:Nat):Int) r7 (⟨p,20,r0,r1,r2,r3,r4,r5,r6,r7,0⟩:Loc) (.inl ⟨rfl,hp,by show 20 < 32;decide⟩) (IS (mem:=s.mem) (q:=s.buf) hI hA (by rw [←hme,hq];exact (AtS.s20H02 (by first | assumption | rfl | (simp_all;done))))) (by rw [hx];rfl) rfl (by rw [hx]) (by rw [hx];rfl)
  rw [show Loc.th 32 _=_ from th_of rfl] at key
  exact⟨_,_,_,hmk,key⟩
 case s19H12 g0 g1=>
  have hi:=ins (i:=⟨27,7,0,0,2⟩) rfl
  rw [movI_plain (i:=⟨27,7,0,0,2⟩) rfl] at hi
  have hmk:=st_mark hi
  have key:=W_leaves h ht eL er ej ((p*32+19:Nat):Int) r7 (⟨p,20,r0,r1,r2,r3,r4,r5,r6,r7,0⟩:Loc) (.inl ⟨rfl,hp,by show 20 < 32;decide⟩) (IS (mem:=s.mem) (q:=s.buf) hI hA (by rw [←hme,hq];apply AtS.s20H12<;>first | assumption | rfl | (simp_all;done))) (by rw [hx];rfl) rfl (by rw [hx]) (by rw [hx];rfl)
  rw [show Loc.th 32 _=_ from th_of rfl] at key
  exact⟨_,_,_,hmk,key⟩
 case s19H22 g0 g1=>
  have hi:=ins (i:=⟨27,7,0,0,2⟩) rfl
  rw [movI_plain (i:=⟨27,7,0,0,2⟩) rfl] at hi
  have hmk:=st_mark hi
  have key:=W_leaves h ht eL er ej ((p*32+19:Nat):Int) r7 (⟨p,20,r0,r1,r2,r3,r4,r5,r6,r7,0⟩:Loc) (.inl ⟨rfl,hp,by show 20 < 32;decide⟩) (IS (mem:=s.mem) (q:=s.buf) hI hA (by rw [←hme,hq];apply AtS.s20H22<;>first | assumption | rfl | (simp_all;done))) (by rw [hx];rfl) rfl (by rw [hx]) (by rw [hx];rfl)
  rw [show Loc.th 32 _=_ from th_of rfl] at key
  exact⟨_,_,_,hmk,key⟩
 case s20H02 g0=>
  have hi:=ins (i:=⟨16,4,8,0,18⟩) rfl
  rw [movI_plain (i:=⟨16,4,8,0,18⟩) rfl] at hi
  have hst:=st_load hi (ad:=18) (addr_abs _ _ _ _ _) (by rw [hnm];omega)
  have hl:s.load (1 - A) 18=me:=by rw [load_q hq];rfl
  rw [hl] at hst
  have hg:=h.noted (t:=(1 - A)) ⟨1,0,((p*32+20:Nat):Int),18,me,0,0,false⟩ (show (1:Int)≠7 by decide) (show (1:Int)≠13 by decide)
  have key:=W_loc hg ht eL er ej (⟨p,21,r0,r1,r2,r3,me,r5,r6,r7,0⟩:Loc) (.inl ⟨rfl,hp,by show 21 < 32;decide⟩) (IS (mem:=s.mem) (q:=s.buf) hI hA (by rw [←hme,hq];exact (AtS.s21H02 (by first | assumption | rfl | omega | (intro e;dsimp only at e;omega)) (by first | assumption | rfl | omega | (intro e;dsimp only at e;omega))))) (by rw [hx];rfl) (by rw [hx]) (by rw [hx];rfl)
  rw [show Loc.th 32 _=_ from th_of rfl] at key
  exact⟨_,_,_,hst,key⟩
 case s20H12 g0 g1=>
  have hi:=ins (i:=⟨16,4,8,0,18⟩) rfl
  rw [movI_plain (i:=⟨16,4,8,0,18⟩) rfl] at hi
  have hst:=st_load hi (ad:=18) (addr_abs _ _ _ _ _) (by rw [hnm];omega)
  have hl:s.load (1 - A) 18=(s.mem.getD 18 0):=by rw [load_q hq];rfl
  rw [hl] at hst
  have hg:=h.noted (t:=(1 - A)) ⟨1,0,((p*32+20:Nat):Int),18,(s.mem.getD 18 0),0,0,false⟩ (show (1:Int)≠7 by decide) (show (1:Int)≠13 by decide)
  have key:=W_loc hg ht eL er ej (⟨p,21,r0,r1,r2,r3,(s.mem.getD 18 0),r5,r6,r7,0⟩:Loc) (.inl ⟨rfl,hp,by show 21 < 32;decide⟩) (IS (mem:=s.mem) (q:=s.buf) hI hA (by rw [←hme,hq];exact (AtS.s21H12 (by first | assumption | rfl | omega | (intro e;dsimp only at e;omega)) (by first | assumption | rfl | omega | (intro e;dsimp only at e;omega)) (by first | assumption | rfl | omega | (intro e;dsimp only at e;omega))))) (by rw [hx];rfl) (by rw [hx]) (by rw [hx];rfl)
  rw [show Loc.th 32 _=_ from th_of rfl] at key
  exact⟨_,_,_,hst,key⟩
 case s20H22 g0 g1=>
  have hi:=ins (i:=⟨16,4,8,0,18⟩) rfl
  rw [movI_plain (i:=⟨16,4,8,0,18⟩) rfl] at hi
  have hst:=st_load hi (ad:=18) (addr_abs _ _ _ _ _) (by rw [hnm];omega)
  have hl:s.load (1 - A) 18=(s.mem.getD 18 0):=by rw [load_q hq];rfl
  rw [hl] at hst
  have hg:=h.noted (t:=(1 - A)) ⟨1,0,((p*32+20:Nat):Int),18,(s.mem.getD 18 0),0,0,false⟩ (show (1:Int)≠7 by decide) (show (1:Int)≠13 by decide)
  have key:=W_loc hg ht eL er ej (⟨p,21,r0,r1,r2,r3,(s.mem.getD 18 0),r5,r6,r7,0⟩:Loc) (.inl ⟨rfl,hp,by show 21 < 32;decide⟩) (IS (mem:=s.mem) (q:=s.buf) hI hA (by rw [←hme,hq];exact (AtS.s21H22 (by first | assumption | rfl | omega | (intro e;dsimp only at e;omega)) (by first | assumption | rfl | omega | (intro e;dsimp only at e;omega)) (by first | assumption | rfl | omega | (intro e;dsimp only at e;omega))))) (by rw [hx];rfl) (by rw [hx]) (by rw [hx];rfl)
  rw [show Loc.th 32 _=_ from th_of rfl] at key
  exact⟨_,_,_,hst,key⟩
 case s21H02 g0 g1=>
  have hi:=ins (i:=⟨1,5,0,0,me⟩) rfl
  rw [movI_plain (i:=⟨1,5,0,0,me⟩) rfl] at hi
  have hst:=st_set hi
  have key:=W_loc h ht eL er ej (⟨p,22,r0,r1,r2,r3,r4,(me),r6,r7,0⟩:Loc) (.inl ⟨rfl,hp,by show 22 < 32;decide⟩) (IS (mem:=s.mem) (q:=s.buf) hI hA (by rw [←hme,hq];apply AtS.s22H02<;>first | assumption | rfl | (simp_all;done))) (by rw [hx];rfl) (by rw [hx]) (by rw [hx];rfl)
  rw [show Loc.th 32 _=_ from th_of rfl] at key
  exact⟨_,_,_,hst,key⟩
 case s21H12 g0 g1 g2=>
  have hi:=ins (i:=⟨1,5,0,0,me⟩) rfl
  rw [movI_plain (i:=⟨1,5,0,0,me⟩) rfl] at hi
  have hst:=st_set hi
  have key:=W_loc h ht eL er ej (⟨p,22,r0,r1,r2,r3,r4,(me),r6,r7,0⟩:Loc) (.inl ⟨rfl,hp,by show 22 < 32;decide⟩) (IS (mem:=s.mem) (q:=s.buf) hI hA (by rw [←hme,hq];apply AtS.s22H12<;>first | assumption | rfl | (simp_all;done))) (by rw [hx];rfl) (by rw [hx]) (by rw [hx];rfl)
  rw [show Loc.th 32 _=_ from th_of rfl] at key
  exact⟨_,_,_,hst,key⟩
 case s21H22 g0 g1 g2=>
  have hi:=ins (i:=⟨1,5,0,0,me⟩) rfl
  rw [movI_plain (i:=⟨1,5,0,0,me⟩) rfl] at hi
  have hst:=st_set hi
  have key:=W_loc h ht eL er ej (⟨p,22,r0,r1,r2,r3,r4,(me),r6,r7,0⟩:Loc) (.inl ⟨rfl,hp,by show 22 < 32;decide⟩) (IS (mem:=s.mem) (q:=s.buf) hI hA (by rw [←hme,hq];apply AtS.s22H22<;>first | assumption | rfl | (simp_all;done))) (by rw [hx];rfl) (by rw [hx]) (by rw [hx];rfl)
  rw [show Loc.th 32 _=_ from th_of rfl] at key
  exact⟨_,_,_,hst,key⟩
 case s22H02 g0 g1 g2=>
  have hi:=ins (i:=⟨12,6,4,5,0⟩) rfl
  rw [movI_plain (i:=⟨12,6,4,5,0⟩) rfl] at hi
  have hst:=st_same hi
  have hv:(if r4=r5 then (1:Int) else 0)=1:=by simp_all
  have key:=W_loc h ht eL er ej (⟨p,23,r0,r1,r2,r3,r4,r5,(if r4=r5 then (1:Int) else 0),r7,0⟩:Loc) (.inl ⟨rfl,hp,by show 23 < 32;decide⟩) (IS (mem:=s.mem) (q:=s.buf) hI hA (by rw [←hme,hq];exact (AtS.s23H02 (by first | assumption | exact hv | (rw [hv];decide)) (by first | assumption | exact hv | (rw [hv];decide))))) (by rw [hx];rfl) (by rw [hx]) (by rw [hx];rfl)
  rw [show Loc.th 32 _=_ from th_of rfl] at key
  exact⟨_,_,_,hst,key⟩
 case s22H12 g0 g1 g2 g3=>
  have hi:=ins (i:=⟨12,6,4,5,0⟩) rfl
  rw [movI_plain (i:=⟨12,6,4,5,0⟩) rfl] at hi
  have hst:=st_same hi
  have hv:(if r4=r5 then (1:Int) else 0)=1:=by simp_all
  have key:=W_loc h ht eL er ej (⟨p,23,r0,r1,r2,r3,r4,r5,(if r4=r5 then (1:Int) else 0),r7,0⟩:Loc) (.inl ⟨rfl,hp,by show 23 < 32;decide⟩) (IS (mem:=s.mem) (q:=s.buf) hI hA (by rw [←hme,hq];exact (AtS.s23H12 (by first | assumption | exact hv | (rw [hv];decide)) (by first | assumption | exact hv | (rw [hv];decide)) (by first | assumption | exact hv | (rw [hv];decide))))) (by rw [hx];rfl) (by rw [hx]) (by rw [hx];rfl)
  rw [show Loc.th 32 _=_ from th_of rfl] at key
  exact⟨_,_,_,hst,key⟩
 case s22H22 g0 g1 g2 g3=>
  have hi:=ins (i:=⟨12,6,4,5,0⟩) rfl
  rw [movI_plain (i:=⟨12,6,4,5,0⟩) rfl] at hi
  have hst:=st_same hi
  have hv:(if r4=r5 then (1:Int) else 0)=1:=by simp_all
  have key:=W_loc h ht eL er ej (⟨p,23,r0,r1,r2,r3,r4,r5,(if r4=r5 then (1:Int) else 0),r7,0⟩:Loc) (.inl ⟨rfl,hp,by show 23 < 32;decide⟩) (IS (mem:=s.mem) (q:=s.buf) hI hA (by rw [←hme,hq];exact (AtS.s23H22 (by first | assumption | exact hv | (rw [hv];decide)) (by first | assumption | exact hv | (rw [hv];decide)) (by first | assumption | exact hv | (rw [hv];decide))))) (by rw [hx];rfl) (by rw [hx]) (by rw [hx];rfl)
  rw [show Loc.th 32 _=_ from th_of rfl] at key
  exact⟨_,_,_,hst,key⟩
 case s23H02 g0 g1=>
  have hi:=ins (i:=⟨15,6,0,0,26⟩) rfl
  rw [movI_jump (i:=⟨15,6,0,0,26⟩) rfl] at hi
  have hst:=st_some hi
  by_cases hz:r6≠0
  ·rw [if_pos (by exact hz)] at hst
   have key:=W_loc h ht eL er ej (⟨p,26,r0,r1,r2,r3,r4,r5,r6,r7,0⟩:Loc) (.inl ⟨rfl,hp,by show 26 < 32;decide⟩) (IS (mem:=s.mem) (q:=s.buf) hI hA (by rw [←hme,hq];exact (AtS.s26H02 (by first | assumption | (simp_all;done))))) (by rw [hx];rfl) (by rw [hx]) (by rw [hx];rfl)
   rw [show Loc.th 32 _=_ from th_jmp (by omega) (by decide) (by decide)] at key
   exact⟨_,_,_,hst,key⟩
  ·rw [if_neg (by exact hz)] at hst
   exfalso;simp_all
 case s23H12 g0 g1 g2=>
  have hi:=ins (i:=⟨15,6,0,0,26⟩) rfl
  rw [movI_jump (i:=⟨15,6,0,0,26⟩) rfl] at hi
  have hst:=st_some hi
  by_cases hz:r6≠0
  ·rw [if_pos (by exact hz)] at hst
   have key:=W_loc h ht eL er ej (⟨p,26,r0,r1,r2,r3,r4,r5,r6,r7,0⟩:Loc) (.inl ⟨rfl,hp,by show 26 < 32;decide⟩) (IS (mem:=s.mem) (q:=s.buf) hI hA (by rw [←hme,hq];apply AtS.s26H12<;>first | assumption | (simp_all;done))) (by rw [hx];rfl) (by rw [hx]) (by rw [hx];rfl)
   rw [show Loc.th 32 _=_ from th_jmp (by omega) (by decide) (by decide)] at key
   exact⟨_,_,_,hst,key⟩
  ·rw [if_neg (by exact hz)] at hst
   exfalso;simp_all
 case s23H22 g0 g1 g2=>
  have hi:=ins (i:=⟨15,6,0,0,26⟩) rfl
  rw [movI_jump (i:=⟨15,6,0,0,26⟩) rfl] at hi
  have hst:=st_some hi
  by_cases hz:r6≠0
  ·rw [if_pos (by exact hz)] at hst
   have key:=W_loc h ht eL er ej (⟨p,26,r0,r1,r2,r3,r4,r5,r6,r7,0⟩:Loc) (.inl ⟨rfl,hp,by show 26 < 32;decide⟩) (IS (mem:=s.mem) (q:=s.buf) hI hA (by rw [←hme,hq];apply AtS.s26H22<;>first | assumption | (simp_all;done))) (by rw [hx];rfl) (by rw [hx]) (by rw [hx];rfl)
   rw [show Loc.th 32 _=_ from th_jmp (by omega) (by decide) (by decide)] at key
   exact⟨_,_,_,hst,key⟩
  ·rw [if_neg (by exact hz)] at hst
   exfalso;simp_all
 case s26H02 g0=>
  have hi:=ins (i:=⟨1,4,0,0,0⟩) rfl
  rw [movI_plain (i:=⟨1,4,0,0,0⟩) rfl] at hi
  have hst:=st_set hi
  have key:=W_loc h ht eL er ej (⟨p,27,r0,r1,r2,r3,(0),r5,r6,r7,0⟩:Loc) (.inl ⟨rfl,hp,by show 27 < 32;decide⟩) (IS (mem:=s.mem) (q:=s.buf) hI hA (by rw [←hme,hq];apply AtS.s27H02<;>first | assumption | rfl | (simp_all;done))) (by rw [hx];rfl) (by rw [hx]) (by rw [hx];rfl)
  rw [show Loc.th 32 _=_ from th_of rfl] at key
  exact⟨_,_,_,hst,key⟩
 case s26H12 g0 g1=>
  have hi:=ins (i:=⟨1,4,0,0,0⟩) rfl
  rw [movI_plain (i:=⟨1,4,0,0,0⟩) rfl] at hi
  have hst:=st_set hi
  have key:=W_loc h ht eL er ej (⟨p,27,r0,r1,r2,r3,(0),r5,r6,r7,0⟩:Loc) (.inl ⟨rfl,hp,by show 27 < 32;decide⟩) (IS (mem:=s.mem) (q:=s.buf) hI hA (by rw [←hme,hq];apply AtS.s27H12<;>first | assumption | rfl | (simp_all;done))) (by rw [hx];rfl) (by rw [hx]) (by rw [hx];rfl)
  rw [show Loc.th 32 _=_ from th_of rfl] at key
  exact⟨_,_,_,hst,key⟩
 case s26H22 g0 g1=>
  have hi:=ins (i:=⟨1,4,0,0,0⟩) rfl
  rw [movI_plain (i:=⟨1,4,0,0,0⟩) rfl] at hi
  have hst:=st_set hi
  have key:=W_loc h ht eL er ej (⟨p,27,r0,r1,r2,r3,(0),r5,r6,r7,0⟩:Loc) (.inl ⟨rfl,hp,by show 27 < 32;decide⟩) (IS (mem:=s.mem) (q:=s.buf) hI hA (by rw [←hme,hq];apply AtS.s27H22<;>first | assumption | rfl | (simp_all;done))) (by rw [hx];rfl) (by rw [hx]) (by rw [hx];rfl)
  rw [show Loc.th 32 _=_ from th_of rfl] at key
  exact⟨_,_,_,hst,key⟩
 case s27H02 g0 g1=>
  have hi:=ins (i:=⟨17,4,8,0,18⟩) rfl
  rw [movI_plain (i:=⟨17,4,8,0,18⟩) rfl] at hi
  have hst:=st_store hi (ad:=18) (addr_abs _ _ _ _ _) (by rw [hnm];omega)
  by_cases hro:s.roomy (1 - A)=true
  ·rw [if_pos hro] at hst
   have hrv:r4=0:=by assumption
   have key:=W_stored h ht eL er ej ((p*32+27:Nat):Int) 18 r4 (⟨p,28,r0,r1,r2,r3,r4,r5,r6,r7,0⟩:Loc) (.inl ⟨rfl,hp,by show 28 < 32;decide⟩) (⟨_,_,_,_,_,hI.slow (q':=s.buf (1 - A)++[(18,r4)]) hA (by rw [←hme,hq,hrv];exact (AtS.s28H03 (by first | assumption | rfl | (simp_all;done)))) Iff.rfl hI.cC hI.cW⟩) (by rw [hx];rfl) (by rw [hx]) (.inl ⟨by decide,by rw [hx];rfl⟩)
   rw [show Loc.th 32 _=_ from th_of rfl] at key
   exact⟨_,_,_,hst,key⟩
  ·rw [if_neg hro] at hst
   exact⟨_,f,i,hst,flush h ht hA⟩
 case s27H12 g0 g1 g2=>
  have hi:=ins (i:=⟨17,4,8,0,18⟩) rfl
  rw [movI_plain (i:=⟨17,4,8,0,18⟩) rfl] at hi
  have hst:=st_store hi (ad:=18) (addr_abs _ _ _ _ _) (by rw [hnm];omega)
  by_cases hro:s.roomy (1 - A)=true
  ·rw [if_pos hro] at hst
   have hrv:r4=0:=by assumption
   have key:=W_stored h ht eL er ej ((p*32+27:Nat):Int) 18 r4 (⟨p,28,r0,r1,r2,r3,r4,r5,r6,r7,0⟩:Loc) (.inl ⟨rfl,hp,by show 28 < 32;decide⟩) (⟨_,_,_,_,_,hI.slow (q':=s.buf (1 - A)++[(18,r4)]) hA (by rw [←hme,hq,hrv];apply AtS.s28H13<;>first | assumption | rfl | (simp_all;done)) Iff.rfl hI.cC hI.cW⟩) (by rw [hx];rfl) (by rw [hx]) (.inl ⟨by decide,by rw [hx];rfl⟩)
   rw [show Loc.th 32 _=_ from th_of rfl] at key
   exact⟨_,_,_,hst,key⟩
  ·rw [if_neg hro] at hst
   exact⟨_,f,i,hst,flush h ht hA⟩
 case s27H22 g0 g1 g2=>
  have hi:=ins (i:=⟨17,4,8,0,18⟩) rfl
  rw [movI_plain (i:=⟨17,4,8,0,18⟩) rfl] at hi
  have hst:=st_store hi (ad:=18) (addr_abs _ _ _ _ _) (by rw [hnm];omega)
  by_cases hro:s.roomy (1 - A)=true
  ·rw [if_pos hro] at hst
   have hrv:r4=0:=by assumption
   have key:=W_stored h ht eL er ej ((p*32+27:Nat):Int) 18 r4 (⟨p,28,r0,r1,r2,r3,r4,r5,r6,r7,0⟩:Loc) (.inl ⟨rfl,hp,by show 28 < 32;decide⟩) (⟨_,_,_,_,_,hI.slow (q':=s.buf (1 - A)++[(18,r4)]) hA (by rw [←hme,hq,hrv];apply AtS.s28H23<;>first | assumption | rfl | (simp_all;done)) Iff.rfl hI.cC hI.cW⟩) (by rw [hx];rfl) (by rw [hx]) (.inl ⟨by decide,by rw [hx];rfl⟩)
   rw [show Loc.th 32 _=_ from th_of rfl] at key
   exact⟨_,_,_,hst,key⟩
  ·rw [if_neg hro] at hst
   exact⟨_,f,i,hst,flush h ht hA⟩
 case s28H03 g0=>
  have hi:=ins (i:=⟨1,4,0,0,0⟩) rfl
  rw [movI_plain (i:=⟨1,4,0,0,0⟩) rfl] at hi
  have hst:=st_set hi
  have key:=W_loc h ht eL er ej (⟨p,29,r0,r1,r2,r3,(0),r5,r6,r7,0⟩:Loc) (.inl ⟨rfl,hp,by show 29 < 32;decide⟩) (IS (mem:=s.mem) (q:=s.buf) hI hA (by rw [←hme,hq];apply AtS.s29H03<;>first | assumption | rfl | (simp_all;done))) (by rw [hx];rfl) (by rw [hx]) (by rw [hx];rfl)
  rw [show Loc.th 32 _=_ from th_of rfl] at key
  exact⟨_,_,_,hst,key⟩
 case s28H13 g0 g1=>
  have hi:=ins (i:=⟨1,4,0,0,0⟩) rfl
  rw [movI_plain (i:=⟨1,4,0,0,0⟩) rfl] at hi
  have hst:=st_set hi
  have key:=W_loc h ht eL er ej (⟨p,29,r0,r1,r2,r3,(0),r5,r6,r7,0⟩:Loc) (.inl ⟨rfl,hp,by show 29 < 32;decide⟩) (IS (mem:=s.mem) (q:=s.buf) hI hA (by rw [←hme,hq];apply AtS.s29H13<;>first | assumption | rfl | (simp_all;done))) (by rw [hx];rfl) (by rw [hx]) (by rw [hx];rfl)
  rw [show Loc.th 32 _=_ from th_of rfl] at key
  exact⟨_,_,_,hst,key⟩
 case s28H23 g0 g1=>
  have hi:=ins (i:=⟨1,4,0,0,0⟩) rfl
  rw [movI_plain (i:=⟨1,4,0,0,0⟩) rfl] at hi
  have hst:=st_set hi
  have key:=W_loc h ht eL er ej (⟨p,29,r0,r1,r2,r3,(0),r5,r6,r7,0⟩:Loc) (.inl ⟨rfl,hp,by show 29 < 32;decide⟩) (IS (mem:=s.mem) (q:=s.buf) hI hA (by rw [←hme,hq];apply AtS.s29H23<;>first | assumption | rfl | (simp_all;done))) (by rw [hx];rfl) (by rw [hx]) (by rw [hx];rfl)
  rw [show Loc.th 32 _=_ from th_of rfl] at key
  exact⟨_,_,_,hst,key⟩
 case s28H33 g0 g1=>
  have hi:=ins (i:=⟨1,4,0,0,0⟩) rfl
  rw [movI_plain (i:=⟨1,4,0,0,0⟩) rfl] at hi
  have hst:=st_set hi
  have key:=W_loc h ht eL er ej (⟨p,29,r0,r1,r2,r3,(0),r5,r6,r7,0⟩:Loc) (.inl ⟨rfl,hp,by show 29 < 32;decide⟩) (IS (mem:=s.mem) (q:=s.buf) hI hA (by rw [←hme,hq];apply AtS.s29H33<;>first | assumption | rfl | (simp_all;done))) (by rw [hx];rfl) (by rw [hx]) (by rw [hx];rfl)
  rw [show Loc.th 32 _=_ from th_of rfl] at key
  exact⟨_,_,_,hst,key⟩
 case s29H03 g0 g1=>
  have hi:=ins (i:=⟨17,4,8,0,17⟩) rfl
  rw [movI_plain (i:=⟨17,4,8,0,17⟩) rfl] at hi
  have hst:=st_store hi (ad:=17) (addr_abs _ _ _ _ _) (by rw [hnm];omega)
  by_cases hro:s.roomy (1 - A)=true
  ·rw [if_pos hro] at hst
   have hrv:r4=0:=by assumption
   have key:=W_stored h ht eL er ej ((p*32+29:Nat):Int) 17 r4 (⟨p,30,r0,r1,r2,r3,r4,r5,r6,r7,0⟩:Loc) (.inl ⟨rfl,hp,by show 30 < 32;decide⟩) (⟨_,_,_,_,_,hI.slow (q':=s.buf (1 - A)++[(17,r4)]) hA (by rw [←hme,hq,hrv];exact (AtS.s30H04 (by first | assumption | rfl | (simp_all;done)))) Iff.rfl hI.cC hI.cW⟩) (by rw [hx];rfl) (by rw [hx]) (.inl ⟨by decide,by rw [hx];rfl⟩)
   rw [show Loc.th 32 _=_ from th_of rfl] at key
   exact⟨_,_,_,hst,key⟩
  ·rw [if_neg hro] at hst
   exact⟨_,f,i,hst,flush h ht hA⟩
 case s29H13 g0 g1 g2=>
  have hi:=ins (i:=⟨17,4,8,0,17⟩) rfl
  rw [movI_plain (i:=⟨17,4,8,0,17⟩) rfl] at hi
  have hst:=st_store hi (ad:=17) (addr_abs _ _ _ _ _) (by rw [hnm];omega)
  by_cases hro:s.roomy (1 - A)=true
  ·rw [if_pos hro] at hst
   have hrv:r4=0:=by assumption
   have key:=W_stored h ht eL er ej ((p*32+29:Nat):Int) 17 r4 (⟨p,30,r0,r1,r2,r3,r4,r5,r6,r7,0⟩:Loc) (.inl ⟨rfl,hp,by show 30 < 32;decide⟩) (⟨_,_,_,_,_,hI.slow (q':=s.buf (1 - A)++[(17,r4)]) hA (by rw [←hme,hq,hrv];apply AtS.s30H14<;>first | assumption | rfl | (simp_all;done)) Iff.rfl hI.cC hI.cW⟩) (by rw [hx];rfl) (by rw [hx]) (.inl ⟨by decide,by rw [hx];rfl⟩)
   rw [show Loc.th 32 _=_ from th_of rfl] at key
   exact⟨_,_,_,hst,key⟩
  ·rw [if_neg hro] at hst
   exact⟨_,f,i,hst,flush h ht hA⟩
 case s29H23 g0 g1 g2=>
  have hi:=ins (i:=⟨17,4,8,0,17⟩) rfl
  rw [movI_plain (i:=⟨17,4,8,0,17⟩) rfl] at hi
  have hst:=st_store hi (ad:=17) (addr_abs _ _ _ _ _) (by rw [hnm];omega)
  by_cases hro:s.roomy (1 - A)=true
  ·rw [if_pos hro] at hst
   have hrv:r4=0:=by assumption
   have key:=W_stored h ht eL er ej ((p*32+29:Nat):Int) 17 r4 (⟨p,30,r0,r1,r2,r3,r4,r5,r6,r7,0⟩:Loc) (.inl ⟨rfl,hp,by show 30 < 32;decide⟩) (⟨_,_,_,_,_,hI.slow (q':=s.buf (1 - A)++[(17,r4)]) hA (by rw [←hme,hq,hrv];apply AtS.s30H24<;>first | assumption | rfl | (simp_all;done)) Iff.rfl hI.cC hI.cW⟩) (by rw [hx];rfl) (by rw [hx]) (.inl ⟨by decide,by rw [hx];rfl⟩)
   rw [show Loc.th 32 _=_ from th_of rfl] at key
   exact⟨_,_,_,hst,key⟩
  ·rw [if_neg hro] at hst
   exact⟨_,f,i,hst,flush h ht hA⟩
 case s29H33 g0 g1 g2=>
  have hi:=ins (i:=⟨17,4,8,0,17⟩) rfl
  rw [movI_plain (i:=⟨17,4,8,0,17⟩) rfl] at hi
  have hst:=st_store hi (ad:=17) (addr_abs _ _ _ _ _) (by rw [hnm];omega)
  by_cases hro:s.roomy (1 - A)=true
  ·rw [if_pos hro] at hst
   have hrv:r4=0:=by assumption
   have key:=W_stored h ht eL er ej ((p*32+29:Nat):Int) 17 r4 (⟨p,30,r0,r1,r2,r3,r4,r5,r6,r7,0⟩:Loc) (.inl ⟨rfl,hp,by show 30 < 32;decide⟩) (⟨_,_,_,_,_,hI.slow (q':=s.buf (1 - A)++[(17,r4)]) hA (by rw [←hme,hq,hrv];apply AtS.s30H34<;>first | assumption | rfl | (simp_all;done)) Iff.rfl hI.cC hI.cW⟩) (by rw [hx];rfl) (by rw [hx]) (.inl ⟨by decide,by rw [hx];rfl⟩)
   rw [show Loc.th 32 _=_ from th_of rfl] at key
   exact⟨_,_,_,hst,key⟩
  ·rw [if_neg hro] at hst
   exact⟨_,f,i,hst,flush h ht hA⟩
 case s30H04 g0=>
  have hi:=ins (i:=⟨1,7,0,0,0⟩) rfl
  rw [movI_plain (i:=⟨1,7,0,0,0⟩) rfl] at hi
  have hst:=st_set hi
  have key:=W_loc h ht eL er ej (⟨p,31,r0,r1,r2,r3,r4,r5,r6,(0),0⟩:Loc) (.inl ⟨rfl,hp,by show 31 < 32;decide⟩) (IS (mem:=s.mem) (q:=s.buf) hI hA (by rw [←hme,hq];apply AtS.s31H04<;>first | assumption | rfl | (simp_all;done))) (by rw [hx];rfl) (by rw [hx]) (by rw [hx];rfl)
  rw [show Loc.th 32 _=_ from th_of rfl] at key
  exact⟨_,_,_,hst,key⟩
 case s30H14 g0 g1=>
  have hi:=ins (i:=⟨1,7,0,0,0⟩) rfl
  rw [movI_plain (i:=⟨1,7,0,0,0⟩) rfl] at hi
  have hst:=st_set hi
  have key:=W_loc h ht eL er ej (⟨p,31,r0,r1,r2,r3,r4,r5,r6,(0),0⟩:Loc) (.inl ⟨rfl,hp,by show 31 < 32;decide⟩) (IS (mem:=s.mem) (q:=s.buf) hI hA (by rw [←hme,hq];apply AtS.s31H14<;>first | assumption | rfl | (simp_all;done))) (by rw [hx];rfl) (by rw [hx]) (by rw [hx];rfl)
  rw [show Loc.th 32 _=_ from th_of rfl] at key
  exact⟨_,_,_,hst,key⟩
 case s30H24 g0 g1=>
  have hi:=ins (i:=⟨1,7,0,0,0⟩) rfl
  rw [movI_plain (i:=⟨1,7,0,0,0⟩) rfl] at hi
  have hst:=st_set hi
  have key:=W_loc h ht eL er ej (⟨p,31,r0,r1,r2,r3,r4,r5,r6,(0),0⟩:Loc) (.inl ⟨rfl,hp,by show 31 < 32;decide⟩) (IS (mem:=s.mem) (q:=s.buf) hI hA (by rw [←hme,hq];apply AtS.s31H24<;>first | assumption | rfl | (simp_all;done))) (by rw [hx];rfl) (by rw [hx]) (by rw [hx];rfl)
  rw [show Loc.th 32 _=_ from th_of rfl] at key
  exact⟨_,_,_,hst,key⟩
 case s30H34 g0 g1=>
  have hi:=ins (i:=⟨1,7,0,0,0⟩) rfl
  rw [movI_plain (i:=⟨1,7,0,0,0⟩) rfl] at hi
  have hst:=st_set hi
  have key:=W_loc h ht eL er ej (⟨p,31,r0,r1,r2,r3,r4,r5,r6,(0),0⟩:Loc) (.inl ⟨rfl,hp,by show 31 < 32;decide⟩) (IS (mem:=s.mem) (q:=s.buf) hI hA (by rw [←hme,hq];apply AtS.s31H34<;>first | assumption | rfl | (simp_all;done))) (by rw [hx];rfl) (by rw [hx]) (by rw [hx];rfl)
  rw [show Loc.th 32 _=_ from th_of rfl] at key
  exact⟨_,_,_,hst,key⟩
 case s30H44 g0 g1=>
  have hi:=ins (i:=⟨1,7,0,0,0⟩) rfl
  rw [movI_plain (i:=⟨1,7,0,0,0⟩) rfl] at hi
  have hst:=st_set hi
  have key:=W_loc h ht eL er ej (⟨p,31,r0,r1,r2,r3,r4,r5,r6,(0),0⟩:Loc) (.inl ⟨rfl,hp,by show 31 < 32;decide⟩) (IS (mem:=s.mem) (q:=s.buf) hI hA (by rw [←hme,hq];apply AtS.s31H44<;>first | assumption | rfl | (simp_all;done))) (by rw [hx];rfl) (by rw [hx]) (by rw [hx];rfl)
  rw [show Loc.th 32 _=_ from th_of rfl] at key
  exact⟨_,_,_,hst,key⟩
 case s31H04 g0 g1=>
  have hi:=ins (i:=⟨27,7,0,0,3⟩) rfl
  rw [movI_plain (i:=⟨27,7,0,0,3⟩) rfl] at hi
  have hmk:=st_mark hi
  have hg:=h.marked (t:=(1 - A)) ⟨7,0,((p*32+31:Nat):Int),0,r7,0,3,false⟩ rfl (.inr ⟨rfl,by assumption⟩)
  have key:=W_again hg ht eL er ej (⟨p+1,0,r0,r1,r2,r3,r4,r5,r6,r7,0⟩:Loc) (by
   by_cases e:p+1 < R
   ·exact .inl ⟨rfl,e,by show 0 < 32;decide⟩
   ·exact .inr ⟨by show p+1=R;omega,rfl,.inl rfl⟩) (IS (mem:=s.mem) (q:=s.buf) hI hA (by rw [←hme,hq];exact (AtS.s0H04 (by first | assumption | rfl | (simp_all;done))))) (by rw [hx];rfl) (by rw [hx]) (by rw [hx];show 18 < 31;decide) rfl
  rw [show Loc.th 32 _=_ from th_last rfl] at key
  exact⟨_,_,_,hmk,key⟩
 case s31H14 g0 g1 g2=>
  have hi:=ins (i:=⟨27,7,0,0,3⟩) rfl
  rw [movI_plain (i:=⟨27,7,0,0,3⟩) rfl] at hi
  have hmk:=st_mark hi
  have hg:=h.marked (t:=(1 - A)) ⟨7,0,((p*32+31:Nat):Int),0,r7,0,3,false⟩ rfl (.inr ⟨rfl,by assumption⟩)
  have key:=W_again hg ht eL er ej (⟨p+1,0,r0,r1,r2,r3,r4,r5,r6,r7,0⟩:Loc) (by
   by_cases e:p+1 < R
   ·exact .inl ⟨rfl,e,by show 0 < 32;decide⟩
   ·exact .inr ⟨by show p+1=R;omega,rfl,.inl rfl⟩) (IS (mem:=s.mem) (q:=s.buf) hI hA (by rw [←hme,hq];apply AtS.s0H14<;>first | assumption | rfl | (simp_all;done))) (by rw [hx];rfl) (by rw [hx]) (by rw [hx];show 18 < 31;decide) rfl
  rw [show Loc.th 32 _=_ from th_last rfl] at key
  exact⟨_,_,_,hmk,key⟩
 case s31H24 g0 g1 g2=>
  have hi:=ins (i:=⟨27,7,0,0,3⟩) rfl
  rw [movI_plain (i:=⟨27,7,0,0,3⟩) rfl] at hi
  have hmk:=st_mark hi
  have hg:=h.marked (t:=(1 - A)) ⟨7,0,((p*32+31:Nat):Int),0,r7,0,3,false⟩ rfl (.inr ⟨rfl,by assumption⟩)
  have key:=W_again hg ht eL er ej (⟨p+1,0,r0,r1,r2,r3,r4,r5,r6,r7,0⟩:Loc) (by
   by_cases e:p+1 < R
   ·exact .inl ⟨rfl,e,by show 0 < 32;decide⟩
   ·exact .inr ⟨by show p+1=R;omega,rfl,.inl rfl⟩) (IS (mem:=s.mem) (q:=s.buf) hI hA (by rw [←hme,hq];apply AtS.s0H24<;>first | assumption | rfl | (simp_all;done))) (by rw [hx];rfl) (by rw [hx]) (by rw [hx];show 18 < 31;decide) rfl
  rw [show Loc.th 32 _=_ from th_last rfl] at key
  exact⟨_,_,_,hmk,key⟩
 case s31H34 g0 g1 g2=>
  have hi:=ins (i:=⟨27,7,0,0,3⟩) rfl
  rw [movI_plain (i:=⟨27,7,0,0,3⟩) rfl] at hi
  have hmk:=st_mark hi
  have hg:=h.marked (t:=(1 - A)) ⟨7,0,((p*32+31:Nat):Int),0,r7,0,3,false⟩ rfl (.inr ⟨rfl,by assumption⟩)
  have key:=W_again hg ht eL er ej (⟨p+1,0,r0,r1,r2,r3,r4,r5,r6,r7,0⟩:Loc) (by
   by_cases e:p+1 < R
   ·exact .inl ⟨rfl,e,by show 0 < 32;decide⟩
   ·exact .inr ⟨by show p+1=R;omega,rfl,.inl rfl⟩) (IS (mem:=s.mem) (q:=s.buf) hI hA (by rw [←hme,hq];apply AtS.s0H34<;>first | assumption | rfl | (simp_all;done))) (by rw [hx];rfl) (by rw [hx]) (by rw [hx];show 18 < 31;decide) rfl
  rw [show Loc.th 32 _=_ from th_last rfl] at key
  exact⟨_,_,_,hmk,key⟩
 case s31H44 g0 g1 g2=>
  have hi:=ins (i:=⟨27,7,0,0,3⟩) rfl
  rw [movI_plain (i:=⟨27,7,0,0,3⟩) rfl] at hi
  have hmk:=st_mark hi
  have hg:=h.marked (t:=(1 - A)) ⟨7,0,((p*32+31:Nat):Int),0,r7,0,3,false⟩ rfl (.inr ⟨rfl,by assumption⟩)
  have key:=W_again hg ht eL er ej (⟨p+1,0,r0,r1,r2,r3,r4,r5,r6,r7,0⟩:Loc) (by
   by_cases e:p+1 < R
   ·exact .inl ⟨rfl,e,by show 0 < 32;decide⟩
   ·exact .inr ⟨by show p+1=R;omega,rfl,.inl rfl⟩) (IS (mem:=s.mem) (q:=s.buf) hI hA (by rw [←hme,hq];apply AtS.s0H44<;>first | assumption | rfl | (simp_all;done))) (by rw [hx];rfl) (by rw [hx]) (by rw [hx];show 18 < 31;decide) rfl
  rw [show Loc.th 32 _=_ from th_last rfl] at key
  exact⟨_,_,_,hmk,key⟩
theorem run(hA:A < 2)(hR:R≤100)(hc:codes[A]? = some (codeF R A))(hc2:codes[1 - A]? = some (codeS R (1 - A)))(l:List (Nat×Nat))(h:(X A R).Inv s f i):∃ s',Ts.run codes s l=some s'∧∃ f' i',(X A R).Inv s' f' i':=
 Wd.Lk.run codes (fun t ht=>by
   by_cases e:t=A
   ·subst e;exact⟨_,hc,by rw [X_F.1];exact codeF_len R t⟩
   ·have ht:t < 2:=ht
    obtain rfl:t=1 - A:=by omega
    exact⟨_,hc2,by rw [(X_S hA).1];exact codeS_len R _⟩)
  (fun s f i t h ht=>by
   have ht:t < 2:=ht
   obtain⟨σ,σ',c,pt,g,hI⟩:=h.I
   by_cases e:t=A
   ·subst e;exact IF (x:={ f t with st:=2 }) hI hA hI.hf
   ·obtain rfl:t=1 - A:=by omega
    exact IS (x:={ f (1 - A) with st:=2 }) hI hA hI.hs)
  (fun s f i t h ht h0 hp hj=>by
   have ht:t < 2:=ht
   by_cases e:t=A
   ·subst e;exact stepF h hA hR hc h0 hp (by rw [X_F.1] at hj;exact hj)
   ·obtain rfl:t=1 - A:=by omega
    exact stepS h hA hR hc2 h0 hp (by rw [(X_S hA).1] at hj;exact hj)) (fun s f i t h ht=>flush h ht hA) l s f i h
end
end Go.Proofs.YtckmkaeopnnbbaaGreatDoor.As.Dek
