/- Plain Lean: the lock mcs: one at a time. No program in sight. -/
import Derived.Test.YtckmkaeopnnbbaaGreatDoorTqa
import Derived.Test.YtckmkaeopnnbbaaGreatDoorQueP
set_option linter.unusedVariables false
set_option linter.unusedSimpArgs false
namespace Go.Proofs.YtckmkaeopnnbbaaGreatDoor.As.Mcs
open Wd

def base(T t:Nat):List Ins:=[⟨27,7,0,0,0⟩,⟨16,4,8,0,17⟩,⟨1,5,0,0,((t+1:Nat):Int)⟩,⟨12,6,4,5,0⟩,⟨14,6,0,0,7⟩,⟨1,7,0,0,1⟩,⟨13,0,0,0,19⟩,⟨1,4,0,0,0⟩,⟨17,4,8,0,((18+t:Nat):Int)⟩,⟨1,4,0,0,1⟩,⟨17,4,8,0,((18+T+t:Nat):Int)⟩,⟨1,4,0,0,((t+1:Nat):Int)⟩,⟨19,4,8,0,16⟩,⟨14,4,0,0,17⟩,⟨17,5,4,0,17⟩,⟨16,6,8,0,((18+T+t:Nat):Int)⟩,⟨15,6,0,0,15⟩,⟨17,5,8,0,17⟩,⟨1,7,0,0,0⟩,⟨27,7,0,0,1⟩,⟨16,1,8,0,0⟩,⟨1,2,0,0,1⟩,⟨3,1,1,2,0⟩,⟨17,1,8,0,0⟩,⟨27,7,0,0,2⟩,⟨16,4,8,0,17⟩,⟨1,5,0,0,((t+1:Nat):Int)⟩,⟨12,6,4,5,0⟩,⟨15,6,0,0,31⟩,⟨1,7,0,0,2⟩,⟨13,0,0,0,45⟩,⟨1,4,0,0,0⟩,⟨17,4,8,0,17⟩,⟨16,4,8,0,((18+t:Nat):Int)⟩,⟨15,4,0,0,42⟩,⟨2,4,5,0,0⟩,⟨1,6,0,0,0⟩,⟨21,4,8,6,16⟩,⟨12,6,4,5,0⟩,⟨15,6,0,0,44⟩,⟨16,4,8,0,((18+t:Nat):Int)⟩,⟨14,4,0,0,40⟩,⟨1,6,0,0,0⟩,⟨17,6,4,0,((17+T:Nat):Int)⟩,⟨1,7,0,0,0⟩,⟨27,7,0,0,3⟩]
theorem base_eq(T t:Nat)(hT:T≤100)(ht:t≤100):baseR (resL (linMcsIn 16 T t)) (resL (linMcsOut 16 T t))=base T t:=by
 have e1:resL (linMcsIn 16 T t)=[⟨16,4,8,0,17⟩,⟨1,5,0,0,((t+1:Nat):Int)⟩,⟨12,6,4,5,0⟩,⟨14,6,0,0,6⟩,⟨1,7,0,0,1⟩,⟨13,0,0,0,18⟩,⟨1,4,0,0,0⟩,⟨17,4,8,0,((18+t:Nat):Int)⟩,⟨1,4,0,0,1⟩,⟨17,4,8,0,((18+T+t:Nat):Int)⟩,⟨1,4,0,0,((t+1:Nat):Int)⟩,⟨19,4,8,0,16⟩,⟨14,4,0,0,16⟩,⟨17,5,4,0,17⟩,⟨16,6,8,0,((18+T+t:Nat):Int)⟩,⟨15,6,0,0,14⟩,⟨17,5,8,0,17⟩,⟨1,7,0,0,0⟩]:=rfl
 have e2:resL (linMcsOut 16 T t)=[⟨16,4,8,0,17⟩,⟨1,5,0,0,((t+1:Nat):Int)⟩,⟨12,6,4,5,0⟩,⟨15,6,0,0,6⟩,⟨1,7,0,0,2⟩,⟨13,0,0,0,20⟩,⟨1,4,0,0,0⟩,⟨17,4,8,0,17⟩,⟨16,4,8,0,((18+t:Nat):Int)⟩,⟨15,4,0,0,17⟩,⟨2,4,5,0,0⟩,⟨1,6,0,0,0⟩,⟨21,4,8,6,16⟩,⟨12,6,4,5,0⟩,⟨15,6,0,0,19⟩,⟨16,4,8,0,((18+t:Nat):Int)⟩,⟨14,4,0,0,15⟩,⟨1,6,0,0,0⟩,⟨17,6,4,0,((17+T:Nat):Int)⟩,⟨1,7,0,0,0⟩]:=rfl
 rw [e1,e2,baseR_eq]
 simp [base,incR,movI,jumps,wr32]
def codeT(T R t:Nat):List Ins:=roundsR (resL (linMcsIn 16 T t)) (resL (linMcsOut 16 T t)) R []
theorem code_len(T R t:Nat)(hT:T≤100)(ht:t≤100):(codeT T R t).length=R*46:=by
 unfold codeT
 rw [roundsR_len,base_eq T t hT ht];simp [base]
theorem code_get(T R t p j:Nat)(hT:T≤100)(ht:t≤100)(hp:p < R)(hj:j < 46):(codeT T R t)[p*46+j]? = ((base T t)[j]?).map (movI (p*46)):=by
 have h:=roundsR_get (resL (linMcsIn 16 T t)) (resL (linMcsOut 16 T t)) R [] p j hp (by rw [base_eq T t hT ht];exact hj)
 rw [base_eq T t hT ht] at h
 have e:([]:List Ins).length+p*(base T t).length=p*46:=by rw [List.length_nil,Nat.zero_add];rfl
 rw [e] at h
 exact h
inductive At(T t:Nat)(me ow c wv:Int)(nv pv g:Nat):Nat→Int→Int→Int→Int→Int→Int→List (Nat×Int)→Prop
 | a0H04 {r1 r2 r4 r5 r6 r7:Int} (h0:g=3) (h1:nv≠0):At T t me ow c wv nv pv g 0 r1 r2 r4 r5 r6 r7 [(17,me),(0,wr32 (c+1)),(17,0),(17+T+nv,0)]
 | a0H14 {r1 r2 r4 r5 r6 r7:Int} (h0:g=3) (h1:ow=me) (h2:nv≠0):At T t me ow c wv nv pv g 0 r1 r2 r4 r5 r6 r7 [(0,wr32 (c+1)),(17,0),(17+T+nv,0)]
 | a0H24 {r1 r2 r4 r5 r6 r7:Int} (h0:g=3) (h1:ow=me) (h2:nv≠0):At T t me ow c wv nv pv g 0 r1 r2 r4 r5 r6 r7 [(17,0),(17+T+nv,0)]
 | a0H34 {r1 r2 r4 r5 r6 r7:Int} (h0:g=3) (h1:ow=0) (h2:nv≠0):At T t me ow c wv nv pv g 0 r1 r2 r4 r5 r6 r7 [(17+T+nv,0)]
 | a0H44 {r1 r2 r4 r5 r6 r7:Int} (h0:g=0) (h1:ow≠me):At T t me ow c wv nv pv g 0 r1 r2 r4 r5 r6 r7 []
 | a1H04 {r1 r2 r4 r5 r6 r7:Int} (h0:g=3) (h1:nv≠0):At T t me ow c wv nv pv g 1 r1 r2 r4 r5 r6 r7 [(17,me),(0,wr32 (c+1)),(17,0),(17+T+nv,0)]
 | a1H14 {r1 r2 r4 r5 r6 r7:Int} (h0:g=3) (h1:ow=me) (h2:nv≠0):At T t me ow c wv nv pv g 1 r1 r2 r4 r5 r6 r7 [(0,wr32 (c+1)),(17,0),(17+T+nv,0)]
 | a1H24 {r1 r2 r4 r5 r6 r7:Int} (h0:g=3) (h1:ow=me) (h2:nv≠0):At T t me ow c wv nv pv g 1 r1 r2 r4 r5 r6 r7 [(17,0),(17+T+nv,0)]
 | a1H34 {r1 r2 r4 r5 r6 r7:Int} (h0:g=3) (h1:ow=0) (h2:nv≠0):At T t me ow c wv nv pv g 1 r1 r2 r4 r5 r6 r7 [(17+T+nv,0)]
 | a1H44 {r1 r2 r4 r5 r6 r7:Int} (h0:g=0) (h1:ow≠me):At T t me ow c wv nv pv g 1 r1 r2 r4 r5 r6 r7 []
 | a2H04 {r1 r2 r4 r5 r6 r7:Int} (h0:g=3) (h1:nv≠0) (h2:r4≠me):At T t me ow c wv nv pv g 2 r1 r2 r4 r5 r6 r7 [(17,me),(0,wr32 (c+1)),(17,0),(17+T+nv,0)]
 | a2H14 {r1 r2 r4 r5 r6 r7:Int} (h0:g=3) (h1:ow=me) (h2:nv≠0) (h3:r4≠me):At T t me ow c wv nv pv g 2 r1 r2 r4 r5 r6 r7 [(0,wr32 (c+1)),(17,0),(17+T+nv,0)]
 | a2H24 {r1 r2 r4 r5 r6 r7:Int} (h0:g=3) (h1:ow=me) (h2:nv≠0) (h3:r4≠me):At T t me ow c wv nv pv g 2 r1 r2 r4 r5 r6 r7 [(17,0),(17+T+nv,0)]
 | a2H34 {r1 r2 r4 r5 r6 r7:Int} (h0:g=3) (h1:ow=0) (h2:nv≠0) (h3:r4≠me):At T t me ow c wv nv pv g 2 r1 r2 r4 r5 r6 r7 [(17+T+nv,0)]
 | a2H44 {r1 r2 r4 r5 r6 r7:Int} (h0:g=0) (h1:ow≠me) (h2:r4≠me):At T t me ow c wv nv pv g 2 r1 r2 r4 r5 r6 r7 []
 | a3H04 {r1 r2 r4 r5 r6 r7:Int} (h0:g=3) (h1:nv≠0) (h2:r4≠me) (h3:r5=me):At T t me ow c wv nv pv g 3 r1 r2 r4 r5 r6 r7 [(17,me),(0,wr32 (c+1)),(17,0),(17+T+nv,0)]
 | a3H14 {r1 r2 r4 r5 r6 r7:Int} (h0:g=3) (h1:ow=me) (h2:nv≠0) (h3:r4≠me) (h4:r5=me):At T t me ow c wv nv pv g 3 r1 r2 r4 r5 r6 r7 [(0,wr32 (c+1)),(17,0),(17+T+nv,0)]
 | a3H24 {r1 r2 r4 r5 r6 r7:Int} (h0:g=3) (h1:ow=me) (h2:nv≠0) (h3:r4≠me) (h4:r5=me):At T t me ow c wv nv pv g 3 r1 r2 r4 r5 r6 r7 [(17,0),(17+T+nv,0)]
 | a3H34 {r1 r2 r4 r5 r6 r7:Int} (h0:g=3) (h1:ow=0) (h2:nv≠0) (h3:r4≠me) (h4:r5=me):At T t me ow c wv nv pv g 3 r1 r2 r4 r5 r6 r7 [(17+T+nv,0)]
 | a3H44 {r1 r2 r4 r5 r6 r7:Int} (h0:g=0) (h1:ow≠me) (h2:r4≠me) (h3:r5=me):At T t me ow c wv nv pv g 3 r1 r2 r4 r5 r6 r7 []
 | a4H04 {r1 r2 r4 r5 r6 r7:Int} (h0:g=3) (h1:nv≠0) (h2:r5=me) (h3:r6=0):At T t me ow c wv nv pv g 4 r1 r2 r4 r5 r6 r7 [(17,me),(0,wr32 (c+1)),(17,0),(17+T+nv,0)]
 | a4H14 {r1 r2 r4 r5 r6 r7:Int} (h0:g=3) (h1:ow=me) (h2:nv≠0) (h3:r5=me) (h4:r6=0):At T t me ow c wv nv pv g 4 r1 r2 r4 r5 r6 r7 [(0,wr32 (c+1)),(17,0),(17+T+nv,0)]
 | a4H24 {r1 r2 r4 r5 r6 r7:Int} (h0:g=3) (h1:ow=me) (h2:nv≠0) (h3:r5=me) (h4:r6=0):At T t me ow c wv nv pv g 4 r1 r2 r4 r5 r6 r7 [(17,0),(17+T+nv,0)]
 | a4H34 {r1 r2 r4 r5 r6 r7:Int} (h0:g=3) (h1:ow=0) (h2:nv≠0) (h3:r5=me) (h4:r6=0):At T t me ow c wv nv pv g 4 r1 r2 r4 r5 r6 r7 [(17+T+nv,0)]
 | a4H44 {r1 r2 r4 r5 r6 r7:Int} (h0:g=0) (h1:ow≠me) (h2:r5=me) (h3:r6=0):At T t me ow c wv nv pv g 4 r1 r2 r4 r5 r6 r7 []
 | a7H04 {r1 r2 r4 r5 r6 r7:Int} (h0:g=3) (h1:nv≠0) (h2:r5=me):At T t me ow c wv nv pv g 7 r1 r2 r4 r5 r6 r7 [(17,me),(0,wr32 (c+1)),(17,0),(17+T+nv,0)]
 | a7H14 {r1 r2 r4 r5 r6 r7:Int} (h0:g=3) (h1:ow=me) (h2:nv≠0) (h3:r5=me):At T t me ow c wv nv pv g 7 r1 r2 r4 r5 r6 r7 [(0,wr32 (c+1)),(17,0),(17+T+nv,0)]
 | a7H24 {r1 r2 r4 r5 r6 r7:Int} (h0:g=3) (h1:ow=me) (h2:nv≠0) (h3:r5=me):At T t me ow c wv nv pv g 7 r1 r2 r4 r5 r6 r7 [(17,0),(17+T+nv,0)]
 | a7H34 {r1 r2 r4 r5 r6 r7:Int} (h0:g=3) (h1:ow=0) (h2:nv≠0) (h3:r5=me):At T t me ow c wv nv pv g 7 r1 r2 r4 r5 r6 r7 [(17+T+nv,0)]
 | a7H44 {r1 r2 r4 r5 r6 r7:Int} (h0:g=0) (h1:ow≠me) (h2:r5=me):At T t me ow c wv nv pv g 7 r1 r2 r4 r5 r6 r7 []
 | a8H04 {r1 r2 r4 r5 r6 r7:Int} (h0:g=3) (h1:nv≠0) (h2:r5=me) (h3:r4=0):At T t me ow c wv nv pv g 8 r1 r2 r4 r5 r6 r7 [(17,me),(0,wr32 (c+1)),(17,0),(17+T+nv,0)]
 | a8H14 {r1 r2 r4 r5 r6 r7:Int} (h0:g=3) (h1:ow=me) (h2:nv≠0) (h3:r5=me) (h4:r4=0):At T t me ow c wv nv pv g 8 r1 r2 r4 r5 r6 r7 [(0,wr32 (c+1)),(17,0),(17+T+nv,0)]
 | a8H24 {r1 r2 r4 r5 r6 r7:Int} (h0:g=3) (h1:ow=me) (h2:nv≠0) (h3:r5=me) (h4:r4=0):At T t me ow c wv nv pv g 8 r1 r2 r4 r5 r6 r7 [(17,0),(17+T+nv,0)]
 | a8H34 {r1 r2 r4 r5 r6 r7:Int} (h0:g=3) (h1:ow=0) (h2:nv≠0) (h3:r5=me) (h4:r4=0):At T t me ow c wv nv pv g 8 r1 r2 r4 r5 r6 r7 [(17+T+nv,0)]
 | a8H44 {r1 r2 r4 r5 r6 r7:Int} (h0:g=0) (h1:ow≠me) (h2:r5=me) (h3:r4=0):At T t me ow c wv nv pv g 8 r1 r2 r4 r5 r6 r7 []
 | a9H05 {r1 r2 r4 r5 r6 r7:Int} (h0:g=3) (h1:nv≠0) (h2:r5=me):At T t me ow c wv nv pv g 9 r1 r2 r4 r5 r6 r7 [(17,me),(0,wr32 (c+1)),(17,0),(17+T+nv,0),(18+t,0)]
 | a9H15 {r1 r2 r4 r5 r6 r7:Int} (h0:g=3) (h1:ow=me) (h2:nv≠0) (h3:r5=me):At T t me ow c wv nv pv g 9 r1 r2 r4 r5 r6 r7 [(0,wr32 (c+1)),(17,0),(17+T+nv,0),(18+t,0)]
 | a9H25 {r1 r2 r4 r5 r6 r7:Int} (h0:g=3) (h1:ow=me) (h2:nv≠0) (h3:r5=me):At T t me ow c wv nv pv g 9 r1 r2 r4 r5 r6 r7 [(17,0),(17+T+nv,0),(18+t,0)]
 | a9H35 {r1 r2 r4 r5 r6 r7:Int} (h0:g=3) (h1:ow=0) (h2:nv≠0) (h3:r5=me):At T t me ow c wv nv pv g 9 r1 r2 r4 r5 r6 r7 [(17+T+nv,0),(18+t,0)]
 | a9H45 {r1 r2 r4 r5 r6 r7:Int} (h0:g=0) (h1:ow≠me) (h2:r5=me):At T t me ow c wv nv pv g 9 r1 r2 r4 r5 r6 r7 [(18+t,0)]
 | a9H55 {r1 r2 r4 r5 r6 r7:Int} (h0:g=0) (h1:ow≠me) (h2:nv=0) (h3:r5=me):At T t me ow c wv nv pv g 9 r1 r2 r4 r5 r6 r7 []
 | a10H05 {r1 r2 r4 r5 r6 r7:Int} (h0:g=3) (h1:nv≠0) (h2:r5=me) (h3:r4=1):At T t me ow c wv nv pv g 10 r1 r2 r4 r5 r6 r7 [(17,me),(0,wr32 (c+1)),(17,0),(17+T+nv,0),(18+t,0)]
 | a10H15 {r1 r2 r4 r5 r6 r7:Int} (h0:g=3) (h1:ow=me) (h2:nv≠0) (h3:r5=me) (h4:r4=1):At T t me ow c wv nv pv g 10 r1 r2 r4 r5 r6 r7 [(0,wr32 (c+1)),(17,0),(17+T+nv,0),(18+t,0)]
 | a10H25 {r1 r2 r4 r5 r6 r7:Int} (h0:g=3) (h1:ow=me) (h2:nv≠0) (h3:r5=me) (h4:r4=1):At T t me ow c wv nv pv g 10 r1 r2 r4 r5 r6 r7 [(17,0),(17+T+nv,0),(18+t,0)]
 | a10H35 {r1 r2 r4 r5 r6 r7:Int} (h0:g=3) (h1:ow=0) (h2:nv≠0) (h3:r5=me) (h4:r4=1):At T t me ow c wv nv pv g 10 r1 r2 r4 r5 r6 r7 [(17+T+nv,0),(18+t,0)]
 | a10H45 {r1 r2 r4 r5 r6 r7:Int} (h0:g=0) (h1:ow≠me) (h2:r5=me) (h3:r4=1):At T t me ow c wv nv pv g 10 r1 r2 r4 r5 r6 r7 [(18+t,0)]
 | a10H55 {r1 r2 r4 r5 r6 r7:Int} (h0:g=0) (h1:ow≠me) (h2:nv=0) (h3:r5=me) (h4:r4=1):At T t me ow c wv nv pv g 10 r1 r2 r4 r5 r6 r7 []
 | a11H06 {r1 r2 r4 r5 r6 r7:Int} (h0:g=3) (h1:nv≠0) (h2:r5=me):At T t me ow c wv nv pv g 11 r1 r2 r4 r5 r6 r7 [(17,me),(0,wr32 (c+1)),(17,0),(17+T+nv,0),(18+t,0),(18+T+t,1)]
 | a11H16 {r1 r2 r4 r5 r6 r7:Int} (h0:g=3) (h1:ow=me) (h2:nv≠0) (h3:r5=me):At T t me ow c wv nv pv g 11 r1 r2 r4 r5 r6 r7 [(0,wr32 (c+1)),(17,0),(17+T+nv,0),(18+t,0),(18+T+t,1)]
 | a11H26 {r1 r2 r4 r5 r6 r7:Int} (h0:g=3) (h1:ow=me) (h2:nv≠0) (h3:r5=me):At T t me ow c wv nv pv g 11 r1 r2 r4 r5 r6 r7 [(17,0),(17+T+nv,0),(18+t,0),(18+T+t,1)]
 | a11H36 {r1 r2 r4 r5 r6 r7:Int} (h0:g=3) (h1:ow=0) (h2:nv≠0) (h3:r5=me):At T t me ow c wv nv pv g 11 r1 r2 r4 r5 r6 r7 [(17+T+nv,0),(18+t,0),(18+T+t,1)]
 | a11H46 {r1 r2 r4 r5 r6 r7:Int} (h0:g=0) (h1:ow≠me) (h2:r5=me):At T t me ow c wv nv pv g 11 r1 r2 r4 r5 r6 r7 [(18+t,0),(18+T+t,1)]
 | a11H56 {r1 r2 r4 r5 r6 r7:Int} (h0:g=0) (h1:ow≠me) (h2:nv=0) (h3:r5=me):At T t me ow c wv nv pv g 11 r1 r2 r4 r5 r6 r7 [(18+T+t,1)]
 | a11H66 {r1 r2 r4 r5 r6 r7:Int} (h0:g=0) (h1:ow≠me) (h2:nv=0) (h3:wv=1) (h4:r5=me):At T t me ow c wv nv pv g 11 r1 r2 r4 r5 r6 r7 []
 | a12H06 {r1 r2 r4 r5 r6 r7:Int} (h0:g=3) (h1:nv≠0) (h2:r5=me) (h3:r4=me):At T t me ow c wv nv pv g 12 r1 r2 r4 r5 r6 r7 [(17,me),(0,wr32 (c+1)),(17,0),(17+T+nv,0),(18+t,0),(18+T+t,1)]
 | a12H16 {r1 r2 r4 r5 r6 r7:Int} (h0:g=3) (h1:ow=me) (h2:nv≠0) (h3:r5=me) (h4:r4=me):At T t me ow c wv nv pv g 12 r1 r2 r4 r5 r6 r7 [(0,wr32 (c+1)),(17,0),(17+T+nv,0),(18+t,0),(18+T+t,1)]
 | a12H26 {r1 r2 r4 r5 r6 r7:Int} (h0:g=3) (h1:ow=me) (h2:nv≠0) (h3:r5=me) (h4:r4=me):At T t me ow c wv nv pv g 12 r1 r2 r4 r5 r6 r7 [(17,0),(17+T+nv,0),(18+t,0),(18+T+t,1)]
 | a12H36 {r1 r2 r4 r5 r6 r7:Int} (h0:g=3) (h1:ow=0) (h2:nv≠0) (h3:r5=me) (h4:r4=me):At T t me ow c wv nv pv g 12 r1 r2 r4 r5 r6 r7 [(17+T+nv,0),(18+t,0),(18+T+t,1)]
 | a12H46 {r1 r2 r4 r5 r6 r7:Int} (h0:g=0) (h1:ow≠me) (h2:r5=me) (h3:r4=me):At T t me ow c wv nv pv g 12 r1 r2 r4 r5 r6 r7 [(18+t,0),(18+T+t,1)]
 | a12H56 {r1 r2 r4 r5 r6 r7:Int} (h0:g=0) (h1:ow≠me) (h2:nv=0) (h3:r5=me) (h4:r4=me):At T t me ow c wv nv pv g 12 r1 r2 r4 r5 r6 r7 [(18+T+t,1)]
 | a12H66 {r1 r2 r4 r5 r6 r7:Int} (h0:g=0) (h1:ow≠me) (h2:nv=0) (h3:wv=1) (h4:r5=me) (h5:r4=me):At T t me ow c wv nv pv g 12 r1 r2 r4 r5 r6 r7 []
 | a13A {r1 r2 r4 r5 r6 r7:Int} (h0:g=3) (h1:ow≠me) (h2:r5=me) (h3:r4=0):At T t me ow c wv nv pv g 13 r1 r2 r4 r5 r6 r7 []
 | a13L {r1 r2 r4 r5 r6 r7:Int} (h0:g=1) (h1:ow≠me) (h2:wv=1) (h3:r5=me) (h4:r4=(pv:Int)) (h5:r4≠0):At T t me ow c wv nv pv g 13 r1 r2 r4 r5 r6 r7 []
 | a14L {r1 r2 r4 r5 r6 r7:Int} (h0:g=1) (h1:ow≠me) (h2:wv=1) (h3:r5=me) (h4:r4=(pv:Int)):At T t me ow c wv nv pv g 14 r1 r2 r4 r5 r6 r7 []
 | a15A {r1 r2 r4 r5 r6 r7:Int} (h0:g=3) (h1:ow≠me) (h2:r5=me) (h3:wv=0):At T t me ow c wv nv pv g 15 r1 r2 r4 r5 r6 r7 []
 | a15B {r1 r2 r4 r5 r6 r7:Int} (h0:g=1) (h1:ow≠me) (h2:wv=1) (h3:r5=me):At T t me ow c wv nv pv g 15 r1 r2 r4 r5 r6 r7 [(17+pv,me)]
 | a15N {r1 r2 r4 r5 r6 r7:Int} (h0:g=2) (h1:ow≠me) (h2:wv=1) (h3:r5=me):At T t me ow c wv nv pv g 15 r1 r2 r4 r5 r6 r7 []
 | a16A {r1 r2 r4 r5 r6 r7:Int} (h0:g=3) (h1:ow≠me) (h2:r5=me) (h3:wv=0):At T t me ow c wv nv pv g 16 r1 r2 r4 r5 r6 r7 []
 | a16B {r1 r2 r4 r5 r6 r7:Int} (h0:g=1) (h1:ow≠me) (h2:wv=1) (h3:r5=me) (h4:r6≠0):At T t me ow c wv nv pv g 16 r1 r2 r4 r5 r6 r7 [(17+pv,me)]
 | a16N {r1 r2 r4 r5 r6 r7:Int} (h0:g=2) (h1:ow≠me) (h2:wv=1) (h3:r5=me) (h4:r6≠0):At T t me ow c wv nv pv g 16 r1 r2 r4 r5 r6 r7 []
 | a17A {r1 r2 r4 r5 r6 r7:Int} (h0:g=3) (h1:ow≠me) (h2:r5=me):At T t me ow c wv nv pv g 17 r1 r2 r4 r5 r6 r7 []
 | a18H01 {r1 r2 r4 r5 r6 r7:Int} (h0:g=3):At T t me ow c wv nv pv g 18 r1 r2 r4 r5 r6 r7 [(17,me)]
 | a18H11 {r1 r2 r4 r5 r6 r7:Int} (h0:g=3) (h1:ow=me):At T t me ow c wv nv pv g 18 r1 r2 r4 r5 r6 r7 []
 | a19H01 {r1 r2 r4 r5 r6 r7:Int} (h0:g=3) (h1:r7=0):At T t me ow c wv nv pv g 19 r1 r2 r4 r5 r6 r7 [(17,me)]
 | a19H11 {r1 r2 r4 r5 r6 r7:Int} (h0:g=3) (h1:ow=me) (h2:r7=0):At T t me ow c wv nv pv g 19 r1 r2 r4 r5 r6 r7 []
 | a20H01 {r1 r2 r4 r5 r6 r7:Int} (h0:g=3):At T t me ow c wv nv pv g 20 r1 r2 r4 r5 r6 r7 [(17,me)]
 | a20H11 {r1 r2 r4 r5 r6 r7:Int} (h0:g=3) (h1:ow=me):At T t me ow c wv nv pv g 20 r1 r2 r4 r5 r6 r7 []
 | a21H01 {r1 r2 r4 r5 r6 r7:Int} (h0:g=3) (h1:r1=c):At T t me ow c wv nv pv g 21 r1 r2 r4 r5 r6 r7 [(17,me)]
 | a21H11 {r1 r2 r4 r5 r6 r7:Int} (h0:g=3) (h1:ow=me) (h2:r1=c):At T t me ow c wv nv pv g 21 r1 r2 r4 r5 r6 r7 []
 | a22H01 {r1 r2 r4 r5 r6 r7:Int} (h0:g=3) (h1:r1=c) (h2:r2=1):At T t me ow c wv nv pv g 22 r1 r2 r4 r5 r6 r7 [(17,me)]
 | a22H11 {r1 r2 r4 r5 r6 r7:Int} (h0:g=3) (h1:ow=me) (h2:r1=c) (h3:r2=1):At T t me ow c wv nv pv g 22 r1 r2 r4 r5 r6 r7 []
 | a23H01 {r1 r2 r4 r5 r6 r7:Int} (h0:g=3) (h1:r1=wr32 (c+1)):At T t me ow c wv nv pv g 23 r1 r2 r4 r5 r6 r7 [(17,me)]
 | a23H11 {r1 r2 r4 r5 r6 r7:Int} (h0:g=3) (h1:ow=me) (h2:r1=wr32 (c+1)):At T t me ow c wv nv pv g 23 r1 r2 r4 r5 r6 r7 []
 | a24H02 {r1 r2 r4 r5 r6 r7:Int} (h0:g=3):At T t me ow c wv nv pv g 24 r1 r2 r4 r5 r6 r7 [(17,me),(0,wr32 (c+1))]
 | a24H12 {r1 r2 r4 r5 r6 r7:Int} (h0:g=3) (h1:ow=me):At T t me ow c wv nv pv g 24 r1 r2 r4 r5 r6 r7 [(0,wr32 (c+1))]
 | a24H22 {r1 r2 r4 r5 r6 r7:Int} (h0:g=3) (h1:ow=me):At T t me ow c wv nv pv g 24 r1 r2 r4 r5 r6 r7 []
 | a25H02 {r1 r2 r4 r5 r6 r7:Int} (h0:g=3):At T t me ow c wv nv pv g 25 r1 r2 r4 r5 r6 r7 [(17,me),(0,wr32 (c+1))]
 | a25H12 {r1 r2 r4 r5 r6 r7:Int} (h0:g=3) (h1:ow=me):At T t me ow c wv nv pv g 25 r1 r2 r4 r5 r6 r7 [(0,wr32 (c+1))]
 | a25H22 {r1 r2 r4 r5 r6 r7:Int} (h0:g=3) (h1:ow=me):At T t me ow c wv nv pv g 25 r1 r2 r4 r5 r6 r7 []
 | a26H02 {r1 r2 r4 r5 r6 r7:Int} (h0:g=3) (h1:r4=me):At T t me ow c wv nv pv g 26 r1 r2 r4 r5 r6 r7 [(17,me),(0,wr32 (c+1))]
 | a26H12 {r1 r2 r4 r5 r6 r7:Int} (h0:g=3) (h1:ow=me) (h2:r4=me):At T t me ow c wv nv pv g 26 r1 r2 r4 r5 r6 r7 [(0,wr32 (c+1))]
 | a26H22 {r1 r2 r4 r5 r6 r7:Int} (h0:g=3) (h1:ow=me) (h2:r4=me):At T t me ow c wv nv pv g 26 r1 r2 r4 r5 r6 r7 []
 | a27H02 {r1 r2 r4 r5 r6 r7:Int} (h0:g=3) (h1:r4=me) (h2:r5=me):At T t me ow c wv nv pv g 27 r1 r2 r4 r5 r6 r7 [(17,me),(0,wr32 (c+1))]
 | a27H12 {r1 r2 r4 r5 r6 r7:Int} (h0:g=3) (h1:ow=me) (h2:r4=me) (h3:r5=me):At T t me ow c wv nv pv g 27 r1 r2 r4 r5 r6 r7 [(0,wr32 (c+1))]
 | a27H22 {r1 r2 r4 r5 r6 r7:Int} (h0:g=3) (h1:ow=me) (h2:r4=me) (h3:r5=me):At T t me ow c wv nv pv g 27 r1 r2 r4 r5 r6 r7 []
 | a28H02 {r1 r2 r4 r5 r6 r7:Int} (h0:g=3) (h1:r5=me) (h2:r6=1):At T t me ow c wv nv pv g 28 r1 r2 r4 r5 r6 r7 [(17,me),(0,wr32 (c+1))]
 | a28H12 {r1 r2 r4 r5 r6 r7:Int} (h0:g=3) (h1:ow=me) (h2:r5=me) (h3:r6=1):At T t me ow c wv nv pv g 28 r1 r2 r4 r5 r6 r7 [(0,wr32 (c+1))]
 | a28H22 {r1 r2 r4 r5 r6 r7:Int} (h0:g=3) (h1:ow=me) (h2:r5=me) (h3:r6=1):At T t me ow c wv nv pv g 28 r1 r2 r4 r5 r6 r7 []
 | a31H02 {r1 r2 r4 r5 r6 r7:Int} (h0:g=3) (h1:r5=me):At T t me ow c wv nv pv g 31 r1 r2 r4 r5 r6 r7 [(17,me),(0,wr32 (c+1))]
 | a31H12 {r1 r2 r4 r5 r6 r7:Int} (h0:g=3) (h1:ow=me) (h2:r5=me):At T t me ow c wv nv pv g 31 r1 r2 r4 r5 r6 r7 [(0,wr32 (c+1))]
 | a31H22 {r1 r2 r4 r5 r6 r7:Int} (h0:g=3) (h1:ow=me) (h2:r5=me):At T t me ow c wv nv pv g 31 r1 r2 r4 r5 r6 r7 []
 | a32H02 {r1 r2 r4 r5 r6 r7:Int} (h0:g=3) (h1:r5=me) (h2:r4=0):At T t me ow c wv nv pv g 32 r1 r2 r4 r5 r6 r7 [(17,me),(0,wr32 (c+1))]
 | a32H12 {r1 r2 r4 r5 r6 r7:Int} (h0:g=3) (h1:ow=me) (h2:r5=me) (h3:r4=0):At T t me ow c wv nv pv g 32 r1 r2 r4 r5 r6 r7 [(0,wr32 (c+1))]
 | a32H22 {r1 r2 r4 r5 r6 r7:Int} (h0:g=3) (h1:ow=me) (h2:r5=me) (h3:r4=0):At T t me ow c wv nv pv g 32 r1 r2 r4 r5 r6 r7 []
 | a33H03 {r1 r2 r4 r5 r6 r7:Int} (h0:g=3) (h1:r5=me):At T t me ow c wv nv pv g 33 r1 r2 r4 r5 r6 r7 [(17,me),(0,wr32 (c+1)),(17,0)]
 | a33H13 {r1 r2 r4 r5 r6 r7:Int} (h0:g=3) (h1:ow=me) (h2:r5=me):At T t me ow c wv nv pv g 33 r1 r2 r4 r5 r6 r7 [(0,wr32 (c+1)),(17,0)]
 | a33H23 {r1 r2 r4 r5 r6 r7:Int} (h0:g=3) (h1:ow=me) (h2:r5=me):At T t me ow c wv nv pv g 33 r1 r2 r4 r5 r6 r7 [(17,0)]
 | a33H33 {r1 r2 r4 r5 r6 r7:Int} (h0:g=3) (h1:ow=0) (h2:r5=me):At T t me ow c wv nv pv g 33 r1 r2 r4 r5 r6 r7 []
 | a34H03 {r1 r2 r4 r5 r6 r7:Int} (h0:g=3) (h1:r5=me) (h2:r4=0∨(r4=(nv:Int)∧nv≠0)):At T t me ow c wv nv pv g 34 r1 r2 r4 r5 r6 r7 [(17,me),(0,wr32 (c+1)),(17,0)]
 | a34H13 {r1 r2 r4 r5 r6 r7:Int} (h0:g=3) (h1:ow=me) (h2:r5=me) (h3:r4=0∨(r4=(nv:Int)∧nv≠0)):At T t me ow c wv nv pv g 34 r1 r2 r4 r5 r6 r7 [(0,wr32 (c+1)),(17,0)]
 | a34H23 {r1 r2 r4 r5 r6 r7:Int} (h0:g=3) (h1:ow=me) (h2:r5=me) (h3:r4=0∨(r4=(nv:Int)∧nv≠0)):At T t me ow c wv nv pv g 34 r1 r2 r4 r5 r6 r7 [(17,0)]
 | a34H33 {r1 r2 r4 r5 r6 r7:Int} (h0:g=3) (h1:ow=0) (h2:r5=me) (h3:r4=0∨(r4=(nv:Int)∧nv≠0)):At T t me ow c wv nv pv g 34 r1 r2 r4 r5 r6 r7 []
 | a35H03 {r1 r2 r4 r5 r6 r7:Int} (h0:g=3) (h1:r5=me):At T t me ow c wv nv pv g 35 r1 r2 r4 r5 r6 r7 [(17,me),(0,wr32 (c+1)),(17,0)]
 | a35H13 {r1 r2 r4 r5 r6 r7:Int} (h0:g=3) (h1:ow=me) (h2:r5=me):At T t me ow c wv nv pv g 35 r1 r2 r4 r5 r6 r7 [(0,wr32 (c+1)),(17,0)]
 | a35H23 {r1 r2 r4 r5 r6 r7:Int} (h0:g=3) (h1:ow=me) (h2:r5=me):At T t me ow c wv nv pv g 35 r1 r2 r4 r5 r6 r7 [(17,0)]
 | a35H33 {r1 r2 r4 r5 r6 r7:Int} (h0:g=3) (h1:ow=0) (h2:r5=me):At T t me ow c wv nv pv g 35 r1 r2 r4 r5 r6 r7 []
 | a36H03 {r1 r2 r4 r5 r6 r7:Int} (h0:g=3) (h1:r5=me) (h2:r4=me):At T t me ow c wv nv pv g 36 r1 r2 r4 r5 r6 r7 [(17,me),(0,wr32 (c+1)),(17,0)]
 | a36H13 {r1 r2 r4 r5 r6 r7:Int} (h0:g=3) (h1:ow=me) (h2:r5=me) (h3:r4=me):At T t me ow c wv nv pv g 36 r1 r2 r4 r5 r6 r7 [(0,wr32 (c+1)),(17,0)]
 | a36H23 {r1 r2 r4 r5 r6 r7:Int} (h0:g=3) (h1:ow=me) (h2:r5=me) (h3:r4=me):At T t me ow c wv nv pv g 36 r1 r2 r4 r5 r6 r7 [(17,0)]
 | a36H33 {r1 r2 r4 r5 r6 r7:Int} (h0:g=3) (h1:ow=0) (h2:r5=me) (h3:r4=me):At T t me ow c wv nv pv g 36 r1 r2 r4 r5 r6 r7 []
 | a37H03 {r1 r2 r4 r5 r6 r7:Int} (h0:g=3) (h1:r5=me) (h2:r4=me) (h3:r6=0):At T t me ow c wv nv pv g 37 r1 r2 r4 r5 r6 r7 [(17,me),(0,wr32 (c+1)),(17,0)]
 | a37H13 {r1 r2 r4 r5 r6 r7:Int} (h0:g=3) (h1:ow=me) (h2:r5=me) (h3:r4=me) (h4:r6=0):At T t me ow c wv nv pv g 37 r1 r2 r4 r5 r6 r7 [(0,wr32 (c+1)),(17,0)]
 | a37H23 {r1 r2 r4 r5 r6 r7:Int} (h0:g=3) (h1:ow=me) (h2:r5=me) (h3:r4=me) (h4:r6=0):At T t me ow c wv nv pv g 37 r1 r2 r4 r5 r6 r7 [(17,0)]
 | a37H33 {r1 r2 r4 r5 r6 r7:Int} (h0:g=3) (h1:ow=0) (h2:r5=me) (h3:r4=me) (h4:r6=0):At T t me ow c wv nv pv g 37 r1 r2 r4 r5 r6 r7 []
 | a38H33 {r1 r2 r4 r5 r6 r7:Int} (h0:g=3) (h1:ow=0) (h2:r5=me) (h3:r4≠me):At T t me ow c wv nv pv g 38 r1 r2 r4 r5 r6 r7 []
 | a38H44 {r1 r2 r4 r5 r6 r7:Int} (h0:g=0) (h1:ow≠me) (h2:r5=me) (h3:r4=me):At T t me ow c wv nv pv g 38 r1 r2 r4 r5 r6 r7 []
 | a39H33 {r1 r2 r4 r5 r6 r7:Int} (h0:g=3) (h1:ow=0) (h2:r6=0):At T t me ow c wv nv pv g 39 r1 r2 r4 r5 r6 r7 []
 | a39H44 {r1 r2 r4 r5 r6 r7:Int} (h0:g=0) (h1:ow≠me) (h2:r6=1):At T t me ow c wv nv pv g 39 r1 r2 r4 r5 r6 r7 []
 | a40H33 {r1 r2 r4 r5 r6 r7:Int} (h0:g=3) (h1:ow=0):At T t me ow c wv nv pv g 40 r1 r2 r4 r5 r6 r7 []
 | a41H33 {r1 r2 r4 r5 r6 r7:Int} (h0:g=3) (h1:ow=0) (h2:r4=0∨(r4=(nv:Int)∧nv≠0)):At T t me ow c wv nv pv g 41 r1 r2 r4 r5 r6 r7 []
 | a42H03 {r1 r2 r4 r5 r6 r7:Int} (h0:g=3) (h1:r4=(nv:Int)) (h2:nv≠0):At T t me ow c wv nv pv g 42 r1 r2 r4 r5 r6 r7 [(17,me),(0,wr32 (c+1)),(17,0)]
 | a42H13 {r1 r2 r4 r5 r6 r7:Int} (h0:g=3) (h1:ow=me) (h2:r4=(nv:Int)) (h3:nv≠0):At T t me ow c wv nv pv g 42 r1 r2 r4 r5 r6 r7 [(0,wr32 (c+1)),(17,0)]
 | a42H23 {r1 r2 r4 r5 r6 r7:Int} (h0:g=3) (h1:ow=me) (h2:r4=(nv:Int)) (h3:nv≠0):At T t me ow c wv nv pv g 42 r1 r2 r4 r5 r6 r7 [(17,0)]
 | a42H33 {r1 r2 r4 r5 r6 r7:Int} (h0:g=3) (h1:ow=0) (h2:r4=(nv:Int)) (h3:nv≠0):At T t me ow c wv nv pv g 42 r1 r2 r4 r5 r6 r7 []
 | a43H03 {r1 r2 r4 r5 r6 r7:Int} (h0:g=3) (h1:r6=0) (h2:r4=(nv:Int)) (h3:nv≠0):At T t me ow c wv nv pv g 43 r1 r2 r4 r5 r6 r7 [(17,me),(0,wr32 (c+1)),(17,0)]
 | a43H13 {r1 r2 r4 r5 r6 r7:Int} (h0:g=3) (h1:ow=me) (h2:r6=0) (h3:r4=(nv:Int)) (h4:nv≠0):At T t me ow c wv nv pv g 43 r1 r2 r4 r5 r6 r7 [(0,wr32 (c+1)),(17,0)]
 | a43H23 {r1 r2 r4 r5 r6 r7:Int} (h0:g=3) (h1:ow=me) (h2:r6=0) (h3:r4=(nv:Int)) (h4:nv≠0):At T t me ow c wv nv pv g 43 r1 r2 r4 r5 r6 r7 [(17,0)]
 | a43H33 {r1 r2 r4 r5 r6 r7:Int} (h0:g=3) (h1:ow=0) (h2:r6=0) (h3:r4=(nv:Int)) (h4:nv≠0):At T t me ow c wv nv pv g 43 r1 r2 r4 r5 r6 r7 []
 | a44H04 {r1 r2 r4 r5 r6 r7:Int} (h0:g=3) (h1:nv≠0):At T t me ow c wv nv pv g 44 r1 r2 r4 r5 r6 r7 [(17,me),(0,wr32 (c+1)),(17,0),(17+T+nv,0)]
 | a44H14 {r1 r2 r4 r5 r6 r7:Int} (h0:g=3) (h1:ow=me) (h2:nv≠0):At T t me ow c wv nv pv g 44 r1 r2 r4 r5 r6 r7 [(0,wr32 (c+1)),(17,0),(17+T+nv,0)]
 | a44H24 {r1 r2 r4 r5 r6 r7:Int} (h0:g=3) (h1:ow=me) (h2:nv≠0):At T t me ow c wv nv pv g 44 r1 r2 r4 r5 r6 r7 [(17,0),(17+T+nv,0)]
 | a44H34 {r1 r2 r4 r5 r6 r7:Int} (h0:g=3) (h1:ow=0) (h2:nv≠0):At T t me ow c wv nv pv g 44 r1 r2 r4 r5 r6 r7 [(17+T+nv,0)]
 | a44H44 {r1 r2 r4 r5 r6 r7:Int} (h0:g=0) (h1:ow≠me):At T t me ow c wv nv pv g 44 r1 r2 r4 r5 r6 r7 []
 | a45H04 {r1 r2 r4 r5 r6 r7:Int} (h0:g=3) (h1:nv≠0) (h2:r7=0):At T t me ow c wv nv pv g 45 r1 r2 r4 r5 r6 r7 [(17,me),(0,wr32 (c+1)),(17,0),(17+T+nv,0)]
 | a45H14 {r1 r2 r4 r5 r6 r7:Int} (h0:g=3) (h1:ow=me) (h2:nv≠0) (h3:r7=0):At T t me ow c wv nv pv g 45 r1 r2 r4 r5 r6 r7 [(0,wr32 (c+1)),(17,0),(17+T+nv,0)]
 | a45H24 {r1 r2 r4 r5 r6 r7:Int} (h0:g=3) (h1:ow=me) (h2:nv≠0) (h3:r7=0):At T t me ow c wv nv pv g 45 r1 r2 r4 r5 r6 r7 [(17,0),(17+T+nv,0)]
 | a45H34 {r1 r2 r4 r5 r6 r7:Int} (h0:g=3) (h1:ow=0) (h2:nv≠0) (h3:r7=0):At T t me ow c wv nv pv g 45 r1 r2 r4 r5 r6 r7 [(17+T+nv,0)]
 | a45H44 {r1 r2 r4 r5 r6 r7:Int} (h0:g=0) (h1:ow≠me) (h2:r7=0):At T t me ow c wv nv pv g 45 r1 r2 r4 r5 r6 r7 []
def inR(j:Nat):Bool:=decide (20≤j) && decide (j≤24)
section
variable{me ow c wv r1 r2 r4 r5 r6 r7:Int}{T t nv pv g j:Nat}{q:List (Nat×Int)}
theorem At.other{ow' c':Int}(h:At T t me ow c wv nv pv g j r1 r2 r4 r5 r6 r7 q)(h1:g≠3)(h2:ow'≠me):At T t me ow' c' wv nv pv g j r1 r2 r4 r5 r6 r7 q:=by
 cases h
 case a13L g0 g1 g2 g3 g4 g5=>apply At.a13L<;>assumption
 case a15N g0 g1 g2 g3=>apply At.a15N<;>assumption
 case a16N g0 g1 g2 g3 g4=>apply At.a16N<;>assumption
 case a38H44 g0 g1 g2 g3=>apply At.a38H44<;>assumption
 case a39H44 g0 g1 g2=>apply At.a39H44<;>assumption
 all_goals first | exact absurd (by assumption) h1 | (constructor<;>assumption)
theorem At.link{nv':Nat}(h:At T t me ow c wv nv pv g j r1 r2 r4 r5 r6 r7 q)(h1:g≠0)(h2:nv=0):At T t me ow c wv nv' pv g j r1 r2 r4 r5 r6 r7 q:=by
 cases h
 case a13A g0 g1 g2 g3=>apply At.a13A<;>assumption
 case a13L g0 g1 g2 g3 g4 g5=>apply At.a13L<;>assumption
 case a15A g0 g1 g2 g3=>apply At.a15A<;>assumption
 case a15N g0 g1 g2 g3=>apply At.a15N<;>assumption
 case a16A g0 g1 g2 g3=>apply At.a16A<;>assumption
 case a16N g0 g1 g2 g3 g4=>apply At.a16N<;>assumption
 case a34H03 g0 g1 g2=>apply At.a34H03<;>first | assumption | exact .inl (by omega)
 case a34H13 g0 g1 g2 g3=>apply At.a34H13<;>first | assumption | exact .inl (by omega)
 case a34H23 g0 g1 g2 g3=>apply At.a34H23<;>first | assumption | exact .inl (by omega)
 case a34H33 g0 g1 g2 g3=>apply At.a34H33<;>first | assumption | exact .inl (by omega)
 case a38H33 g0 g1 g2 g3=>apply At.a38H33<;>assumption
 case a39H33 g0 g1 g2=>apply At.a39H33<;>assumption
 case a41H33 g0 g1 g2=>apply At.a41H33<;>first | assumption | exact .inl (by omega)
 all_goals first | exact absurd (by assumption) h1 | exact absurd h2 (by assumption) | (constructor<;>assumption)
theorem At.wake(h:At T t me ow c wv nv pv g j r1 r2 r4 r5 r6 r7 q)(h1:g=2):At T t me ow c 0 nv pv 3 j r1 r2 r4 r5 r6 r7 q:=by
 cases h
 case a15N g0 g1 g2 g3=>apply At.a15A<;>first | rfl | assumption
 case a16N g0 g1 g2 g3 g4=>apply At.a16A<;>first | rfl | assumption
 all_goals (exfalso;omega)
theorem At.out(h:At T t me ow c wv nv pv g j r1 r2 r4 r5 r6 r7 q)(h1:g≠3):ow≠me∧inR j=false:=by
 cases h<;>first | exact⟨by assumption,rfl⟩ | contradiction
theorem own_buf{e:Nat×Int}{r:List (Nat×Int)}(h:At T t me ow c wv nv pv g j r1 r2 r4 r5 r6 r7 (e::r))(hme:0 < me):
  (e=(17,me)∧g=3∧At T t me me c wv nv pv 3 j r1 r2 r4 r5 r6 r7 r)∨(e=(0,wr32 (c+1))∧g=3∧∀ c',At T t me ow c' wv nv pv 3 j r1 r2 r4 r5 r6 r7 r)∨(e=(17,0)∧g=3∧At T t me 0 c wv nv pv 3 j r1 r2 r4 r5 r6 r7 r)∨(e=(17+T+nv,0)∧g=3∧nv≠0∧ow=0∧At T t me ow c wv nv pv 0 j r1 r2 r4 r5 r6 r7 r)∨(e=(18+t,0)∧g=0∧At T t me ow c wv 0 pv 0 j r1 r2 r4 r5 r6 r7 r)∨(e=(18+T+t,1)∧g=0∧At T t me ow c 1 nv pv 0 j r1 r2 r4 r5 r6 r7 r)∨(e=(17+pv,me)∧g=1∧At T t me ow c wv nv pv 2 j r1 r2 r4 r5 r6 r7 r):=by
 cases h
 case a0H04 g0 g1=>exact .inl ⟨rfl,by assumption,by apply At.a0H14<;>first | assumption | rfl | omega⟩
 case a0H14 g0 g1 g2=>exact .inr (.inl ⟨rfl,by assumption,fun c'=>by apply At.a0H24<;>first | assumption | rfl | omega⟩)
 case a0H24 g0 g1 g2=>exact .inr (.inr (.inl ⟨rfl,by assumption,by apply At.a0H34<;>first | assumption | rfl | omega⟩))
 case a0H34 g0 g1 g2=>exact .inr (.inr (.inr (.inl ⟨rfl,by assumption,by assumption,by assumption,by apply At.a0H44<;>first | assumption | rfl | omega⟩)))
 case a1H04 g0 g1=>exact .inl ⟨rfl,by assumption,by apply At.a1H14<;>first | assumption | rfl | omega⟩
 case a1H14 g0 g1 g2=>exact .inr (.inl ⟨rfl,by assumption,fun c'=>by apply At.a1H24<;>first | assumption | rfl | omega⟩)
 case a1H24 g0 g1 g2=>exact .inr (.inr (.inl ⟨rfl,by assumption,by apply At.a1H34<;>first | assumption | rfl | omega⟩))
 case a1H34 g0 g1 g2=>exact .inr (.inr (.inr (.inl ⟨rfl,by assumption,by assumption,by assumption,by apply At.a1H44<;>first | assumption | rfl | omega⟩)))
 case a2H04 g0 g1 g2=>exact .inl ⟨rfl,by assumption,by apply At.a2H14<;>first | assumption | rfl | omega⟩
 case a2H14 g0 g1 g2 g3=>exact .inr (.inl ⟨rfl,by assumption,fun c'=>by apply At.a2H24<;>first | assumption | rfl | omega⟩)
 case a2H24 g0 g1 g2 g3=>exact .inr (.inr (.inl ⟨rfl,by assumption,by apply At.a2H34<;>first | assumption | rfl | omega⟩))
 case a2H34 g0 g1 g2 g3=>exact .inr (.inr (.inr (.inl ⟨rfl,by assumption,by assumption,by assumption,by apply At.a2H44<;>first | assumption | rfl | omega⟩)))
 case a3H04 g0 g1 g2 g3=>exact .inl ⟨rfl,by assumption,by apply At.a3H14<;>first | assumption | rfl | omega⟩
 case a3H14 g0 g1 g2 g3 g4=>exact .inr (.inl ⟨rfl,by assumption,fun c'=>by apply At.a3H24<;>first | assumption | rfl | omega⟩)
 case a3H24 g0 g1 g2 g3 g4=>exact .inr (.inr (.inl ⟨rfl,by assumption,by apply At.a3H34<;>first | assumption | rfl | omega⟩))
 case a3H34 g0 g1 g2 g3 g4=>exact .inr (.inr (.inr (.inl ⟨rfl,by assumption,by assumption,by assumption,by apply At.a3H44<;>first | assumption | rfl | omega⟩)))
 case a4H04 g0 g1 g2 g3=>exact .inl ⟨rfl,by assumption,by apply At.a4H14<;>first | assumption | rfl | omega⟩
 case a4H14 g0 g1 g2 g3 g4=>exact .inr (.inl ⟨rfl,by assumption,fun c'=>by apply At.a4H24<;>first | assumption | rfl | omega⟩)
 case a4H24 g0 g1 g2 g3 g4=>exact .inr (.inr (.inl ⟨rfl,by assumption,by apply At.a4H34<;>first | assumption | rfl | omega⟩))
 case a4H34 g0 g1 g2 g3 g4=>exact .inr (.inr (.inr (.inl ⟨rfl,by assumption,by assumption,by assumption,by apply At.a4H44<;>first | assumption | rfl | omega⟩)))
 case a7H04 g0 g1 g2=>exact .inl ⟨rfl,by assumption,by apply At.a7H14<;>first | assumption | rfl | omega⟩
 case a7H14 g0 g1 g2 g3=>exact .inr (.inl ⟨rfl,by assumption,fun c'=>by apply At.a7H24<;>first | assumption | rfl | omega⟩)
 case a7H24 g0 g1 g2 g3=>exact .inr (.inr (.inl ⟨rfl,by assumption,by apply At.a7H34<;>first | assumption | rfl | omega⟩))
 case a7H34 g0 g1 g2 g3=>exact .inr (.inr (.inr (.inl ⟨rfl,by assumption,by assumption,by assumption,by apply At.a7H44<;>first | assumption | rfl | omega⟩)))
 case a8H04 g0 g1 g2 g3=>exact .inl ⟨rfl,by assumption,by apply At.a8H14<;>first | assumption | rfl | omega⟩
 case a8H14 g0 g1 g2 g3 g4=>exact .inr (.inl ⟨rfl,by assumption,fun c'=>by apply At.a8H24<;>first | assumption | rfl | omega⟩)
 case a8H24 g0 g1 g2 g3 g4=>exact .inr (.inr (.inl ⟨rfl,by assumption,by apply At.a8H34<;>first | assumption | rfl | omega⟩))
 case a8H34 g0 g1 g2 g3 g4=>exact .inr (.inr (.inr (.inl ⟨rfl,by assumption,by assumption,by assumption,by apply At.a8H44<;>first | assumption | rfl | omega⟩)))
 case a9H05 g0 g1 g2=>exact .inl ⟨rfl,by assumption,by apply At.a9H15<;>first | assumption | rfl | omega⟩
 case a9H15 g0 g1 g2 g3=>exact .inr (.inl ⟨rfl,by assumption,fun c'=>by apply At.a9H25<;>first | assumption | rfl | omega⟩)
 case a9H25 g0 g1 g2 g3=>exact .inr (.inr (.inl ⟨rfl,by assumption,by apply At.a9H35<;>first | assumption | rfl | omega⟩))
 case a9H35 g0 g1 g2 g3=>exact .inr (.inr (.inr (.inl ⟨rfl,by assumption,by assumption,by assumption,by apply At.a9H45<;>first | assumption | rfl | omega⟩)))
 case a9H45 g0 g1 g2=>exact .inr (.inr (.inr (.inr (.inl ⟨rfl,by assumption,by apply At.a9H55<;>first | assumption | rfl | omega⟩))))
 case a10H05 g0 g1 g2 g3=>exact .inl ⟨rfl,by assumption,by apply At.a10H15<;>first | assumption | rfl | omega⟩
 case a10H15 g0 g1 g2 g3 g4=>exact .inr (.inl ⟨rfl,by assumption,fun c'=>by apply At.a10H25<;>first | assumption | rfl | omega⟩)
 case a10H25 g0 g1 g2 g3 g4=>exact .inr (.inr (.inl ⟨rfl,by assumption,by apply At.a10H35<;>first | assumption | rfl | omega⟩))
 case a10H35 g0 g1 g2 g3 g4=>exact .inr (.inr (.inr (.inl ⟨rfl,by assumption,by assumption,by assumption,by apply At.a10H45<;>first | assumption | rfl | omega⟩)))
 case a10H45 g0 g1 g2 g3=>exact .inr (.inr (.inr (.inr (.inl ⟨rfl,by assumption,by apply At.a10H55<;>first | assumption | rfl | omega⟩))))
 case a11H06 g0 g1 g2=>exact .inl ⟨rfl,by assumption,by apply At.a11H16<;>first | assumption | rfl | omega⟩
 case a11H16 g0 g1 g2 g3=>exact .inr (.inl ⟨rfl,by assumption,fun c'=>by apply At.a11H26<;>first | assumption | rfl | omega⟩)
 case a11H26 g0 g1 g2 g3=>exact .inr (.inr (.inl ⟨rfl,by assumption,by apply At.a11H36<;>first | assumption | rfl | omega⟩))
 case a11H36 g0 g1 g2 g3=>exact .inr (.inr (.inr (.inl ⟨rfl,by assumption,by assumption,by assumption,by apply At.a11H46<;>first | assumption | rfl | omega⟩)))
 case a11H46 g0 g1 g2=>exact .inr (.inr (.inr (.inr (.inl ⟨rfl,by assumption,by apply At.a11H56<;>first | assumption | rfl | omega⟩))))
 case a11H56 g0 g1 g2 g3=>exact .inr (.inr (.inr (.inr (.inr (.inl ⟨rfl,by assumption,by apply At.a11H66<;>first | assumption | rfl | omega⟩)))))
 case a12H06 g0 g1 g2 g3=>exact .inl ⟨rfl,by assumption,by apply At.a12H16<;>first | assumption | rfl | omega⟩
 case a12H16 g0 g1 g2 g3 g4=>exact .inr (.inl ⟨rfl,by assumption,fun c'=>by apply At.a12H26<;>first | assumption | rfl | omega⟩)
 case a12H26 g0 g1 g2 g3 g4=>exact .inr (.inr (.inl ⟨rfl,by assumption,by apply At.a12H36<;>first | assumption | rfl | omega⟩))
 case a12H36 g0 g1 g2 g3 g4=>exact .inr (.inr (.inr (.inl ⟨rfl,by assumption,by assumption,by assumption,by apply At.a12H46<;>first | assumption | rfl | omega⟩)))
 case a12H46 g0 g1 g2 g3=>exact .inr (.inr (.inr (.inr (.inl ⟨rfl,by assumption,by apply At.a12H56<;>first | assumption | rfl | omega⟩))))
 case a12H56 g0 g1 g2 g3 g4=>exact .inr (.inr (.inr (.inr (.inr (.inl ⟨rfl,by assumption,by apply At.a12H66<;>first | assumption | rfl | omega⟩)))))
 case a15B g0 g1 g2 g3=>exact .inr (.inr (.inr (.inr (.inr (.inr ⟨rfl,by assumption,by apply At.a15N<;>first | assumption | rfl⟩)))))
 case a16B g0 g1 g2 g3 g4=>exact .inr (.inr (.inr (.inr (.inr (.inr ⟨rfl,by assumption,by apply At.a16N<;>first | assumption | rfl⟩)))))
 case a18H01 g0=>exact .inl ⟨rfl,by assumption,by apply At.a18H11<;>first | assumption | rfl | omega⟩
 case a19H01 g0 g1=>exact .inl ⟨rfl,by assumption,by apply At.a19H11<;>first | assumption | rfl | omega⟩
 case a20H01 g0=>exact .inl ⟨rfl,by assumption,by apply At.a20H11<;>first | assumption | rfl | omega⟩
 case a21H01 g0 g1=>exact .inl ⟨rfl,by assumption,by apply At.a21H11<;>first | assumption | rfl | omega⟩
 case a22H01 g0 g1 g2=>exact .inl ⟨rfl,by assumption,by apply At.a22H11<;>first | assumption | rfl | omega⟩
 case a23H01 g0 g1=>exact .inl ⟨rfl,by assumption,by apply At.a23H11<;>first | assumption | rfl | omega⟩
 case a24H02 g0=>exact .inl ⟨rfl,by assumption,by apply At.a24H12<;>first | assumption | rfl | omega⟩
 case a24H12 g0 g1=>exact .inr (.inl ⟨rfl,by assumption,fun c'=>by apply At.a24H22<;>first | assumption | rfl | omega⟩)
 case a25H02 g0=>exact .inl ⟨rfl,by assumption,by apply At.a25H12<;>first | assumption | rfl | omega⟩
 case a25H12 g0 g1=>exact .inr (.inl ⟨rfl,by assumption,fun c'=>by apply At.a25H22<;>first | assumption | rfl | omega⟩)
 case a26H02 g0 g1=>exact .inl ⟨rfl,by assumption,by apply At.a26H12<;>first | assumption | rfl | omega⟩
 case a26H12 g0 g1 g2=>exact .inr (.inl ⟨rfl,by assumption,fun c'=>by apply At.a26H22<;>first | assumption | rfl | omega⟩)
 case a27H02 g0 g1 g2=>exact .inl ⟨rfl,by assumption,by apply At.a27H12<;>first | assumption | rfl | omega⟩
 case a27H12 g0 g1 g2 g3=>exact .inr (.inl ⟨rfl,by assumption,fun c'=>by apply At.a27H22<;>first | assumption | rfl | omega⟩)
 case a28H02 g0 g1 g2=>exact .inl ⟨rfl,by assumption,by apply At.a28H12<;>first | assumption | rfl | omega⟩
 case a28H12 g0 g1 g2 g3=>exact .inr (.inl ⟨rfl,by assumption,fun c'=>by apply At.a28H22<;>first | assumption | rfl | omega⟩)
 case a31H02 g0 g1=>exact .inl ⟨rfl,by assumption,by apply At.a31H12<;>first | assumption | rfl | omega⟩
 case a31H12 g0 g1 g2=>exact .inr (.inl ⟨rfl,by assumption,fun c'=>by apply At.a31H22<;>first | assumption | rfl | omega⟩)
 case a32H02 g0 g1 g2=>exact .inl ⟨rfl,by assumption,by apply At.a32H12<;>first | assumption | rfl | omega⟩
 case a32H12 g0 g1 g2 g3=>exact .inr (.inl ⟨rfl,by assumption,fun c'=>by apply At.a32H22<;>first | assumption | rfl | omega⟩)
 case a33H03 g0 g1=>exact .inl ⟨rfl,by assumption,by apply At.a33H13<;>first | assumption | rfl | omega⟩
 case a33H13 g0 g1 g2=>exact .inr (.inl ⟨rfl,by assumption,fun c'=>by apply At.a33H23<;>first | assumption | rfl | omega⟩)
 case a33H23 g0 g1 g2=>exact .inr (.inr (.inl ⟨rfl,by assumption,by apply At.a33H33<;>first | assumption | rfl | omega⟩))
 case a34H03 g0 g1 g2=>exact .inl ⟨rfl,by assumption,by apply At.a34H13<;>first | assumption | rfl | omega⟩
 case a34H13 g0 g1 g2 g3=>exact .inr (.inl ⟨rfl,by assumption,fun c'=>by apply At.a34H23<;>first | assumption | rfl | omega⟩)
 case a34H23 g0 g1 g2 g3=>exact .inr (.inr (.inl ⟨rfl,by assumption,by apply At.a34H33<;>first | assumption | rfl | omega⟩))
 case a35H03 g0 g1=>exact .inl ⟨rfl,by assumption,by apply At.a35H13<;>first | assumption | rfl | omega⟩
 case a35H13 g0 g1 g2=>exact .inr (.inl ⟨rfl,by assumption,fun c'=>by apply At.a35H23<;>first | assumption | rfl | omega⟩)
 case a35H23 g0 g1 g2=>exact .inr (.inr (.inl ⟨rfl,by assumption,by apply At.a35H33<;>first | assumption | rfl | omega⟩))
 case a36H03 g0 g1 g2=>exact .inl ⟨rfl,by assumption,by apply At.a36H13<;>first | assumption | rfl | omega⟩
 case a36H13 g0 g1 g2 g3=>exact .inr (.inl ⟨rfl,by assumption,fun c'=>by apply At.a36H23<;>first | assumption | rfl | omega⟩)
 case a36H23 g0 g1 g2 g3=>exact .inr (.inr (.inl ⟨rfl,by assumption,by apply At.a36H33<;>first | assumption | rfl | omega⟩))
 case a37H03 g0 g1 g2 g3=>exact .inl ⟨rfl,by assumption,by apply At.a37H13<;>first | assumption | rfl | omega⟩
 case a37H13 g0 g1 g2 g3 g4=>exact .inr (.inl ⟨rfl,by assumption,fun c'=>by apply At.a37H23<;>first | assumption | rfl | omega⟩)
 case a37H23 g0 g1 g2 g3 g4=>exact .inr (.inr (.inl ⟨rfl,by assumption,by apply At.a37H33<;>first | assumption | rfl | omega⟩))
 case a42H03 g0 g1 g2=>exact .inl ⟨rfl,by assumption,by apply At.a42H13<;>first | assumption | rfl | omega⟩
 case a42H13 g0 g1 g2 g3=>exact .inr (.inl ⟨rfl,by assumption,fun c'=>by apply At.a42H23<;>first | assumption | rfl | omega⟩)
 case a42H23 g0 g1 g2 g3=>exact .inr (.inr (.inl ⟨rfl,by assumption,by apply At.a42H33<;>first | assumption | rfl | omega⟩))
 case a43H03 g0 g1 g2 g3=>exact .inl ⟨rfl,by assumption,by apply At.a43H13<;>first | assumption | rfl | omega⟩
 case a43H13 g0 g1 g2 g3 g4=>exact .inr (.inl ⟨rfl,by assumption,fun c'=>by apply At.a43H23<;>first | assumption | rfl | omega⟩)
 case a43H23 g0 g1 g2 g3 g4=>exact .inr (.inr (.inl ⟨rfl,by assumption,by apply At.a43H33<;>first | assumption | rfl | omega⟩))
 case a44H04 g0 g1=>exact .inl ⟨rfl,by assumption,by apply At.a44H14<;>first | assumption | rfl | omega⟩
 case a44H14 g0 g1 g2=>exact .inr (.inl ⟨rfl,by assumption,fun c'=>by apply At.a44H24<;>first | assumption | rfl | omega⟩)
 case a44H24 g0 g1 g2=>exact .inr (.inr (.inl ⟨rfl,by assumption,by apply At.a44H34<;>first | assumption | rfl | omega⟩))
 case a44H34 g0 g1 g2=>exact .inr (.inr (.inr (.inl ⟨rfl,by assumption,by assumption,by assumption,by apply At.a44H44<;>first | assumption | rfl | omega⟩)))
 case a45H04 g0 g1 g2=>exact .inl ⟨rfl,by assumption,by apply At.a45H14<;>first | assumption | rfl | omega⟩
 case a45H14 g0 g1 g2 g3=>exact .inr (.inl ⟨rfl,by assumption,fun c'=>by apply At.a45H24<;>first | assumption | rfl | omega⟩)
 case a45H24 g0 g1 g2 g3=>exact .inr (.inr (.inl ⟨rfl,by assumption,by apply At.a45H34<;>first | assumption | rfl | omega⟩))
 case a45H34 g0 g1 g2 g3=>exact .inr (.inr (.inr (.inl ⟨rfl,by assumption,by assumption,by assumption,by apply At.a45H44<;>first | assumption | rfl | omega⟩)))
end
def meN(t:Nat):Int:=((t+1:Nat):Int)
theorem meN_pos(t:Nat):0 < meN t:=by unfold meN;omega
theorem meN_ne{t u:Nat}(h:t≠u):meN t≠meN u:=by unfold meN;omega
structure Inw(T:Nat)(mem:List Int)(f:Nat→Loc)(q:Nat→List (Nat×Int))(g pv nv:Nat→Nat)(Q:List Nat):Prop where
 hat:∀ t,t < T→At T t (meN t) (mem.getD 17 0) (mem.getD 0 0) (mem.getD (18+T+t) 0) (nv t) (pv t) (g t) (f t).j (f t).r1 (f t).r2 (f t).r4 (f t).r5 (f t).r6 (f t).r7 (q t)
 hn:∀ t,t < T→mem.getD (18+t) 0=(nv t:Int)
 hp:∀ t,t < T→g t=1→1≤pv t∧pv t≤T
 nd:Q.Nodup
 inQ:∀ t,t < T→(t∈Q↔g t≠0)
 ltQ:∀ t∈Q,t < T
 hd:∀ h r,Q=h::r→g h=3∧Chain g pv nv (h::r)
 tl:mem.getD 16 0=(tailN Q:Int)
def X(T R:Nat):Wd.Lk:=⟨fun _=>46,R,T,18+2*T,fun _=>inR,fun _=>23,fun mem f q=>∃ g pv nv Q,Inw T mem f q g pv nv Q⟩
section
variable{T R t:Nat}{codes:List (List Ins)}{s:Ts}{f:Nat→Loc}{i:Int}{mem:List Int}{q:Nat→List (Nat×Int)}{g pv nv:Nat→Nat}{Q:List Nat}
theorem Inw.head(h:Inw T mem f q g pv nv Q)(ht:t < T)(h3:g t=3):∃ r,Q=t::r:=by
 have h1:=(h.inQ t ht).2 (by omega)
 cases Q with
 | nil=>cases h1
 | cons a r=>
  rcases List.mem_cons.1 h1 with rfl | h1
  ·exact⟨r,rfl⟩
  ·have:=((h.hd a r rfl).2.mem t h1).1
   omega
theorem Inw.ex{u:Nat}(h:Inw T mem f q g pv nv Q)(ht:t < T)(h3:g t=3)(hu:u < T)(hne:t≠u):g u≠3:=fun e=>by
 obtain⟨r,h1⟩:=h.head ht h3
 obtain⟨r2,h2⟩:=h.head hu e
 rw [h1] at h2
 injection h2 with h2 _
 exact hne h2
theorem Inw.put{x:Loc}{q':List (Nat×Int)}(h:Inw T mem f q g pv nv Q)(hx:At T t (meN t) (mem.getD 17 0) (mem.getD 0 0) (mem.getD (18+T+t) 0) (nv t) (pv t) (g t) x.j x.r1 x.r2 x.r4 x.r5 x.r6 x.r7 q'):Inw T mem (upF f t x) (upF q t q') g pv nv Q:=by
 refine⟨fun u hu=>?_,h.hn,h.hp,h.nd,h.inQ,h.ltQ,h.hd,h.tl⟩
 by_cases e:u=t
 ·subst e;rw [upF_self,upF_self];exact hx
 ·rw [upF_ne _ _ e,upF_ne _ _ e];exact h.hat u hu
theorem IL{x:Loc}(h:Inw T mem f q g pv nv Q)(hx:At T t (meN t) (mem.getD 17 0) (mem.getD 0 0) (mem.getD (18+T+t) 0) (nv t) (pv t) (g t) x.j x.r1 x.r2 x.r4 x.r5 x.r6 x.r7 (q t)):(X T R).I mem (upF f t x) q:=by
 have:=h.put (q':=q t) hx
 rw [upF_id q t] at this
 exact⟨_,_,_,_,this⟩
theorem flush(h:(X T R).Inv s f i)(ht:t < T):(X T R).Inv (s.flush t) f i:=by
 refine h.flushed ht (fun e r hq=>?_)
 obtain⟨g,pv,nv,Q,hI⟩:=h.I
 have hnm:s.mem.length=18+2*T:=h.nm
 have hat:=hI.hat t ht
 rw [hq] at hat
 have hmp:=meN_pos t
 have hmn:=fun u (h:t≠u)=>meN_ne h
 have hnv:=hI.hn t ht
 obtain⟨ad,v⟩:=e
 -- the same stage,words of the thread alone
 have fin:∀ {ad:Nat} {v:Int},ad < s.mem.length→(∀ u,u < T→ad≠18+u)→ad≠16→At T t (meN t) ((s.mem.set ad v).getD 17 0) ((s.mem.set ad v).getD 0 0) ((s.mem.set ad v).getD (18+T+t) 0) (nv t) (pv t) (g t) (f t).j (f t).r1 (f t).r2 (f t).r4 (f t).r5 (f t).r6 (f t).r7 r→(∀ u,u < T→u≠t→At T u (meN u) ((s.mem.set ad v).getD 17 0) ((s.mem.set ad v).getD 0 0) ((s.mem.set ad v).getD (18+T+u) 0) (nv u) (pv u) (g u) (f u).j (f u).r1 (f u).r2 (f u).r4 (f u).r5 (f u).r6 (f u).r7 (s.buf u))→(X T R).I (s.mem.set ad v) f (upF s.buf t r):=fun {ad v} h0 h1 h2 h3 h4=>by
  refine⟨g,pv,nv,Q,fun u hu=>?_,fun u hu=>?_,hI.hp,hI.nd,hI.inQ,hI.ltQ,hI.hd,?_⟩
  ·by_cases e:u=t
   ·subst e;rw [upF_self];exact h3
   ·rw [upF_ne _ _ e];exact h4 u hu e
  ·rw [get_set h0,if_neg (h1 u hu)];exact hI.hn u hu
  ·rw [get_set h0,if_neg h2];exact hI.tl
 have hoth:g t=3→∀ ow' c' u,u < T→u≠t→ow'≠meN u→At T u (meN u) ow' c' (s.mem.getD (18+T+u) 0) (nv u) (pv u) (g u) (f u).j (f u).r1 (f u).r2 (f u).r4 (f u).r5 (f u).r6 (f u).r7 (s.buf u):=fun h3 ow' c' u hu hne ho=>(hI.hat u hu).other (hI.ex ht h3 hu (fun e=>hne e.symm)) ho
 rcases own_buf hat hmp with⟨e1,hg,hr⟩ | ⟨e1,hg,hr⟩ | ⟨e1,hg,hr⟩ | ⟨e1,hg,hnz,hz,hr⟩ | ⟨e1,hg,hr⟩ | ⟨e1,hg,hr⟩ | ⟨e1,hg,hr⟩
 ·have ea:ad=17:=congrArg Prod.fst e1
  have ev:v=meN t:=congrArg Prod.snd e1
  subst ea ev
  have m17:(s.mem.set (17) (meN t)).getD (17) 0=meN t:=(get_set (by omega)).trans (if_pos rfl)
  have m0:(s.mem.set (17) (meN t)).getD (0) 0=s.mem.getD (0) 0:=(get_set (by omega)).trans (if_neg (by omega))
  have mw:∀ u,(s.mem.set 17 (meN t)).getD (18+T+u) 0=s.mem.getD (18+T+u) 0:=fun u=>(get_set (by omega)).trans (if_neg (by omega))
  exact⟨fin (by omega) (fun u _=>by omega) (show (17:Nat)≠16 by decide) (by rw [m17,m0,mw];rw [hg];exact hr) (fun u hu hne=>by rw [m17,m0,mw];exact hoth hg _ _ u hu hne (hmn u (fun e=>hne e.symm))),.inl (show (17:Nat)≠0 by decide)⟩
 ·have ea:ad=0:=congrArg Prod.fst e1
  have ev:v=wr32 (s.mem.getD 0 0+1):=congrArg Prod.snd e1
  subst ea ev
  have m17:(s.mem.set (0) (wr32 (s.mem.getD 0 0+1))).getD (17) 0=s.mem.getD (17) 0:=(get_set (by omega)).trans (if_neg (by omega))
  have m0:(s.mem.set (0) (wr32 (s.mem.getD 0 0+1))).getD (0) 0=wr32 (s.mem.getD 0 0+1):=(get_set (by omega)).trans (if_pos rfl)
  have mw:∀ u,(s.mem.set 0 (wr32 (s.mem.getD 0 0+1))).getD (18+T+u) 0=s.mem.getD (18+T+u) 0:=fun u=>(get_set (by omega)).trans (if_neg (by omega))
  exact⟨fin (by omega) (fun u _=>by omega) (show (0:Nat)≠16 by decide) (by rw [m17,m0,mw];rw [hg];exact hr _) (fun u hu hne=>by rw [m17,m0,mw];exact hoth hg _ _ u hu hne (((hI.hat u hu).out (hI.ex ht hg hu (fun e=>hne e.symm))).1)),.inr ⟨rfl,by show 0 < 18+2*T;omega,rfl⟩⟩
 ·have ea:ad=17:=congrArg Prod.fst e1
  have ev:v=0:=congrArg Prod.snd e1
  subst ea ev
  have m17:(s.mem.set (17) (0)).getD (17) 0=0:=(get_set (by omega)).trans (if_pos rfl)
  have m0:(s.mem.set (17) (0)).getD (0) 0=s.mem.getD (0) 0:=(get_set (by omega)).trans (if_neg (by omega))
  have mw:∀ u,(s.mem.set 17 (0)).getD (18+T+u) 0=s.mem.getD (18+T+u) 0:=fun u=>(get_set (by omega)).trans (if_neg (by omega))
  exact⟨fin (by omega) (fun u _=>by omega) (show (17:Nat)≠16 by decide) (by rw [m17,m0,mw];rw [hg];exact hr) (fun u hu hne=>by rw [m17,m0,mw];exact hoth hg _ _ u hu hne (by have:=meN_pos u;omega)),.inl (show (17:Nat)≠0 by decide)⟩
 ·have ea:ad=17+T+nv t:=congrArg Prod.fst e1
  have ev:v=0:=congrArg Prod.snd e1
  subst ea ev
  obtain⟨r',hQ⟩:=hI.head ht hg
  obtain⟨_,hc⟩:=hI.hd t r' hQ
  have hnd:=hI.nd
  rw [hQ] at hnd
  have hnd1:=List.nodup_cons.1 hnd
  cases r' with
  | nil=>exact absurd hc hnz
  | cons u r'=>
   obtain⟨⟨hp1,hp2⟩,hc2⟩:=hc
   have hlu:u < T:=hI.ltQ u (by rw [hQ];simp)
   have hgu:g u=2∧nv t=u+1:=by omega
   have hut:u≠t:=fun e=>hnd1.1 (by rw [←e];simp)
   have ead:17+T+nv t=18+T+u:=by omega
   rw [ead]
   have m17:(s.mem.set (18+T+u) 0).getD (17) 0=s.mem.getD (17) 0:=(get_set (by omega)).trans (if_neg (by omega))
   have m0:(s.mem.set (18+T+u) 0).getD (0) 0=s.mem.getD (0) 0:=(get_set (by omega)).trans (if_neg (by omega))
   have m16:(s.mem.set (18+T+u) 0).getD (16) 0=s.mem.getD (16) 0:=(get_set (by omega)).trans (if_neg (by omega))
   have mu:(s.mem.set (18+T+u) 0).getD (18+T+u) 0=0:=(get_set (by omega)).trans (if_pos rfl)
   have mw:∀ w,w≠u→(s.mem.set (18+T+u) 0).getD (18+T+w) 0=s.mem.getD (18+T+w) 0:=fun w hw=>(get_set (by omega)).trans (if_neg (by omega))
   have mn:∀ w,w < T→(s.mem.set (18+T+u) 0).getD (18+w) 0=s.mem.getD (18+w) 0:=fun w hw=>(get_set (by omega)).trans (if_neg (by omega))
   have hgn:∀ w,w≠t→w≠u→upF (upF g t 0) u 3 w=g w:=fun w h1 h2=>by rw [upF_ne _ _ h2,upF_ne _ _ h1]
   refine⟨⟨upF (upF g t 0) u 3,pv,nv,u::r',fun w hw=>?_,fun w hw=>by rw [mn w hw];exact hI.hn w hw,fun w hw e=>?_,hnd1.2,fun w hw=>?_,fun w hw=>hI.ltQ w (by rw [hQ];exact List.mem_cons_of_mem _ hw),fun h r e=>?_,?_⟩,.inl (by omega)⟩
   ·rw [m17,m0]
    by_cases e:w=t
    ·subst e
     rw [mw _ (fun e=>hut e.symm),upF_ne _ _ (fun e=>hut e.symm),upF_self,upF_self];exact hr
    ·by_cases e2:w=u
     ·subst e2
      rw [mu,upF_self,upF_ne _ _ hut]
      exact (hI.hat w hw).wake hgu.1
     ·rw [mw w e2,hgn w e e2,upF_ne _ _ e];exact hI.hat w hw
   ·by_cases e1:w=t
    ·subst e1;rw [upF_ne _ _ (fun e=>hut e.symm),upF_self] at e;omega
    ·by_cases e2:w=u
     ·subst e2;rw [upF_self] at e;omega
     ·rw [hgn w e1 e2] at e;exact hI.hp w hw e
   ·have h1:=hI.inQ w hw
    rw [hQ] at h1
    by_cases e1:w=t
    ·subst e1
     rw [upF_ne _ _ (fun e=>hut e.symm),upF_self]
     exact⟨fun h=>absurd h hnd1.1,fun h=>absurd rfl h⟩
    ·by_cases e2:w=u
     ·subst e2
      rw [upF_self]
      exact⟨fun _=>by decide,fun _=>by simp⟩
     ·rw [hgn w e1 e2,←h1]
      exact⟨fun h=>List.mem_cons_of_mem _ h,fun h=>by
       rcases List.mem_cons.1 h with h | h
       ·exact absurd h e1
       ·exact h⟩
   ·injection e with e1 e2
    subst e1 e2
    have hnd2:=List.nodup_cons.1 hnd1.2
    refine⟨upF_self ..,hc2.congr (fun w hw=>⟨hgn w (fun e=>hnd1.1 (by rw [←e];exact List.mem_cons_of_mem _ hw)) (fun e=>hnd2.1 (by rw [←e];exact hw)),rfl⟩) (fun _ _=>rfl)⟩
   ·rw [m16,hI.tl,hQ];rfl
 ·have ea:ad=18+t:=congrArg Prod.fst e1
  have ev:v=0:=congrArg Prod.snd e1
  subst ea ev
  have m17:(s.mem.set (18+t) (0)).getD (17) 0=s.mem.getD (17) 0:=(get_set (by omega)).trans (if_neg (by omega))
  have m0:(s.mem.set (18+t) (0)).getD (0) 0=s.mem.getD (0) 0:=(get_set (by omega)).trans (if_neg (by omega))
  have m16:(s.mem.set (18+t) (0)).getD (16) 0=s.mem.getD (16) 0:=(get_set (by omega)).trans (if_neg (by omega))
  have mt:(s.mem.set (18+t) (0)).getD (18+t) 0=0:=(get_set (by omega)).trans (if_pos rfl)
  have mw:∀ w,(s.mem.set (18+t) 0).getD (18+T+w) 0=s.mem.getD (18+T+w) 0:=fun w=>(get_set (by omega)).trans (if_neg (by omega))
  have hnQ:t∉Q:=fun h=>(hI.inQ t ht).1 h hg
  refine⟨⟨g,pv,upF nv t 0,Q,fun w hw=>?_,fun w hw=>?_,hI.hp,hI.nd,hI.inQ,hI.ltQ,fun h r e=>?_,by rw [m16];exact hI.tl⟩,.inl (show 18+t≠0 by omega)⟩
  ·rw [m17,m0,mw]
   by_cases e:w=t
   ·subst e;rw [upF_self,upF_self,hg];exact hr
   ·rw [upF_ne _ _ e,upF_ne _ _ e];exact hI.hat w hw
  ·by_cases e:w=t
   ·subst e;rw [mt,upF_self];rfl
   ·rw [upF_ne _ _ e,get_set (by omega),if_neg (by omega)];exact hI.hn w hw
  ·refine⟨(hI.hd h r e).1,(hI.hd h r e).2.congr (fun _ _=>⟨rfl,rfl⟩) (fun w hw=>upF_ne _ _ (fun e2=>hnQ (by rw [e,←e2];exact hw)))⟩
 ·have ea:ad=18+T+t:=congrArg Prod.fst e1
  have ev:v=1:=congrArg Prod.snd e1
  subst ea ev
  have m17:(s.mem.set (18+T+t) (1)).getD (17) 0=s.mem.getD (17) 0:=(get_set (by omega)).trans (if_neg (by omega))
  have m0:(s.mem.set (18+T+t) (1)).getD (0) 0=s.mem.getD (0) 0:=(get_set (by omega)).trans (if_neg (by omega))
  have mt:(s.mem.set (18+T+t) (1)).getD (18+T+t) 0=1:=(get_set (by omega)).trans (if_pos rfl)
  exact⟨fin (by omega) (fun u _=>by omega) (by omega) (by rw [m17,m0,mt,hg];exact hr) (fun u hu hne=>by rw [m17,m0,get_set (by omega),if_neg (by omega)];exact hI.hat u hu),.inl (show 18+T+t≠0 by omega)⟩
 ·have ea:ad=17+pv t:=congrArg Prod.fst e1
  have ev:v=meN t:=congrArg Prod.snd e1
  subst ea ev
  have htQ:=(hI.inQ t ht).2 (by omega)
  have hpv:=hI.hp t ht hg
  cases Q with
  | nil=>cases htQ
  | cons h r'=>
   obtain⟨hg3,hc⟩:=hI.hd h r' rfl
   have htr:t∈r':=by
    rcases List.mem_cons.1 htQ with e | h
    ·subst e;omega
    ·exact h
   obtain⟨p,hp,hp1,hp2,hp3,hc2⟩:=hc.link hI.nd htr hg
   have hpT:=hI.ltQ p hp
   have hgp:=(hI.inQ p hpT).1 hp
   have ead:17+pv t=18+p:=by omega
   rw [ead]
   have m17:(s.mem.set (18+p) (meN t)).getD (17) 0=s.mem.getD (17) 0:=(get_set (by omega)).trans (if_neg (by omega))
   have m0:(s.mem.set (18+p) (meN t)).getD (0) 0=s.mem.getD (0) 0:=(get_set (by omega)).trans (if_neg (by omega))
   have m16:(s.mem.set (18+p) (meN t)).getD (16) 0=s.mem.getD (16) 0:=(get_set (by omega)).trans (if_neg (by omega))
   have mp:(s.mem.set (18+p) (meN t)).getD (18+p) 0=meN t:=(get_set (by omega)).trans (if_pos rfl)
   have mw:∀ w,(s.mem.set (18+p) (meN t)).getD (18+T+w) 0=s.mem.getD (18+T+w) 0:=fun w=>(get_set (by omega)).trans (if_neg (by omega))
   refine⟨⟨upF g t 2,pv,upF nv p (t+1),h::r',fun w hw=>?_,fun w hw=>?_,fun w hw e=>?_,hI.nd,fun w hw=>?_,hI.ltQ,fun h2 r2 e=>?_,by rw [m16];exact hI.tl⟩,.inl (show 18+p≠0 by omega)⟩
   ·rw [m17,m0,mw]
    by_cases e:w=t
    ·subst e;rw [upF_self,upF_self,upF_ne _ _ (fun e=>hp3 e.symm)];exact hr
    ·rw [upF_ne _ _ e,upF_ne _ _ e]
     by_cases e2:w=p
     ·subst e2;rw [upF_self];exact (hI.hat w hw).link hgp hp2
     ·rw [upF_ne _ _ e2];exact hI.hat w hw
   ·by_cases e2:w=p
    ·subst e2;rw [mp,upF_self];rfl
    ·rw [upF_ne _ _ e2,get_set (by omega),if_neg (by omega)];exact hI.hn w hw
   ·by_cases e2:w=t
    ·subst e2;rw [upF_self] at e;omega
    ·rw [upF_ne _ _ e2] at e;exact hI.hp w hw e
   ·by_cases e2:w=t
    ·subst e2;rw [upF_self];exact⟨fun _=>by decide,fun _=>htQ⟩
    ·rw [upF_ne _ _ e2];exact hI.inQ w hw
   ·injection e with e1 e2
    subst e1 e2
    exact⟨by rw [upF_ne _ _ (fun e=>by subst e;omega)];exact hg3,hc2⟩
set_option maxHeartbeats 8000000 in
theorem step(h:(X T R).Inv s f i)(ht:t < T)(hT:T≤100)(hR:R≤100)(hc:codes[t]? = some (codeT T R t))(h0:(f t).st=0)(hp:(f t).p < R)(hj:(f t).j < 46):∃ s' f' i',s.stepT codes t=some s'∧(X T R).Inv s' f' i':=by
 have eL:(X T R).Lb t=46:=rfl
 have er:(X T R).inR t=inR:=rfl
 have ej:(X T R).js t=23:=rfl
 obtain⟨x,hx⟩:∃ x,f t=x:=⟨_,rfl⟩
 obtain⟨g,pv,nv,Q,hI⟩:=h.I
 have hat:=hI.hat t ht
 have hnv:=hI.hn t ht
 have hpv:=hI.hp t ht
 have hs:=h.hs _ ht
 have hnm:s.mem.length=18+2*T:=h.nm
 rw [hx] at hat hs h0 hp hj
 rw [eL] at hs
 obtain⟨p,j,r0,r1,r2,r3,r4,r5,r6,r7,st⟩:=x
 dsimp only at hat h0 hp hj
 subst h0
 obtain⟨me,hme⟩:∃ me:Int,me=meN t:=⟨_,rfl⟩
 have hme0:0 < me:=by have:=meN_pos t;omega
 have hmet:((t+1:Nat):Int)=me:=hme.symm
 have ins:=fun {i:Ins} (hi:(base T t)[j]? = some i)=>at_ins (L:=46) (i:=i) hc hs (code_get T R t p j hT (by omega) hp hj) hi
 generalize hq:s.buf t=q at hat
 generalize hgt:g t=gt at hat hpv
 obtain⟨n,hnn⟩:∃ n,nv t=n:=⟨_,rfl⟩
 obtain⟨b,hbb⟩:∃ b,pv t=b:=⟨_,rfl⟩
 rw [hnn] at hat hnv
 rw [hbb] at hat hpv
 rw [←hme] at hat
 cases hat
 case a0H04 g0 g1 | a0H14 g0 g1 g2 | a0H24 g0 g1 g2 | a0H34 g0 g1 g2 | a0H44 g0 g1=>
  have hi:=ins (i:=⟨27,7,0,0,0⟩) rfl
  rw [movI_plain (i:=⟨27,7,0,0,0⟩) rfl] at hi
  have hmk:=st_mark hi
  have hg:=h.marked (t:=t) ⟨7,0,((p*46+0:Nat):Int),0,r7,0,0,false⟩ rfl (.inl rfl)
  have key:=W_loc hg ht eL er ej (⟨p,1,r0,r1,r2,r3,r4,r5,r6,r7,0⟩:Loc) (.inl ⟨rfl,hp,by show 1 < 46;decide⟩) (IL (mem:=s.mem) (q:=s.buf) hI (by rw [←hme,hq,hgt,hnn,hbb];first | (apply At.a1H04<;>(first | assumption | rfl | (simp_all;done));done) | (apply At.a1H14<;>(first | assumption | rfl | (simp_all;done));done) | (apply At.a1H24<;>(first | assumption | rfl | (simp_all;done));done) | (apply At.a1H34<;>(first | assumption | rfl | (simp_all;done));done) | (apply At.a1H44<;>(first | assumption | rfl | (simp_all;done));done))) (by rw [hx];rfl) (by rw [hx]) (by rw [hx];rfl)
  rw [show Loc.th 46 _=_ from th_of rfl] at key
  exact⟨_,_,_,hmk,key⟩
 case a1H04 g0 g1 | a1H14 g0 g1 g2 | a1H24 g0 g1 g2=>
  have hi:=ins (i:=⟨16,4,8,0,17⟩) rfl
  rw [movI_plain (i:=⟨16,4,8,0,17⟩) rfl] at hi
  have hst:=st_load hi (ad:=17) (addr_abs _ _ _ _ _) (by rw [hnm];omega)
  have hl:s.load t 17=(0:Int):=by rw [load_q hq];(repeat (rw [Wd.lastQ_cons];first | rw [if_neg (by dsimp only;omega)] | rw [if_pos rfl]));rfl
  rw [hl] at hst
  have hg:=h.noted (t:=t) ⟨1,0,((p*46+1:Nat):Int),((17:Nat):Int),(0:Int),0,0,false⟩ (show (1:Int)≠7 by decide) (show (1:Int)≠13 by decide)
  have key:=W_loc hg ht eL er ej (⟨p,2,r0,r1,r2,r3,(0:Int),r5,r6,r7,0⟩:Loc) (.inl ⟨rfl,hp,by show 2 < 46;decide⟩) (IL (mem:=s.mem) (q:=s.buf) hI (by rw [←hme,hq,hgt,hnn,hbb];first | (apply At.a2H04<;>(first | assumption | rfl | omega | (intro e;dsimp only at e;omega));done) | (apply At.a2H14<;>(first | assumption | rfl | omega | (intro e;dsimp only at e;omega));done) | (apply At.a2H24<;>(first | assumption | rfl | omega | (intro e;dsimp only at e;omega));done))) (by rw [hx];rfl) (by rw [hx]) (by rw [hx];rfl)
  rw [show Loc.th 46 _=_ from th_of rfl] at key
  exact⟨_,_,_,hst,key⟩
 case a1H34 g0 g1 g2=>
  have hi:=ins (i:=⟨16,4,8,0,17⟩) rfl
  rw [movI_plain (i:=⟨16,4,8,0,17⟩) rfl] at hi
  have hst:=st_load hi (ad:=17) (addr_abs _ _ _ _ _) (by rw [hnm];omega)
  have hl:s.load t 17=(s.mem.getD 17 0):=by rw [load_q hq];(repeat (rw [Wd.lastQ_cons];first | rw [if_neg (by dsimp only;omega)] | rw [if_pos rfl]));rfl
  rw [hl] at hst
  have hg:=h.noted (t:=t) ⟨1,0,((p*46+1:Nat):Int),((17:Nat):Int),(s.mem.getD 17 0),0,0,false⟩ (show (1:Int)≠7 by decide) (show (1:Int)≠13 by decide)
  have key:=W_loc hg ht eL er ej (⟨p,2,r0,r1,r2,r3,(s.mem.getD 17 0),r5,r6,r7,0⟩:Loc) (.inl ⟨rfl,hp,by show 2 < 46;decide⟩) (IL (mem:=s.mem) (q:=s.buf) hI (by rw [←hme,hq,hgt,hnn,hbb];apply At.a2H34<;>first | assumption | rfl | omega | (intro e;dsimp only at e;omega))) (by rw [hx];rfl) (by rw [hx]) (by rw [hx];rfl)
  rw [show Loc.th 46 _=_ from th_of rfl] at key
  exact⟨_,_,_,hst,key⟩
 case a1H44 g0 g1=>
  have hi:=ins (i:=⟨16,4,8,0,17⟩) rfl
  rw [movI_plain (i:=⟨16,4,8,0,17⟩) rfl] at hi
  have hst:=st_load hi (ad:=17) (addr_abs _ _ _ _ _) (by rw [hnm];omega)
  have hl:s.load t 17=(s.mem.getD 17 0):=by rw [load_q hq];rfl
  rw [hl] at hst
  have hg:=h.noted (t:=t) ⟨1,0,((p*46+1:Nat):Int),((17:Nat):Int),(s.mem.getD 17 0),0,0,false⟩ (show (1:Int)≠7 by decide) (show (1:Int)≠13 by decide)
  have key:=W_loc hg ht eL er ej (⟨p,2,r0,r1,r2,r3,(s.mem.getD 17 0),r5,r6,r7,0⟩:Loc) (.inl ⟨rfl,hp,by show 2 < 46;decide⟩) (IL (mem:=s.mem) (q:=s.buf) hI (by rw [←hme,hq,hgt,hnn,hbb];apply At.a2H44<;>first | assumption | rfl | omega | (intro e;dsimp only at e;omega))) (by rw [hx];rfl) (by rw [hx]) (by rw [hx];rfl)
  rw [show Loc.th 46 _=_ from th_of rfl] at key
  exact⟨_,_,_,hst,key⟩
 case a2H04 g0 g1 g2 | a2H14 g0 g1 g2 g3 | a2H24 g0 g1 g2 g3 | a2H34 g0 g1 g2 g3 | a2H44 g0 g1 g2=>
  have hi:=ins (i:=⟨1,5,0,0,((t+1:Nat):Int)⟩) rfl
  rw [movI_plain (i:=⟨1,5,0,0,((t+1:Nat):Int)⟩) rfl] at hi
  rw [hmet] at hi
  have hst:=st_set hi
  have key:=W_loc h ht eL er ej (⟨p,3,r0,r1,r2,r3,r4,me,r6,r7,0⟩:Loc) (.inl ⟨rfl,hp,by show 3 < 46;decide⟩) (IL (mem:=s.mem) (q:=s.buf) hI (by rw [←hme,hq,hgt,hnn,hbb];first | (apply At.a3H04<;>(first | assumption | rfl | (simp_all;done));done) | (apply At.a3H14<;>(first | assumption | rfl | (simp_all;done));done) | (apply At.a3H24<;>(first | assumption | rfl | (simp_all;done));done) | (apply At.a3H34<;>(first | assumption | rfl | (simp_all;done));done) | (apply At.a3H44<;>(first | assumption | rfl | (simp_all;done));done))) (by rw [hx];rfl) (by rw [hx]) (by rw [hx];rfl)
  rw [show Loc.th 46 _=_ from th_of rfl] at key
  exact⟨_,_,_,hst,key⟩
 case a3H04 g0 g1 g2 g3 | a3H14 g0 g1 g2 g3 g4 | a3H24 g0 g1 g2 g3 g4 | a3H34 g0 g1 g2 g3 g4 | a3H44 g0 g1 g2 g3=>
  have hi:=ins (i:=⟨12,6,4,5,0⟩) rfl
  rw [movI_plain (i:=⟨12,6,4,5,0⟩) rfl] at hi
  have hst:=st_same hi
  have hv:(if r4=r5 then (1:Int) else 0)=0:=by simp_all
  have key:=W_loc h ht eL er ej (⟨p,4,r0,r1,r2,r3,r4,r5,(if r4=r5 then (1:Int) else 0),r7,0⟩:Loc) (.inl ⟨rfl,hp,by show 4 < 46;decide⟩) (IL (mem:=s.mem) (q:=s.buf) hI (by rw [←hme,hq,hgt,hnn,hbb];first | (apply At.a4H04<;>(first | assumption | exact hv | (rw [hv];decide));done) | (apply At.a4H14<;>(first | assumption | exact hv | (rw [hv];decide));done) | (apply At.a4H24<;>(first | assumption | exact hv | (rw [hv];decide));done) | (apply At.a4H34<;>(first | assumption | exact hv | (rw [hv];decide));done) | (apply At.a4H44<;>(first | assumption | exact hv | (rw [hv];decide));done))) (by rw [hx];rfl) (by rw [hx]) (by rw [hx];rfl)
  rw [show Loc.th 46 _=_ from th_of rfl] at key
  exact⟨_,_,_,hst,key⟩
 case a4H04 g0 g1 g2 g3 | a4H14 g0 g1 g2 g3 g4 | a4H24 g0 g1 g2 g3 g4 | a4H34 g0 g1 g2 g3 g4 | a4H44 g0 g1 g2 g3=>
  have hi:=ins (i:=⟨14,6,0,0,7⟩) rfl
  rw [movI_jump (i:=⟨14,6,0,0,7⟩) rfl] at hi
  have hst:=st_zero hi
  by_cases hz:r6=0
  ·rw [if_pos (by exact hz)] at hst
   have key:=W_loc h ht eL er ej (⟨p,7,r0,r1,r2,r3,r4,r5,r6,r7,0⟩:Loc) (.inl ⟨rfl,hp,by show 7 < 46;decide⟩) (IL (mem:=s.mem) (q:=s.buf) hI (by rw [←hme,hq,hgt,hnn,hbb];first | (apply At.a7H04<;>(first | assumption | (simp_all;done));done) | (apply At.a7H14<;>(first | assumption | (simp_all;done));done) | (apply At.a7H24<;>(first | assumption | (simp_all;done));done) | (apply At.a7H34<;>(first | assumption | (simp_all;done));done) | (apply At.a7H44<;>(first | assumption | (simp_all;done));done))) (by rw [hx];rfl) (by rw [hx]) (by rw [hx];rfl)
   rw [show Loc.th 46 _=_ from th_jmp (by omega) (by decide) (by decide)] at key
   exact⟨_,_,_,hst,key⟩
  ·rw [if_neg (by exact hz)] at hst
   exfalso;simp_all
 case a7H04 g0 g1 g2 | a7H14 g0 g1 g2 g3 | a7H24 g0 g1 g2 g3 | a7H34 g0 g1 g2 g3 | a7H44 g0 g1 g2=>
  have hi:=ins (i:=⟨1,4,0,0,0⟩) rfl
  rw [movI_plain (i:=⟨1,4,0,0,0⟩) rfl] at hi
  have hst:=st_set hi
  have key:=W_loc h ht eL er ej (⟨p,8,r0,r1,r2,r3,(0),r5,r6,r7,0⟩:Loc) (.inl ⟨rfl,hp,by show 8 < 46;decide⟩) (IL (mem:=s.mem) (q:=s.buf) hI (by rw [←hme,hq,hgt,hnn,hbb];first | (apply At.a8H04<;>(first | assumption | rfl | (simp_all;done));done) | (apply At.a8H14<;>(first | assumption | rfl | (simp_all;done));done) | (apply At.a8H24<;>(first | assumption | rfl | (simp_all;done));done) | (apply At.a8H34<;>(first | assumption | rfl | (simp_all;done));done) | (apply At.a8H44<;>(first | assumption | rfl | (simp_all;done));done))) (by rw [hx];rfl) (by rw [hx]) (by rw [hx];rfl)
  rw [show Loc.th 46 _=_ from th_of rfl] at key
  exact⟨_,_,_,hst,key⟩
 case a8H04 g0 g1 g2 g3 | a8H14 g0 g1 g2 g3 g4 | a8H24 g0 g1 g2 g3 g4 | a8H34 g0 g1 g2 g3 g4 | a8H44 g0 g1 g2 g3=>
  have hi:=ins (i:=⟨17,4,8,0,((18+t:Nat):Int)⟩) rfl
  rw [movI_plain (i:=⟨17,4,8,0,((18+t:Nat):Int)⟩) rfl] at hi
  have hst:=st_store hi (ad:=(18+t)) (addr_abs _ _ _ _ _) (by rw [hnm];omega)
  by_cases hro:s.roomy t=true
  ·rw [if_pos hro] at hst
   have hrv:r4=0:=by assumption
   have key:=W_stored h ht eL er ej ((p*46+8:Nat):Int) (18+t) r4 (⟨p,9,r0,r1,r2,r3,r4,r5,r6,r7,0⟩:Loc) (.inl ⟨rfl,hp,by show 9 < 46;decide⟩) (⟨_,_,_,_,hI.put (q':=s.buf t++[((18+t),r4)]) (by rw [hrv,←hme,hq,hgt,hnn,hbb];first | (apply At.a9H05<;>(first | assumption | rfl | (simp_all;done));done) | (apply At.a9H15<;>(first | assumption | rfl | (simp_all;done));done) | (apply At.a9H25<;>(first | assumption | rfl | (simp_all;done));done) | (apply At.a9H35<;>(first | assumption | rfl | (simp_all;done));done) | (apply At.a9H45<;>(first | assumption | rfl | (simp_all;done));done))⟩) (by rw [hx];rfl) (by rw [hx]) (.inl ⟨by omega,by rw [hx];rfl⟩)
   rw [show Loc.th 46 _=_ from th_of rfl] at key
   exact⟨_,_,_,hst,key⟩
  ·rw [if_neg hro] at hst
   exact⟨_,f,i,hst,flush h ht⟩
 case a9H05 g0 g1 g2 | a9H15 g0 g1 g2 g3 | a9H25 g0 g1 g2 g3 | a9H35 g0 g1 g2 g3 | a9H45 g0 g1 g2 | a9H55 g0 g1 g2 g3=>
  have hi:=ins (i:=⟨1,4,0,0,1⟩) rfl
  rw [movI_plain (i:=⟨1,4,0,0,1⟩) rfl] at hi
  have hst:=st_set hi
  have key:=W_loc h ht eL er ej (⟨p,10,r0,r1,r2,r3,(1),r5,r6,r7,0⟩:Loc) (.inl ⟨rfl,hp,by show 10 < 46;decide⟩) (IL (mem:=s.mem) (q:=s.buf) hI (by rw [←hme,hq,hgt,hnn,hbb];first | (apply At.a10H05<;>(first | assumption | rfl | (simp_all;done));done) | (apply At.a10H15<;>(first | assumption | rfl | (simp_all;done));done) | (apply At.a10H25<;>(first | assumption | rfl | (simp_all;done));done) | (apply At.a10H35<;>(first | assumption | rfl | (simp_all;done));done) | (apply At.a10H45<;>(first | assumption | rfl | (simp_all;done));done) | (apply At.a10H55<;>(first | assumption | rfl | (simp_all;done));done))) (by rw [hx];rfl) (by rw [hx]) (by rw [hx];rfl)
  rw [show Loc.th 46 _=_ from th_of rfl] at key
  exact⟨_,_,_,hst,key⟩
 case a10H05 g0 g1 g2 g3 | a10H15 g0 g1 g2 g3 g4 | a10H25 g0 g1 g2 g3 g4 | a10H35 g0 g1 g2 g3 g4 | a10H45 g0 g1 g2 g3 | a10H55 g0 g1 g2 g3 g4=>
  have hi:=ins (i:=⟨17,4,8,0,((18+T+t:Nat):Int)⟩) rfl
  rw [movI_plain (i:=⟨17,4,8,0,((18+T+t:Nat):Int)⟩) rfl] at hi
  have hst:=st_store hi (ad:=(18+T+t)) (addr_abs _ _ _ _ _) (by rw [hnm];omega)
  by_cases hro:s.roomy t=true
  ·rw [if_pos hro] at hst
   have hrv:r4=1:=by assumption
   have key:=W_stored h ht eL er ej ((p*46+10:Nat):Int) (18+T+t) r4 (⟨p,11,r0,r1,r2,r3,r4,r5,r6,r7,0⟩:Loc) (.inl ⟨rfl,hp,by show 11 < 46;decide⟩) (⟨_,_,_,_,hI.put (q':=s.buf t++[((18+T+t),r4)]) (by rw [hrv,←hme,hq,hgt,hnn,hbb];first | (apply At.a11H06<;>(first | assumption | rfl | (simp_all;done));done) | (apply At.a11H16<;>(first | assumption | rfl | (simp_all;done));done) | (apply At.a11H26<;>(first | assumption | rfl | (simp_all;done));done) | (apply At.a11H36<;>(first | assumption | rfl | (simp_all;done));done) | (apply At.a11H46<;>(first | assumption | rfl | (simp_all;done));done) | (apply At.a11H56<;>(first | assumption | rfl | (simp_all;done));done))⟩) (by rw [hx];rfl) (by rw [hx]) (.inl ⟨by omega,by rw [hx];rfl⟩)
   rw [show Loc.th 46 _=_ from th_of rfl] at key
   exact⟨_,_,_,hst,key⟩
  ·rw [if_neg hro] at hst
   exact⟨_,f,i,hst,flush h ht⟩
 case a11H06 g0 g1 g2 | a11H16 g0 g1 g2 g3 | a11H26 g0 g1 g2 g3 | a11H36 g0 g1 g2 g3 | a11H46 g0 g1 g2 | a11H56 g0 g1 g2 g3 | a11H66 g0 g1 g2 g3 g4=>
  have hi:=ins (i:=⟨1,4,0,0,((t+1:Nat):Int)⟩) rfl
  rw [movI_plain (i:=⟨1,4,0,0,((t+1:Nat):Int)⟩) rfl] at hi
  rw [hmet] at hi
  have hst:=st_set hi
  have key:=W_loc h ht eL er ej (⟨p,12,r0,r1,r2,r3,me,r5,r6,r7,0⟩:Loc) (.inl ⟨rfl,hp,by show 12 < 46;decide⟩) (IL (mem:=s.mem) (q:=s.buf) hI (by rw [←hme,hq,hgt,hnn,hbb];first | (apply At.a12H06<;>(first | assumption | rfl | (simp_all;done));done) | (apply At.a12H16<;>(first | assumption | rfl | (simp_all;done));done) | (apply At.a12H26<;>(first | assumption | rfl | (simp_all;done));done) | (apply At.a12H36<;>(first | assumption | rfl | (simp_all;done));done) | (apply At.a12H46<;>(first | assumption | rfl | (simp_all;done));done) | (apply At.a12H56<;>(first | assumption | rfl | (simp_all;done));done) | (apply At.a12H66<;>(first | assumption | rfl | (simp_all;done));done))) (by rw [hx];rfl) (by rw [hx]) (by rw [hx];rfl)
  rw [show Loc.th 46 _=_ from th_of rfl] at key
  exact⟨_,_,_,hst,key⟩
 case a12H06 g0 g1 g2 g3 | a12H16 g0 g1 g2 g3 g4 | a12H26 g0 g1 g2 g3 g4 | a12H36 g0 g1 g2 g3 g4 | a12H46 g0 g1 g2 g3 | a12H56 g0 g1 g2 g3 g4=>
  have hi:=ins (i:=⟨19,4,8,0,16⟩) rfl
  rw [movI_plain (i:=⟨19,4,8,0,16⟩) rfl] at hi
  exact⟨_,f,i,st_drain hi (by show drainsI 19;decide) (fun _=>by rw [addr_abs,hnm];omega) (by rw [empty_q hq];rfl),flush h ht⟩
 case a12H66 g0 g1 g2 g3 g4 g5=>
  have hi:=ins (i:=⟨19,4,8,0,16⟩) rfl
  rw [movI_plain (i:=⟨19,4,8,0,16⟩) rfl] at hi
  have hst:=st_swap hi (ad:=16) (addr_abs _ _ _ _ _) (by rw [hnm];omega) (by rw [empty_q hq];rfl)
  have hl:s.load t 16=((tailN Q:Nat):Int):=by rw [load_q hq];exact hI.tl
  rw [hl] at hst
  have r4m:r4=me:=by assumption
  have r5m:r5=me:=by assumption
  subst r4m
  have g0:g t=0:=by rw [hgt];assumption
  have hnQ:t∉Q:=fun e=>(hI.inQ t ht).1 e g0
  have nv0:nv t=0:=by rw [hnn];assumption
  have m17:(s.mem.set 16 r4).getD 17 0=s.mem.getD 17 0:=(get_set (by omega)).trans (if_neg (by decide))
  have m0:(s.mem.set 16 r4).getD 0 0=s.mem.getD 0 0:=(get_set (by omega)).trans (if_neg (by decide))
  have m16:(s.mem.set 16 r4).getD 16 0=r4:=(get_set (by omega)).trans (if_pos rfl)
  have mw:∀ u,(s.mem.set 16 r4).getD (18+T+u) 0=s.mem.getD (18+T+u) 0:=fun u=>(get_set (by omega)).trans (if_neg (by omega))
  have mn:∀ u,(s.mem.set 16 r4).getD (18+u) 0=s.mem.getD (18+u) 0:=fun u=>(get_set (by omega)).trans (if_neg (by omega))
  have hI2:(X T R).I (s.mem.set 16 r4) (upF f t ⟨p,13,r0,r1,r2,r3,((tailN Q:Nat):Int),r5,r6,r7,0⟩) s.buf:=by
   cases Q with
   | nil=>
    refine⟨upF g t 3,pv,nv,[t],fun u hu=>?_,fun u hu=>by rw [mn];exact hI.hn u hu,fun u hu e=>?_,by simp,fun u hu=>?_,fun u hu=>by rw [List.mem_singleton.1 hu];exact ht,fun h r e=>?_,by rw [m16,hme];rfl⟩
    ·rw [m17,m0,mw]
     by_cases e:u=t
     ·subst e;rw [upF_self,upF_self,←hme,hq,hnn,hbb];apply At.a13A<;>first | assumption | rfl
     ·rw [upF_ne _ _ e,upF_ne _ _ e];exact hI.hat u hu
    ·by_cases e2:u=t
     ·subst e2;rw [upF_self] at e;omega
     ·rw [upF_ne _ _ e2] at e;exact hI.hp u hu e
    ·by_cases e2:u=t
     ·subst e2;rw [upF_self];simp
     ·rw [upF_ne _ _ e2]
      have h1:=hI.inQ u hu
      exact⟨fun h=>absurd (List.mem_singleton.1 h) e2,fun h=>absurd (h1.2 h) (by simp)⟩
    ·injection e with e1 e2
     subst e1 e2
     exact⟨upF_self ..,nv0⟩
   | cons hh rr=>
    obtain⟨hg3,hch⟩:=hI.hd hh rr rfl
    obtain⟨l,hl1,hl2⟩:=tailN_mem (Q:=hh::rr) (by simp)
    have hlT:=hI.ltQ l hl1
    refine⟨upF g t 1,upF pv t (tailN (hh::rr)),nv,hh::rr++[t],fun u hu=>?_,fun u hu=>by rw [mn];exact hI.hn u hu,fun u hu e=>?_,?_,fun u hu=>?_,fun u hu=>?_,fun h r e=>?_,by rw [m16,hme,tailN_snoc];rfl⟩
    ·rw [m17,m0,mw]
     by_cases e:u=t
     ·subst e;rw [upF_self,upF_self,upF_self,←hme,hq,hnn];apply At.a13L<;>first | assumption | rfl | (show ((tailN (hh::rr):Nat):Int)≠0;omega)
     ·rw [upF_ne _ _ e,upF_ne _ _ e,upF_ne _ _ e];exact hI.hat u hu
    ·by_cases e2:u=t
     ·subst e2;rw [upF_self];omega
     ·rw [upF_ne _ _ e2] at e;rw [upF_ne _ _ e2];exact hI.hp u hu e
    ·rw [List.nodup_append]
     refine⟨hI.nd,by simp,fun x hx y hy=>?_⟩
     rw [List.mem_singleton.1 hy]
     exact fun e=>hnQ (by rw [←e];exact hx)
    ·have h1:=hI.inQ u hu
     by_cases e2:u=t
     ·subst e2;rw [upF_self];simp
     ·rw [upF_ne _ _ e2,←h1]
      exact⟨fun h=>by
       rcases List.mem_append.1 h with h | h
       ·exact h
       ·exact absurd (List.mem_singleton.1 h) e2,fun h=>List.mem_append_left _ h⟩
    ·rcases List.mem_append.1 hu with h | h
     ·exact hI.ltQ u h
     ·rw [List.mem_singleton.1 h];exact ht
    ·have h2:=hch.snoc hnQ nv0
     injection e with e1 e2
     subst e1 e2
     refine⟨?_,h2⟩
     rw [upF_ne _ _ (fun e=>hnQ (by rw [←e];simp))];exact hg3
  have key:=W_swapped h ht eL er ej ⟨4,0,((p*46+12:Nat):Int),((16:Nat):Int),r4,((tailN Q:Nat):Int),0,true⟩ rfl 16 r4 (by decide) (⟨p,13,r0,r1,r2,r3,((tailN Q:Nat):Int),r5,r6,r7,0⟩:Loc) (.inl ⟨rfl,hp,by show 13 < 46;decide⟩) hI2 (by rw [hx];rfl) (by rw [hx]) (by rw [hx];rfl)
  rw [show Loc.th 46 _=_ from th_of rfl] at key
  exact⟨_,_,_,hst,key⟩
 case a13A g0 g1 g2 g3=>
  have hi:=ins (i:=⟨14,4,0,0,17⟩) rfl
  rw [movI_jump (i:=⟨14,4,0,0,17⟩) rfl] at hi
  have hst:=st_zero hi
  by_cases hz:r4=0
  ·rw [if_pos (by exact hz)] at hst
   have key:=W_loc h ht eL er ej (⟨p,17,r0,r1,r2,r3,r4,r5,r6,r7,0⟩:Loc) (.inl ⟨rfl,hp,by show 17 < 46;decide⟩) (IL (mem:=s.mem) (q:=s.buf) hI (by rw [←hme,hq,hgt,hnn,hbb];apply At.a17A<;>first | assumption | (simp_all;done))) (by rw [hx];rfl) (by rw [hx]) (by rw [hx];rfl)
   rw [show Loc.th 46 _=_ from th_jmp (by omega) (by decide) (by decide)] at key
   exact⟨_,_,_,hst,key⟩
  ·rw [if_neg (by exact hz)] at hst
   exfalso;simp_all
 case a13L g0 g1 g2 g3 g4 g5=>
  have hi:=ins (i:=⟨14,4,0,0,17⟩) rfl
  rw [movI_jump (i:=⟨14,4,0,0,17⟩) rfl] at hi
  have hst:=st_zero hi
  by_cases hz:r4=0
  ·rw [if_pos (by exact hz)] at hst
   exfalso;simp_all
  ·rw [if_neg (by exact hz)] at hst
   have key:=W_loc h ht eL er ej (⟨p,14,r0,r1,r2,r3,r4,r5,r6,r7,0⟩:Loc) (.inl ⟨rfl,hp,by show 14 < 46;decide⟩) (IL (mem:=s.mem) (q:=s.buf) hI (by rw [←hme,hq,hgt,hnn,hbb];apply At.a14L<;>first | assumption | (simp_all;done))) (by rw [hx];rfl) (by rw [hx]) (by rw [hx];rfl)
   rw [show Loc.th 46 _=_ from th_of rfl] at key
   exact⟨_,_,_,hst,key⟩
 case a14L g0 g1 g2 g3 g4=>
  have hi:=ins (i:=⟨17,5,4,0,17⟩) rfl
  rw [movI_plain (i:=⟨17,5,4,0,17⟩) rfl] at hi
  have hb:=hpv (by assumption)
  have r4b:r4=(b:Int):=by assumption
  subst r4b
  have hst:=st_store hi (ad:=17+b) ((addr_rel (n:=b) (m:=17) rfl rfl (by decide) (by omega) 5).trans (by omega)) (by rw [hnm];omega)
  by_cases hro:s.roomy t=true
  ·rw [if_pos hro] at hst
   have hrv:r5=me:=by assumption
   have key:=W_stored h ht eL er ej ((p*46+14:Nat):Int) (17+b) r5 (⟨p,15,r0,r1,r2,r3,(b:Int),r5,r6,r7,0⟩:Loc) (.inl ⟨rfl,hp,by show 15 < 46;decide⟩) (⟨_,_,_,_,hI.put (q':=s.buf t++[((17+b),r5)]) (by rw [hrv,←hme,hq,hgt,hnn,hbb];apply At.a15B<;>first | assumption | rfl | (simp_all;done))⟩) (by rw [hx];rfl) (by rw [hx]) (.inl ⟨by omega,by rw [hx];rfl⟩)
   rw [show Loc.th 46 _=_ from th_of rfl] at key
   exact⟨_,_,_,hst,key⟩
  ·rw [if_neg hro] at hst
   exact⟨_,f,i,hst,flush h ht⟩
 case a15A g0 g1 g2 g3 | a15N g0 g1 g2 g3=>
  have hi:=ins (i:=⟨16,6,8,0,((18+T+t:Nat):Int)⟩) rfl
  rw [movI_plain (i:=⟨16,6,8,0,((18+T+t:Nat):Int)⟩) rfl] at hi
  have hst:=st_load hi (ad:=(18+T+t)) (addr_abs _ _ _ _ _) (by rw [hnm];omega)
  have hl:s.load t (18+T+t)=(s.mem.getD (18+T+t) 0):=by rw [load_q hq];rfl
  rw [hl] at hst
  have hg:=h.noted (t:=t) ⟨1,0,((p*46+15:Nat):Int),(((18+T+t):Nat):Int),(s.mem.getD (18+T+t) 0),0,0,false⟩ (show (1:Int)≠7 by decide) (show (1:Int)≠13 by decide)
  have key:=W_loc hg ht eL er ej (⟨p,16,r0,r1,r2,r3,r4,r5,(s.mem.getD (18+T+t) 0),r7,0⟩:Loc) (.inl ⟨rfl,hp,by show 16 < 46;decide⟩) (IL (mem:=s.mem) (q:=s.buf) hI (by rw [←hme,hq,hgt,hnn,hbb];first | (apply At.a16A<;>(first | assumption | (intro e;dsimp only at e;omega));done) | (apply At.a16N<;>(first | assumption | (intro e;dsimp only at e;omega));done))) (by rw [hx];rfl) (by rw [hx]) (by rw [hx];rfl)
  rw [show Loc.th 46 _=_ from th_of rfl] at key
  exact⟨_,_,_,hst,key⟩
 case a15B g0 g1 g2 g3=>
  have hi:=ins (i:=⟨16,6,8,0,((18+T+t:Nat):Int)⟩) rfl
  rw [movI_plain (i:=⟨16,6,8,0,((18+T+t:Nat):Int)⟩) rfl] at hi
  have hst:=st_load hi (ad:=(18+T+t)) (addr_abs _ _ _ _ _) (by rw [hnm];omega)
  have hl:s.load t (18+T+t)=(s.mem.getD (18+T+t) 0):=by have hb:=hpv (by assumption);rw [load_q hq];(repeat (rw [Wd.lastQ_cons];first | rw [if_neg (by dsimp only;omega)] | rw [if_pos rfl]));rfl
  rw [hl] at hst
  have hg:=h.noted (t:=t) ⟨1,0,((p*46+15:Nat):Int),(((18+T+t):Nat):Int),(s.mem.getD (18+T+t) 0),0,0,false⟩ (show (1:Int)≠7 by decide) (show (1:Int)≠13 by decide)
  have key:=W_loc hg ht eL er ej (⟨p,16,r0,r1,r2,r3,r4,r5,(s.mem.getD (18+T+t) 0),r7,0⟩:Loc) (.inl ⟨rfl,hp,by show 16 < 46;decide⟩) (IL (mem:=s.mem) (q:=s.buf) hI (by rw [←hme,hq,hgt,hnn,hbb];apply At.a16B<;>first | assumption | (intro e;dsimp only at e;omega))) (by rw [hx];rfl) (by rw [hx]) (by rw [hx];rfl)
  rw [show Loc.th 46 _=_ from th_of rfl] at key
  exact⟨_,_,_,hst,key⟩
 case a16A g0 g1 g2 g3=>
  have hi:=ins (i:=⟨15,6,0,0,15⟩) rfl
  rw [movI_jump (i:=⟨15,6,0,0,15⟩) rfl] at hi
  have hst:=st_some hi
  by_cases hz:r6≠0
  ·rw [if_pos (by exact hz)] at hst
   have key:=W_loc h ht eL er ej (⟨p,15,r0,r1,r2,r3,r4,r5,r6,r7,0⟩:Loc) (.inl ⟨rfl,hp,by show 15 < 46;decide⟩) (IL (mem:=s.mem) (q:=s.buf) hI (by rw [←hme,hq,hgt,hnn,hbb];apply At.a15A<;>first | assumption | (simp_all;done))) (by rw [hx];rfl) (by rw [hx]) (by rw [hx];rfl)
   rw [show Loc.th 46 _=_ from th_jmp (by omega) (by decide) (by decide)] at key
   exact⟨_,_,_,hst,key⟩
  ·rw [if_neg (by exact hz)] at hst
   have key:=W_loc h ht eL er ej (⟨p,17,r0,r1,r2,r3,r4,r5,r6,r7,0⟩:Loc) (.inl ⟨rfl,hp,by show 17 < 46;decide⟩) (IL (mem:=s.mem) (q:=s.buf) hI (by rw [←hme,hq,hgt,hnn,hbb];apply At.a17A<;>first | assumption | (simp_all;done))) (by rw [hx];rfl) (by rw [hx]) (by rw [hx];rfl)
   rw [show Loc.th 46 _=_ from th_of rfl] at key
   exact⟨_,_,_,hst,key⟩
 case a16B g0 g1 g2 g3 g4 | a16N g0 g1 g2 g3 g4=>
  have hi:=ins (i:=⟨15,6,0,0,15⟩) rfl
  rw [movI_jump (i:=⟨15,6,0,0,15⟩) rfl] at hi
  have hst:=st_some hi
  by_cases hz:r6≠0
  ·rw [if_pos (by exact hz)] at hst
   have key:=W_loc h ht eL er ej (⟨p,15,r0,r1,r2,r3,r4,r5,r6,r7,0⟩:Loc) (.inl ⟨rfl,hp,by show 15 < 46;decide⟩) (IL (mem:=s.mem) (q:=s.buf) hI (by rw [←hme,hq,hgt,hnn,hbb];first | (apply At.a15B<;>(first | assumption | (simp_all;done));done) | (apply At.a15N<;>(first | assumption | (simp_all;done));done))) (by rw [hx];rfl) (by rw [hx]) (by rw [hx];rfl)
   rw [show Loc.th 46 _=_ from th_jmp (by omega) (by decide) (by decide)] at key
   exact⟨_,_,_,hst,key⟩
  ·rw [if_neg (by exact hz)] at hst
   exfalso;simp_all
 case a17A g0 g1 g2=>
  have hi:=ins (i:=⟨17,5,8,0,17⟩) rfl
  rw [movI_plain (i:=⟨17,5,8,0,17⟩) rfl] at hi
  have hst:=st_store hi (ad:=17) (addr_abs _ _ _ _ _) (by rw [hnm];omega)
  by_cases hro:s.roomy t=true
  ·rw [if_pos hro] at hst
   have hrv:r5=me:=by assumption
   have key:=W_stored h ht eL er ej ((p*46+17:Nat):Int) 17 r5 (⟨p,18,r0,r1,r2,r3,r4,r5,r6,r7,0⟩:Loc) (.inl ⟨rfl,hp,by show 18 < 46;decide⟩) (⟨_,_,_,_,hI.put (q':=s.buf t++[(17,r5)]) (by rw [hrv,←hme,hq,hgt,hnn,hbb];apply At.a18H01<;>first | assumption | rfl | (simp_all;done))⟩) (by rw [hx];rfl) (by rw [hx]) (.inl ⟨by omega,by rw [hx];rfl⟩)
   rw [show Loc.th 46 _=_ from th_of rfl] at key
   exact⟨_,_,_,hst,key⟩
  ·rw [if_neg hro] at hst
   exact⟨_,f,i,hst,flush h ht⟩
 case a18H01 g0 | a18H11 g0 g1=>
  have hi:=ins (i:=⟨1,7,0,0,0⟩) rfl
  rw [movI_plain (i:=⟨1,7,0,0,0⟩) rfl] at hi
  have hst:=st_set hi
  have key:=W_loc h ht eL er ej (⟨p,19,r0,r1,r2,r3,r4,r5,r6,(0),0⟩:Loc) (.inl ⟨rfl,hp,by show 19 < 46;decide⟩) (IL (mem:=s.mem) (q:=s.buf) hI (by rw [←hme,hq,hgt,hnn,hbb];first | (apply At.a19H01<;>(first | assumption | rfl | (simp_all;done));done) | (apply At.a19H11<;>(first | assumption | rfl | (simp_all;done));done))) (by rw [hx];rfl) (by rw [hx]) (by rw [hx];rfl)
  rw [show Loc.th 46 _=_ from th_of rfl] at key
  exact⟨_,_,_,hst,key⟩
 case a19H01 g0 g1 | a19H11 g0 g1 g2=>
  have hi:=ins (i:=⟨27,7,0,0,1⟩) rfl
  rw [movI_plain (i:=⟨27,7,0,0,1⟩) rfl] at hi
  have hmk:=st_mark hi
  have r70:r7=0:=by assumption
  subst r70
  have key:=W_enters h ht eL er ej ((p*46+19:Nat):Int) (⟨p,20,r0,r1,r2,r3,r4,r5,r6,0,0⟩:Loc) (.inl ⟨rfl,hp,by show 20 < 46;decide⟩) (IL (mem:=s.mem) (q:=s.buf) hI (by rw [←hme,hq,hgt,hnn,hbb];first | (apply At.a20H01<;>(first | assumption | rfl | (simp_all;done));done) | (apply At.a20H11<;>(first | assumption | rfl | (simp_all;done));done))) (fun u hu=>by
   by_cases e:t=u
   ·subst e;rw [er,hx];rfl
   ·exact ((hI.hat u hu).out (hI.ex ht (by rw [hgt];assumption) hu e)).2) rfl (by rw [hx]) (by rw [hx];rfl)
  rw [show Loc.th 46 _=_ from th_of rfl] at key
  exact⟨_,_,_,hmk,key⟩
 case a20H01 g0=>
  have hi:=ins (i:=⟨16,1,8,0,0⟩) rfl
  rw [movI_plain (i:=⟨16,1,8,0,0⟩) rfl] at hi
  have hst:=st_load hi (ad:=0) (addr_abs _ _ _ _ _) (by rw [hnm];omega)
  have hl:s.load t 0=(s.mem.getD 0 0):=by rw [load_q hq];(repeat (rw [Wd.lastQ_cons];first | rw [if_neg (by dsimp only;omega)] | rw [if_pos rfl]));rfl
  rw [hl] at hst
  have hg:=h.noted (t:=t) ⟨1,0,((p*46+20:Nat):Int),((0:Nat):Int),(s.mem.getD 0 0),0,0,false⟩ (show (1:Int)≠7 by decide) (show (1:Int)≠13 by decide)
  have key:=W_loc hg ht eL er ej (⟨p,21,r0,(s.mem.getD 0 0),r2,r3,r4,r5,r6,r7,0⟩:Loc) (.inl ⟨rfl,hp,by show 21 < 46;decide⟩) (IL (mem:=s.mem) (q:=s.buf) hI (by rw [←hme,hq,hgt,hnn,hbb];apply At.a21H01<;>first | assumption | rfl | omega | (intro e;dsimp only at e;omega))) (by rw [hx];rfl) (by rw [hx]) (by rw [hx];rfl)
  rw [show Loc.th 46 _=_ from th_of rfl] at key
  exact⟨_,_,_,hst,key⟩
 case a20H11 g0 g1=>
  have hi:=ins (i:=⟨16,1,8,0,0⟩) rfl
  rw [movI_plain (i:=⟨16,1,8,0,0⟩) rfl] at hi
  have hst:=st_load hi (ad:=0) (addr_abs _ _ _ _ _) (by rw [hnm];omega)
  have hl:s.load t 0=(s.mem.getD 0 0):=by rw [load_q hq];rfl
  rw [hl] at hst
  have hg:=h.noted (t:=t) ⟨1,0,((p*46+20:Nat):Int),((0:Nat):Int),(s.mem.getD 0 0),0,0,false⟩ (show (1:Int)≠7 by decide) (show (1:Int)≠13 by decide)
  have key:=W_loc hg ht eL er ej (⟨p,21,r0,(s.mem.getD 0 0),r2,r3,r4,r5,r6,r7,0⟩:Loc) (.inl ⟨rfl,hp,by show 21 < 46;decide⟩) (IL (mem:=s.mem) (q:=s.buf) hI (by rw [←hme,hq,hgt,hnn,hbb];apply At.a21H11<;>first | assumption | rfl | omega | (intro e;dsimp only at e;omega))) (by rw [hx];rfl) (by rw [hx]) (by rw [hx];rfl)
  rw [show Loc.th 46 _=_ from th_of rfl] at key
  exact⟨_,_,_,hst,key⟩
 case a21H01 g0 g1 | a21H11 g0 g1 g2=>
  have hi:=ins (i:=⟨1,2,0,0,1⟩) rfl
  rw [movI_plain (i:=⟨1,2,0,0,1⟩) rfl] at hi
  have hst:=st_set hi
  have key:=W_loc h ht eL er ej (⟨p,22,r0,r1,(1),r3,r4,r5,r6,r7,0⟩:Loc) (.inl ⟨rfl,hp,by show 22 < 46;decide⟩) (IL (mem:=s.mem) (q:=s.buf) hI (by rw [←hme,hq,hgt,hnn,hbb];first | (apply At.a22H01<;>(first | assumption | rfl | (simp_all;done));done) | (apply At.a22H11<;>(first | assumption | rfl | (simp_all;done));done))) (by rw [hx];rfl) (by rw [hx]) (by rw [hx];rfl)
  rw [show Loc.th 46 _=_ from th_of rfl] at key
  exact⟨_,_,_,hst,key⟩
 case a22H01 g0 g1 g2 | a22H11 g0 g1 g2 g3=>
  have hi:=ins (i:=⟨3,1,1,2,0⟩) rfl
  rw [movI_plain (i:=⟨3,1,1,2,0⟩) rfl] at hi
  have hst:=st_add hi
  have key:=W_loc h ht eL er ej (⟨p,23,r0,(wr32 (r1+r2)),r2,r3,r4,r5,r6,r7,0⟩:Loc) (.inl ⟨rfl,hp,by show 23 < 46;decide⟩) (IL (mem:=s.mem) (q:=s.buf) hI (by rw [←hme,hq,hgt,hnn,hbb];first | (apply At.a23H01<;>(first | assumption | rfl | (simp_all;done));done) | (apply At.a23H11<;>(first | assumption | rfl | (simp_all;done));done))) (by rw [hx];rfl) (by rw [hx]) (by rw [hx];rfl)
  rw [show Loc.th 46 _=_ from th_of rfl] at key
  exact⟨_,_,_,hst,key⟩
 case a23H01 g0 g1 | a23H11 g0 g1 g2=>
  have hi:=ins (i:=⟨17,1,8,0,0⟩) rfl
  rw [movI_plain (i:=⟨17,1,8,0,0⟩) rfl] at hi
  have hst:=st_store hi (ad:=0) (addr_abs _ _ _ _ _) (by rw [hnm];omega)
  by_cases hro:s.roomy t=true
  ·rw [if_pos hro] at hst
   have hrv:r1=(wr32 (s.mem.getD 0 0+1)):=by assumption
   have key:=W_stored h ht eL er ej ((p*46+23:Nat):Int) 0 r1 (⟨p,24,r0,r1,r2,r3,r4,r5,r6,r7,0⟩:Loc) (.inl ⟨rfl,hp,by show 24 < 46;decide⟩) (⟨_,_,_,_,hI.put (q':=s.buf t++[(0,r1)]) (by rw [hrv,←hme,hq,hgt,hnn,hbb];first | (apply At.a24H02<;>(first | assumption | rfl | (simp_all;done));done) | (apply At.a24H12<;>(first | assumption | rfl | (simp_all;done));done))⟩) (by rw [hx];rfl) (by rw [hx]) (.inr ⟨rfl,by rw [hx],rfl⟩)
   rw [show Loc.th 46 _=_ from th_of rfl] at key
   exact⟨_,_,_,hst,key⟩
  ·rw [if_neg hro] at hst
   exact⟨_,f,i,hst,flush h ht⟩
 case a24H02 g0 | a24H12 g0 g1 | a24H22 g0 g1=>
  have hi:=ins (i:=⟨27,7,0,0,2⟩) rfl
  rw [movI_plain (i:=⟨27,7,0,0,2⟩) rfl] at hi
  have hmk:=st_mark hi
  have key:=W_leaves h ht eL er ej ((p*46+24:Nat):Int) r7 (⟨p,25,r0,r1,r2,r3,r4,r5,r6,r7,0⟩:Loc) (.inl ⟨rfl,hp,by show 25 < 46;decide⟩) (IL (mem:=s.mem) (q:=s.buf) hI (by rw [←hme,hq,hgt,hnn,hbb];first | (apply At.a25H02<;>(first | assumption | rfl | (simp_all;done));done) | (apply At.a25H12<;>(first | assumption | rfl | (simp_all;done));done) | (apply At.a25H22<;>(first | assumption | rfl | (simp_all;done));done))) (by rw [hx];rfl) rfl (by rw [hx]) (by rw [hx];rfl)
  rw [show Loc.th 46 _=_ from th_of rfl] at key
  exact⟨_,_,_,hmk,key⟩
 case a25H02 g0=>
  have hi:=ins (i:=⟨16,4,8,0,17⟩) rfl
  rw [movI_plain (i:=⟨16,4,8,0,17⟩) rfl] at hi
  have hst:=st_load hi (ad:=17) (addr_abs _ _ _ _ _) (by rw [hnm];omega)
  have hl:s.load t 17=me:=by rw [load_q hq];(repeat (rw [Wd.lastQ_cons];first | rw [if_neg (by dsimp only;omega)] | rw [if_pos rfl]));rfl
  rw [hl] at hst
  have hg:=h.noted (t:=t) ⟨1,0,((p*46+25:Nat):Int),((17:Nat):Int),me,0,0,false⟩ (show (1:Int)≠7 by decide) (show (1:Int)≠13 by decide)
  have key:=W_loc hg ht eL er ej (⟨p,26,r0,r1,r2,r3,me,r5,r6,r7,0⟩:Loc) (.inl ⟨rfl,hp,by show 26 < 46;decide⟩) (IL (mem:=s.mem) (q:=s.buf) hI (by rw [←hme,hq,hgt,hnn,hbb];apply At.a26H02<;>first | assumption | rfl | omega | (intro e;dsimp only at e;omega))) (by rw [hx];rfl) (by rw [hx]) (by rw [hx];rfl)
  rw [show Loc.th 46 _=_ from th_of rfl] at key
  exact⟨_,_,_,hst,key⟩
 case a25H12 g0 g1=>
  have hi:=ins (i:=⟨16,4,8,0,17⟩) rfl
  rw [movI_plain (i:=⟨16,4,8,0,17⟩) rfl] at hi
  have hst:=st_load hi (ad:=17) (addr_abs _ _ _ _ _) (by rw [hnm];omega)
  have hl:s.load t 17=(s.mem.getD 17 0):=by rw [load_q hq];(repeat (rw [Wd.lastQ_cons];first | rw [if_neg (by dsimp only;omega)] | rw [if_pos rfl]));rfl
  rw [hl] at hst
  have hg:=h.noted (t:=t) ⟨1,0,((p*46+25:Nat):Int),((17:Nat):Int),(s.mem.getD 17 0),0,0,false⟩ (show (1:Int)≠7 by decide) (show (1:Int)≠13 by decide)
  have key:=W_loc hg ht eL er ej (⟨p,26,r0,r1,r2,r3,(s.mem.getD 17 0),r5,r6,r7,0⟩:Loc) (.inl ⟨rfl,hp,by show 26 < 46;decide⟩) (IL (mem:=s.mem) (q:=s.buf) hI (by rw [←hme,hq,hgt,hnn,hbb];apply At.a26H12<;>first | assumption | rfl | omega | (intro e;dsimp only at e;omega))) (by rw [hx];rfl) (by rw [hx]) (by rw [hx];rfl)
  rw [show Loc.th 46 _=_ from th_of rfl] at key
  exact⟨_,_,_,hst,key⟩
 case a25H22 g0 g1=>
  have hi:=ins (i:=⟨16,4,8,0,17⟩) rfl
  rw [movI_plain (i:=⟨16,4,8,0,17⟩) rfl] at hi
  have hst:=st_load hi (ad:=17) (addr_abs _ _ _ _ _) (by rw [hnm];omega)
  have hl:s.load t 17=(s.mem.getD 17 0):=by rw [load_q hq];rfl
  rw [hl] at hst
  have hg:=h.noted (t:=t) ⟨1,0,((p*46+25:Nat):Int),((17:Nat):Int),(s.mem.getD 17 0),0,0,false⟩ (show (1:Int)≠7 by decide) (show (1:Int)≠13 by decide)
  have key:=W_loc hg ht eL er ej (⟨p,26,r0,r1,r2,r3,(s.mem.getD 17 0),r5,r6,r7,0⟩:Loc) (.inl ⟨rfl,hp,by show 26 < 46;decide⟩) (IL (mem:=s.mem) (q:=s.buf) hI (by rw [←hme,hq,hgt,hnn,hbb];apply At.a26H22<;>first | assumption | rfl | omega | (intro e;dsimp only at e;omega))) (by rw [hx];rfl) (by rw [hx]) (by rw [hx];rfl)
  rw [show Loc.th 46 _=_ from th_of rfl] at key
  exact⟨_,_,_,hst,key⟩
 case a26H02 g0 g1 | a26H12 g0 g1 g2 | a26H22 g0 g1 g2=>
  have hi:=ins (i:=⟨1,5,0,0,((t+1:Nat):Int)⟩) rfl
  rw [movI_plain (i:=⟨1,5,0,0,((t+1:Nat):Int)⟩) rfl] at hi
  rw [hmet] at hi
  have hst:=st_set hi
  have key:=W_loc h ht eL er ej (⟨p,27,r0,r1,r2,r3,r4,me,r6,r7,0⟩:Loc) (.inl ⟨rfl,hp,by show 27 < 46;decide⟩) (IL (mem:=s.mem) (q:=s.buf) hI (by rw [←hme,hq,hgt,hnn,hbb];first | (apply At.a27H02<;>(first | assumption | rfl | (simp_all;done));done) | (apply At.a27H12<;>(first | assumption | rfl | (simp_all;done));done) | (apply At.a27H22<;>(first | assumption | rfl | (simp_all;done));done))) (by rw [hx];rfl) (by rw [hx]) (by rw [hx];rfl)
  rw [show Loc.th 46 _=_ from th_of rfl] at key
  exact⟨_,_,_,hst,key⟩
 case a27H02 g0 g1 g2 | a27H12 g0 g1 g2 g3 | a27H22 g0 g1 g2 g3=>
  have hi:=ins (i:=⟨12,6,4,5,0⟩) rfl
  rw [movI_plain (i:=⟨12,6,4,5,0⟩) rfl] at hi
  have hst:=st_same hi
  have hv:(if r4=r5 then (1:Int) else 0)=1:=by simp_all
  have key:=W_loc h ht eL er ej (⟨p,28,r0,r1,r2,r3,r4,r5,(if r4=r5 then (1:Int) else 0),r7,0⟩:Loc) (.inl ⟨rfl,hp,by show 28 < 46;decide⟩) (IL (mem:=s.mem) (q:=s.buf) hI (by rw [←hme,hq,hgt,hnn,hbb];first | (apply At.a28H02<;>(first | assumption | exact hv | (rw [hv];decide));done) | (apply At.a28H12<;>(first | assumption | exact hv | (rw [hv];decide));done) | (apply At.a28H22<;>(first | assumption | exact hv | (rw [hv];decide));done))) (by rw [hx];rfl) (by rw [hx]) (by rw [hx];rfl)
  rw [show Loc.th 46 _=_ from th_of rfl] at key
  exact⟨_,_,_,hst,key⟩
 case a28H02 g0 g1 g2 | a28H12 g0 g1 g2 g3 | a28H22 g0 g1 g2 g3=>
  have hi:=ins (i:=⟨15,6,0,0,31⟩) rfl
  rw [movI_jump (i:=⟨15,6,0,0,31⟩) rfl] at hi
  have hst:=st_some hi
  by_cases hz:r6≠0
  ·rw [if_pos (by exact hz)] at hst
   have key:=W_loc h ht eL er ej (⟨p,31,r0,r1,r2,r3,r4,r5,r6,r7,0⟩:Loc) (.inl ⟨rfl,hp,by show 31 < 46;decide⟩) (IL (mem:=s.mem) (q:=s.buf) hI (by rw [←hme,hq,hgt,hnn,hbb];first | (apply At.a31H02<;>(first | assumption | (simp_all;done));done) | (apply At.a31H12<;>(first | assumption | (simp_all;done));done) | (apply At.a31H22<;>(first | assumption | (simp_all;done));done))) (by rw [hx];rfl) (by rw [hx]) (by rw [hx];rfl)
   rw [show Loc.th 46 _=_ from th_jmp (by omega) (by decide) (by decide)] at key
   exact⟨_,_,_,hst,key⟩
  ·rw [if_neg (by exact hz)] at hst
   exfalso;simp_all
 case a31H02 g0 g1 | a31H12 g0 g1 g2 | a31H22 g0 g1 g2=>
  have hi:=ins (i:=⟨1,4,0,0,0⟩) rfl
  rw [movI_plain (i:=⟨1,4,0,0,0⟩) rfl] at hi
  have hst:=st_set hi
  have key:=W_loc h ht eL er ej (⟨p,32,r0,r1,r2,r3,(0),r5,r6,r7,0⟩:Loc) (.inl ⟨rfl,hp,by show 32 < 46;decide⟩) (IL (mem:=s.mem) (q:=s.buf) hI (by rw [←hme,hq,hgt,hnn,hbb];first | (apply At.a32H02<;>(first | assumption | rfl | (simp_all;done));done) | (apply At.a32H12<;>(first | assumption | rfl | (simp_all;done));done) | (apply At.a32H22<;>(first | assumption | rfl | (simp_all;done));done))) (by rw [hx];rfl) (by rw [hx]) (by rw [hx];rfl)
  rw [show Loc.th 46 _=_ from th_of rfl] at key
  exact⟨_,_,_,hst,key⟩
 case a32H02 g0 g1 g2 | a32H12 g0 g1 g2 g3 | a32H22 g0 g1 g2 g3=>
  have hi:=ins (i:=⟨17,4,8,0,17⟩) rfl
  rw [movI_plain (i:=⟨17,4,8,0,17⟩) rfl] at hi
  have hst:=st_store hi (ad:=17) (addr_abs _ _ _ _ _) (by rw [hnm];omega)
  by_cases hro:s.roomy t=true
  ·rw [if_pos hro] at hst
   have hrv:r4=0:=by assumption
   have key:=W_stored h ht eL er ej ((p*46+32:Nat):Int) 17 r4 (⟨p,33,r0,r1,r2,r3,r4,r5,r6,r7,0⟩:Loc) (.inl ⟨rfl,hp,by show 33 < 46;decide⟩) (⟨_,_,_,_,hI.put (q':=s.buf t++[(17,r4)]) (by rw [hrv,←hme,hq,hgt,hnn,hbb];first | (apply At.a33H03<;>(first | assumption | rfl | (simp_all;done));done) | (apply At.a33H13<;>(first | assumption | rfl | (simp_all;done));done) | (apply At.a33H23<;>(first | assumption | rfl | (simp_all;done));done))⟩) (by rw [hx];rfl) (by rw [hx]) (.inl ⟨by omega,by rw [hx];rfl⟩)
   rw [show Loc.th 46 _=_ from th_of rfl] at key
   exact⟨_,_,_,hst,key⟩
  ·rw [if_neg hro] at hst
   exact⟨_,f,i,hst,flush h ht⟩
 case a33H03 g0 g1 | a33H13 g0 g1 g2 | a33H23 g0 g1 g2=>
  have hi:=ins (i:=⟨16,4,8,0,((18+t:Nat):Int)⟩) rfl
  rw [movI_plain (i:=⟨16,4,8,0,((18+t:Nat):Int)⟩) rfl] at hi
  have hst:=st_load hi (ad:=(18+t)) (addr_abs _ _ _ _ _) (by rw [hnm];omega)
  have hl:s.load t (18+t)=(n:Int):=by rw [load_q hq];(repeat (rw [Wd.lastQ_cons];first | rw [if_neg (by dsimp only;omega)] | rw [if_pos rfl]));exact hnv
  rw [hl] at hst
  have hg:=h.noted (t:=t) ⟨1,0,((p*46+33:Nat):Int),(((18+t):Nat):Int),(n:Int),0,0,false⟩ (show (1:Int)≠7 by decide) (show (1:Int)≠13 by decide)
  have key:=W_loc hg ht eL er ej (⟨p,34,r0,r1,r2,r3,(n:Int),r5,r6,r7,0⟩:Loc) (.inl ⟨rfl,hp,by show 34 < 46;decide⟩) (IL (mem:=s.mem) (q:=s.buf) hI (by rw [←hme,hq,hgt,hnn,hbb];first | (apply At.a34H03<;>(first | assumption | (by_cases e:n=0;(exact .inl (by show ((n:Nat):Int)=0;omega));exact .inr ⟨rfl,e⟩));done) | (apply At.a34H13<;>(first | assumption | (by_cases e:n=0;(exact .inl (by show ((n:Nat):Int)=0;omega));exact .inr ⟨rfl,e⟩));done) | (apply At.a34H23<;>(first | assumption | (by_cases e:n=0;(exact .inl (by show ((n:Nat):Int)=0;omega));exact .inr ⟨rfl,e⟩));done))) (by rw [hx];rfl) (by rw [hx]) (by rw [hx];rfl)
  rw [show Loc.th 46 _=_ from th_of rfl] at key
  exact⟨_,_,_,hst,key⟩
 case a33H33 g0 g1 g2=>
  have hi:=ins (i:=⟨16,4,8,0,((18+t:Nat):Int)⟩) rfl
  rw [movI_plain (i:=⟨16,4,8,0,((18+t:Nat):Int)⟩) rfl] at hi
  have hst:=st_load hi (ad:=(18+t)) (addr_abs _ _ _ _ _) (by rw [hnm];omega)
  have hl:s.load t (18+t)=(n:Int):=by rw [load_q hq];exact hnv
  rw [hl] at hst
  have hg:=h.noted (t:=t) ⟨1,0,((p*46+33:Nat):Int),(((18+t):Nat):Int),(n:Int),0,0,false⟩ (show (1:Int)≠7 by decide) (show (1:Int)≠13 by decide)
  have key:=W_loc hg ht eL er ej (⟨p,34,r0,r1,r2,r3,(n:Int),r5,r6,r7,0⟩:Loc) (.inl ⟨rfl,hp,by show 34 < 46;decide⟩) (IL (mem:=s.mem) (q:=s.buf) hI (by rw [←hme,hq,hgt,hnn,hbb];apply At.a34H33<;>first | assumption | (by_cases e:n=0;(exact .inl (by show ((n:Nat):Int)=0;omega));exact .inr ⟨rfl,e⟩))) (by rw [hx];rfl) (by rw [hx]) (by rw [hx];rfl)
  rw [show Loc.th 46 _=_ from th_of rfl] at key
  exact⟨_,_,_,hst,key⟩
 case a34H03 g0 g1 g2 | a34H13 g0 g1 g2 g3 | a34H23 g0 g1 g2 g3 | a34H33 g0 g1 g2 g3=>
  have hi:=ins (i:=⟨15,4,0,0,42⟩) rfl
  rw [movI_jump (i:=⟨15,4,0,0,42⟩) rfl] at hi
  have hst:=st_some hi
  by_cases hz:r4≠0
  ·rw [if_pos (by exact hz)] at hst
   have hv:r4=(n:Int)∧n≠0:=by rcases (show r4=0∨(r4=(n:Int)∧n≠0) by assumption) with e | e;(exact absurd e (by omega));exact e
   have key:=W_loc h ht eL er ej (⟨p,42,r0,r1,r2,r3,r4,r5,r6,r7,0⟩:Loc) (.inl ⟨rfl,hp,by show 42 < 46;decide⟩) (IL (mem:=s.mem) (q:=s.buf) hI (by rw [←hme,hq,hgt,hnn,hbb];first | (apply At.a42H03<;>(first | assumption | exact hv.1 | exact hv.2);done) | (apply At.a42H13<;>(first | assumption | exact hv.1 | exact hv.2);done) | (apply At.a42H23<;>(first | assumption | exact hv.1 | exact hv.2);done) | (apply At.a42H33<;>(first | assumption | exact hv.1 | exact hv.2);done))) (by rw [hx];rfl) (by rw [hx]) (by rw [hx];rfl)
   rw [show Loc.th 46 _=_ from th_jmp (by omega) (by decide) (by decide)] at key
   exact⟨_,_,_,hst,key⟩
  ·rw [if_neg (by exact hz)] at hst
   have key:=W_loc h ht eL er ej (⟨p,35,r0,r1,r2,r3,r4,r5,r6,r7,0⟩:Loc) (.inl ⟨rfl,hp,by show 35 < 46;decide⟩) (IL (mem:=s.mem) (q:=s.buf) hI (by rw [←hme,hq,hgt,hnn,hbb];first | (apply At.a35H03<;>(first | assumption | (simp_all;done));done) | (apply At.a35H13<;>(first | assumption | (simp_all;done));done) | (apply At.a35H23<;>(first | assumption | (simp_all;done));done) | (apply At.a35H33<;>(first | assumption | (simp_all;done));done))) (by rw [hx];rfl) (by rw [hx]) (by rw [hx];rfl)
   rw [show Loc.th 46 _=_ from th_of rfl] at key
   exact⟨_,_,_,hst,key⟩
 case a35H03 g0 g1 | a35H13 g0 g1 g2 | a35H23 g0 g1 g2 | a35H33 g0 g1 g2=>
  have hi:=ins (i:=⟨2,4,5,0,0⟩) rfl
  rw [movI_plain (i:=⟨2,4,5,0,0⟩) rfl] at hi
  have hst:=st_move hi
  have key:=W_loc h ht eL er ej (⟨p,36,r0,r1,r2,r3,r5,r5,r6,r7,0⟩:Loc) (.inl ⟨rfl,hp,by show 36 < 46;decide⟩) (IL (mem:=s.mem) (q:=s.buf) hI (by rw [←hme,hq,hgt,hnn,hbb];first | (apply At.a36H03<;>(first | assumption | rfl | (simp_all;done));done) | (apply At.a36H13<;>(first | assumption | rfl | (simp_all;done));done) | (apply At.a36H23<;>(first | assumption | rfl | (simp_all;done));done) | (apply At.a36H33<;>(first | assumption | rfl | (simp_all;done));done))) (by rw [hx];rfl) (by rw [hx]) (by rw [hx];rfl)
  rw [show Loc.th 46 _=_ from th_of rfl] at key
  exact⟨_,_,_,hst,key⟩
 case a36H03 g0 g1 g2 | a36H13 g0 g1 g2 g3 | a36H23 g0 g1 g2 g3 | a36H33 g0 g1 g2 g3=>
  have hi:=ins (i:=⟨1,6,0,0,0⟩) rfl
  rw [movI_plain (i:=⟨1,6,0,0,0⟩) rfl] at hi
  have hst:=st_set hi
  have key:=W_loc h ht eL er ej (⟨p,37,r0,r1,r2,r3,r4,r5,(0),r7,0⟩:Loc) (.inl ⟨rfl,hp,by show 37 < 46;decide⟩) (IL (mem:=s.mem) (q:=s.buf) hI (by rw [←hme,hq,hgt,hnn,hbb];first | (apply At.a37H03<;>(first | assumption | rfl | (simp_all;done));done) | (apply At.a37H13<;>(first | assumption | rfl | (simp_all;done));done) | (apply At.a37H23<;>(first | assumption | rfl | (simp_all;done));done) | (apply At.a37H33<;>(first | assumption | rfl | (simp_all;done));done))) (by rw [hx];rfl) (by rw [hx]) (by rw [hx];rfl)
  rw [show Loc.th 46 _=_ from th_of rfl] at key
  exact⟨_,_,_,hst,key⟩
 case a37H03 g0 g1 g2 g3 | a37H13 g0 g1 g2 g3 g4 | a37H23 g0 g1 g2 g3 g4=>
  have hi:=ins (i:=⟨21,4,8,6,16⟩) rfl
  rw [movI_plain (i:=⟨21,4,8,6,16⟩) rfl] at hi
  exact⟨_,f,i,st_drain hi (by show drainsI 21;decide) (fun _=>by rw [addr_abs,hnm];omega) (by rw [empty_q hq];rfl),flush h ht⟩
 case a37H33 g0 g1 g2 g3 g4=>
  have hi:=ins (i:=⟨21,4,8,6,16⟩) rfl
  rw [movI_plain (i:=⟨21,4,8,6,16⟩) rfl] at hi
  have hl:s.load t 16=s.mem.getD 16 0:=by rw [load_q hq];rfl
  have hcs:=st_cas hi (ad:=16) (addr_abs _ _ _ _ _) (by rw [hnm];omega) (by rw [empty_q hq];rfl)
  rw [hl] at hcs
  have r4m:r4=me:=by assumption
  have r5m:r5=me:=by assumption
  have r60:r6=0:=by assumption
  have hgt3:g t=3:=by rw [hgt];assumption
  subst r4m
  by_cases how:s.mem.getD 16 0=r4
  ·rw [if_pos (by exact how)] at hcs
   rw [how] at hcs
   subst r60
   obtain⟨rr,hQ⟩:=hI.head ht hgt3
   have hrr:rr=[]:=by
    have h1:=hI.nd
    have h2:=hI.tl
    rw [hQ] at h1 h2
    refine tailN_head h1 ?_
    rw [how,hme] at h2
    unfold meN at h2
    omega
   subst hrr
   have m17:(s.mem.set 16 0).getD 17 0=s.mem.getD 17 0:=(get_set (by omega)).trans (if_neg (by decide))
   have m0:(s.mem.set 16 0).getD 0 0=s.mem.getD 0 0:=(get_set (by omega)).trans (if_neg (by decide))
   have m16:(s.mem.set 16 0).getD 16 0=0:=(get_set (by omega)).trans (if_pos rfl)
   have mw:∀ u,(s.mem.set 16 0).getD (18+T+u) 0=s.mem.getD (18+T+u) 0:=fun u=>(get_set (by omega)).trans (if_neg (by omega))
   have mn:∀ u,(s.mem.set 16 0).getD (18+u) 0=s.mem.getD (18+u) 0:=fun u=>(get_set (by omega)).trans (if_neg (by omega))
   have hI2:(X T R).I (s.mem.set 16 0) (upF f t ⟨p,38,r0,r1,r2,r3,r4,r5,0,r7,0⟩) s.buf:=by
    refine⟨upF g t 0,pv,nv,[],fun u hu=>?_,fun u hu=>by rw [mn];exact hI.hn u hu,fun u hu e=>?_,by simp,fun u hu=>?_,fun u hu=>(by cases hu),fun h r e=>(by cases e),by rw [m16];rfl⟩
    ·rw [m17,m0,mw]
     by_cases e:u=t
     ·subst e;rw [upF_self,upF_self,←hme,hq,hnn,hbb];apply At.a38H44<;>first | assumption | rfl | omega
     ·rw [upF_ne _ _ e,upF_ne _ _ e];exact hI.hat u hu
    ·by_cases e2:u=t
     ·subst e2;rw [upF_self] at e;omega
     ·rw [upF_ne _ _ e2] at e;exact hI.hp u hu e
    ·by_cases e2:u=t
     ·subst e2;rw [upF_self];simp
     ·rw [upF_ne _ _ e2]
      have h1:=hI.inQ u hu
      rw [hQ] at h1
      exact⟨fun h=>(by cases h),fun h=>absurd (List.mem_singleton.1 (h1.2 h)) e2⟩
   have key:=W_swapped h ht eL er ej ⟨4,0,((p*46+37:Nat):Int),((16:Nat):Int),0,r4,0,true⟩ rfl 16 0 (by decide) (⟨p,38,r0,r1,r2,r3,r4,r5,0,r7,0⟩:Loc) (.inl ⟨rfl,hp,by show 38 < 46;decide⟩) hI2 (by rw [hx];rfl) (by rw [hx]) (by rw [hx];rfl)
   rw [show Loc.th 46 _=_ from th_of rfl] at key
   exact⟨_,_,_,hcs,key⟩
  ·rw [if_neg (by exact how)] at hcs
   have hg:=h.noted (t:=t) ⟨4,0,((p*46+37:Nat):Int),((16:Nat):Int),s.mem.getD 16 0,s.mem.getD 16 0,0,false⟩ (show (4:Int)≠7 by decide) (show (4:Int)≠13 by decide)
   have key:=W_loc hg ht eL er ej (⟨p,38,r0,r1,r2,r3,(s.mem.getD 16 0),r5,r6,r7,0⟩:Loc) (.inl ⟨rfl,hp,by show 38 < 46;decide⟩) (IL (mem:=s.mem) (q:=s.buf) hI (by rw [←hme,hq,hgt,hnn,hbb];apply At.a38H33<;>first | assumption | exact how)) (by rw [hx];rfl) (by rw [hx]) (by rw [hx];rfl)
   rw [show Loc.th 46 _=_ from th_of rfl] at key
   exact⟨_,_,_,hcs,key⟩
 case a38H33 g0 g1 g2 g3=>
  have hi:=ins (i:=⟨12,6,4,5,0⟩) rfl
  rw [movI_plain (i:=⟨12,6,4,5,0⟩) rfl] at hi
  have hst:=st_same hi
  have hv:(if r4=r5 then (1:Int) else 0)=0:=by simp_all
  have key:=W_loc h ht eL er ej (⟨p,39,r0,r1,r2,r3,r4,r5,(if r4=r5 then (1:Int) else 0),r7,0⟩:Loc) (.inl ⟨rfl,hp,by show 39 < 46;decide⟩) (IL (mem:=s.mem) (q:=s.buf) hI (by rw [←hme,hq,hgt,hnn,hbb];apply At.a39H33<;>first | assumption | exact hv | (rw [hv];decide))) (by rw [hx];rfl) (by rw [hx]) (by rw [hx];rfl)
  rw [show Loc.th 46 _=_ from th_of rfl] at key
  exact⟨_,_,_,hst,key⟩
 case a38H44 g0 g1 g2 g3=>
  have hi:=ins (i:=⟨12,6,4,5,0⟩) rfl
  rw [movI_plain (i:=⟨12,6,4,5,0⟩) rfl] at hi
  have hst:=st_same hi
  have hv:(if r4=r5 then (1:Int) else 0)=1:=by simp_all
  have key:=W_loc h ht eL er ej (⟨p,39,r0,r1,r2,r3,r4,r5,(if r4=r5 then (1:Int) else 0),r7,0⟩:Loc) (.inl ⟨rfl,hp,by show 39 < 46;decide⟩) (IL (mem:=s.mem) (q:=s.buf) hI (by rw [←hme,hq,hgt,hnn,hbb];apply At.a39H44<;>first | assumption | exact hv | (rw [hv];decide))) (by rw [hx];rfl) (by rw [hx]) (by rw [hx];rfl)
  rw [show Loc.th 46 _=_ from th_of rfl] at key
  exact⟨_,_,_,hst,key⟩
 case a39H33 g0 g1 g2=>
  have hi:=ins (i:=⟨15,6,0,0,44⟩) rfl
  rw [movI_jump (i:=⟨15,6,0,0,44⟩) rfl] at hi
  have hst:=st_some hi
  by_cases hz:r6≠0
  ·rw [if_pos (by exact hz)] at hst
   exfalso;simp_all
  ·rw [if_neg (by exact hz)] at hst
   have key:=W_loc h ht eL er ej (⟨p,40,r0,r1,r2,r3,r4,r5,r6,r7,0⟩:Loc) (.inl ⟨rfl,hp,by show 40 < 46;decide⟩) (IL (mem:=s.mem) (q:=s.buf) hI (by rw [←hme,hq,hgt,hnn,hbb];apply At.a40H33<;>first | assumption | (simp_all;done))) (by rw [hx];rfl) (by rw [hx]) (by rw [hx];rfl)
   rw [show Loc.th 46 _=_ from th_of rfl] at key
   exact⟨_,_,_,hst,key⟩
 case a39H44 g0 g1 g2=>
  have hi:=ins (i:=⟨15,6,0,0,44⟩) rfl
  rw [movI_jump (i:=⟨15,6,0,0,44⟩) rfl] at hi
  have hst:=st_some hi
  by_cases hz:r6≠0
  ·rw [if_pos (by exact hz)] at hst
   have key:=W_loc h ht eL er ej (⟨p,44,r0,r1,r2,r3,r4,r5,r6,r7,0⟩:Loc) (.inl ⟨rfl,hp,by show 44 < 46;decide⟩) (IL (mem:=s.mem) (q:=s.buf) hI (by rw [←hme,hq,hgt,hnn,hbb];apply At.a44H44<;>first | assumption | (simp_all;done))) (by rw [hx];rfl) (by rw [hx]) (by rw [hx];rfl)
   rw [show Loc.th 46 _=_ from th_jmp (by omega) (by decide) (by decide)] at key
   exact⟨_,_,_,hst,key⟩
  ·rw [if_neg (by exact hz)] at hst
   exfalso;simp_all
 case a40H33 g0 g1=>
  have hi:=ins (i:=⟨16,4,8,0,((18+t:Nat):Int)⟩) rfl
  rw [movI_plain (i:=⟨16,4,8,0,((18+t:Nat):Int)⟩) rfl] at hi
  have hst:=st_load hi (ad:=(18+t)) (addr_abs _ _ _ _ _) (by rw [hnm];omega)
  have hl:s.load t (18+t)=(n:Int):=by rw [load_q hq];exact hnv
  rw [hl] at hst
  have hg:=h.noted (t:=t) ⟨1,0,((p*46+40:Nat):Int),(((18+t):Nat):Int),(n:Int),0,0,false⟩ (show (1:Int)≠7 by decide) (show (1:Int)≠13 by decide)
  have key:=W_loc hg ht eL er ej (⟨p,41,r0,r1,r2,r3,(n:Int),r5,r6,r7,0⟩:Loc) (.inl ⟨rfl,hp,by show 41 < 46;decide⟩) (IL (mem:=s.mem) (q:=s.buf) hI (by rw [←hme,hq,hgt,hnn,hbb];apply At.a41H33<;>first | assumption | (by_cases e:n=0;(exact .inl (by show ((n:Nat):Int)=0;omega));exact .inr ⟨rfl,e⟩))) (by rw [hx];rfl) (by rw [hx]) (by rw [hx];rfl)
  rw [show Loc.th 46 _=_ from th_of rfl] at key
  exact⟨_,_,_,hst,key⟩
 case a41H33 g0 g1 g2=>
  have hi:=ins (i:=⟨14,4,0,0,40⟩) rfl
  rw [movI_jump (i:=⟨14,4,0,0,40⟩) rfl] at hi
  have hst:=st_zero hi
  by_cases hz:r4=0
  ·rw [if_pos (by exact hz)] at hst
   have key:=W_loc h ht eL er ej (⟨p,40,r0,r1,r2,r3,r4,r5,r6,r7,0⟩:Loc) (.inl ⟨rfl,hp,by show 40 < 46;decide⟩) (IL (mem:=s.mem) (q:=s.buf) hI (by rw [←hme,hq,hgt,hnn,hbb];apply At.a40H33<;>first | assumption | (simp_all;done))) (by rw [hx];rfl) (by rw [hx]) (by rw [hx];rfl)
   rw [show Loc.th 46 _=_ from th_jmp (by omega) (by decide) (by decide)] at key
   exact⟨_,_,_,hst,key⟩
  ·rw [if_neg (by exact hz)] at hst
   have hv:r4=(n:Int)∧n≠0:=by rcases (show r4=0∨(r4=(n:Int)∧n≠0) by assumption) with e | e;(exact absurd e (by omega));exact e
   have key:=W_loc h ht eL er ej (⟨p,42,r0,r1,r2,r3,r4,r5,r6,r7,0⟩:Loc) (.inl ⟨rfl,hp,by show 42 < 46;decide⟩) (IL (mem:=s.mem) (q:=s.buf) hI (by rw [←hme,hq,hgt,hnn,hbb];apply At.a42H33<;>first | assumption | exact hv.1 | exact hv.2)) (by rw [hx];rfl) (by rw [hx]) (by rw [hx];rfl)
   rw [show Loc.th 46 _=_ from th_of rfl] at key
   exact⟨_,_,_,hst,key⟩
 case a42H03 g0 g1 g2 | a42H13 g0 g1 g2 g3 | a42H23 g0 g1 g2 g3 | a42H33 g0 g1 g2 g3=>
  have hi:=ins (i:=⟨1,6,0,0,0⟩) rfl
  rw [movI_plain (i:=⟨1,6,0,0,0⟩) rfl] at hi
  have hst:=st_set hi
  have key:=W_loc h ht eL er ej (⟨p,43,r0,r1,r2,r3,r4,r5,(0),r7,0⟩:Loc) (.inl ⟨rfl,hp,by show 43 < 46;decide⟩) (IL (mem:=s.mem) (q:=s.buf) hI (by rw [←hme,hq,hgt,hnn,hbb];first | (apply At.a43H03<;>(first | assumption | rfl | (simp_all;done));done) | (apply At.a43H13<;>(first | assumption | rfl | (simp_all;done));done) | (apply At.a43H23<;>(first | assumption | rfl | (simp_all;done));done) | (apply At.a43H33<;>(first | assumption | rfl | (simp_all;done));done))) (by rw [hx];rfl) (by rw [hx]) (by rw [hx];rfl)
  rw [show Loc.th 46 _=_ from th_of rfl] at key
  exact⟨_,_,_,hst,key⟩
 case a43H03 g0 g1 g2 g3 | a43H13 g0 g1 g2 g3 g4 | a43H23 g0 g1 g2 g3 g4 | a43H33 g0 g1 g2 g3 g4=>
  have hi:=ins (i:=⟨17,6,4,0,((17+T:Nat):Int)⟩) rfl
  rw [movI_plain (i:=⟨17,6,4,0,((17+T:Nat):Int)⟩) rfl] at hi
  have r4n:r4=(n:Int):=by assumption
  subst r4n
  have hnT:n≤T:=by
   obtain⟨r',hQ⟩:=hI.head ht (by rw [hgt];assumption)
   have hc:=(hI.hd t r' hQ).2
   cases r' with
   | nil=>have:nv t=0:=hc;omega
   | cons u r'=>
    have:=hI.ltQ u (by rw [hQ];simp)
    have:=hc.1.2
    omega
  have hst:=st_store hi (ad:=17+T+n) ((addr_rel (n:=n) (m:=17+T) rfl rfl (by decide) (by omega) 6).trans (by omega)) (by rw [hnm];omega)
  by_cases hro:s.roomy t=true
  ·rw [if_pos hro] at hst
   have hrv:r6=0:=by assumption
   have key:=W_stored h ht eL er ej ((p*46+43:Nat):Int) (17+T+n) r6 (⟨p,44,r0,r1,r2,r3,(n:Int),r5,r6,r7,0⟩:Loc) (.inl ⟨rfl,hp,by show 44 < 46;decide⟩) (⟨_,_,_,_,hI.put (q':=s.buf t++[((17+T+n),r6)]) (by rw [hrv,←hme,hq,hgt,hnn,hbb];first | (apply At.a44H04<;>(first | assumption | rfl | (simp_all;done));done) | (apply At.a44H14<;>(first | assumption | rfl | (simp_all;done));done) | (apply At.a44H24<;>(first | assumption | rfl | (simp_all;done));done) | (apply At.a44H34<;>(first | assumption | rfl | (simp_all;done));done))⟩) (by rw [hx];rfl) (by rw [hx]) (.inl ⟨by omega,by rw [hx];rfl⟩)
   rw [show Loc.th 46 _=_ from th_of rfl] at key
   exact⟨_,_,_,hst,key⟩
  ·rw [if_neg hro] at hst
   exact⟨_,f,i,hst,flush h ht⟩
 case a44H04 g0 g1 | a44H14 g0 g1 g2 | a44H24 g0 g1 g2 | a44H34 g0 g1 g2 | a44H44 g0 g1=>
  have hi:=ins (i:=⟨1,7,0,0,0⟩) rfl
  rw [movI_plain (i:=⟨1,7,0,0,0⟩) rfl] at hi
  have hst:=st_set hi
  have key:=W_loc h ht eL er ej (⟨p,45,r0,r1,r2,r3,r4,r5,r6,(0),0⟩:Loc) (.inl ⟨rfl,hp,by show 45 < 46;decide⟩) (IL (mem:=s.mem) (q:=s.buf) hI (by rw [←hme,hq,hgt,hnn,hbb];first | (apply At.a45H04<;>(first | assumption | rfl | (simp_all;done));done) | (apply At.a45H14<;>(first | assumption | rfl | (simp_all;done));done) | (apply At.a45H24<;>(first | assumption | rfl | (simp_all;done));done) | (apply At.a45H34<;>(first | assumption | rfl | (simp_all;done));done) | (apply At.a45H44<;>(first | assumption | rfl | (simp_all;done));done))) (by rw [hx];rfl) (by rw [hx]) (by rw [hx];rfl)
  rw [show Loc.th 46 _=_ from th_of rfl] at key
  exact⟨_,_,_,hst,key⟩
 case a45H04 g0 g1 g2 | a45H14 g0 g1 g2 g3 | a45H24 g0 g1 g2 g3 | a45H34 g0 g1 g2 g3 | a45H44 g0 g1 g2=>
  have hi:=ins (i:=⟨27,7,0,0,3⟩) rfl
  rw [movI_plain (i:=⟨27,7,0,0,3⟩) rfl] at hi
  have hmk:=st_mark hi
  have hg:=h.marked (t:=t) ⟨7,0,((p*46+45:Nat):Int),0,r7,0,3,false⟩ rfl (.inr ⟨rfl,by assumption⟩)
  have key:=W_again hg ht eL er ej (⟨p+1,0,r0,r1,r2,r3,r4,r5,r6,r7,0⟩:Loc) (by
   by_cases e:p+1 < R
   ·exact .inl ⟨rfl,e,by show 0 < 46;decide⟩
   ·exact .inr ⟨by show p+1=R;omega,rfl,.inl rfl⟩) (IL (mem:=s.mem) (q:=s.buf) hI (by rw [←hme,hq,hgt,hnn,hbb];first | (apply At.a0H04<;>(first | assumption | rfl | (simp_all;done));done) | (apply At.a0H14<;>(first | assumption | rfl | (simp_all;done));done) | (apply At.a0H24<;>(first | assumption | rfl | (simp_all;done));done) | (apply At.a0H34<;>(first | assumption | rfl | (simp_all;done));done) | (apply At.a0H44<;>(first | assumption | rfl | (simp_all;done));done))) (by rw [hx];rfl) (by rw [hx]) (by rw [hx];show 23 < 45;decide) rfl
  rw [show Loc.th 46 _=_ from th_last rfl] at key
  exact⟨_,_,_,hmk,key⟩
theorem run(hT:T≤100)(hR:R≤100)(hc:∀ t,t < T→codes[t]? = some (codeT T R t))(l:List (Nat×Nat))(h:(X T R).Inv s f i):∃ s',Ts.run codes s l=some s'∧∃ f' i',(X T R).Inv s' f' i':=
 Wd.Lk.run codes (fun t (ht:t < T)=>⟨_,hc t ht,code_len T R t hT (by omega)⟩)
  (fun s f i t h ht=>by
   obtain⟨g,pv,nv,Q,hI⟩:=h.I
   exact IL (x:={ f t with st:=2 }) hI (hI.hat t ht))
  (fun s f i t h ht h0 hp hj=>step h ht hT hR (hc t ht) h0 hp hj) (fun s f i t h ht=>flush h ht) l s f i h
end
end Go.Proofs.YtckmkaeopnnbbaaGreatDoor.As.Mcs
