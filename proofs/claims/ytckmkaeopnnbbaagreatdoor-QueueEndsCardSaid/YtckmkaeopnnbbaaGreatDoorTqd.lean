/- Plain Lean: the lock clh: one at a time. No program in sight. -/
import Derived.Test.YtckmkaeopnnbbaaGreatDoorTqc
import Derived.Test.YtckmkaeopnnbbaaGreatDoorQueP
set_option linter.unusedVariables false
set_option linter.unusedSimpArgs false
namespace Go.Proofs.YtckmkaeopnnbbaaGreatDoor.As.Clh
open Wd

def base(T t:Nat):List Ins:=[⟨27,7,0,0,0⟩,⟨16,4,8,0,17⟩,⟨1,5,0,0,((t+1:Nat):Int)⟩,⟨12,6,4,5,0⟩,⟨14,6,0,0,7⟩,⟨1,7,0,0,1⟩,⟨13,0,0,0,16⟩,⟨16,4,8,0,((19+T+t:Nat):Int)⟩,⟨1,6,0,0,1⟩,⟨17,6,4,0,18⟩,⟨19,4,8,0,16⟩,⟨17,4,8,0,((19+2*T+t:Nat):Int)⟩,⟨16,6,4,0,18⟩,⟨15,6,0,0,12⟩,⟨17,5,8,0,17⟩,⟨1,7,0,0,0⟩,⟨27,7,0,0,1⟩,⟨16,1,8,0,0⟩,⟨1,2,0,0,1⟩,⟨3,1,1,2,0⟩,⟨17,1,8,0,0⟩,⟨27,7,0,0,2⟩,⟨16,4,8,0,17⟩,⟨1,5,0,0,((t+1:Nat):Int)⟩,⟨12,6,4,5,0⟩,⟨15,6,0,0,28⟩,⟨1,7,0,0,2⟩,⟨13,0,0,0,36⟩,⟨1,4,0,0,0⟩,⟨17,4,8,0,17⟩,⟨16,4,8,0,((19+T+t:Nat):Int)⟩,⟨16,6,8,0,((19+2*T+t:Nat):Int)⟩,⟨17,6,8,0,((19+T+t:Nat):Int)⟩,⟨1,6,0,0,0⟩,⟨17,6,4,0,18⟩,⟨1,7,0,0,0⟩,⟨27,7,0,0,3⟩]
theorem base_eq(T t:Nat)(hT:T≤100)(ht:t≤100):baseR (resL (linClhIn 16 T t)) (resL (linClhOut 16 T t))=base T t:=by
 have e1:resL (linClhIn 16 T t)=[⟨16,4,8,0,17⟩,⟨1,5,0,0,((t+1:Nat):Int)⟩,⟨12,6,4,5,0⟩,⟨14,6,0,0,6⟩,⟨1,7,0,0,1⟩,⟨13,0,0,0,15⟩,⟨16,4,8,0,((19+T+t:Nat):Int)⟩,⟨1,6,0,0,1⟩,⟨17,6,4,0,18⟩,⟨19,4,8,0,16⟩,⟨17,4,8,0,((19+2*T+t:Nat):Int)⟩,⟨16,6,4,0,18⟩,⟨15,6,0,0,11⟩,⟨17,5,8,0,17⟩,⟨1,7,0,0,0⟩]:=rfl
 have e2:resL (linClhOut 16 T t)=[⟨16,4,8,0,17⟩,⟨1,5,0,0,((t+1:Nat):Int)⟩,⟨12,6,4,5,0⟩,⟨15,6,0,0,6⟩,⟨1,7,0,0,2⟩,⟨13,0,0,0,14⟩,⟨1,4,0,0,0⟩,⟨17,4,8,0,17⟩,⟨16,4,8,0,((19+T+t:Nat):Int)⟩,⟨16,6,8,0,((19+2*T+t:Nat):Int)⟩,⟨17,6,8,0,((19+T+t:Nat):Int)⟩,⟨1,6,0,0,0⟩,⟨17,6,4,0,18⟩,⟨1,7,0,0,0⟩]:=rfl
 rw [e1,e2,baseR_eq]
 simp [base,incR,movI,jumps,wr32]
def codeT(T R t:Nat):List Ins:=roundsR (resL (linClhIn 16 T t)) (resL (linClhOut 16 T t)) R []
theorem code_len(T R t:Nat)(hT:T≤100)(ht:t≤100):(codeT T R t).length=R*37:=by
 unfold codeT
 rw [roundsR_len,base_eq T t hT ht];simp [base]
theorem code_get(T R t p j:Nat)(hT:T≤100)(ht:t≤100)(hp:p < R)(hj:j < 37):(codeT T R t)[p*37+j]? = ((base T t)[j]?).map (movI (p*37)):=by
 have h:=roundsR_get (resL (linClhIn 16 T t)) (resL (linClhOut 16 T t)) R [] p j hp (by rw [base_eq T t hT ht];exact hj)
 rw [base_eq T t hT ht] at h
 have e:([]:List Ins).length+p*(base T t).length=p*37:=by rw [List.length_nil,Nat.zero_add];rfl
 rw [e] at h
 exact h
inductive At(T t:Nat)(me ow c fw:Int)(mi pi mn pd g:Nat):Nat→Int→Int→Int→Int→Int→Int→List (Nat×Int)→Prop
 | a0H06 {r1 r2 r4 r5 r6 r7:Int} (h0:g=3) (h1:mi=mn):At T t me ow c fw mi pi mn pd g 0 r1 r2 r4 r5 r6 r7 [(19+2*T+t,(pd:Int)),(17,me),(0,wr32 (c+1)),(17,0),(19+T+t,(pd:Int)),(18+mn,0)]
 | a0H16 {r1 r2 r4 r5 r6 r7:Int} (h0:g=3) (h1:mi=mn) (h2:pi=pd):At T t me ow c fw mi pi mn pd g 0 r1 r2 r4 r5 r6 r7 [(17,me),(0,wr32 (c+1)),(17,0),(19+T+t,(pd:Int)),(18+mn,0)]
 | a0H26 {r1 r2 r4 r5 r6 r7:Int} (h0:g=3) (h1:ow=me) (h2:mi=mn) (h3:pi=pd):At T t me ow c fw mi pi mn pd g 0 r1 r2 r4 r5 r6 r7 [(0,wr32 (c+1)),(17,0),(19+T+t,(pd:Int)),(18+mn,0)]
 | a0H36 {r1 r2 r4 r5 r6 r7:Int} (h0:g=3) (h1:ow=me) (h2:mi=mn) (h3:pi=pd):At T t me ow c fw mi pi mn pd g 0 r1 r2 r4 r5 r6 r7 [(17,0),(19+T+t,(pd:Int)),(18+mn,0)]
 | a0H46 {r1 r2 r4 r5 r6 r7:Int} (h0:g=3) (h1:ow=0) (h2:mi=mn) (h3:pi=pd):At T t me ow c fw mi pi mn pd g 0 r1 r2 r4 r5 r6 r7 [(19+T+t,(pd:Int)),(18+mn,0)]
 | a0H56 {r1 r2 r4 r5 r6 r7:Int} (h0:g=3) (h1:ow=0) (h2:mi=pd) (h3:pi=pd):At T t me ow c fw mi pi mn pd g 0 r1 r2 r4 r5 r6 r7 [(18+mn,0)]
 | a0H66 {r1 r2 r4 r5 r6 r7:Int} (h0:g=0) (h1:ow≠me) (h2:mi=mn):At T t me ow c fw mi pi mn pd g 0 r1 r2 r4 r5 r6 r7 []
 | a1H06 {r1 r2 r4 r5 r6 r7:Int} (h0:g=3) (h1:mi=mn):At T t me ow c fw mi pi mn pd g 1 r1 r2 r4 r5 r6 r7 [(19+2*T+t,(pd:Int)),(17,me),(0,wr32 (c+1)),(17,0),(19+T+t,(pd:Int)),(18+mn,0)]
 | a1H16 {r1 r2 r4 r5 r6 r7:Int} (h0:g=3) (h1:mi=mn) (h2:pi=pd):At T t me ow c fw mi pi mn pd g 1 r1 r2 r4 r5 r6 r7 [(17,me),(0,wr32 (c+1)),(17,0),(19+T+t,(pd:Int)),(18+mn,0)]
 | a1H26 {r1 r2 r4 r5 r6 r7:Int} (h0:g=3) (h1:ow=me) (h2:mi=mn) (h3:pi=pd):At T t me ow c fw mi pi mn pd g 1 r1 r2 r4 r5 r6 r7 [(0,wr32 (c+1)),(17,0),(19+T+t,(pd:Int)),(18+mn,0)]
 | a1H36 {r1 r2 r4 r5 r6 r7:Int} (h0:g=3) (h1:ow=me) (h2:mi=mn) (h3:pi=pd):At T t me ow c fw mi pi mn pd g 1 r1 r2 r4 r5 r6 r7 [(17,0),(19+T+t,(pd:Int)),(18+mn,0)]
 | a1H46 {r1 r2 r4 r5 r6 r7:Int} (h0:g=3) (h1:ow=0) (h2:mi=mn) (h3:pi=pd):At T t me ow c fw mi pi mn pd g 1 r1 r2 r4 r5 r6 r7 [(19+T+t,(pd:Int)),(18+mn,0)]
 | a1H56 {r1 r2 r4 r5 r6 r7:Int} (h0:g=3) (h1:ow=0) (h2:mi=pd) (h3:pi=pd):At T t me ow c fw mi pi mn pd g 1 r1 r2 r4 r5 r6 r7 [(18+mn,0)]
 | a1H66 {r1 r2 r4 r5 r6 r7:Int} (h0:g=0) (h1:ow≠me) (h2:mi=mn):At T t me ow c fw mi pi mn pd g 1 r1 r2 r4 r5 r6 r7 []
 | a2H06 {r1 r2 r4 r5 r6 r7:Int} (h0:g=3) (h1:mi=mn) (h2:r4≠me):At T t me ow c fw mi pi mn pd g 2 r1 r2 r4 r5 r6 r7 [(19+2*T+t,(pd:Int)),(17,me),(0,wr32 (c+1)),(17,0),(19+T+t,(pd:Int)),(18+mn,0)]
 | a2H16 {r1 r2 r4 r5 r6 r7:Int} (h0:g=3) (h1:mi=mn) (h2:pi=pd) (h3:r4≠me):At T t me ow c fw mi pi mn pd g 2 r1 r2 r4 r5 r6 r7 [(17,me),(0,wr32 (c+1)),(17,0),(19+T+t,(pd:Int)),(18+mn,0)]
 | a2H26 {r1 r2 r4 r5 r6 r7:Int} (h0:g=3) (h1:ow=me) (h2:mi=mn) (h3:pi=pd) (h4:r4≠me):At T t me ow c fw mi pi mn pd g 2 r1 r2 r4 r5 r6 r7 [(0,wr32 (c+1)),(17,0),(19+T+t,(pd:Int)),(18+mn,0)]
 | a2H36 {r1 r2 r4 r5 r6 r7:Int} (h0:g=3) (h1:ow=me) (h2:mi=mn) (h3:pi=pd) (h4:r4≠me):At T t me ow c fw mi pi mn pd g 2 r1 r2 r4 r5 r6 r7 [(17,0),(19+T+t,(pd:Int)),(18+mn,0)]
 | a2H46 {r1 r2 r4 r5 r6 r7:Int} (h0:g=3) (h1:ow=0) (h2:mi=mn) (h3:pi=pd) (h4:r4≠me):At T t me ow c fw mi pi mn pd g 2 r1 r2 r4 r5 r6 r7 [(19+T+t,(pd:Int)),(18+mn,0)]
 | a2H56 {r1 r2 r4 r5 r6 r7:Int} (h0:g=3) (h1:ow=0) (h2:mi=pd) (h3:pi=pd) (h4:r4≠me):At T t me ow c fw mi pi mn pd g 2 r1 r2 r4 r5 r6 r7 [(18+mn,0)]
 | a2H66 {r1 r2 r4 r5 r6 r7:Int} (h0:g=0) (h1:ow≠me) (h2:mi=mn) (h3:r4≠me):At T t me ow c fw mi pi mn pd g 2 r1 r2 r4 r5 r6 r7 []
 | a3H06 {r1 r2 r4 r5 r6 r7:Int} (h0:g=3) (h1:mi=mn) (h2:r4≠me) (h3:r5=me):At T t me ow c fw mi pi mn pd g 3 r1 r2 r4 r5 r6 r7 [(19+2*T+t,(pd:Int)),(17,me),(0,wr32 (c+1)),(17,0),(19+T+t,(pd:Int)),(18+mn,0)]
 | a3H16 {r1 r2 r4 r5 r6 r7:Int} (h0:g=3) (h1:mi=mn) (h2:pi=pd) (h3:r4≠me) (h4:r5=me):At T t me ow c fw mi pi mn pd g 3 r1 r2 r4 r5 r6 r7 [(17,me),(0,wr32 (c+1)),(17,0),(19+T+t,(pd:Int)),(18+mn,0)]
 | a3H26 {r1 r2 r4 r5 r6 r7:Int} (h0:g=3) (h1:ow=me) (h2:mi=mn) (h3:pi=pd) (h4:r4≠me) (h5:r5=me):At T t me ow c fw mi pi mn pd g 3 r1 r2 r4 r5 r6 r7 [(0,wr32 (c+1)),(17,0),(19+T+t,(pd:Int)),(18+mn,0)]
 | a3H36 {r1 r2 r4 r5 r6 r7:Int} (h0:g=3) (h1:ow=me) (h2:mi=mn) (h3:pi=pd) (h4:r4≠me) (h5:r5=me):At T t me ow c fw mi pi mn pd g 3 r1 r2 r4 r5 r6 r7 [(17,0),(19+T+t,(pd:Int)),(18+mn,0)]
 | a3H46 {r1 r2 r4 r5 r6 r7:Int} (h0:g=3) (h1:ow=0) (h2:mi=mn) (h3:pi=pd) (h4:r4≠me) (h5:r5=me):At T t me ow c fw mi pi mn pd g 3 r1 r2 r4 r5 r6 r7 [(19+T+t,(pd:Int)),(18+mn,0)]
 | a3H56 {r1 r2 r4 r5 r6 r7:Int} (h0:g=3) (h1:ow=0) (h2:mi=pd) (h3:pi=pd) (h4:r4≠me) (h5:r5=me):At T t me ow c fw mi pi mn pd g 3 r1 r2 r4 r5 r6 r7 [(18+mn,0)]
 | a3H66 {r1 r2 r4 r5 r6 r7:Int} (h0:g=0) (h1:ow≠me) (h2:mi=mn) (h3:r4≠me) (h4:r5=me):At T t me ow c fw mi pi mn pd g 3 r1 r2 r4 r5 r6 r7 []
 | a4H06 {r1 r2 r4 r5 r6 r7:Int} (h0:g=3) (h1:mi=mn) (h2:r5=me) (h3:r6=0):At T t me ow c fw mi pi mn pd g 4 r1 r2 r4 r5 r6 r7 [(19+2*T+t,(pd:Int)),(17,me),(0,wr32 (c+1)),(17,0),(19+T+t,(pd:Int)),(18+mn,0)]
 | a4H16 {r1 r2 r4 r5 r6 r7:Int} (h0:g=3) (h1:mi=mn) (h2:pi=pd) (h3:r5=me) (h4:r6=0):At T t me ow c fw mi pi mn pd g 4 r1 r2 r4 r5 r6 r7 [(17,me),(0,wr32 (c+1)),(17,0),(19+T+t,(pd:Int)),(18+mn,0)]
 | a4H26 {r1 r2 r4 r5 r6 r7:Int} (h0:g=3) (h1:ow=me) (h2:mi=mn) (h3:pi=pd) (h4:r5=me) (h5:r6=0):At T t me ow c fw mi pi mn pd g 4 r1 r2 r4 r5 r6 r7 [(0,wr32 (c+1)),(17,0),(19+T+t,(pd:Int)),(18+mn,0)]
 | a4H36 {r1 r2 r4 r5 r6 r7:Int} (h0:g=3) (h1:ow=me) (h2:mi=mn) (h3:pi=pd) (h4:r5=me) (h5:r6=0):At T t me ow c fw mi pi mn pd g 4 r1 r2 r4 r5 r6 r7 [(17,0),(19+T+t,(pd:Int)),(18+mn,0)]
 | a4H46 {r1 r2 r4 r5 r6 r7:Int} (h0:g=3) (h1:ow=0) (h2:mi=mn) (h3:pi=pd) (h4:r5=me) (h5:r6=0):At T t me ow c fw mi pi mn pd g 4 r1 r2 r4 r5 r6 r7 [(19+T+t,(pd:Int)),(18+mn,0)]
 | a4H56 {r1 r2 r4 r5 r6 r7:Int} (h0:g=3) (h1:ow=0) (h2:mi=pd) (h3:pi=pd) (h4:r5=me) (h5:r6=0):At T t me ow c fw mi pi mn pd g 4 r1 r2 r4 r5 r6 r7 [(18+mn,0)]
 | a4H66 {r1 r2 r4 r5 r6 r7:Int} (h0:g=0) (h1:ow≠me) (h2:mi=mn) (h3:r5=me) (h4:r6=0):At T t me ow c fw mi pi mn pd g 4 r1 r2 r4 r5 r6 r7 []
 | a7H06 {r1 r2 r4 r5 r6 r7:Int} (h0:g=3) (h1:mi=mn) (h2:r5=me):At T t me ow c fw mi pi mn pd g 7 r1 r2 r4 r5 r6 r7 [(19+2*T+t,(pd:Int)),(17,me),(0,wr32 (c+1)),(17,0),(19+T+t,(pd:Int)),(18+mn,0)]
 | a7H16 {r1 r2 r4 r5 r6 r7:Int} (h0:g=3) (h1:mi=mn) (h2:pi=pd) (h3:r5=me):At T t me ow c fw mi pi mn pd g 7 r1 r2 r4 r5 r6 r7 [(17,me),(0,wr32 (c+1)),(17,0),(19+T+t,(pd:Int)),(18+mn,0)]
 | a7H26 {r1 r2 r4 r5 r6 r7:Int} (h0:g=3) (h1:ow=me) (h2:mi=mn) (h3:pi=pd) (h4:r5=me):At T t me ow c fw mi pi mn pd g 7 r1 r2 r4 r5 r6 r7 [(0,wr32 (c+1)),(17,0),(19+T+t,(pd:Int)),(18+mn,0)]
 | a7H36 {r1 r2 r4 r5 r6 r7:Int} (h0:g=3) (h1:ow=me) (h2:mi=mn) (h3:pi=pd) (h4:r5=me):At T t me ow c fw mi pi mn pd g 7 r1 r2 r4 r5 r6 r7 [(17,0),(19+T+t,(pd:Int)),(18+mn,0)]
 | a7H46 {r1 r2 r4 r5 r6 r7:Int} (h0:g=3) (h1:ow=0) (h2:mi=mn) (h3:pi=pd) (h4:r5=me):At T t me ow c fw mi pi mn pd g 7 r1 r2 r4 r5 r6 r7 [(19+T+t,(pd:Int)),(18+mn,0)]
 | a7H56 {r1 r2 r4 r5 r6 r7:Int} (h0:g=3) (h1:ow=0) (h2:mi=pd) (h3:pi=pd) (h4:r5=me):At T t me ow c fw mi pi mn pd g 7 r1 r2 r4 r5 r6 r7 [(18+mn,0)]
 | a7H66 {r1 r2 r4 r5 r6 r7:Int} (h0:g=0) (h1:ow≠me) (h2:mi=mn) (h3:r5=me):At T t me ow c fw mi pi mn pd g 7 r1 r2 r4 r5 r6 r7 []
 | a8H06 {r1 r2 r4 r5 r6 r7:Int} (h0:g=3) (h1:mi=mn) (h2:r5=me) (h3:r4=(pd:Int)):At T t me ow c fw mi pi mn pd g 8 r1 r2 r4 r5 r6 r7 [(19+2*T+t,(pd:Int)),(17,me),(0,wr32 (c+1)),(17,0),(19+T+t,(pd:Int)),(18+mn,0)]
 | a8H16 {r1 r2 r4 r5 r6 r7:Int} (h0:g=3) (h1:mi=mn) (h2:pi=pd) (h3:r5=me) (h4:r4=(pd:Int)):At T t me ow c fw mi pi mn pd g 8 r1 r2 r4 r5 r6 r7 [(17,me),(0,wr32 (c+1)),(17,0),(19+T+t,(pd:Int)),(18+mn,0)]
 | a8H26 {r1 r2 r4 r5 r6 r7:Int} (h0:g=3) (h1:ow=me) (h2:mi=mn) (h3:pi=pd) (h4:r5=me) (h5:r4=(pd:Int)):At T t me ow c fw mi pi mn pd g 8 r1 r2 r4 r5 r6 r7 [(0,wr32 (c+1)),(17,0),(19+T+t,(pd:Int)),(18+mn,0)]
 | a8H36 {r1 r2 r4 r5 r6 r7:Int} (h0:g=3) (h1:ow=me) (h2:mi=mn) (h3:pi=pd) (h4:r5=me) (h5:r4=(pd:Int)):At T t me ow c fw mi pi mn pd g 8 r1 r2 r4 r5 r6 r7 [(17,0),(19+T+t,(pd:Int)),(18+mn,0)]
 | a8H46 {r1 r2 r4 r5 r6 r7:Int} (h0:g=3) (h1:ow=0) (h2:mi=mn) (h3:pi=pd) (h4:r5=me) (h5:r4=(pd:Int)):At T t me ow c fw mi pi mn pd g 8 r1 r2 r4 r5 r6 r7 [(19+T+t,(pd:Int)),(18+mn,0)]
 | a8H56 {r1 r2 r4 r5 r6 r7:Int} (h0:g=3) (h1:ow=0) (h2:mi=pd) (h3:pi=pd) (h4:r5=me) (h5:r4=(pd:Int)):At T t me ow c fw mi pi mn pd g 8 r1 r2 r4 r5 r6 r7 [(18+mn,0)]
 | a8H66 {r1 r2 r4 r5 r6 r7:Int} (h0:g=0) (h1:ow≠me) (h2:mi=mn) (h3:r5=me) (h4:r4=(mn:Int)):At T t me ow c fw mi pi mn pd g 8 r1 r2 r4 r5 r6 r7 []
 | a9H06 {r1 r2 r4 r5 r6 r7:Int} (h0:g=3) (h1:mi=mn) (h2:r5=me) (h3:r6=1) (h4:r4=(pd:Int)):At T t me ow c fw mi pi mn pd g 9 r1 r2 r4 r5 r6 r7 [(19+2*T+t,(pd:Int)),(17,me),(0,wr32 (c+1)),(17,0),(19+T+t,(pd:Int)),(18+mn,0)]
 | a9H16 {r1 r2 r4 r5 r6 r7:Int} (h0:g=3) (h1:mi=mn) (h2:pi=pd) (h3:r5=me) (h4:r6=1) (h5:r4=(pd:Int)):At T t me ow c fw mi pi mn pd g 9 r1 r2 r4 r5 r6 r7 [(17,me),(0,wr32 (c+1)),(17,0),(19+T+t,(pd:Int)),(18+mn,0)]
 | a9H26 {r1 r2 r4 r5 r6 r7:Int} (h0:g=3) (h1:ow=me) (h2:mi=mn) (h3:pi=pd) (h4:r5=me) (h5:r6=1) (h6:r4=(pd:Int)):At T t me ow c fw mi pi mn pd g 9 r1 r2 r4 r5 r6 r7 [(0,wr32 (c+1)),(17,0),(19+T+t,(pd:Int)),(18+mn,0)]
 | a9H36 {r1 r2 r4 r5 r6 r7:Int} (h0:g=3) (h1:ow=me) (h2:mi=mn) (h3:pi=pd) (h4:r5=me) (h5:r6=1) (h6:r4=(pd:Int)):At T t me ow c fw mi pi mn pd g 9 r1 r2 r4 r5 r6 r7 [(17,0),(19+T+t,(pd:Int)),(18+mn,0)]
 | a9H46 {r1 r2 r4 r5 r6 r7:Int} (h0:g=3) (h1:ow=0) (h2:mi=mn) (h3:pi=pd) (h4:r5=me) (h5:r6=1) (h6:r4=(pd:Int)):At T t me ow c fw mi pi mn pd g 9 r1 r2 r4 r5 r6 r7 [(19+T+t,(pd:Int)),(18+mn,0)]
 | a9H56 {r1 r2 r4 r5 r6 r7:Int} (h0:g=3) (h1:ow=0) (h2:mi=pd) (h3:pi=pd) (h4:r5=me) (h5:r6=1) (h6:r4=(pd:Int)):At T t me ow c fw mi pi mn pd g 9 r1 r2 r4 r5 r6 r7 [(18+mn,0)]
 | a9H66 {r1 r2 r4 r5 r6 r7:Int} (h0:g=0) (h1:ow≠me) (h2:mi=mn) (h3:r5=me) (h4:r6=1) (h5:r4=(mn:Int)):At T t me ow c fw mi pi mn pd g 9 r1 r2 r4 r5 r6 r7 []
 | a10H07 {r1 r2 r4 r5 r6 r7:Int} (h0:g=3) (h1:mi=mn) (h2:r5=me) (h3:r4=(pd:Int)):At T t me ow c fw mi pi mn pd g 10 r1 r2 r4 r5 r6 r7 [(19+2*T+t,(pd:Int)),(17,me),(0,wr32 (c+1)),(17,0),(19+T+t,(pd:Int)),(18+mn,0),(18+pd,1)]
 | a10H17 {r1 r2 r4 r5 r6 r7:Int} (h0:g=3) (h1:mi=mn) (h2:pi=pd) (h3:r5=me) (h4:r4=(pd:Int)):At T t me ow c fw mi pi mn pd g 10 r1 r2 r4 r5 r6 r7 [(17,me),(0,wr32 (c+1)),(17,0),(19+T+t,(pd:Int)),(18+mn,0),(18+pd,1)]
 | a10H27 {r1 r2 r4 r5 r6 r7:Int} (h0:g=3) (h1:ow=me) (h2:mi=mn) (h3:pi=pd) (h4:r5=me) (h5:r4=(pd:Int)):At T t me ow c fw mi pi mn pd g 10 r1 r2 r4 r5 r6 r7 [(0,wr32 (c+1)),(17,0),(19+T+t,(pd:Int)),(18+mn,0),(18+pd,1)]
 | a10H37 {r1 r2 r4 r5 r6 r7:Int} (h0:g=3) (h1:ow=me) (h2:mi=mn) (h3:pi=pd) (h4:r5=me) (h5:r4=(pd:Int)):At T t me ow c fw mi pi mn pd g 10 r1 r2 r4 r5 r6 r7 [(17,0),(19+T+t,(pd:Int)),(18+mn,0),(18+pd,1)]
 | a10H47 {r1 r2 r4 r5 r6 r7:Int} (h0:g=3) (h1:ow=0) (h2:mi=mn) (h3:pi=pd) (h4:r5=me) (h5:r4=(pd:Int)):At T t me ow c fw mi pi mn pd g 10 r1 r2 r4 r5 r6 r7 [(19+T+t,(pd:Int)),(18+mn,0),(18+pd,1)]
 | a10H57 {r1 r2 r4 r5 r6 r7:Int} (h0:g=3) (h1:ow=0) (h2:mi=pd) (h3:pi=pd) (h4:r5=me) (h5:r4=(pd:Int)):At T t me ow c fw mi pi mn pd g 10 r1 r2 r4 r5 r6 r7 [(18+mn,0),(18+pd,1)]
 | a10H67 {r1 r2 r4 r5 r6 r7:Int} (h0:g=0) (h1:ow≠me) (h2:mi=mn) (h3:r5=me) (h4:r4=(mn:Int)):At T t me ow c fw mi pi mn pd g 10 r1 r2 r4 r5 r6 r7 [(18+mn,1)]
 | a10H77 {r1 r2 r4 r5 r6 r7:Int} (h0:g=0) (h1:ow≠me) (h2:mi=mn) (h3:fw=1) (h4:r5=me) (h5:r4=(mn:Int)):At T t me ow c fw mi pi mn pd g 10 r1 r2 r4 r5 r6 r7 []
 | a11A {r1 r2 r4 r5 r6 r7:Int} (h0:g=3) (h1:mi=mn) (h2:r5=me) (h3:r4=(pd:Int)):At T t me ow c fw mi pi mn pd g 11 r1 r2 r4 r5 r6 r7 []
 | a11L {r1 r2 r4 r5 r6 r7:Int} (h0:g=1) (h1:ow≠me) (h2:mi=mn) (h3:r5=me) (h4:r4=(pd:Int)):At T t me ow c fw mi pi mn pd g 11 r1 r2 r4 r5 r6 r7 []
 | a12B {r1 r2 r4 r5 r6 r7:Int} (h0:g=1) (h1:ow≠me) (h2:mi=mn) (h3:r5=me) (h4:r4=(pd:Int)):At T t me ow c fw mi pi mn pd g 12 r1 r2 r4 r5 r6 r7 [(19+2*T+t,(pd:Int))]
 | a12H01 {r1 r2 r4 r5 r6 r7:Int} (h0:g=3) (h1:mi=mn) (h2:r5=me) (h3:r4=(pd:Int)):At T t me ow c fw mi pi mn pd g 12 r1 r2 r4 r5 r6 r7 [(19+2*T+t,(pd:Int))]
 | a12H11 {r1 r2 r4 r5 r6 r7:Int} (h0:g=3) (h1:mi=mn) (h2:pi=pd) (h3:r5=me) (h4:r4=(pd:Int)):At T t me ow c fw mi pi mn pd g 12 r1 r2 r4 r5 r6 r7 []
 | a12N {r1 r2 r4 r5 r6 r7:Int} (h0:g=1) (h1:ow≠me) (h2:mi=mn) (h3:pi=pd) (h4:r5=me) (h5:r4=(pd:Int)):At T t me ow c fw mi pi mn pd g 12 r1 r2 r4 r5 r6 r7 []
 | a13B {r1 r2 r4 r5 r6 r7:Int} (h0:g=1) (h1:ow≠me) (h2:mi=mn) (h3:r5=me) (h4:r4=(pd:Int)) (h5:r6≠0):At T t me ow c fw mi pi mn pd g 13 r1 r2 r4 r5 r6 r7 [(19+2*T+t,(pd:Int))]
 | a13H01 {r1 r2 r4 r5 r6 r7:Int} (h0:g=3) (h1:mi=mn) (h2:r5=me) (h3:r4=(pd:Int)):At T t me ow c fw mi pi mn pd g 13 r1 r2 r4 r5 r6 r7 [(19+2*T+t,(pd:Int))]
 | a13H11 {r1 r2 r4 r5 r6 r7:Int} (h0:g=3) (h1:mi=mn) (h2:pi=pd) (h3:r5=me) (h4:r4=(pd:Int)):At T t me ow c fw mi pi mn pd g 13 r1 r2 r4 r5 r6 r7 []
 | a13N {r1 r2 r4 r5 r6 r7:Int} (h0:g=1) (h1:ow≠me) (h2:mi=mn) (h3:pi=pd) (h4:r5=me) (h5:r4=(pd:Int)) (h6:r6≠0):At T t me ow c fw mi pi mn pd g 13 r1 r2 r4 r5 r6 r7 []
 | a14H01 {r1 r2 r4 r5 r6 r7:Int} (h0:g=3) (h1:mi=mn) (h2:r5=me):At T t me ow c fw mi pi mn pd g 14 r1 r2 r4 r5 r6 r7 [(19+2*T+t,(pd:Int))]
 | a14H11 {r1 r2 r4 r5 r6 r7:Int} (h0:g=3) (h1:mi=mn) (h2:pi=pd) (h3:r5=me):At T t me ow c fw mi pi mn pd g 14 r1 r2 r4 r5 r6 r7 []
 | a15H02 {r1 r2 r4 r5 r6 r7:Int} (h0:g=3) (h1:mi=mn):At T t me ow c fw mi pi mn pd g 15 r1 r2 r4 r5 r6 r7 [(19+2*T+t,(pd:Int)),(17,me)]
 | a15H12 {r1 r2 r4 r5 r6 r7:Int} (h0:g=3) (h1:mi=mn) (h2:pi=pd):At T t me ow c fw mi pi mn pd g 15 r1 r2 r4 r5 r6 r7 [(17,me)]
 | a15H22 {r1 r2 r4 r5 r6 r7:Int} (h0:g=3) (h1:ow=me) (h2:mi=mn) (h3:pi=pd):At T t me ow c fw mi pi mn pd g 15 r1 r2 r4 r5 r6 r7 []
 | a16H02 {r1 r2 r4 r5 r6 r7:Int} (h0:g=3) (h1:mi=mn) (h2:r7=0):At T t me ow c fw mi pi mn pd g 16 r1 r2 r4 r5 r6 r7 [(19+2*T+t,(pd:Int)),(17,me)]
 | a16H12 {r1 r2 r4 r5 r6 r7:Int} (h0:g=3) (h1:mi=mn) (h2:pi=pd) (h3:r7=0):At T t me ow c fw mi pi mn pd g 16 r1 r2 r4 r5 r6 r7 [(17,me)]
 | a16H22 {r1 r2 r4 r5 r6 r7:Int} (h0:g=3) (h1:ow=me) (h2:mi=mn) (h3:pi=pd) (h4:r7=0):At T t me ow c fw mi pi mn pd g 16 r1 r2 r4 r5 r6 r7 []
 | a17H02 {r1 r2 r4 r5 r6 r7:Int} (h0:g=3) (h1:mi=mn):At T t me ow c fw mi pi mn pd g 17 r1 r2 r4 r5 r6 r7 [(19+2*T+t,(pd:Int)),(17,me)]
 | a17H12 {r1 r2 r4 r5 r6 r7:Int} (h0:g=3) (h1:mi=mn) (h2:pi=pd):At T t me ow c fw mi pi mn pd g 17 r1 r2 r4 r5 r6 r7 [(17,me)]
 | a17H22 {r1 r2 r4 r5 r6 r7:Int} (h0:g=3) (h1:ow=me) (h2:mi=mn) (h3:pi=pd):At T t me ow c fw mi pi mn pd g 17 r1 r2 r4 r5 r6 r7 []
 | a18H02 {r1 r2 r4 r5 r6 r7:Int} (h0:g=3) (h1:mi=mn) (h2:r1=c):At T t me ow c fw mi pi mn pd g 18 r1 r2 r4 r5 r6 r7 [(19+2*T+t,(pd:Int)),(17,me)]
 | a18H12 {r1 r2 r4 r5 r6 r7:Int} (h0:g=3) (h1:mi=mn) (h2:pi=pd) (h3:r1=c):At T t me ow c fw mi pi mn pd g 18 r1 r2 r4 r5 r6 r7 [(17,me)]
 | a18H22 {r1 r2 r4 r5 r6 r7:Int} (h0:g=3) (h1:ow=me) (h2:mi=mn) (h3:pi=pd) (h4:r1=c):At T t me ow c fw mi pi mn pd g 18 r1 r2 r4 r5 r6 r7 []
 | a19H02 {r1 r2 r4 r5 r6 r7:Int} (h0:g=3) (h1:mi=mn) (h2:r1=c) (h3:r2=1):At T t me ow c fw mi pi mn pd g 19 r1 r2 r4 r5 r6 r7 [(19+2*T+t,(pd:Int)),(17,me)]
 | a19H12 {r1 r2 r4 r5 r6 r7:Int} (h0:g=3) (h1:mi=mn) (h2:pi=pd) (h3:r1=c) (h4:r2=1):At T t me ow c fw mi pi mn pd g 19 r1 r2 r4 r5 r6 r7 [(17,me)]
 | a19H22 {r1 r2 r4 r5 r6 r7:Int} (h0:g=3) (h1:ow=me) (h2:mi=mn) (h3:pi=pd) (h4:r1=c) (h5:r2=1):At T t me ow c fw mi pi mn pd g 19 r1 r2 r4 r5 r6 r7 []
 | a20H02 {r1 r2 r4 r5 r6 r7:Int} (h0:g=3) (h1:mi=mn) (h2:r1=wr32 (c+1)):At T t me ow c fw mi pi mn pd g 20 r1 r2 r4 r5 r6 r7 [(19+2*T+t,(pd:Int)),(17,me)]
 | a20H12 {r1 r2 r4 r5 r6 r7:Int} (h0:g=3) (h1:mi=mn) (h2:pi=pd) (h3:r1=wr32 (c+1)):At T t me ow c fw mi pi mn pd g 20 r1 r2 r4 r5 r6 r7 [(17,me)]
 | a20H22 {r1 r2 r4 r5 r6 r7:Int} (h0:g=3) (h1:ow=me) (h2:mi=mn) (h3:pi=pd) (h4:r1=wr32 (c+1)):At T t me ow c fw mi pi mn pd g 20 r1 r2 r4 r5 r6 r7 []
 | a21H03 {r1 r2 r4 r5 r6 r7:Int} (h0:g=3) (h1:mi=mn):At T t me ow c fw mi pi mn pd g 21 r1 r2 r4 r5 r6 r7 [(19+2*T+t,(pd:Int)),(17,me),(0,wr32 (c+1))]
 | a21H13 {r1 r2 r4 r5 r6 r7:Int} (h0:g=3) (h1:mi=mn) (h2:pi=pd):At T t me ow c fw mi pi mn pd g 21 r1 r2 r4 r5 r6 r7 [(17,me),(0,wr32 (c+1))]
 | a21H23 {r1 r2 r4 r5 r6 r7:Int} (h0:g=3) (h1:ow=me) (h2:mi=mn) (h3:pi=pd):At T t me ow c fw mi pi mn pd g 21 r1 r2 r4 r5 r6 r7 [(0,wr32 (c+1))]
 | a21H33 {r1 r2 r4 r5 r6 r7:Int} (h0:g=3) (h1:ow=me) (h2:mi=mn) (h3:pi=pd):At T t me ow c fw mi pi mn pd g 21 r1 r2 r4 r5 r6 r7 []
 | a22H03 {r1 r2 r4 r5 r6 r7:Int} (h0:g=3) (h1:mi=mn):At T t me ow c fw mi pi mn pd g 22 r1 r2 r4 r5 r6 r7 [(19+2*T+t,(pd:Int)),(17,me),(0,wr32 (c+1))]
 | a22H13 {r1 r2 r4 r5 r6 r7:Int} (h0:g=3) (h1:mi=mn) (h2:pi=pd):At T t me ow c fw mi pi mn pd g 22 r1 r2 r4 r5 r6 r7 [(17,me),(0,wr32 (c+1))]
 | a22H23 {r1 r2 r4 r5 r6 r7:Int} (h0:g=3) (h1:ow=me) (h2:mi=mn) (h3:pi=pd):At T t me ow c fw mi pi mn pd g 22 r1 r2 r4 r5 r6 r7 [(0,wr32 (c+1))]
 | a22H33 {r1 r2 r4 r5 r6 r7:Int} (h0:g=3) (h1:ow=me) (h2:mi=mn) (h3:pi=pd):At T t me ow c fw mi pi mn pd g 22 r1 r2 r4 r5 r6 r7 []
 | a23H03 {r1 r2 r4 r5 r6 r7:Int} (h0:g=3) (h1:mi=mn) (h2:r4=me):At T t me ow c fw mi pi mn pd g 23 r1 r2 r4 r5 r6 r7 [(19+2*T+t,(pd:Int)),(17,me),(0,wr32 (c+1))]
 | a23H13 {r1 r2 r4 r5 r6 r7:Int} (h0:g=3) (h1:mi=mn) (h2:pi=pd) (h3:r4=me):At T t me ow c fw mi pi mn pd g 23 r1 r2 r4 r5 r6 r7 [(17,me),(0,wr32 (c+1))]
 | a23H23 {r1 r2 r4 r5 r6 r7:Int} (h0:g=3) (h1:ow=me) (h2:mi=mn) (h3:pi=pd) (h4:r4=me):At T t me ow c fw mi pi mn pd g 23 r1 r2 r4 r5 r6 r7 [(0,wr32 (c+1))]
 | a23H33 {r1 r2 r4 r5 r6 r7:Int} (h0:g=3) (h1:ow=me) (h2:mi=mn) (h3:pi=pd) (h4:r4=me):At T t me ow c fw mi pi mn pd g 23 r1 r2 r4 r5 r6 r7 []
 | a24H03 {r1 r2 r4 r5 r6 r7:Int} (h0:g=3) (h1:mi=mn) (h2:r4=me) (h3:r5=me):At T t me ow c fw mi pi mn pd g 24 r1 r2 r4 r5 r6 r7 [(19+2*T+t,(pd:Int)),(17,me),(0,wr32 (c+1))]
 | a24H13 {r1 r2 r4 r5 r6 r7:Int} (h0:g=3) (h1:mi=mn) (h2:pi=pd) (h3:r4=me) (h4:r5=me):At T t me ow c fw mi pi mn pd g 24 r1 r2 r4 r5 r6 r7 [(17,me),(0,wr32 (c+1))]
 | a24H23 {r1 r2 r4 r5 r6 r7:Int} (h0:g=3) (h1:ow=me) (h2:mi=mn) (h3:pi=pd) (h4:r4=me) (h5:r5=me):At T t me ow c fw mi pi mn pd g 24 r1 r2 r4 r5 r6 r7 [(0,wr32 (c+1))]
 | a24H33 {r1 r2 r4 r5 r6 r7:Int} (h0:g=3) (h1:ow=me) (h2:mi=mn) (h3:pi=pd) (h4:r4=me) (h5:r5=me):At T t me ow c fw mi pi mn pd g 24 r1 r2 r4 r5 r6 r7 []
 | a25H03 {r1 r2 r4 r5 r6 r7:Int} (h0:g=3) (h1:mi=mn) (h2:r6=1):At T t me ow c fw mi pi mn pd g 25 r1 r2 r4 r5 r6 r7 [(19+2*T+t,(pd:Int)),(17,me),(0,wr32 (c+1))]
 | a25H13 {r1 r2 r4 r5 r6 r7:Int} (h0:g=3) (h1:mi=mn) (h2:pi=pd) (h3:r6=1):At T t me ow c fw mi pi mn pd g 25 r1 r2 r4 r5 r6 r7 [(17,me),(0,wr32 (c+1))]
 | a25H23 {r1 r2 r4 r5 r6 r7:Int} (h0:g=3) (h1:ow=me) (h2:mi=mn) (h3:pi=pd) (h4:r6=1):At T t me ow c fw mi pi mn pd g 25 r1 r2 r4 r5 r6 r7 [(0,wr32 (c+1))]
 | a25H33 {r1 r2 r4 r5 r6 r7:Int} (h0:g=3) (h1:ow=me) (h2:mi=mn) (h3:pi=pd) (h4:r6=1):At T t me ow c fw mi pi mn pd g 25 r1 r2 r4 r5 r6 r7 []
 | a28H03 {r1 r2 r4 r5 r6 r7:Int} (h0:g=3) (h1:mi=mn):At T t me ow c fw mi pi mn pd g 28 r1 r2 r4 r5 r6 r7 [(19+2*T+t,(pd:Int)),(17,me),(0,wr32 (c+1))]
 | a28H13 {r1 r2 r4 r5 r6 r7:Int} (h0:g=3) (h1:mi=mn) (h2:pi=pd):At T t me ow c fw mi pi mn pd g 28 r1 r2 r4 r5 r6 r7 [(17,me),(0,wr32 (c+1))]
 | a28H23 {r1 r2 r4 r5 r6 r7:Int} (h0:g=3) (h1:ow=me) (h2:mi=mn) (h3:pi=pd):At T t me ow c fw mi pi mn pd g 28 r1 r2 r4 r5 r6 r7 [(0,wr32 (c+1))]
 | a28H33 {r1 r2 r4 r5 r6 r7:Int} (h0:g=3) (h1:ow=me) (h2:mi=mn) (h3:pi=pd):At T t me ow c fw mi pi mn pd g 28 r1 r2 r4 r5 r6 r7 []
 | a29H03 {r1 r2 r4 r5 r6 r7:Int} (h0:g=3) (h1:mi=mn) (h2:r4=0):At T t me ow c fw mi pi mn pd g 29 r1 r2 r4 r5 r6 r7 [(19+2*T+t,(pd:Int)),(17,me),(0,wr32 (c+1))]
 | a29H13 {r1 r2 r4 r5 r6 r7:Int} (h0:g=3) (h1:mi=mn) (h2:pi=pd) (h3:r4=0):At T t me ow c fw mi pi mn pd g 29 r1 r2 r4 r5 r6 r7 [(17,me),(0,wr32 (c+1))]
 | a29H23 {r1 r2 r4 r5 r6 r7:Int} (h0:g=3) (h1:ow=me) (h2:mi=mn) (h3:pi=pd) (h4:r4=0):At T t me ow c fw mi pi mn pd g 29 r1 r2 r4 r5 r6 r7 [(0,wr32 (c+1))]
 | a29H33 {r1 r2 r4 r5 r6 r7:Int} (h0:g=3) (h1:ow=me) (h2:mi=mn) (h3:pi=pd) (h4:r4=0):At T t me ow c fw mi pi mn pd g 29 r1 r2 r4 r5 r6 r7 []
 | a30H04 {r1 r2 r4 r5 r6 r7:Int} (h0:g=3) (h1:mi=mn):At T t me ow c fw mi pi mn pd g 30 r1 r2 r4 r5 r6 r7 [(19+2*T+t,(pd:Int)),(17,me),(0,wr32 (c+1)),(17,0)]
 | a30H14 {r1 r2 r4 r5 r6 r7:Int} (h0:g=3) (h1:mi=mn) (h2:pi=pd):At T t me ow c fw mi pi mn pd g 30 r1 r2 r4 r5 r6 r7 [(17,me),(0,wr32 (c+1)),(17,0)]
 | a30H24 {r1 r2 r4 r5 r6 r7:Int} (h0:g=3) (h1:ow=me) (h2:mi=mn) (h3:pi=pd):At T t me ow c fw mi pi mn pd g 30 r1 r2 r4 r5 r6 r7 [(0,wr32 (c+1)),(17,0)]
 | a30H34 {r1 r2 r4 r5 r6 r7:Int} (h0:g=3) (h1:ow=me) (h2:mi=mn) (h3:pi=pd):At T t me ow c fw mi pi mn pd g 30 r1 r2 r4 r5 r6 r7 [(17,0)]
 | a30H44 {r1 r2 r4 r5 r6 r7:Int} (h0:g=3) (h1:ow=0) (h2:mi=mn) (h3:pi=pd):At T t me ow c fw mi pi mn pd g 30 r1 r2 r4 r5 r6 r7 []
 | a31H04 {r1 r2 r4 r5 r6 r7:Int} (h0:g=3) (h1:mi=mn) (h2:r4=(mn:Int)):At T t me ow c fw mi pi mn pd g 31 r1 r2 r4 r5 r6 r7 [(19+2*T+t,(pd:Int)),(17,me),(0,wr32 (c+1)),(17,0)]
 | a31H14 {r1 r2 r4 r5 r6 r7:Int} (h0:g=3) (h1:mi=mn) (h2:pi=pd) (h3:r4=(mn:Int)):At T t me ow c fw mi pi mn pd g 31 r1 r2 r4 r5 r6 r7 [(17,me),(0,wr32 (c+1)),(17,0)]
 | a31H24 {r1 r2 r4 r5 r6 r7:Int} (h0:g=3) (h1:ow=me) (h2:mi=mn) (h3:pi=pd) (h4:r4=(mn:Int)):At T t me ow c fw mi pi mn pd g 31 r1 r2 r4 r5 r6 r7 [(0,wr32 (c+1)),(17,0)]
 | a31H34 {r1 r2 r4 r5 r6 r7:Int} (h0:g=3) (h1:ow=me) (h2:mi=mn) (h3:pi=pd) (h4:r4=(mn:Int)):At T t me ow c fw mi pi mn pd g 31 r1 r2 r4 r5 r6 r7 [(17,0)]
 | a31H44 {r1 r2 r4 r5 r6 r7:Int} (h0:g=3) (h1:ow=0) (h2:mi=mn) (h3:pi=pd) (h4:r4=(mn:Int)):At T t me ow c fw mi pi mn pd g 31 r1 r2 r4 r5 r6 r7 []
 | a32H04 {r1 r2 r4 r5 r6 r7:Int} (h0:g=3) (h1:mi=mn) (h2:r4=(mn:Int)) (h3:r6=(pd:Int)):At T t me ow c fw mi pi mn pd g 32 r1 r2 r4 r5 r6 r7 [(19+2*T+t,(pd:Int)),(17,me),(0,wr32 (c+1)),(17,0)]
 | a32H14 {r1 r2 r4 r5 r6 r7:Int} (h0:g=3) (h1:mi=mn) (h2:pi=pd) (h3:r4=(mn:Int)) (h4:r6=(pd:Int)):At T t me ow c fw mi pi mn pd g 32 r1 r2 r4 r5 r6 r7 [(17,me),(0,wr32 (c+1)),(17,0)]
 | a32H24 {r1 r2 r4 r5 r6 r7:Int} (h0:g=3) (h1:ow=me) (h2:mi=mn) (h3:pi=pd) (h4:r4=(mn:Int)) (h5:r6=(pd:Int)):At T t me ow c fw mi pi mn pd g 32 r1 r2 r4 r5 r6 r7 [(0,wr32 (c+1)),(17,0)]
 | a32H34 {r1 r2 r4 r5 r6 r7:Int} (h0:g=3) (h1:ow=me) (h2:mi=mn) (h3:pi=pd) (h4:r4=(mn:Int)) (h5:r6=(pd:Int)):At T t me ow c fw mi pi mn pd g 32 r1 r2 r4 r5 r6 r7 [(17,0)]
 | a32H44 {r1 r2 r4 r5 r6 r7:Int} (h0:g=3) (h1:ow=0) (h2:mi=mn) (h3:pi=pd) (h4:r4=(mn:Int)) (h5:r6=(pd:Int)):At T t me ow c fw mi pi mn pd g 32 r1 r2 r4 r5 r6 r7 []
 | a33H05 {r1 r2 r4 r5 r6 r7:Int} (h0:g=3) (h1:mi=mn) (h2:r4=(mn:Int)):At T t me ow c fw mi pi mn pd g 33 r1 r2 r4 r5 r6 r7 [(19+2*T+t,(pd:Int)),(17,me),(0,wr32 (c+1)),(17,0),(19+T+t,(pd:Int))]
 | a33H15 {r1 r2 r4 r5 r6 r7:Int} (h0:g=3) (h1:mi=mn) (h2:pi=pd) (h3:r4=(mn:Int)):At T t me ow c fw mi pi mn pd g 33 r1 r2 r4 r5 r6 r7 [(17,me),(0,wr32 (c+1)),(17,0),(19+T+t,(pd:Int))]
 | a33H25 {r1 r2 r4 r5 r6 r7:Int} (h0:g=3) (h1:ow=me) (h2:mi=mn) (h3:pi=pd) (h4:r4=(mn:Int)):At T t me ow c fw mi pi mn pd g 33 r1 r2 r4 r5 r6 r7 [(0,wr32 (c+1)),(17,0),(19+T+t,(pd:Int))]
 | a33H35 {r1 r2 r4 r5 r6 r7:Int} (h0:g=3) (h1:ow=me) (h2:mi=mn) (h3:pi=pd) (h4:r4=(mn:Int)):At T t me ow c fw mi pi mn pd g 33 r1 r2 r4 r5 r6 r7 [(17,0),(19+T+t,(pd:Int))]
 | a33H45 {r1 r2 r4 r5 r6 r7:Int} (h0:g=3) (h1:ow=0) (h2:mi=mn) (h3:pi=pd) (h4:r4=(mn:Int)):At T t me ow c fw mi pi mn pd g 33 r1 r2 r4 r5 r6 r7 [(19+T+t,(pd:Int))]
 | a33H55 {r1 r2 r4 r5 r6 r7:Int} (h0:g=3) (h1:ow=0) (h2:mi=pd) (h3:pi=pd) (h4:r4=(mn:Int)):At T t me ow c fw mi pi mn pd g 33 r1 r2 r4 r5 r6 r7 []
 | a34H05 {r1 r2 r4 r5 r6 r7:Int} (h0:g=3) (h1:mi=mn) (h2:r4=(mn:Int)) (h3:r6=0):At T t me ow c fw mi pi mn pd g 34 r1 r2 r4 r5 r6 r7 [(19+2*T+t,(pd:Int)),(17,me),(0,wr32 (c+1)),(17,0),(19+T+t,(pd:Int))]
 | a34H15 {r1 r2 r4 r5 r6 r7:Int} (h0:g=3) (h1:mi=mn) (h2:pi=pd) (h3:r4=(mn:Int)) (h4:r6=0):At T t me ow c fw mi pi mn pd g 34 r1 r2 r4 r5 r6 r7 [(17,me),(0,wr32 (c+1)),(17,0),(19+T+t,(pd:Int))]
 | a34H25 {r1 r2 r4 r5 r6 r7:Int} (h0:g=3) (h1:ow=me) (h2:mi=mn) (h3:pi=pd) (h4:r4=(mn:Int)) (h5:r6=0):At T t me ow c fw mi pi mn pd g 34 r1 r2 r4 r5 r6 r7 [(0,wr32 (c+1)),(17,0),(19+T+t,(pd:Int))]
 | a34H35 {r1 r2 r4 r5 r6 r7:Int} (h0:g=3) (h1:ow=me) (h2:mi=mn) (h3:pi=pd) (h4:r4=(mn:Int)) (h5:r6=0):At T t me ow c fw mi pi mn pd g 34 r1 r2 r4 r5 r6 r7 [(17,0),(19+T+t,(pd:Int))]
 | a34H45 {r1 r2 r4 r5 r6 r7:Int} (h0:g=3) (h1:ow=0) (h2:mi=mn) (h3:pi=pd) (h4:r4=(mn:Int)) (h5:r6=0):At T t me ow c fw mi pi mn pd g 34 r1 r2 r4 r5 r6 r7 [(19+T+t,(pd:Int))]
 | a34H55 {r1 r2 r4 r5 r6 r7:Int} (h0:g=3) (h1:ow=0) (h2:mi=pd) (h3:pi=pd) (h4:r4=(mn:Int)) (h5:r6=0):At T t me ow c fw mi pi mn pd g 34 r1 r2 r4 r5 r6 r7 []
 | a35H06 {r1 r2 r4 r5 r6 r7:Int} (h0:g=3) (h1:mi=mn):At T t me ow c fw mi pi mn pd g 35 r1 r2 r4 r5 r6 r7 [(19+2*T+t,(pd:Int)),(17,me),(0,wr32 (c+1)),(17,0),(19+T+t,(pd:Int)),(18+mn,0)]
 | a35H16 {r1 r2 r4 r5 r6 r7:Int} (h0:g=3) (h1:mi=mn) (h2:pi=pd):At T t me ow c fw mi pi mn pd g 35 r1 r2 r4 r5 r6 r7 [(17,me),(0,wr32 (c+1)),(17,0),(19+T+t,(pd:Int)),(18+mn,0)]
 | a35H26 {r1 r2 r4 r5 r6 r7:Int} (h0:g=3) (h1:ow=me) (h2:mi=mn) (h3:pi=pd):At T t me ow c fw mi pi mn pd g 35 r1 r2 r4 r5 r6 r7 [(0,wr32 (c+1)),(17,0),(19+T+t,(pd:Int)),(18+mn,0)]
 | a35H36 {r1 r2 r4 r5 r6 r7:Int} (h0:g=3) (h1:ow=me) (h2:mi=mn) (h3:pi=pd):At T t me ow c fw mi pi mn pd g 35 r1 r2 r4 r5 r6 r7 [(17,0),(19+T+t,(pd:Int)),(18+mn,0)]
 | a35H46 {r1 r2 r4 r5 r6 r7:Int} (h0:g=3) (h1:ow=0) (h2:mi=mn) (h3:pi=pd):At T t me ow c fw mi pi mn pd g 35 r1 r2 r4 r5 r6 r7 [(19+T+t,(pd:Int)),(18+mn,0)]
 | a35H56 {r1 r2 r4 r5 r6 r7:Int} (h0:g=3) (h1:ow=0) (h2:mi=pd) (h3:pi=pd):At T t me ow c fw mi pi mn pd g 35 r1 r2 r4 r5 r6 r7 [(18+mn,0)]
 | a35H66 {r1 r2 r4 r5 r6 r7:Int} (h0:g=0) (h1:ow≠me) (h2:mi=mn):At T t me ow c fw mi pi mn pd g 35 r1 r2 r4 r5 r6 r7 []
 | a36H06 {r1 r2 r4 r5 r6 r7:Int} (h0:g=3) (h1:mi=mn) (h2:r7=0):At T t me ow c fw mi pi mn pd g 36 r1 r2 r4 r5 r6 r7 [(19+2*T+t,(pd:Int)),(17,me),(0,wr32 (c+1)),(17,0),(19+T+t,(pd:Int)),(18+mn,0)]
 | a36H16 {r1 r2 r4 r5 r6 r7:Int} (h0:g=3) (h1:mi=mn) (h2:pi=pd) (h3:r7=0):At T t me ow c fw mi pi mn pd g 36 r1 r2 r4 r5 r6 r7 [(17,me),(0,wr32 (c+1)),(17,0),(19+T+t,(pd:Int)),(18+mn,0)]
 | a36H26 {r1 r2 r4 r5 r6 r7:Int} (h0:g=3) (h1:ow=me) (h2:mi=mn) (h3:pi=pd) (h4:r7=0):At T t me ow c fw mi pi mn pd g 36 r1 r2 r4 r5 r6 r7 [(0,wr32 (c+1)),(17,0),(19+T+t,(pd:Int)),(18+mn,0)]
 | a36H36 {r1 r2 r4 r5 r6 r7:Int} (h0:g=3) (h1:ow=me) (h2:mi=mn) (h3:pi=pd) (h4:r7=0):At T t me ow c fw mi pi mn pd g 36 r1 r2 r4 r5 r6 r7 [(17,0),(19+T+t,(pd:Int)),(18+mn,0)]
 | a36H46 {r1 r2 r4 r5 r6 r7:Int} (h0:g=3) (h1:ow=0) (h2:mi=mn) (h3:pi=pd) (h4:r7=0):At T t me ow c fw mi pi mn pd g 36 r1 r2 r4 r5 r6 r7 [(19+T+t,(pd:Int)),(18+mn,0)]
 | a36H56 {r1 r2 r4 r5 r6 r7:Int} (h0:g=3) (h1:ow=0) (h2:mi=pd) (h3:pi=pd) (h4:r7=0):At T t me ow c fw mi pi mn pd g 36 r1 r2 r4 r5 r6 r7 [(18+mn,0)]
 | a36H66 {r1 r2 r4 r5 r6 r7:Int} (h0:g=0) (h1:ow≠me) (h2:mi=mn) (h3:r7=0):At T t me ow c fw mi pi mn pd g 36 r1 r2 r4 r5 r6 r7 []
def inR(j:Nat):Bool:=decide (17≤j) && decide (j≤21)
section
variable{me ow c fw r1 r2 r4 r5 r6 r7:Int}{T t mi pi mn pd g j:Nat}{q:List (Nat×Int)}
theorem At.other{ow' c':Int}(h:At T t me ow c fw mi pi mn pd g j r1 r2 r4 r5 r6 r7 q)(h1:g≠3)(h2:ow'≠me):At T t me ow' c' fw mi pi mn pd g j r1 r2 r4 r5 r6 r7 q:=by
 cases h
 case a11L g0 g1 g2 g3 g4=>apply At.a11L<;>assumption
 case a12B g0 g1 g2 g3 g4=>apply At.a12B<;>assumption
 case a12N g0 g1 g2 g3 g4 g5=>apply At.a12N<;>assumption
 case a13B g0 g1 g2 g3 g4 g5=>apply At.a13B<;>assumption
 case a13N g0 g1 g2 g3 g4 g5 g6=>apply At.a13N<;>assumption
 all_goals first | exact absurd (by assumption) h1 | (constructor<;>assumption)
theorem At.flag{fw':Int}(h:At T t me ow c fw mi pi mn pd g j r1 r2 r4 r5 r6 r7 q)(h1:g≠0):At T t me ow c fw' mi pi mn pd g j r1 r2 r4 r5 r6 r7 q:=by
 cases h
 case a11A g0 g1 g2 g3=>apply At.a11A<;>assumption
 case a11L g0 g1 g2 g3 g4=>apply At.a11L<;>assumption
 case a12B g0 g1 g2 g3 g4=>apply At.a12B<;>assumption
 case a12H01 g0 g1 g2 g3=>apply At.a12H01<;>assumption
 case a12H11 g0 g1 g2 g3 g4=>apply At.a12H11<;>assumption
 case a12N g0 g1 g2 g3 g4 g5=>apply At.a12N<;>assumption
 case a13B g0 g1 g2 g3 g4 g5=>apply At.a13B<;>assumption
 case a13H01 g0 g1 g2 g3=>apply At.a13H01<;>assumption
 case a13H11 g0 g1 g2 g3 g4=>apply At.a13H11<;>assumption
 case a13N g0 g1 g2 g3 g4 g5 g6=>apply At.a13N<;>assumption
 all_goals first | exact absurd (by assumption) h1 | (constructor<;>assumption)
theorem At.wake(h:At T t me ow c fw mi pi mn pd g j r1 r2 r4 r5 r6 r7 q)(h1:g=1):At T t me ow c fw mi pi mn pd 3 j r1 r2 r4 r5 r6 r7 q:=by
 cases h
 case a11L g0 g1 g2 g3 g4=>apply At.a11A<;>first | rfl | assumption
 case a12B g0 g1 g2 g3 g4=>apply At.a12H01<;>first | rfl | assumption
 case a12N g0 g1 g2 g3 g4 g5=>apply At.a12H11<;>first | rfl | assumption
 case a13B g0 g1 g2 g3 g4 g5=>apply At.a13H01<;>first | rfl | assumption
 case a13N g0 g1 g2 g3 g4 g5 g6=>apply At.a13H11<;>first | rfl | assumption
 all_goals (exfalso;omega)
theorem At.out(h:At T t me ow c fw mi pi mn pd g j r1 r2 r4 r5 r6 r7 q)(h1:g≠3):ow≠me∧inR j=false:=by
 cases h<;>first | exact⟨by assumption,rfl⟩ | contradiction
theorem own_buf{e:Nat×Int}{r:List (Nat×Int)}(h:At T t me ow c fw mi pi mn pd g j r1 r2 r4 r5 r6 r7 (e::r))(hme:0 < me):
  (e=(19+2*T+t,(pd:Int))∧((g=1∧At T t me ow c fw mi pd mn pd 1 j r1 r2 r4 r5 r6 r7 r)∨(g=3∧At T t me ow c fw mi pd mn pd 3 j r1 r2 r4 r5 r6 r7 r)))∨(e=(17,me)∧g=3∧At T t me me c fw mi pi mn pd 3 j r1 r2 r4 r5 r6 r7 r)∨(e=(0,wr32 (c+1))∧g=3∧∀ c',At T t me ow c' fw mi pi mn pd 3 j r1 r2 r4 r5 r6 r7 r)∨(e=(17,0)∧g=3∧At T t me 0 c fw mi pi mn pd 3 j r1 r2 r4 r5 r6 r7 r)∨(e=(19+T+t,(pd:Int))∧g=3∧At T t me ow c fw pd pi mn pd 3 j r1 r2 r4 r5 r6 r7 r)∨(e=(18+mn,0)∧g=3∧ow=0∧∀ fw' pd',At T t me ow c fw' mi pi pd pd' 0 j r1 r2 r4 r5 r6 r7 r)∨(e=(18+mn,1)∧g=0∧At T t me ow c 1 mi pi mn pd 0 j r1 r2 r4 r5 r6 r7 r):=by
 cases h
 case a0H06 g0 g1=>exact .inl ⟨rfl,.inr ⟨by assumption,by apply At.a0H16<;>first | assumption | rfl | omega⟩⟩
 case a0H16 g0 g1 g2=>exact .inr (.inl ⟨rfl,by assumption,by apply At.a0H26<;>first | assumption | rfl | omega⟩)
 case a0H26 g0 g1 g2 g3=>exact .inr (.inr (.inl ⟨rfl,by assumption,fun c'=>by apply At.a0H36<;>first | assumption | rfl | omega⟩))
 case a0H36 g0 g1 g2 g3=>exact .inr (.inr (.inr (.inl ⟨rfl,by assumption,by apply At.a0H46<;>first | assumption | rfl | omega⟩)))
 case a0H46 g0 g1 g2 g3=>exact .inr (.inr (.inr (.inr (.inl ⟨rfl,by assumption,by apply At.a0H56<;>first | assumption | rfl | omega⟩))))
 case a0H56 g0 g1 g2 g3=>exact .inr (.inr (.inr (.inr (.inr (.inl ⟨rfl,by assumption,by assumption,fun fw' pd'=>by apply At.a0H66<;>first | assumption | rfl | omega⟩)))))
 case a1H06 g0 g1=>exact .inl ⟨rfl,.inr ⟨by assumption,by apply At.a1H16<;>first | assumption | rfl | omega⟩⟩
 case a1H16 g0 g1 g2=>exact .inr (.inl ⟨rfl,by assumption,by apply At.a1H26<;>first | assumption | rfl | omega⟩)
 case a1H26 g0 g1 g2 g3=>exact .inr (.inr (.inl ⟨rfl,by assumption,fun c'=>by apply At.a1H36<;>first | assumption | rfl | omega⟩))
 case a1H36 g0 g1 g2 g3=>exact .inr (.inr (.inr (.inl ⟨rfl,by assumption,by apply At.a1H46<;>first | assumption | rfl | omega⟩)))
 case a1H46 g0 g1 g2 g3=>exact .inr (.inr (.inr (.inr (.inl ⟨rfl,by assumption,by apply At.a1H56<;>first | assumption | rfl | omega⟩))))
 case a1H56 g0 g1 g2 g3=>exact .inr (.inr (.inr (.inr (.inr (.inl ⟨rfl,by assumption,by assumption,fun fw' pd'=>by apply At.a1H66<;>first | assumption | rfl | omega⟩)))))
 case a2H06 g0 g1 g2=>exact .inl ⟨rfl,.inr ⟨by assumption,by apply At.a2H16<;>first | assumption | rfl | omega⟩⟩
 case a2H16 g0 g1 g2 g3=>exact .inr (.inl ⟨rfl,by assumption,by apply At.a2H26<;>first | assumption | rfl | omega⟩)
 case a2H26 g0 g1 g2 g3 g4=>exact .inr (.inr (.inl ⟨rfl,by assumption,fun c'=>by apply At.a2H36<;>first | assumption | rfl | omega⟩))
 case a2H36 g0 g1 g2 g3 g4=>exact .inr (.inr (.inr (.inl ⟨rfl,by assumption,by apply At.a2H46<;>first | assumption | rfl | omega⟩)))
 case a2H46 g0 g1 g2 g3 g4=>exact .inr (.inr (.inr (.inr (.inl ⟨rfl,by assumption,by apply At.a2H56<;>first | assumption | rfl | omega⟩))))
 case a2H56 g0 g1 g2 g3 g4=>exact .inr (.inr (.inr (.inr (.inr (.inl ⟨rfl,by assumption,by assumption,fun fw' pd'=>by apply At.a2H66<;>first | assumption | rfl | omega⟩)))))
 case a3H06 g0 g1 g2 g3=>exact .inl ⟨rfl,.inr ⟨by assumption,by apply At.a3H16<;>first | assumption | rfl | omega⟩⟩
 case a3H16 g0 g1 g2 g3 g4=>exact .inr (.inl ⟨rfl,by assumption,by apply At.a3H26<;>first | assumption | rfl | omega⟩)
 case a3H26 g0 g1 g2 g3 g4 g5=>exact .inr (.inr (.inl ⟨rfl,by assumption,fun c'=>by apply At.a3H36<;>first | assumption | rfl | omega⟩))
 case a3H36 g0 g1 g2 g3 g4 g5=>exact .inr (.inr (.inr (.inl ⟨rfl,by assumption,by apply At.a3H46<;>first | assumption | rfl | omega⟩)))
 case a3H46 g0 g1 g2 g3 g4 g5=>exact .inr (.inr (.inr (.inr (.inl ⟨rfl,by assumption,by apply At.a3H56<;>first | assumption | rfl | omega⟩))))
 case a3H56 g0 g1 g2 g3 g4 g5=>exact .inr (.inr (.inr (.inr (.inr (.inl ⟨rfl,by assumption,by assumption,fun fw' pd'=>by apply At.a3H66<;>first | assumption | rfl | omega⟩)))))
 case a4H06 g0 g1 g2 g3=>exact .inl ⟨rfl,.inr ⟨by assumption,by apply At.a4H16<;>first | assumption | rfl | omega⟩⟩
 case a4H16 g0 g1 g2 g3 g4=>exact .inr (.inl ⟨rfl,by assumption,by apply At.a4H26<;>first | assumption | rfl | omega⟩)
 case a4H26 g0 g1 g2 g3 g4 g5=>exact .inr (.inr (.inl ⟨rfl,by assumption,fun c'=>by apply At.a4H36<;>first | assumption | rfl | omega⟩))
 case a4H36 g0 g1 g2 g3 g4 g5=>exact .inr (.inr (.inr (.inl ⟨rfl,by assumption,by apply At.a4H46<;>first | assumption | rfl | omega⟩)))
 case a4H46 g0 g1 g2 g3 g4 g5=>exact .inr (.inr (.inr (.inr (.inl ⟨rfl,by assumption,by apply At.a4H56<;>first | assumption | rfl | omega⟩))))
 case a4H56 g0 g1 g2 g3 g4 g5=>exact .inr (.inr (.inr (.inr (.inr (.inl ⟨rfl,by assumption,by assumption,fun fw' pd'=>by apply At.a4H66<;>first | assumption | rfl | omega⟩)))))
 case a7H06 g0 g1 g2=>exact .inl ⟨rfl,.inr ⟨by assumption,by apply At.a7H16<;>first | assumption | rfl | omega⟩⟩
 case a7H16 g0 g1 g2 g3=>exact .inr (.inl ⟨rfl,by assumption,by apply At.a7H26<;>first | assumption | rfl | omega⟩)
 case a7H26 g0 g1 g2 g3 g4=>exact .inr (.inr (.inl ⟨rfl,by assumption,fun c'=>by apply At.a7H36<;>first | assumption | rfl | omega⟩))
 case a7H36 g0 g1 g2 g3 g4=>exact .inr (.inr (.inr (.inl ⟨rfl,by assumption,by apply At.a7H46<;>first | assumption | rfl | omega⟩)))
 case a7H46 g0 g1 g2 g3 g4=>exact .inr (.inr (.inr (.inr (.inl ⟨rfl,by assumption,by apply At.a7H56<;>first | assumption | rfl | omega⟩))))
 case a7H56 g0 g1 g2 g3 g4=>exact .inr (.inr (.inr (.inr (.inr (.inl ⟨rfl,by assumption,by assumption,fun fw' pd'=>by apply At.a7H66<;>first | assumption | rfl | omega⟩)))))
 case a8H06 g0 g1 g2 g3=>exact .inl ⟨rfl,.inr ⟨by assumption,by apply At.a8H16<;>first | assumption | rfl | omega⟩⟩
 case a8H16 g0 g1 g2 g3 g4=>exact .inr (.inl ⟨rfl,by assumption,by apply At.a8H26<;>first | assumption | rfl | omega⟩)
 case a8H26 g0 g1 g2 g3 g4 g5=>exact .inr (.inr (.inl ⟨rfl,by assumption,fun c'=>by apply At.a8H36<;>first | assumption | rfl | omega⟩))
 case a8H36 g0 g1 g2 g3 g4 g5=>exact .inr (.inr (.inr (.inl ⟨rfl,by assumption,by apply At.a8H46<;>first | assumption | rfl | omega⟩)))
 case a8H46 g0 g1 g2 g3 g4 g5=>exact .inr (.inr (.inr (.inr (.inl ⟨rfl,by assumption,by apply At.a8H56<;>first | assumption | rfl | omega⟩))))
 case a8H56 g0 g1 g2 g3 g4 g5=>exact .inr (.inr (.inr (.inr (.inr (.inl ⟨rfl,by assumption,by assumption,fun fw' pd'=>by apply At.a8H66<;>first | assumption | rfl | omega⟩)))))
 case a9H06 g0 g1 g2 g3 g4=>exact .inl ⟨rfl,.inr ⟨by assumption,by apply At.a9H16<;>first | assumption | rfl | omega⟩⟩
 case a9H16 g0 g1 g2 g3 g4 g5=>exact .inr (.inl ⟨rfl,by assumption,by apply At.a9H26<;>first | assumption | rfl | omega⟩)
 case a9H26 g0 g1 g2 g3 g4 g5 g6=>exact .inr (.inr (.inl ⟨rfl,by assumption,fun c'=>by apply At.a9H36<;>first | assumption | rfl | omega⟩))
 case a9H36 g0 g1 g2 g3 g4 g5 g6=>exact .inr (.inr (.inr (.inl ⟨rfl,by assumption,by apply At.a9H46<;>first | assumption | rfl | omega⟩)))
 case a9H46 g0 g1 g2 g3 g4 g5 g6=>exact .inr (.inr (.inr (.inr (.inl ⟨rfl,by assumption,by apply At.a9H56<;>first | assumption | rfl | omega⟩))))
 case a9H56 g0 g1 g2 g3 g4 g5 g6=>exact .inr (.inr (.inr (.inr (.inr (.inl ⟨rfl,by assumption,by assumption,fun fw' pd'=>by apply At.a9H66<;>first | assumption | rfl | omega⟩)))))
 case a10H07 g0 g1 g2 g3=>exact .inl ⟨rfl,.inr ⟨by assumption,by apply At.a10H17<;>first | assumption | rfl | omega⟩⟩
 case a10H17 g0 g1 g2 g3 g4=>exact .inr (.inl ⟨rfl,by assumption,by apply At.a10H27<;>first | assumption | rfl | omega⟩)
 case a10H27 g0 g1 g2 g3 g4 g5=>exact .inr (.inr (.inl ⟨rfl,by assumption,fun c'=>by apply At.a10H37<;>first | assumption | rfl | omega⟩))
 case a10H37 g0 g1 g2 g3 g4 g5=>exact .inr (.inr (.inr (.inl ⟨rfl,by assumption,by apply At.a10H47<;>first | assumption | rfl | omega⟩)))
 case a10H47 g0 g1 g2 g3 g4 g5=>exact .inr (.inr (.inr (.inr (.inl ⟨rfl,by assumption,by apply At.a10H57<;>first | assumption | rfl | omega⟩))))
 case a10H57 g0 g1 g2 g3 g4 g5=>exact .inr (.inr (.inr (.inr (.inr (.inl ⟨rfl,by assumption,by assumption,fun fw' pd'=>by apply At.a10H67<;>first | assumption | rfl | omega⟩)))))
 case a10H67 g0 g1 g2 g3 g4=>exact .inr (.inr (.inr (.inr (.inr (.inr (⟨rfl,by assumption,by apply At.a10H77<;>first | assumption | rfl | omega⟩))))))
 case a12B g0 g1 g2 g3 g4=>exact .inl ⟨rfl,.inl ⟨by assumption,by apply At.a12N<;>first | assumption | rfl⟩⟩
 case a12H01 g0 g1 g2 g3=>exact .inl ⟨rfl,.inr ⟨by assumption,by apply At.a12H11<;>first | assumption | rfl | omega⟩⟩
 case a13B g0 g1 g2 g3 g4 g5=>exact .inl ⟨rfl,.inl ⟨by assumption,by apply At.a13N<;>first | assumption | rfl⟩⟩
 case a13H01 g0 g1 g2 g3=>exact .inl ⟨rfl,.inr ⟨by assumption,by apply At.a13H11<;>first | assumption | rfl | omega⟩⟩
 case a14H01 g0 g1 g2=>exact .inl ⟨rfl,.inr ⟨by assumption,by apply At.a14H11<;>first | assumption | rfl | omega⟩⟩
 case a15H02 g0 g1=>exact .inl ⟨rfl,.inr ⟨by assumption,by apply At.a15H12<;>first | assumption | rfl | omega⟩⟩
 case a15H12 g0 g1 g2=>exact .inr (.inl ⟨rfl,by assumption,by apply At.a15H22<;>first | assumption | rfl | omega⟩)
 case a16H02 g0 g1 g2=>exact .inl ⟨rfl,.inr ⟨by assumption,by apply At.a16H12<;>first | assumption | rfl | omega⟩⟩
 case a16H12 g0 g1 g2 g3=>exact .inr (.inl ⟨rfl,by assumption,by apply At.a16H22<;>first | assumption | rfl | omega⟩)
 case a17H02 g0 g1=>exact .inl ⟨rfl,.inr ⟨by assumption,by apply At.a17H12<;>first | assumption | rfl | omega⟩⟩
 case a17H12 g0 g1 g2=>exact .inr (.inl ⟨rfl,by assumption,by apply At.a17H22<;>first | assumption | rfl | omega⟩)
 case a18H02 g0 g1 g2=>exact .inl ⟨rfl,.inr ⟨by assumption,by apply At.a18H12<;>first | assumption | rfl | omega⟩⟩
 case a18H12 g0 g1 g2 g3=>exact .inr (.inl ⟨rfl,by assumption,by apply At.a18H22<;>first | assumption | rfl | omega⟩)
 case a19H02 g0 g1 g2 g3=>exact .inl ⟨rfl,.inr ⟨by assumption,by apply At.a19H12<;>first | assumption | rfl | omega⟩⟩
 case a19H12 g0 g1 g2 g3 g4=>exact .inr (.inl ⟨rfl,by assumption,by apply At.a19H22<;>first | assumption | rfl | omega⟩)
 case a20H02 g0 g1 g2=>exact .inl ⟨rfl,.inr ⟨by assumption,by apply At.a20H12<;>first | assumption | rfl | omega⟩⟩
 case a20H12 g0 g1 g2 g3=>exact .inr (.inl ⟨rfl,by assumption,by apply At.a20H22<;>first | assumption | rfl | omega⟩)
 case a21H03 g0 g1=>exact .inl ⟨rfl,.inr ⟨by assumption,by apply At.a21H13<;>first | assumption | rfl | omega⟩⟩
 case a21H13 g0 g1 g2=>exact .inr (.inl ⟨rfl,by assumption,by apply At.a21H23<;>first | assumption | rfl | omega⟩)
 case a21H23 g0 g1 g2 g3=>exact .inr (.inr (.inl ⟨rfl,by assumption,fun c'=>by apply At.a21H33<;>first | assumption | rfl | omega⟩))
 case a22H03 g0 g1=>exact .inl ⟨rfl,.inr ⟨by assumption,by apply At.a22H13<;>first | assumption | rfl | omega⟩⟩
 case a22H13 g0 g1 g2=>exact .inr (.inl ⟨rfl,by assumption,by apply At.a22H23<;>first | assumption | rfl | omega⟩)
 case a22H23 g0 g1 g2 g3=>exact .inr (.inr (.inl ⟨rfl,by assumption,fun c'=>by apply At.a22H33<;>first | assumption | rfl | omega⟩))
 case a23H03 g0 g1 g2=>exact .inl ⟨rfl,.inr ⟨by assumption,by apply At.a23H13<;>first | assumption | rfl | omega⟩⟩
 case a23H13 g0 g1 g2 g3=>exact .inr (.inl ⟨rfl,by assumption,by apply At.a23H23<;>first | assumption | rfl | omega⟩)
 case a23H23 g0 g1 g2 g3 g4=>exact .inr (.inr (.inl ⟨rfl,by assumption,fun c'=>by apply At.a23H33<;>first | assumption | rfl | omega⟩))
 case a24H03 g0 g1 g2 g3=>exact .inl ⟨rfl,.inr ⟨by assumption,by apply At.a24H13<;>first | assumption | rfl | omega⟩⟩
 case a24H13 g0 g1 g2 g3 g4=>exact .inr (.inl ⟨rfl,by assumption,by apply At.a24H23<;>first | assumption | rfl | omega⟩)
 case a24H23 g0 g1 g2 g3 g4 g5=>exact .inr (.inr (.inl ⟨rfl,by assumption,fun c'=>by apply At.a24H33<;>first | assumption | rfl | omega⟩))
 case a25H03 g0 g1 g2=>exact .inl ⟨rfl,.inr ⟨by assumption,by apply At.a25H13<;>first | assumption | rfl | omega⟩⟩
 case a25H13 g0 g1 g2 g3=>exact .inr (.inl ⟨rfl,by assumption,by apply At.a25H23<;>first | assumption | rfl | omega⟩)
 case a25H23 g0 g1 g2 g3 g4=>exact .inr (.inr (.inl ⟨rfl,by assumption,fun c'=>by apply At.a25H33<;>first | assumption | rfl | omega⟩))
 case a28H03 g0 g1=>exact .inl ⟨rfl,.inr ⟨by assumption,by apply At.a28H13<;>first | assumption | rfl | omega⟩⟩
 case a28H13 g0 g1 g2=>exact .inr (.inl ⟨rfl,by assumption,by apply At.a28H23<;>first | assumption | rfl | omega⟩)
 case a28H23 g0 g1 g2 g3=>exact .inr (.inr (.inl ⟨rfl,by assumption,fun c'=>by apply At.a28H33<;>first | assumption | rfl | omega⟩))
 case a29H03 g0 g1 g2=>exact .inl ⟨rfl,.inr ⟨by assumption,by apply At.a29H13<;>first | assumption | rfl | omega⟩⟩
 case a29H13 g0 g1 g2 g3=>exact .inr (.inl ⟨rfl,by assumption,by apply At.a29H23<;>first | assumption | rfl | omega⟩)
 case a29H23 g0 g1 g2 g3 g4=>exact .inr (.inr (.inl ⟨rfl,by assumption,fun c'=>by apply At.a29H33<;>first | assumption | rfl | omega⟩))
 case a30H04 g0 g1=>exact .inl ⟨rfl,.inr ⟨by assumption,by apply At.a30H14<;>first | assumption | rfl | omega⟩⟩
 case a30H14 g0 g1 g2=>exact .inr (.inl ⟨rfl,by assumption,by apply At.a30H24<;>first | assumption | rfl | omega⟩)
 case a30H24 g0 g1 g2 g3=>exact .inr (.inr (.inl ⟨rfl,by assumption,fun c'=>by apply At.a30H34<;>first | assumption | rfl | omega⟩))
 case a30H34 g0 g1 g2 g3=>exact .inr (.inr (.inr (.inl ⟨rfl,by assumption,by apply At.a30H44<;>first | assumption | rfl | omega⟩)))
 case a31H04 g0 g1 g2=>exact .inl ⟨rfl,.inr ⟨by assumption,by apply At.a31H14<;>first | assumption | rfl | omega⟩⟩
 case a31H14 g0 g1 g2 g3=>exact .inr (.inl ⟨rfl,by assumption,by apply At.a31H24<;>first | assumption | rfl | omega⟩)
 case a31H24 g0 g1 g2 g3 g4=>exact .inr (.inr (.inl ⟨rfl,by assumption,fun c'=>by apply At.a31H34<;>first | assumption | rfl | omega⟩))
 case a31H34 g0 g1 g2 g3 g4=>exact .inr (.inr (.inr (.inl ⟨rfl,by assumption,by apply At.a31H44<;>first | assumption | rfl | omega⟩)))
 case a32H04 g0 g1 g2 g3=>exact .inl ⟨rfl,.inr ⟨by assumption,by apply At.a32H14<;>first | assumption | rfl | omega⟩⟩
 case a32H14 g0 g1 g2 g3 g4=>exact .inr (.inl ⟨rfl,by assumption,by apply At.a32H24<;>first | assumption | rfl | omega⟩)
 case a32H24 g0 g1 g2 g3 g4 g5=>exact .inr (.inr (.inl ⟨rfl,by assumption,fun c'=>by apply At.a32H34<;>first | assumption | rfl | omega⟩))
 case a32H34 g0 g1 g2 g3 g4 g5=>exact .inr (.inr (.inr (.inl ⟨rfl,by assumption,by apply At.a32H44<;>first | assumption | rfl | omega⟩)))
 case a33H05 g0 g1 g2=>exact .inl ⟨rfl,.inr ⟨by assumption,by apply At.a33H15<;>first | assumption | rfl | omega⟩⟩
 case a33H15 g0 g1 g2 g3=>exact .inr (.inl ⟨rfl,by assumption,by apply At.a33H25<;>first | assumption | rfl | omega⟩)
 case a33H25 g0 g1 g2 g3 g4=>exact .inr (.inr (.inl ⟨rfl,by assumption,fun c'=>by apply At.a33H35<;>first | assumption | rfl | omega⟩))
 case a33H35 g0 g1 g2 g3 g4=>exact .inr (.inr (.inr (.inl ⟨rfl,by assumption,by apply At.a33H45<;>first | assumption | rfl | omega⟩)))
 case a33H45 g0 g1 g2 g3 g4=>exact .inr (.inr (.inr (.inr (.inl ⟨rfl,by assumption,by apply At.a33H55<;>first | assumption | rfl | omega⟩))))
 case a34H05 g0 g1 g2 g3=>exact .inl ⟨rfl,.inr ⟨by assumption,by apply At.a34H15<;>first | assumption | rfl | omega⟩⟩
 case a34H15 g0 g1 g2 g3 g4=>exact .inr (.inl ⟨rfl,by assumption,by apply At.a34H25<;>first | assumption | rfl | omega⟩)
 case a34H25 g0 g1 g2 g3 g4 g5=>exact .inr (.inr (.inl ⟨rfl,by assumption,fun c'=>by apply At.a34H35<;>first | assumption | rfl | omega⟩))
 case a34H35 g0 g1 g2 g3 g4 g5=>exact .inr (.inr (.inr (.inl ⟨rfl,by assumption,by apply At.a34H45<;>first | assumption | rfl | omega⟩)))
 case a34H45 g0 g1 g2 g3 g4 g5=>exact .inr (.inr (.inr (.inr (.inl ⟨rfl,by assumption,by apply At.a34H55<;>first | assumption | rfl | omega⟩))))
 case a35H06 g0 g1=>exact .inl ⟨rfl,.inr ⟨by assumption,by apply At.a35H16<;>first | assumption | rfl | omega⟩⟩
 case a35H16 g0 g1 g2=>exact .inr (.inl ⟨rfl,by assumption,by apply At.a35H26<;>first | assumption | rfl | omega⟩)
 case a35H26 g0 g1 g2 g3=>exact .inr (.inr (.inl ⟨rfl,by assumption,fun c'=>by apply At.a35H36<;>first | assumption | rfl | omega⟩))
 case a35H36 g0 g1 g2 g3=>exact .inr (.inr (.inr (.inl ⟨rfl,by assumption,by apply At.a35H46<;>first | assumption | rfl | omega⟩)))
 case a35H46 g0 g1 g2 g3=>exact .inr (.inr (.inr (.inr (.inl ⟨rfl,by assumption,by apply At.a35H56<;>first | assumption | rfl | omega⟩))))
 case a35H56 g0 g1 g2 g3=>exact .inr (.inr (.inr (.inr (.inr (.inl ⟨rfl,by assumption,by assumption,fun fw' pd'=>by apply At.a35H66<;>first | assumption | rfl | omega⟩)))))
 case a36H06 g0 g1 g2=>exact .inl ⟨rfl,.inr ⟨by assumption,by apply At.a36H16<;>first | assumption | rfl | omega⟩⟩
 case a36H16 g0 g1 g2 g3=>exact .inr (.inl ⟨rfl,by assumption,by apply At.a36H26<;>first | assumption | rfl | omega⟩)
 case a36H26 g0 g1 g2 g3 g4=>exact .inr (.inr (.inl ⟨rfl,by assumption,fun c'=>by apply At.a36H36<;>first | assumption | rfl | omega⟩))
 case a36H36 g0 g1 g2 g3 g4=>exact .inr (.inr (.inr (.inl ⟨rfl,by assumption,by apply At.a36H46<;>first | assumption | rfl | omega⟩)))
 case a36H46 g0 g1 g2 g3 g4=>exact .inr (.inr (.inr (.inr (.inl ⟨rfl,by assumption,by apply At.a36H56<;>first | assumption | rfl | omega⟩))))
 case a36H56 g0 g1 g2 g3 g4=>exact .inr (.inr (.inr (.inr (.inr (.inl ⟨rfl,by assumption,by assumption,fun fw' pd'=>by apply At.a36H66<;>first | assumption | rfl | omega⟩)))))
end
def meN(t:Nat):Int:=((t+1:Nat):Int)
theorem meN_pos(t:Nat):0 < meN t:=by unfold meN;omega
theorem meN_ne{t u:Nat}(h:t≠u):meN t≠meN u:=by unfold meN;omega
structure Inw(T:Nat)(mem:List Int)(f:Nat→Loc)(q:Nat→List (Nat×Int))(g mi pi mn pd:Nat→Nat)(F:Nat)(Q:List Nat):Prop where
 hat:∀ t,t < T→At T t (meN t) (mem.getD 17 0) (mem.getD 0 0) (mem.getD (18+mn t) 0) (mi t) (pi t) (mn t) (pd t) (g t) (f t).j (f t).r1 (f t).r2 (f t).r4 (f t).r5 (f t).r6 (f t).r7 (q t)
 hmi:∀ t,t < T→mem.getD (19+T+t) 0=(mi t:Int)
 hpi:∀ t,t < T→mem.getD (19+2*T+t) 0=(pi t:Int)
 hmn:∀ t,t < T→mn t≤T∧mn t≠F
 inj:∀ t u,t < T→u < T→mn t=mn u→t=u
 hF:F≤T∧mem.getD (18+F) 0=0
 hpd:∀ t,t < T→g t≠0→pd t≤T
 nd:Q.Nodup
 inQ:∀ t,t < T→(t∈Q↔g t≠0)
 ltQ:∀ t∈Q,t < T
 hd:∀ h r,Q=h::r→g h=3∧pd h=F∧CChain g mn pd (h::r)
 fl:∀ t∈Q,mem.getD (18+mn t) 0=1
 tl:mem.getD 16 0=(tailM mn F Q:Int)
def X(T R:Nat):Wd.Lk:=⟨fun _=>37,R,T,19+3*T,fun _=>inR,fun _=>20,fun mem f q=>∃ g mi pi mn pd F Q,Inw T mem f q g mi pi mn pd F Q⟩
section
variable{T R t F:Nat}{codes:List (List Ins)}{s:Ts}{f:Nat→Loc}{i:Int}{mem:List Int}{q:Nat→List (Nat×Int)}{g mi pi mn pd:Nat→Nat}{Q:List Nat}
theorem Inw.head(h:Inw T mem f q g mi pi mn pd F Q)(ht:t < T)(h3:g t=3):∃ r,Q=t::r:=by
 have h1:=(h.inQ t ht).2 (by omega)
 cases Q with
 | nil=>cases h1
 | cons a r=>
  rcases List.mem_cons.1 h1 with rfl | h1
  ·exact⟨r,rfl⟩
  ·have:=((h.hd a r rfl).2.2.mem t h1).1
   omega
theorem Inw.ex{u:Nat}(h:Inw T mem f q g mi pi mn pd F Q)(ht:t < T)(h3:g t=3)(hu:u < T)(hne:t≠u):g u≠3:=fun e=>by
 obtain⟨r,h1⟩:=h.head ht h3
 obtain⟨r2,h2⟩:=h.head hu e
 rw [h1] at h2
 injection h2 with h2 _
 exact hne h2
theorem Inw.flagP(h:Inw T mem f q g mi pi mn pd F Q)(ht:t < T):(g t=3→mem.getD (18+pd t) 0=0)∧(g t=1→mem.getD (18+pd t) 0=1):=by
 refine⟨fun e=>?_,fun e=>?_⟩
 ·obtain⟨r,hQ⟩:=h.head ht e
  rw [(h.hd t r hQ).2.1];exact h.hF.2
 ·have h1:=(h.inQ t ht).2 (by omega)
  cases Q with
  | nil=>cases h1
  | cons a r=>
   have h3:=h.hd a r rfl
   rcases List.mem_cons.1 h1 with e2 | h1
   ·subst e2;omega
   ·obtain⟨_,p,hp,e2⟩:=h3.2.2.mem t h1
    rw [e2];exact h.fl p hp
theorem Inw.put{x:Loc}{q':List (Nat×Int)}(h:Inw T mem f q g mi pi mn pd F Q)(hx:At T t (meN t) (mem.getD 17 0) (mem.getD 0 0) (mem.getD (18+mn t) 0) (mi t) (pi t) (mn t) (pd t) (g t) x.j x.r1 x.r2 x.r4 x.r5 x.r6 x.r7 q'):Inw T mem (upF f t x) (upF q t q') g mi pi mn pd F Q:=by
 refine⟨fun u hu=>?_,h.hmi,h.hpi,h.hmn,h.inj,h.hF,h.hpd,h.nd,h.inQ,h.ltQ,h.hd,h.fl,h.tl⟩
 by_cases e:u=t
 ·subst e;rw [upF_self,upF_self];exact hx
 ·rw [upF_ne _ _ e,upF_ne _ _ e];exact h.hat u hu
theorem IL{x:Loc}(h:Inw T mem f q g mi pi mn pd F Q)(hx:At T t (meN t) (mem.getD 17 0) (mem.getD 0 0) (mem.getD (18+mn t) 0) (mi t) (pi t) (mn t) (pd t) (g t) x.j x.r1 x.r2 x.r4 x.r5 x.r6 x.r7 (q t)):(X T R).I mem (upF f t x) q:=by
 have:=h.put (q':=q t) hx
 rw [upF_id q t] at this
 exact⟨_,_,_,_,_,_,_,this⟩
theorem flush(h:(X T R).Inv s f i)(ht:t < T):(X T R).Inv (s.flush t) f i:=by
 refine h.flushed ht (fun e r hq=>?_)
 obtain⟨g,mi,pi,mn,pd,F,Q,hI⟩:=h.I
 have hnm:s.mem.length=19+3*T:=h.nm
 have hat:=hI.hat t ht
 rw [hq] at hat
 have hmp:=meN_pos t
 have hmu:=fun u (h:t≠u)=>meN_ne h
 have hmT:=fun u hu=>(hI.hmn u hu).1
 have hFT:=hI.hF.1
 have hmt:=hmT t ht
 obtain⟨ad,v⟩:=e
 -- the same stage: the owner's word,the count
 have fin:∀ {ad:Nat} {v:Int},ad < s.mem.length→ad < 18→ad≠16→At T t (meN t) ((s.mem.set ad v).getD 17 0) ((s.mem.set ad v).getD 0 0) (s.mem.getD (18+mn t) 0) (mi t) (pi t) (mn t) (pd t) (g t) (f t).j (f t).r1 (f t).r2 (f t).r4 (f t).r5 (f t).r6 (f t).r7 r→(∀ u,u < T→u≠t→At T u (meN u) ((s.mem.set ad v).getD 17 0) ((s.mem.set ad v).getD 0 0) (s.mem.getD (18+mn u) 0) (mi u) (pi u) (mn u) (pd u) (g u) (f u).j (f u).r1 (f u).r2 (f u).r4 (f u).r5 (f u).r6 (f u).r7 (s.buf u))→(X T R).I (s.mem.set ad v) f (upF s.buf t r):=fun {ad v} h0 h1 h2 h3 h4=>by
  have mb:∀ b,18≤b→(s.mem.set ad v).getD b 0=s.mem.getD b 0:=fun b hb=>(get_set h0).trans (if_neg (by omega))
  refine⟨g,mi,pi,mn,pd,F,Q,fun u hu=>?_,fun u hu=>by rw [mb _ (by omega)];exact hI.hmi u hu,fun u hu=>by rw [mb _ (by omega)];exact hI.hpi u hu,hI.hmn,hI.inj,⟨hFT,by rw [mb _ (by omega)];exact hI.hF.2⟩,hI.hpd,hI.nd,hI.inQ,hI.ltQ,hI.hd,fun u hu=>by rw [mb _ (by omega)];exact hI.fl u hu,by rw [get_set h0,if_neg h2];exact hI.tl⟩
  rw [mb (18+mn u) (by omega)]
  by_cases e:u=t
  ·subst e;rw [upF_self];exact h3
  ·rw [upF_ne _ _ e];exact h4 u hu e
 have hoth:g t=3→∀ ow' c' u,u < T→u≠t→ow'≠meN u→At T u (meN u) ow' c' (s.mem.getD (18+mn u) 0) (mi u) (pi u) (mn u) (pd u) (g u) (f u).j (f u).r1 (f u).r2 (f u).r4 (f u).r5 (f u).r6 (f u).r7 (s.buf u):=fun h3 ow' c' u hu hne ho=>(hI.hat u hu).other (hI.ex ht h3 hu (fun e=>hne e.symm)) ho
 rcases own_buf hat hmp with⟨e1,hr⟩ | ⟨e1,hg,hr⟩ | ⟨e1,hg,hr⟩ | ⟨e1,hg,hr⟩ | ⟨e1,hg,hr⟩ | ⟨e1,hg,hz,hr⟩ | ⟨e1,hg,hr⟩
 ·have ea:ad=19+2*T+t:=congrArg Prod.fst e1
  have ev:v=(pd t:Int):=congrArg Prod.snd e1
  subst ea ev
  have mo:∀ b,b < 19+T→(s.mem.set (19+2*T+t) (pd t:Int)).getD b 0=s.mem.getD b 0:=fun b hb=>(get_set (by omega)).trans (if_neg (by omega))
  have mt:(s.mem.set (19+2*T+t) (pd t:Int)).getD (19+2*T+t) 0=(pd t:Int):=(get_set (by omega)).trans (if_pos rfl)
  have hg0:g t≠0:=by rcases hr with⟨h,_⟩ | ⟨h,_⟩<;>omega
  refine⟨⟨g,mi,upF pi t (pd t),mn,pd,F,Q,fun u hu=>?_,fun u hu=>?_,fun u hu=>?_,hI.hmn,hI.inj,⟨hFT,by rw [mo _ (by omega)];exact hI.hF.2⟩,hI.hpd,hI.nd,hI.inQ,hI.ltQ,hI.hd,fun u hu=>by rw [mo _ (by have:=hmT u (hI.ltQ u hu);omega)];exact hI.fl u hu,by rw [mo _ (by omega)];exact hI.tl⟩,.inl (show 19+2*T+t≠0 by omega)⟩
  ·have:=hmT u hu
   rw [mo 17 (by omega),mo 0 (by omega),mo (18+mn u) (by omega)]
   by_cases e:u=t
   ·subst e;rw [upF_self,upF_self];rcases hr with⟨h,hr⟩ | ⟨h,hr⟩<;>rw [h]<;>exact hr
   ·rw [upF_ne _ _ e,upF_ne _ _ e];exact hI.hat u hu
  ·rw [get_set (by omega),if_neg (by omega)];exact hI.hmi u hu
  ·by_cases e:u=t
   ·subst e;rw [mt,upF_self]
   ·rw [upF_ne _ _ e,get_set (by omega),if_neg (by omega)];exact hI.hpi u hu
 ·have ea:ad=17:=congrArg Prod.fst e1
  have ev:v=meN t:=congrArg Prod.snd e1
  subst ea ev
  have m17:(s.mem.set 17 (meN t)).getD 17 0=meN t:=(get_set (by omega)).trans (if_pos rfl)
  have m0:(s.mem.set 17 (meN t)).getD 0 0=s.mem.getD 0 0:=(get_set (by omega)).trans (if_neg (by omega))
  exact⟨fin (by omega) (show (17:Nat) < 18 by decide) (show (17:Nat)≠16 by decide) (by rw [m17,m0];rw [hg];exact hr) (fun u hu hne=>by rw [m17,m0];exact hoth hg _ _ u hu hne (hmu u (fun e=>hne e.symm))),.inl (show (17:Nat)≠0 by decide)⟩
 ·have ea:ad=0:=congrArg Prod.fst e1
  have ev:v=wr32 (s.mem.getD 0 0+1):=congrArg Prod.snd e1
  subst ea ev
  have m17:(s.mem.set 0 (wr32 (s.mem.getD 0 0+1))).getD 17 0=s.mem.getD 17 0:=(get_set (by omega)).trans (if_neg (by omega))
  have m0:(s.mem.set 0 (wr32 (s.mem.getD 0 0+1))).getD 0 0=wr32 (s.mem.getD 0 0+1):=(get_set (by omega)).trans (if_pos rfl)
  exact⟨fin (by omega) (show (0:Nat) < 18 by decide) (show (0:Nat)≠16 by decide) (by rw [m17,m0];rw [hg];exact hr _) (fun u hu hne=>by rw [m17,m0];exact hoth hg _ _ u hu hne (((hI.hat u hu).out (hI.ex ht hg hu (fun e=>hne e.symm))).1)),.inr ⟨rfl,by show 0 < 19+3*T;omega,rfl⟩⟩
 ·have ea:ad=17:=congrArg Prod.fst e1
  have ev:v=0:=congrArg Prod.snd e1
  subst ea ev
  have m17:(s.mem.set 17 (0)).getD 17 0=0:=(get_set (by omega)).trans (if_pos rfl)
  have m0:(s.mem.set 17 (0)).getD 0 0=s.mem.getD 0 0:=(get_set (by omega)).trans (if_neg (by omega))
  exact⟨fin (by omega) (show (17:Nat) < 18 by decide) (show (17:Nat)≠16 by decide) (by rw [m17,m0];rw [hg];exact hr) (fun u hu hne=>by rw [m17,m0];exact hoth hg _ _ u hu hne (by have:=meN_pos u;omega)),.inl (show (17:Nat)≠0 by decide)⟩
 ·have ea:ad=19+T+t:=congrArg Prod.fst e1
  have ev:v=(pd t:Int):=congrArg Prod.snd e1
  subst ea ev
  have mo:∀ b,b < 19+T→(s.mem.set (19+T+t) (pd t:Int)).getD b 0=s.mem.getD b 0:=fun b hb=>(get_set (by omega)).trans (if_neg (by omega))
  have mt:(s.mem.set (19+T+t) (pd t:Int)).getD (19+T+t) 0=(pd t:Int):=(get_set (by omega)).trans (if_pos rfl)
  have hg0:g t≠0:=by omega
  refine⟨⟨g,upF mi t (pd t),pi,mn,pd,F,Q,fun u hu=>?_,fun u hu=>?_,fun u hu=>?_,hI.hmn,hI.inj,⟨hFT,by rw [mo _ (by omega)];exact hI.hF.2⟩,hI.hpd,hI.nd,hI.inQ,hI.ltQ,hI.hd,fun u hu=>by rw [mo _ (by have:=hmT u (hI.ltQ u hu);omega)];exact hI.fl u hu,by rw [mo _ (by omega)];exact hI.tl⟩,.inl (show 19+T+t≠0 by omega)⟩
  ·have:=hmT u hu
   rw [mo 17 (by omega),mo 0 (by omega),mo (18+mn u) (by omega)]
   by_cases e:u=t
   ·subst e;rw [upF_self,upF_self];rw [hg];exact hr
   ·rw [upF_ne _ _ e,upF_ne _ _ e];exact hI.hat u hu
  ·by_cases e:u=t
   ·subst e;rw [mt,upF_self]
   ·rw [upF_ne _ _ e,get_set (by omega),if_neg (by omega)];exact hI.hmi u hu
  ·rw [get_set (by omega),if_neg (by omega)];exact hI.hpi u hu
 ·have ea:ad=18+mn t:=congrArg Prod.fst e1
  have ev:v=0:=congrArg Prod.snd e1
  subst ea ev
  obtain⟨r',hQ⟩:=hI.head ht hg
  obtain⟨_,hF,hc⟩:=hI.hd t r' hQ
  have hnd:=hI.nd
  rw [hQ] at hnd
  have hnd1:=List.nodup_cons.1 hnd
  have mo:∀ b,b≠18+mn t→(s.mem.set (18+mn t) 0).getD b 0=s.mem.getD b 0:=fun b hb=>(get_set (by omega)).trans (if_neg (fun e=>hb e.symm))
  have mt:(s.mem.set (18+mn t) 0).getD (18+mn t) 0=0:=(get_set (by omega)).trans (if_pos rfl)
  have hneF:=(hI.hmn t ht).2
  have hin:=fun u hu (hne:u≠t)=>fun e=>hne (hI.inj u t hu ht e)
  have lt2:∀ u∈r',u < T:=fun u hu=>hI.ltQ u (by rw [hQ];exact List.mem_cons_of_mem _ hu)
  have ne2:∀ u∈r',u≠t:=fun u hu e=>hnd1.1 (by rw [←e];exact hu)
  -- whom it wakes
  obtain⟨g',hg1,hg2,hg3,hg4⟩:∃ g':Nat→Nat,g' t=0∧(∀ u,u≠t→(g' u=g u∨(g u=1∧g' u=3)))∧(∀ h r,r'=h::r→g' h=3)∧(∀ h r,r'=h::r→∀ u∈r,g' u=g u):=by
   cases r' with
   | nil=>exact⟨upF g t 0,upF_self ..,fun u hu=>.inl (upF_ne _ _ hu),fun h r e=>(by cases e),fun h r e=>(by cases e)⟩
   | cons u r'=>
    have hgu:g u=1:=hc.1.1
    have hut:t≠u:=fun e=>ne2 u (by simp) e.symm
    refine⟨upF (upF g t 0) u 3,by rw [upF_ne _ _ hut,upF_self],fun w hw=>?_,fun h r e=>?_,fun h r e w hw=>?_⟩
    ·by_cases e:w=u
     ·subst e;exact .inr ⟨hgu,upF_self ..⟩
     ·exact .inl (by rw [upF_ne _ _ e,upF_ne _ _ hw])
    ·injection e with e1 e2
     subst e1;exact upF_self ..
    ·injection e with e1 e2
     subst e1 e2
     have hnd2:=List.nodup_cons.1 hnd1.2
     rw [upF_ne _ _ (fun e=>hnd2.1 (by rw [←e];exact hw)),upF_ne _ _ (ne2 w (List.mem_cons_of_mem _ hw))]
  refine⟨⟨g',mi,pi,upF mn t (pd t),pd,mn t,r',fun u hu=>?_,fun u hu=>by rw [mo _ (by omega)];exact hI.hmi u hu,fun u hu=>by rw [mo _ (by omega)];exact hI.hpi u hu,fun u hu=>?_,fun u w hu hw e=>?_,⟨hmt,mt⟩,fun u hu e=>?_,hnd1.2,fun u hu=>?_,lt2,fun h r e=>?_,fun u hu=>?_,?_⟩,.inl (show 18+mn t≠0 by omega)⟩
  ·rw [mo 17 (by omega),mo 0 (by omega)]
   by_cases e:u=t
   ·subst e;rw [upF_self,upF_self,hg1];exact hr _ _
   ·rw [upF_ne _ _ e,upF_ne _ _ e,mo _ (fun e2=>hin u hu e (by omega))]
    rcases hg2 u e with h | ⟨h1,h2⟩
    ·rw [h];exact hI.hat u hu
    ·rw [h2];exact (hI.hat u hu).wake h1
  ·by_cases e:u=t
   ·subst e;rw [upF_self,hF];exact⟨hFT,fun e=>hneF e.symm⟩
   ·rw [upF_ne _ _ e];exact⟨hmT u hu,hin u hu e⟩
  ·by_cases e1:u=t
   ·by_cases e2:w=t
    ·rw [e1,e2]
    ·subst e1;rw [upF_self,upF_ne _ _ e2,hF] at e;exact absurd e.symm (hI.hmn w hw).2
   ·by_cases e2:w=t
    ·subst e2;rw [upF_self,upF_ne _ _ e1,hF] at e;exact absurd e (hI.hmn u hu).2
    ·rw [upF_ne _ _ e1,upF_ne _ _ e2] at e;exact hI.inj u w hu hw e
  ·by_cases e1:u=t
   ·subst e1;exact absurd hg1 e
   ·exact hI.hpd u hu (by rcases hg2 u e1 with h | ⟨h,_⟩<;>omega)
  ·have h1:=hI.inQ u hu
   rw [hQ] at h1
   by_cases e1:u=t
   ·subst e1;rw [hg1];exact⟨fun h=>absurd h hnd1.1,fun h=>absurd rfl h⟩
   ·have h2:g' u≠0↔g u≠0:=by rcases hg2 u e1 with h | ⟨h,h'⟩<;>omega
    rw [h2,←h1]
    exact⟨fun h=>List.mem_cons_of_mem _ h,fun h=>by
     rcases List.mem_cons.1 h with h | h
     ·exact absurd h e1
     ·exact h⟩
  ·subst e
   refine⟨hg3 h r rfl,hc.1.2,hc.2.congr (fun w hw=>⟨hg4 h r rfl w hw,rfl⟩) (fun w hw=>upF_ne _ _ (ne2 w hw))⟩
  ·rw [upF_ne _ _ (ne2 u hu),mo _ (fun e=>hin u (lt2 u hu) (ne2 u hu) (by omega))]
   exact hI.fl u (by rw [hQ];exact List.mem_cons_of_mem _ hu)
  ·rw [mo _ (by omega),hI.tl,hQ]
   cases r' with
   | nil=>rfl
   | cons u r'=>
    have:=tailM_congr (mn:=mn) (mn':=upF mn t (pd t)) (F:=F) (F':=mn t) (Q:=u::r') (by simp) (fun w hw=>upF_ne _ _ (ne2 w hw))
    rw [this];rfl
 ·have ea:ad=18+mn t:=congrArg Prod.fst e1
  have ev:v=1:=congrArg Prod.snd e1
  subst ea ev
  have mo:∀ b,b≠18+mn t→(s.mem.set (18+mn t) 1).getD b 0=s.mem.getD b 0:=fun b hb=>(get_set (by omega)).trans (if_neg (fun e=>hb e.symm))
  have mt:(s.mem.set (18+mn t) 1).getD (18+mn t) 0=1:=(get_set (by omega)).trans (if_pos rfl)
  have hneF:=(hI.hmn t ht).2
  have hin:=fun u hu (hne:u≠t)=>fun e=>hne (hI.inj u t hu ht e)
  have hnQ:t∉Q:=fun h=>(hI.inQ t ht).1 h hg
  refine⟨⟨g,mi,pi,mn,pd,F,Q,fun u hu=>?_,fun u hu=>by rw [mo _ (by omega)];exact hI.hmi u hu,fun u hu=>by rw [mo _ (by omega)];exact hI.hpi u hu,hI.hmn,hI.inj,⟨hFT,by rw [mo _ (by omega)];exact hI.hF.2⟩,hI.hpd,hI.nd,hI.inQ,hI.ltQ,hI.hd,fun u hu=>?_,by rw [mo _ (by omega)];exact hI.tl⟩,.inl (show 18+mn t≠0 by omega)⟩
  ·rw [mo 17 (by omega),mo 0 (by omega)]
   by_cases e:u=t
   ·subst e;rw [upF_self,mt,hg];exact hr
   ·rw [upF_ne _ _ e,mo _ (fun e2=>hin u hu e (by omega))];exact hI.hat u hu
  ·have hne:u≠t:=fun e=>hnQ (by rw [←e];exact hu)
   rw [mo _ (fun e2=>hin u (hI.ltQ u hu) hne (by omega))];exact hI.fl u hu
set_option maxHeartbeats 8000000 in
theorem step(h:(X T R).Inv s f i)(ht:t < T)(hT:T≤100)(hR:R≤100)(hc:codes[t]? = some (codeT T R t))(h0:(f t).st=0)(hp:(f t).p < R)(hj:(f t).j < 37):∃ s' f' i',s.stepT codes t=some s'∧(X T R).Inv s' f' i':=by
 have eL:(X T R).Lb t=37:=rfl
 have er:(X T R).inR t=inR:=rfl
 have ej:(X T R).js t=20:=rfl
 obtain⟨x,hx⟩:∃ x,f t=x:=⟨_,rfl⟩
 obtain⟨g,mi,pi,mn,pd,F,Q,hI⟩:=h.I
 have hat:=hI.hat t ht
 have hmi:=hI.hmi t ht
 have hpi:=hI.hpi t ht
 have hmT:=(hI.hmn t ht).1
 have hpd:=hI.hpd t ht
 have hfp:=hI.flagP ht
 have hs:=h.hs _ ht
 have hnm:s.mem.length=19+3*T:=h.nm
 rw [hx] at hat hs h0 hp hj
 rw [eL] at hs
 obtain⟨p,j,r0,r1,r2,r3,r4,r5,r6,r7,st⟩:=x
 dsimp only at hat h0 hp hj
 subst h0
 obtain⟨me,hme⟩:∃ me:Int,me=meN t:=⟨_,rfl⟩
 have hme0:0 < me:=by have:=meN_pos t;omega
 have hmet:((t+1:Nat):Int)=me:=hme.symm
 have ins:=fun {i:Ins} (hi:(base T t)[j]? = some i)=>at_ins (L:=37) (i:=i) hc hs (code_get T R t p j hT (by omega) hp hj) hi
 generalize hq:s.buf t=q at hat
 generalize hgt:g t=gt at hat hpd hfp
 obtain⟨y1,hy1⟩:∃ n,mi t=n:=⟨_,rfl⟩
 obtain⟨y2,hy2⟩:∃ n,pi t=n:=⟨_,rfl⟩
 obtain⟨n,hn⟩:∃ n,mn t=n:=⟨_,rfl⟩
 obtain⟨b,hb⟩:∃ n,pd t=n:=⟨_,rfl⟩
 rw [hy1] at hat hmi
 rw [hy2] at hat hpi
 rw [hn] at hat hmT
 rw [hb] at hat hpd hfp
 obtain⟨fw,hfw⟩:∃ fw,s.mem.getD (18+n) 0=fw:=⟨_,rfl⟩
 rw [←hme,hfw] at hat
 cases hat
 case a0H06 g0 g1 | a0H16 g0 g1 g2 | a0H26 g0 g1 g2 g3 | a0H36 g0 g1 g2 g3 | a0H46 g0 g1 g2 g3 | a0H56 g0 g1 g2 g3 | a0H66 g0 g1 g2=>
  have hi:=ins (i:=⟨27,7,0,0,0⟩) rfl
  rw [movI_plain (i:=⟨27,7,0,0,0⟩) rfl] at hi
  have hmk:=st_mark hi
  have hg:=h.marked (t:=t) ⟨7,0,((p*37+0:Nat):Int),0,r7,0,0,false⟩ rfl (.inl rfl)
  have key:=W_loc hg ht eL er ej (⟨p,1,r0,r1,r2,r3,r4,r5,r6,r7,0⟩:Loc) (.inl ⟨rfl,hp,by show 1 < 37;decide⟩) (IL (mem:=s.mem) (q:=s.buf) hI (by rw [←hme,hq,hgt,hy1,hy2,hn,hb,hfw];first | (apply At.a1H06<;>(first | assumption | rfl | (simp_all;done));done) | (apply At.a1H16<;>(first | assumption | rfl | (simp_all;done));done) | (apply At.a1H26<;>(first | assumption | rfl | (simp_all;done));done) | (apply At.a1H36<;>(first | assumption | rfl | (simp_all;done));done) | (apply At.a1H46<;>(first | assumption | rfl | (simp_all;done));done) | (apply At.a1H56<;>(first | assumption | rfl | (simp_all;done));done) | (apply At.a1H66<;>(first | assumption | rfl | (simp_all;done));done))) (by rw [hx];rfl) (by rw [hx]) (by rw [hx];rfl)
  rw [show Loc.th 37 _=_ from th_of rfl] at key
  exact⟨_,_,_,hmk,key⟩
 case a1H06 g0 g1 | a1H16 g0 g1 g2 | a1H26 g0 g1 g2 g3 | a1H36 g0 g1 g2 g3=>
  have hi:=ins (i:=⟨16,4,8,0,17⟩) rfl
  rw [movI_plain (i:=⟨16,4,8,0,17⟩) rfl] at hi
  have hst:=st_load hi (ad:=17) (addr_abs _ _ _ _ _) (by rw [hnm];omega)
  have hl:s.load t 17=(0:Int):=by rw [load_q hq];(repeat (rw [Wd.lastQ_cons];first | rw [if_neg (by dsimp only;omega)] | rw [if_pos rfl]));rfl
  rw [hl] at hst
  have hg:=h.noted (t:=t) ⟨1,0,((p*37+1:Nat):Int),((17:Nat):Int),(0:Int),0,0,false⟩ (show (1:Int)≠7 by decide) (show (1:Int)≠13 by decide)
  have key:=W_loc hg ht eL er ej (⟨p,2,r0,r1,r2,r3,(0:Int),r5,r6,r7,0⟩:Loc) (.inl ⟨rfl,hp,by show 2 < 37;decide⟩) (IL (mem:=s.mem) (q:=s.buf) hI (by rw [←hme,hq,hgt,hy1,hy2,hn,hb,hfw];first | (apply At.a2H06<;>(first | assumption | rfl | omega | (intro e;dsimp only at e;omega));done) | (apply At.a2H16<;>(first | assumption | rfl | omega | (intro e;dsimp only at e;omega));done) | (apply At.a2H26<;>(first | assumption | rfl | omega | (intro e;dsimp only at e;omega));done) | (apply At.a2H36<;>(first | assumption | rfl | omega | (intro e;dsimp only at e;omega));done))) (by rw [hx];rfl) (by rw [hx]) (by rw [hx];rfl)
  rw [show Loc.th 37 _=_ from th_of rfl] at key
  exact⟨_,_,_,hst,key⟩
 case a1H46 g0 g1 g2 g3 | a1H56 g0 g1 g2 g3=>
  have hi:=ins (i:=⟨16,4,8,0,17⟩) rfl
  rw [movI_plain (i:=⟨16,4,8,0,17⟩) rfl] at hi
  have hst:=st_load hi (ad:=17) (addr_abs _ _ _ _ _) (by rw [hnm];omega)
  have hl:s.load t 17=(s.mem.getD 17 0):=by rw [load_q hq];(repeat (rw [Wd.lastQ_cons];first | rw [if_neg (by dsimp only;omega)] | rw [if_pos rfl]));rfl
  rw [hl] at hst
  have hg:=h.noted (t:=t) ⟨1,0,((p*37+1:Nat):Int),((17:Nat):Int),(s.mem.getD 17 0),0,0,false⟩ (show (1:Int)≠7 by decide) (show (1:Int)≠13 by decide)
  have key:=W_loc hg ht eL er ej (⟨p,2,r0,r1,r2,r3,(s.mem.getD 17 0),r5,r6,r7,0⟩:Loc) (.inl ⟨rfl,hp,by show 2 < 37;decide⟩) (IL (mem:=s.mem) (q:=s.buf) hI (by rw [←hme,hq,hgt,hy1,hy2,hn,hb,hfw];first | (apply At.a2H46<;>(first | assumption | rfl | omega | (intro e;dsimp only at e;omega));done) | (apply At.a2H56<;>(first | assumption | rfl | omega | (intro e;dsimp only at e;omega));done))) (by rw [hx];rfl) (by rw [hx]) (by rw [hx];rfl)
  rw [show Loc.th 37 _=_ from th_of rfl] at key
  exact⟨_,_,_,hst,key⟩
 case a1H66 g0 g1 g2=>
  have hi:=ins (i:=⟨16,4,8,0,17⟩) rfl
  rw [movI_plain (i:=⟨16,4,8,0,17⟩) rfl] at hi
  have hst:=st_load hi (ad:=17) (addr_abs _ _ _ _ _) (by rw [hnm];omega)
  have hl:s.load t 17=(s.mem.getD 17 0):=by rw [load_q hq];rfl
  rw [hl] at hst
  have hg:=h.noted (t:=t) ⟨1,0,((p*37+1:Nat):Int),((17:Nat):Int),(s.mem.getD 17 0),0,0,false⟩ (show (1:Int)≠7 by decide) (show (1:Int)≠13 by decide)
  have key:=W_loc hg ht eL er ej (⟨p,2,r0,r1,r2,r3,(s.mem.getD 17 0),r5,r6,r7,0⟩:Loc) (.inl ⟨rfl,hp,by show 2 < 37;decide⟩) (IL (mem:=s.mem) (q:=s.buf) hI (by rw [←hme,hq,hgt,hy1,hy2,hn,hb,hfw];apply At.a2H66<;>first | assumption | rfl | omega | (intro e;dsimp only at e;omega))) (by rw [hx];rfl) (by rw [hx]) (by rw [hx];rfl)
  rw [show Loc.th 37 _=_ from th_of rfl] at key
  exact⟨_,_,_,hst,key⟩
 case a2H06 g0 g1 g2 | a2H16 g0 g1 g2 g3 | a2H26 g0 g1 g2 g3 g4 | a2H36 g0 g1 g2 g3 g4 | a2H46 g0 g1 g2 g3 g4 | a2H56 g0 g1 g2 g3 g4 | a2H66 g0 g1 g2 g3=>
  have hi:=ins (i:=⟨1,5,0,0,((t+1:Nat):Int)⟩) rfl
  rw [movI_plain (i:=⟨1,5,0,0,((t+1:Nat):Int)⟩) rfl] at hi
  rw [hmet] at hi
  have hst:=st_set hi
  have key:=W_loc h ht eL er ej (⟨p,3,r0,r1,r2,r3,r4,me,r6,r7,0⟩:Loc) (.inl ⟨rfl,hp,by show 3 < 37;decide⟩) (IL (mem:=s.mem) (q:=s.buf) hI (by rw [←hme,hq,hgt,hy1,hy2,hn,hb,hfw];first | (apply At.a3H06<;>(first | assumption | rfl | (simp_all;done));done) | (apply At.a3H16<;>(first | assumption | rfl | (simp_all;done));done) | (apply At.a3H26<;>(first | assumption | rfl | (simp_all;done));done) | (apply At.a3H36<;>(first | assumption | rfl | (simp_all;done));done) | (apply At.a3H46<;>(first | assumption | rfl | (simp_all;done));done) | (apply At.a3H56<;>(first | assumption | rfl | (simp_all;done));done) | (apply At.a3H66<;>(first | assumption | rfl | (simp_all;done));done))) (by rw [hx];rfl) (by rw [hx]) (by rw [hx];rfl)
  rw [show Loc.th 37 _=_ from th_of rfl] at key
  exact⟨_,_,_,hst,key⟩
 case a3H06 g0 g1 g2 g3 | a3H16 g0 g1 g2 g3 g4 | a3H26 g0 g1 g2 g3 g4 g5 | a3H36 g0 g1 g2 g3 g4 g5 | a3H46 g0 g1 g2 g3 g4 g5 | a3H56 g0 g1 g2 g3 g4 g5 | a3H66 g0 g1 g2 g3 g4=>
  have hi:=ins (i:=⟨12,6,4,5,0⟩) rfl
  rw [movI_plain (i:=⟨12,6,4,5,0⟩) rfl] at hi
  have hst:=st_same hi
  have hv:(if r4=r5 then (1:Int) else 0)=0:=by simp_all
  have key:=W_loc h ht eL er ej (⟨p,4,r0,r1,r2,r3,r4,r5,(if r4=r5 then (1:Int) else 0),r7,0⟩:Loc) (.inl ⟨rfl,hp,by show 4 < 37;decide⟩) (IL (mem:=s.mem) (q:=s.buf) hI (by rw [←hme,hq,hgt,hy1,hy2,hn,hb,hfw];first | (apply At.a4H06<;>(first | assumption | exact hv | (rw [hv];decide));done) | (apply At.a4H16<;>(first | assumption | exact hv | (rw [hv];decide));done) | (apply At.a4H26<;>(first | assumption | exact hv | (rw [hv];decide));done) | (apply At.a4H36<;>(first | assumption | exact hv | (rw [hv];decide));done) | (apply At.a4H46<;>(first | assumption | exact hv | (rw [hv];decide));done) | (apply At.a4H56<;>(first | assumption | exact hv | (rw [hv];decide));done) | (apply At.a4H66<;>(first | assumption | exact hv | (rw [hv];decide));done))) (by rw [hx];rfl) (by rw [hx]) (by rw [hx];rfl)
  rw [show Loc.th 37 _=_ from th_of rfl] at key
  exact⟨_,_,_,hst,key⟩
 case a4H06 g0 g1 g2 g3 | a4H16 g0 g1 g2 g3 g4 | a4H26 g0 g1 g2 g3 g4 g5 | a4H36 g0 g1 g2 g3 g4 g5 | a4H46 g0 g1 g2 g3 g4 g5 | a4H56 g0 g1 g2 g3 g4 g5 | a4H66 g0 g1 g2 g3 g4=>
  have hi:=ins (i:=⟨14,6,0,0,7⟩) rfl
  rw [movI_jump (i:=⟨14,6,0,0,7⟩) rfl] at hi
  have hst:=st_zero hi
  by_cases hz:r6=0
  ·rw [if_pos (by exact hz)] at hst
   have key:=W_loc h ht eL er ej (⟨p,7,r0,r1,r2,r3,r4,r5,r6,r7,0⟩:Loc) (.inl ⟨rfl,hp,by show 7 < 37;decide⟩) (IL (mem:=s.mem) (q:=s.buf) hI (by rw [←hme,hq,hgt,hy1,hy2,hn,hb,hfw];first | (apply At.a7H06<;>(first | assumption | (simp_all;done));done) | (apply At.a7H16<;>(first | assumption | (simp_all;done));done) | (apply At.a7H26<;>(first | assumption | (simp_all;done));done) | (apply At.a7H36<;>(first | assumption | (simp_all;done));done) | (apply At.a7H46<;>(first | assumption | (simp_all;done));done) | (apply At.a7H56<;>(first | assumption | (simp_all;done));done) | (apply At.a7H66<;>(first | assumption | (simp_all;done));done))) (by rw [hx];rfl) (by rw [hx]) (by rw [hx];rfl)
   rw [show Loc.th 37 _=_ from th_jmp (by omega) (by decide) (by decide)] at key
   exact⟨_,_,_,hst,key⟩
  ·rw [if_neg (by exact hz)] at hst
   exfalso;simp_all
 case a7H06 g0 g1 g2 | a7H16 g0 g1 g2 g3 | a7H26 g0 g1 g2 g3 g4 | a7H36 g0 g1 g2 g3 g4 | a7H46 g0 g1 g2 g3 g4=>
  have hi:=ins (i:=⟨16,4,8,0,((19+T+t:Nat):Int)⟩) rfl
  rw [movI_plain (i:=⟨16,4,8,0,((19+T+t:Nat):Int)⟩) rfl] at hi
  have hst:=st_load hi (ad:=(19+T+t)) (addr_abs _ _ _ _ _) (by rw [hnm];omega)
  have hl:s.load t (19+T+t)=(b:Int):=by rw [load_q hq];(repeat (rw [Wd.lastQ_cons];first | rw [if_neg (by dsimp only;omega)] | rw [if_pos rfl]));rfl
  rw [hl] at hst
  have hg:=h.noted (t:=t) ⟨1,0,((p*37+7:Nat):Int),((19+T+t:Nat):Int),(b:Int),0,0,false⟩ (show (1:Int)≠7 by decide) (show (1:Int)≠13 by decide)
  have key:=W_loc hg ht eL er ej (⟨p,8,r0,r1,r2,r3,(b:Int),r5,r6,r7,0⟩:Loc) (.inl ⟨rfl,hp,by show 8 < 37;decide⟩) (IL (mem:=s.mem) (q:=s.buf) hI (by rw [←hme,hq,hgt,hy1,hy2,hn,hb,hfw];first | (apply At.a8H06<;>(first | assumption | rfl | omega | (intro e;dsimp only at e;omega));done) | (apply At.a8H16<;>(first | assumption | rfl | omega | (intro e;dsimp only at e;omega));done) | (apply At.a8H26<;>(first | assumption | rfl | omega | (intro e;dsimp only at e;omega));done) | (apply At.a8H36<;>(first | assumption | rfl | omega | (intro e;dsimp only at e;omega));done) | (apply At.a8H46<;>(first | assumption | rfl | omega | (intro e;dsimp only at e;omega));done))) (by rw [hx];rfl) (by rw [hx]) (by rw [hx];rfl)
  rw [show Loc.th 37 _=_ from th_of rfl] at key
  exact⟨_,_,_,hst,key⟩
 case a7H56 g0 g1 g2 g3 g4=>
  have hi:=ins (i:=⟨16,4,8,0,((19+T+t:Nat):Int)⟩) rfl
  rw [movI_plain (i:=⟨16,4,8,0,((19+T+t:Nat):Int)⟩) rfl] at hi
  have hst:=st_load hi (ad:=(19+T+t)) (addr_abs _ _ _ _ _) (by rw [hnm];omega)
  have hl:s.load t (19+T+t)=(b:Int):=by rw [load_q hq];(repeat (rw [Wd.lastQ_cons];first | rw [if_neg (by dsimp only;omega)] | rw [if_pos rfl]));rw [hmi];exact congrArg Nat.cast (by assumption)
  rw [hl] at hst
  have hg:=h.noted (t:=t) ⟨1,0,((p*37+7:Nat):Int),((19+T+t:Nat):Int),(b:Int),0,0,false⟩ (show (1:Int)≠7 by decide) (show (1:Int)≠13 by decide)
  have key:=W_loc hg ht eL er ej (⟨p,8,r0,r1,r2,r3,(b:Int),r5,r6,r7,0⟩:Loc) (.inl ⟨rfl,hp,by show 8 < 37;decide⟩) (IL (mem:=s.mem) (q:=s.buf) hI (by rw [←hme,hq,hgt,hy1,hy2,hn,hb,hfw];apply At.a8H56<;>first | assumption | rfl | omega | (intro e;dsimp only at e;omega))) (by rw [hx];rfl) (by rw [hx]) (by rw [hx];rfl)
  rw [show Loc.th 37 _=_ from th_of rfl] at key
  exact⟨_,_,_,hst,key⟩
 case a7H66 g0 g1 g2 g3=>
  have hi:=ins (i:=⟨16,4,8,0,((19+T+t:Nat):Int)⟩) rfl
  rw [movI_plain (i:=⟨16,4,8,0,((19+T+t:Nat):Int)⟩) rfl] at hi
  have hst:=st_load hi (ad:=(19+T+t)) (addr_abs _ _ _ _ _) (by rw [hnm];omega)
  have hl:s.load t (19+T+t)=(n:Int):=by rw [load_q hq];rw [hmi];exact congrArg Nat.cast (by assumption)
  rw [hl] at hst
  have hg:=h.noted (t:=t) ⟨1,0,((p*37+7:Nat):Int),((19+T+t:Nat):Int),(n:Int),0,0,false⟩ (show (1:Int)≠7 by decide) (show (1:Int)≠13 by decide)
  have key:=W_loc hg ht eL er ej (⟨p,8,r0,r1,r2,r3,(n:Int),r5,r6,r7,0⟩:Loc) (.inl ⟨rfl,hp,by show 8 < 37;decide⟩) (IL (mem:=s.mem) (q:=s.buf) hI (by rw [←hme,hq,hgt,hy1,hy2,hn,hb,hfw];apply At.a8H66<;>first | assumption | rfl | omega | (intro e;dsimp only at e;omega))) (by rw [hx];rfl) (by rw [hx]) (by rw [hx];rfl)
  rw [show Loc.th 37 _=_ from th_of rfl] at key
  exact⟨_,_,_,hst,key⟩
 case a8H06 g0 g1 g2 g3 | a8H16 g0 g1 g2 g3 g4 | a8H26 g0 g1 g2 g3 g4 g5 | a8H36 g0 g1 g2 g3 g4 g5 | a8H46 g0 g1 g2 g3 g4 g5 | a8H56 g0 g1 g2 g3 g4 g5 | a8H66 g0 g1 g2 g3 g4=>
  have hi:=ins (i:=⟨1,6,0,0,1⟩) rfl
  rw [movI_plain (i:=⟨1,6,0,0,1⟩) rfl] at hi
  have hst:=st_set hi
  have key:=W_loc h ht eL er ej (⟨p,9,r0,r1,r2,r3,r4,r5,(1),r7,0⟩:Loc) (.inl ⟨rfl,hp,by show 9 < 37;decide⟩) (IL (mem:=s.mem) (q:=s.buf) hI (by rw [←hme,hq,hgt,hy1,hy2,hn,hb,hfw];first | (apply At.a9H06<;>(first | assumption | rfl | (simp_all;done));done) | (apply At.a9H16<;>(first | assumption | rfl | (simp_all;done));done) | (apply At.a9H26<;>(first | assumption | rfl | (simp_all;done));done) | (apply At.a9H36<;>(first | assumption | rfl | (simp_all;done));done) | (apply At.a9H46<;>(first | assumption | rfl | (simp_all;done));done) | (apply At.a9H56<;>(first | assumption | rfl | (simp_all;done));done) | (apply At.a9H66<;>(first | assumption | rfl | (simp_all;done));done))) (by rw [hx];rfl) (by rw [hx]) (by rw [hx];rfl)
  rw [show Loc.th 37 _=_ from th_of rfl] at key
  exact⟨_,_,_,hst,key⟩
 case a9H06 g0 g1 g2 g3 g4 | a9H16 g0 g1 g2 g3 g4 g5 | a9H26 g0 g1 g2 g3 g4 g5 g6 | a9H36 g0 g1 g2 g3 g4 g5 g6 | a9H46 g0 g1 g2 g3 g4 g5 g6 | a9H56 g0 g1 g2 g3 g4 g5 g6=>
  have hi:=ins (i:=⟨17,6,4,0,18⟩) rfl
  rw [movI_plain (i:=⟨17,6,4,0,18⟩) rfl] at hi
  have hbT:=hpd (by omega)
  have r4n:r4=(b:Int):=by assumption
  subst r4n
  have hst:=st_store hi (ad:=18+b) ((addr_rel (n:=b) (m:=18) rfl rfl (by decide) (by omega) 6).trans (by omega)) (by rw [hnm];omega)
  by_cases hro:s.roomy t=true
  ·rw [if_pos hro] at hst
   have hrv:r6=1:=by assumption
   have key:=W_stored h ht eL er ej ((p*37+9:Nat):Int) (18+b) r6 (⟨p,10,r0,r1,r2,r3,(b:Int),r5,r6,r7,0⟩:Loc) (.inl ⟨rfl,hp,by show 10 < 37;decide⟩) (⟨_,_,_,_,_,_,_,hI.put (q':=s.buf t++[((18+b),r6)]) (by rw [hrv,←hme,hq,hgt,hy1,hy2,hn,hb,hfw];first | (apply At.a10H07<;>(first | assumption | rfl | (simp_all;done));done) | (apply At.a10H17<;>(first | assumption | rfl | (simp_all;done));done) | (apply At.a10H27<;>(first | assumption | rfl | (simp_all;done));done) | (apply At.a10H37<;>(first | assumption | rfl | (simp_all;done));done) | (apply At.a10H47<;>(first | assumption | rfl | (simp_all;done));done) | (apply At.a10H57<;>(first | assumption | rfl | (simp_all;done));done))⟩) (by rw [hx];rfl) (by rw [hx]) (.inl ⟨by omega,by rw [hx];rfl⟩)
   rw [show Loc.th 37 _=_ from th_of rfl] at key
   exact⟨_,_,_,hst,key⟩
  ·rw [if_neg hro] at hst
   exact⟨_,f,i,hst,flush h ht⟩
 case a9H66 g0 g1 g2 g3 g4 g5=>
  have hi:=ins (i:=⟨17,6,4,0,18⟩) rfl
  rw [movI_plain (i:=⟨17,6,4,0,18⟩) rfl] at hi
  have r4n:r4=(n:Int):=by assumption
  subst r4n
  have hst:=st_store hi (ad:=18+n) ((addr_rel (n:=n) (m:=18) rfl rfl (by decide) (by omega) 6).trans (by omega)) (by rw [hnm];omega)
  by_cases hro:s.roomy t=true
  ·rw [if_pos hro] at hst
   have hrv:r6=1:=by assumption
   have key:=W_stored h ht eL er ej ((p*37+9:Nat):Int) (18+n) r6 (⟨p,10,r0,r1,r2,r3,(n:Int),r5,r6,r7,0⟩:Loc) (.inl ⟨rfl,hp,by show 10 < 37;decide⟩) (⟨_,_,_,_,_,_,_,hI.put (q':=s.buf t++[((18+n),r6)]) (by rw [hrv,←hme,hq,hgt,hy1,hy2,hn,hb,hfw];apply At.a10H67<;>first | assumption | rfl | (simp_all;done))⟩) (by rw [hx];rfl) (by rw [hx]) (.inl ⟨by omega,by rw [hx];rfl⟩)
   rw [show Loc.th 37 _=_ from th_of rfl] at key
   exact⟨_,_,_,hst,key⟩
  ·rw [if_neg hro] at hst
   exact⟨_,f,i,hst,flush h ht⟩
 case a10H07 g0 g1 g2 g3 | a10H17 g0 g1 g2 g3 g4 | a10H27 g0 g1 g2 g3 g4 g5 | a10H37 g0 g1 g2 g3 g4 g5 | a10H47 g0 g1 g2 g3 g4 g5 | a10H57 g0 g1 g2 g3 g4 g5 | a10H67 g0 g1 g2 g3 g4=>
  have hi:=ins (i:=⟨19,4,8,0,16⟩) rfl
  rw [movI_plain (i:=⟨19,4,8,0,16⟩) rfl] at hi
  exact⟨_,f,i,st_drain hi (by show drainsI 19;decide) (fun _=>by rw [addr_abs,hnm];omega) (by rw [empty_q hq];rfl),flush h ht⟩
 case a10H77 g0 g1 g2 g3 g4 g5=>
  have hi:=ins (i:=⟨19,4,8,0,16⟩) rfl
  rw [movI_plain (i:=⟨19,4,8,0,16⟩) rfl] at hi
  have hst:=st_swap hi (ad:=16) (addr_abs _ _ _ _ _) (by rw [hnm];omega) (by rw [empty_q hq];rfl)
  have hl:s.load t 16=((tailM mn F Q:Nat):Int):=by rw [load_q hq];exact hI.tl
  rw [hl] at hst
  have r4m:r4=(n:Int):=by assumption
  subst r4m
  have g0:g t=0:=by rw [hgt];assumption
  have hnQ:t∉Q:=fun e=>(hI.inQ t ht).1 e g0
  have f1:s.mem.getD (18+n) 0=1:=by rw [hfw];assumption
  have mo:∀ b,b≠16→(s.mem.set 16 (n:Int)).getD b 0=s.mem.getD b 0:=fun b hb=>(get_set (by omega)).trans (if_neg (fun e=>hb e.symm))
  have m16:(s.mem.set 16 (n:Int)).getD 16 0=n:=(get_set (by omega)).trans (if_pos rfl)
  have hI2:(X T R).I (s.mem.set 16 (n:Int)) (upF f t ⟨p,11,r0,r1,r2,r3,((tailM mn F Q:Nat):Int),r5,r6,r7,0⟩) s.buf:=by
   have hFT:=hI.hF.1
   have hmT2:=fun u hu=>(hI.hmn u hu).1
   have fin:∀ g',(∀ u,u≠t→g' u=g u)→g' t≠0→tailM mn F Q≤T→At T t (meN t) (s.mem.getD 17 0) (s.mem.getD 0 0) (s.mem.getD (18+n) 0) y1 y2 n (tailM mn F Q) (g' t) 11 r1 r2 ((tailM mn F Q:Nat):Int) r5 r6 r7 (s.buf t)→(∀ h r,Q++[t]=h::r→g' h=3∧upF pd t (tailM mn F Q) h=F∧CChain g' mn (upF pd t (tailM mn F Q)) (h::r))→(X T R).I (s.mem.set 16 (n:Int)) (upF f t ⟨p,11,r0,r1,r2,r3,((tailM mn F Q:Nat):Int),r5,r6,r7,0⟩) s.buf:=fun g' hg1 hg2 hg3 hg4 hg5=>by
    refine⟨g',mi,pi,mn,upF pd t (tailM mn F Q),F,Q++[t],fun u hu=>?_,fun u hu=>by rw [mo _ (by omega)];exact hI.hmi u hu,fun u hu=>by rw [mo _ (by omega)];exact hI.hpi u hu,hI.hmn,hI.inj,⟨hFT,by rw [mo _ (by omega)];exact hI.hF.2⟩,fun u hu e=>?_,?_,fun u hu=>?_,fun u hu=>?_,hg5,fun u hu=>?_,by rw [m16,tailM_snoc,hn]⟩
    ·rw [mo 17 (by decide),mo 0 (by decide),mo _ (by omega)]
     by_cases e:u=t
     ·subst e;rw [upF_self,upF_self,hy1,hy2,hn];exact hg4
     ·rw [upF_ne _ _ e,upF_ne _ _ e,hg1 u e];exact hI.hat u hu
    ·by_cases e2:u=t
     ·subst e2;rw [upF_self];exact hg3
     ·rw [hg1 u e2] at e;rw [upF_ne _ _ e2];exact hI.hpd u hu e
    ·rw [List.nodup_append]
     refine⟨hI.nd,by simp,fun x hx y hy=>?_⟩
     rw [List.mem_singleton.1 hy]
     exact fun e=>hnQ (by rw [←e];exact hx)
    ·have h1:=hI.inQ u hu
     by_cases e2:u=t
     ·subst e2;exact⟨fun _=>hg2,fun _=>by simp⟩
     ·rw [hg1 u e2,←h1]
      exact⟨fun h=>by
       rcases List.mem_append.1 h with h | h
       ·exact h
       ·exact absurd (List.mem_singleton.1 h) e2,fun h=>List.mem_append_left _ h⟩
    ·rcases List.mem_append.1 hu with h | h
     ·exact hI.ltQ u h
     ·rw [List.mem_singleton.1 h];exact ht
    ·rw [mo _ (by omega)]
     rcases List.mem_append.1 hu with h | h
     ·exact hI.fl u h
     ·rw [List.mem_singleton.1 h,hn];exact f1
   cases Q with
   | nil=>
    refine fin (upF g t 3) (fun u hu=>upF_ne _ _ hu) (by rw [upF_self];decide) hFT ?_ (fun h r e=>?_)
    ·rw [upF_self,←hme,hq];apply At.a11A<;>first | assumption | rfl
    ·injection e with e1 e2
     subst e1 e2
     exact⟨upF_self ..,upF_self ..,trivial⟩
   | cons hh rr=>
    obtain⟨hg3,hgF,hch⟩:=hI.hd hh rr rfl
    obtain⟨l,hl1,hl2⟩:=tailM_mem (mn:=mn) (F:=F) (Q:=hh::rr) (by simp)
    have hlT:=hmT2 l (hI.ltQ l hl1)
    refine fin (upF g t 1) (fun u hu=>upF_ne _ _ hu) (by rw [upF_self];decide) (by omega) ?_ (fun h r e=>?_)
    ·rw [upF_self,←hme,hq];apply At.a11L<;>first | assumption | rfl
    ·have h2:=hch.snoc (F:=F) hnQ
     injection e with e1 e2
     subst e1 e2
     have hne:hh≠t:=fun e=>hnQ (by rw [←e];simp)
     exact⟨by rw [upF_ne _ _ hne];exact hg3,by rw [upF_ne _ _ hne];exact hgF,h2⟩
  have key:=W_swapped h ht eL er ej ⟨4,0,((p*37+10:Nat):Int),((16:Nat):Int),(n:Int),((tailM mn F Q:Nat):Int),0,true⟩ rfl 16 (n:Int) (by decide) (⟨p,11,r0,r1,r2,r3,((tailM mn F Q:Nat):Int),r5,r6,r7,0⟩:Loc) (.inl ⟨rfl,hp,by show 11 < 37;decide⟩) hI2 (by rw [hx];rfl) (by rw [hx]) (by rw [hx];rfl)
  rw [show Loc.th 37 _=_ from th_of rfl] at key
  exact⟨_,_,_,hst,key⟩
 case a11A g0 g1 g2 g3 | a11L g0 g1 g2 g3 g4=>
  have hi:=ins (i:=⟨17,4,8,0,((19+2*T+t:Nat):Int)⟩) rfl
  rw [movI_plain (i:=⟨17,4,8,0,((19+2*T+t:Nat):Int)⟩) rfl] at hi
  have r4n:r4=(b:Int):=by assumption
  subst r4n
  have hst:=st_store hi (ad:=(19+2*T+t)) (addr_abs _ _ _ _ _) (by rw [hnm];omega)
  by_cases hro:s.roomy t=true
  ·rw [if_pos hro] at hst
   have key:=W_stored h ht eL er ej ((p*37+11:Nat):Int) (19+2*T+t) (b:Int) (⟨p,12,r0,r1,r2,r3,(b:Int),r5,r6,r7,0⟩:Loc) (.inl ⟨rfl,hp,by show 12 < 37;decide⟩) (⟨_,_,_,_,_,_,_,hI.put (q':=s.buf t++[((19+2*T+t),(b:Int))]) (by rw [←hme,hq,hgt,hy1,hy2,hn,hb,hfw];first | (apply At.a12H01<;>(first | assumption | rfl | (simp_all;done));done) | (apply At.a12B<;>(first | assumption | rfl | (simp_all;done));done))⟩) (by rw [hx];rfl) (by rw [hx]) (.inl ⟨by omega,by rw [hx];rfl⟩)
   rw [show Loc.th 37 _=_ from th_of rfl] at key
   exact⟨_,_,_,hst,key⟩
  ·rw [if_neg hro] at hst
   exact⟨_,f,i,hst,flush h ht⟩
 case a12B g0 g1 g2 g3 g4=>
  have hi:=ins (i:=⟨16,6,4,0,18⟩) rfl
  rw [movI_plain (i:=⟨16,6,4,0,18⟩) rfl] at hi
  have hbT:=hpd (by omega)
  have r4b:r4=(b:Int):=by assumption
  subst r4b
  have hst:=st_load hi (ad:=18+b) ((addr_rel (n:=b) (m:=18) rfl rfl (by decide) (by omega) 6).trans (by omega)) (by rw [hnm];omega)
  have hl:s.load t (18+b)=1:=by rw [load_q hq];(repeat (rw [Wd.lastQ_cons];first | rw [if_neg (by dsimp only;omega)] | rw [if_pos rfl]));exact hfp.2 (by assumption)
  rw [hl] at hst
  have hg:=h.noted (t:=t) ⟨1,0,((p*37+12:Nat):Int),((18+b:Nat):Int),1,0,0,false⟩ (show (1:Int)≠7 by decide) (show (1:Int)≠13 by decide)
  have key:=W_loc hg ht eL er ej (⟨p,13,r0,r1,r2,r3,(b:Int),r5,(1:Int),r7,0⟩:Loc) (.inl ⟨rfl,hp,by show 13 < 37;decide⟩) (IL (mem:=s.mem) (q:=s.buf) hI (by rw [←hme,hq,hgt,hy1,hy2,hn,hb,hfw];apply At.a13B<;>first | assumption | rfl | omega | (intro e;dsimp only at e;omega))) (by rw [hx];rfl) (by rw [hx]) (by rw [hx];rfl)
  rw [show Loc.th 37 _=_ from th_of rfl] at key
  exact⟨_,_,_,hst,key⟩
 case a12H01 g0 g1 g2 g3=>
  have hi:=ins (i:=⟨16,6,4,0,18⟩) rfl
  rw [movI_plain (i:=⟨16,6,4,0,18⟩) rfl] at hi
  have hbT:=hpd (by omega)
  have r4b:r4=(b:Int):=by assumption
  subst r4b
  have hst:=st_load hi (ad:=18+b) ((addr_rel (n:=b) (m:=18) rfl rfl (by decide) (by omega) 6).trans (by omega)) (by rw [hnm];omega)
  have hl:s.load t (18+b)=0:=by rw [load_q hq];(repeat (rw [Wd.lastQ_cons];first | rw [if_neg (by dsimp only;omega)] | rw [if_pos rfl]));exact hfp.1 (by assumption)
  rw [hl] at hst
  have hg:=h.noted (t:=t) ⟨1,0,((p*37+12:Nat):Int),((18+b:Nat):Int),0,0,0,false⟩ (show (1:Int)≠7 by decide) (show (1:Int)≠13 by decide)
  have key:=W_loc hg ht eL er ej (⟨p,13,r0,r1,r2,r3,(b:Int),r5,(0:Int),r7,0⟩:Loc) (.inl ⟨rfl,hp,by show 13 < 37;decide⟩) (IL (mem:=s.mem) (q:=s.buf) hI (by rw [←hme,hq,hgt,hy1,hy2,hn,hb,hfw];apply At.a13H01<;>first | assumption | rfl | omega | (intro e;dsimp only at e;omega))) (by rw [hx];rfl) (by rw [hx]) (by rw [hx];rfl)
  rw [show Loc.th 37 _=_ from th_of rfl] at key
  exact⟨_,_,_,hst,key⟩
 case a12H11 g0 g1 g2 g3 g4=>
  have hi:=ins (i:=⟨16,6,4,0,18⟩) rfl
  rw [movI_plain (i:=⟨16,6,4,0,18⟩) rfl] at hi
  have hbT:=hpd (by omega)
  have r4b:r4=(b:Int):=by assumption
  subst r4b
  have hst:=st_load hi (ad:=18+b) ((addr_rel (n:=b) (m:=18) rfl rfl (by decide) (by omega) 6).trans (by omega)) (by rw [hnm];omega)
  have hl:s.load t (18+b)=0:=by rw [load_q hq];exact hfp.1 (by assumption)
  rw [hl] at hst
  have hg:=h.noted (t:=t) ⟨1,0,((p*37+12:Nat):Int),((18+b:Nat):Int),0,0,0,false⟩ (show (1:Int)≠7 by decide) (show (1:Int)≠13 by decide)
  have key:=W_loc hg ht eL er ej (⟨p,13,r0,r1,r2,r3,(b:Int),r5,(0:Int),r7,0⟩:Loc) (.inl ⟨rfl,hp,by show 13 < 37;decide⟩) (IL (mem:=s.mem) (q:=s.buf) hI (by rw [←hme,hq,hgt,hy1,hy2,hn,hb,hfw];apply At.a13H11<;>first | assumption | rfl | omega | (intro e;dsimp only at e;omega))) (by rw [hx];rfl) (by rw [hx]) (by rw [hx];rfl)
  rw [show Loc.th 37 _=_ from th_of rfl] at key
  exact⟨_,_,_,hst,key⟩
 case a12N g0 g1 g2 g3 g4 g5=>
  have hi:=ins (i:=⟨16,6,4,0,18⟩) rfl
  rw [movI_plain (i:=⟨16,6,4,0,18⟩) rfl] at hi
  have hbT:=hpd (by omega)
  have r4b:r4=(b:Int):=by assumption
  subst r4b
  have hst:=st_load hi (ad:=18+b) ((addr_rel (n:=b) (m:=18) rfl rfl (by decide) (by omega) 6).trans (by omega)) (by rw [hnm];omega)
  have hl:s.load t (18+b)=1:=by rw [load_q hq];exact hfp.2 (by assumption)
  rw [hl] at hst
  have hg:=h.noted (t:=t) ⟨1,0,((p*37+12:Nat):Int),((18+b:Nat):Int),1,0,0,false⟩ (show (1:Int)≠7 by decide) (show (1:Int)≠13 by decide)
  have key:=W_loc hg ht eL er ej (⟨p,13,r0,r1,r2,r3,(b:Int),r5,(1:Int),r7,0⟩:Loc) (.inl ⟨rfl,hp,by show 13 < 37;decide⟩) (IL (mem:=s.mem) (q:=s.buf) hI (by rw [←hme,hq,hgt,hy1,hy2,hn,hb,hfw];apply At.a13N<;>first | assumption | rfl | omega | (intro e;dsimp only at e;omega))) (by rw [hx];rfl) (by rw [hx]) (by rw [hx];rfl)
  rw [show Loc.th 37 _=_ from th_of rfl] at key
  exact⟨_,_,_,hst,key⟩
 case a13B g0 g1 g2 g3 g4 g5 | a13N g0 g1 g2 g3 g4 g5 g6=>
  have hi:=ins (i:=⟨15,6,0,0,12⟩) rfl
  rw [movI_jump (i:=⟨15,6,0,0,12⟩) rfl] at hi
  have hst:=st_some hi
  by_cases hz:r6≠0
  ·rw [if_pos (by exact hz)] at hst
   have key:=W_loc h ht eL er ej (⟨p,12,r0,r1,r2,r3,r4,r5,r6,r7,0⟩:Loc) (.inl ⟨rfl,hp,by show 12 < 37;decide⟩) (IL (mem:=s.mem) (q:=s.buf) hI (by rw [←hme,hq,hgt,hy1,hy2,hn,hb,hfw];first | (apply At.a12B<;>(first | assumption | (simp_all;done));done) | (apply At.a12N<;>(first | assumption | (simp_all;done));done))) (by rw [hx];rfl) (by rw [hx]) (by rw [hx];rfl)
   rw [show Loc.th 37 _=_ from th_jmp (by omega) (by decide) (by decide)] at key
   exact⟨_,_,_,hst,key⟩
  ·rw [if_neg (by exact hz)] at hst
   exfalso;simp_all
 case a13H01 g0 g1 g2 g3 | a13H11 g0 g1 g2 g3 g4=>
  have hi:=ins (i:=⟨15,6,0,0,12⟩) rfl
  rw [movI_jump (i:=⟨15,6,0,0,12⟩) rfl] at hi
  have hst:=st_some hi
  by_cases hz:r6≠0
  ·rw [if_pos (by exact hz)] at hst
   have key:=W_loc h ht eL er ej (⟨p,12,r0,r1,r2,r3,r4,r5,r6,r7,0⟩:Loc) (.inl ⟨rfl,hp,by show 12 < 37;decide⟩) (IL (mem:=s.mem) (q:=s.buf) hI (by rw [←hme,hq,hgt,hy1,hy2,hn,hb,hfw];first | (apply At.a12H01<;>(first | assumption | (simp_all;done));done) | (apply At.a12H11<;>(first | assumption | (simp_all;done));done))) (by rw [hx];rfl) (by rw [hx]) (by rw [hx];rfl)
   rw [show Loc.th 37 _=_ from th_jmp (by omega) (by decide) (by decide)] at key
   exact⟨_,_,_,hst,key⟩
  ·rw [if_neg (by exact hz)] at hst
   have key:=W_loc h ht eL er ej (⟨p,14,r0,r1,r2,r3,r4,r5,r6,r7,0⟩:Loc) (.inl ⟨rfl,hp,by show 14 < 37;decide⟩) (IL (mem:=s.mem) (q:=s.buf) hI (by rw [←hme,hq,hgt,hy1,hy2,hn,hb,hfw];first | (apply At.a14H01<;>(first | assumption | (simp_all;done));done) | (apply At.a14H11<;>(first | assumption | (simp_all;done));done))) (by rw [hx];rfl) (by rw [hx]) (by rw [hx];rfl)
   rw [show Loc.th 37 _=_ from th_of rfl] at key
   exact⟨_,_,_,hst,key⟩
 case a14H01 g0 g1 g2 | a14H11 g0 g1 g2 g3=>
  have hi:=ins (i:=⟨17,5,8,0,17⟩) rfl
  rw [movI_plain (i:=⟨17,5,8,0,17⟩) rfl] at hi
  have hst:=st_store hi (ad:=17) (addr_abs _ _ _ _ _) (by rw [hnm];omega)
  by_cases hro:s.roomy t=true
  ·rw [if_pos hro] at hst
   have hrv:r5=me:=by assumption
   have key:=W_stored h ht eL er ej ((p*37+14:Nat):Int) 17 r5 (⟨p,15,r0,r1,r2,r3,r4,r5,r6,r7,0⟩:Loc) (.inl ⟨rfl,hp,by show 15 < 37;decide⟩) (⟨_,_,_,_,_,_,_,hI.put (q':=s.buf t++[(17,r5)]) (by rw [hrv,←hme,hq,hgt,hy1,hy2,hn,hb,hfw];first | (apply At.a15H02<;>(first | assumption | rfl | (simp_all;done));done) | (apply At.a15H12<;>(first | assumption | rfl | (simp_all;done));done))⟩) (by rw [hx];rfl) (by rw [hx]) (.inl ⟨by omega,by rw [hx];rfl⟩)
   rw [show Loc.th 37 _=_ from th_of rfl] at key
   exact⟨_,_,_,hst,key⟩
  ·rw [if_neg hro] at hst
   exact⟨_,f,i,hst,flush h ht⟩
 case a15H02 g0 g1 | a15H12 g0 g1 g2 | a15H22 g0 g1 g2 g3=>
  have hi:=ins (i:=⟨1,7,0,0,0⟩) rfl
  rw [movI_plain (i:=⟨1,7,0,0,0⟩) rfl] at hi
  have hst:=st_set hi
  have key:=W_loc h ht eL er ej (⟨p,16,r0,r1,r2,r3,r4,r5,r6,(0),0⟩:Loc) (.inl ⟨rfl,hp,by show 16 < 37;decide⟩) (IL (mem:=s.mem) (q:=s.buf) hI (by rw [←hme,hq,hgt,hy1,hy2,hn,hb,hfw];first | (apply At.a16H02<;>(first | assumption | rfl | (simp_all;done));done) | (apply At.a16H12<;>(first | assumption | rfl | (simp_all;done));done) | (apply At.a16H22<;>(first | assumption | rfl | (simp_all;done));done))) (by rw [hx];rfl) (by rw [hx]) (by rw [hx];rfl)
  rw [show Loc.th 37 _=_ from th_of rfl] at key
  exact⟨_,_,_,hst,key⟩
 case a16H02 g0 g1 g2 | a16H12 g0 g1 g2 g3 | a16H22 g0 g1 g2 g3 g4=>
  have hi:=ins (i:=⟨27,7,0,0,1⟩) rfl
  rw [movI_plain (i:=⟨27,7,0,0,1⟩) rfl] at hi
  have hmk:=st_mark hi
  have r70:r7=0:=by assumption
  subst r70
  have key:=W_enters h ht eL er ej ((p*37+16:Nat):Int) (⟨p,17,r0,r1,r2,r3,r4,r5,r6,0,0⟩:Loc) (.inl ⟨rfl,hp,by show 17 < 37;decide⟩) (IL (mem:=s.mem) (q:=s.buf) hI (by rw [←hme,hq,hgt,hy1,hy2,hn,hb,hfw];first | (apply At.a17H02<;>(first | assumption | rfl | (simp_all;done));done) | (apply At.a17H12<;>(first | assumption | rfl | (simp_all;done));done) | (apply At.a17H22<;>(first | assumption | rfl | (simp_all;done));done))) (fun u hu=>by
   by_cases e:t=u
   ·subst e;rw [er,hx];rfl
   ·exact ((hI.hat u hu).out (hI.ex ht (by rw [hgt];assumption) hu e)).2) rfl (by rw [hx]) (by rw [hx];rfl)
  rw [show Loc.th 37 _=_ from th_of rfl] at key
  exact⟨_,_,_,hmk,key⟩
 case a17H02 g0 g1 | a17H12 g0 g1 g2=>
  have hi:=ins (i:=⟨16,1,8,0,0⟩) rfl
  rw [movI_plain (i:=⟨16,1,8,0,0⟩) rfl] at hi
  have hst:=st_load hi (ad:=0) (addr_abs _ _ _ _ _) (by rw [hnm];omega)
  have hl:s.load t 0=(s.mem.getD 0 0):=by rw [load_q hq];(repeat (rw [Wd.lastQ_cons];first | rw [if_neg (by dsimp only;omega)] | rw [if_pos rfl]));rfl
  rw [hl] at hst
  have hg:=h.noted (t:=t) ⟨1,0,((p*37+17:Nat):Int),((0:Nat):Int),(s.mem.getD 0 0),0,0,false⟩ (show (1:Int)≠7 by decide) (show (1:Int)≠13 by decide)
  have key:=W_loc hg ht eL er ej (⟨p,18,r0,(s.mem.getD 0 0),r2,r3,r4,r5,r6,r7,0⟩:Loc) (.inl ⟨rfl,hp,by show 18 < 37;decide⟩) (IL (mem:=s.mem) (q:=s.buf) hI (by rw [←hme,hq,hgt,hy1,hy2,hn,hb,hfw];first | (apply At.a18H02<;>(first | assumption | rfl | omega | (intro e;dsimp only at e;omega));done) | (apply At.a18H12<;>(first | assumption | rfl | omega | (intro e;dsimp only at e;omega));done))) (by rw [hx];rfl) (by rw [hx]) (by rw [hx];rfl)
  rw [show Loc.th 37 _=_ from th_of rfl] at key
  exact⟨_,_,_,hst,key⟩
 case a17H22 g0 g1 g2 g3=>
  have hi:=ins (i:=⟨16,1,8,0,0⟩) rfl
  rw [movI_plain (i:=⟨16,1,8,0,0⟩) rfl] at hi
  have hst:=st_load hi (ad:=0) (addr_abs _ _ _ _ _) (by rw [hnm];omega)
  have hl:s.load t 0=(s.mem.getD 0 0):=by rw [load_q hq];rfl
  rw [hl] at hst
  have hg:=h.noted (t:=t) ⟨1,0,((p*37+17:Nat):Int),((0:Nat):Int),(s.mem.getD 0 0),0,0,false⟩ (show (1:Int)≠7 by decide) (show (1:Int)≠13 by decide)
  have key:=W_loc hg ht eL er ej (⟨p,18,r0,(s.mem.getD 0 0),r2,r3,r4,r5,r6,r7,0⟩:Loc) (.inl ⟨rfl,hp,by show 18 < 37;decide⟩) (IL (mem:=s.mem) (q:=s.buf) hI (by rw [←hme,hq,hgt,hy1,hy2,hn,hb,hfw];apply At.a18H22<;>first | assumption | rfl | omega | (intro e;dsimp only at e;omega))) (by rw [hx];rfl) (by rw [hx]) (by rw [hx];rfl)
  rw [show Loc.th 37 _=_ from th_of rfl] at key
  exact⟨_,_,_,hst,key⟩
 case a18H02 g0 g1 g2 | a18H12 g0 g1 g2 g3 | a18H22 g0 g1 g2 g3 g4=>
  have hi:=ins (i:=⟨1,2,0,0,1⟩) rfl
  rw [movI_plain (i:=⟨1,2,0,0,1⟩) rfl] at hi
  have hst:=st_set hi
  have key:=W_loc h ht eL er ej (⟨p,19,r0,r1,(1),r3,r4,r5,r6,r7,0⟩:Loc) (.inl ⟨rfl,hp,by show 19 < 37;decide⟩) (IL (mem:=s.mem) (q:=s.buf) hI (by rw [←hme,hq,hgt,hy1,hy2,hn,hb,hfw];first | (apply At.a19H02<;>(first | assumption | rfl | (simp_all;done));done) | (apply At.a19H12<;>(first | assumption | rfl | (simp_all;done));done) | (apply At.a19H22<;>(first | assumption | rfl | (simp_all;done));done))) (by rw [hx];rfl) (by rw [hx]) (by rw [hx];rfl)
  rw [show Loc.th 37 _=_ from th_of rfl] at key
  exact⟨_,_,_,hst,key⟩
 case a19H02 g0 g1 g2 g3 | a19H12 g0 g1 g2 g3 g4 | a19H22 g0 g1 g2 g3 g4 g5=>
  have hi:=ins (i:=⟨3,1,1,2,0⟩) rfl
  rw [movI_plain (i:=⟨3,1,1,2,0⟩) rfl] at hi
  have hst:=st_add hi
  have key:=W_loc h ht eL er ej (⟨p,20,r0,(wr32 (r1+r2)),r2,r3,r4,r5,r6,r7,0⟩:Loc) (.inl ⟨rfl,hp,by show 20 < 37;decide⟩) (IL (mem:=s.mem) (q:=s.buf) hI (by rw [←hme,hq,hgt,hy1,hy2,hn,hb,hfw];first | (apply At.a20H02<;>(first | assumption | rfl | (simp_all;done));done) | (apply At.a20H12<;>(first | assumption | rfl | (simp_all;done));done) | (apply At.a20H22<;>(first | assumption | rfl | (simp_all;done));done))) (by rw [hx];rfl) (by rw [hx]) (by rw [hx];rfl)
  rw [show Loc.th 37 _=_ from th_of rfl] at key
  exact⟨_,_,_,hst,key⟩
 case a20H02 g0 g1 g2 | a20H12 g0 g1 g2 g3 | a20H22 g0 g1 g2 g3 g4=>
  have hi:=ins (i:=⟨17,1,8,0,0⟩) rfl
  rw [movI_plain (i:=⟨17,1,8,0,0⟩) rfl] at hi
  have hst:=st_store hi (ad:=0) (addr_abs _ _ _ _ _) (by rw [hnm];omega)
  by_cases hro:s.roomy t=true
  ·rw [if_pos hro] at hst
   have hrv:r1=(wr32 (s.mem.getD 0 0+1)):=by assumption
   have key:=W_stored h ht eL er ej ((p*37+20:Nat):Int) 0 r1 (⟨p,21,r0,r1,r2,r3,r4,r5,r6,r7,0⟩:Loc) (.inl ⟨rfl,hp,by show 21 < 37;decide⟩) (⟨_,_,_,_,_,_,_,hI.put (q':=s.buf t++[(0,r1)]) (by rw [hrv,←hme,hq,hgt,hy1,hy2,hn,hb,hfw];first | (apply At.a21H03<;>(first | assumption | rfl | (simp_all;done));done) | (apply At.a21H13<;>(first | assumption | rfl | (simp_all;done));done) | (apply At.a21H23<;>(first | assumption | rfl | (simp_all;done));done))⟩) (by rw [hx];rfl) (by rw [hx]) (.inr ⟨rfl,by rw [hx],rfl⟩)
   rw [show Loc.th 37 _=_ from th_of rfl] at key
   exact⟨_,_,_,hst,key⟩
  ·rw [if_neg hro] at hst
   exact⟨_,f,i,hst,flush h ht⟩
 case a21H03 g0 g1 | a21H13 g0 g1 g2 | a21H23 g0 g1 g2 g3 | a21H33 g0 g1 g2 g3=>
  have hi:=ins (i:=⟨27,7,0,0,2⟩) rfl
  rw [movI_plain (i:=⟨27,7,0,0,2⟩) rfl] at hi
  have hmk:=st_mark hi
  have key:=W_leaves h ht eL er ej ((p*37+21:Nat):Int) r7 (⟨p,22,r0,r1,r2,r3,r4,r5,r6,r7,0⟩:Loc) (.inl ⟨rfl,hp,by show 22 < 37;decide⟩) (IL (mem:=s.mem) (q:=s.buf) hI (by rw [←hme,hq,hgt,hy1,hy2,hn,hb,hfw];first | (apply At.a22H03<;>(first | assumption | rfl | (simp_all;done));done) | (apply At.a22H13<;>(first | assumption | rfl | (simp_all;done));done) | (apply At.a22H23<;>(first | assumption | rfl | (simp_all;done));done) | (apply At.a22H33<;>(first | assumption | rfl | (simp_all;done));done))) (by rw [hx];rfl) rfl (by rw [hx]) (by rw [hx];rfl)
  rw [show Loc.th 37 _=_ from th_of rfl] at key
  exact⟨_,_,_,hmk,key⟩
 case a22H03 g0 g1 | a22H13 g0 g1 g2=>
  have hi:=ins (i:=⟨16,4,8,0,17⟩) rfl
  rw [movI_plain (i:=⟨16,4,8,0,17⟩) rfl] at hi
  have hst:=st_load hi (ad:=17) (addr_abs _ _ _ _ _) (by rw [hnm];omega)
  have hl:s.load t 17=me:=by rw [load_q hq];(repeat (rw [Wd.lastQ_cons];first | rw [if_neg (by dsimp only;omega)] | rw [if_pos rfl]));rfl
  rw [hl] at hst
  have hg:=h.noted (t:=t) ⟨1,0,((p*37+22:Nat):Int),((17:Nat):Int),me,0,0,false⟩ (show (1:Int)≠7 by decide) (show (1:Int)≠13 by decide)
  have key:=W_loc hg ht eL er ej (⟨p,23,r0,r1,r2,r3,me,r5,r6,r7,0⟩:Loc) (.inl ⟨rfl,hp,by show 23 < 37;decide⟩) (IL (mem:=s.mem) (q:=s.buf) hI (by rw [←hme,hq,hgt,hy1,hy2,hn,hb,hfw];first | (apply At.a23H03<;>(first | assumption | rfl | omega | (intro e;dsimp only at e;omega));done) | (apply At.a23H13<;>(first | assumption | rfl | omega | (intro e;dsimp only at e;omega));done))) (by rw [hx];rfl) (by rw [hx]) (by rw [hx];rfl)
  rw [show Loc.th 37 _=_ from th_of rfl] at key
  exact⟨_,_,_,hst,key⟩
 case a22H23 g0 g1 g2 g3=>
  have hi:=ins (i:=⟨16,4,8,0,17⟩) rfl
  rw [movI_plain (i:=⟨16,4,8,0,17⟩) rfl] at hi
  have hst:=st_load hi (ad:=17) (addr_abs _ _ _ _ _) (by rw [hnm];omega)
  have hl:s.load t 17=(s.mem.getD 17 0):=by rw [load_q hq];(repeat (rw [Wd.lastQ_cons];first | rw [if_neg (by dsimp only;omega)] | rw [if_pos rfl]));rfl
  rw [hl] at hst
  have hg:=h.noted (t:=t) ⟨1,0,((p*37+22:Nat):Int),((17:Nat):Int),(s.mem.getD 17 0),0,0,false⟩ (show (1:Int)≠7 by decide) (show (1:Int)≠13 by decide)
  have key:=W_loc hg ht eL er ej (⟨p,23,r0,r1,r2,r3,(s.mem.getD 17 0),r5,r6,r7,0⟩:Loc) (.inl ⟨rfl,hp,by show 23 < 37;decide⟩) (IL (mem:=s.mem) (q:=s.buf) hI (by rw [←hme,hq,hgt,hy1,hy2,hn,hb,hfw];apply At.a23H23<;>first | assumption | rfl | omega | (intro e;dsimp only at e;omega))) (by rw [hx];rfl) (by rw [hx]) (by rw [hx];rfl)
  rw [show Loc.th 37 _=_ from th_of rfl] at key
  exact⟨_,_,_,hst,key⟩
 case a22H33 g0 g1 g2 g3=>
  have hi:=ins (i:=⟨16,4,8,0,17⟩) rfl
  rw [movI_plain (i:=⟨16,4,8,0,17⟩) rfl] at hi
  have hst:=st_load hi (ad:=17) (addr_abs _ _ _ _ _) (by rw [hnm];omega)
  have hl:s.load t 17=(s.mem.getD 17 0):=by rw [load_q hq];rfl
  rw [hl] at hst
  have hg:=h.noted (t:=t) ⟨1,0,((p*37+22:Nat):Int),((17:Nat):Int),(s.mem.getD 17 0),0,0,false⟩ (show (1:Int)≠7 by decide) (show (1:Int)≠13 by decide)
  have key:=W_loc hg ht eL er ej (⟨p,23,r0,r1,r2,r3,(s.mem.getD 17 0),r5,r6,r7,0⟩:Loc) (.inl ⟨rfl,hp,by show 23 < 37;decide⟩) (IL (mem:=s.mem) (q:=s.buf) hI (by rw [←hme,hq,hgt,hy1,hy2,hn,hb,hfw];apply At.a23H33<;>first | assumption | rfl | omega | (intro e;dsimp only at e;omega))) (by rw [hx];rfl) (by rw [hx]) (by rw [hx];rfl)
  rw [show Loc.th 37 _=_ from th_of rfl] at key
  exact⟨_,_,_,hst,key⟩
 case a23H03 g0 g1 g2 | a23H13 g0 g1 g2 g3 | a23H23 g0 g1 g2 g3 g4 | a23H33 g0 g1 g2 g3 g4=>
  have hi:=ins (i:=⟨1,5,0,0,((t+1:Nat):Int)⟩) rfl
  rw [movI_plain (i:=⟨1,5,0,0,((t+1:Nat):Int)⟩) rfl] at hi
  rw [hmet] at hi
  have hst:=st_set hi
  have key:=W_loc h ht eL er ej (⟨p,24,r0,r1,r2,r3,r4,me,r6,r7,0⟩:Loc) (.inl ⟨rfl,hp,by show 24 < 37;decide⟩) (IL (mem:=s.mem) (q:=s.buf) hI (by rw [←hme,hq,hgt,hy1,hy2,hn,hb,hfw];first | (apply At.a24H03<;>(first | assumption | rfl | (simp_all;done));done) | (apply At.a24H13<;>(first | assumption | rfl | (simp_all;done));done) | (apply At.a24H23<;>(first | assumption | rfl | (simp_all;done));done) | (apply At.a24H33<;>(first | assumption | rfl | (simp_all;done));done))) (by rw [hx];rfl) (by rw [hx]) (by rw [hx];rfl)
  rw [show Loc.th 37 _=_ from th_of rfl] at key
  exact⟨_,_,_,hst,key⟩
 case a24H03 g0 g1 g2 g3 | a24H13 g0 g1 g2 g3 g4 | a24H23 g0 g1 g2 g3 g4 g5 | a24H33 g0 g1 g2 g3 g4 g5=>
  have hi:=ins (i:=⟨12,6,4,5,0⟩) rfl
  rw [movI_plain (i:=⟨12,6,4,5,0⟩) rfl] at hi
  have hst:=st_same hi
  have hv:(if r4=r5 then (1:Int) else 0)=1:=by simp_all
  have key:=W_loc h ht eL er ej (⟨p,25,r0,r1,r2,r3,r4,r5,(if r4=r5 then (1:Int) else 0),r7,0⟩:Loc) (.inl ⟨rfl,hp,by show 25 < 37;decide⟩) (IL (mem:=s.mem) (q:=s.buf) hI (by rw [←hme,hq,hgt,hy1,hy2,hn,hb,hfw];first | (apply At.a25H03<;>(first | assumption | exact hv | (rw [hv];decide));done) | (apply At.a25H13<;>(first | assumption | exact hv | (rw [hv];decide));done) | (apply At.a25H23<;>(first | assumption | exact hv | (rw [hv];decide));done) | (apply At.a25H33<;>(first | assumption | exact hv | (rw [hv];decide));done))) (by rw [hx];rfl) (by rw [hx]) (by rw [hx];rfl)
  rw [show Loc.th 37 _=_ from th_of rfl] at key
  exact⟨_,_,_,hst,key⟩
 case a25H03 g0 g1 g2 | a25H13 g0 g1 g2 g3 | a25H23 g0 g1 g2 g3 g4 | a25H33 g0 g1 g2 g3 g4=>
  have hi:=ins (i:=⟨15,6,0,0,28⟩) rfl
  rw [movI_jump (i:=⟨15,6,0,0,28⟩) rfl] at hi
  have hst:=st_some hi
  by_cases hz:r6≠0
  ·rw [if_pos (by exact hz)] at hst
   have key:=W_loc h ht eL er ej (⟨p,28,r0,r1,r2,r3,r4,r5,r6,r7,0⟩:Loc) (.inl ⟨rfl,hp,by show 28 < 37;decide⟩) (IL (mem:=s.mem) (q:=s.buf) hI (by rw [←hme,hq,hgt,hy1,hy2,hn,hb,hfw];first | (apply At.a28H03<;>(first | assumption | (simp_all;done));done) | (apply At.a28H13<;>(first | assumption | (simp_all;done));done) | (apply At.a28H23<;>(first | assumption | (simp_all;done));done) | (apply At.a28H33<;>(first | assumption | (simp_all;done));done))) (by rw [hx];rfl) (by rw [hx]) (by rw [hx];rfl)
   rw [show Loc.th 37 _=_ from th_jmp (by omega) (by decide) (by decide)] at key
   exact⟨_,_,_,hst,key⟩
  ·rw [if_neg (by exact hz)] at hst
   exfalso;simp_all
 case a28H03 g0 g1 | a28H13 g0 g1 g2 | a28H23 g0 g1 g2 g3 | a28H33 g0 g1 g2 g3=>
  have hi:=ins (i:=⟨1,4,0,0,0⟩) rfl
  rw [movI_plain (i:=⟨1,4,0,0,0⟩) rfl] at hi
  have hst:=st_set hi
  have key:=W_loc h ht eL er ej (⟨p,29,r0,r1,r2,r3,(0),r5,r6,r7,0⟩:Loc) (.inl ⟨rfl,hp,by show 29 < 37;decide⟩) (IL (mem:=s.mem) (q:=s.buf) hI (by rw [←hme,hq,hgt,hy1,hy2,hn,hb,hfw];first | (apply At.a29H03<;>(first | assumption | rfl | (simp_all;done));done) | (apply At.a29H13<;>(first | assumption | rfl | (simp_all;done));done) | (apply At.a29H23<;>(first | assumption | rfl | (simp_all;done));done) | (apply At.a29H33<;>(first | assumption | rfl | (simp_all;done));done))) (by rw [hx];rfl) (by rw [hx]) (by rw [hx];rfl)
  rw [show Loc.th 37 _=_ from th_of rfl] at key
  exact⟨_,_,_,hst,key⟩
 case a29H03 g0 g1 g2 | a29H13 g0 g1 g2 g3 | a29H23 g0 g1 g2 g3 g4 | a29H33 g0 g1 g2 g3 g4=>
  have hi:=ins (i:=⟨17,4,8,0,17⟩) rfl
  rw [movI_plain (i:=⟨17,4,8,0,17⟩) rfl] at hi
  have hst:=st_store hi (ad:=17) (addr_abs _ _ _ _ _) (by rw [hnm];omega)
  by_cases hro:s.roomy t=true
  ·rw [if_pos hro] at hst
   have hrv:r4=0:=by assumption
   have key:=W_stored h ht eL er ej ((p*37+29:Nat):Int) 17 r4 (⟨p,30,r0,r1,r2,r3,r4,r5,r6,r7,0⟩:Loc) (.inl ⟨rfl,hp,by show 30 < 37;decide⟩) (⟨_,_,_,_,_,_,_,hI.put (q':=s.buf t++[(17,r4)]) (by rw [hrv,←hme,hq,hgt,hy1,hy2,hn,hb,hfw];first | (apply At.a30H04<;>(first | assumption | rfl | (simp_all;done));done) | (apply At.a30H14<;>(first | assumption | rfl | (simp_all;done));done) | (apply At.a30H24<;>(first | assumption | rfl | (simp_all;done));done) | (apply At.a30H34<;>(first | assumption | rfl | (simp_all;done));done))⟩) (by rw [hx];rfl) (by rw [hx]) (.inl ⟨by omega,by rw [hx];rfl⟩)
   rw [show Loc.th 37 _=_ from th_of rfl] at key
   exact⟨_,_,_,hst,key⟩
  ·rw [if_neg hro] at hst
   exact⟨_,f,i,hst,flush h ht⟩
 case a30H04 g0 g1 | a30H14 g0 g1 g2 | a30H24 g0 g1 g2 g3 | a30H34 g0 g1 g2 g3=>
  have hi:=ins (i:=⟨16,4,8,0,((19+T+t:Nat):Int)⟩) rfl
  rw [movI_plain (i:=⟨16,4,8,0,((19+T+t:Nat):Int)⟩) rfl] at hi
  have hst:=st_load hi (ad:=(19+T+t)) (addr_abs _ _ _ _ _) (by rw [hnm];omega)
  have hl:s.load t (19+T+t)=(n:Int):=by rw [load_q hq];(repeat (rw [Wd.lastQ_cons];first | rw [if_neg (by dsimp only;omega)] | rw [if_pos rfl]));rw [hmi];exact congrArg Nat.cast (by assumption)
  rw [hl] at hst
  have hg:=h.noted (t:=t) ⟨1,0,((p*37+30:Nat):Int),((19+T+t:Nat):Int),(n:Int),0,0,false⟩ (show (1:Int)≠7 by decide) (show (1:Int)≠13 by decide)
  have key:=W_loc hg ht eL er ej (⟨p,31,r0,r1,r2,r3,(n:Int),r5,r6,r7,0⟩:Loc) (.inl ⟨rfl,hp,by show 31 < 37;decide⟩) (IL (mem:=s.mem) (q:=s.buf) hI (by rw [←hme,hq,hgt,hy1,hy2,hn,hb,hfw];first | (apply At.a31H04<;>(first | assumption | rfl | omega | (intro e;dsimp only at e;omega));done) | (apply At.a31H14<;>(first | assumption | rfl | omega | (intro e;dsimp only at e;omega));done) | (apply At.a31H24<;>(first | assumption | rfl | omega | (intro e;dsimp only at e;omega));done) | (apply At.a31H34<;>(first | assumption | rfl | omega | (intro e;dsimp only at e;omega));done))) (by rw [hx];rfl) (by rw [hx]) (by rw [hx];rfl)
  rw [show Loc.th 37 _=_ from th_of rfl] at key
  exact⟨_,_,_,hst,key⟩
 case a30H44 g0 g1 g2 g3=>
  have hi:=ins (i:=⟨16,4,8,0,((19+T+t:Nat):Int)⟩) rfl
  rw [movI_plain (i:=⟨16,4,8,0,((19+T+t:Nat):Int)⟩) rfl] at hi
  have hst:=st_load hi (ad:=(19+T+t)) (addr_abs _ _ _ _ _) (by rw [hnm];omega)
  have hl:s.load t (19+T+t)=(n:Int):=by rw [load_q hq];rw [hmi];exact congrArg Nat.cast (by assumption)
  rw [hl] at hst
  have hg:=h.noted (t:=t) ⟨1,0,((p*37+30:Nat):Int),((19+T+t:Nat):Int),(n:Int),0,0,false⟩ (show (1:Int)≠7 by decide) (show (1:Int)≠13 by decide)
  have key:=W_loc hg ht eL er ej (⟨p,31,r0,r1,r2,r3,(n:Int),r5,r6,r7,0⟩:Loc) (.inl ⟨rfl,hp,by show 31 < 37;decide⟩) (IL (mem:=s.mem) (q:=s.buf) hI (by rw [←hme,hq,hgt,hy1,hy2,hn,hb,hfw];apply At.a31H44<;>first | assumption | rfl | omega | (intro e;dsimp only at e;omega))) (by rw [hx];rfl) (by rw [hx]) (by rw [hx];rfl)
  rw [show Loc.th 37 _=_ from th_of rfl] at key
  exact⟨_,_,_,hst,key⟩
 case a31H04 g0 g1 g2=>
  have hi:=ins (i:=⟨16,6,8,0,((19+2*T+t:Nat):Int)⟩) rfl
  rw [movI_plain (i:=⟨16,6,8,0,((19+2*T+t:Nat):Int)⟩) rfl] at hi
  have hst:=st_load hi (ad:=(19+2*T+t)) (addr_abs _ _ _ _ _) (by rw [hnm];omega)
  have hl:s.load t (19+2*T+t)=(b:Int):=by rw [load_q hq];(repeat (rw [Wd.lastQ_cons];first | rw [if_neg (by dsimp only;omega)] | rw [if_pos rfl]));rfl
  rw [hl] at hst
  have hg:=h.noted (t:=t) ⟨1,0,((p*37+31:Nat):Int),((19+2*T+t:Nat):Int),(b:Int),0,0,false⟩ (show (1:Int)≠7 by decide) (show (1:Int)≠13 by decide)
  have key:=W_loc hg ht eL er ej (⟨p,32,r0,r1,r2,r3,r4,r5,(b:Int),r7,0⟩:Loc) (.inl ⟨rfl,hp,by show 32 < 37;decide⟩) (IL (mem:=s.mem) (q:=s.buf) hI (by rw [←hme,hq,hgt,hy1,hy2,hn,hb,hfw];apply At.a32H04<;>first | assumption | rfl | omega | (intro e;dsimp only at e;omega))) (by rw [hx];rfl) (by rw [hx]) (by rw [hx];rfl)
  rw [show Loc.th 37 _=_ from th_of rfl] at key
  exact⟨_,_,_,hst,key⟩
 case a31H14 g0 g1 g2 g3 | a31H24 g0 g1 g2 g3 g4 | a31H34 g0 g1 g2 g3 g4=>
  have hi:=ins (i:=⟨16,6,8,0,((19+2*T+t:Nat):Int)⟩) rfl
  rw [movI_plain (i:=⟨16,6,8,0,((19+2*T+t:Nat):Int)⟩) rfl] at hi
  have hst:=st_load hi (ad:=(19+2*T+t)) (addr_abs _ _ _ _ _) (by rw [hnm];omega)
  have hl:s.load t (19+2*T+t)=(b:Int):=by rw [load_q hq];(repeat (rw [Wd.lastQ_cons];first | rw [if_neg (by dsimp only;omega)] | rw [if_pos rfl]));rw [hpi];exact congrArg Nat.cast (by assumption)
  rw [hl] at hst
  have hg:=h.noted (t:=t) ⟨1,0,((p*37+31:Nat):Int),((19+2*T+t:Nat):Int),(b:Int),0,0,false⟩ (show (1:Int)≠7 by decide) (show (1:Int)≠13 by decide)
  have key:=W_loc hg ht eL er ej (⟨p,32,r0,r1,r2,r3,r4,r5,(b:Int),r7,0⟩:Loc) (.inl ⟨rfl,hp,by show 32 < 37;decide⟩) (IL (mem:=s.mem) (q:=s.buf) hI (by rw [←hme,hq,hgt,hy1,hy2,hn,hb,hfw];first | (apply At.a32H14<;>(first | assumption | rfl | omega | (intro e;dsimp only at e;omega));done) | (apply At.a32H24<;>(first | assumption | rfl | omega | (intro e;dsimp only at e;omega));done) | (apply At.a32H34<;>(first | assumption | rfl | omega | (intro e;dsimp only at e;omega));done))) (by rw [hx];rfl) (by rw [hx]) (by rw [hx];rfl)
  rw [show Loc.th 37 _=_ from th_of rfl] at key
  exact⟨_,_,_,hst,key⟩
 case a31H44 g0 g1 g2 g3 g4=>
  have hi:=ins (i:=⟨16,6,8,0,((19+2*T+t:Nat):Int)⟩) rfl
  rw [movI_plain (i:=⟨16,6,8,0,((19+2*T+t:Nat):Int)⟩) rfl] at hi
  have hst:=st_load hi (ad:=(19+2*T+t)) (addr_abs _ _ _ _ _) (by rw [hnm];omega)
  have hl:s.load t (19+2*T+t)=(b:Int):=by rw [load_q hq];rw [hpi];exact congrArg Nat.cast (by assumption)
  rw [hl] at hst
  have hg:=h.noted (t:=t) ⟨1,0,((p*37+31:Nat):Int),((19+2*T+t:Nat):Int),(b:Int),0,0,false⟩ (show (1:Int)≠7 by decide) (show (1:Int)≠13 by decide)
  have key:=W_loc hg ht eL er ej (⟨p,32,r0,r1,r2,r3,r4,r5,(b:Int),r7,0⟩:Loc) (.inl ⟨rfl,hp,by show 32 < 37;decide⟩) (IL (mem:=s.mem) (q:=s.buf) hI (by rw [←hme,hq,hgt,hy1,hy2,hn,hb,hfw];apply At.a32H44<;>first | assumption | rfl | omega | (intro e;dsimp only at e;omega))) (by rw [hx];rfl) (by rw [hx]) (by rw [hx];rfl)
  rw [show Loc.th 37 _=_ from th_of rfl] at key
  exact⟨_,_,_,hst,key⟩
 case a32H04 g0 g1 g2 g3 | a32H14 g0 g1 g2 g3 g4 | a32H24 g0 g1 g2 g3 g4 g5 | a32H34 g0 g1 g2 g3 g4 g5 | a32H44 g0 g1 g2 g3 g4 g5=>
  have hi:=ins (i:=⟨17,6,8,0,((19+T+t:Nat):Int)⟩) rfl
  rw [movI_plain (i:=⟨17,6,8,0,((19+T+t:Nat):Int)⟩) rfl] at hi
  have hst:=st_store hi (ad:=(19+T+t)) (addr_abs _ _ _ _ _) (by rw [hnm];omega)
  by_cases hro:s.roomy t=true
  ·rw [if_pos hro] at hst
   have hrv:r6=(b:Int):=by assumption
   have key:=W_stored h ht eL er ej ((p*37+32:Nat):Int) (19+T+t) r6 (⟨p,33,r0,r1,r2,r3,r4,r5,r6,r7,0⟩:Loc) (.inl ⟨rfl,hp,by show 33 < 37;decide⟩) (⟨_,_,_,_,_,_,_,hI.put (q':=s.buf t++[((19+T+t),r6)]) (by rw [hrv,←hme,hq,hgt,hy1,hy2,hn,hb,hfw];first | (apply At.a33H05<;>(first | assumption | rfl | (simp_all;done));done) | (apply At.a33H15<;>(first | assumption | rfl | (simp_all;done));done) | (apply At.a33H25<;>(first | assumption | rfl | (simp_all;done));done) | (apply At.a33H35<;>(first | assumption | rfl | (simp_all;done));done) | (apply At.a33H45<;>(first | assumption | rfl | (simp_all;done));done))⟩) (by rw [hx];rfl) (by rw [hx]) (.inl ⟨by omega,by rw [hx];rfl⟩)
   rw [show Loc.th 37 _=_ from th_of rfl] at key
   exact⟨_,_,_,hst,key⟩
  ·rw [if_neg hro] at hst
   exact⟨_,f,i,hst,flush h ht⟩
 case a33H05 g0 g1 g2 | a33H15 g0 g1 g2 g3 | a33H25 g0 g1 g2 g3 g4 | a33H35 g0 g1 g2 g3 g4 | a33H45 g0 g1 g2 g3 g4 | a33H55 g0 g1 g2 g3 g4=>
  have hi:=ins (i:=⟨1,6,0,0,0⟩) rfl
  rw [movI_plain (i:=⟨1,6,0,0,0⟩) rfl] at hi
  have hst:=st_set hi
  have key:=W_loc h ht eL er ej (⟨p,34,r0,r1,r2,r3,r4,r5,(0),r7,0⟩:Loc) (.inl ⟨rfl,hp,by show 34 < 37;decide⟩) (IL (mem:=s.mem) (q:=s.buf) hI (by rw [←hme,hq,hgt,hy1,hy2,hn,hb,hfw];first | (apply At.a34H05<;>(first | assumption | rfl | (simp_all;done));done) | (apply At.a34H15<;>(first | assumption | rfl | (simp_all;done));done) | (apply At.a34H25<;>(first | assumption | rfl | (simp_all;done));done) | (apply At.a34H35<;>(first | assumption | rfl | (simp_all;done));done) | (apply At.a34H45<;>(first | assumption | rfl | (simp_all;done));done) | (apply At.a34H55<;>(first | assumption | rfl | (simp_all;done));done))) (by rw [hx];rfl) (by rw [hx]) (by rw [hx];rfl)
  rw [show Loc.th 37 _=_ from th_of rfl] at key
  exact⟨_,_,_,hst,key⟩
 case a34H05 g0 g1 g2 g3 | a34H15 g0 g1 g2 g3 g4 | a34H25 g0 g1 g2 g3 g4 g5 | a34H35 g0 g1 g2 g3 g4 g5 | a34H45 g0 g1 g2 g3 g4 g5 | a34H55 g0 g1 g2 g3 g4 g5=>
  have hi:=ins (i:=⟨17,6,4,0,18⟩) rfl
  rw [movI_plain (i:=⟨17,6,4,0,18⟩) rfl] at hi
  have r4n:r4=(n:Int):=by assumption
  subst r4n
  have hst:=st_store hi (ad:=18+n) ((addr_rel (n:=n) (m:=18) rfl rfl (by decide) (by omega) 6).trans (by omega)) (by rw [hnm];omega)
  by_cases hro:s.roomy t=true
  ·rw [if_pos hro] at hst
   have hrv:r6=0:=by assumption
   have key:=W_stored h ht eL er ej ((p*37+34:Nat):Int) (18+n) r6 (⟨p,35,r0,r1,r2,r3,(n:Int),r5,r6,r7,0⟩:Loc) (.inl ⟨rfl,hp,by show 35 < 37;decide⟩) (⟨_,_,_,_,_,_,_,hI.put (q':=s.buf t++[((18+n),r6)]) (by rw [hrv,←hme,hq,hgt,hy1,hy2,hn,hb,hfw];first | (apply At.a35H06<;>(first | assumption | rfl | (simp_all;done));done) | (apply At.a35H16<;>(first | assumption | rfl | (simp_all;done));done) | (apply At.a35H26<;>(first | assumption | rfl | (simp_all;done));done) | (apply At.a35H36<;>(first | assumption | rfl | (simp_all;done));done) | (apply At.a35H46<;>(first | assumption | rfl | (simp_all;done));done) | (apply At.a35H56<;>(first | assumption | rfl | (simp_all;done));done))⟩) (by rw [hx];rfl) (by rw [hx]) (.inl ⟨by omega,by rw [hx];rfl⟩)
   rw [show Loc.th 37 _=_ from th_of rfl] at key
   exact⟨_,_,_,hst,key⟩
  ·rw [if_neg hro] at hst
   exact⟨_,f,i,hst,flush h ht⟩
 case a35H06 g0 g1 | a35H16 g0 g1 g2 | a35H26 g0 g1 g2 g3 | a35H36 g0 g1 g2 g3 | a35H46 g0 g1 g2 g3 | a35H56 g0 g1 g2 g3 | a35H66 g0 g1 g2=>
  have hi:=ins (i:=⟨1,7,0,0,0⟩) rfl
  rw [movI_plain (i:=⟨1,7,0,0,0⟩) rfl] at hi
  have hst:=st_set hi
  have key:=W_loc h ht eL er ej (⟨p,36,r0,r1,r2,r3,r4,r5,r6,(0),0⟩:Loc) (.inl ⟨rfl,hp,by show 36 < 37;decide⟩) (IL (mem:=s.mem) (q:=s.buf) hI (by rw [←hme,hq,hgt,hy1,hy2,hn,hb,hfw];first | (apply At.a36H06<;>(first | assumption | rfl | (simp_all;done));done) | (apply At.a36H16<;>(first | assumption | rfl | (simp_all;done));done) | (apply At.a36H26<;>(first | assumption | rfl | (simp_all;done));done) | (apply At.a36H36<;>(first | assumption | rfl | (simp_all;done));done) | (apply At.a36H46<;>(first | assumption | rfl | (simp_all;done));done) | (apply At.a36H56<;>(first | assumption | rfl | (simp_all;done));done) | (apply At.a36H66<;>(first | assumption | rfl | (simp_all;done));done))) (by rw [hx];rfl) (by rw [hx]) (by rw [hx];rfl)
  rw [show Loc.th 37 _=_ from th_of rfl] at key
  exact⟨_,_,_,hst,key⟩
 case a36H06 g0 g1 g2 | a36H16 g0 g1 g2 g3 | a36H26 g0 g1 g2 g3 g4 | a36H36 g0 g1 g2 g3 g4 | a36H46 g0 g1 g2 g3 g4 | a36H56 g0 g1 g2 g3 g4 | a36H66 g0 g1 g2 g3=>
  have hi:=ins (i:=⟨27,7,0,0,3⟩) rfl
  rw [movI_plain (i:=⟨27,7,0,0,3⟩) rfl] at hi
  have hmk:=st_mark hi
  have hg:=h.marked (t:=t) ⟨7,0,((p*37+36:Nat):Int),0,r7,0,3,false⟩ rfl (.inr ⟨rfl,by assumption⟩)
  have key:=W_again hg ht eL er ej (⟨p+1,0,r0,r1,r2,r3,r4,r5,r6,r7,0⟩:Loc) (by
   by_cases e:p+1 < R
   ·exact .inl ⟨rfl,e,by show 0 < 37;decide⟩
   ·exact .inr ⟨by show p+1=R;omega,rfl,.inl rfl⟩) (IL (mem:=s.mem) (q:=s.buf) hI (by rw [←hme,hq,hgt,hy1,hy2,hn,hb,hfw];first | (apply At.a0H06<;>(first | assumption | rfl | (simp_all;done));done) | (apply At.a0H16<;>(first | assumption | rfl | (simp_all;done));done) | (apply At.a0H26<;>(first | assumption | rfl | (simp_all;done));done) | (apply At.a0H36<;>(first | assumption | rfl | (simp_all;done));done) | (apply At.a0H46<;>(first | assumption | rfl | (simp_all;done));done) | (apply At.a0H56<;>(first | assumption | rfl | (simp_all;done));done) | (apply At.a0H66<;>(first | assumption | rfl | (simp_all;done));done))) (by rw [hx];rfl) (by rw [hx]) (by rw [hx];show 20 < 36;decide) rfl
  rw [show Loc.th 37 _=_ from th_last rfl] at key
  exact⟨_,_,_,hmk,key⟩
theorem run(hT:T≤100)(hR:R≤100)(hc:∀ t,t < T→codes[t]? = some (codeT T R t))(l:List (Nat×Nat))(h:(X T R).Inv s f i):∃ s',Ts.run codes s l=some s'∧∃ f' i',(X T R).Inv s' f' i':=
 Wd.Lk.run codes (fun t (ht:t < T)=>⟨_,hc t ht,code_len T R t hT (by omega)⟩)
  (fun s f i t h ht=>by
   obtain⟨g,mi,pi,mn,pd,F,Q,hI⟩:=h.I
   exact IL (x:={ f t with st:=2 }) hI (hI.hat t ht))
  (fun s f i t h ht h0 hp hj=>step h ht hT hR (hc t ht) h0 hp hj) (fun s f i t h ht=>flush h ht) l s f i h
end
end Go.Proofs.YtckmkaeopnnbbaaGreatDoor.As.Clh
