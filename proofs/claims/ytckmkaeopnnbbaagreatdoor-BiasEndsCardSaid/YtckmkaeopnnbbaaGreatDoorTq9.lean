/- Plain Lean: the biased lock: one at a time. No program in sight. -/
import Derived.Test.YtckmkaeopnnbbaaGreatDoorTq8
import Derived.Test.YtckmkaeopnnbbaaGreatDoorLocks3
set_option linter.unusedVariables false
set_option linter.unusedSimpArgs false
namespace Go.Proofs.YtckmkaeopnnbbaaGreatDoor.As.Bia
open Wd

def baseB(me:Int):List Ins:=[⟨27,7,0,0,0⟩,⟨16,4,8,0,19⟩,⟨1,5,0,0,me⟩,⟨12,6,4,5,0⟩,⟨14,6,0,0,7⟩,⟨1,7,0,0,1⟩,⟨13,0,0,0,18⟩,⟨1,4,0,0,1⟩,⟨17,4,8,0,16⟩,⟨16,4,8,0,17⟩,⟨14,4,0,0,16⟩,⟨1,4,0,0,0⟩,⟨17,4,8,0,16⟩,⟨1,4,0,0,0⟩,⟨21,4,8,5,18⟩,⟨15,4,0,0,13⟩,⟨17,5,8,0,19⟩,⟨1,7,0,0,0⟩,⟨27,7,0,0,1⟩,⟨16,1,8,0,0⟩,⟨1,2,0,0,1⟩,⟨3,1,1,2,0⟩,⟨17,1,8,0,0⟩,⟨27,7,0,0,2⟩,⟨16,4,8,0,19⟩,⟨1,5,0,0,me⟩,⟨12,6,4,5,0⟩,⟨15,6,0,0,30⟩,⟨1,7,0,0,2⟩,⟨13,0,0,0,41⟩,⟨1,4,0,0,0⟩,⟨17,4,8,0,19⟩,⟨16,4,8,0,18⟩,⟨12,6,4,5,0⟩,⟨15,6,0,0,38⟩,⟨1,4,0,0,0⟩,⟨17,4,8,0,16⟩,⟨13,0,0,0,40⟩,⟨1,4,0,0,0⟩,⟨17,4,8,0,18⟩,⟨1,7,0,0,0⟩,⟨27,7,0,0,3⟩]
def baseO(me:Int):List Ins:=[⟨27,7,0,0,0⟩,⟨16,4,8,0,19⟩,⟨1,5,0,0,me⟩,⟨12,6,4,5,0⟩,⟨14,6,0,0,7⟩,⟨1,7,0,0,1⟩,⟨13,0,0,0,19⟩,⟨1,4,0,0,0⟩,⟨21,4,8,5,18⟩,⟨15,4,0,0,7⟩,⟨16,4,8,0,17⟩,⟨15,4,0,0,17⟩,⟨1,4,0,0,1⟩,⟨17,4,8,0,17⟩,⟨25,0,0,0,0⟩,⟨16,4,8,0,16⟩,⟨15,4,0,0,15⟩,⟨17,5,8,0,19⟩,⟨1,7,0,0,0⟩,⟨27,7,0,0,1⟩,⟨16,1,8,0,0⟩,⟨1,2,0,0,1⟩,⟨3,1,1,2,0⟩,⟨17,1,8,0,0⟩,⟨27,7,0,0,2⟩,⟨16,4,8,0,19⟩,⟨1,5,0,0,me⟩,⟨12,6,4,5,0⟩,⟨15,6,0,0,31⟩,⟨1,7,0,0,2⟩,⟨13,0,0,0,36⟩,⟨1,4,0,0,0⟩,⟨17,4,8,0,19⟩,⟨1,4,0,0,0⟩,⟨17,4,8,0,18⟩,⟨1,7,0,0,0⟩,⟨27,7,0,0,3⟩]
theorem baseB_eq(t:Nat):baseR (resL (linBiasOwn 16 t)) (resL (linBiasLeave 16 t))=baseB ((t+1:Nat):Int):=by
 have e1:resL (linBiasOwn 16 t)=[⟨16,4,8,0,19⟩,⟨1,5,0,0,((t+1:Nat):Int)⟩,⟨12,6,4,5,0⟩,⟨14,6,0,0,6⟩,⟨1,7,0,0,1⟩,⟨13,0,0,0,17⟩,⟨1,4,0,0,1⟩,⟨17,4,8,0,16⟩,⟨16,4,8,0,17⟩,⟨14,4,0,0,15⟩,⟨1,4,0,0,0⟩,⟨17,4,8,0,16⟩,⟨1,4,0,0,0⟩,⟨21,4,8,5,18⟩,⟨15,4,0,0,12⟩,⟨17,5,8,0,19⟩,⟨1,7,0,0,0⟩]:=rfl
 have e2:resL (linBiasLeave 16 t)=[⟨16,4,8,0,19⟩,⟨1,5,0,0,((t+1:Nat):Int)⟩,⟨12,6,4,5,0⟩,⟨15,6,0,0,6⟩,⟨1,7,0,0,2⟩,⟨13,0,0,0,17⟩,⟨1,4,0,0,0⟩,⟨17,4,8,0,19⟩,⟨16,4,8,0,18⟩,⟨12,6,4,5,0⟩,⟨15,6,0,0,14⟩,⟨1,4,0,0,0⟩,⟨17,4,8,0,16⟩,⟨13,0,0,0,16⟩,⟨1,4,0,0,0⟩,⟨17,4,8,0,18⟩,⟨1,7,0,0,0⟩]:=rfl
 rw [e1,e2,baseR_eq]
 simp [baseB,incR,movI,jumps,wr32]
def codeB(R t:Nat):List Ins:=roundsR (resL (linBiasOwn 16 t)) (resL (linBiasLeave 16 t)) R []
theorem codeB_len(R t:Nat):(codeB R t).length=R*42:=by
 unfold codeB
 rw [roundsR_len,baseB_eq];simp [baseB]
theorem codeB_get(R t p j:Nat)(hp:p < R)(hj:j < 42):(codeB R t)[p*42+j]? = ((baseB ((t+1:Nat):Int))[j]?).map (movI (p*42)):=by
 have h:=roundsR_get (resL (linBiasOwn 16 t)) (resL (linBiasLeave 16 t)) R [] p j hp (by rw [baseB_eq];exact hj)
 rw [baseB_eq] at h
 have e:([]:List Ins).length+p*(baseB ((t+1:Nat):Int)).length=p*42:=by rw [List.length_nil,Nat.zero_add];rfl
 rw [e] at h
 exact h
theorem baseO_eq(t:Nat):baseR (resL (linBiasOther 16 t)) (resL (linBiasOut 16 t))=baseO ((t+1:Nat):Int):=by
 have e1:resL (linBiasOther 16 t)=[⟨16,4,8,0,19⟩,⟨1,5,0,0,((t+1:Nat):Int)⟩,⟨12,6,4,5,0⟩,⟨14,6,0,0,6⟩,⟨1,7,0,0,1⟩,⟨13,0,0,0,18⟩,⟨1,4,0,0,0⟩,⟨21,4,8,5,18⟩,⟨15,4,0,0,6⟩,⟨16,4,8,0,17⟩,⟨15,4,0,0,16⟩,⟨1,4,0,0,1⟩,⟨17,4,8,0,17⟩,⟨25,0,0,0,0⟩,⟨16,4,8,0,16⟩,⟨15,4,0,0,14⟩,⟨17,5,8,0,19⟩,⟨1,7,0,0,0⟩]:=rfl
 have e2:resL (linBiasOut 16 t)=[⟨16,4,8,0,19⟩,⟨1,5,0,0,((t+1:Nat):Int)⟩,⟨12,6,4,5,0⟩,⟨15,6,0,0,6⟩,⟨1,7,0,0,2⟩,⟨13,0,0,0,11⟩,⟨1,4,0,0,0⟩,⟨17,4,8,0,19⟩,⟨1,4,0,0,0⟩,⟨17,4,8,0,18⟩,⟨1,7,0,0,0⟩]:=rfl
 rw [e1,e2,baseR_eq]
 simp [baseO,incR,movI,jumps,wr32]
def codeO(R t:Nat):List Ins:=roundsR (resL (linBiasOther 16 t)) (resL (linBiasOut 16 t)) R []
theorem codeO_len(R t:Nat):(codeO R t).length=R*37:=by
 unfold codeO
 rw [roundsR_len,baseO_eq];simp [baseO]
theorem codeO_get(R t p j:Nat)(hp:p < R)(hj:j < 37):(codeO R t)[p*37+j]? = ((baseO ((t+1:Nat):Int))[j]?).map (movI (p*37)):=by
 have h:=roundsR_get (resL (linBiasOther 16 t)) (resL (linBiasOut 16 t)) R [] p j hp (by rw [baseO_eq];exact hj)
 rw [baseO_eq] at h
 have e:([]:List Ins).length+p*(baseO ((t+1:Nat):Int)).length=p*37:=by rw [List.length_nil,Nat.zero_add];rfl
 rw [e] at h
 exact h
inductive AtB(me c:Int):Nat→Bool→Bool→Nat→Int→Int→Int→Int→Int→Int→Prop
 | b0 {r1 r2 r4 r5 r6 r7:Int}  : AtB me c 0 false false 0 r1 r2 r4 r5 r6 r7
 | b1 {r1 r2 r4 r5 r6 r7:Int}  : AtB me c 0 false false 1 r1 r2 r4 r5 r6 r7
 | b2 {r1 r2 r4 r5 r6 r7:Int} (h0:r4≠me):AtB me c 0 false false 2 r1 r2 r4 r5 r6 r7
 | b3 {r1 r2 r4 r5 r6 r7:Int} (h0:r4≠me) (h1:r5=me):AtB me c 0 false false 3 r1 r2 r4 r5 r6 r7
 | b4 {r1 r2 r4 r5 r6 r7:Int} (h0:r5=me) (h1:r6=0):AtB me c 0 false false 4 r1 r2 r4 r5 r6 r7
 | b7 {r1 r2 r4 r5 r6 r7:Int} (h0:r5=me):AtB me c 0 false false 7 r1 r2 r4 r5 r6 r7
 | b8 {r1 r2 r4 r5 r6 r7:Int} (h0:r5=me) (h1:r4=1):AtB me c 0 false false 8 r1 r2 r4 r5 r6 r7
 | b9 {r1 r2 r4 r5 r6 r7:Int} (h0:r5=me):AtB me c 1 false false 9 r1 r2 r4 r5 r6 r7
 | b10k {r1 r2 r4 r5 r6 r7:Int} (h0:r5=me) (h1:r4≠0):AtB me c 1 false true 10 r1 r2 r4 r5 r6 r7
 | b10t {r1 r2 r4 r5 r6 r7:Int} (h0:r5=me) (h1:r4=0):AtB me c 1 true false 10 r1 r2 r4 r5 r6 r7
 | b11k {r1 r2 r4 r5 r6 r7:Int} (h0:r5=me):AtB me c 1 false true 11 r1 r2 r4 r5 r6 r7
 | b12k {r1 r2 r4 r5 r6 r7:Int} (h0:r5=me) (h1:r4=0):AtB me c 1 false true 12 r1 r2 r4 r5 r6 r7
 | b13k {r1 r2 r4 r5 r6 r7:Int} (h0:r5=me):AtB me c 0 false true 13 r1 r2 r4 r5 r6 r7
 | b14k {r1 r2 r4 r5 r6 r7:Int} (h0:r5=me) (h1:r4=0):AtB me c 0 false true 14 r1 r2 r4 r5 r6 r7
 | b15k {r1 r2 r4 r5 r6 r7:Int} (h0:r5=me) (h1:r4≠0):AtB me c 0 false true 15 r1 r2 r4 r5 r6 r7
 | b15s {r1 r2 r4 r5 r6 r7:Int} (h0:r5=me) (h1:r4=0):AtB me c 5 false false 15 r1 r2 r4 r5 r6 r7
 | b16s {r1 r2 r4 r5 r6 r7:Int} (h0:r5=me):AtB me c 5 false false 16 r1 r2 r4 r5 r6 r7
 | b16t {r1 r2 r4 r5 r6 r7:Int} (h0:r5=me):AtB me c 1 true false 16 r1 r2 r4 r5 r6 r7
 | b17f {r1 r2 r4 r5 r6 r7:Int}  : AtB me c 2 false false 17 r1 r2 r4 r5 r6 r7
 | b17s {r1 r2 r4 r5 r6 r7:Int}  : AtB me c 6 false false 17 r1 r2 r4 r5 r6 r7
 | b18f {r1 r2 r4 r5 r6 r7:Int} (h0:r7=0):AtB me c 2 false false 18 r1 r2 r4 r5 r6 r7
 | b18s {r1 r2 r4 r5 r6 r7:Int} (h0:r7=0):AtB me c 6 false false 18 r1 r2 r4 r5 r6 r7
 | b19f {r1 r2 r4 r5 r6 r7:Int}  : AtB me c 2 false false 19 r1 r2 r4 r5 r6 r7
 | b19s {r1 r2 r4 r5 r6 r7:Int}  : AtB me c 6 false false 19 r1 r2 r4 r5 r6 r7
 | b20f {r1 r2 r4 r5 r6 r7:Int} (h0:r1=c):AtB me c 2 false false 20 r1 r2 r4 r5 r6 r7
 | b20s {r1 r2 r4 r5 r6 r7:Int} (h0:r1=c):AtB me c 6 false false 20 r1 r2 r4 r5 r6 r7
 | b21f {r1 r2 r4 r5 r6 r7:Int} (h0:r1=c) (h1:r2=1):AtB me c 2 false false 21 r1 r2 r4 r5 r6 r7
 | b21s {r1 r2 r4 r5 r6 r7:Int} (h0:r1=c) (h1:r2=1):AtB me c 6 false false 21 r1 r2 r4 r5 r6 r7
 | b22f {r1 r2 r4 r5 r6 r7:Int} (h0:r1=wr32 (c+1)):AtB me c 2 false false 22 r1 r2 r4 r5 r6 r7
 | b22s {r1 r2 r4 r5 r6 r7:Int} (h0:r1=wr32 (c+1)):AtB me c 6 false false 22 r1 r2 r4 r5 r6 r7
 | b23f {r1 r2 r4 r5 r6 r7:Int}  : AtB me c 3 false false 23 r1 r2 r4 r5 r6 r7
 | b23s {r1 r2 r4 r5 r6 r7:Int}  : AtB me c 7 false false 23 r1 r2 r4 r5 r6 r7
 | b24f {r1 r2 r4 r5 r6 r7:Int}  : AtB me c 3 false false 24 r1 r2 r4 r5 r6 r7
 | b24s {r1 r2 r4 r5 r6 r7:Int}  : AtB me c 7 false false 24 r1 r2 r4 r5 r6 r7
 | b25f {r1 r2 r4 r5 r6 r7:Int} (h0:r4=me):AtB me c 3 false false 25 r1 r2 r4 r5 r6 r7
 | b25s {r1 r2 r4 r5 r6 r7:Int} (h0:r4=me):AtB me c 7 false false 25 r1 r2 r4 r5 r6 r7
 | b26f {r1 r2 r4 r5 r6 r7:Int} (h0:r4=me) (h1:r5=me):AtB me c 3 false false 26 r1 r2 r4 r5 r6 r7
 | b26s {r1 r2 r4 r5 r6 r7:Int} (h0:r4=me) (h1:r5=me):AtB me c 7 false false 26 r1 r2 r4 r5 r6 r7
 | b27f {r1 r2 r4 r5 r6 r7:Int} (h0:r5=me) (h1:r6=1):AtB me c 3 false false 27 r1 r2 r4 r5 r6 r7
 | b27s {r1 r2 r4 r5 r6 r7:Int} (h0:r5=me) (h1:r6=1):AtB me c 7 false false 27 r1 r2 r4 r5 r6 r7
 | b30f {r1 r2 r4 r5 r6 r7:Int} (h0:r5=me):AtB me c 3 false false 30 r1 r2 r4 r5 r6 r7
 | b30s {r1 r2 r4 r5 r6 r7:Int} (h0:r5=me):AtB me c 7 false false 30 r1 r2 r4 r5 r6 r7
 | b31f {r1 r2 r4 r5 r6 r7:Int} (h0:r5=me) (h1:r4=0):AtB me c 3 false false 31 r1 r2 r4 r5 r6 r7
 | b31s {r1 r2 r4 r5 r6 r7:Int} (h0:r5=me) (h1:r4=0):AtB me c 7 false false 31 r1 r2 r4 r5 r6 r7
 | b32f {r1 r2 r4 r5 r6 r7:Int} (h0:r5=me):AtB me c 4 false false 32 r1 r2 r4 r5 r6 r7
 | b32s {r1 r2 r4 r5 r6 r7:Int} (h0:r5=me):AtB me c 8 false false 32 r1 r2 r4 r5 r6 r7
 | b33f {r1 r2 r4 r5 r6 r7:Int} (h0:r5=me) (h1:r4≠me):AtB me c 4 false false 33 r1 r2 r4 r5 r6 r7
 | b33s {r1 r2 r4 r5 r6 r7:Int} (h0:r5=me) (h1:r4=me):AtB me c 8 false false 33 r1 r2 r4 r5 r6 r7
 | b34f {r1 r2 r4 r5 r6 r7:Int} (h0:r6=0):AtB me c 4 false false 34 r1 r2 r4 r5 r6 r7
 | b34s {r1 r2 r4 r5 r6 r7:Int} (h0:r6=1):AtB me c 8 false false 34 r1 r2 r4 r5 r6 r7
 | b35f {r1 r2 r4 r5 r6 r7:Int}  : AtB me c 4 false false 35 r1 r2 r4 r5 r6 r7
 | b36f {r1 r2 r4 r5 r6 r7:Int} (h0:r4=0):AtB me c 4 false false 36 r1 r2 r4 r5 r6 r7
 | b37 {r1 r2 r4 r5 r6 r7:Int}  : AtB me c 0 false false 37 r1 r2 r4 r5 r6 r7
 | b38s {r1 r2 r4 r5 r6 r7:Int}  : AtB me c 8 false false 38 r1 r2 r4 r5 r6 r7
 | b39s {r1 r2 r4 r5 r6 r7:Int} (h0:r4=0):AtB me c 8 false false 39 r1 r2 r4 r5 r6 r7
 | b40 {r1 r2 r4 r5 r6 r7:Int}  : AtB me c 0 false false 40 r1 r2 r4 r5 r6 r7
 | b41 {r1 r2 r4 r5 r6 r7:Int} (h0:r7=0):AtB me c 0 false false 41 r1 r2 r4 r5 r6 r7
inductive AtO(me ow cw c:Int)(g:Nat):Nat→Int→Int→Int→Int→Int→Int→List (Nat×Int)→Prop
 | o0H04 {r1 r2 r4 r5 r6 r7:Int} (h0:g=5) (h1:cw=me):AtO me ow cw c g 0 r1 r2 r4 r5 r6 r7 [(19,me),(0,wr32 (c+1)),(19,0),(18,0)]
 | o0H14 {r1 r2 r4 r5 r6 r7:Int} (h0:g=5) (h1:cw=me) (h2:ow=me):AtO me ow cw c g 0 r1 r2 r4 r5 r6 r7 [(0,wr32 (c+1)),(19,0),(18,0)]
 | o0H24 {r1 r2 r4 r5 r6 r7:Int} (h0:g=5) (h1:cw=me) (h2:ow=me):AtO me ow cw c g 0 r1 r2 r4 r5 r6 r7 [(19,0),(18,0)]
 | o0H34 {r1 r2 r4 r5 r6 r7:Int} (h0:g=5) (h1:cw=me) (h2:ow=0):AtO me ow cw c g 0 r1 r2 r4 r5 r6 r7 [(18,0)]
 | o0H44 {r1 r2 r4 r5 r6 r7:Int} (h0:g=0) (h1:cw≠me) (h2:ow≠me):AtO me ow cw c g 0 r1 r2 r4 r5 r6 r7 []
 | o1H04 {r1 r2 r4 r5 r6 r7:Int} (h0:g=5) (h1:cw=me):AtO me ow cw c g 1 r1 r2 r4 r5 r6 r7 [(19,me),(0,wr32 (c+1)),(19,0),(18,0)]
 | o1H14 {r1 r2 r4 r5 r6 r7:Int} (h0:g=5) (h1:cw=me) (h2:ow=me):AtO me ow cw c g 1 r1 r2 r4 r5 r6 r7 [(0,wr32 (c+1)),(19,0),(18,0)]
 | o1H24 {r1 r2 r4 r5 r6 r7:Int} (h0:g=5) (h1:cw=me) (h2:ow=me):AtO me ow cw c g 1 r1 r2 r4 r5 r6 r7 [(19,0),(18,0)]
 | o1H34 {r1 r2 r4 r5 r6 r7:Int} (h0:g=5) (h1:cw=me) (h2:ow=0):AtO me ow cw c g 1 r1 r2 r4 r5 r6 r7 [(18,0)]
 | o1H44 {r1 r2 r4 r5 r6 r7:Int} (h0:g=0) (h1:cw≠me) (h2:ow≠me):AtO me ow cw c g 1 r1 r2 r4 r5 r6 r7 []
 | o2H04 {r1 r2 r4 r5 r6 r7:Int} (h0:g=5) (h1:cw=me) (h2:r4≠me):AtO me ow cw c g 2 r1 r2 r4 r5 r6 r7 [(19,me),(0,wr32 (c+1)),(19,0),(18,0)]
 | o2H14 {r1 r2 r4 r5 r6 r7:Int} (h0:g=5) (h1:cw=me) (h2:ow=me) (h3:r4≠me):AtO me ow cw c g 2 r1 r2 r4 r5 r6 r7 [(0,wr32 (c+1)),(19,0),(18,0)]
 | o2H24 {r1 r2 r4 r5 r6 r7:Int} (h0:g=5) (h1:cw=me) (h2:ow=me) (h3:r4≠me):AtO me ow cw c g 2 r1 r2 r4 r5 r6 r7 [(19,0),(18,0)]
 | o2H34 {r1 r2 r4 r5 r6 r7:Int} (h0:g=5) (h1:cw=me) (h2:ow=0) (h3:r4≠me):AtO me ow cw c g 2 r1 r2 r4 r5 r6 r7 [(18,0)]
 | o2H44 {r1 r2 r4 r5 r6 r7:Int} (h0:g=0) (h1:cw≠me) (h2:ow≠me) (h3:r4≠me):AtO me ow cw c g 2 r1 r2 r4 r5 r6 r7 []
 | o3H04 {r1 r2 r4 r5 r6 r7:Int} (h0:g=5) (h1:cw=me) (h2:r4≠me) (h3:r5=me):AtO me ow cw c g 3 r1 r2 r4 r5 r6 r7 [(19,me),(0,wr32 (c+1)),(19,0),(18,0)]
 | o3H14 {r1 r2 r4 r5 r6 r7:Int} (h0:g=5) (h1:cw=me) (h2:ow=me) (h3:r4≠me) (h4:r5=me):AtO me ow cw c g 3 r1 r2 r4 r5 r6 r7 [(0,wr32 (c+1)),(19,0),(18,0)]
 | o3H24 {r1 r2 r4 r5 r6 r7:Int} (h0:g=5) (h1:cw=me) (h2:ow=me) (h3:r4≠me) (h4:r5=me):AtO me ow cw c g 3 r1 r2 r4 r5 r6 r7 [(19,0),(18,0)]
 | o3H34 {r1 r2 r4 r5 r6 r7:Int} (h0:g=5) (h1:cw=me) (h2:ow=0) (h3:r4≠me) (h4:r5=me):AtO me ow cw c g 3 r1 r2 r4 r5 r6 r7 [(18,0)]
 | o3H44 {r1 r2 r4 r5 r6 r7:Int} (h0:g=0) (h1:cw≠me) (h2:ow≠me) (h3:r4≠me) (h4:r5=me):AtO me ow cw c g 3 r1 r2 r4 r5 r6 r7 []
 | o4H04 {r1 r2 r4 r5 r6 r7:Int} (h0:g=5) (h1:cw=me) (h2:r5=me) (h3:r6=0):AtO me ow cw c g 4 r1 r2 r4 r5 r6 r7 [(19,me),(0,wr32 (c+1)),(19,0),(18,0)]
 | o4H14 {r1 r2 r4 r5 r6 r7:Int} (h0:g=5) (h1:cw=me) (h2:ow=me) (h3:r5=me) (h4:r6=0):AtO me ow cw c g 4 r1 r2 r4 r5 r6 r7 [(0,wr32 (c+1)),(19,0),(18,0)]
 | o4H24 {r1 r2 r4 r5 r6 r7:Int} (h0:g=5) (h1:cw=me) (h2:ow=me) (h3:r5=me) (h4:r6=0):AtO me ow cw c g 4 r1 r2 r4 r5 r6 r7 [(19,0),(18,0)]
 | o4H34 {r1 r2 r4 r5 r6 r7:Int} (h0:g=5) (h1:cw=me) (h2:ow=0) (h3:r5=me) (h4:r6=0):AtO me ow cw c g 4 r1 r2 r4 r5 r6 r7 [(18,0)]
 | o4H44 {r1 r2 r4 r5 r6 r7:Int} (h0:g=0) (h1:cw≠me) (h2:ow≠me) (h3:r5=me) (h4:r6=0):AtO me ow cw c g 4 r1 r2 r4 r5 r6 r7 []
 | o7H04 {r1 r2 r4 r5 r6 r7:Int} (h0:g=5) (h1:cw=me) (h2:r5=me):AtO me ow cw c g 7 r1 r2 r4 r5 r6 r7 [(19,me),(0,wr32 (c+1)),(19,0),(18,0)]
 | o7H14 {r1 r2 r4 r5 r6 r7:Int} (h0:g=5) (h1:cw=me) (h2:ow=me) (h3:r5=me):AtO me ow cw c g 7 r1 r2 r4 r5 r6 r7 [(0,wr32 (c+1)),(19,0),(18,0)]
 | o7H24 {r1 r2 r4 r5 r6 r7:Int} (h0:g=5) (h1:cw=me) (h2:ow=me) (h3:r5=me):AtO me ow cw c g 7 r1 r2 r4 r5 r6 r7 [(19,0),(18,0)]
 | o7H34 {r1 r2 r4 r5 r6 r7:Int} (h0:g=5) (h1:cw=me) (h2:ow=0) (h3:r5=me):AtO me ow cw c g 7 r1 r2 r4 r5 r6 r7 [(18,0)]
 | o7H44 {r1 r2 r4 r5 r6 r7:Int} (h0:g=0) (h1:cw≠me) (h2:ow≠me) (h3:r5=me):AtO me ow cw c g 7 r1 r2 r4 r5 r6 r7 []
 | o8H04 {r1 r2 r4 r5 r6 r7:Int} (h0:g=5) (h1:cw=me) (h2:r5=me) (h3:r4=0):AtO me ow cw c g 8 r1 r2 r4 r5 r6 r7 [(19,me),(0,wr32 (c+1)),(19,0),(18,0)]
 | o8H14 {r1 r2 r4 r5 r6 r7:Int} (h0:g=5) (h1:cw=me) (h2:ow=me) (h3:r5=me) (h4:r4=0):AtO me ow cw c g 8 r1 r2 r4 r5 r6 r7 [(0,wr32 (c+1)),(19,0),(18,0)]
 | o8H24 {r1 r2 r4 r5 r6 r7:Int} (h0:g=5) (h1:cw=me) (h2:ow=me) (h3:r5=me) (h4:r4=0):AtO me ow cw c g 8 r1 r2 r4 r5 r6 r7 [(19,0),(18,0)]
 | o8H34 {r1 r2 r4 r5 r6 r7:Int} (h0:g=5) (h1:cw=me) (h2:ow=0) (h3:r5=me) (h4:r4=0):AtO me ow cw c g 8 r1 r2 r4 r5 r6 r7 [(18,0)]
 | o8H44 {r1 r2 r4 r5 r6 r7:Int} (h0:g=0) (h1:cw≠me) (h2:ow≠me) (h3:r5=me) (h4:r4=0):AtO me ow cw c g 8 r1 r2 r4 r5 r6 r7 []
 | o9N {r1 r2 r4 r5 r6 r7:Int} (h0:g=0) (h1:cw≠me) (h2:ow≠me) (h3:r5=me) (h4:r4≠0):AtO me ow cw c g 9 r1 r2 r4 r5 r6 r7 []
 | o9P1 {r1 r2 r4 r5 r6 r7:Int} (h0:g=1) (h1:cw=me) (h2:ow≠me) (h3:r5=me) (h4:r4=0):AtO me ow cw c g 9 r1 r2 r4 r5 r6 r7 []
 | o10P1 {r1 r2 r4 r5 r6 r7:Int} (h0:g=1) (h1:cw=me) (h2:ow≠me) (h3:r5=me):AtO me ow cw c g 10 r1 r2 r4 r5 r6 r7 []
 | o11C {r1 r2 r4 r5 r6 r7:Int} (h0:g=5) (h1:cw=me) (h2:ow≠me) (h3:r5=me) (h4:r4≠0):AtO me ow cw c g 11 r1 r2 r4 r5 r6 r7 []
 | o11P2 {r1 r2 r4 r5 r6 r7:Int} (h0:g=2) (h1:cw=me) (h2:ow≠me) (h3:r5=me) (h4:r4=0):AtO me ow cw c g 11 r1 r2 r4 r5 r6 r7 []
 | o12P2 {r1 r2 r4 r5 r6 r7:Int} (h0:g=2) (h1:cw=me) (h2:ow≠me) (h3:r5=me):AtO me ow cw c g 12 r1 r2 r4 r5 r6 r7 []
 | o13P2 {r1 r2 r4 r5 r6 r7:Int} (h0:g=2) (h1:cw=me) (h2:ow≠me) (h3:r5=me) (h4:r4=1):AtO me ow cw c g 13 r1 r2 r4 r5 r6 r7 []
 | o14P3 {r1 r2 r4 r5 r6 r7:Int} (h0:g=3) (h1:cw=me) (h2:ow≠me) (h3:r5=me):AtO me ow cw c g 14 r1 r2 r4 r5 r6 r7 []
 | o14Q2 {r1 r2 r4 r5 r6 r7:Int} (h0:g=2) (h1:cw=me) (h2:ow≠me) (h3:r5=me):AtO me ow cw c g 14 r1 r2 r4 r5 r6 r7 [(17,1)]
 | o15P4 {r1 r2 r4 r5 r6 r7:Int} (h0:g=4) (h1:cw=me) (h2:ow≠me) (h3:r5=me):AtO me ow cw c g 15 r1 r2 r4 r5 r6 r7 []
 | o16C {r1 r2 r4 r5 r6 r7:Int} (h0:g=5) (h1:cw=me) (h2:ow≠me) (h3:r5=me) (h4:r4=0):AtO me ow cw c g 16 r1 r2 r4 r5 r6 r7 []
 | o16P4 {r1 r2 r4 r5 r6 r7:Int} (h0:g=4) (h1:cw=me) (h2:ow≠me) (h3:r5=me) (h4:r4≠0):AtO me ow cw c g 16 r1 r2 r4 r5 r6 r7 []
 | o17C {r1 r2 r4 r5 r6 r7:Int} (h0:g=5) (h1:cw=me) (h2:ow≠me) (h3:r5=me):AtO me ow cw c g 17 r1 r2 r4 r5 r6 r7 []
 | o18H01 {r1 r2 r4 r5 r6 r7:Int} (h0:g=5) (h1:cw=me):AtO me ow cw c g 18 r1 r2 r4 r5 r6 r7 [(19,me)]
 | o18H11 {r1 r2 r4 r5 r6 r7:Int} (h0:g=5) (h1:cw=me) (h2:ow=me):AtO me ow cw c g 18 r1 r2 r4 r5 r6 r7 []
 | o19H01 {r1 r2 r4 r5 r6 r7:Int} (h0:g=5) (h1:cw=me) (h2:r7=0):AtO me ow cw c g 19 r1 r2 r4 r5 r6 r7 [(19,me)]
 | o19H11 {r1 r2 r4 r5 r6 r7:Int} (h0:g=5) (h1:cw=me) (h2:ow=me) (h3:r7=0):AtO me ow cw c g 19 r1 r2 r4 r5 r6 r7 []
 | o20H01 {r1 r2 r4 r5 r6 r7:Int} (h0:g=5) (h1:cw=me):AtO me ow cw c g 20 r1 r2 r4 r5 r6 r7 [(19,me)]
 | o20H11 {r1 r2 r4 r5 r6 r7:Int} (h0:g=5) (h1:cw=me) (h2:ow=me):AtO me ow cw c g 20 r1 r2 r4 r5 r6 r7 []
 | o21H01 {r1 r2 r4 r5 r6 r7:Int} (h0:g=5) (h1:cw=me) (h2:r1=c):AtO me ow cw c g 21 r1 r2 r4 r5 r6 r7 [(19,me)]
 | o21H11 {r1 r2 r4 r5 r6 r7:Int} (h0:g=5) (h1:cw=me) (h2:ow=me) (h3:r1=c):AtO me ow cw c g 21 r1 r2 r4 r5 r6 r7 []
 | o22H01 {r1 r2 r4 r5 r6 r7:Int} (h0:g=5) (h1:cw=me) (h2:r1=c) (h3:r2=1):AtO me ow cw c g 22 r1 r2 r4 r5 r6 r7 [(19,me)]
 | o22H11 {r1 r2 r4 r5 r6 r7:Int} (h0:g=5) (h1:cw=me) (h2:ow=me) (h3:r1=c) (h4:r2=1):AtO me ow cw c g 22 r1 r2 r4 r5 r6 r7 []
 | o23H01 {r1 r2 r4 r5 r6 r7:Int} (h0:g=5) (h1:cw=me) (h2:r1=wr32 (c+1)):AtO me ow cw c g 23 r1 r2 r4 r5 r6 r7 [(19,me)]
 | o23H11 {r1 r2 r4 r5 r6 r7:Int} (h0:g=5) (h1:cw=me) (h2:ow=me) (h3:r1=wr32 (c+1)):AtO me ow cw c g 23 r1 r2 r4 r5 r6 r7 []
 | o24H02 {r1 r2 r4 r5 r6 r7:Int} (h0:g=5) (h1:cw=me):AtO me ow cw c g 24 r1 r2 r4 r5 r6 r7 [(19,me),(0,wr32 (c+1))]
 | o24H12 {r1 r2 r4 r5 r6 r7:Int} (h0:g=5) (h1:cw=me) (h2:ow=me):AtO me ow cw c g 24 r1 r2 r4 r5 r6 r7 [(0,wr32 (c+1))]
 | o24H22 {r1 r2 r4 r5 r6 r7:Int} (h0:g=5) (h1:cw=me) (h2:ow=me):AtO me ow cw c g 24 r1 r2 r4 r5 r6 r7 []
 | o25H02 {r1 r2 r4 r5 r6 r7:Int} (h0:g=5) (h1:cw=me):AtO me ow cw c g 25 r1 r2 r4 r5 r6 r7 [(19,me),(0,wr32 (c+1))]
 | o25H12 {r1 r2 r4 r5 r6 r7:Int} (h0:g=5) (h1:cw=me) (h2:ow=me):AtO me ow cw c g 25 r1 r2 r4 r5 r6 r7 [(0,wr32 (c+1))]
 | o25H22 {r1 r2 r4 r5 r6 r7:Int} (h0:g=5) (h1:cw=me) (h2:ow=me):AtO me ow cw c g 25 r1 r2 r4 r5 r6 r7 []
 | o26H02 {r1 r2 r4 r5 r6 r7:Int} (h0:g=5) (h1:cw=me) (h2:r4=me):AtO me ow cw c g 26 r1 r2 r4 r5 r6 r7 [(19,me),(0,wr32 (c+1))]
 | o26H12 {r1 r2 r4 r5 r6 r7:Int} (h0:g=5) (h1:cw=me) (h2:ow=me) (h3:r4=me):AtO me ow cw c g 26 r1 r2 r4 r5 r6 r7 [(0,wr32 (c+1))]
 | o26H22 {r1 r2 r4 r5 r6 r7:Int} (h0:g=5) (h1:cw=me) (h2:ow=me) (h3:r4=me):AtO me ow cw c g 26 r1 r2 r4 r5 r6 r7 []
 | o27H02 {r1 r2 r4 r5 r6 r7:Int} (h0:g=5) (h1:cw=me) (h2:r4=me) (h3:r5=me):AtO me ow cw c g 27 r1 r2 r4 r5 r6 r7 [(19,me),(0,wr32 (c+1))]
 | o27H12 {r1 r2 r4 r5 r6 r7:Int} (h0:g=5) (h1:cw=me) (h2:ow=me) (h3:r4=me) (h4:r5=me):AtO me ow cw c g 27 r1 r2 r4 r5 r6 r7 [(0,wr32 (c+1))]
 | o27H22 {r1 r2 r4 r5 r6 r7:Int} (h0:g=5) (h1:cw=me) (h2:ow=me) (h3:r4=me) (h4:r5=me):AtO me ow cw c g 27 r1 r2 r4 r5 r6 r7 []
 | o28H02 {r1 r2 r4 r5 r6 r7:Int} (h0:g=5) (h1:cw=me) (h2:r6=1):AtO me ow cw c g 28 r1 r2 r4 r5 r6 r7 [(19,me),(0,wr32 (c+1))]
 | o28H12 {r1 r2 r4 r5 r6 r7:Int} (h0:g=5) (h1:cw=me) (h2:ow=me) (h3:r6=1):AtO me ow cw c g 28 r1 r2 r4 r5 r6 r7 [(0,wr32 (c+1))]
 | o28H22 {r1 r2 r4 r5 r6 r7:Int} (h0:g=5) (h1:cw=me) (h2:ow=me) (h3:r6=1):AtO me ow cw c g 28 r1 r2 r4 r5 r6 r7 []
 | o31H02 {r1 r2 r4 r5 r6 r7:Int} (h0:g=5) (h1:cw=me):AtO me ow cw c g 31 r1 r2 r4 r5 r6 r7 [(19,me),(0,wr32 (c+1))]
 | o31H12 {r1 r2 r4 r5 r6 r7:Int} (h0:g=5) (h1:cw=me) (h2:ow=me):AtO me ow cw c g 31 r1 r2 r4 r5 r6 r7 [(0,wr32 (c+1))]
 | o31H22 {r1 r2 r4 r5 r6 r7:Int} (h0:g=5) (h1:cw=me) (h2:ow=me):AtO me ow cw c g 31 r1 r2 r4 r5 r6 r7 []
 | o32H02 {r1 r2 r4 r5 r6 r7:Int} (h0:g=5) (h1:cw=me) (h2:r4=0):AtO me ow cw c g 32 r1 r2 r4 r5 r6 r7 [(19,me),(0,wr32 (c+1))]
 | o32H12 {r1 r2 r4 r5 r6 r7:Int} (h0:g=5) (h1:cw=me) (h2:ow=me) (h3:r4=0):AtO me ow cw c g 32 r1 r2 r4 r5 r6 r7 [(0,wr32 (c+1))]
 | o32H22 {r1 r2 r4 r5 r6 r7:Int} (h0:g=5) (h1:cw=me) (h2:ow=me) (h3:r4=0):AtO me ow cw c g 32 r1 r2 r4 r5 r6 r7 []
 | o33H03 {r1 r2 r4 r5 r6 r7:Int} (h0:g=5) (h1:cw=me):AtO me ow cw c g 33 r1 r2 r4 r5 r6 r7 [(19,me),(0,wr32 (c+1)),(19,0)]
 | o33H13 {r1 r2 r4 r5 r6 r7:Int} (h0:g=5) (h1:cw=me) (h2:ow=me):AtO me ow cw c g 33 r1 r2 r4 r5 r6 r7 [(0,wr32 (c+1)),(19,0)]
 | o33H23 {r1 r2 r4 r5 r6 r7:Int} (h0:g=5) (h1:cw=me) (h2:ow=me):AtO me ow cw c g 33 r1 r2 r4 r5 r6 r7 [(19,0)]
 | o33H33 {r1 r2 r4 r5 r6 r7:Int} (h0:g=5) (h1:cw=me) (h2:ow=0):AtO me ow cw c g 33 r1 r2 r4 r5 r6 r7 []
 | o34H03 {r1 r2 r4 r5 r6 r7:Int} (h0:g=5) (h1:cw=me) (h2:r4=0):AtO me ow cw c g 34 r1 r2 r4 r5 r6 r7 [(19,me),(0,wr32 (c+1)),(19,0)]
 | o34H13 {r1 r2 r4 r5 r6 r7:Int} (h0:g=5) (h1:cw=me) (h2:ow=me) (h3:r4=0):AtO me ow cw c g 34 r1 r2 r4 r5 r6 r7 [(0,wr32 (c+1)),(19,0)]
 | o34H23 {r1 r2 r4 r5 r6 r7:Int} (h0:g=5) (h1:cw=me) (h2:ow=me) (h3:r4=0):AtO me ow cw c g 34 r1 r2 r4 r5 r6 r7 [(19,0)]
 | o34H33 {r1 r2 r4 r5 r6 r7:Int} (h0:g=5) (h1:cw=me) (h2:ow=0) (h3:r4=0):AtO me ow cw c g 34 r1 r2 r4 r5 r6 r7 []
 | o35H04 {r1 r2 r4 r5 r6 r7:Int} (h0:g=5) (h1:cw=me):AtO me ow cw c g 35 r1 r2 r4 r5 r6 r7 [(19,me),(0,wr32 (c+1)),(19,0),(18,0)]
 | o35H14 {r1 r2 r4 r5 r6 r7:Int} (h0:g=5) (h1:cw=me) (h2:ow=me):AtO me ow cw c g 35 r1 r2 r4 r5 r6 r7 [(0,wr32 (c+1)),(19,0),(18,0)]
 | o35H24 {r1 r2 r4 r5 r6 r7:Int} (h0:g=5) (h1:cw=me) (h2:ow=me):AtO me ow cw c g 35 r1 r2 r4 r5 r6 r7 [(19,0),(18,0)]
 | o35H34 {r1 r2 r4 r5 r6 r7:Int} (h0:g=5) (h1:cw=me) (h2:ow=0):AtO me ow cw c g 35 r1 r2 r4 r5 r6 r7 [(18,0)]
 | o35H44 {r1 r2 r4 r5 r6 r7:Int} (h0:g=0) (h1:cw≠me) (h2:ow≠me):AtO me ow cw c g 35 r1 r2 r4 r5 r6 r7 []
 | o36H04 {r1 r2 r4 r5 r6 r7:Int} (h0:g=5) (h1:cw=me) (h2:r7=0):AtO me ow cw c g 36 r1 r2 r4 r5 r6 r7 [(19,me),(0,wr32 (c+1)),(19,0),(18,0)]
 | o36H14 {r1 r2 r4 r5 r6 r7:Int} (h0:g=5) (h1:cw=me) (h2:ow=me) (h3:r7=0):AtO me ow cw c g 36 r1 r2 r4 r5 r6 r7 [(0,wr32 (c+1)),(19,0),(18,0)]
 | o36H24 {r1 r2 r4 r5 r6 r7:Int} (h0:g=5) (h1:cw=me) (h2:ow=me) (h3:r7=0):AtO me ow cw c g 36 r1 r2 r4 r5 r6 r7 [(19,0),(18,0)]
 | o36H34 {r1 r2 r4 r5 r6 r7:Int} (h0:g=5) (h1:cw=me) (h2:ow=0) (h3:r7=0):AtO me ow cw c g 36 r1 r2 r4 r5 r6 r7 [(18,0)]
 | o36H44 {r1 r2 r4 r5 r6 r7:Int} (h0:g=0) (h1:cw≠me) (h2:ow≠me) (h3:r7=0):AtO me ow cw c g 36 r1 r2 r4 r5 r6 r7 []
def inB(j:Nat):Bool:=decide (19≤j) && decide (j≤23)
def inO(j:Nat):Bool:=decide (20≤j) && decide (j≤24)
section
variable{me ow cw c r1 r2 r4 r5 r6 r7:Int}{g j σ:Nat}{pt k:Bool}{q:List (Nat×Int)}
theorem AtB.free{c':Int}(h:AtB me c σ pt k j r1 r2 r4 r5 r6 r7)(hσ:σ=0∨σ=1):AtB me c' σ pt k j r1 r2 r4 r5 r6 r7∧inB j=false:=by
 cases h
 case b0  => exact⟨AtB.b0 ,rfl⟩
 case b1  => exact⟨AtB.b1 ,rfl⟩
 case b2 g0=>exact⟨AtB.b2 (by assumption),rfl⟩
 case b3 g0 g1=>exact⟨AtB.b3 (by assumption) (by assumption),rfl⟩
 case b4 g0 g1=>exact⟨AtB.b4 (by assumption) (by assumption),rfl⟩
 case b7 g0=>exact⟨AtB.b7 (by assumption),rfl⟩
 case b8 g0 g1=>exact⟨AtB.b8 (by assumption) (by assumption),rfl⟩
 case b9 g0=>exact⟨AtB.b9 (by assumption),rfl⟩
 case b10k g0 g1=>exact⟨AtB.b10k (by assumption) (by assumption),rfl⟩
 case b10t g0 g1=>exact⟨AtB.b10t (by assumption) (by assumption),rfl⟩
 case b11k g0=>exact⟨AtB.b11k (by assumption),rfl⟩
 case b12k g0 g1=>exact⟨AtB.b12k (by assumption) (by assumption),rfl⟩
 case b13k g0=>exact⟨AtB.b13k (by assumption),rfl⟩
 case b14k g0 g1=>exact⟨AtB.b14k (by assumption) (by assumption),rfl⟩
 case b15k g0 g1=>exact⟨AtB.b15k (by assumption) (by assumption),rfl⟩
 case b15s g0 g1=>exact absurd hσ (by decide)
 case b16s g0=>exact absurd hσ (by decide)
 case b16t g0=>exact⟨AtB.b16t (by assumption),rfl⟩
 case b17f  => exact absurd hσ (by decide)
 case b17s  => exact absurd hσ (by decide)
 case b18f g0=>exact absurd hσ (by decide)
 case b18s g0=>exact absurd hσ (by decide)
 case b19f  => exact absurd hσ (by decide)
 case b19s  => exact absurd hσ (by decide)
 case b20f g0=>exact absurd hσ (by decide)
 case b20s g0=>exact absurd hσ (by decide)
 case b21f g0 g1=>exact absurd hσ (by decide)
 case b21s g0 g1=>exact absurd hσ (by decide)
 case b22f g0=>exact absurd hσ (by decide)
 case b22s g0=>exact absurd hσ (by decide)
 case b23f  => exact absurd hσ (by decide)
 case b23s  => exact absurd hσ (by decide)
 case b24f  => exact absurd hσ (by decide)
 case b24s  => exact absurd hσ (by decide)
 case b25f g0=>exact absurd hσ (by decide)
 case b25s g0=>exact absurd hσ (by decide)
 case b26f g0 g1=>exact absurd hσ (by decide)
 case b26s g0 g1=>exact absurd hσ (by decide)
 case b27f g0 g1=>exact absurd hσ (by decide)
 case b27s g0 g1=>exact absurd hσ (by decide)
 case b30f g0=>exact absurd hσ (by decide)
 case b30s g0=>exact absurd hσ (by decide)
 case b31f g0 g1=>exact absurd hσ (by decide)
 case b31s g0 g1=>exact absurd hσ (by decide)
 case b32f g0=>exact absurd hσ (by decide)
 case b32s g0=>exact absurd hσ (by decide)
 case b33f g0 g1=>exact absurd hσ (by decide)
 case b33s g0 g1=>exact absurd hσ (by decide)
 case b34f g0=>exact absurd hσ (by decide)
 case b34s g0=>exact absurd hσ (by decide)
 case b35f  => exact absurd hσ (by decide)
 case b36f g0=>exact absurd hσ (by decide)
 case b37  => exact⟨AtB.b37 ,rfl⟩
 case b38s  => exact absurd hσ (by decide)
 case b39s g0=>exact absurd hσ (by decide)
 case b40  => exact⟨AtB.b40 ,rfl⟩
 case b41 g0=>exact⟨AtB.b41 (by assumption),rfl⟩
theorem AtB.pt1(h:AtB me c σ true k j r1 r2 r4 r5 r6 r7):σ=1:=by
 cases h<;>rfl
theorem AtO.other{ow' cw' c':Int}(h:AtO me ow cw c g j r1 r2 r4 r5 r6 r7 q)(h1:g≠5)(h2:ow'≠me)(h3:g=0→cw'≠me)(h4:1≤g→cw'=me):AtO me ow' cw' c' g j r1 r2 r4 r5 r6 r7 q:=by
 cases h
 case o0H04 g0 g1=>exact absurd (by assumption) h1
 case o0H14 g0 g1 g2=>exact absurd (by assumption) h1
 case o0H24 g0 g1 g2=>exact absurd (by assumption) h1
 case o0H34 g0 g1 g2=>exact absurd (by assumption) h1
 case o0H44 g0 g1 g2=>exact AtO.o0H44 (by assumption) (h3 g0) h2 
 case o1H04 g0 g1=>exact absurd (by assumption) h1
 case o1H14 g0 g1 g2=>exact absurd (by assumption) h1
 case o1H24 g0 g1 g2=>exact absurd (by assumption) h1
 case o1H34 g0 g1 g2=>exact absurd (by assumption) h1
 case o1H44 g0 g1 g2=>exact AtO.o1H44 (by assumption) (h3 g0) h2 
 case o2H04 g0 g1 g2=>exact absurd (by assumption) h1
 case o2H14 g0 g1 g2 g3=>exact absurd (by assumption) h1
 case o2H24 g0 g1 g2 g3=>exact absurd (by assumption) h1
 case o2H34 g0 g1 g2 g3=>exact absurd (by assumption) h1
 case o2H44 g0 g1 g2 g3=>exact AtO.o2H44 (by assumption) (h3 g0) h2 (by assumption)
 case o3H04 g0 g1 g2 g3=>exact absurd (by assumption) h1
 case o3H14 g0 g1 g2 g3 g4=>exact absurd (by assumption) h1
 case o3H24 g0 g1 g2 g3 g4=>exact absurd (by assumption) h1
 case o3H34 g0 g1 g2 g3 g4=>exact absurd (by assumption) h1
 case o3H44 g0 g1 g2 g3 g4=>exact AtO.o3H44 (by assumption) (h3 g0) h2 (by assumption) (by assumption)
 case o4H04 g0 g1 g2 g3=>exact absurd (by assumption) h1
 case o4H14 g0 g1 g2 g3 g4=>exact absurd (by assumption) h1
 case o4H24 g0 g1 g2 g3 g4=>exact absurd (by assumption) h1
 case o4H34 g0 g1 g2 g3 g4=>exact absurd (by assumption) h1
 case o4H44 g0 g1 g2 g3 g4=>exact AtO.o4H44 (by assumption) (h3 g0) h2 (by assumption) (by assumption)
 case o7H04 g0 g1 g2=>exact absurd (by assumption) h1
 case o7H14 g0 g1 g2 g3=>exact absurd (by assumption) h1
 case o7H24 g0 g1 g2 g3=>exact absurd (by assumption) h1
 case o7H34 g0 g1 g2 g3=>exact absurd (by assumption) h1
 case o7H44 g0 g1 g2 g3=>exact AtO.o7H44 (by assumption) (h3 g0) h2 (by assumption)
 case o8H04 g0 g1 g2 g3=>exact absurd (by assumption) h1
 case o8H14 g0 g1 g2 g3 g4=>exact absurd (by assumption) h1
 case o8H24 g0 g1 g2 g3 g4=>exact absurd (by assumption) h1
 case o8H34 g0 g1 g2 g3 g4=>exact absurd (by assumption) h1
 case o8H44 g0 g1 g2 g3 g4=>exact AtO.o8H44 (by assumption) (h3 g0) h2 (by assumption) (by assumption)
 case o9N g0 g1 g2 g3 g4=>exact AtO.o9N (by assumption) (h3 g0) h2 (by assumption) (by assumption)
 case o9P1 g0 g1 g2 g3 g4=>exact AtO.o9P1 (by assumption) (h4 (by omega)) h2 (by assumption) (by assumption)
 case o10P1 g0 g1 g2 g3=>exact AtO.o10P1 (by assumption) (h4 (by omega)) h2 (by assumption)
 case o11C g0 g1 g2 g3 g4=>exact absurd (by assumption) h1
 case o11P2 g0 g1 g2 g3 g4=>exact AtO.o11P2 (by assumption) (h4 (by omega)) h2 (by assumption) (by assumption)
 case o12P2 g0 g1 g2 g3=>exact AtO.o12P2 (by assumption) (h4 (by omega)) h2 (by assumption)
 case o13P2 g0 g1 g2 g3 g4=>exact AtO.o13P2 (by assumption) (h4 (by omega)) h2 (by assumption) (by assumption)
 case o14P3 g0 g1 g2 g3=>exact AtO.o14P3 (by assumption) (h4 (by omega)) h2 (by assumption)
 case o14Q2 g0 g1 g2 g3=>exact AtO.o14Q2 (by assumption) (h4 (by omega)) h2 (by assumption)
 case o15P4 g0 g1 g2 g3=>exact AtO.o15P4 (by assumption) (h4 (by omega)) h2 (by assumption)
 case o16C g0 g1 g2 g3 g4=>exact absurd (by assumption) h1
 case o16P4 g0 g1 g2 g3 g4=>exact AtO.o16P4 (by assumption) (h4 (by omega)) h2 (by assumption) (by assumption)
 case o17C g0 g1 g2 g3=>exact absurd (by assumption) h1
 case o18H01 g0 g1=>exact absurd (by assumption) h1
 case o18H11 g0 g1 g2=>exact absurd (by assumption) h1
 case o19H01 g0 g1 g2=>exact absurd (by assumption) h1
 case o19H11 g0 g1 g2 g3=>exact absurd (by assumption) h1
 case o20H01 g0 g1=>exact absurd (by assumption) h1
 case o20H11 g0 g1 g2=>exact absurd (by assumption) h1
 case o21H01 g0 g1 g2=>exact absurd (by assumption) h1
 case o21H11 g0 g1 g2 g3=>exact absurd (by assumption) h1
 case o22H01 g0 g1 g2 g3=>exact absurd (by assumption) h1
 case o22H11 g0 g1 g2 g3 g4=>exact absurd (by assumption) h1
 case o23H01 g0 g1 g2=>exact absurd (by assumption) h1
 case o23H11 g0 g1 g2 g3=>exact absurd (by assumption) h1
 case o24H02 g0 g1=>exact absurd (by assumption) h1
 case o24H12 g0 g1 g2=>exact absurd (by assumption) h1
 case o24H22 g0 g1 g2=>exact absurd (by assumption) h1
 case o25H02 g0 g1=>exact absurd (by assumption) h1
 case o25H12 g0 g1 g2=>exact absurd (by assumption) h1
 case o25H22 g0 g1 g2=>exact absurd (by assumption) h1
 case o26H02 g0 g1 g2=>exact absurd (by assumption) h1
 case o26H12 g0 g1 g2 g3=>exact absurd (by assumption) h1
 case o26H22 g0 g1 g2 g3=>exact absurd (by assumption) h1
 case o27H02 g0 g1 g2 g3=>exact absurd (by assumption) h1
 case o27H12 g0 g1 g2 g3 g4=>exact absurd (by assumption) h1
 case o27H22 g0 g1 g2 g3 g4=>exact absurd (by assumption) h1
 case o28H02 g0 g1 g2=>exact absurd (by assumption) h1
 case o28H12 g0 g1 g2 g3=>exact absurd (by assumption) h1
 case o28H22 g0 g1 g2 g3=>exact absurd (by assumption) h1
 case o31H02 g0 g1=>exact absurd (by assumption) h1
 case o31H12 g0 g1 g2=>exact absurd (by assumption) h1
 case o31H22 g0 g1 g2=>exact absurd (by assumption) h1
 case o32H02 g0 g1 g2=>exact absurd (by assumption) h1
 case o32H12 g0 g1 g2 g3=>exact absurd (by assumption) h1
 case o32H22 g0 g1 g2 g3=>exact absurd (by assumption) h1
 case o33H03 g0 g1=>exact absurd (by assumption) h1
 case o33H13 g0 g1 g2=>exact absurd (by assumption) h1
 case o33H23 g0 g1 g2=>exact absurd (by assumption) h1
 case o33H33 g0 g1 g2=>exact absurd (by assumption) h1
 case o34H03 g0 g1 g2=>exact absurd (by assumption) h1
 case o34H13 g0 g1 g2 g3=>exact absurd (by assumption) h1
 case o34H23 g0 g1 g2 g3=>exact absurd (by assumption) h1
 case o34H33 g0 g1 g2 g3=>exact absurd (by assumption) h1
 case o35H04 g0 g1=>exact absurd (by assumption) h1
 case o35H14 g0 g1 g2=>exact absurd (by assumption) h1
 case o35H24 g0 g1 g2=>exact absurd (by assumption) h1
 case o35H34 g0 g1 g2=>exact absurd (by assumption) h1
 case o35H44 g0 g1 g2=>exact AtO.o35H44 (by assumption) (h3 g0) h2 
 case o36H04 g0 g1 g2=>exact absurd (by assumption) h1
 case o36H14 g0 g1 g2 g3=>exact absurd (by assumption) h1
 case o36H24 g0 g1 g2 g3=>exact absurd (by assumption) h1
 case o36H34 g0 g1 g2 g3=>exact absurd (by assumption) h1
 case o36H44 g0 g1 g2 g3=>exact AtO.o36H44 (by assumption) (h3 g0) h2 (by assumption)
theorem AtO.hcw(h:AtO me ow cw c g j r1 r2 r4 r5 r6 r7 q):(g=0→cw≠me)∧(1≤g→cw=me):=by
 cases h<;>first | exact⟨fun _=>by assumption,fun e=>by omega⟩ | exact⟨fun e=>by omega,fun _=>by assumption⟩
theorem AtO.out(h:AtO me ow cw c g j r1 r2 r4 r5 r6 r7 q)(h1:g≠5):ow≠me∧inO j=false:=by
 cases h<;>first | exact⟨by assumption,rfl⟩ | contradiction
theorem AtO.g3(h:AtO me ow cw c g 14 r1 r2 r4 r5 r6 r7 []):g=3∧cw=me∧ow≠me∧r5=me:=by
 cases h
 exact⟨by assumption,by assumption,by assumption,by assumption⟩
theorem own_buf{e:Nat×Int}{r:List (Nat×Int)}(h:AtO me ow cw c g j r1 r2 r4 r5 r6 r7 (e::r))(hme:0 < me):
  (e.1=19∧e.2=me∧g=5∧AtO me me cw c 5 j r1 r2 r4 r5 r6 r7 r)∨(e.1=0∧e.2=wr32 (c+1)∧g=5∧∀ c',AtO me ow cw c' 5 j r1 r2 r4 r5 r6 r7 r)∨(e.1=19∧e.2=0∧g=5∧AtO me 0 cw c 5 j r1 r2 r4 r5 r6 r7 r)∨(e.1=18∧e.2=0∧g=5∧ow=0∧∀ c',AtO me ow 0 c' 0 j r1 r2 r4 r5 r6 r7 r)∨(e.1=17∧e.2=1∧g=2∧AtO me ow cw c 3 j r1 r2 r4 r5 r6 r7 r):=by
 cases h
 case o0H04 g0 g1=>exact .inl ⟨rfl,rfl,by assumption,AtO.o0H14 (by first | assumption | rfl | omega) (by first | assumption | rfl | omega) (by first | assumption | rfl | omega)⟩
 case o0H14 g0 g1 g2=>exact .inr (.inl ⟨rfl,rfl,by assumption,fun c'=>AtO.o0H24 (by first | assumption | rfl | omega) (by first | assumption | rfl | omega) (by first | assumption | rfl | omega)⟩)
 case o0H24 g0 g1 g2=>exact .inr (.inr (.inl ⟨rfl,rfl,by assumption,AtO.o0H34 (by first | assumption | rfl | omega) (by first | assumption | rfl | omega) (by first | assumption | rfl | omega)⟩))
 case o0H34 g0 g1 g2=>exact .inr (.inr (.inr (.inl ⟨rfl,rfl,by assumption,by assumption,fun c'=>AtO.o0H44 (by first | assumption | rfl | omega) (by first | assumption | rfl | omega) (by first | assumption | rfl | omega)⟩)))
 case o1H04 g0 g1=>exact .inl ⟨rfl,rfl,by assumption,AtO.o1H14 (by first | assumption | rfl | omega) (by first | assumption | rfl | omega) (by first | assumption | rfl | omega)⟩
 case o1H14 g0 g1 g2=>exact .inr (.inl ⟨rfl,rfl,by assumption,fun c'=>AtO.o1H24 (by first | assumption | rfl | omega) (by first | assumption | rfl | omega) (by first | assumption | rfl | omega)⟩)
 case o1H24 g0 g1 g2=>exact .inr (.inr (.inl ⟨rfl,rfl,by assumption,AtO.o1H34 (by first | assumption | rfl | omega) (by first | assumption | rfl | omega) (by first | assumption | rfl | omega)⟩))
 case o1H34 g0 g1 g2=>exact .inr (.inr (.inr (.inl ⟨rfl,rfl,by assumption,by assumption,fun c'=>AtO.o1H44 (by first | assumption | rfl | omega) (by first | assumption | rfl | omega) (by first | assumption | rfl | omega)⟩)))
 case o2H04 g0 g1 g2=>exact .inl ⟨rfl,rfl,by assumption,AtO.o2H14 (by first | assumption | rfl | omega) (by first | assumption | rfl | omega) (by first | assumption | rfl | omega) (by first | assumption | rfl | omega)⟩
 case o2H14 g0 g1 g2 g3=>exact .inr (.inl ⟨rfl,rfl,by assumption,fun c'=>AtO.o2H24 (by first | assumption | rfl | omega) (by first | assumption | rfl | omega) (by first | assumption | rfl | omega) (by first | assumption | rfl | omega)⟩)
 case o2H24 g0 g1 g2 g3=>exact .inr (.inr (.inl ⟨rfl,rfl,by assumption,AtO.o2H34 (by first | assumption | rfl | omega) (by first | assumption | rfl | omega) (by first | assumption | rfl | omega) (by first | assumption | rfl | omega)⟩))
 case o2H34 g0 g1 g2 g3=>exact .inr (.inr (.inr (.inl ⟨rfl,rfl,by assumption,by assumption,fun c'=>AtO.o2H44 (by first | assumption | rfl | omega) (by first | assumption | rfl | omega) (by first | assumption | rfl | omega) (by first | assumption | rfl | omega)⟩)))
 case o3H04 g0 g1 g2 g3=>exact .inl ⟨rfl,rfl,by assumption,AtO.o3H14 (by first | assumption | rfl | omega) (by first | assumption | rfl | omega) (by first | assumption | rfl | omega) (by first | assumption | rfl | omega) (by first | assumption | rfl | omega)⟩
 case o3H14 g0 g1 g2 g3 g4=>exact .inr (.inl ⟨rfl,rfl,by assumption,fun c'=>AtO.o3H24 (by first | assumption | rfl | omega) (by first | assumption | rfl | omega) (by first | assumption | rfl | omega) (by first | assumption | rfl | omega) (by first | assumption | rfl | omega)⟩)
 case o3H24 g0 g1 g2 g3 g4=>exact .inr (.inr (.inl ⟨rfl,rfl,by assumption,AtO.o3H34 (by first | assumption | rfl | omega) (by first | assumption | rfl | omega) (by first | assumption | rfl | omega) (by first | assumption | rfl | omega) (by first | assumption | rfl | omega)⟩))
 case o3H34 g0 g1 g2 g3 g4=>exact .inr (.inr (.inr (.inl ⟨rfl,rfl,by assumption,by assumption,fun c'=>AtO.o3H44 (by first | assumption | rfl | omega) (by first | assumption | rfl | omega) (by first | assumption | rfl | omega) (by first | assumption | rfl | omega) (by first | assumption | rfl | omega)⟩)))
 case o4H04 g0 g1 g2 g3=>exact .inl ⟨rfl,rfl,by assumption,AtO.o4H14 (by first | assumption | rfl | omega) (by first | assumption | rfl | omega) (by first | assumption | rfl | omega) (by first | assumption | rfl | omega) (by first | assumption | rfl | omega)⟩
 case o4H14 g0 g1 g2 g3 g4=>exact .inr (.inl ⟨rfl,rfl,by assumption,fun c'=>AtO.o4H24 (by first | assumption | rfl | omega) (by first | assumption | rfl | omega) (by first | assumption | rfl | omega) (by first | assumption | rfl | omega) (by first | assumption | rfl | omega)⟩)
 case o4H24 g0 g1 g2 g3 g4=>exact .inr (.inr (.inl ⟨rfl,rfl,by assumption,AtO.o4H34 (by first | assumption | rfl | omega) (by first | assumption | rfl | omega) (by first | assumption | rfl | omega) (by first | assumption | rfl | omega) (by first | assumption | rfl | omega)⟩))
 case o4H34 g0 g1 g2 g3 g4=>exact .inr (.inr (.inr (.inl ⟨rfl,rfl,by assumption,by assumption,fun c'=>AtO.o4H44 (by first | assumption | rfl | omega) (by first | assumption | rfl | omega) (by first | assumption | rfl | omega) (by first | assumption | rfl | omega) (by first | assumption | rfl | omega)⟩)))
 case o7H04 g0 g1 g2=>exact .inl ⟨rfl,rfl,by assumption,AtO.o7H14 (by first | assumption | rfl | omega) (by first | assumption | rfl | omega) (by first | assumption | rfl | omega) (by first | assumption | rfl | omega)⟩
 case o7H14 g0 g1 g2 g3=>exact .inr (.inl ⟨rfl,rfl,by assumption,fun c'=>AtO.o7H24 (by first | assumption | rfl | omega) (by first | assumption | rfl | omega) (by first | assumption | rfl | omega) (by first | assumption | rfl | omega)⟩)
 case o7H24 g0 g1 g2 g3=>exact .inr (.inr (.inl ⟨rfl,rfl,by assumption,AtO.o7H34 (by first | assumption | rfl | omega) (by first | assumption | rfl | omega) (by first | assumption | rfl | omega) (by first | assumption | rfl | omega)⟩))
 case o7H34 g0 g1 g2 g3=>exact .inr (.inr (.inr (.inl ⟨rfl,rfl,by assumption,by assumption,fun c'=>AtO.o7H44 (by first | assumption | rfl | omega) (by first | assumption | rfl | omega) (by first | assumption | rfl | omega) (by first | assumption | rfl | omega)⟩)))
 case o8H04 g0 g1 g2 g3=>exact .inl ⟨rfl,rfl,by assumption,AtO.o8H14 (by first | assumption | rfl | omega) (by first | assumption | rfl | omega) (by first | assumption | rfl | omega) (by first | assumption | rfl | omega) (by first | assumption | rfl | omega)⟩
 case o8H14 g0 g1 g2 g3 g4=>exact .inr (.inl ⟨rfl,rfl,by assumption,fun c'=>AtO.o8H24 (by first | assumption | rfl | omega) (by first | assumption | rfl | omega) (by first | assumption | rfl | omega) (by first | assumption | rfl | omega) (by first | assumption | rfl | omega)⟩)
 case o8H24 g0 g1 g2 g3 g4=>exact .inr (.inr (.inl ⟨rfl,rfl,by assumption,AtO.o8H34 (by first | assumption | rfl | omega) (by first | assumption | rfl | omega) (by first | assumption | rfl | omega) (by first | assumption | rfl | omega) (by first | assumption | rfl | omega)⟩))
 case o8H34 g0 g1 g2 g3 g4=>exact .inr (.inr (.inr (.inl ⟨rfl,rfl,by assumption,by assumption,fun c'=>AtO.o8H44 (by first | assumption | rfl | omega) (by first | assumption | rfl | omega) (by first | assumption | rfl | omega) (by first | assumption | rfl | omega) (by first | assumption | rfl | omega)⟩)))
 case o14Q2 g0 g1 g2 g3=>exact .inr (.inr (.inr (.inr ⟨rfl,rfl,by assumption,AtO.o14P3 rfl (by assumption) (by assumption) (by assumption)⟩)))
 case o18H01 g0 g1=>exact .inl ⟨rfl,rfl,by assumption,AtO.o18H11 (by first | assumption | rfl | omega) (by first | assumption | rfl | omega) (by first | assumption | rfl | omega)⟩
 case o19H01 g0 g1 g2=>exact .inl ⟨rfl,rfl,by assumption,AtO.o19H11 (by first | assumption | rfl | omega) (by first | assumption | rfl | omega) (by first | assumption | rfl | omega) (by first | assumption | rfl | omega)⟩
 case o20H01 g0 g1=>exact .inl ⟨rfl,rfl,by assumption,AtO.o20H11 (by first | assumption | rfl | omega) (by first | assumption | rfl | omega) (by first | assumption | rfl | omega)⟩
 case o21H01 g0 g1 g2=>exact .inl ⟨rfl,rfl,by assumption,AtO.o21H11 (by first | assumption | rfl | omega) (by first | assumption | rfl | omega) (by first | assumption | rfl | omega) (by first | assumption | rfl | omega)⟩
 case o22H01 g0 g1 g2 g3=>exact .inl ⟨rfl,rfl,by assumption,AtO.o22H11 (by first | assumption | rfl | omega) (by first | assumption | rfl | omega) (by first | assumption | rfl | omega) (by first | assumption | rfl | omega) (by first | assumption | rfl | omega)⟩
 case o23H01 g0 g1 g2=>exact .inl ⟨rfl,rfl,by assumption,AtO.o23H11 (by first | assumption | rfl | omega) (by first | assumption | rfl | omega) (by first | assumption | rfl | omega) (by first | assumption | rfl | omega)⟩
 case o24H02 g0 g1=>exact .inl ⟨rfl,rfl,by assumption,AtO.o24H12 (by first | assumption | rfl | omega) (by first | assumption | rfl | omega) (by first | assumption | rfl | omega)⟩
 case o24H12 g0 g1 g2=>exact .inr (.inl ⟨rfl,rfl,by assumption,fun c'=>AtO.o24H22 (by first | assumption | rfl | omega) (by first | assumption | rfl | omega) (by first | assumption | rfl | omega)⟩)
 case o25H02 g0 g1=>exact .inl ⟨rfl,rfl,by assumption,AtO.o25H12 (by first | assumption | rfl | omega) (by first | assumption | rfl | omega) (by first | assumption | rfl | omega)⟩
 case o25H12 g0 g1 g2=>exact .inr (.inl ⟨rfl,rfl,by assumption,fun c'=>AtO.o25H22 (by first | assumption | rfl | omega) (by first | assumption | rfl | omega) (by first | assumption | rfl | omega)⟩)
 case o26H02 g0 g1 g2=>exact .inl ⟨rfl,rfl,by assumption,AtO.o26H12 (by first | assumption | rfl | omega) (by first | assumption | rfl | omega) (by first | assumption | rfl | omega) (by first | assumption | rfl | omega)⟩
 case o26H12 g0 g1 g2 g3=>exact .inr (.inl ⟨rfl,rfl,by assumption,fun c'=>AtO.o26H22 (by first | assumption | rfl | omega) (by first | assumption | rfl | omega) (by first | assumption | rfl | omega) (by first | assumption | rfl | omega)⟩)
 case o27H02 g0 g1 g2 g3=>exact .inl ⟨rfl,rfl,by assumption,AtO.o27H12 (by first | assumption | rfl | omega) (by first | assumption | rfl | omega) (by first | assumption | rfl | omega) (by first | assumption | rfl | omega) (by first | assumption | rfl | omega)⟩
 case o27H12 g0 g1 g2 g3 g4=>exact .inr (.inl ⟨rfl,rfl,by assumption,fun c'=>AtO.o27H22 (by first | assumption | rfl | omega) (by first | assumption | rfl | omega) (by first | assumption | rfl | omega) (by first | assumption | rfl | omega) (by first | assumption | rfl | omega)⟩)
 case o28H02 g0 g1 g2=>exact .inl ⟨rfl,rfl,by assumption,AtO.o28H12 (by first | assumption | rfl | omega) (by first | assumption | rfl | omega) (by first | assumption | rfl | omega) (by first | assumption | rfl | omega)⟩
 case o28H12 g0 g1 g2 g3=>exact .inr (.inl ⟨rfl,rfl,by assumption,fun c'=>AtO.o28H22 (by first | assumption | rfl | omega) (by first | assumption | rfl | omega) (by first | assumption | rfl | omega) (by first | assumption | rfl | omega)⟩)
 case o31H02 g0 g1=>exact .inl ⟨rfl,rfl,by assumption,AtO.o31H12 (by first | assumption | rfl | omega) (by first | assumption | rfl | omega) (by first | assumption | rfl | omega)⟩
 case o31H12 g0 g1 g2=>exact .inr (.inl ⟨rfl,rfl,by assumption,fun c'=>AtO.o31H22 (by first | assumption | rfl | omega) (by first | assumption | rfl | omega) (by first | assumption | rfl | omega)⟩)
 case o32H02 g0 g1 g2=>exact .inl ⟨rfl,rfl,by assumption,AtO.o32H12 (by first | assumption | rfl | omega) (by first | assumption | rfl | omega) (by first | assumption | rfl | omega) (by first | assumption | rfl | omega)⟩
 case o32H12 g0 g1 g2 g3=>exact .inr (.inl ⟨rfl,rfl,by assumption,fun c'=>AtO.o32H22 (by first | assumption | rfl | omega) (by first | assumption | rfl | omega) (by first | assumption | rfl | omega) (by first | assumption | rfl | omega)⟩)
 case o33H03 g0 g1=>exact .inl ⟨rfl,rfl,by assumption,AtO.o33H13 (by first | assumption | rfl | omega) (by first | assumption | rfl | omega) (by first | assumption | rfl | omega)⟩
 case o33H13 g0 g1 g2=>exact .inr (.inl ⟨rfl,rfl,by assumption,fun c'=>AtO.o33H23 (by first | assumption | rfl | omega) (by first | assumption | rfl | omega) (by first | assumption | rfl | omega)⟩)
 case o33H23 g0 g1 g2=>exact .inr (.inr (.inl ⟨rfl,rfl,by assumption,AtO.o33H33 (by first | assumption | rfl | omega) (by first | assumption | rfl | omega) (by first | assumption | rfl | omega)⟩))
 case o34H03 g0 g1 g2=>exact .inl ⟨rfl,rfl,by assumption,AtO.o34H13 (by first | assumption | rfl | omega) (by first | assumption | rfl | omega) (by first | assumption | rfl | omega) (by first | assumption | rfl | omega)⟩
 case o34H13 g0 g1 g2 g3=>exact .inr (.inl ⟨rfl,rfl,by assumption,fun c'=>AtO.o34H23 (by first | assumption | rfl | omega) (by first | assumption | rfl | omega) (by first | assumption | rfl | omega) (by first | assumption | rfl | omega)⟩)
 case o34H23 g0 g1 g2 g3=>exact .inr (.inr (.inl ⟨rfl,rfl,by assumption,AtO.o34H33 (by first | assumption | rfl | omega) (by first | assumption | rfl | omega) (by first | assumption | rfl | omega) (by first | assumption | rfl | omega)⟩))
 case o35H04 g0 g1=>exact .inl ⟨rfl,rfl,by assumption,AtO.o35H14 (by first | assumption | rfl | omega) (by first | assumption | rfl | omega) (by first | assumption | rfl | omega)⟩
 case o35H14 g0 g1 g2=>exact .inr (.inl ⟨rfl,rfl,by assumption,fun c'=>AtO.o35H24 (by first | assumption | rfl | omega) (by first | assumption | rfl | omega) (by first | assumption | rfl | omega)⟩)
 case o35H24 g0 g1 g2=>exact .inr (.inr (.inl ⟨rfl,rfl,by assumption,AtO.o35H34 (by first | assumption | rfl | omega) (by first | assumption | rfl | omega) (by first | assumption | rfl | omega)⟩))
 case o35H34 g0 g1 g2=>exact .inr (.inr (.inr (.inl ⟨rfl,rfl,by assumption,by assumption,fun c'=>AtO.o35H44 (by first | assumption | rfl | omega) (by first | assumption | rfl | omega) (by first | assumption | rfl | omega)⟩)))
 case o36H04 g0 g1 g2=>exact .inl ⟨rfl,rfl,by assumption,AtO.o36H14 (by first | assumption | rfl | omega) (by first | assumption | rfl | omega) (by first | assumption | rfl | omega) (by first | assumption | rfl | omega)⟩
 case o36H14 g0 g1 g2 g3=>exact .inr (.inl ⟨rfl,rfl,by assumption,fun c'=>AtO.o36H24 (by first | assumption | rfl | omega) (by first | assumption | rfl | omega) (by first | assumption | rfl | omega) (by first | assumption | rfl | omega)⟩)
 case o36H24 g0 g1 g2 g3=>exact .inr (.inr (.inl ⟨rfl,rfl,by assumption,AtO.o36H34 (by first | assumption | rfl | omega) (by first | assumption | rfl | omega) (by first | assumption | rfl | omega) (by first | assumption | rfl | omega)⟩))
 case o36H34 g0 g1 g2 g3=>exact .inr (.inr (.inr (.inl ⟨rfl,rfl,by assumption,by assumption,fun c'=>AtO.o36H44 (by first | assumption | rfl | omega) (by first | assumption | rfl | omega) (by first | assumption | rfl | omega) (by first | assumption | rfl | omega)⟩)))
end
def meN(t:Nat):Int:=((t+1:Nat):Int)
theorem meN_pos(t:Nat):0 < meN t:=by unfold meN;omega
theorem meN_ne{t u:Nat}(h:t≠u):meN t≠meN u:=by unfold meN;omega
structure Inw(A T:Nat)(mem:List Int)(f:Nat→Loc)(q:Nat→List (Nat×Int))(m:Bool)(σ σ':Nat)(c':Int)(pt k:Bool)(g:Nat→Nat):Prop where
 pth:Pa (meN A) m σ (mem.getD 0 0) (q A) σ' c'
 ok:okS m σ
 hb:AtB (meN A) c' σ' pt k (f A).j (f A).r1 (f A).r2 (f A).r4 (f A).r5 (f A).r6 (f A).r7
 mo:Mb (meN A) σ (mem.getD 19 0)
 mc:Mc (meN A) σ (mem.getD 18 0)
 fa:mem.getD 16 0=if 1≤σ∧σ≤4 then 1 else 0
 ho:∀ u,u < T→u≠A→AtO (meN u) (mem.getD 19 0) (mem.getD 18 0) (mem.getD 0 0) (g u) (f u).j (f u).r1 (f u).r2 (f u).r4 (f u).r5 (f u).r6 (f u).r7 (q u)
 b01:mem.getD 17 0=0∨mem.getD 17 0=1
 b2:∀ u,u < T→u≠A→g u=2→mem.getD 17 0=0
 b3:∀ u,u < T→u≠A→3≤g u→mem.getD 17 0=1
 mS:m=true→mem.getD 17 0=1∧pt=false∧∀ u,u < T→u≠A→g u≠2∧g u≠3∧g u≠4
 mF:m=false→(∀ u,u < T→u≠A→g u≠5)∧(mem.getD 17 0=1→∃ u,u < T∧u≠A∧(g u=3∨g u=4))
 cW:∀ u,u < T→u≠A→g u=4→AmT 19 (qv 19 (meN A) (q A) pt)∧(σ=0→NoT 19 (qv 19 (meN A) (q A) pt))
 kb:k=true→mem.getD 17 0=1
def X(A T R:Nat):Wd.Lk:=⟨fun t=>if t=A then 42 else 37,R,T,20,fun t=>if t=A then inB else inO,fun t=>if t=A then 22 else 23,fun mem f q=>∃ m σ σ' c' pt k g,Inw A T mem f q m σ σ' c' pt k g⟩
section
variable{A T R t u σ σ':Nat}{codes:List (List Ins)}{s:Ts}{f:Nat→Loc}{i c':Int}{mem:List Int}{q:Nat→List (Nat×Int)}{m pt k:Bool}{g:Nat→Nat}
theorem Inw.excl(h:Inw A T mem f q m σ σ' c' pt k g)(hu:u < T)(hne:u≠A)(h1:1≤g u):∀ v,v < T→v≠A→v≠u→g v=0:=fun v hv hv2 e=>by
 have h2:=((h.ho u hu hne).hcw).2 h1
 have h3:=((h.ho v hv hv2).hcw).2
 have h4:=meN_ne e
 by_cases e0:g v=0
 ·exact e0
 ·exact absurd ((h3 (by omega)).symm.trans h2) h4
theorem Inw.exA(h:Inw A T mem f q m σ σ' c' pt k g)(h1:5≤σ):∀ v,v < T→v≠A→g v=0:=fun v hv e=>by
 have h2:=h.mc.1 h1
 have h3:=((h.ho v hv e).hcw).2
 have h4:=meN_ne e
 by_cases e0:g v=0
 ·exact e0
 ·exact absurd ((h3 (by omega)).symm.trans h2) h4
theorem Inw.free(h:Inw A T mem f q m σ σ' c' pt k g)(hu:u < T)(hne:u≠A)(h5:g u=5):m=true∧(σ=0∨σ=1)∧(σ'=0∨σ'=1)∧∀ c2,Pa (meN A) m σ c2 (q A) σ' c2:=by
 have hm:m=true:=by
  cases m with
  | true=>rfl
  | false=>exact absurd h5 ((h.mF rfl).1 u hu hne)
 have hσ:σ=0∨σ=1:=by
  have h1:=h.ok
  subst hm
  have h1:σ≠2∧σ≠3∧σ≠4:=h1
  by_cases e:5≤σ
  ·have:=h.exA e u hu hne;omega
  ·omega
 have hp:=h.pth
 subst hm
 have hf:=fun c2=>Sth.free (c2:=c2) hp hσ
 exact⟨rfl,hσ,(hf 0).2,fun c2=>(hf c2).1⟩
theorem Inw.own{x:Loc}{q':List (Nat×Int)}{σ2:Nat}{c2:Int}{pt2 k2:Bool}(h:Inw A T mem f q m σ σ' c' pt k g)(hp:Pa (meN A) m σ (mem.getD 0 0) q' σ2 c2)(hx:AtB (meN A) c2 σ2 pt2 k2 x.j x.r1 x.r2 x.r4 x.r5 x.r6 x.r7)(h0:m=true→pt2=false)
  (h1:∀ u,u < T→u≠A→g u=4→AmT 19 (qv 19 (meN A) (q A) pt)→(σ=0→NoT 19 (qv 19 (meN A) (q A) pt))→AmT 19 (qv 19 (meN A) q' pt2)∧(σ=0→NoT 19 (qv 19 (meN A) q' pt2))) (hk:k2=true→mem.getD 17 0=1):Inw A T mem (upF f A x) (upF q A q') m σ σ2 c2 pt2 k2 g:=by
 refine⟨by rw [upF_self];exact hp,h.ok,by rw [upF_self];exact hx,h.mo,h.mc,h.fa,fun u hu hne=>by rw [upF_ne _ _ hne,upF_ne _ _ hne];exact h.ho u hu hne,h.b01,h.b2,h.b3,fun e=>⟨(h.mS e).1,h0 e,(h.mS e).2.2⟩,h.mF,fun u hu hne e=>?_,hk⟩
 rw [upF_self];exact h1 u hu hne e (h.cW u hu hne e).1 (h.cW u hu hne e).2
theorem IB{x:Loc}{k2:Bool}(h:Inw A T mem f q m σ σ' c' pt k g)(hk:k2=true→mem.getD 17 0=1)(hx:AtB (meN A) c' σ' pt k2 x.j x.r1 x.r2 x.r4 x.r5 x.r6 x.r7):(X A T R).I mem (upF f A x) q:=by
 have:=h.own (q':=q A) h.pth hx (fun e=>(h.mS e).2.1) (fun _ _ _ _ h h2=>⟨h,h2⟩) hk
 rw [upF_id q A] at this
 exact⟨_,_,_,_,_,_,_,this⟩
theorem Inw.oth{x:Loc}{q':List (Nat×Int)}{g':Nat}(h:Inw A T mem f q m σ σ' c' pt k g)(hu:u < T)(hne:u≠A)(hx:AtO (meN u) (mem.getD 19 0) (mem.getD 18 0) (mem.getD 0 0) g' x.j x.r1 x.r2 x.r4 x.r5 x.r6 x.r7 q')(h2:g'=2→mem.getD 17 0=0)(h3:3≤g'→mem.getD 17 0=1)(hS:m=true→g'≠2∧g'≠3∧g'≠4)(hF:m=false→g'≠5∧(g u=3∨g u=4→g'=3∨g'=4))
  (h4:g'=4→AmT 19 (qv 19 (meN A) (q A) pt)∧(σ=0→NoT 19 (qv 19 (meN A) (q A) pt))):Inw A T mem (upF f u x) (upF q u q') m σ σ' c' pt k (upF g u g'):=by
 have hne2:A≠u:=fun e=>hne e.symm
 have gu:∀ P:Nat→Prop,P g'→∀ v,(v≠u→P (g v))→P (upF g u g' v):=fun P h1 v h2=>by
  by_cases e:v=u
  ·subst e;rw [upF_self];exact h1
  ·rw [upF_ne _ _ e];exact h2 e
 refine⟨by rw [upF_ne _ _ hne2];exact h.pth,h.ok,by rw [upF_ne _ _ hne2];exact h.hb,h.mo,h.mc,h.fa,fun v hv hv2=>?_,h.b01,fun v hv hv2=>gu (fun g=>g=2→mem.getD 17 0=0) h2 v (fun _=>h.b2 v hv hv2),fun v hv hv2=>gu (fun g=>3≤g→mem.getD 17 0=1) h3 v (fun _=>h.b3 v hv hv2),fun e=>⟨(h.mS e).1,(h.mS e).2.1,fun v hv hv2=>gu (fun g=>g≠2∧g≠3∧g≠4) (hS e) v (fun _=>(h.mS e).2.2 v hv hv2)⟩,fun e=>⟨fun v hv hv2=>gu (fun g=>g≠5) (hF e).1 v (fun _=>(h.mF e).1 v hv hv2),fun e1=>?_⟩,fun v hv hv2=>?_,h.kb⟩
 ·by_cases e:v=u
  ·subst e;rw [upF_self,upF_self,upF_self];exact hx
  ·rw [upF_ne _ _ e,upF_ne _ _ e,upF_ne _ _ e];exact h.ho v hv hv2
 ·obtain⟨w,hw,hw2,hw3⟩:=(h.mF e).2 e1
  by_cases e2:w=u
  ·subst e2;exact⟨w,hw,hw2,by rw [upF_self];exact (hF e).2 hw3⟩
  ·exact⟨w,hw,hw2,by rw [upF_ne _ _ e2];exact hw3⟩
 ·rw [upF_ne _ _ hne2]
  exact gu (fun g=>g=4→AmT 19 (qv 19 (meN A) (q A) pt)∧(σ=0→NoT 19 (qv 19 (meN A) (q A) pt))) h4 v (fun _=>h.cW v hv hv2)
theorem IO{x:Loc}(h:Inw A T mem f q m σ σ' c' pt k g)(hu:u < T)(hne:u≠A)(hx:AtO (meN u) (mem.getD 19 0) (mem.getD 18 0) (mem.getD 0 0) (g u) x.j x.r1 x.r2 x.r4 x.r5 x.r6 x.r7 (q u)):(X A T R).I mem (upF f u x) q:=by
 have:=h.oth (q':=q u) hu hne hx (h.b2 u hu hne) (h.b3 u hu hne) (fun e=>(h.mS e).2.2 u hu hne) (fun e=>⟨(h.mF e).1 u hu hne,fun h=>h⟩) (h.cW u hu hne)
 rw [upF_id q u] at this
 exact⟨_,_,_,_,_,_,_,this⟩
theorem if1{x:Nat}{v:Int}(h:v=if 1≤x∧x≤4 then 1 else 0)(h0:v=0):x=0∨5≤x:=by
 by_cases e:1≤x∧x≤4
 ·rw [if_pos e] at h;omega
 ·omega
theorem qv_mem{e:Nat×Int}{r:List (Nat×Int)}{me:Int}{pt:Bool}(h:e∈r):e∈qv 19 me r pt:=by
 unfold qv
 split
 ·exact List.mem_append_left _ h
 ·exact h
theorem qv_cons(e:Nat×Int)(r:List (Nat×Int))(me:Int)(pt:Bool):qv 19 me (e::r) pt=e::qv 19 me r pt:=by
 unfold qv
 split<;>rfl
theorem not_tail{e:Nat×Int}{r:List (Nat×Int)}(h:NoT 19 (e::r)):NoT 19 r∧e.1≠19:=⟨fun x hx=>h x (List.mem_cons_of_mem _ hx),h e (List.mem_cons_self ..)⟩
theorem am_tail{e:Nat×Int}{r:List (Nat×Int)}(h:AmT 19 (e::r)):AmT 19 r∧(e=(16,0)→NoT 19 r):=by
 unfold AmT at h
 by_cases e1:e=(16,0)
 ·rw [if_pos e1] at h;exact⟨h.am,fun _=>h⟩
 ·rw [if_neg e1] at h;exact⟨h,fun e2=>absurd e2 e1⟩
theorem flushB(h:(X A T R).Inv s f i)(hA:A < T):(X A T R).Inv (s.flush A) f i:=by
 refine h.flushed hA (fun e r hq=>?_)
 obtain⟨m,σ,σ',c',pt,k,g,hI⟩:=h.I
 have hnm:s.mem.length=20:=h.nm
 have hp:=hI.pth
 rw [hq] at hp
 have hcW:=hI.cW
 rw [hq,qv_cons] at hcW
 have fin:∀ {σ2:Nat},Pa (meN A) m σ2 ((s.mem.set e.1 e.2).getD 0 0) r σ' c'→okS m σ2→Mb (meN A) σ2 ((s.mem.set e.1 e.2).getD 19 0)→Mc (meN A) σ2 ((s.mem.set e.1 e.2).getD 18 0)→(s.mem.set e.1 e.2).getD 16 0=(if 1≤σ2∧σ2≤4 then 1 else 0)→(s.mem.set e.1 e.2).getD 17 0=s.mem.getD 17 0→(∀ u,u < T→u≠A→AtO (meN u) ((s.mem.set e.1 e.2).getD 19 0) ((s.mem.set e.1 e.2).getD 18 0) ((s.mem.set e.1 e.2).getD 0 0) (g u) (f u).j (f u).r1 (f u).r2 (f u).r4 (f u).r5 (f u).r6 (f u).r7 (s.buf u))→(σ2=0→e=(16,0)∨m=true)→(X A T R).I (s.mem.set e.1 e.2) f (upF s.buf A r):=fun h1 h2 h3 h4 h5 h6 h7 h8=>by
  refine⟨m,_,σ',c',pt,k,g,by rw [upF_self];exact h1,h2,hI.hb,h3,h4,h5,fun u hu hne=>by rw [upF_ne _ _ hne];exact h7 u hu hne,by rw [h6];exact hI.b01,by rw [h6];exact hI.b2,by rw [h6];exact hI.b3,by rw [h6];exact hI.mS,by rw [h6];exact hI.mF,fun u hu hne e4=>⟨?_,fun e0=>?_⟩,by rw [h6];exact hI.kb⟩
  ·rw [upF_self];exact (am_tail (hcW u hu hne e4).1).1
  ·rw [upF_self]
   rcases h8 e0 with e1 | e1
   ·exact (am_tail (hcW u hu hne e4).1).2 e1
   ·exact absurd e4 ((hI.mS e1).2.2 u hu hne).2.2
 have hmp:=meN_pos A
 have hmn:=fun u (hu:u≠A)=>meN_ne (t:=A) (u:=u) (fun e=>hu e.symm)
 have hmo:=hI.mo
 have hmc:=hI.mc
 have hok:=hI.ok
 -- none of the others has the lock
 have no5:(m=false∧σ≤4)∨(m=true∧5≤σ)→∀ u,u < T→u≠A→g u≠5:=fun h u hu hne=>by
  rcases h with⟨h,_⟩ | ⟨_,h⟩
  ·exact (hI.mF h).1 u hu hne
  ·rw [hI.exA h u hu hne];decide
 have oth:(m=false∧σ≤4)∨(m=true∧5≤σ)→∀ ow' c2,(∀ u,u < T→u≠A→ow'≠meN u)→∀ u,u < T→u≠A→AtO (meN u) ow' (s.mem.getD 18 0) c2 (g u) (f u).j (f u).r1 (f u).r2 (f u).r4 (f u).r5 (f u).r6 (f u).r7 (s.buf u):=fun h ow' c2 ho u hu hne=>(hI.ho u hu hne).other (no5 h u hu hne) (ho u hu hne) ((hI.ho u hu hne).hcw).1 ((hI.ho u hu hne).hcw).2
 obtain⟨ad,v⟩:=e
 rcases hp.first hok with⟨e0,e1,hp2⟩ | ⟨e0,e1,hp2⟩ | ⟨e0,e1,hp2⟩ | ⟨e0,e1,hp2⟩ | ⟨e0,e1,hp2⟩ | ⟨em,e0,e1,hp2⟩ | ⟨em,e0,e1,hp2⟩
 ·have ea:ad=16:=congrArg Prod.fst e1
  have ev:v=1:=congrArg Prod.snd e1
  subst ea ev
  have m0:(s.mem.set 16 (1)).getD 0 0=_:=(get_set (by omega)).trans (if_neg (by decide))
  have m16:(s.mem.set 16 (1)).getD 16 0=_:=(get_set (by omega)).trans (if_pos rfl)
  have m17:(s.mem.set 16 (1)).getD 17 0=_:=(get_set (by omega)).trans (if_neg (by decide))
  have m18:(s.mem.set 16 (1)).getD 18 0=_:=(get_set (by omega)).trans (if_neg (by decide))
  have m19:(s.mem.set 16 (1)).getD 19 0=_:=(get_set (by omega)).trans (if_neg (by decide))
  exact⟨fin (σ2:=1) (by rw [m0];exact hp2) (by cases m;(first | exact (show 1≤4 by decide) | contradiction);(first | exact⟨by decide,by decide,by decide⟩ | contradiction)) (by rw [m19];exact⟨fun e=>by omega,fun e=>by omega,fun _=>hmo.2.2 (.inl e0)⟩) (by rw [m18];exact⟨fun e=>hmc.1 (by omega),fun e=>hmc.2 (by omega)⟩) (by rw [m16];rfl) (m17) (by rw [m19,m18,m0];exact hI.ho) (fun e=>absurd e (by decide)),.inl (show (16:Nat)≠0 by decide)⟩
 ·have ea:ad=16:=congrArg Prod.fst e1
  have ev:v=0:=congrArg Prod.snd e1
  subst ea ev
  have m0:(s.mem.set 16 (0)).getD 0 0=_:=(get_set (by omega)).trans (if_neg (by decide))
  have m16:(s.mem.set 16 (0)).getD 16 0=_:=(get_set (by omega)).trans (if_pos rfl)
  have m17:(s.mem.set 16 (0)).getD 17 0=_:=(get_set (by omega)).trans (if_neg (by decide))
  have m18:(s.mem.set 16 (0)).getD 18 0=_:=(get_set (by omega)).trans (if_neg (by decide))
  have m19:(s.mem.set 16 (0)).getD 19 0=_:=(get_set (by omega)).trans (if_neg (by decide))
  exact⟨fin (σ2:=0) (by rw [m0];exact hp2) (by cases m;(first | exact (show 0≤4 by decide) | contradiction);(first | exact⟨by decide,by decide,by decide⟩ | contradiction)) (by rw [m19];exact⟨fun e=>by omega,fun e=>by omega,fun _=>hmo.2.2 (.inr (.inl e0))⟩) (by rw [m18];exact⟨fun e=>hmc.1 (by omega),fun e=>hmc.2 (by omega)⟩) (by rw [m16];rfl) (m17) (by rw [m19,m18,m0];exact hI.ho) (fun e=>.inl rfl),.inl (show (16:Nat)≠0 by decide)⟩
 ·have ea:ad=19:=congrArg Prod.fst e1
  have ev:v=meN A:=congrArg Prod.snd e1
  subst ea ev
  have m0:(s.mem.set 19 (meN A)).getD 0 0=_:=(get_set (by omega)).trans (if_neg (by decide))
  have m16:(s.mem.set 19 (meN A)).getD 16 0=_:=(get_set (by omega)).trans (if_neg (by decide))
  have m17:(s.mem.set 19 (meN A)).getD 17 0=_:=(get_set (by omega)).trans (if_neg (by decide))
  have m18:(s.mem.set 19 (meN A)).getD 18 0=_:=(get_set (by omega)).trans (if_neg (by decide))
  have m19:(s.mem.set 19 (meN A)).getD 19 0=_:=(get_set (by omega)).trans (if_pos rfl)
  have hin:(m=false∧σ≤4)∨(m=true∧5≤σ):=by rcases e0 with⟨h1,h2⟩ | ⟨h1,h2⟩;exact .inl ⟨h1,by omega⟩;exact .inr ⟨h1,by omega⟩
  exact⟨fin (σ2:=(σ+1)) (by rw [m0];exact hp2) (by rcases e0 with⟨h1,h2⟩ | ⟨h1,h2⟩<;>subst h1;(show σ+1≤4;omega);(exact⟨by omega,by omega,by omega⟩)) (by rw [m19];exact⟨fun _=>rfl,fun e=>by omega,fun e=>by omega⟩) (by rw [m18];exact⟨fun e=>hmc.1 (by omega),fun e=>hmc.2 (by omega)⟩) (by rw [m16,hI.fa];rcases e0 with⟨_,h2⟩ | ⟨_,h2⟩<;>subst h2<;>rfl) (m17) (by rw [m19,m18,m0];exact oth hin _ _ (fun u hu hne=>hmn u hne)) (fun e=>by omega),.inl (show (19:Nat)≠0 by decide)⟩
 ·have ea:ad=0:=congrArg Prod.fst e1
  have ev:v=wr32 (s.mem.getD 0 0+1):=congrArg Prod.snd e1
  subst ea ev
  have m0:(s.mem.set 0 (wr32 (s.mem.getD 0 0+1))).getD 0 0=_:=(get_set (by omega)).trans (if_pos rfl)
  have m16:(s.mem.set 0 (wr32 (s.mem.getD 0 0+1))).getD 16 0=_:=(get_set (by omega)).trans (if_neg (by decide))
  have m17:(s.mem.set 0 (wr32 (s.mem.getD 0 0+1))).getD 17 0=_:=(get_set (by omega)).trans (if_neg (by decide))
  have m18:(s.mem.set 0 (wr32 (s.mem.getD 0 0+1))).getD 18 0=_:=(get_set (by omega)).trans (if_neg (by decide))
  have m19:(s.mem.set 0 (wr32 (s.mem.getD 0 0+1))).getD 19 0=_:=(get_set (by omega)).trans (if_neg (by decide))
  have hin:(m=false∧σ≤4)∨(m=true∧5≤σ):=by rcases e0 with⟨h1,h2⟩ | ⟨h1,h2⟩;exact .inl ⟨h1,by omega⟩;exact .inr ⟨h1,by omega⟩
  exact⟨fin (σ2:=(σ+1)) (by rw [m0];exact hp2) (by rcases e0 with⟨h1,h2⟩ | ⟨h1,h2⟩<;>subst h1;(show σ+1≤4;omega);(exact⟨by omega,by omega,by omega⟩)) (by rw [m19];exact⟨fun _=>hmo.1 (by omega),fun e=>by omega,fun e=>by omega⟩) (by rw [m18];exact⟨fun e=>hmc.1 (by omega),fun e=>hmc.2 (by omega)⟩) (by rw [m16,hI.fa];rcases e0 with⟨_,h2⟩ | ⟨_,h2⟩<;>subst h2<;>rfl) (m17) (by rw [m19,m18,m0];exact oth hin _ _ (fun u hu hne=>((hI.ho u hu hne).out (no5 hin u hu hne)).1)) (fun e=>by omega),.inr ⟨rfl,by show 0 < 20;decide,rfl⟩⟩
 ·have ea:ad=19:=congrArg Prod.fst e1
  have ev:v=0:=congrArg Prod.snd e1
  subst ea ev
  have m0:(s.mem.set 19 (0)).getD 0 0=_:=(get_set (by omega)).trans (if_neg (by decide))
  have m16:(s.mem.set 19 (0)).getD 16 0=_:=(get_set (by omega)).trans (if_neg (by decide))
  have m17:(s.mem.set 19 (0)).getD 17 0=_:=(get_set (by omega)).trans (if_neg (by decide))
  have m18:(s.mem.set 19 (0)).getD 18 0=_:=(get_set (by omega)).trans (if_neg (by decide))
  have m19:(s.mem.set 19 (0)).getD 19 0=_:=(get_set (by omega)).trans (if_pos rfl)
  have hin:(m=false∧σ≤4)∨(m=true∧5≤σ):=by rcases e0 with⟨h1,h2⟩ | ⟨h1,h2⟩;exact .inl ⟨h1,by omega⟩;exact .inr ⟨h1,by omega⟩
  exact⟨fin (σ2:=(σ+1)) (by rw [m0];exact hp2) (by rcases e0 with⟨h1,h2⟩ | ⟨h1,h2⟩<;>subst h1;(show σ+1≤4;omega);(exact⟨by omega,by omega,by omega⟩)) (by rw [m19];exact⟨fun e=>by omega,fun _=>rfl,fun e=>by omega⟩) (by rw [m18];exact⟨fun e=>hmc.1 (by omega),fun e=>hmc.2 (by omega)⟩) (by rw [m16,hI.fa];rcases e0 with⟨_,h2⟩ | ⟨_,h2⟩<;>subst h2<;>rfl) (m17) (by rw [m19,m18,m0];exact oth hin _ _ (fun u hu hne=>by have:=meN_pos u;omega)) (fun e=>by omega),.inl (show (19:Nat)≠0 by decide)⟩
 ·have ea:ad=16:=congrArg Prod.fst e1
  have ev:v=0:=congrArg Prod.snd e1
  subst ea ev
  have m0:(s.mem.set 16 (0)).getD 0 0=_:=(get_set (by omega)).trans (if_neg (by decide))
  have m16:(s.mem.set 16 (0)).getD 16 0=_:=(get_set (by omega)).trans (if_pos rfl)
  have m17:(s.mem.set 16 (0)).getD 17 0=_:=(get_set (by omega)).trans (if_neg (by decide))
  have m18:(s.mem.set 16 (0)).getD 18 0=_:=(get_set (by omega)).trans (if_neg (by decide))
  have m19:(s.mem.set 16 (0)).getD 19 0=_:=(get_set (by omega)).trans (if_neg (by decide))
  exact⟨fin (σ2:=0) (by rw [m0];exact hp2) (by cases m;(first | exact (show 0≤4 by decide) | contradiction);(first | exact⟨by decide,by decide,by decide⟩ | contradiction)) (by rw [m19];exact⟨fun e=>by omega,fun e=>by omega,fun _=>by rw [hmo.2.1 (.inl e0)];omega⟩) (by rw [m18];exact⟨fun e=>hmc.1 (by omega),fun e=>hmc.2 (by omega)⟩) (by rw [m16];rfl) (m17) (by rw [m19,m18,m0];exact hI.ho) (fun e=>.inl rfl),.inl (show (16:Nat)≠0 by decide)⟩
 ·have ea:ad=18:=congrArg Prod.fst e1
  have ev:v=0:=congrArg Prod.snd e1
  subst ea ev
  have m0:(s.mem.set 18 (0)).getD 0 0=_:=(get_set (by omega)).trans (if_neg (by decide))
  have m16:(s.mem.set 18 (0)).getD 16 0=_:=(get_set (by omega)).trans (if_neg (by decide))
  have m17:(s.mem.set 18 (0)).getD 17 0=_:=(get_set (by omega)).trans (if_neg (by decide))
  have m18:(s.mem.set 18 (0)).getD 18 0=_:=(get_set (by omega)).trans (if_pos rfl)
  have m19:(s.mem.set 18 (0)).getD 19 0=_:=(get_set (by omega)).trans (if_neg (by decide))
  exact⟨fin (σ2:=0) (by rw [m0];exact hp2) (by cases m;(first | exact (show 0≤4 by decide) | contradiction);(first | exact⟨by decide,by decide,by decide⟩ | contradiction)) (by rw [m19];exact⟨fun e=>by omega,fun e=>by omega,fun _=>by rw [hmo.2.1 (.inr e0)];omega⟩) (by rw [m18];exact⟨fun e=>by omega,fun _=>by omega⟩) (by rw [m16,hI.fa,e0];rfl) (m17) (fun u hu hne=>by rw [m19,m18,m0];have g0:=hI.exA (by omega) u hu hne;exact (hI.ho u hu hne).other (by omega) ((hI.ho u hu hne).out (by omega)).1 (fun _=>by have:=meN_pos u;omega) (fun e=>by omega)) (fun e=>.inr em),.inl (show (18:Nat)≠0 by decide)⟩
theorem flushO(h:(X A T R).Inv s f i)(hu:u < T)(hne:u≠A):(X A T R).Inv (s.flush u) f i:=by
 refine h.flushed hu (fun e r hq=>?_)
 obtain⟨m,σ,σ',c',pt,k,g,hI⟩:=h.I
 have hnm:s.mem.length=20:=h.nm
 have hs:=hI.ho u hu hne
 rw [hq] at hs
 have hne2:A≠u:=fun e=>hne e.symm
 have fin:∀ {g2:Nat} {c2:Int},g u=5→g2=5∨g2=0→Pa (meN A) m σ ((s.mem.set e.1 e.2).getD 0 0) (s.buf A) σ' c2→AtB (meN A) c2 σ' pt k (f A).j (f A).r1 (f A).r2 (f A).r4 (f A).r5 (f A).r6 (f A).r7→Mb (meN A) σ ((s.mem.set e.1 e.2).getD 19 0)→Mc (meN A) σ ((s.mem.set e.1 e.2).getD 18 0)→(s.mem.set e.1 e.2).getD 16 0=s.mem.getD 16 0→(s.mem.set e.1 e.2).getD 17 0=s.mem.getD 17 0→(∀ v,v < T→v≠A→v≠u→(s.mem.set e.1 e.2).getD 19 0≠meN v∧(s.mem.set e.1 e.2).getD 18 0≠meN v)→AtO (meN u) ((s.mem.set e.1 e.2).getD 19 0) ((s.mem.set e.1 e.2).getD 18 0) ((s.mem.set e.1 e.2).getD 0 0) g2 (f u).j (f u).r1 (f u).r2 (f u).r4 (f u).r5 (f u).r6 (f u).r7 r→(X A T R).I (s.mem.set e.1 e.2) f (upF s.buf u r):=fun {g2 c2} h5 hg2 h1 h2 h3 h4 h6 h7 h8 h9=>by
  have g0:=hI.excl hu hne (by omega)
  have hm:=(hI.free hu hne h5).1
  have gv:∀ v,v < T→v≠A→upF g u g2 v=5∨upF g u g2 v=0:=fun v hv hv2=>by
   by_cases e:v=u
   ·subst e;rw [upF_self];exact hg2
   ·rw [upF_ne _ _ e];exact .inr (g0 v hv hv2 e)
  refine⟨m,σ,σ',_,pt,k,upF g u g2,by rw [upF_ne _ _ hne2];exact h1,hI.ok,h2,h3,h4,by rw [h6];exact hI.fa,fun v hv hv2=>?_,by rw [h7];exact hI.b01,fun v hv hv2 e=>?_,fun v hv hv2 e=>by rw [h7];exact (hI.mS hm).1,fun _=>⟨by rw [h7];exact (hI.mS hm).1,(hI.mS hm).2.1,fun v hv hv2=>?_⟩,fun e=>?_,fun v hv hv2 e=>?_,by rw [h7];exact hI.kb⟩
  ·by_cases e:v=u
   ·subst e;rw [upF_self,upF_self];exact h9
   ·rw [upF_ne _ _ e,upF_ne _ _ e]
    have h0:=g0 v hv hv2 e
    exact (hI.ho v hv hv2).other (by omega) (h8 v hv hv2 e).1 (fun _=>(h8 v hv hv2 e).2) (fun e=>by omega)
  ·have:=gv v hv hv2;omega
  ·have:=gv v hv hv2;omega
  ·rw [hm] at e;cases e
  ·have:=gv v hv hv2;omega
 have hmp:=meN_pos A
 have hmn:=fun v (h:v≠u)=>meN_ne (t:=u) (u:=v) (fun e=>h e.symm)
 have hmA:=meN_ne hne
 have hMb:g u=5→∀ ow',ow'≠meN A→Mb (meN A) σ ow':=fun h5 ow' ho=>by
  have:=(hI.free hu hne h5).2.1
  exact⟨fun e=>by omega,fun e=>by omega,fun _=>ho⟩
 have hcw:=hs.hcw
 have gv:=fun h5:g u=5=>hI.excl hu hne (by omega)
 have hov:=fun (h5:g u=5) v hv hv2 hvu=>((hI.ho v hv hv2).out (by have:=gv h5 v hv hv2 hvu;omega)).1
 have hcv:=fun (h5:g u=5) v hv hv2 hvu=>((hI.ho v hv hv2).hcw).1 (gv h5 v hv hv2 hvu)
 obtain⟨ad,v⟩:=e
 rcases own_buf hs (meN_pos _) with⟨e0,e1,hg,hr⟩ | ⟨e0,e1,hg,hr⟩ | ⟨e0,e1,hg,hr⟩ | ⟨e0,e1,hg,hz,hr⟩ | ⟨e0,e1,hg,hr⟩
 ·dsimp only at e0 e1
  subst e0 e1
  have m0:(s.mem.set 19 (meN u)).getD 0 0=_:=(get_set (by omega)).trans (if_neg (by decide))
  have m16:(s.mem.set 19 (meN u)).getD 16 0=_:=(get_set (by omega)).trans (if_neg (by decide))
  have m17:(s.mem.set 19 (meN u)).getD 17 0=_:=(get_set (by omega)).trans (if_neg (by decide))
  have m18:(s.mem.set 19 (meN u)).getD 18 0=_:=(get_set (by omega)).trans (if_neg (by decide))
  have m19:(s.mem.set 19 (meN u)).getD 19 0=_:=(get_set (by omega)).trans (if_pos rfl)
  exact⟨fin (g2:=5) hg (.inl rfl) (by rw [m0];exact hI.pth) (hI.hb) (by rw [m19];exact hMb hg _ hmA) (by rw [m18];exact hI.mc) m16 m17 (fun v hv hv2 hvu=>by rw [m19,m18];exact⟨hmn v hvu,hcv hg v hv hv2 hvu⟩) (by rw [m19,m18,m0];exact hr),.inl (show (19:Nat)≠0 by decide)⟩
 ·dsimp only at e0 e1
  subst e0 e1
  have m0:(s.mem.set 0 (wr32 (s.mem.getD 0 0+1))).getD 0 0=_:=(get_set (by omega)).trans (if_pos rfl)
  have m16:(s.mem.set 0 (wr32 (s.mem.getD 0 0+1))).getD 16 0=_:=(get_set (by omega)).trans (if_neg (by decide))
  have m17:(s.mem.set 0 (wr32 (s.mem.getD 0 0+1))).getD 17 0=_:=(get_set (by omega)).trans (if_neg (by decide))
  have m18:(s.mem.set 0 (wr32 (s.mem.getD 0 0+1))).getD 18 0=_:=(get_set (by omega)).trans (if_neg (by decide))
  have m19:(s.mem.set 0 (wr32 (s.mem.getD 0 0+1))).getD 19 0=_:=(get_set (by omega)).trans (if_neg (by decide))
  exact⟨fin (g2:=5) hg (.inl rfl) (by rw [m0];exact (hI.free hu hne hg).2.2.2 _) ((hI.hb.free (hI.free hu hne hg).2.2.1).1) (by rw [m19];exact hI.mo) (by rw [m18];exact hI.mc) m16 m17 (fun v hv hv2 hvu=>by rw [m19,m18];exact⟨hov hg v hv hv2 hvu,hcv hg v hv hv2 hvu⟩) (by rw [m19,m18,m0];exact hr _),.inr ⟨rfl,by show 0 < 20;decide,rfl⟩⟩
 ·dsimp only at e0 e1
  subst e0 e1
  have m0:(s.mem.set 19 (0)).getD 0 0=_:=(get_set (by omega)).trans (if_neg (by decide))
  have m16:(s.mem.set 19 (0)).getD 16 0=_:=(get_set (by omega)).trans (if_neg (by decide))
  have m17:(s.mem.set 19 (0)).getD 17 0=_:=(get_set (by omega)).trans (if_neg (by decide))
  have m18:(s.mem.set 19 (0)).getD 18 0=_:=(get_set (by omega)).trans (if_neg (by decide))
  have m19:(s.mem.set 19 (0)).getD 19 0=_:=(get_set (by omega)).trans (if_pos rfl)
  exact⟨fin (g2:=5) hg (.inl rfl) (by rw [m0];exact hI.pth) (hI.hb) (by rw [m19];exact hMb hg _ (by omega)) (by rw [m18];exact hI.mc) m16 m17 (fun v hv hv2 hvu=>by rw [m19,m18];exact⟨by have:=meN_pos v;omega,hcv hg v hv hv2 hvu⟩) (by rw [m19,m18,m0];exact hr),.inl (show (19:Nat)≠0 by decide)⟩
 ·dsimp only at e0 e1
  subst e0 e1
  have m0:(s.mem.set 18 (0)).getD 0 0=_:=(get_set (by omega)).trans (if_neg (by decide))
  have m16:(s.mem.set 18 (0)).getD 16 0=_:=(get_set (by omega)).trans (if_neg (by decide))
  have m17:(s.mem.set 18 (0)).getD 17 0=_:=(get_set (by omega)).trans (if_neg (by decide))
  have m18:(s.mem.set 18 (0)).getD 18 0=_:=(get_set (by omega)).trans (if_pos rfl)
  have m19:(s.mem.set 18 (0)).getD 19 0=_:=(get_set (by omega)).trans (if_neg (by decide))
  exact⟨fin (g2:=0) hg (.inr rfl) (by rw [m0];exact hI.pth) (hI.hb) (by rw [m19];exact hI.mo) (by rw [m18];exact⟨fun e=>by have:=(hI.free hu hne hg).2.1;omega,fun _=>by omega⟩) m16 m17 (fun v hv hv2 hvu=>by rw [m19,m18];exact⟨hov hg v hv hv2 hvu,by have:=meN_pos v;omega⟩) (by rw [m19,m18,m0];exact hr _),.inl (show (18:Nat)≠0 by decide)⟩
 ·dsimp only at e0 e1
  subst e0 e1
  have m0:(s.mem.set 17 (1)).getD 0 0=_:=(get_set (by omega)).trans (if_neg (by decide))
  have m16:(s.mem.set 17 (1)).getD 16 0=_:=(get_set (by omega)).trans (if_neg (by decide))
  have m17:(s.mem.set 17 (1)).getD 17 0=_:=(get_set (by omega)).trans (if_pos rfl)
  have m18:(s.mem.set 17 (1)).getD 18 0=_:=(get_set (by omega)).trans (if_neg (by decide))
  have m19:(s.mem.set 17 (1)).getD 19 0=_:=(get_set (by omega)).trans (if_neg (by decide))
  have hm:m=false:=by
   cases m with
   | false=>rfl
   | true=>exact absurd hg ((hI.mS rfl).2.2 u hu hne).1
  have g0:=hI.excl hu hne (by omega)
  have gw:∀ v,v < T→v≠A→upF g u 3 v=3∨upF g u 3 v=0:=fun v hv hv2=>by
   by_cases e:v=u
   ·subst e;rw [upF_self];exact .inl rfl
   ·rw [upF_ne _ _ e];exact .inr (g0 v hv hv2 e)
  refine⟨⟨m,σ,σ',c',pt,k,upF g u 3,by rw [upF_ne _ _ hne2,m0];exact hI.pth,hI.ok,hI.hb,by rw [m19];exact hI.mo,by rw [m18];exact hI.mc,by rw [m16];exact hI.fa,fun v hv hv2=>?_,by rw [m17];exact .inr rfl,fun v hv hv2 e=>?_,fun v hv hv2 e=>m17,fun e=>?_,fun _=>⟨fun v hv hv2=>?_,fun _=>⟨u,hu,hne,by rw [upF_self];exact .inl rfl⟩⟩,fun v hv hv2 e=>?_,fun _=>m17⟩,.inl (show (17:Nat)≠0 by decide)⟩
  ·rw [m19,m18,m0]
   by_cases e:v=u
   ·subst e;rw [upF_self,upF_self];exact hr
   ·rw [upF_ne _ _ e,upF_ne _ _ e];exact hI.ho v hv hv2
  ·have:=gw v hv hv2;omega
  ·rw [hm] at e;cases e
  ·have:=gw v hv hv2;omega
  ·have:=gw v hv hv2;omega
theorem flush(h:(X A T R).Inv s f i)(ht:t < T):(X A T R).Inv (s.flush t) f i:=by
 by_cases e:t=A
 ·subst e;exact flushB h ht
 ·exact flushO h ht e
theorem X_B:(X A T R).Lb A=42∧(X A T R).inR A=inB∧(X A T R).js A=22:=⟨if_pos rfl,if_pos rfl,if_pos rfl⟩
theorem X_O(hne:u≠A):(X A T R).Lb u=37∧(X A T R).inR u=inO∧(X A T R).js u=23:=⟨if_neg hne,if_neg hne,if_neg hne⟩
theorem Pa.nil_inv{me c c':Int}(h:Pa me m σ c [] σ' c'):σ'=σ∧c'=c:=by
 cases m<;>cases h<;>exact⟨rfl,rfl⟩
set_option maxHeartbeats 8000000 in
theorem stepB(h:(X A T R).Inv s f i)(ht:A < T)(hR:R≤100)(hc:codes[A]? = some (codeB R A))(h0:(f A).st=0)(hp:(f A).p < R)(hj:(f A).j < 42):∃ s' f' i',s.stepT codes A=some s'∧(X A T R).Inv s' f' i':=by
 obtain⟨eL,er,ej⟩:=X_B (A:=A) (T:=T) (R:=R)
 obtain⟨x,hx⟩:∃ x,f A=x:=⟨_,rfl⟩
 obtain⟨m,σ,σ',c,pt,k,g,hI⟩:=h.I
 have hat:=hI.hb
 have hs:=h.hs _ ht
 have hnm:s.mem.length=20:=h.nm
 rw [hx] at hat hs h0 hp hj
 rw [eL] at hs
 obtain⟨p,j,r0,r1,r2,r3,r4,r5,r6,r7,st⟩:=x
 dsimp only at hat h0 hp hj
 subst h0
 obtain⟨me,hme⟩:∃ me:Int,me=meN A:=⟨_,rfl⟩
 have hme0:0 < me:=by have:=meN_pos A;omega
 have ins:=fun {i:Ins} (hi:(baseB me)[j]? = some i)=>at_ins (L:=42) (i:=i) hc hs (codeB_get R A p j hp hj) (by show (baseB (meN A))[j]? = _;rw [←hme];exact hi)
 have hq0:∃ q,s.buf A=q:=⟨_,rfl⟩
 obtain⟨q,hq⟩:=hq0
 have hpth:=hI.pth
 have hno:(lastQ q 17).getD (s.mem.getD 17 0)=s.mem.getD 17 0:=by rw [←hq];exact hpth.none17 _
 have hcnt:(lastQ q 0).getD (s.mem.getD 0 0)=c:=by rw [←hq];exact hpth.cnt
 have hmo:Mb me σ' ((lastQ q 19).getD (s.mem.getD 19 0)):=by rw [←hq,hme];exact hpth.mb hI.ok (by rw [←hme];exact hme0) hI.mo
 have hmc:Mc me σ' ((lastQ q 18).getD (s.mem.getD 18 0)):=by rw [←hq,hme];exact hpth.mc hI.ok (by rw [←hme];exact hme0) hI.mc
 have hok2:okS m σ':=hpth.ok hI.ok
 have hkb:=hI.kb
 have hpm:=fun e=>(hI.mS e).2.1
 rw [hq] at hpth
 rw [←hme] at hat hpth
 generalize hv17:(lastQ q 17).getD (s.mem.getD 17 0)=v17 at hno
 generalize hv18:(lastQ q 18).getD (s.mem.getD 18 0)=v18 at hmc
 generalize hv19:(lastQ q 19).getD (s.mem.getD 19 0)=v19 at hmo
 cases hat
 case b0  =>
  have hi:=ins (i:=⟨27,7,0,0,0⟩) rfl
  rw [movI_plain (i:=⟨27,7,0,0,0⟩) rfl] at hi
  have hmk:=st_mark hi
  have hg:=h.marked (t:=A) ⟨7,0,((p*42+0:Nat):Int),0,r7,0,0,false⟩ rfl (.inl rfl)
  have key:=W_loc hg ht eL er ej (⟨p,1,r0,r1,r2,r3,r4,r5,r6,r7,0⟩:Loc) (.inl ⟨rfl,hp,by show 1 < 42;decide⟩) (IB (k2:=false) hI (fun e=>absurd e (by decide)) (by rw [←hme];exact (AtB.b1 ))) (by rw [hx];rfl) (by rw [hx]) (by rw [hx];rfl)
  rw [show Loc.th 42 _=_ from th_of rfl] at key
  exact⟨_,_,_,hmk,key⟩
 case b1  =>
  have hi:=ins (i:=⟨16,4,8,0,19⟩) rfl
  rw [movI_plain (i:=⟨16,4,8,0,19⟩) rfl] at hi
  have hst:=st_load hi (ad:=19) (addr_abs _ _ _ _ _) (by rw [hnm];omega)
  have hl:s.load A 19=v19:=by rw [load_q hq];assumption
  rw [hl] at hst
  have hg:=h.noted (t:=A) ⟨1,0,((p*42+1:Nat):Int),19,v19,0,0,false⟩ (show (1:Int)≠7 by decide) (show (1:Int)≠13 by decide)
  have hv:v19≠me:=hmo.2.2 (.inl rfl)
  have key:=W_loc hg ht eL er ej (⟨p,2,r0,r1,r2,r3,v19,r5,r6,r7,0⟩:Loc) (.inl ⟨rfl,hp,by show 2 < 42;decide⟩) (IB (k2:=false) hI (fun e=>absurd e (by decide)) (by rw [←hme];exact (AtB.b2 (by first | assumption | rfl)))) (by rw [hx];rfl) (by rw [hx]) (by rw [hx];rfl)
  rw [show Loc.th 42 _=_ from th_of rfl] at key
  exact⟨_,_,_,hst,key⟩
 case b2 g0=>
  have hi:=ins (i:=⟨1,5,0,0,me⟩) rfl
  rw [movI_plain (i:=⟨1,5,0,0,me⟩) rfl] at hi
  have hst:=st_set hi
  have key:=W_loc h ht eL er ej (⟨p,3,r0,r1,r2,r3,r4,(me),r6,r7,0⟩:Loc) (.inl ⟨rfl,hp,by show 3 < 42;decide⟩) (IB (k2:=false) hI (fun e=>absurd e (by decide)) (by rw [←hme];exact (AtB.b3 (by first | assumption | rfl | (simp_all;done)) (by first | assumption | rfl | (simp_all;done))))) (by rw [hx];rfl) (by rw [hx]) (by rw [hx];rfl)
  rw [show Loc.th 42 _=_ from th_of rfl] at key
  exact⟨_,_,_,hst,key⟩
 case b3 g0 g1=>
  have hi:=ins (i:=⟨12,6,4,5,0⟩) rfl
  rw [movI_plain (i:=⟨12,6,4,5,0⟩) rfl] at hi
  have hst:=st_same hi
  have hv:(if r4=r5 then (1:Int) else 0)=0:=by simp_all
  have key:=W_loc h ht eL er ej (⟨p,4,r0,r1,r2,r3,r4,r5,(if r4=r5 then (1:Int) else 0),r7,0⟩:Loc) (.inl ⟨rfl,hp,by show 4 < 42;decide⟩) (IB (k2:=false) hI (fun e=>absurd e (by decide)) (by rw [←hme];exact (AtB.b4 (by first | assumption | exact hv | (rw [hv];decide)) (by first | assumption | exact hv | (rw [hv];decide))))) (by rw [hx];rfl) (by rw [hx]) (by rw [hx];rfl)
  rw [show Loc.th 42 _=_ from th_of rfl] at key
  exact⟨_,_,_,hst,key⟩
 case b4 g0 g1=>
  have hi:=ins (i:=⟨14,6,0,0,7⟩) rfl
  rw [movI_jump (i:=⟨14,6,0,0,7⟩) rfl] at hi
  have hst:=st_zero hi
  by_cases hz:r6=0
  ·rw [if_pos (by exact hz)] at hst
   have key:=W_loc h ht eL er ej (⟨p,7,r0,r1,r2,r3,r4,r5,r6,r7,0⟩:Loc) (.inl ⟨rfl,hp,by show 7 < 42;decide⟩) (IB (k2:=false) hI (fun e=>absurd e (by decide)) (by rw [←hme];exact (AtB.b7 (by first | assumption | (simp_all;done))))) (by rw [hx];rfl) (by rw [hx]) (by rw [hx];rfl)
   rw [show Loc.th 42 _=_ from th_jmp (by omega) (by decide) (by decide)] at key
   exact⟨_,_,_,hst,key⟩
  ·rw [if_neg (by exact hz)] at hst
   exfalso;simp_all
 case b7 g0=>
  have hi:=ins (i:=⟨1,4,0,0,1⟩) rfl
  rw [movI_plain (i:=⟨1,4,0,0,1⟩) rfl] at hi
  have hst:=st_set hi
  have key:=W_loc h ht eL er ej (⟨p,8,r0,r1,r2,r3,(1),r5,r6,r7,0⟩:Loc) (.inl ⟨rfl,hp,by show 8 < 42;decide⟩) (IB (k2:=false) hI (fun e=>absurd e (by decide)) (by rw [←hme];exact (AtB.b8 (by first | assumption | rfl | (simp_all;done)) (by first | assumption | rfl | (simp_all;done))))) (by rw [hx];rfl) (by rw [hx]) (by rw [hx];rfl)
  rw [show Loc.th 42 _=_ from th_of rfl] at key
  exact⟨_,_,_,hst,key⟩
 case b8 g0 g1=>
  have hi:=ins (i:=⟨17,4,8,0,16⟩) rfl
  rw [movI_plain (i:=⟨17,4,8,0,16⟩) rfl] at hi
  have hst:=st_store hi (ad:=16) (addr_abs _ _ _ _ _) (by rw [hnm];omega)
  by_cases hro:s.roomy A=true
  ·rw [if_pos hro] at hst
   have hrv:r4=1:=by assumption
   have key:=W_stored h ht eL er ej ((p*42+8:Nat):Int) 16 r4 (⟨p,9,r0,r1,r2,r3,r4,r5,r6,r7,0⟩:Loc) (.inl ⟨rfl,hp,by show 9 < 42;decide⟩) (⟨_,_,_,_,_,_,_,hI.own (q':=s.buf A++[(16,r4)]) (pt2:=false) (k2:=false) (by rw [hrv];exact hI.pth.up) (by rw [←hme];exact (AtB.b9 (by first | assumption | rfl | (simp_all;done)))) (hpm) (by rw [hrv];exact fun _ _ _ _ h h2=>⟨h.snoc (show (16:Nat)≠19 by decide),fun e0=>(h2 e0).snoc (show (16:Nat)≠19 by decide)⟩) (fun e=>absurd e (by decide))⟩) (by rw [hx];rfl) (by rw [hx]) (.inl ⟨by decide,by rw [hx];rfl⟩)
   rw [show Loc.th 42 _=_ from th_of rfl] at key
   exact⟨_,_,_,hst,key⟩
  ·rw [if_neg hro] at hst
   exact⟨_,f,i,hst,flush h ht⟩
 case b9 g0=>
  have hi:=ins (i:=⟨16,4,8,0,17⟩) rfl
  rw [movI_plain (i:=⟨16,4,8,0,17⟩) rfl] at hi
  have hst:=st_load hi (ad:=17) (addr_abs _ _ _ _ _) (by rw [hnm];omega)
  have hl:s.load A 17=v17:=by rw [load_q hq];assumption
  rw [hl] at hst
  have hg:=h.noted (t:=A) ⟨1,0,((p*42+9:Nat):Int),17,v17,0,0,false⟩ (show (1:Int)≠7 by decide) (show (1:Int)≠13 by decide)
  by_cases hz:v17=0
  ·have hb0:s.mem.getD 17 0=0:=by omega
   have key:=W_loc hg ht eL er ej (⟨p,10,r0,r1,r2,r3,v17,r5,r6,r7,0⟩:Loc) (.inl ⟨rfl,hp,by show 10 < 42;decide⟩) (⟨_,_,_,_,_,_,_,by have:=hI.own (x:=⟨p,10,r0,r1,r2,r3,v17,r5,r6,r7,0⟩) (q':=s.buf A) (pt2:=true) (k2:=false) hI.pth (by rw [←hme];exact (AtB.b10t (by first | assumption | exact hz) (by first | assumption | exact hz))) (fun e=>by have:=(hI.mS e).1;omega) (fun v hv hv2 e=>by have:=hI.b3 v hv hv2 (by omega);omega) (fun e=>absurd e (by decide));rw [upF_id s.buf A] at this;exact this⟩) (by rw [hx];rfl) (by rw [hx]) (by rw [hx];rfl)
   rw [show Loc.th 42 _=_ from th_of rfl] at key
   exact⟨_,_,_,hst,key⟩
  ·have hb1:s.mem.getD 17 0=1:=by have:=hI.b01;omega
   have key:=W_loc hg ht eL er ej (⟨p,10,r0,r1,r2,r3,v17,r5,r6,r7,0⟩:Loc) (.inl ⟨rfl,hp,by show 10 < 42;decide⟩) (IB (k2:=true) hI (fun _=>hb1) (by rw [←hme];exact (AtB.b10k (by first | assumption | exact hz) (by first | assumption | exact hz)))) (by rw [hx];rfl) (by rw [hx]) (by rw [hx];rfl)
   rw [show Loc.th 42 _=_ from th_of rfl] at key
   exact⟨_,_,_,hst,key⟩
 case b10k g0 g1=>
  have hi:=ins (i:=⟨14,4,0,0,16⟩) rfl
  rw [movI_jump (i:=⟨14,4,0,0,16⟩) rfl] at hi
  have hst:=st_zero hi
  by_cases hz:r4=0
  ·rw [if_pos (by exact hz)] at hst
   exfalso;simp_all
  ·rw [if_neg (by exact hz)] at hst
   have key:=W_loc h ht eL er ej (⟨p,11,r0,r1,r2,r3,r4,r5,r6,r7,0⟩:Loc) (.inl ⟨rfl,hp,by show 11 < 42;decide⟩) (IB (k2:=true) hI (fun _=>hkb rfl) (by rw [←hme];exact (AtB.b11k (by first | assumption | (simp_all;done))))) (by rw [hx];rfl) (by rw [hx]) (by rw [hx];rfl)
   rw [show Loc.th 42 _=_ from th_of rfl] at key
   exact⟨_,_,_,hst,key⟩
 case b10t g0 g1=>
  have hi:=ins (i:=⟨14,4,0,0,16⟩) rfl
  rw [movI_jump (i:=⟨14,4,0,0,16⟩) rfl] at hi
  have hst:=st_zero hi
  by_cases hz:r4=0
  ·rw [if_pos (by exact hz)] at hst
   have key:=W_loc h ht eL er ej (⟨p,16,r0,r1,r2,r3,r4,r5,r6,r7,0⟩:Loc) (.inl ⟨rfl,hp,by show 16 < 42;decide⟩) (IB (k2:=false) hI (fun e=>absurd e (by decide)) (by rw [←hme];exact (AtB.b16t (by first | assumption | (simp_all;done))))) (by rw [hx];rfl) (by rw [hx]) (by rw [hx];rfl)
   rw [show Loc.th 42 _=_ from th_jmp (by omega) (by decide) (by decide)] at key
   exact⟨_,_,_,hst,key⟩
  ·rw [if_neg (by exact hz)] at hst
   exfalso;simp_all
 case b11k g0=>
  have hi:=ins (i:=⟨1,4,0,0,0⟩) rfl
  rw [movI_plain (i:=⟨1,4,0,0,0⟩) rfl] at hi
  have hst:=st_set hi
  have key:=W_loc h ht eL er ej (⟨p,12,r0,r1,r2,r3,(0),r5,r6,r7,0⟩:Loc) (.inl ⟨rfl,hp,by show 12 < 42;decide⟩) (IB (k2:=true) hI (fun _=>hkb rfl) (by rw [←hme];exact (AtB.b12k (by first | assumption | rfl | (simp_all;done)) (by first | assumption | rfl | (simp_all;done))))) (by rw [hx];rfl) (by rw [hx]) (by rw [hx];rfl)
  rw [show Loc.th 42 _=_ from th_of rfl] at key
  exact⟨_,_,_,hst,key⟩
 case b12k g0 g1=>
  have hi:=ins (i:=⟨17,4,8,0,16⟩) rfl
  rw [movI_plain (i:=⟨17,4,8,0,16⟩) rfl] at hi
  have hst:=st_store hi (ad:=16) (addr_abs _ _ _ _ _) (by rw [hnm];omega)
  by_cases hro:s.roomy A=true
  ·rw [if_pos hro] at hst
   have hrv:r4=0:=by assumption
   have key:=W_stored h ht eL er ej ((p*42+12:Nat):Int) 16 r4 (⟨p,13,r0,r1,r2,r3,r4,r5,r6,r7,0⟩:Loc) (.inl ⟨rfl,hp,by show 13 < 42;decide⟩) (⟨_,_,_,_,_,_,_,hI.own (q':=s.buf A++[(16,r4)]) (pt2:=false) (k2:=true) (by rw [hrv];exact hI.pth.down) (by rw [←hme];exact (AtB.b13k (by first | assumption | rfl | (simp_all;done)))) (hpm) (by rw [hrv];exact fun _ _ _ _ h h2=>⟨h.snoc (show (16:Nat)≠19 by decide),fun e0=>(h2 e0).snoc (show (16:Nat)≠19 by decide)⟩) (fun _=>hkb rfl)⟩) (by rw [hx];rfl) (by rw [hx]) (.inl ⟨by decide,by rw [hx];rfl⟩)
   rw [show Loc.th 42 _=_ from th_of rfl] at key
   exact⟨_,_,_,hst,key⟩
  ·rw [if_neg hro] at hst
   exact⟨_,f,i,hst,flush h ht⟩
 case b13k g0=>
  have hi:=ins (i:=⟨1,4,0,0,0⟩) rfl
  rw [movI_plain (i:=⟨1,4,0,0,0⟩) rfl] at hi
  have hst:=st_set hi
  have key:=W_loc h ht eL er ej (⟨p,14,r0,r1,r2,r3,(0),r5,r6,r7,0⟩:Loc) (.inl ⟨rfl,hp,by show 14 < 42;decide⟩) (IB (k2:=true) hI (fun _=>hkb rfl) (by rw [←hme];exact (AtB.b14k (by first | assumption | rfl | (simp_all;done)) (by first | assumption | rfl | (simp_all;done))))) (by rw [hx];rfl) (by rw [hx]) (by rw [hx];rfl)
  rw [show Loc.th 42 _=_ from th_of rfl] at key
  exact⟨_,_,_,hst,key⟩
 case b14k g0 g1=>
  have hi:=ins (i:=⟨21,4,8,5,18⟩) rfl
  rw [movI_plain (i:=⟨21,4,8,5,18⟩) rfl] at hi
  by_cases hqe:q=[]
  ·subst hqe
   obtain⟨eσ,ec⟩:=Pa.nil_inv hpth
   subst eσ ec
   have hl:s.load A 18=s.mem.getD 18 0:=by rw [load_q hq];rfl
   have hcs:=st_cas hi (ad:=18) (addr_abs _ _ _ _ _) (by rw [hnm];decide) (by rw [empty_q hq];rfl)
   rw [hl] at hcs
   have r40:r4=0:=by assumption
   have r5m:r5=me:=by assumption
   subst r40;subst r5m
   by_cases how:s.mem.getD 18 0=0
   ·rw [if_pos (by exact how)] at hcs
    have m0:(s.mem.set 18 r5).getD 0 0=_:=(get_set (by rw [hnm];decide)).trans (if_neg (by decide))
    have m16:(s.mem.set 18 r5).getD 16 0=_:=(get_set (by rw [hnm];decide)).trans (if_neg (by decide))
    have m17:(s.mem.set 18 r5).getD 17 0=_:=(get_set (by rw [hnm];decide)).trans (if_neg (by decide))
    have m18:(s.mem.set 18 r5).getD 18 0=_:=(get_set (by rw [hnm];decide)).trans (if_pos rfl)
    have m19:(s.mem.set 18 r5).getD 19 0=_:=(get_set (by rw [hnm];decide)).trans (if_neg (by decide))
    rw [how] at hcs
    have hg0:∀ v,v < T→v≠A→g v=0:=fun v hv hv2=>by
     by_cases e:g v=0
     ·exact e
     ·have:=((hI.ho v hv hv2).hcw).2 (by omega)
      have:=meN_pos v
      omega
    have hb1:=hkb rfl
    have hm:m=true:=by
     cases m with
     | true=>rfl
     | false=>
      obtain⟨w,hw,hw2,hw3⟩:=(hI.mF rfl).2 hb1
      have:=hg0 w hw hw2
      omega
    subst hm
    have hI2:(X A T R).I (s.mem.set 18 r5) (upF f A ⟨p,15,r0,r1,r2,r3,0,r5,r6,r7,0⟩) s.buf:=by
     refine⟨true,5,5,_,false,false,g,by rw [hq];exact Pa.nil,(by show (5:Nat)≠2∧(5:Nat)≠3∧(5:Nat)≠4;decide),by rw [upF_self,←hme];exact AtB.b15s rfl rfl,?_,?_,?_,fun v hv hv2=>?_,by rw [m17];exact hI.b01,by rw [m17];exact hI.b2,by rw [m17];exact hI.b3,fun _=>⟨by rw [m17];exact hb1,rfl,(hI.mS rfl).2.2⟩,fun e=>absurd e (by decide),fun v hv hv2 e=>?_,fun e=>absurd e (by decide)⟩
     ·rw [m19,←hme];exact⟨fun e=>by omega,fun e=>by omega,fun _=>by have:=hmo.2.2 (.inl rfl);rw [←hv19] at this;exact this⟩
     ·rw [m18,hme];exact⟨fun _=>rfl,fun e=>by omega⟩
     ·rw [m16,hI.fa];rfl
     ·rw [m19,m18,m0,upF_ne _ _ hv2]
      have h0:=hg0 v hv hv2
      exact (hI.ho v hv hv2).other (by omega) ((hI.ho v hv hv2).out (by omega)).1 (fun _=>by rw [hme];exact meN_ne (fun e=>hv2 e.symm)) (fun e=>by omega)
     ·have:=hg0 v hv hv2;omega
    have key:=W_swapped h ht eL er ej ⟨4,0,((p*42+14:Nat):Int),18,r5,0,0,true⟩ rfl 18 r5 (by decide) (⟨p,15,r0,r1,r2,r3,0,r5,r6,r7,0⟩:Loc) (.inl ⟨rfl,hp,by show 15 < 42;decide⟩) hI2 (by rw [hx];rfl) (by rw [hx]) (by rw [hx];rfl)
    rw [show Loc.th 42 _=_ from th_of rfl] at key
    exact⟨_,_,_,hcs,key⟩
   ·rw [if_neg (by exact how)] at hcs
    have hg:=h.noted (t:=A) ⟨4,0,((p*42+14:Nat):Int),18,s.mem.getD 18 0,s.mem.getD 18 0,0,false⟩ (show (4:Int)≠7 by decide) (show (4:Int)≠13 by decide)
    have key:=W_loc hg ht eL er ej (⟨p,15,r0,r1,r2,r3,(s.mem.getD 18 0),r5,r6,r7,0⟩:Loc) (.inl ⟨rfl,hp,by show 15 < 42;decide⟩) (IB (k2:=true) hI (fun _=>hkb rfl) (by rw [←hme];exact (AtB.b15k (by first | assumption | rfl | exact how) (by first | assumption | rfl | exact how)))) (by rw [hx];rfl) (by rw [hx]) (by rw [hx];rfl)
    rw [show Loc.th 42 _=_ from th_of rfl] at key
    exact⟨_,_,_,hcs,key⟩
  ·exact⟨_,f,i,st_drain hi (by show drainsI 21;decide) (fun _=>by rw [addr_abs,hnm];decide) (empty_ne hq hqe),flush h ht⟩
 case b15k g0 g1=>
  have hi:=ins (i:=⟨15,4,0,0,13⟩) rfl
  rw [movI_jump (i:=⟨15,4,0,0,13⟩) rfl] at hi
  have hst:=st_some hi
  by_cases hz:r4≠0
  ·rw [if_pos (by exact hz)] at hst
   have key:=W_loc h ht eL er ej (⟨p,13,r0,r1,r2,r3,r4,r5,r6,r7,0⟩:Loc) (.inl ⟨rfl,hp,by show 13 < 42;decide⟩) (IB (k2:=true) hI (fun _=>hkb rfl) (by rw [←hme];exact (AtB.b13k (by first | assumption | (simp_all;done))))) (by rw [hx];rfl) (by rw [hx]) (by rw [hx];rfl)
   rw [show Loc.th 42 _=_ from th_jmp (by omega) (by decide) (by decide)] at key
   exact⟨_,_,_,hst,key⟩
  ·rw [if_neg (by exact hz)] at hst
   exfalso;simp_all
 case b15s g0 g1=>
  have hi:=ins (i:=⟨15,4,0,0,13⟩) rfl
  rw [movI_jump (i:=⟨15,4,0,0,13⟩) rfl] at hi
  have hst:=st_some hi
  by_cases hz:r4≠0
  ·rw [if_pos (by exact hz)] at hst
   exfalso;simp_all
  ·rw [if_neg (by exact hz)] at hst
   have key:=W_loc h ht eL er ej (⟨p,16,r0,r1,r2,r3,r4,r5,r6,r7,0⟩:Loc) (.inl ⟨rfl,hp,by show 16 < 42;decide⟩) (IB (k2:=false) hI (fun e=>absurd e (by decide)) (by rw [←hme];exact (AtB.b16s (by first | assumption | (simp_all;done))))) (by rw [hx];rfl) (by rw [hx]) (by rw [hx];rfl)
   rw [show Loc.th 42 _=_ from th_of rfl] at key
   exact⟨_,_,_,hst,key⟩
 case b16s g0=>
  have hi:=ins (i:=⟨17,5,8,0,19⟩) rfl
  rw [movI_plain (i:=⟨17,5,8,0,19⟩) rfl] at hi
  have hst:=st_store hi (ad:=19) (addr_abs _ _ _ _ _) (by rw [hnm];omega)
  by_cases hro:s.roomy A=true
  ·rw [if_pos hro] at hst
   have hrv:r5=me:=by assumption
   have hm:m=true:=by
    cases m with
    | true=>rfl
    | false=>exact absurd hok2 (by show ¬(5≤4);decide)
   subst hm
   have key:=W_stored h ht eL er ej ((p*42+16:Nat):Int) 19 r5 (⟨p,17,r0,r1,r2,r3,r4,r5,r6,r7,0⟩:Loc) (.inl ⟨rfl,hp,by show 17 < 42;decide⟩) (⟨_,_,_,_,_,_,_,hI.own (q':=s.buf A++[(19,r5)]) (pt2:=false) (k2:=false) (by rw [hrv,hme];exact Sth.trans hI.pth (.own .nil)) (by rw [←hme];exact (AtB.b17s )) (fun _=>rfl) (by rw [hrv,hme];exact fun v hv hv2 e=>absurd e ((hI.mS rfl).2.2 v hv hv2).2.2) (fun e=>absurd e (by decide))⟩) (by rw [hx];rfl) (by rw [hx]) (.inl ⟨by decide,by rw [hx];rfl⟩)
   rw [show Loc.th 42 _=_ from th_of rfl] at key
   exact⟨_,_,_,hst,key⟩
  ·rw [if_neg hro] at hst
   exact⟨_,f,i,hst,flush h ht⟩
 case b16t g0=>
  have hi:=ins (i:=⟨17,5,8,0,19⟩) rfl
  rw [movI_plain (i:=⟨17,5,8,0,19⟩) rfl] at hi
  have hst:=st_store hi (ad:=19) (addr_abs _ _ _ _ _) (by rw [hnm];omega)
  by_cases hro:s.roomy A=true
  ·rw [if_pos hro] at hst
   have hrv:r5=me:=by assumption
   have hm:m=false:=by
    cases m with
    | false=>rfl
    | true=>exact absurd (hpm rfl) (by decide)
   subst hm
   have key:=W_stored h ht eL er ej ((p*42+16:Nat):Int) 19 r5 (⟨p,17,r0,r1,r2,r3,r4,r5,r6,r7,0⟩:Loc) (.inl ⟨rfl,hp,by show 17 < 42;decide⟩) (⟨_,_,_,_,_,_,_,hI.own (q':=s.buf A++[(19,r5)]) (pt2:=false) (k2:=false) (by rw [hrv,hme];exact Pth.trans hI.pth (.own .nil)) (by rw [←hme];exact (AtB.b17f )) (fun e=>absurd e (by decide)) (by rw [hrv,hme];exact fun _ _ _ _ h h2=>⟨h,h2⟩) (fun e=>absurd e (by decide))⟩) (by rw [hx];rfl) (by rw [hx]) (.inl ⟨by decide,by rw [hx];rfl⟩)
   rw [show Loc.th 42 _=_ from th_of rfl] at key
   exact⟨_,_,_,hst,key⟩
  ·rw [if_neg hro] at hst
   exact⟨_,f,i,hst,flush h ht⟩
 case b17f  =>
  have hi:=ins (i:=⟨1,7,0,0,0⟩) rfl
  rw [movI_plain (i:=⟨1,7,0,0,0⟩) rfl] at hi
  have hst:=st_set hi
  have key:=W_loc h ht eL er ej (⟨p,18,r0,r1,r2,r3,r4,r5,r6,(0),0⟩:Loc) (.inl ⟨rfl,hp,by show 18 < 42;decide⟩) (IB (k2:=false) hI (fun e=>absurd e (by decide)) (by rw [←hme];exact (AtB.b18f (by first | assumption | rfl | (simp_all;done))))) (by rw [hx];rfl) (by rw [hx]) (by rw [hx];rfl)
  rw [show Loc.th 42 _=_ from th_of rfl] at key
  exact⟨_,_,_,hst,key⟩
 case b17s  =>
  have hi:=ins (i:=⟨1,7,0,0,0⟩) rfl
  rw [movI_plain (i:=⟨1,7,0,0,0⟩) rfl] at hi
  have hst:=st_set hi
  have key:=W_loc h ht eL er ej (⟨p,18,r0,r1,r2,r3,r4,r5,r6,(0),0⟩:Loc) (.inl ⟨rfl,hp,by show 18 < 42;decide⟩) (IB (k2:=false) hI (fun e=>absurd e (by decide)) (by rw [←hme];exact (AtB.b18s (by first | assumption | rfl | (simp_all;done))))) (by rw [hx];rfl) (by rw [hx]) (by rw [hx];rfl)
  rw [show Loc.th 42 _=_ from th_of rfl] at key
  exact⟨_,_,_,hst,key⟩
 case b18f g0=>
  have hi:=ins (i:=⟨27,7,0,0,1⟩) rfl
  rw [movI_plain (i:=⟨27,7,0,0,1⟩) rfl] at hi
  have hmk:=st_mark hi
  have r70:r7=0:=by assumption
  subst r70
  have key:=W_enters h ht eL er ej ((p*42+18:Nat):Int) (⟨p,19,r0,r1,r2,r3,r4,r5,r6,0,0⟩:Loc) (.inl ⟨rfl,hp,by show 19 < 42;decide⟩) (IB (k2:=false) hI (fun e=>absurd e (by decide)) (by rw [←hme];exact (AtB.b19f ))) (fun v hv=>by
   by_cases e2:v=A
   ·subst e2;rw [er,hx];rfl
   ·have hv5:g v≠5:=fun e=>by have:=(hI.free hv e2 e).2.2.1;omega
    rw [(X_O e2).2.1];exact ((hI.ho v hv e2).out hv5).2) rfl (by rw [hx]) (by rw [hx];rfl)
  rw [show Loc.th 42 _=_ from th_of rfl] at key
  exact⟨_,_,_,hmk,key⟩
 case b18s g0=>
  have hi:=ins (i:=⟨27,7,0,0,1⟩) rfl
  rw [movI_plain (i:=⟨27,7,0,0,1⟩) rfl] at hi
  have hmk:=st_mark hi
  have r70:r7=0:=by assumption
  subst r70
  have key:=W_enters h ht eL er ej ((p*42+18:Nat):Int) (⟨p,19,r0,r1,r2,r3,r4,r5,r6,0,0⟩:Loc) (.inl ⟨rfl,hp,by show 19 < 42;decide⟩) (IB (k2:=false) hI (fun e=>absurd e (by decide)) (by rw [←hme];exact (AtB.b19s ))) (fun v hv=>by
   by_cases e2:v=A
   ·subst e2;rw [er,hx];rfl
   ·have hv5:g v≠5:=fun e=>by have:=(hI.free hv e2 e).2.2.1;omega
    rw [(X_O e2).2.1];exact ((hI.ho v hv e2).out hv5).2) rfl (by rw [hx]) (by rw [hx];rfl)
  rw [show Loc.th 42 _=_ from th_of rfl] at key
  exact⟨_,_,_,hmk,key⟩
 case b19f  =>
  have hi:=ins (i:=⟨16,1,8,0,0⟩) rfl
  rw [movI_plain (i:=⟨16,1,8,0,0⟩) rfl] at hi
  have hst:=st_load hi (ad:=0) (addr_abs _ _ _ _ _) (by rw [hnm];omega)
  have hl:s.load A 0=c:=by rw [load_q hq];assumption
  rw [hl] at hst
  have hg:=h.noted (t:=A) ⟨1,0,((p*42+19:Nat):Int),0,c,0,0,false⟩ (show (1:Int)≠7 by decide) (show (1:Int)≠13 by decide)
  have key:=W_loc hg ht eL er ej (⟨p,20,r0,c,r2,r3,r4,r5,r6,r7,0⟩:Loc) (.inl ⟨rfl,hp,by show 20 < 42;decide⟩) (IB (k2:=false) hI (fun e=>absurd e (by decide)) (by rw [←hme];exact (AtB.b20f (by first | assumption | rfl | omega | (intro e;dsimp only at e;omega))))) (by rw [hx];rfl) (by rw [hx]) (by rw [hx];rfl)
  rw [show Loc.th 42 _=_ from th_of rfl] at key
  exact⟨_,_,_,hst,key⟩
 case b19s  =>
  have hi:=ins (i:=⟨16,1,8,0,0⟩) rfl
  rw [movI_plain (i:=⟨16,1,8,0,0⟩) rfl] at hi
  have hst:=st_load hi (ad:=0) (addr_abs _ _ _ _ _) (by rw [hnm];omega)
  have hl:s.load A 0=c:=by rw [load_q hq];assumption
  rw [hl] at hst
  have hg:=h.noted (t:=A) ⟨1,0,((p*42+19:Nat):Int),0,c,0,0,false⟩ (show (1:Int)≠7 by decide) (show (1:Int)≠13 by decide)
  have key:=W_loc hg ht eL er ej (⟨p,20,r0,c,r2,r3,r4,r5,r6,r7,0⟩:Loc) (.inl ⟨rfl,hp,by show 20 < 42;decide⟩) (IB (k2:=false) hI (fun e=>absurd e (by decide)) (by rw [←hme];exact (AtB.b20s (by first | assumption | rfl | omega | (intro e;dsimp only at e;omega))))) (by rw [hx];rfl) (by rw [hx]) (by rw [hx];rfl)
  rw [show Loc.th 42 _=_ from th_of rfl] at key
  exact⟨_,_,_,hst,key⟩
 case b20f g0=>
  have hi:=ins (i:=⟨1,2,0,0,1⟩) rfl
  rw [movI_plain (i:=⟨1,2,0,0,1⟩) rfl] at hi
  have hst:=st_set hi
  have key:=W_loc h ht eL er ej (⟨p,21,r0,r1,(1),r3,r4,r5,r6,r7,0⟩:Loc) (.inl ⟨rfl,hp,by show 21 < 42;decide⟩) (IB (k2:=false) hI (fun e=>absurd e (by decide)) (by rw [←hme];exact (AtB.b21f (by first | assumption | rfl | (simp_all;done)) (by first | assumption | rfl | (simp_all;done))))) (by rw [hx];rfl) (by rw [hx]) (by rw [hx];rfl)
  rw [show Loc.th 42 _=_ from th_of rfl] at key
  exact⟨_,_,_,hst,key⟩
 case b20s g0=>
  have hi:=ins (i:=⟨1,2,0,0,1⟩) rfl
  rw [movI_plain (i:=⟨1,2,0,0,1⟩) rfl] at hi
  have hst:=st_set hi
  have key:=W_loc h ht eL er ej (⟨p,21,r0,r1,(1),r3,r4,r5,r6,r7,0⟩:Loc) (.inl ⟨rfl,hp,by show 21 < 42;decide⟩) (IB (k2:=false) hI (fun e=>absurd e (by decide)) (by rw [←hme];exact (AtB.b21s (by first | assumption | rfl | (simp_all;done)) (by first | assumption | rfl | (simp_all;done))))) (by rw [hx];rfl) (by rw [hx]) (by rw [hx];rfl)
  rw [show Loc.th 42 _=_ from th_of rfl] at key
  exact⟨_,_,_,hst,key⟩
 case b21f g0 g1=>
  have hi:=ins (i:=⟨3,1,1,2,0⟩) rfl
  rw [movI_plain (i:=⟨3,1,1,2,0⟩) rfl] at hi
  have hst:=st_add hi
  have key:=W_loc h ht eL er ej (⟨p,22,r0,(wr32 (r1+r2)),r2,r3,r4,r5,r6,r7,0⟩:Loc) (.inl ⟨rfl,hp,by show 22 < 42;decide⟩) (IB (k2:=false) hI (fun e=>absurd e (by decide)) (by rw [←hme];exact (AtB.b22f (by first | assumption | rfl | (simp_all;done))))) (by rw [hx];rfl) (by rw [hx]) (by rw [hx];rfl)
  rw [show Loc.th 42 _=_ from th_of rfl] at key
  exact⟨_,_,_,hst,key⟩
 case b21s g0 g1=>
  have hi:=ins (i:=⟨3,1,1,2,0⟩) rfl
  rw [movI_plain (i:=⟨3,1,1,2,0⟩) rfl] at hi
  have hst:=st_add hi
  have key:=W_loc h ht eL er ej (⟨p,22,r0,(wr32 (r1+r2)),r2,r3,r4,r5,r6,r7,0⟩:Loc) (.inl ⟨rfl,hp,by show 22 < 42;decide⟩) (IB (k2:=false) hI (fun e=>absurd e (by decide)) (by rw [←hme];exact (AtB.b22s (by first | assumption | rfl | (simp_all;done))))) (by rw [hx];rfl) (by rw [hx]) (by rw [hx];rfl)
  rw [show Loc.th 42 _=_ from th_of rfl] at key
  exact⟨_,_,_,hst,key⟩
 case b22f g0=>
  have hi:=ins (i:=⟨17,1,8,0,0⟩) rfl
  rw [movI_plain (i:=⟨17,1,8,0,0⟩) rfl] at hi
  have hst:=st_store hi (ad:=0) (addr_abs _ _ _ _ _) (by rw [hnm];omega)
  by_cases hro:s.roomy A=true
  ·rw [if_pos hro] at hst
   have hrv:r1=(wr32 (c+1)):=by assumption
   have hm:m=false:=by
    cases m with
    | false=>rfl
    | true=>exact absurd hok2 (by show ¬(2≠2∧2≠3∧2≠4);decide)
   subst hm
   have key:=W_stored h ht eL er ej ((p*42+22:Nat):Int) 0 r1 (⟨p,23,r0,r1,r2,r3,r4,r5,r6,r7,0⟩:Loc) (.inl ⟨rfl,hp,by show 23 < 42;decide⟩) (⟨_,_,_,_,_,_,_,hI.own (q':=s.buf A++[(0,r1)]) (pt2:=false) (k2:=false) (by rw [hrv];exact Pth.trans hI.pth (.add .nil)) (by rw [←hme];exact (AtB.b23f )) (fun e=>absurd e (by decide)) (by rw [hrv];exact fun _ _ _ _ h h2=>⟨h.snoc (show (0:Nat)≠19 by decide),fun e0=>(h2 e0).snoc (show (0:Nat)≠19 by decide)⟩) (fun e=>absurd e (by decide))⟩) (by rw [hx];rfl) (by rw [hx]) (.inr ⟨rfl,by rw [hx],rfl⟩)
   rw [show Loc.th 42 _=_ from th_of rfl] at key
   exact⟨_,_,_,hst,key⟩
  ·rw [if_neg hro] at hst
   exact⟨_,f,i,hst,flush h ht⟩
 case b22s g0=>
  have hi:=ins (i:=⟨17,1,8,0,0⟩) rfl
  rw [movI_plain (i:=⟨17,1,8,0,0⟩) rfl] at hi
  have hst:=st_store hi (ad:=0) (addr_abs _ _ _ _ _) (by rw [hnm];omega)
  by_cases hro:s.roomy A=true
  ·rw [if_pos hro] at hst
   have hrv:r1=(wr32 (c+1)):=by assumption
   have hm:m=true:=by
    cases m with
    | true=>rfl
    | false=>exact absurd hok2 (by show ¬(6≤4);decide)
   subst hm
   have key:=W_stored h ht eL er ej ((p*42+22:Nat):Int) 0 r1 (⟨p,23,r0,r1,r2,r3,r4,r5,r6,r7,0⟩:Loc) (.inl ⟨rfl,hp,by show 23 < 42;decide⟩) (⟨_,_,_,_,_,_,_,hI.own (q':=s.buf A++[(0,r1)]) (pt2:=false) (k2:=false) (by rw [hrv];exact Sth.trans hI.pth (.add .nil)) (by rw [←hme];exact (AtB.b23s )) (fun _=>rfl) (by rw [hrv];exact fun v hv hv2 e=>absurd e ((hI.mS rfl).2.2 v hv hv2).2.2) (fun e=>absurd e (by decide))⟩) (by rw [hx];rfl) (by rw [hx]) (.inr ⟨rfl,by rw [hx],rfl⟩)
   rw [show Loc.th 42 _=_ from th_of rfl] at key
   exact⟨_,_,_,hst,key⟩
  ·rw [if_neg hro] at hst
   exact⟨_,f,i,hst,flush h ht⟩
 case b23f  =>
  have hi:=ins (i:=⟨27,7,0,0,2⟩) rfl
  rw [movI_plain (i:=⟨27,7,0,0,2⟩) rfl] at hi
  have hmk:=st_mark hi
  have key:=W_leaves h ht eL er ej ((p*42+23:Nat):Int) r7 (⟨p,24,r0,r1,r2,r3,r4,r5,r6,r7,0⟩:Loc) (.inl ⟨rfl,hp,by show 24 < 42;decide⟩) (IB (k2:=false) hI (fun e=>absurd e (by decide)) (by rw [←hme];exact (AtB.b24f ))) (by rw [hx];rfl) rfl (by rw [hx]) (by rw [hx];rfl)
  rw [show Loc.th 42 _=_ from th_of rfl] at key
  exact⟨_,_,_,hmk,key⟩
 case b23s  =>
  have hi:=ins (i:=⟨27,7,0,0,2⟩) rfl
  rw [movI_plain (i:=⟨27,7,0,0,2⟩) rfl] at hi
  have hmk:=st_mark hi
  have key:=W_leaves h ht eL er ej ((p*42+23:Nat):Int) r7 (⟨p,24,r0,r1,r2,r3,r4,r5,r6,r7,0⟩:Loc) (.inl ⟨rfl,hp,by show 24 < 42;decide⟩) (IB (k2:=false) hI (fun e=>absurd e (by decide)) (by rw [←hme];exact (AtB.b24s ))) (by rw [hx];rfl) rfl (by rw [hx]) (by rw [hx];rfl)
  rw [show Loc.th 42 _=_ from th_of rfl] at key
  exact⟨_,_,_,hmk,key⟩
 case b24f  =>
  have hi:=ins (i:=⟨16,4,8,0,19⟩) rfl
  rw [movI_plain (i:=⟨16,4,8,0,19⟩) rfl] at hi
  have hst:=st_load hi (ad:=19) (addr_abs _ _ _ _ _) (by rw [hnm];omega)
  have hl:s.load A 19=v19:=by rw [load_q hq];assumption
  rw [hl] at hst
  have hg:=h.noted (t:=A) ⟨1,0,((p*42+24:Nat):Int),19,v19,0,0,false⟩ (show (1:Int)≠7 by decide) (show (1:Int)≠13 by decide)
  have hv:v19=me:=hmo.1 (by decide)
  have key:=W_loc hg ht eL er ej (⟨p,25,r0,r1,r2,r3,v19,r5,r6,r7,0⟩:Loc) (.inl ⟨rfl,hp,by show 25 < 42;decide⟩) (IB (k2:=false) hI (fun e=>absurd e (by decide)) (by rw [←hme];exact (AtB.b25f (by first | assumption | rfl)))) (by rw [hx];rfl) (by rw [hx]) (by rw [hx];rfl)
  rw [show Loc.th 42 _=_ from th_of rfl] at key
  exact⟨_,_,_,hst,key⟩
 case b24s  =>
  have hi:=ins (i:=⟨16,4,8,0,19⟩) rfl
  rw [movI_plain (i:=⟨16,4,8,0,19⟩) rfl] at hi
  have hst:=st_load hi (ad:=19) (addr_abs _ _ _ _ _) (by rw [hnm];omega)
  have hl:s.load A 19=v19:=by rw [load_q hq];assumption
  rw [hl] at hst
  have hg:=h.noted (t:=A) ⟨1,0,((p*42+24:Nat):Int),19,v19,0,0,false⟩ (show (1:Int)≠7 by decide) (show (1:Int)≠13 by decide)
  have hv:v19=me:=hmo.1 (by decide)
  have key:=W_loc hg ht eL er ej (⟨p,25,r0,r1,r2,r3,v19,r5,r6,r7,0⟩:Loc) (.inl ⟨rfl,hp,by show 25 < 42;decide⟩) (IB (k2:=false) hI (fun e=>absurd e (by decide)) (by rw [←hme];exact (AtB.b25s (by first | assumption | rfl)))) (by rw [hx];rfl) (by rw [hx]) (by rw [hx];rfl)
  rw [show Loc.th 42 _=_ from th_of rfl] at key
  exact⟨_,_,_,hst,key⟩
 case b25f g0=>
  have hi:=ins (i:=⟨1,5,0,0,me⟩) rfl
  rw [movI_plain (i:=⟨1,5,0,0,me⟩) rfl] at hi
  have hst:=st_set hi
  have key:=W_loc h ht eL er ej (⟨p,26,r0,r1,r2,r3,r4,(me),r6,r7,0⟩:Loc) (.inl ⟨rfl,hp,by show 26 < 42;decide⟩) (IB (k2:=false) hI (fun e=>absurd e (by decide)) (by rw [←hme];exact (AtB.b26f (by first | assumption | rfl | (simp_all;done)) (by first | assumption | rfl | (simp_all;done))))) (by rw [hx];rfl) (by rw [hx]) (by rw [hx];rfl)
  rw [show Loc.th 42 _=_ from th_of rfl] at key
  exact⟨_,_,_,hst,key⟩
 case b25s g0=>
  have hi:=ins (i:=⟨1,5,0,0,me⟩) rfl
  rw [movI_plain (i:=⟨1,5,0,0,me⟩) rfl] at hi
  have hst:=st_set hi
  have key:=W_loc h ht eL er ej (⟨p,26,r0,r1,r2,r3,r4,(me),r6,r7,0⟩:Loc) (.inl ⟨rfl,hp,by show 26 < 42;decide⟩) (IB (k2:=false) hI (fun e=>absurd e (by decide)) (by rw [←hme];exact (AtB.b26s (by first | assumption | rfl | (simp_all;done)) (by first | assumption | rfl | (simp_all;done))))) (by rw [hx];rfl) (by rw [hx]) (by rw [hx];rfl)
  rw [show Loc.th 42 _=_ from th_of rfl] at key
  exact⟨_,_,_,hst,key⟩
 case b26f g0 g1=>
  have hi:=ins (i:=⟨12,6,4,5,0⟩) rfl
  rw [movI_plain (i:=⟨12,6,4,5,0⟩) rfl] at hi
  have hst:=st_same hi
  have hv:(if r4=r5 then (1:Int) else 0)=1:=by simp_all
  have key:=W_loc h ht eL er ej (⟨p,27,r0,r1,r2,r3,r4,r5,(if r4=r5 then (1:Int) else 0),r7,0⟩:Loc) (.inl ⟨rfl,hp,by show 27 < 42;decide⟩) (IB (k2:=false) hI (fun e=>absurd e (by decide)) (by rw [←hme];exact (AtB.b27f (by first | assumption | exact hv | (rw [hv];decide)) (by first | assumption | exact hv | (rw [hv];decide))))) (by rw [hx];rfl) (by rw [hx]) (by rw [hx];rfl)
  rw [show Loc.th 42 _=_ from th_of rfl] at key
  exact⟨_,_,_,hst,key⟩
 case b26s g0 g1=>
  have hi:=ins (i:=⟨12,6,4,5,0⟩) rfl
  rw [movI_plain (i:=⟨12,6,4,5,0⟩) rfl] at hi
  have hst:=st_same hi
  have hv:(if r4=r5 then (1:Int) else 0)=1:=by simp_all
  have key:=W_loc h ht eL er ej (⟨p,27,r0,r1,r2,r3,r4,r5,(if r4=r5 then (1:Int) else 0),r7,0⟩:Loc) (.inl ⟨rfl,hp,by show 27 < 42;decide⟩) (IB (k2:=false) hI (fun e=>absurd e (by decide)) (by rw [←hme];exact (AtB.b27s (by first | assumption | exact hv | (rw [hv];decide)) (by first | assumption | exact hv | (rw [hv];decide))))) (by rw [hx];rfl) (by rw [hx]) (by rw [hx];rfl)
  rw [show Loc.th 42 _=_ from th_of rfl] at key
  exact⟨_,_,_,hst,key⟩
 case b27f g0 g1=>
  have hi:=ins (i:=⟨15,6,0,0,30⟩) rfl
  rw [movI_jump (i:=⟨15,6,0,0,30⟩) rfl] at hi
  have hst:=st_some hi
  by_cases hz:r6≠0
  ·rw [if_pos (by exact hz)] at hst
   have key:=W_loc h ht eL er ej (⟨p,30,r0,r1,r2,r3,r4,r5,r6,r7,0⟩:Loc) (.inl ⟨rfl,hp,by show 30 < 42;decide⟩) (IB (k2:=false) hI (fun e=>absurd e (by decide)) (by rw [←hme];exact (AtB.b30f (by first | assumption | (simp_all;done))))) (by rw [hx];rfl) (by rw [hx]) (by rw [hx];rfl)
   rw [show Loc.th 42 _=_ from th_jmp (by omega) (by decide) (by decide)] at key
   exact⟨_,_,_,hst,key⟩
  ·rw [if_neg (by exact hz)] at hst
   exfalso;simp_all
 case b27s g0 g1=>
  have hi:=ins (i:=⟨15,6,0,0,30⟩) rfl
  rw [movI_jump (i:=⟨15,6,0,0,30⟩) rfl] at hi
  have hst:=st_some hi
  by_cases hz:r6≠0
  ·rw [if_pos (by exact hz)] at hst
   have key:=W_loc h ht eL er ej (⟨p,30,r0,r1,r2,r3,r4,r5,r6,r7,0⟩:Loc) (.inl ⟨rfl,hp,by show 30 < 42;decide⟩) (IB (k2:=false) hI (fun e=>absurd e (by decide)) (by rw [←hme];exact (AtB.b30s (by first | assumption | (simp_all;done))))) (by rw [hx];rfl) (by rw [hx]) (by rw [hx];rfl)
   rw [show Loc.th 42 _=_ from th_jmp (by omega) (by decide) (by decide)] at key
   exact⟨_,_,_,hst,key⟩
  ·rw [if_neg (by exact hz)] at hst
   exfalso;simp_all
 case b30f g0=>
  have hi:=ins (i:=⟨1,4,0,0,0⟩) rfl
  rw [movI_plain (i:=⟨1,4,0,0,0⟩) rfl] at hi
  have hst:=st_set hi
  have key:=W_loc h ht eL er ej (⟨p,31,r0,r1,r2,r3,(0),r5,r6,r7,0⟩:Loc) (.inl ⟨rfl,hp,by show 31 < 42;decide⟩) (IB (k2:=false) hI (fun e=>absurd e (by decide)) (by rw [←hme];exact (AtB.b31f (by first | assumption | rfl | (simp_all;done)) (by first | assumption | rfl | (simp_all;done))))) (by rw [hx];rfl) (by rw [hx]) (by rw [hx];rfl)
  rw [show Loc.th 42 _=_ from th_of rfl] at key
  exact⟨_,_,_,hst,key⟩
 case b30s g0=>
  have hi:=ins (i:=⟨1,4,0,0,0⟩) rfl
  rw [movI_plain (i:=⟨1,4,0,0,0⟩) rfl] at hi
  have hst:=st_set hi
  have key:=W_loc h ht eL er ej (⟨p,31,r0,r1,r2,r3,(0),r5,r6,r7,0⟩:Loc) (.inl ⟨rfl,hp,by show 31 < 42;decide⟩) (IB (k2:=false) hI (fun e=>absurd e (by decide)) (by rw [←hme];exact (AtB.b31s (by first | assumption | rfl | (simp_all;done)) (by first | assumption | rfl | (simp_all;done))))) (by rw [hx];rfl) (by rw [hx]) (by rw [hx];rfl)
  rw [show Loc.th 42 _=_ from th_of rfl] at key
  exact⟨_,_,_,hst,key⟩
 case b31f g0 g1=>
  have hi:=ins (i:=⟨17,4,8,0,19⟩) rfl
  rw [movI_plain (i:=⟨17,4,8,0,19⟩) rfl] at hi
  have hst:=st_store hi (ad:=19) (addr_abs _ _ _ _ _) (by rw [hnm];omega)
  by_cases hro:s.roomy A=true
  ·rw [if_pos hro] at hst
   have hrv:r4=0:=by assumption
   have hm:m=false:=by
    cases m with
    | false=>rfl
    | true=>exact absurd hok2 (by show ¬(3≠2∧3≠3∧3≠4);decide)
   subst hm
   have key:=W_stored h ht eL er ej ((p*42+31:Nat):Int) 19 r4 (⟨p,32,r0,r1,r2,r3,r4,r5,r6,r7,0⟩:Loc) (.inl ⟨rfl,hp,by show 32 < 42;decide⟩) (⟨_,_,_,_,_,_,_,hI.own (q':=s.buf A++[(19,r4)]) (pt2:=false) (k2:=false) (by rw [hrv];exact Pth.trans hI.pth (.rel .nil)) (by rw [←hme];exact (AtB.b32f (by first | assumption | rfl | (simp_all;done)))) (fun e=>absurd e (by decide)) (by rw [hrv];exact fun v hv hv2 e2 ha hn=>⟨AmT.none (Pth.am_in hI.pth (by decide) ha hn (.inr (.inl rfl))),fun e0=>absurd (Pth.free hI.pth (hn e0) (.inl e0) 0).2 (by decide)⟩) (fun e=>absurd e (by decide))⟩) (by rw [hx];rfl) (by rw [hx]) (.inl ⟨by decide,by rw [hx];rfl⟩)
   rw [show Loc.th 42 _=_ from th_of rfl] at key
   exact⟨_,_,_,hst,key⟩
  ·rw [if_neg hro] at hst
   exact⟨_,f,i,hst,flush h ht⟩
 case b31s g0 g1=>
  have hi:=ins (i:=⟨17,4,8,0,19⟩) rfl
  rw [movI_plain (i:=⟨17,4,8,0,19⟩) rfl] at hi
  have hst:=st_store hi (ad:=19) (addr_abs _ _ _ _ _) (by rw [hnm];omega)
  by_cases hro:s.roomy A=true
  ·rw [if_pos hro] at hst
   have hrv:r4=0:=by assumption
   have hm:m=true:=by
    cases m with
    | true=>rfl
    | false=>exact absurd hok2 (by show ¬(7≤4);decide)
   subst hm
   have key:=W_stored h ht eL er ej ((p*42+31:Nat):Int) 19 r4 (⟨p,32,r0,r1,r2,r3,r4,r5,r6,r7,0⟩:Loc) (.inl ⟨rfl,hp,by show 32 < 42;decide⟩) (⟨_,_,_,_,_,_,_,hI.own (q':=s.buf A++[(19,r4)]) (pt2:=false) (k2:=false) (by rw [hrv];exact Sth.trans hI.pth (.rel .nil)) (by rw [←hme];exact (AtB.b32s (by first | assumption | rfl | (simp_all;done)))) (fun _=>rfl) (by rw [hrv];exact fun v hv hv2 e=>absurd e ((hI.mS rfl).2.2 v hv hv2).2.2) (fun e=>absurd e (by decide))⟩) (by rw [hx];rfl) (by rw [hx]) (.inl ⟨by decide,by rw [hx];rfl⟩)
   rw [show Loc.th 42 _=_ from th_of rfl] at key
   exact⟨_,_,_,hst,key⟩
  ·rw [if_neg hro] at hst
   exact⟨_,f,i,hst,flush h ht⟩
 case b32f g0=>
  have hi:=ins (i:=⟨16,4,8,0,18⟩) rfl
  rw [movI_plain (i:=⟨16,4,8,0,18⟩) rfl] at hi
  have hst:=st_load hi (ad:=18) (addr_abs _ _ _ _ _) (by rw [hnm];omega)
  have hl:s.load A 18=v18:=by rw [load_q hq];assumption
  rw [hl] at hst
  have hg:=h.noted (t:=A) ⟨1,0,((p*42+32:Nat):Int),18,v18,0,0,false⟩ (show (1:Int)≠7 by decide) (show (1:Int)≠13 by decide)
  have hv:v18≠me:=hmc.2 (by decide)
  have key:=W_loc hg ht eL er ej (⟨p,33,r0,r1,r2,r3,v18,r5,r6,r7,0⟩:Loc) (.inl ⟨rfl,hp,by show 33 < 42;decide⟩) (IB (k2:=false) hI (fun e=>absurd e (by decide)) (by rw [←hme];exact (AtB.b33f (by first | assumption | rfl) (by first | assumption | rfl)))) (by rw [hx];rfl) (by rw [hx]) (by rw [hx];rfl)
  rw [show Loc.th 42 _=_ from th_of rfl] at key
  exact⟨_,_,_,hst,key⟩
 case b32s g0=>
  have hi:=ins (i:=⟨16,4,8,0,18⟩) rfl
  rw [movI_plain (i:=⟨16,4,8,0,18⟩) rfl] at hi
  have hst:=st_load hi (ad:=18) (addr_abs _ _ _ _ _) (by rw [hnm];omega)
  have hl:s.load A 18=v18:=by rw [load_q hq];assumption
  rw [hl] at hst
  have hg:=h.noted (t:=A) ⟨1,0,((p*42+32:Nat):Int),18,v18,0,0,false⟩ (show (1:Int)≠7 by decide) (show (1:Int)≠13 by decide)
  have hv:v18=me:=hmc.1 (by decide)
  have key:=W_loc hg ht eL er ej (⟨p,33,r0,r1,r2,r3,v18,r5,r6,r7,0⟩:Loc) (.inl ⟨rfl,hp,by show 33 < 42;decide⟩) (IB (k2:=false) hI (fun e=>absurd e (by decide)) (by rw [←hme];exact (AtB.b33s (by first | assumption | rfl) (by first | assumption | rfl)))) (by rw [hx];rfl) (by rw [hx]) (by rw [hx];rfl)
  rw [show Loc.th 42 _=_ from th_of rfl] at key
  exact⟨_,_,_,hst,key⟩
 case b33f g0 g1=>
  have hi:=ins (i:=⟨12,6,4,5,0⟩) rfl
  rw [movI_plain (i:=⟨12,6,4,5,0⟩) rfl] at hi
  have hst:=st_same hi
  have hv:(if r4=r5 then (1:Int) else 0)=0:=by simp_all
  have key:=W_loc h ht eL er ej (⟨p,34,r0,r1,r2,r3,r4,r5,(if r4=r5 then (1:Int) else 0),r7,0⟩:Loc) (.inl ⟨rfl,hp,by show 34 < 42;decide⟩) (IB (k2:=false) hI (fun e=>absurd e (by decide)) (by rw [←hme];exact (AtB.b34f (by first | assumption | exact hv | (rw [hv];decide))))) (by rw [hx];rfl) (by rw [hx]) (by rw [hx];rfl)
  rw [show Loc.th 42 _=_ from th_of rfl] at key
  exact⟨_,_,_,hst,key⟩
 case b33s g0 g1=>
  have hi:=ins (i:=⟨12,6,4,5,0⟩) rfl
  rw [movI_plain (i:=⟨12,6,4,5,0⟩) rfl] at hi
  have hst:=st_same hi
  have hv:(if r4=r5 then (1:Int) else 0)=1:=by simp_all
  have key:=W_loc h ht eL er ej (⟨p,34,r0,r1,r2,r3,r4,r5,(if r4=r5 then (1:Int) else 0),r7,0⟩:Loc) (.inl ⟨rfl,hp,by show 34 < 42;decide⟩) (IB (k2:=false) hI (fun e=>absurd e (by decide)) (by rw [←hme];exact (AtB.b34s (by first | assumption | exact hv | (rw [hv];decide))))) (by rw [hx];rfl) (by rw [hx]) (by rw [hx];rfl)
  rw [show Loc.th 42 _=_ from th_of rfl] at key
  exact⟨_,_,_,hst,key⟩
 case b34f g0=>
  have hi:=ins (i:=⟨15,6,0,0,38⟩) rfl
  rw [movI_jump (i:=⟨15,6,0,0,38⟩) rfl] at hi
  have hst:=st_some hi
  by_cases hz:r6≠0
  ·rw [if_pos (by exact hz)] at hst
   exfalso;simp_all
  ·rw [if_neg (by exact hz)] at hst
   have key:=W_loc h ht eL er ej (⟨p,35,r0,r1,r2,r3,r4,r5,r6,r7,0⟩:Loc) (.inl ⟨rfl,hp,by show 35 < 42;decide⟩) (IB (k2:=false) hI (fun e=>absurd e (by decide)) (by rw [←hme];exact (AtB.b35f ))) (by rw [hx];rfl) (by rw [hx]) (by rw [hx];rfl)
   rw [show Loc.th 42 _=_ from th_of rfl] at key
   exact⟨_,_,_,hst,key⟩
 case b34s g0=>
  have hi:=ins (i:=⟨15,6,0,0,38⟩) rfl
  rw [movI_jump (i:=⟨15,6,0,0,38⟩) rfl] at hi
  have hst:=st_some hi
  by_cases hz:r6≠0
  ·rw [if_pos (by exact hz)] at hst
   have key:=W_loc h ht eL er ej (⟨p,38,r0,r1,r2,r3,r4,r5,r6,r7,0⟩:Loc) (.inl ⟨rfl,hp,by show 38 < 42;decide⟩) (IB (k2:=false) hI (fun e=>absurd e (by decide)) (by rw [←hme];exact (AtB.b38s ))) (by rw [hx];rfl) (by rw [hx]) (by rw [hx];rfl)
   rw [show Loc.th 42 _=_ from th_jmp (by omega) (by decide) (by decide)] at key
   exact⟨_,_,_,hst,key⟩
  ·rw [if_neg (by exact hz)] at hst
   exfalso;simp_all
 case b35f  =>
  have hi:=ins (i:=⟨1,4,0,0,0⟩) rfl
  rw [movI_plain (i:=⟨1,4,0,0,0⟩) rfl] at hi
  have hst:=st_set hi
  have key:=W_loc h ht eL er ej (⟨p,36,r0,r1,r2,r3,(0),r5,r6,r7,0⟩:Loc) (.inl ⟨rfl,hp,by show 36 < 42;decide⟩) (IB (k2:=false) hI (fun e=>absurd e (by decide)) (by rw [←hme];exact (AtB.b36f (by first | assumption | rfl | (simp_all;done))))) (by rw [hx];rfl) (by rw [hx]) (by rw [hx];rfl)
  rw [show Loc.th 42 _=_ from th_of rfl] at key
  exact⟨_,_,_,hst,key⟩
 case b36f g0=>
  have hi:=ins (i:=⟨17,4,8,0,16⟩) rfl
  rw [movI_plain (i:=⟨17,4,8,0,16⟩) rfl] at hi
  have hst:=st_store hi (ad:=16) (addr_abs _ _ _ _ _) (by rw [hnm];omega)
  by_cases hro:s.roomy A=true
  ·rw [if_pos hro] at hst
   have hrv:r4=0:=by assumption
   have hm:m=false:=by
    cases m with
    | false=>rfl
    | true=>exact absurd hok2 (by show ¬(4≠2∧4≠3∧4≠4);decide)
   subst hm
   have key:=W_stored h ht eL er ej ((p*42+36:Nat):Int) 16 r4 (⟨p,37,r0,r1,r2,r3,r4,r5,r6,r7,0⟩:Loc) (.inl ⟨rfl,hp,by show 37 < 42;decide⟩) (⟨_,_,_,_,_,_,_,hI.own (q':=s.buf A++[(16,r4)]) (pt2:=false) (k2:=false) (by rw [hrv];exact Pth.trans hI.pth (.off .nil)) (by rw [←hme];exact (AtB.b37 )) (fun e=>absurd e (by decide)) (by rw [hrv];exact fun _ _ _ _ h h2=>⟨h.snoc (show (16:Nat)≠19 by decide),fun e0=>(h2 e0).snoc (show (16:Nat)≠19 by decide)⟩) (fun e=>absurd e (by decide))⟩) (by rw [hx];rfl) (by rw [hx]) (.inl ⟨by decide,by rw [hx];rfl⟩)
   rw [show Loc.th 42 _=_ from th_of rfl] at key
   exact⟨_,_,_,hst,key⟩
  ·rw [if_neg hro] at hst
   exact⟨_,f,i,hst,flush h ht⟩
 case b37  =>
  have hi:=ins (i:=⟨13,0,0,0,40⟩) rfl
  rw [movI_jump (i:=⟨13,0,0,0,40⟩) rfl] at hi
  have hst:=st_jump hi
  have key:=W_loc h ht eL er ej (⟨p,40,r0,r1,r2,r3,r4,r5,r6,r7,0⟩:Loc) (.inl ⟨rfl,hp,by show 40 < 42;decide⟩) (IB (k2:=false) hI (fun e=>absurd e (by decide)) (by rw [←hme];exact (AtB.b40 ))) (by rw [hx];rfl) (by rw [hx]) (by rw [hx];rfl)
  rw [show Loc.th 42 _=_ from th_jmp (by omega) (by decide) (by decide)] at key
  exact⟨_,_,_,hst,key⟩
 case b38s  =>
  have hi:=ins (i:=⟨1,4,0,0,0⟩) rfl
  rw [movI_plain (i:=⟨1,4,0,0,0⟩) rfl] at hi
  have hst:=st_set hi
  have key:=W_loc h ht eL er ej (⟨p,39,r0,r1,r2,r3,(0),r5,r6,r7,0⟩:Loc) (.inl ⟨rfl,hp,by show 39 < 42;decide⟩) (IB (k2:=false) hI (fun e=>absurd e (by decide)) (by rw [←hme];exact (AtB.b39s (by first | assumption | rfl | (simp_all;done))))) (by rw [hx];rfl) (by rw [hx]) (by rw [hx];rfl)
  rw [show Loc.th 42 _=_ from th_of rfl] at key
  exact⟨_,_,_,hst,key⟩
 case b39s g0=>
  have hi:=ins (i:=⟨17,4,8,0,18⟩) rfl
  rw [movI_plain (i:=⟨17,4,8,0,18⟩) rfl] at hi
  have hst:=st_store hi (ad:=18) (addr_abs _ _ _ _ _) (by rw [hnm];omega)
  by_cases hro:s.roomy A=true
  ·rw [if_pos hro] at hst
   have hrv:r4=0:=by assumption
   have hm:m=true:=by
    cases m with
    | true=>rfl
    | false=>exact absurd hok2 (by show ¬(8≤4);decide)
   subst hm
   have key:=W_stored h ht eL er ej ((p*42+39:Nat):Int) 18 r4 (⟨p,40,r0,r1,r2,r3,r4,r5,r6,r7,0⟩:Loc) (.inl ⟨rfl,hp,by show 40 < 42;decide⟩) (⟨_,_,_,_,_,_,_,hI.own (q':=s.buf A++[(18,r4)]) (pt2:=false) (k2:=false) (by rw [hrv];exact Sth.trans hI.pth (.off .nil)) (by rw [←hme];exact (AtB.b40 )) (fun _=>rfl) (by rw [hrv];exact fun v hv hv2 e=>absurd e ((hI.mS rfl).2.2 v hv hv2).2.2) (fun e=>absurd e (by decide))⟩) (by rw [hx];rfl) (by rw [hx]) (.inl ⟨by decide,by rw [hx];rfl⟩)
   rw [show Loc.th 42 _=_ from th_of rfl] at key
   exact⟨_,_,_,hst,key⟩
  ·rw [if_neg hro] at hst
   exact⟨_,f,i,hst,flush h ht⟩
 case b40  =>
  have hi:=ins (i:=⟨1,7,0,0,0⟩) rfl
  rw [movI_plain (i:=⟨1,7,0,0,0⟩) rfl] at hi
  have hst:=st_set hi
  have key:=W_loc h ht eL er ej (⟨p,41,r0,r1,r2,r3,r4,r5,r6,(0),0⟩:Loc) (.inl ⟨rfl,hp,by show 41 < 42;decide⟩) (IB (k2:=false) hI (fun e=>absurd e (by decide)) (by rw [←hme];exact (AtB.b41 (by first | assumption | rfl | (simp_all;done))))) (by rw [hx];rfl) (by rw [hx]) (by rw [hx];rfl)
  rw [show Loc.th 42 _=_ from th_of rfl] at key
  exact⟨_,_,_,hst,key⟩
 case b41 g0=>
  have hi:=ins (i:=⟨27,7,0,0,3⟩) rfl
  rw [movI_plain (i:=⟨27,7,0,0,3⟩) rfl] at hi
  have hmk:=st_mark hi
  have hg:=h.marked (t:=A) ⟨7,0,((p*42+41:Nat):Int),0,r7,0,3,false⟩ rfl (.inr ⟨rfl,by assumption⟩)
  have key:=W_again hg ht eL er ej (⟨p+1,0,r0,r1,r2,r3,r4,r5,r6,r7,0⟩:Loc) (by
   by_cases e:p+1 < R
   ·exact .inl ⟨rfl,e,by show 0 < 42;decide⟩
   ·exact .inr ⟨by show p+1=R;omega,rfl,.inl rfl⟩) (IB (k2:=false) hI (fun e=>absurd e (by decide)) (by rw [←hme];exact (AtB.b0 ))) (by rw [hx];rfl) (by rw [hx]) (by rw [hx];show 22 < 41;decide) rfl
  rw [show Loc.th 42 _=_ from th_last rfl] at key
  exact⟨_,_,_,hmk,key⟩
set_option maxHeartbeats 8000000 in
theorem stepO(h:(X A T R).Inv s f i)(ht:u < T)(hne:u≠A)(hAT:A < T)(hR:R≤100)(hc:codes[u]? = some (codeO R u))(h0:(f u).st=0)(hp:(f u).p < R)(hj:(f u).j < 37):∃ s' f' i',s.stepT codes u=some s'∧(X A T R).Inv s' f' i':=by
 obtain⟨eL,er,ej⟩:=X_O (T:=T) (R:=R) hne
 obtain⟨x,hx⟩:∃ x,f u=x:=⟨_,rfl⟩
 obtain⟨m,σ,σ',c,pt,k,g,hI⟩:=h.I
 have hat:=hI.ho u ht hne
 have hs:=h.hs _ ht
 have hnm:s.mem.length=20:=h.nm
 rw [hx] at hat hs h0 hp hj
 rw [eL] at hs
 obtain⟨p,j,r0,r1,r2,r3,r4,r5,r6,r7,st⟩:=x
 dsimp only at hat h0 hp hj
 subst h0
 obtain⟨me,hme⟩:∃ me:Int,me=meN u:=⟨_,rfl⟩
 have hme0:0 < me:=by have:=meN_pos u;omega
 have ins:=fun {i:Ins} (hi:(baseO me)[j]? = some i)=>at_ins (L:=37) (i:=i) hc hs (codeO_get R u p j hp hj) (by show (baseO (meN u))[j]? = _;rw [←hme];exact hi)
 generalize hq:s.buf u=q at hat
 generalize hgu:g u=gu at hat
 rw [←hme] at hat
 cases hat
 case o0H04 g0 g1=>
  have hi:=ins (i:=⟨27,7,0,0,0⟩) rfl
  rw [movI_plain (i:=⟨27,7,0,0,0⟩) rfl] at hi
  have hmk:=st_mark hi
  have hg:=h.marked (t:=u) ⟨7,0,((p*37+0:Nat):Int),0,r7,0,0,false⟩ rfl (.inl rfl)
  have key:=W_loc hg ht eL er ej (⟨p,1,r0,r1,r2,r3,r4,r5,r6,r7,0⟩:Loc) (.inl ⟨rfl,hp,by show 1 < 37;decide⟩) (IO hI ht hne (show AtO (meN u) (s.mem.getD 19 0) (s.mem.getD 18 0) (s.mem.getD 0 0) (g u) _ _ _ _ _ _ _ (s.buf u) from by rw [←hme,hq,hgu];exact (AtO.o1H04 (by first | assumption | rfl | (simp_all;done)) (by first | assumption | rfl | (simp_all;done))))) (by rw [hx];rfl) (by rw [hx]) (by rw [hx];rfl)
  rw [show Loc.th 37 _=_ from th_of rfl] at key
  exact⟨_,_,_,hmk,key⟩
 case o0H14 g0 g1 g2=>
  have hi:=ins (i:=⟨27,7,0,0,0⟩) rfl
  rw [movI_plain (i:=⟨27,7,0,0,0⟩) rfl] at hi
  have hmk:=st_mark hi
  have hg:=h.marked (t:=u) ⟨7,0,((p*37+0:Nat):Int),0,r7,0,0,false⟩ rfl (.inl rfl)
  have key:=W_loc hg ht eL er ej (⟨p,1,r0,r1,r2,r3,r4,r5,r6,r7,0⟩:Loc) (.inl ⟨rfl,hp,by show 1 < 37;decide⟩) (IO hI ht hne (show AtO (meN u) (s.mem.getD 19 0) (s.mem.getD 18 0) (s.mem.getD 0 0) (g u) _ _ _ _ _ _ _ (s.buf u) from by rw [←hme,hq,hgu];exact (AtO.o1H14 (by first | assumption | rfl | (simp_all;done)) (by first | assumption | rfl | (simp_all;done)) (by first | assumption | rfl | (simp_all;done))))) (by rw [hx];rfl) (by rw [hx]) (by rw [hx];rfl)
  rw [show Loc.th 37 _=_ from th_of rfl] at key
  exact⟨_,_,_,hmk,key⟩
 case o0H24 g0 g1 g2=>
  have hi:=ins (i:=⟨27,7,0,0,0⟩) rfl
  rw [movI_plain (i:=⟨27,7,0,0,0⟩) rfl] at hi
  have hmk:=st_mark hi
  have hg:=h.marked (t:=u) ⟨7,0,((p*37+0:Nat):Int),0,r7,0,0,false⟩ rfl (.inl rfl)
  have key:=W_loc hg ht eL er ej (⟨p,1,r0,r1,r2,r3,r4,r5,r6,r7,0⟩:Loc) (.inl ⟨rfl,hp,by show 1 < 37;decide⟩) (IO hI ht hne (show AtO (meN u) (s.mem.getD 19 0) (s.mem.getD 18 0) (s.mem.getD 0 0) (g u) _ _ _ _ _ _ _ (s.buf u) from by rw [←hme,hq,hgu];exact (AtO.o1H24 (by first | assumption | rfl | (simp_all;done)) (by first | assumption | rfl | (simp_all;done)) (by first | assumption | rfl | (simp_all;done))))) (by rw [hx];rfl) (by rw [hx]) (by rw [hx];rfl)
  rw [show Loc.th 37 _=_ from th_of rfl] at key
  exact⟨_,_,_,hmk,key⟩
 case o0H34 g0 g1 g2=>
  have hi:=ins (i:=⟨27,7,0,0,0⟩) rfl
  rw [movI_plain (i:=⟨27,7,0,0,0⟩) rfl] at hi
  have hmk:=st_mark hi
  have hg:=h.marked (t:=u) ⟨7,0,((p*37+0:Nat):Int),0,r7,0,0,false⟩ rfl (.inl rfl)
  have key:=W_loc hg ht eL er ej (⟨p,1,r0,r1,r2,r3,r4,r5,r6,r7,0⟩:Loc) (.inl ⟨rfl,hp,by show 1 < 37;decide⟩) (IO hI ht hne (show AtO (meN u) (s.mem.getD 19 0) (s.mem.getD 18 0) (s.mem.getD 0 0) (g u) _ _ _ _ _ _ _ (s.buf u) from by rw [←hme,hq,hgu];exact (AtO.o1H34 (by first | assumption | rfl | (simp_all;done)) (by first | assumption | rfl | (simp_all;done)) (by first | assumption | rfl | (simp_all;done))))) (by rw [hx];rfl) (by rw [hx]) (by rw [hx];rfl)
  rw [show Loc.th 37 _=_ from th_of rfl] at key
  exact⟨_,_,_,hmk,key⟩
 case o0H44 g0 g1 g2=>
  have hi:=ins (i:=⟨27,7,0,0,0⟩) rfl
  rw [movI_plain (i:=⟨27,7,0,0,0⟩) rfl] at hi
  have hmk:=st_mark hi
  have hg:=h.marked (t:=u) ⟨7,0,((p*37+0:Nat):Int),0,r7,0,0,false⟩ rfl (.inl rfl)
  have key:=W_loc hg ht eL er ej (⟨p,1,r0,r1,r2,r3,r4,r5,r6,r7,0⟩:Loc) (.inl ⟨rfl,hp,by show 1 < 37;decide⟩) (IO hI ht hne (show AtO (meN u) (s.mem.getD 19 0) (s.mem.getD 18 0) (s.mem.getD 0 0) (g u) _ _ _ _ _ _ _ (s.buf u) from by rw [←hme,hq,hgu];exact (AtO.o1H44 (by first | assumption | rfl | (simp_all;done)) (by first | assumption | rfl | (simp_all;done)) (by first | assumption | rfl | (simp_all;done))))) (by rw [hx];rfl) (by rw [hx]) (by rw [hx];rfl)
  rw [show Loc.th 37 _=_ from th_of rfl] at key
  exact⟨_,_,_,hmk,key⟩
 case o1H04 g0 g1=>
  have hi:=ins (i:=⟨16,4,8,0,19⟩) rfl
  rw [movI_plain (i:=⟨16,4,8,0,19⟩) rfl] at hi
  have hst:=st_load hi (ad:=19) (addr_abs _ _ _ _ _) (by rw [hnm];omega)
  have hl:s.load u 19=(0:Int):=by rw [load_q hq];rfl
  rw [hl] at hst
  have hg:=h.noted (t:=u) ⟨1,0,((p*37+1:Nat):Int),19,(0:Int),0,0,false⟩ (show (1:Int)≠7 by decide) (show (1:Int)≠13 by decide)
  have key:=W_loc hg ht eL er ej (⟨p,2,r0,r1,r2,r3,(0:Int),r5,r6,r7,0⟩:Loc) (.inl ⟨rfl,hp,by show 2 < 37;decide⟩) (IO hI ht hne (show AtO (meN u) (s.mem.getD 19 0) (s.mem.getD 18 0) (s.mem.getD 0 0) (g u) _ _ _ _ _ _ _ (s.buf u) from by rw [←hme,hq,hgu];exact (AtO.o2H04 (by first | assumption | rfl | omega | (intro e;dsimp only at e;omega)) (by first | assumption | rfl | omega | (intro e;dsimp only at e;omega)) (by first | assumption | rfl | omega | (intro e;dsimp only at e;omega))))) (by rw [hx];rfl) (by rw [hx]) (by rw [hx];rfl)
  rw [show Loc.th 37 _=_ from th_of rfl] at key
  exact⟨_,_,_,hst,key⟩
 case o1H14 g0 g1 g2=>
  have hi:=ins (i:=⟨16,4,8,0,19⟩) rfl
  rw [movI_plain (i:=⟨16,4,8,0,19⟩) rfl] at hi
  have hst:=st_load hi (ad:=19) (addr_abs _ _ _ _ _) (by rw [hnm];omega)
  have hl:s.load u 19=(0:Int):=by rw [load_q hq];rfl
  rw [hl] at hst
  have hg:=h.noted (t:=u) ⟨1,0,((p*37+1:Nat):Int),19,(0:Int),0,0,false⟩ (show (1:Int)≠7 by decide) (show (1:Int)≠13 by decide)
  have key:=W_loc hg ht eL er ej (⟨p,2,r0,r1,r2,r3,(0:Int),r5,r6,r7,0⟩:Loc) (.inl ⟨rfl,hp,by show 2 < 37;decide⟩) (IO hI ht hne (show AtO (meN u) (s.mem.getD 19 0) (s.mem.getD 18 0) (s.mem.getD 0 0) (g u) _ _ _ _ _ _ _ (s.buf u) from by rw [←hme,hq,hgu];exact (AtO.o2H14 (by first | assumption | rfl | omega | (intro e;dsimp only at e;omega)) (by first | assumption | rfl | omega | (intro e;dsimp only at e;omega)) (by first | assumption | rfl | omega | (intro e;dsimp only at e;omega)) (by first | assumption | rfl | omega | (intro e;dsimp only at e;omega))))) (by rw [hx];rfl) (by rw [hx]) (by rw [hx];rfl)
  rw [show Loc.th 37 _=_ from th_of rfl] at key
  exact⟨_,_,_,hst,key⟩
 case o1H24 g0 g1 g2=>
  have hi:=ins (i:=⟨16,4,8,0,19⟩) rfl
  rw [movI_plain (i:=⟨16,4,8,0,19⟩) rfl] at hi
  have hst:=st_load hi (ad:=19) (addr_abs _ _ _ _ _) (by rw [hnm];omega)
  have hl:s.load u 19=(0:Int):=by rw [load_q hq];rfl
  rw [hl] at hst
  have hg:=h.noted (t:=u) ⟨1,0,((p*37+1:Nat):Int),19,(0:Int),0,0,false⟩ (show (1:Int)≠7 by decide) (show (1:Int)≠13 by decide)
  have key:=W_loc hg ht eL er ej (⟨p,2,r0,r1,r2,r3,(0:Int),r5,r6,r7,0⟩:Loc) (.inl ⟨rfl,hp,by show 2 < 37;decide⟩) (IO hI ht hne (show AtO (meN u) (s.mem.getD 19 0) (s.mem.getD 18 0) (s.mem.getD 0 0) (g u) _ _ _ _ _ _ _ (s.buf u) from by rw [←hme,hq,hgu];exact (AtO.o2H24 (by first | assumption | rfl | omega | (intro e;dsimp only at e;omega)) (by first | assumption | rfl | omega | (intro e;dsimp only at e;omega)) (by first | assumption | rfl | omega | (intro e;dsimp only at e;omega)) (by first | assumption | rfl | omega | (intro e;dsimp only at e;omega))))) (by rw [hx];rfl) (by rw [hx]) (by rw [hx];rfl)
  rw [show Loc.th 37 _=_ from th_of rfl] at key
  exact⟨_,_,_,hst,key⟩
 case o1H34 g0 g1 g2=>
  have hi:=ins (i:=⟨16,4,8,0,19⟩) rfl
  rw [movI_plain (i:=⟨16,4,8,0,19⟩) rfl] at hi
  have hst:=st_load hi (ad:=19) (addr_abs _ _ _ _ _) (by rw [hnm];omega)
  have hl:s.load u 19=(s.mem.getD 19 0):=by rw [load_q hq];rfl
  rw [hl] at hst
  have hg:=h.noted (t:=u) ⟨1,0,((p*37+1:Nat):Int),19,(s.mem.getD 19 0),0,0,false⟩ (show (1:Int)≠7 by decide) (show (1:Int)≠13 by decide)
  have key:=W_loc hg ht eL er ej (⟨p,2,r0,r1,r2,r3,(s.mem.getD 19 0),r5,r6,r7,0⟩:Loc) (.inl ⟨rfl,hp,by show 2 < 37;decide⟩) (IO hI ht hne (show AtO (meN u) (s.mem.getD 19 0) (s.mem.getD 18 0) (s.mem.getD 0 0) (g u) _ _ _ _ _ _ _ (s.buf u) from by rw [←hme,hq,hgu];exact (AtO.o2H34 (by first | assumption | rfl | omega | (intro e;dsimp only at e;omega)) (by first | assumption | rfl | omega | (intro e;dsimp only at e;omega)) (by first | assumption | rfl | omega | (intro e;dsimp only at e;omega)) (by first | assumption | rfl | omega | (intro e;dsimp only at e;omega))))) (by rw [hx];rfl) (by rw [hx]) (by rw [hx];rfl)
  rw [show Loc.th 37 _=_ from th_of rfl] at key
  exact⟨_,_,_,hst,key⟩
 case o1H44 g0 g1 g2=>
  have hi:=ins (i:=⟨16,4,8,0,19⟩) rfl
  rw [movI_plain (i:=⟨16,4,8,0,19⟩) rfl] at hi
  have hst:=st_load hi (ad:=19) (addr_abs _ _ _ _ _) (by rw [hnm];omega)
  have hl:s.load u 19=(s.mem.getD 19 0):=by rw [load_q hq];rfl
  rw [hl] at hst
  have hg:=h.noted (t:=u) ⟨1,0,((p*37+1:Nat):Int),19,(s.mem.getD 19 0),0,0,false⟩ (show (1:Int)≠7 by decide) (show (1:Int)≠13 by decide)
  have key:=W_loc hg ht eL er ej (⟨p,2,r0,r1,r2,r3,(s.mem.getD 19 0),r5,r6,r7,0⟩:Loc) (.inl ⟨rfl,hp,by show 2 < 37;decide⟩) (IO hI ht hne (show AtO (meN u) (s.mem.getD 19 0) (s.mem.getD 18 0) (s.mem.getD 0 0) (g u) _ _ _ _ _ _ _ (s.buf u) from by rw [←hme,hq,hgu];exact (AtO.o2H44 (by first | assumption | rfl | omega | (intro e;dsimp only at e;omega)) (by first | assumption | rfl | omega | (intro e;dsimp only at e;omega)) (by first | assumption | rfl | omega | (intro e;dsimp only at e;omega)) (by first | assumption | rfl | omega | (intro e;dsimp only at e;omega))))) (by rw [hx];rfl) (by rw [hx]) (by rw [hx];rfl)
  rw [show Loc.th 37 _=_ from th_of rfl] at key
  exact⟨_,_,_,hst,key⟩
 case o2H04 g0 g1 g2=>
  have hi:=ins (i:=⟨1,5,0,0,me⟩) rfl
  rw [movI_plain (i:=⟨1,5,0,0,me⟩) rfl] at hi
  have hst:=st_set hi
  have key:=W_loc h ht eL er ej (⟨p,3,r0,r1,r2,r3,r4,(me),r6,r7,0⟩:Loc) (.inl ⟨rfl,hp,by show 3 < 37;decide⟩) (IO hI ht hne (show AtO (meN u) (s.mem.getD 19 0) (s.mem.getD 18 0) (s.mem.getD 0 0) (g u) _ _ _ _ _ _ _ (s.buf u) from by rw [←hme,hq,hgu];exact (AtO.o3H04 (by first | assumption | rfl | (simp_all;done)) (by first | assumption | rfl | (simp_all;done)) (by first | assumption | rfl | (simp_all;done)) (by first | assumption | rfl | (simp_all;done))))) (by rw [hx];rfl) (by rw [hx]) (by rw [hx];rfl)
  rw [show Loc.th 37 _=_ from th_of rfl] at key
  exact⟨_,_,_,hst,key⟩
 case o2H14 g0 g1 g2 g3=>
  have hi:=ins (i:=⟨1,5,0,0,me⟩) rfl
  rw [movI_plain (i:=⟨1,5,0,0,me⟩) rfl] at hi
  have hst:=st_set hi
  have key:=W_loc h ht eL er ej (⟨p,3,r0,r1,r2,r3,r4,(me),r6,r7,0⟩:Loc) (.inl ⟨rfl,hp,by show 3 < 37;decide⟩) (IO hI ht hne (show AtO (meN u) (s.mem.getD 19 0) (s.mem.getD 18 0) (s.mem.getD 0 0) (g u) _ _ _ _ _ _ _ (s.buf u) from by rw [←hme,hq,hgu];exact (AtO.o3H14 (by first | assumption | rfl | (simp_all;done)) (by first | assumption | rfl | (simp_all;done)) (by first | assumption | rfl | (simp_all;done)) (by first | assumption | rfl | (simp_all;done)) (by first | assumption | rfl | (simp_all;done))))) (by rw [hx];rfl) (by rw [hx]) (by rw [hx];rfl)
  rw [show Loc.th 37 _=_ from th_of rfl] at key
  exact⟨_,_,_,hst,key⟩
 case o2H24 g0 g1 g2 g3=>
  have hi:=ins (i:=⟨1,5,0,0,me⟩) rfl
  rw [movI_plain (i:=⟨1,5,0,0,me⟩) rfl] at hi
  have hst:=st_set hi
  have key:=W_loc h ht eL er ej (⟨p,3,r0,r1,r2,r3,r4,(me),r6,r7,0⟩:Loc) (.inl ⟨rfl,hp,by show 3 < 37;decide⟩) (IO hI ht hne (show AtO (meN u) (s.mem.getD 19 0) (s.mem.getD 18 0) (s.mem.getD 0 0) (g u) _ _ _ _ _ _ _ (s.buf u) from by rw [←hme,hq,hgu];exact (AtO.o3H24 (by first | assumption | rfl | (simp_all;done)) (by first | assumption | rfl | (simp_all;done)) (by first | assumption | rfl | (simp_all;done)) (by first | assumption | rfl | (simp_all;done)) (by first | assumption | rfl | (simp_all;done))))) (by rw [hx];rfl) (by rw [hx]) (by rw [hx];rfl)
  rw [show Loc.th 37 _=_ from th_of rfl] at key
  exact⟨_,_,_,hst,key⟩
 case o2H34 g0 g1 g2 g3=>
  have hi:=ins (i:=⟨1,5,0,0,me⟩) rfl
  rw [movI_plain (i:=⟨1,5,0,0,me⟩) rfl] at hi
  have hst:=st_set hi
  have key:=W_loc h ht eL er ej (⟨p,3,r0,r1,r2,r3,r4,(me),r6,r7,0⟩:Loc) (.inl ⟨rfl,hp,by show 3 < 37;decide⟩) (IO hI ht hne (show AtO (meN u) (s.mem.getD 19 0) (s.mem.getD 18 0) (s.mem.getD 0 0) (g u) _ _ _ _ _ _ _ (s.buf u) from by rw [←hme,hq,hgu];exact (AtO.o3H34 (by first | assumption | rfl | (simp_all;done)) (by first | assumption | rfl | (simp_all;done)) (by first | assumption | rfl | (simp_all;done)) (by first | assumption | rfl | (simp_all;done)) (by first | assumption | rfl | (simp_all;done))))) (by rw [hx];rfl) (by rw [hx]) (by rw [hx];rfl)
  rw [show Loc.th 37 _=_ from th_of rfl] at key
  exact⟨_,_,_,hst,key⟩
 case o2H44 g0 g1 g2 g3=>
  have hi:=ins (i:=⟨1,5,0,0,me⟩) rfl
  rw [movI_plain (i:=⟨1,5,0,0,me⟩) rfl] at hi
  have hst:=st_set hi
  have key:=W_loc h ht eL er ej (⟨p,3,r0,r1,r2,r3,r4,(me),r6,r7,0⟩:Loc) (.inl ⟨rfl,hp,by show 3 < 37;decide⟩) (IO hI ht hne (show AtO (meN u) (s.mem.getD 19 0) (s.mem.getD 18 0) (s.mem.getD 0 0) (g u) _ _ _ _ _ _ _ (s.buf u) from by rw [←hme,hq,hgu];exact (AtO.o3H44 (by first | assumption | rfl | (simp_all;done)) (by first | assumption | rfl | (simp_all;done)) (by first | assumption | rfl | (simp_all;done)) (by first | assumption | rfl | (simp_all;done)) (by first | assumption | rfl | (simp_all;done))))) (by rw [hx];rfl) (by rw [hx]) (by rw [hx];rfl)
  rw [show Loc.th 37 _=_ from th_of rfl] at key
  exact⟨_,_,_,hst,key⟩
 case o3H04 g0 g1 g2 g3=>
  have hi:=ins (i:=⟨12,6,4,5,0⟩) rfl
  rw [movI_plain (i:=⟨12,6,4,5,0⟩) rfl] at hi
  have hst:=st_same hi
  have hv:(if r4=r5 then (1:Int) else 0)=0:=by simp_all
  have key:=W_loc h ht eL er ej (⟨p,4,r0,r1,r2,r3,r4,r5,(if r4=r5 then (1:Int) else 0),r7,0⟩:Loc) (.inl ⟨rfl,hp,by show 4 < 37;decide⟩) (IO hI ht hne (show AtO (meN u) (s.mem.getD 19 0) (s.mem.getD 18 0) (s.mem.getD 0 0) (g u) _ _ _ _ _ _ _ (s.buf u) from by rw [←hme,hq,hgu];exact (AtO.o4H04 (by first | assumption | exact hv | (rw [hv];decide)) (by first | assumption | exact hv | (rw [hv];decide)) (by first | assumption | exact hv | (rw [hv];decide)) (by first | assumption | exact hv | (rw [hv];decide))))) (by rw [hx];rfl) (by rw [hx]) (by rw [hx];rfl)
  rw [show Loc.th 37 _=_ from th_of rfl] at key
  exact⟨_,_,_,hst,key⟩
 case o3H14 g0 g1 g2 g3 g4=>
  have hi:=ins (i:=⟨12,6,4,5,0⟩) rfl
  rw [movI_plain (i:=⟨12,6,4,5,0⟩) rfl] at hi
  have hst:=st_same hi
  have hv:(if r4=r5 then (1:Int) else 0)=0:=by simp_all
  have key:=W_loc h ht eL er ej (⟨p,4,r0,r1,r2,r3,r4,r5,(if r4=r5 then (1:Int) else 0),r7,0⟩:Loc) (.inl ⟨rfl,hp,by show 4 < 37;decide⟩) (IO hI ht hne (show AtO (meN u) (s.mem.getD 19 0) (s.mem.getD 18 0) (s.mem.getD 0 0) (g u) _ _ _ _ _ _ _ (s.buf u) from by rw [←hme,hq,hgu];exact (AtO.o4H14 (by first | assumption | exact hv | (rw [hv];decide)) (by first | assumption | exact hv | (rw [hv];decide)) (by first | assumption | exact hv | (rw [hv];decide)) (by first | assumption | exact hv | (rw [hv];decide)) (by first | assumption | exact hv | (rw [hv];decide))))) (by rw [hx];rfl) (by rw [hx]) (by rw [hx];rfl)
  rw [show Loc.th 37 _=_ from th_of rfl] at key
  exact⟨_,_,_,hst,key⟩
 case o3H24 g0 g1 g2 g3 g4=>
  have hi:=ins (i:=⟨12,6,4,5,0⟩) rfl
  rw [movI_plain (i:=⟨12,6,4,5,0⟩) rfl] at hi
  have hst:=st_same hi
  have hv:(if r4=r5 then (1:Int) else 0)=0:=by simp_all
  have key:=W_loc h ht eL er ej (⟨p,4,r0,r1,r2,r3,r4,r5,(if r4=r5 then (1:Int) else 0),r7,0⟩:Loc) (.inl ⟨rfl,hp,by show 4 < 37;decide⟩) (IO hI ht hne (show AtO (meN u) (s.mem.getD 19 0) (s.mem.getD 18 0) (s.mem.getD 0 0) (g u) _ _ _ _ _ _ _ (s.buf u) from by rw [←hme,hq,hgu];exact (AtO.o4H24 (by first | assumption | exact hv | (rw [hv];decide)) (by first | assumption | exact hv | (rw [hv];decide)) (by first | assumption | exact hv | (rw [hv];decide)) (by first | assumption | exact hv | (rw [hv];decide)) (by first | assumption | exact hv | (rw [hv];decide))))) (by rw [hx];rfl) (by rw [hx]) (by rw [hx];rfl)
  rw [show Loc.th 37 _=_ from th_of rfl] at key
  exact⟨_,_,_,hst,key⟩
 case o3H34 g0 g1 g2 g3 g4=>
  have hi:=ins (i:=⟨12,6,4,5,0⟩) rfl
  rw [movI_plain (i:=⟨12,6,4,5,0⟩) rfl] at hi
  have hst:=st_same hi
  have hv:(if r4=r5 then (1:Int) else 0)=0:=by simp_all
  have key:=W_loc h ht eL er ej (⟨p,4,r0,r1,r2,r3,r4,r5,(if r4=r5 then (1:Int) else 0),r7,0⟩:Loc) (.inl ⟨rfl,hp,by show 4 < 37;decide⟩) (IO hI ht hne (show AtO (meN u) (s.mem.getD 19 0) (s.mem.getD 18 0) (s.mem.getD 0 0) (g u) _ _ _ _ _ _ _ (s.buf u) from by rw [←hme,hq,hgu];exact (AtO.o4H34 (by first | assumption | exact hv | (rw [hv];decide)) (by first | assumption | exact hv | (rw [hv];decide)) (by first | assumption | exact hv | (rw [hv];decide)) (by first | assumption | exact hv | (rw [hv];decide)) (by first | assumption | exact hv | (rw [hv];decide))))) (by rw [hx];rfl) (by rw [hx]) (by rw [hx];rfl)
  rw [show Loc.th 37 _=_ from th_of rfl] at key
  exact⟨_,_,_,hst,key⟩
 case o3H44 g0 g1 g2 g3 g4=>
  have hi:=ins (i:=⟨12,6,4,5,0⟩) rfl
  rw [movI_plain (i:=⟨12,6,4,5,0⟩) rfl] at hi
  have hst:=st_same hi
  have hv:(if r4=r5 then (1:Int) else 0)=0:=by simp_all
  have key:=W_loc h ht eL er ej (⟨p,4,r0,r1,r2,r3,r4,r5,(if r4=r5 then (1:Int) else 0),r7,0⟩:Loc) (.inl ⟨rfl,hp,by show 4 < 37;decide⟩) (IO hI ht hne (show AtO (meN u) (s.mem.getD 19 0) (s.mem.getD 18 0) (s.mem.getD 0 0) (g u) _ _ _ _ _ _ _ (s.buf u) from by rw [←hme,hq,hgu];exact (AtO.o4H44 (by first | assumption | exact hv | (rw [hv];decide)) (by first | assumption | exact hv | (rw [hv];decide)) (by first | assumption | exact hv | (rw [hv];decide)) (by first | assumption | exact hv | (rw [hv];decide)) (by first | assumption | exact hv | (rw [hv];decide))))) (by rw [hx];rfl) (by rw [hx]) (by rw [hx];rfl)
  rw [show Loc.th 37 _=_ from th_of rfl] at key
  exact⟨_,_,_,hst,key⟩
 case o4H04 g0 g1 g2 g3=>
  have hi:=ins (i:=⟨14,6,0,0,7⟩) rfl
  rw [movI_jump (i:=⟨14,6,0,0,7⟩) rfl] at hi
  have hst:=st_zero hi
  by_cases hz:r6=0
  ·rw [if_pos (by exact hz)] at hst
   have key:=W_loc h ht eL er ej (⟨p,7,r0,r1,r2,r3,r4,r5,r6,r7,0⟩:Loc) (.inl ⟨rfl,hp,by show 7 < 37;decide⟩) (IO hI ht hne (show AtO (meN u) (s.mem.getD 19 0) (s.mem.getD 18 0) (s.mem.getD 0 0) (g u) _ _ _ _ _ _ _ (s.buf u) from by rw [←hme,hq,hgu];exact (AtO.o7H04 (by first | assumption | (simp_all;done)) (by first | assumption | (simp_all;done)) (by first | assumption | (simp_all;done))))) (by rw [hx];rfl) (by rw [hx]) (by rw [hx];rfl)
   rw [show Loc.th 37 _=_ from th_jmp (by omega) (by decide) (by decide)] at key
   exact⟨_,_,_,hst,key⟩
  ·rw [if_neg (by exact hz)] at hst
   exfalso;simp_all
 case o4H14 g0 g1 g2 g3 g4=>
  have hi:=ins (i:=⟨14,6,0,0,7⟩) rfl
  rw [movI_jump (i:=⟨14,6,0,0,7⟩) rfl] at hi
  have hst:=st_zero hi
  by_cases hz:r6=0
  ·rw [if_pos (by exact hz)] at hst
   have key:=W_loc h ht eL er ej (⟨p,7,r0,r1,r2,r3,r4,r5,r6,r7,0⟩:Loc) (.inl ⟨rfl,hp,by show 7 < 37;decide⟩) (IO hI ht hne (show AtO (meN u) (s.mem.getD 19 0) (s.mem.getD 18 0) (s.mem.getD 0 0) (g u) _ _ _ _ _ _ _ (s.buf u) from by rw [←hme,hq,hgu];exact (AtO.o7H14 (by first | assumption | (simp_all;done)) (by first | assumption | (simp_all;done)) (by first | assumption | (simp_all;done)) (by first | assumption | (simp_all;done))))) (by rw [hx];rfl) (by rw [hx]) (by rw [hx];rfl)
   rw [show Loc.th 37 _=_ from th_jmp (by omega) (by decide) (by decide)] at key
   exact⟨_,_,_,hst,key⟩
  ·rw [if_neg (by exact hz)] at hst
   exfalso;simp_all
 case o4H24 g0 g1 g2 g3 g4=>
  have hi:=ins (i:=⟨14,6,0,0,7⟩) rfl
  rw [movI_jump (i:=⟨14,6,0,0,7⟩) rfl] at hi
  have hst:=st_zero hi
  by_cases hz:r6=0
  ·rw [if_pos (by exact hz)] at hst
   have key:=W_loc h ht eL er ej (⟨p,7,r0,r1,r2,r3,r4,r5,r6,r7,0⟩:Loc) (.inl ⟨rfl,hp,by show 7 < 37;decide⟩) (IO hI ht hne (show AtO (meN u) (s.mem.getD 19 0) (s.mem.getD 18 0) (s.mem.getD 0 0) (g u) _ _ _ _ _ _ _ (s.buf u) from by rw [←hme,hq,hgu];exact (AtO.o7H24 (by first | assumption | (simp_all;done)) (by first | assumption | (simp_all;done)) (by first | assumption | (simp_all;done)) (by first | assumption | (simp_all;done))))) (by rw [hx];rfl) (by rw [hx]) (by rw [hx];rfl)
   rw [show Loc.th 37 _=_ from th_jmp (by omega) (by decide) (by decide)] at key
   exact⟨_,_,_,hst,key⟩
  ·rw [if_neg (by exact hz)] at hst
   exfalso;simp_all
 case o4H34 g0 g1 g2 g3 g4=>
  have hi:=ins (i:=⟨14,6,0,0,7⟩) rfl
  rw [movI_jump (i:=⟨14,6,0,0,7⟩) rfl] at hi
  have hst:=st_zero hi
  by_cases hz:r6=0
  ·rw [if_pos (by exact hz)] at hst
   have key:=W_loc h ht eL er ej (⟨p,7,r0,r1,r2,r3,r4,r5,r6,r7,0⟩:Loc) (.inl ⟨rfl,hp,by show 7 < 37;decide⟩) (IO hI ht hne (show AtO (meN u) (s.mem.getD 19 0) (s.mem.getD 18 0) (s.mem.getD 0 0) (g u) _ _ _ _ _ _ _ (s.buf u) from by rw [←hme,hq,hgu];exact (AtO.o7H34 (by first | assumption | (simp_all;done)) (by first | assumption | (simp_all;done)) (by first | assumption | (simp_all;done)) (by first | assumption | (simp_all;done))))) (by rw [hx];rfl) (by rw [hx]) (by rw [hx];rfl)
   rw [show Loc.th 37 _=_ from th_jmp (by omega) (by decide) (by decide)] at key
   exact⟨_,_,_,hst,key⟩
  ·rw [if_neg (by exact hz)] at hst
   exfalso;simp_all
 case o4H44 g0 g1 g2 g3 g4=>
  have hi:=ins (i:=⟨14,6,0,0,7⟩) rfl
  rw [movI_jump (i:=⟨14,6,0,0,7⟩) rfl] at hi
  have hst:=st_zero hi
  by_cases hz:r6=0
  ·rw [if_pos (by exact hz)] at hst
   have key:=W_loc h ht eL er ej (⟨p,7,r0,r1,r2,r3,r4,r5,r6,r7,0⟩:Loc) (.inl ⟨rfl,hp,by show 7 < 37;decide⟩) (IO hI ht hne (show AtO (meN u) (s.mem.getD 19 0) (s.mem.getD 18 0) (s.mem.getD 0 0) (g u) _ _ _ _ _ _ _ (s.buf u) from by rw [←hme,hq,hgu];exact (AtO.o7H44 (by first | assumption | (simp_all;done)) (by first | assumption | (simp_all;done)) (by first | assumption | (simp_all;done)) (by first | assumption | (simp_all;done))))) (by rw [hx];rfl) (by rw [hx]) (by rw [hx];rfl)
   rw [show Loc.th 37 _=_ from th_jmp (by omega) (by decide) (by decide)] at key
   exact⟨_,_,_,hst,key⟩
  ·rw [if_neg (by exact hz)] at hst
   exfalso;simp_all
 case o7H04 g0 g1 g2=>
  have hi:=ins (i:=⟨1,4,0,0,0⟩) rfl
  rw [movI_plain (i:=⟨1,4,0,0,0⟩) rfl] at hi
  have hst:=st_set hi
  have key:=W_loc h ht eL er ej (⟨p,8,r0,r1,r2,r3,(0),r5,r6,r7,0⟩:Loc) (.inl ⟨rfl,hp,by show 8 < 37;decide⟩) (IO hI ht hne (show AtO (meN u) (s.mem.getD 19 0) (s.mem.getD 18 0) (s.mem.getD 0 0) (g u) _ _ _ _ _ _ _ (s.buf u) from by rw [←hme,hq,hgu];exact (AtO.o8H04 (by first | assumption | rfl | (simp_all;done)) (by first | assumption | rfl | (simp_all;done)) (by first | assumption | rfl | (simp_all;done)) (by first | assumption | rfl | (simp_all;done))))) (by rw [hx];rfl) (by rw [hx]) (by rw [hx];rfl)
  rw [show Loc.th 37 _=_ from th_of rfl] at key
  exact⟨_,_,_,hst,key⟩
 case o7H14 g0 g1 g2 g3=>
  have hi:=ins (i:=⟨1,4,0,0,0⟩) rfl
  rw [movI_plain (i:=⟨1,4,0,0,0⟩) rfl] at hi
  have hst:=st_set hi
  have key:=W_loc h ht eL er ej (⟨p,8,r0,r1,r2,r3,(0),r5,r6,r7,0⟩:Loc) (.inl ⟨rfl,hp,by show 8 < 37;decide⟩) (IO hI ht hne (show AtO (meN u) (s.mem.getD 19 0) (s.mem.getD 18 0) (s.mem.getD 0 0) (g u) _ _ _ _ _ _ _ (s.buf u) from by rw [←hme,hq,hgu];exact (AtO.o8H14 (by first | assumption | rfl | (simp_all;done)) (by first | assumption | rfl | (simp_all;done)) (by first | assumption | rfl | (simp_all;done)) (by first | assumption | rfl | (simp_all;done)) (by first | assumption | rfl | (simp_all;done))))) (by rw [hx];rfl) (by rw [hx]) (by rw [hx];rfl)
  rw [show Loc.th 37 _=_ from th_of rfl] at key
  exact⟨_,_,_,hst,key⟩
 case o7H24 g0 g1 g2 g3=>
  have hi:=ins (i:=⟨1,4,0,0,0⟩) rfl
  rw [movI_plain (i:=⟨1,4,0,0,0⟩) rfl] at hi
  have hst:=st_set hi
  have key:=W_loc h ht eL er ej (⟨p,8,r0,r1,r2,r3,(0),r5,r6,r7,0⟩:Loc) (.inl ⟨rfl,hp,by show 8 < 37;decide⟩) (IO hI ht hne (show AtO (meN u) (s.mem.getD 19 0) (s.mem.getD 18 0) (s.mem.getD 0 0) (g u) _ _ _ _ _ _ _ (s.buf u) from by rw [←hme,hq,hgu];exact (AtO.o8H24 (by first | assumption | rfl | (simp_all;done)) (by first | assumption | rfl | (simp_all;done)) (by first | assumption | rfl | (simp_all;done)) (by first | assumption | rfl | (simp_all;done)) (by first | assumption | rfl | (simp_all;done))))) (by rw [hx];rfl) (by rw [hx]) (by rw [hx];rfl)
  rw [show Loc.th 37 _=_ from th_of rfl] at key
  exact⟨_,_,_,hst,key⟩
 case o7H34 g0 g1 g2 g3=>
  have hi:=ins (i:=⟨1,4,0,0,0⟩) rfl
  rw [movI_plain (i:=⟨1,4,0,0,0⟩) rfl] at hi
  have hst:=st_set hi
  have key:=W_loc h ht eL er ej (⟨p,8,r0,r1,r2,r3,(0),r5,r6,r7,0⟩:Loc) (.inl ⟨rfl,hp,by show 8 < 37;decide⟩) (IO hI ht hne (show AtO (meN u) (s.mem.getD 19 0) (s.mem.getD 18 0) (s.mem.getD 0 0) (g u) _ _ _ _ _ _ _ (s.buf u) from by rw [←hme,hq,hgu];exact (AtO.o8H34 (by first | assumption | rfl | (simp_all;done)) (by first | assumption | rfl | (simp_all;done)) (by first | assumption | rfl | (simp_all;done)) (by first | assumption | rfl | (simp_all;done)) (by first | assumption | rfl | (simp_all;done))))) (by rw [hx];rfl) (by rw [hx]) (by rw [hx];rfl)
  rw [show Loc.th 37 _=_ from th_of rfl] at key
  exact⟨_,_,_,hst,key⟩
 case o7H44 g0 g1 g2 g3=>
  have hi:=ins (i:=⟨1,4,0,0,0⟩) rfl
  rw [movI_plain (i:=⟨1,4,0,0,0⟩) rfl] at hi
  have hst:=st_set hi
  have key:=W_loc h ht eL er ej (⟨p,8,r0,r1,r2,r3,(0),r5,r6,r7,0⟩:Loc) (.inl ⟨rfl,hp,by show 8 < 37;decide⟩) (IO hI ht hne (show AtO (meN u) (s.mem.getD 19 0) (s.mem.getD 18 0) (s.mem.getD 0 0) (g u) _ _ _ _ _ _ _ (s.buf u) from by rw [←hme,hq,hgu];exact (AtO.o8H44 (by first | assumption | rfl | (simp_all;done)) (by first | assumption | rfl | (simp_all;done)) (by first | assumption | rfl | (simp_all;done)) (by first | assumption | rfl | (simp_all;done)) (by first | assumption | rfl | (simp_all;done))))) (by rw [hx];rfl) (by rw [hx]) (by rw [hx];rfl)
  rw [show Loc.th 37 _=_ from th_of rfl] at key
  exact⟨_,_,_,hst,key⟩
 case o8H04 g0 g1 g2 g3=>
  have hi:=ins (i:=⟨21,4,8,5,18⟩) rfl
  rw [movI_plain (i:=⟨21,4,8,5,18⟩) rfl] at hi
  exact⟨_,f,i,st_drain hi (by show drainsI 21;decide) (fun _=>by rw [addr_abs,hnm];decide) (by rw [empty_q hq];rfl),flush h ht⟩
 case o8H14 g0 g1 g2 g3 g4=>
  have hi:=ins (i:=⟨21,4,8,5,18⟩) rfl
  rw [movI_plain (i:=⟨21,4,8,5,18⟩) rfl] at hi
  exact⟨_,f,i,st_drain hi (by show drainsI 21;decide) (fun _=>by rw [addr_abs,hnm];decide) (by rw [empty_q hq];rfl),flush h ht⟩
 case o8H24 g0 g1 g2 g3 g4=>
  have hi:=ins (i:=⟨21,4,8,5,18⟩) rfl
  rw [movI_plain (i:=⟨21,4,8,5,18⟩) rfl] at hi
  exact⟨_,f,i,st_drain hi (by show drainsI 21;decide) (fun _=>by rw [addr_abs,hnm];decide) (by rw [empty_q hq];rfl),flush h ht⟩
 case o8H34 g0 g1 g2 g3 g4=>
  have hi:=ins (i:=⟨21,4,8,5,18⟩) rfl
  rw [movI_plain (i:=⟨21,4,8,5,18⟩) rfl] at hi
  exact⟨_,f,i,st_drain hi (by show drainsI 21;decide) (fun _=>by rw [addr_abs,hnm];decide) (by rw [empty_q hq];rfl),flush h ht⟩
 case o8H44 g0 g1 g2 g3 g4=>
  have hi:=ins (i:=⟨21,4,8,5,18⟩) rfl
  rw [movI_plain (i:=⟨21,4,8,5,18⟩) rfl] at hi
  have hl:s.load u 18=s.mem.getD 18 0:=by rw [load_q hq];rfl
  have hcs:=st_cas hi (ad:=18) (addr_abs _ _ _ _ _) (by rw [hnm];decide) (by rw [empty_q hq];rfl)
  rw [hl] at hcs
  have r40:r4=0:=by assumption
  have r5m:r5=me:=by assumption
  subst r40;subst r5m
  by_cases how:s.mem.getD 18 0=0
  ·rw [if_pos (by exact how)] at hcs
   have m0:(s.mem.set 18 r5).getD 0 0=_:=(get_set (by rw [hnm];decide)).trans (if_neg (by decide))
   have m16:(s.mem.set 18 r5).getD 16 0=_:=(get_set (by rw [hnm];decide)).trans (if_neg (by decide))
   have m17:(s.mem.set 18 r5).getD 17 0=_:=(get_set (by rw [hnm];decide)).trans (if_neg (by decide))
   have m18:(s.mem.set 18 r5).getD 18 0=_:=(get_set (by rw [hnm];decide)).trans (if_pos rfl)
   have m19:(s.mem.set 18 r5).getD 19 0=_:=(get_set (by rw [hnm];decide)).trans (if_neg (by decide))
   rw [how] at hcs
   have g0:g u=0:=by rw [hgu];assumption
   have hg0:∀ v,v < T→v≠A→g v=0:=fun v hv hv2=>by
    by_cases e:g v=0
    ·exact e
    ·have:=((hI.ho v hv hv2).hcw).2 (by omega)
     have:=meN_pos v
     omega
   have hσ5:σ < 5:=by
    by_cases e:5≤σ
    ·have:=hI.mc.1 e
     have:=meN_pos A
     omega
    ·omega
   have hne2:A≠u:=fun e=>hne e.symm
   have gv:∀ v,v < T→v≠A→upF g u 1 v=1∨upF g u 1 v=0:=fun v hv hv2=>by
    by_cases e:v=u
    ·subst e;rw [upF_self];exact .inl rfl
    ·rw [upF_ne _ _ e];exact .inr (hg0 v hv hv2)
   have hI2:(X A T R).I (s.mem.set 18 r5) (upF f u ⟨p,9,r0,r1,r2,r3,0,r5,r6,r7,0⟩) s.buf:=by
    refine⟨m,σ,σ',c,pt,k,upF g u 1,by rw [m0];exact hI.pth,hI.ok,by rw [upF_ne _ _ hne2];exact hI.hb,by rw [m19];exact hI.mo,?_,by rw [m16];exact hI.fa,fun v hv hv2=>?_,by rw [m17];exact hI.b01,fun v hv hv2 e=>?_,fun v hv hv2 e=>?_,fun e=>⟨by rw [m17];exact (hI.mS e).1,(hI.mS e).2.1,fun v hv hv2=>?_⟩,fun e=>⟨fun v hv hv2=>?_,fun e1=>?_⟩,fun v hv hv2 e=>?_,by rw [m17];exact hI.kb⟩
    ·rw [m18,hme];exact⟨fun e=>by omega,fun _=>meN_ne hne⟩
    ·rw [m19,m18,m0]
     by_cases e:v=u
     ·subst e;rw [upF_self,upF_self,hq,←hme];exact (AtO.o9P1 (by first | assumption | rfl) (by first | assumption | rfl) (by first | assumption | rfl) (by first | assumption | rfl) (by first | assumption | rfl))
     ·rw [upF_ne _ _ e,upF_ne _ _ e]
      have h0:=hg0 v hv hv2
      exact (hI.ho v hv hv2).other (by omega) ((hI.ho v hv hv2).out (by omega)).1 (fun _=>by rw [hme];exact meN_ne (fun e2=>e e2.symm)) (fun e=>by omega)
    ·have:=gv v hv hv2;omega
    ·have:=gv v hv hv2;omega
    ·have:=gv v hv hv2;omega
    ·have:=gv v hv hv2;omega
    ·rw [m17] at e1
     obtain⟨w,hw,hw2,hw3⟩:=(hI.mF e).2 e1
     have:=hg0 w hw hw2
     omega
    ·have:=gv v hv hv2;omega
   have key:=W_swapped h ht eL er ej ⟨4,0,((p*37+8:Nat):Int),18,r5,0,0,true⟩ rfl 18 r5 (by decide) (⟨p,9,r0,r1,r2,r3,0,r5,r6,r7,0⟩:Loc) (.inl ⟨rfl,hp,by show 9 < 37;decide⟩) hI2 (by rw [hx];rfl) (by rw [hx]) (by rw [hx];rfl)
   rw [show Loc.th 37 _=_ from th_of rfl] at key
   exact⟨_,_,_,hcs,key⟩
  ·rw [if_neg (by exact how)] at hcs
   have hg:=h.noted (t:=u) ⟨4,0,((p*37+8:Nat):Int),18,s.mem.getD 18 0,s.mem.getD 18 0,0,false⟩ (show (4:Int)≠7 by decide) (show (4:Int)≠13 by decide)
   have key:=W_loc hg ht eL er ej (⟨p,9,r0,r1,r2,r3,(s.mem.getD 18 0),r5,r6,r7,0⟩:Loc) (.inl ⟨rfl,hp,by show 9 < 37;decide⟩) (IO hI ht hne (show AtO (meN u) (s.mem.getD 19 0) (s.mem.getD 18 0) (s.mem.getD 0 0) (g u) _ _ _ _ _ _ _ (s.buf u) from by rw [←hme,hq,hgu];exact (AtO.o9N (by first | assumption | rfl | exact how) (by first | assumption | rfl | exact how) (by first | assumption | rfl | exact how) (by first | assumption | rfl | exact how) (by first | assumption | rfl | exact how)))) (by rw [hx];rfl) (by rw [hx]) (by rw [hx];rfl)
   rw [show Loc.th 37 _=_ from th_of rfl] at key
   exact⟨_,_,_,hcs,key⟩
 case o9N g0 g1 g2 g3 g4=>
  have hi:=ins (i:=⟨15,4,0,0,7⟩) rfl
  rw [movI_jump (i:=⟨15,4,0,0,7⟩) rfl] at hi
  have hst:=st_some hi
  by_cases hz:r4≠0
  ·rw [if_pos (by exact hz)] at hst
   have key:=W_loc h ht eL er ej (⟨p,7,r0,r1,r2,r3,r4,r5,r6,r7,0⟩:Loc) (.inl ⟨rfl,hp,by show 7 < 37;decide⟩) (IO hI ht hne (show AtO (meN u) (s.mem.getD 19 0) (s.mem.getD 18 0) (s.mem.getD 0 0) (g u) _ _ _ _ _ _ _ (s.buf u) from by rw [←hme,hq,hgu];exact (AtO.o7H44 (by first | assumption | (simp_all;done)) (by first | assumption | (simp_all;done)) (by first | assumption | (simp_all;done)) (by first | assumption | (simp_all;done))))) (by rw [hx];rfl) (by rw [hx]) (by rw [hx];rfl)
   rw [show Loc.th 37 _=_ from th_jmp (by omega) (by decide) (by decide)] at key
   exact⟨_,_,_,hst,key⟩
  ·rw [if_neg (by exact hz)] at hst
   exfalso;simp_all
 case o9P1 g0 g1 g2 g3 g4=>
  have hi:=ins (i:=⟨15,4,0,0,7⟩) rfl
  rw [movI_jump (i:=⟨15,4,0,0,7⟩) rfl] at hi
  have hst:=st_some hi
  by_cases hz:r4≠0
  ·rw [if_pos (by exact hz)] at hst
   exfalso;simp_all
  ·rw [if_neg (by exact hz)] at hst
   have key:=W_loc h ht eL er ej (⟨p,10,r0,r1,r2,r3,r4,r5,r6,r7,0⟩:Loc) (.inl ⟨rfl,hp,by show 10 < 37;decide⟩) (IO hI ht hne (show AtO (meN u) (s.mem.getD 19 0) (s.mem.getD 18 0) (s.mem.getD 0 0) (g u) _ _ _ _ _ _ _ (s.buf u) from by rw [←hme,hq,hgu];exact (AtO.o10P1 (by first | assumption | (simp_all;done)) (by first | assumption | (simp_all;done)) (by first | assumption | (simp_all;done)) (by first | assumption | (simp_all;done))))) (by rw [hx];rfl) (by rw [hx]) (by rw [hx];rfl)
   rw [show Loc.th 37 _=_ from th_of rfl] at key
   exact⟨_,_,_,hst,key⟩
 case o10P1 g0 g1 g2 g3=>
  have hi:=ins (i:=⟨16,4,8,0,17⟩) rfl
  rw [movI_plain (i:=⟨16,4,8,0,17⟩) rfl] at hi
  have hst:=st_load hi (ad:=17) (addr_abs _ _ _ _ _) (by rw [hnm];omega)
  have hl:s.load u 17=(s.mem.getD 17 0):=by rw [load_q hq];rfl
  rw [hl] at hst
  have hg:=h.noted (t:=u) ⟨1,0,((p*37+10:Nat):Int),17,(s.mem.getD 17 0),0,0,false⟩ (show (1:Int)≠7 by decide) (show (1:Int)≠13 by decide)
  have hcw:s.mem.getD 18 0=meN u:=by rw [←hme];assumption
  have gu1:g u=1:=by rw [hgu];assumption
  by_cases hz:s.mem.getD 17 0=0
  ·skip
   have key:=W_loc hg ht eL er ej (⟨p,11,r0,r1,r2,r3,(s.mem.getD 17 0),r5,r6,r7,0⟩:Loc) (.inl ⟨rfl,hp,by show 11 < 37;decide⟩) (⟨_,_,_,_,_,_,_,by have:=hI.oth (x:=⟨p,11,r0,r1,r2,r3,(s.mem.getD 17 0),r5,r6,r7,0⟩) (q':=s.buf u) (g':=2) ht hne (by rw [←hme,hq];exact (AtO.o11P2 (by first | assumption | rfl | exact hz) (by first | assumption | rfl | exact hz) (by first | assumption | rfl | exact hz) (by first | assumption | rfl | exact hz) (by first | assumption | rfl | exact hz))) (fun _=>hz) (fun e=>by omega) (fun e=>by have:=(hI.mS e).1;omega) (fun _=>⟨by decide,fun e=>by omega⟩) (fun e=>absurd e (by decide));rw [upF_id s.buf u] at this;exact this⟩) (by rw [hx];rfl) (by rw [hx]) (by rw [hx];rfl)
   rw [show Loc.th 37 _=_ from th_of rfl] at key
   exact⟨_,_,_,hst,key⟩
  ·have hb1:s.mem.getD 17 0=1:=by have:=hI.b01;omega
   have hm:m=true:=by
    cases m with
    | true=>rfl
    | false=>
     obtain⟨w,hw,hw2,hw3⟩:=(hI.mF rfl).2 hb1
     have h1:=hI.excl ht hne (by omega) w hw hw2
     by_cases e:w=u
     ·subst e;omega
     ·have:=h1 e;omega
   have key:=W_loc hg ht eL er ej (⟨p,11,r0,r1,r2,r3,(s.mem.getD 17 0),r5,r6,r7,0⟩:Loc) (.inl ⟨rfl,hp,by show 11 < 37;decide⟩) (⟨_,_,_,_,_,_,_,by have:=hI.oth (x:=⟨p,11,r0,r1,r2,r3,(s.mem.getD 17 0),r5,r6,r7,0⟩) (q':=s.buf u) (g':=5) ht hne (by rw [←hme,hq];exact (AtO.o11C (by first | assumption | rfl | exact hz) (by first | assumption | rfl | exact hz) (by first | assumption | rfl | exact hz) (by first | assumption | rfl | exact hz) (by first | assumption | rfl | exact hz))) (fun e=>absurd e (by decide)) (fun _=>hb1) (fun _=>⟨by decide,by decide,by decide⟩) (fun e=>by rw [hm] at e;cases e) (fun e=>absurd e (by decide));rw [upF_id s.buf u] at this;exact this⟩) (by rw [hx];rfl) (by rw [hx]) (by rw [hx];rfl)
   rw [show Loc.th 37 _=_ from th_of rfl] at key
   exact⟨_,_,_,hst,key⟩
 case o11C g0 g1 g2 g3 g4=>
  have hi:=ins (i:=⟨15,4,0,0,17⟩) rfl
  rw [movI_jump (i:=⟨15,4,0,0,17⟩) rfl] at hi
  have hst:=st_some hi
  by_cases hz:r4≠0
  ·rw [if_pos (by exact hz)] at hst
   have key:=W_loc h ht eL er ej (⟨p,17,r0,r1,r2,r3,r4,r5,r6,r7,0⟩:Loc) (.inl ⟨rfl,hp,by show 17 < 37;decide⟩) (IO hI ht hne (show AtO (meN u) (s.mem.getD 19 0) (s.mem.getD 18 0) (s.mem.getD 0 0) (g u) _ _ _ _ _ _ _ (s.buf u) from by rw [←hme,hq,hgu];exact (AtO.o17C (by first | assumption | (simp_all;done)) (by first | assumption | (simp_all;done)) (by first | assumption | (simp_all;done)) (by first | assumption | (simp_all;done))))) (by rw [hx];rfl) (by rw [hx]) (by rw [hx];rfl)
   rw [show Loc.th 37 _=_ from th_jmp (by omega) (by decide) (by decide)] at key
   exact⟨_,_,_,hst,key⟩
  ·rw [if_neg (by exact hz)] at hst
   exfalso;simp_all
 case o11P2 g0 g1 g2 g3 g4=>
  have hi:=ins (i:=⟨15,4,0,0,17⟩) rfl
  rw [movI_jump (i:=⟨15,4,0,0,17⟩) rfl] at hi
  have hst:=st_some hi
  by_cases hz:r4≠0
  ·rw [if_pos (by exact hz)] at hst
   exfalso;simp_all
  ·rw [if_neg (by exact hz)] at hst
   have key:=W_loc h ht eL er ej (⟨p,12,r0,r1,r2,r3,r4,r5,r6,r7,0⟩:Loc) (.inl ⟨rfl,hp,by show 12 < 37;decide⟩) (IO hI ht hne (show AtO (meN u) (s.mem.getD 19 0) (s.mem.getD 18 0) (s.mem.getD 0 0) (g u) _ _ _ _ _ _ _ (s.buf u) from by rw [←hme,hq,hgu];exact (AtO.o12P2 (by first | assumption | (simp_all;done)) (by first | assumption | (simp_all;done)) (by first | assumption | (simp_all;done)) (by first | assumption | (simp_all;done))))) (by rw [hx];rfl) (by rw [hx]) (by rw [hx];rfl)
   rw [show Loc.th 37 _=_ from th_of rfl] at key
   exact⟨_,_,_,hst,key⟩
 case o12P2 g0 g1 g2 g3=>
  have hi:=ins (i:=⟨1,4,0,0,1⟩) rfl
  rw [movI_plain (i:=⟨1,4,0,0,1⟩) rfl] at hi
  have hst:=st_set hi
  have key:=W_loc h ht eL er ej (⟨p,13,r0,r1,r2,r3,(1),r5,r6,r7,0⟩:Loc) (.inl ⟨rfl,hp,by show 13 < 37;decide⟩) (IO hI ht hne (show AtO (meN u) (s.mem.getD 19 0) (s.mem.getD 18 0) (s.mem.getD 0 0) (g u) _ _ _ _ _ _ _ (s.buf u) from by rw [←hme,hq,hgu];exact (AtO.o13P2 (by first | assumption | rfl | (simp_all;done)) (by first | assumption | rfl | (simp_all;done)) (by first | assumption | rfl | (simp_all;done)) (by first | assumption | rfl | (simp_all;done)) (by first | assumption | rfl | (simp_all;done))))) (by rw [hx];rfl) (by rw [hx]) (by rw [hx];rfl)
  rw [show Loc.th 37 _=_ from th_of rfl] at key
  exact⟨_,_,_,hst,key⟩
 case o13P2 g0 g1 g2 g3 g4=>
  have hi:=ins (i:=⟨17,4,8,0,17⟩) rfl
  rw [movI_plain (i:=⟨17,4,8,0,17⟩) rfl] at hi
  have hst:=st_store hi (ad:=17) (addr_abs _ _ _ _ _) (by rw [hnm];omega)
  by_cases hro:s.roomy u=true
  ·rw [if_pos hro] at hst
   have hrv:r4=1:=by assumption
   have hgg:g u=2:=by rw [hgu];assumption
   have key:=W_stored h ht eL er ej ((p*37+13:Nat):Int) 17 r4 (⟨p,14,r0,r1,r2,r3,r4,r5,r6,r7,0⟩:Loc) (.inl ⟨rfl,hp,by show 14 < 37;decide⟩) (⟨_,_,_,_,_,_,_,hI.oth (q':=s.buf u++[(17,r4)]) (g':=g u) ht hne (by rw [←hme,hq,hrv,hgu];exact (AtO.o14Q2 (by first | assumption | rfl | (simp_all;done)) (by first | assumption | rfl | (simp_all;done)) (by first | assumption | rfl | (simp_all;done)) (by first | assumption | rfl | (simp_all;done)))) (hI.b2 u ht hne) (hI.b3 u ht hne) (fun e=>(hI.mS e).2.2 u ht hne) (fun e=>⟨(hI.mF e).1 u ht hne,fun h=>h⟩) (hI.cW u ht hne)⟩) (by rw [hx];rfl) (by rw [hx]) (.inl ⟨by decide,by rw [hx];rfl⟩)
   rw [show Loc.th 37 _=_ from th_of rfl] at key
   exact⟨_,_,_,hst,key⟩
  ·rw [if_neg hro] at hst
   exact⟨_,f,i,hst,flush h ht⟩
 case o14P3 g0 g1 g2 g3=>
  have hi:=ins (i:=⟨25,0,0,0,0⟩) rfl
  rw [movI_plain (i:=⟨25,0,0,0,0⟩) rfl] at hi
  have hst:=st_remote hi (by rw [empty_q hq];rfl)
  have hA:A < (X A T R).T:=hAT
  have hr:(X A T R).Inv s.remote f i:=remote_inv (X:=X A T R) (P:=fun s=>(X A T R).Inv s f i) (fun t s ht h=>flush h ht) h.nb h
  have hbA:s.remote.buf A=[]:=remote_buf (by rw [h.nb];exact hA)
  have hbB:s.remote.buf u=[]:=remote_buf (by rw [h.nb];exact ht)
  have hg:=hr.noted (t:=u) ⟨10,0,((p*37+14:Nat):Int),0,0,0,0,false⟩ (show (10:Int)≠7 by decide) (show (10:Int)≠13 by decide)
  obtain⟨m2,σ2,σ3,c3,pt3,k3,g3,hJ⟩:=hr.I
  have hat3:=hJ.ho u ht hne
  rw [hx,hbB,←hme] at hat3
  obtain⟨e1,e2,e3,e4⟩:=hat3.g3
  have hp3:=hJ.pth
  have hf3:=hJ.hb
  rw [hbA] at hp3
  have hσ:σ3=σ2:=(Pa.nil_inv hp3).1
  have hm2:m2=false:=by
   cases m2 with
   | false=>rfl
   | true=>exact absurd e1 ((hJ.mS rfl).2.2 u ht hne).2.1
  have hq3:AmT 19 (qv 19 (meN A) (s.remote.buf A) pt3)∧(σ2=0→NoT 19 (qv 19 (meN A) (s.remote.buf A) pt3)):=by
   rw [hbA]
   cases pt3 with
   | false=>exact⟨trivial,fun _ x hx=>by cases hx⟩
   | true=>
    have:=hf3.pt1
    exact⟨AmT.none (q:=[]) (fun x hx=>by cases hx),fun e=>by omega⟩
  have hths:s.remote.ths=s.ths:=s.remote_same.ths
  have key:=W_loc hg ht eL er ej (⟨p,15,r0,r1,r2,r3,r4,r5,r6,r7,0⟩:Loc) (.inl ⟨rfl,hp,by show 15 < 37;decide⟩) (⟨_,_,_,_,_,_,_,by have:=hJ.oth (x:=⟨p,15,r0,r1,r2,r3,r4,r5,r6,r7,0⟩) (q':=s.remote.buf u) (g':=4) ht hne (by rw [←hme,hbB];exact (AtO.o15P4 (by first | assumption | rfl) (by first | assumption | rfl) (by first | assumption | rfl) (by first | assumption | rfl))) (fun e=>absurd e (by decide)) (fun _=>hJ.b3 u ht hne (by omega)) (fun e=>by rw [hm2] at e;cases e) (fun _=>⟨by decide,fun _=>.inr rfl⟩) (fun _=>hq3);rw [upF_id s.remote.buf u] at this;exact this⟩) (by rw [hx];rfl) (by rw [hx]) (by rw [hx];rfl)
  rw [show Loc.th 37 _=_ from th_of rfl] at key
  exact⟨_,_,_,hst,key⟩
 case o14Q2 g0 g1 g2 g3=>
  have hi:=ins (i:=⟨25,0,0,0,0⟩) rfl
  rw [movI_plain (i:=⟨25,0,0,0,0⟩) rfl] at hi
  exact⟨_,f,i,st_drain hi (by show drainsI 25;decide) (fun e=>absurd e (by decide)) (by rw [empty_q hq];rfl),flush h ht⟩
 case o15P4 g0 g1 g2 g3=>
  have hi:=ins (i:=⟨16,4,8,0,16⟩) rfl
  rw [movI_plain (i:=⟨16,4,8,0,16⟩) rfl] at hi
  have hst:=st_load hi (ad:=16) (addr_abs _ _ _ _ _) (by rw [hnm];omega)
  have hl:s.load u 16=(s.mem.getD 16 0):=by rw [load_q hq];rfl
  rw [hl] at hst
  have hg:=h.noted (t:=u) ⟨1,0,((p*37+15:Nat):Int),16,(s.mem.getD 16 0),0,0,false⟩ (show (1:Int)≠7 by decide) (show (1:Int)≠13 by decide)
  have gu4:g u=4:=by rw [hgu];assumption
  by_cases hz:s.mem.getD 16 0=0
  ·have hm:m=false:=by
    cases m with
    | false=>rfl
    | true=>exact absurd gu4 ((hI.mS rfl).2.2 u ht hne).2.2
   subst hm
   have hσ0:σ=0:=by
    have h1:σ≤4:=hI.ok
    have:=if1 hI.fa hz
    omega
   have hno:=(hI.cW u ht hne gu4).2 hσ0
   have hptf:pt=false:=by
    cases pt with
    | false=>rfl
    | true=>exact absurd rfl (hno (19,meN A) (by unfold qv;rw [if_pos rfl];exact List.mem_append_right _ (List.mem_singleton.2 rfl)))
   have hb1:=hI.b3 u ht hne (by omega)
   have g0:=hI.excl ht hne (by omega)
   have hJ:Inw A T s.mem (upF f u ⟨p,16,r0,r1,r2,r3,(s.mem.getD 16 0),r5,r6,r7,0⟩) (upF s.buf u (s.buf u)) true σ σ' c pt k (upF g u 5):=by
    have hne2:A≠u:=fun e=>hne e.symm
    have gv:∀ v,v < T→v≠A→upF g u 5 v=5∨upF g u 5 v=0:=fun v hv hv2=>by
     by_cases e:v=u
     ·subst e;rw [upF_self];exact .inl rfl
     ·rw [upF_ne _ _ e];exact .inr (g0 v hv hv2 e)
    refine⟨by rw [upF_ne _ _ hne2];exact Pth.toS hI.pth (fun e he=>hno e (qv_mem he)) (.inl hσ0),(show σ≠2∧σ≠3∧σ≠4 by omega),by rw [upF_ne _ _ hne2];exact hI.hb,hI.mo,hI.mc,hI.fa,fun v hv hv2=>?_,hI.b01,fun v hv hv2 e=>?_,fun _ _ _ _=>hb1,fun _=>⟨hb1,hptf,fun v hv hv2=>?_⟩,fun e=>absurd e (by decide),fun v hv hv2 e=>?_,hI.kb⟩
    ·by_cases e:v=u
     ·subst e;rw [upF_self,upF_self,upF_self,←hme,hq];exact (AtO.o16C (by first | assumption | rfl | exact hz) (by first | assumption | rfl | exact hz) (by first | assumption | rfl | exact hz) (by first | assumption | rfl | exact hz) (by first | assumption | rfl | exact hz))
     ·rw [upF_ne _ _ e,upF_ne _ _ e,upF_ne _ _ e];exact hI.ho v hv hv2
    ·have:=gv v hv hv2;omega
    ·have:=gv v hv hv2;omega
    ·have:=gv v hv hv2;omega
   rw [upF_id s.buf u] at hJ
   have key:=W_loc hg ht eL er ej (⟨p,16,r0,r1,r2,r3,(s.mem.getD 16 0),r5,r6,r7,0⟩:Loc) (.inl ⟨rfl,hp,by show 16 < 37;decide⟩) (⟨_,_,_,_,_,_,_,hJ⟩) (by rw [hx];rfl) (by rw [hx]) (by rw [hx];rfl)
   rw [show Loc.th 37 _=_ from th_of rfl] at key
   exact⟨_,_,_,hst,key⟩
  ·skip
   have key:=W_loc hg ht eL er ej (⟨p,16,r0,r1,r2,r3,(s.mem.getD 16 0),r5,r6,r7,0⟩:Loc) (.inl ⟨rfl,hp,by show 16 < 37;decide⟩) (IO hI ht hne (show AtO (meN u) (s.mem.getD 19 0) (s.mem.getD 18 0) (s.mem.getD 0 0) (g u) _ _ _ _ _ _ _ (s.buf u) from by rw [←hme,hq,hgu];exact (AtO.o16P4 (by first | assumption | exact hz) (by first | assumption | exact hz) (by first | assumption | exact hz) (by first | assumption | exact hz) (by first | assumption | exact hz)))) (by rw [hx];rfl) (by rw [hx]) (by rw [hx];rfl)
   rw [show Loc.th 37 _=_ from th_of rfl] at key
   exact⟨_,_,_,hst,key⟩
 case o16C g0 g1 g2 g3 g4=>
  have hi:=ins (i:=⟨15,4,0,0,15⟩) rfl
  rw [movI_jump (i:=⟨15,4,0,0,15⟩) rfl] at hi
  have hst:=st_some hi
  by_cases hz:r4≠0
  ·rw [if_pos (by exact hz)] at hst
   exfalso;simp_all
  ·rw [if_neg (by exact hz)] at hst
   have key:=W_loc h ht eL er ej (⟨p,17,r0,r1,r2,r3,r4,r5,r6,r7,0⟩:Loc) (.inl ⟨rfl,hp,by show 17 < 37;decide⟩) (IO hI ht hne (show AtO (meN u) (s.mem.getD 19 0) (s.mem.getD 18 0) (s.mem.getD 0 0) (g u) _ _ _ _ _ _ _ (s.buf u) from by rw [←hme,hq,hgu];exact (AtO.o17C (by first | assumption | (simp_all;done)) (by first | assumption | (simp_all;done)) (by first | assumption | (simp_all;done)) (by first | assumption | (simp_all;done))))) (by rw [hx];rfl) (by rw [hx]) (by rw [hx];rfl)
   rw [show Loc.th 37 _=_ from th_of rfl] at key
   exact⟨_,_,_,hst,key⟩
 case o16P4 g0 g1 g2 g3 g4=>
  have hi:=ins (i:=⟨15,4,0,0,15⟩) rfl
  rw [movI_jump (i:=⟨15,4,0,0,15⟩) rfl] at hi
  have hst:=st_some hi
  by_cases hz:r4≠0
  ·rw [if_pos (by exact hz)] at hst
   have key:=W_loc h ht eL er ej (⟨p,15,r0,r1,r2,r3,r4,r5,r6,r7,0⟩:Loc) (.inl ⟨rfl,hp,by show 15 < 37;decide⟩) (IO hI ht hne (show AtO (meN u) (s.mem.getD 19 0) (s.mem.getD 18 0) (s.mem.getD 0 0) (g u) _ _ _ _ _ _ _ (s.buf u) from by rw [←hme,hq,hgu];exact (AtO.o15P4 (by first | assumption | (simp_all;done)) (by first | assumption | (simp_all;done)) (by first | assumption | (simp_all;done)) (by first | assumption | (simp_all;done))))) (by rw [hx];rfl) (by rw [hx]) (by rw [hx];rfl)
   rw [show Loc.th 37 _=_ from th_jmp (by omega) (by decide) (by decide)] at key
   exact⟨_,_,_,hst,key⟩
  ·rw [if_neg (by exact hz)] at hst
   exfalso;simp_all
 case o17C g0 g1 g2 g3=>
  have hi:=ins (i:=⟨17,5,8,0,19⟩) rfl
  rw [movI_plain (i:=⟨17,5,8,0,19⟩) rfl] at hi
  have hst:=st_store hi (ad:=19) (addr_abs _ _ _ _ _) (by rw [hnm];omega)
  by_cases hro:s.roomy u=true
  ·rw [if_pos hro] at hst
   have hrv:r5=me:=by assumption
   have hgg:g u=5:=by rw [hgu];assumption
   have key:=W_stored h ht eL er ej ((p*37+17:Nat):Int) 19 r5 (⟨p,18,r0,r1,r2,r3,r4,r5,r6,r7,0⟩:Loc) (.inl ⟨rfl,hp,by show 18 < 37;decide⟩) (⟨_,_,_,_,_,_,_,hI.oth (q':=s.buf u++[(19,r5)]) (g':=g u) ht hne (by rw [←hme,hq,hrv,hgu];exact (AtO.o18H01 (by first | assumption | rfl | (simp_all;done)) (by first | assumption | rfl | (simp_all;done)))) (hI.b2 u ht hne) (hI.b3 u ht hne) (fun e=>(hI.mS e).2.2 u ht hne) (fun e=>⟨(hI.mF e).1 u ht hne,fun h=>h⟩) (hI.cW u ht hne)⟩) (by rw [hx];rfl) (by rw [hx]) (.inl ⟨by decide,by rw [hx];rfl⟩)
   rw [show Loc.th 37 _=_ from th_of rfl] at key
   exact⟨_,_,_,hst,key⟩
  ·rw [if_neg hro] at hst
   exact⟨_,f,i,hst,flush h ht⟩
 case o18H01 g0 g1=>
  have hi:=ins (i:=⟨1,7,0,0,0⟩) rfl
  rw [movI_plain (i:=⟨1,7,0,0,0⟩) rfl] at hi
  have hst:=st_set hi
  have key:=W_loc h ht eL er ej (⟨p,19,r0,r1,r2,r3,r4,r5,r6,(0),0⟩:Loc) (.inl ⟨rfl,hp,by show 19 < 37;decide⟩) (IO hI ht hne (show AtO (meN u) (s.mem.getD 19 0) (s.mem.getD 18 0) (s.mem.getD 0 0) (g u) _ _ _ _ _ _ _ (s.buf u) from by rw [←hme,hq,hgu];exact (AtO.o19H01 (by first | assumption | rfl | (simp_all;done)) (by first | assumption | rfl | (simp_all;done)) (by first | assumption | rfl | (simp_all;done))))) (by rw [hx];rfl) (by rw [hx]) (by rw [hx];rfl)
  rw [show Loc.th 37 _=_ from th_of rfl] at key
  exact⟨_,_,_,hst,key⟩
 case o18H11 g0 g1 g2=>
  have hi:=ins (i:=⟨1,7,0,0,0⟩) rfl
  rw [movI_plain (i:=⟨1,7,0,0,0⟩) rfl] at hi
  have hst:=st_set hi
  have key:=W_loc h ht eL er ej (⟨p,19,r0,r1,r2,r3,r4,r5,r6,(0),0⟩:Loc) (.inl ⟨rfl,hp,by show 19 < 37;decide⟩) (IO hI ht hne (show AtO (meN u) (s.mem.getD 19 0) (s.mem.getD 18 0) (s.mem.getD 0 0) (g u) _ _ _ _ _ _ _ (s.buf u) from by rw [←hme,hq,hgu];exact (AtO.o19H11 (by first | assumption | rfl | (simp_all;done)) (by first | assumption | rfl | (simp_all;done)) (by first | assumption | rfl | (simp_all;done)) (by first | assumption | rfl | (simp_all;done))))) (by rw [hx];rfl) (by rw [hx]) (by rw [hx];rfl)
  rw [show Loc.th 37 _=_ from th_of rfl] at key
  exact⟨_,_,_,hst,key⟩
 case o19H01 g0 g1 g2=>
  have hi:=ins (i:=⟨27,7,0,0,1⟩) rfl
  rw [movI_plain (i:=⟨27,7,0,0,1⟩) rfl] at hi
  have hmk:=st_mark hi
  have r70:r7=0:=by assumption
  subst r70
  have key:=W_enters h ht eL er ej ((p*37+19:Nat):Int) (⟨p,20,r0,r1,r2,r3,r4,r5,r6,0,0⟩:Loc) (.inl ⟨rfl,hp,by show 20 < 37;decide⟩) (IO hI ht hne (show AtO (meN u) (s.mem.getD 19 0) (s.mem.getD 18 0) (s.mem.getD 0 0) (g u) _ _ _ _ _ _ _ (s.buf u) from by rw [←hme,hq,hgu];exact (AtO.o20H01 (by first | assumption | rfl | (simp_all;done)) (by first | assumption | rfl | (simp_all;done))))) (fun v hv=>by
   by_cases e2:v=u
   ·subst e2;rw [er,hx];rfl
   ·have hg5:g u=5:=by rw [hgu];assumption
    by_cases e3:v=A
    ·subst e3
     rw [X_B.2.1];exact (hI.hb.free (c':=0) (hI.free ht hne hg5).2.2.1).2
    ·rw [(X_O e3).2.1];exact ((hI.ho v hv e3).out (by have:=hI.excl ht hne (by omega) v hv e3 e2;omega)).2) rfl (by rw [hx]) (by rw [hx];rfl)
  rw [show Loc.th 37 _=_ from th_of rfl] at key
  exact⟨_,_,_,hmk,key⟩
 case o19H11 g0 g1 g2 g3=>
  have hi:=ins (i:=⟨27,7,0,0,1⟩) rfl
  rw [movI_plain (i:=⟨27,7,0,0,1⟩) rfl] at hi
  have hmk:=st_mark hi
  have r70:r7=0:=by assumption
  subst r70
  have key:=W_enters h ht eL er ej ((p*37+19:Nat):Int) (⟨p,20,r0,r1,r2,r3,r4,r5,r6,0,0⟩:Loc) (.inl ⟨rfl,hp,by show 20 < 37;decide⟩) (IO hI ht hne (show AtO (meN u) (s.mem.getD 19 0) (s.mem.getD 18 0) (s.mem.getD 0 0) (g u) _ _ _ _ _ _ _ (s.buf u) from by rw [←hme,hq,hgu];exact (AtO.o20H11 (by first | assumption | rfl | (simp_all;done)) (by first | assumption | rfl | (simp_all;done)) (by first | assumption | rfl | (simp_all;done))))) (fun v hv=>by
   by_cases e2:v=u
   ·subst e2;rw [er,hx];rfl
   ·have hg5:g u=5:=by rw [hgu];assumption
    by_cases e3:v=A
    ·subst e3
     rw [X_B.2.1];exact (hI.hb.free (c':=0) (hI.free ht hne hg5).2.2.1).2
    ·rw [(X_O e3).2.1];exact ((hI.ho v hv e3).out (by have:=hI.excl ht hne (by omega) v hv e3 e2;omega)).2) rfl (by rw [hx]) (by rw [hx];rfl)
  rw [show Loc.th 37 _=_ from th_of rfl] at key
  exact⟨_,_,_,hmk,key⟩
 case o20H01 g0 g1=>
  have hi:=ins (i:=⟨16,1,8,0,0⟩) rfl
  rw [movI_plain (i:=⟨16,1,8,0,0⟩) rfl] at hi
  have hst:=st_load hi (ad:=0) (addr_abs _ _ _ _ _) (by rw [hnm];omega)
  have hl:s.load u 0=(s.mem.getD 0 0):=by rw [load_q hq];rfl
  rw [hl] at hst
  have hg:=h.noted (t:=u) ⟨1,0,((p*37+20:Nat):Int),0,(s.mem.getD 0 0),0,0,false⟩ (show (1:Int)≠7 by decide) (show (1:Int)≠13 by decide)
  have key:=W_loc hg ht eL er ej (⟨p,21,r0,(s.mem.getD 0 0),r2,r3,r4,r5,r6,r7,0⟩:Loc) (.inl ⟨rfl,hp,by show 21 < 37;decide⟩) (IO hI ht hne (show AtO (meN u) (s.mem.getD 19 0) (s.mem.getD 18 0) (s.mem.getD 0 0) (g u) _ _ _ _ _ _ _ (s.buf u) from by rw [←hme,hq,hgu];exact (AtO.o21H01 (by first | assumption | rfl | omega | (intro e;dsimp only at e;omega)) (by first | assumption | rfl | omega | (intro e;dsimp only at e;omega)) (by first | assumption | rfl | omega | (intro e;dsimp only at e;omega))))) (by rw [hx];rfl) (by rw [hx]) (by rw [hx];rfl)
  rw [show Loc.th 37 _=_ from th_of rfl] at key
  exact⟨_,_,_,hst,key⟩
 case o20H11 g0 g1 g2=>
  have hi:=ins (i:=⟨16,1,8,0,0⟩) rfl
  rw [movI_plain (i:=⟨16,1,8,0,0⟩) rfl] at hi
  have hst:=st_load hi (ad:=0) (addr_abs _ _ _ _ _) (by rw [hnm];omega)
  have hl:s.load u 0=(s.mem.getD 0 0):=by rw [load_q hq];rfl
  rw [hl] at hst
  have hg:=h.noted (t:=u) ⟨1,0,((p*37+20:Nat):Int),0,(s.mem.getD 0 0),0,0,false⟩ (show (1:Int)≠7 by decide) (show (1:Int)≠13 by decide)
  have key:=W_loc hg ht eL er ej (⟨p,21,r0,(s.mem.getD 0 0),r2,r3,r4,r5,r6,r7,0⟩:Loc) (.inl ⟨rfl,hp,by show 21 < 37;decide⟩) (IO hI ht hne (show AtO (meN u) (s.mem.getD 19 0) (s.mem.getD 18 0) (s.mem.getD 0 0) (g u) _ _ _ _ _ _ _ (s.buf u) from by rw [←hme,hq,hgu];exact (AtO.o21H11 (by first | assumption | rfl | omega | (intro e;dsimp only at e;omega)) (by first | assumption | rfl | omega | (intro e;dsimp only at e;omega)) (by first | assumption | rfl | omega | (intro e;dsimp only at e;omega)) (by first | assumption | rfl | omega | (intro e;dsimp only at e;omega))))) (by rw [hx];rfl) (by rw [hx]) (by rw [hx];rfl)
  rw [show Loc.th 37 _=_ from th_of rfl] at key
  exact⟨_,_,_,hst,key⟩
 case o21H01 g0 g1 g2=>
  have hi:=ins (i:=⟨1,2,0,0,1⟩) rfl
  rw [movI_plain (i:=⟨1,2,0,0,1⟩) rfl] at hi
  have hst:=st_set hi
  have key:=W_loc h ht eL er ej (⟨p,22,r0,r1,(1),r3,r4,r5,r6,r7,0⟩:Loc) (.inl ⟨rfl,hp,by show 22 < 37;decide⟩) (IO hI ht hne (show AtO (meN u) (s.mem.getD 19 0) (s.mem.getD 18 0) (s.mem.getD 0 0) (g u) _ _ _ _ _ _ _ (s.buf u) from by rw [←hme,hq,hgu];exact (AtO.o22H01 (by first | assumption | rfl | (simp_all;done)) (by first | assumption | rfl | (simp_all;done)) (by first | assumption | rfl | (simp_all;done)) (by first | assumption | rfl | (simp_all;done))))) (by rw [hx];rfl) (by rw [hx]) (by rw [hx];rfl)
  rw [show Loc.th 37 _=_ from th_of rfl] at key
  exact⟨_,_,_,hst,key⟩
 case o21H11 g0 g1 g2 g3=>
  have hi:=ins (i:=⟨1,2,0,0,1⟩) rfl
  rw [movI_plain (i:=⟨1,2,0,0,1⟩) rfl] at hi
  have hst:=st_set hi
  have key:=W_loc h ht eL er ej (⟨p,22,r0,r1,(1),r3,r4,r5,r6,r7,0⟩:Loc) (.inl ⟨rfl,hp,by show 22 < 37;decide⟩) (IO hI ht hne (show AtO (meN u) (s.mem.getD 19 0) (s.mem.getD 18 0) (s.mem.getD 0 0) (g u) _ _ _ _ _ _ _ (s.buf u) from by rw [←hme,hq,hgu];exact (AtO.o22H11 (by first | assumption | rfl | (simp_all;done)) (by first | assumption | rfl | (simp_all;done)) (by first | assumption | rfl | (simp_all;done)) (by first | assumption | rfl | (simp_all;done)) (by first | assumption | rfl | (simp_all;done))))) (by rw [hx];rfl) (by rw [hx]) (by rw [hx];rfl)
  rw [show Loc.th 37 _=_ from th_of rfl] at key
  exact⟨_,_,_,hst,key⟩
 case o22H01 g0 g1 g2 g3=>
  have hi:=ins (i:=⟨3,1,1,2,0⟩) rfl
  rw [movI_plain (i:=⟨3,1,1,2,0⟩) rfl] at hi
  have hst:=st_add hi
  have key:=W_loc h ht eL er ej (⟨p,23,r0,(wr32 (r1+r2)),r2,r3,r4,r5,r6,r7,0⟩:Loc) (.inl ⟨rfl,hp,by show 23 < 37;decide⟩) (IO hI ht hne (show AtO (meN u) (s.mem.getD 19 0) (s.mem.getD 18 0) (s.mem.getD 0 0) (g u) _ _ _ _ _ _ _ (s.buf u) from by rw [←hme,hq,hgu];exact (AtO.o23H01 (by first | assumption | rfl | (simp_all;done)) (by first | assumption | rfl | (simp_all;done)) (by first | assumption | rfl | (simp_all;done))))) (by rw [hx];rfl) (by rw [hx]) (by rw [hx];rfl)
  rw [show Loc.th 37 _=_ from th_of rfl] at key
  exact⟨_,_,_,hst,key⟩
 case o22H11 g0 g1 g2 g3 g4=>
  have hi:=ins (i:=⟨3,1,1,2,0⟩) rfl
  rw [movI_plain (i:=⟨3,1,1,2,0⟩) rfl] at hi
  have hst:=st_add hi
  have key:=W_loc h ht eL er ej (⟨p,23,r0,(wr32 (r1+r2)),r2,r3,r4,r5,r6,r7,0⟩:Loc) (.inl ⟨rfl,hp,by show 23 < 37;decide⟩) (IO hI ht hne (show AtO (meN u) (s.mem.getD 19 0) (s.mem.getD 18 0) (s.mem.getD 0 0) (g u) _ _ _ _ _ _ _ (s.buf u) from by rw [←hme,hq,hgu];exact (AtO.o23H11 (by first | assumption | rfl | (simp_all;done)) (by first | assumption | rfl | (simp_all;done)) (by first | assumption | rfl | (simp_all;done)) (by first | assumption | rfl | (simp_all;done))))) (by rw [hx];rfl) (by rw [hx]) (by rw [hx];rfl)
  rw [show Loc.th 37 _=_ from th_of rfl] at key
  exact⟨_,_,_,hst,key⟩
 case o23H01 g0 g1 g2=>
  have hi:=ins (i:=⟨17,1,8,0,0⟩) rfl
  rw [movI_plain (i:=⟨17,1,8,0,0⟩) rfl] at hi
  have hst:=st_store hi (ad:=0) (addr_abs _ _ _ _ _) (by rw [hnm];omega)
  by_cases hro:s.roomy u=true
  ·rw [if_pos hro] at hst
   have hrv:r1=(wr32 (s.mem.getD 0 0+1)):=by assumption
   have hgg:g u=5:=by rw [hgu];assumption
   have key:=W_stored h ht eL er ej ((p*37+23:Nat):Int) 0 r1 (⟨p,24,r0,r1,r2,r3,r4,r5,r6,r7,0⟩:Loc) (.inl ⟨rfl,hp,by show 24 < 37;decide⟩) (⟨_,_,_,_,_,_,_,hI.oth (q':=s.buf u++[(0,r1)]) (g':=g u) ht hne (by rw [←hme,hq,hrv,hgu];exact (AtO.o24H02 (by first | assumption | rfl | (simp_all;done)) (by first | assumption | rfl | (simp_all;done)))) (hI.b2 u ht hne) (hI.b3 u ht hne) (fun e=>(hI.mS e).2.2 u ht hne) (fun e=>⟨(hI.mF e).1 u ht hne,fun h=>h⟩) (hI.cW u ht hne)⟩) (by rw [hx];rfl) (by rw [hx]) (.inr ⟨rfl,by rw [hx],rfl⟩)
   rw [show Loc.th 37 _=_ from th_of rfl] at key
   exact⟨_,_,_,hst,key⟩
  ·rw [if_neg hro] at hst
   exact⟨_,f,i,hst,flush h ht⟩
 case o23H11 g0 g1 g2 g3=>
  have hi:=ins (i:=⟨17,1,8,0,0⟩) rfl
  rw [movI_plain (i:=⟨17,1,8,0,0⟩) rfl] at hi
  have hst:=st_store hi (ad:=0) (addr_abs _ _ _ _ _) (by rw [hnm];omega)
  by_cases hro:s.roomy u=true
  ·rw [if_pos hro] at hst
   have hrv:r1=(wr32 (s.mem.getD 0 0+1)):=by assumption
   have hgg:g u=5:=by rw [hgu];assumption
   have key:=W_stored h ht eL er ej ((p*37+23:Nat):Int) 0 r1 (⟨p,24,r0,r1,r2,r3,r4,r5,r6,r7,0⟩:Loc) (.inl ⟨rfl,hp,by show 24 < 37;decide⟩) (⟨_,_,_,_,_,_,_,hI.oth (q':=s.buf u++[(0,r1)]) (g':=g u) ht hne (by rw [←hme,hq,hrv,hgu];exact (AtO.o24H12 (by first | assumption | rfl | (simp_all;done)) (by first | assumption | rfl | (simp_all;done)) (by first | assumption | rfl | (simp_all;done)))) (hI.b2 u ht hne) (hI.b3 u ht hne) (fun e=>(hI.mS e).2.2 u ht hne) (fun e=>⟨(hI.mF e).1 u ht hne,fun h=>h⟩) (hI.cW u ht hne)⟩) (by rw [hx];rfl) (by rw [hx]) (.inr ⟨rfl,by rw [hx],rfl⟩)
   rw [show Loc.th 37 _=_ from th_of rfl] at key
   exact⟨_,_,_,hst,key⟩
  ·rw [if_neg hro] at hst
   exact⟨_,f,i,hst,flush h ht⟩
 case o24H02 g0 g1=>
  have hi:=ins (i:=⟨27,7,0,0,2⟩) rfl
  rw [movI_plain (i:=⟨27,7,0,0,2⟩) rfl] at hi
  have hmk:=st_mark hi
  have key:=W_leaves h ht eL er ej ((p*37+24:Nat):Int) r7 (⟨p,25,r0,r1,r2,r3,r4,r5,r6,r7,0⟩:Loc) (.inl ⟨rfl,hp,by show 25 < 37;decide⟩) (IO hI ht hne (show AtO (meN u) (s.mem.getD 19 0) (s.mem.getD 18 0) (s.mem.getD 0 0) (g u) _ _ _ _ _ _ _ (s.buf u) from by rw [←hme,hq,hgu];exact (AtO.o25H02 (by first | assumption | rfl | (simp_all;done)) (by first | assumption | rfl | (simp_all;done))))) (by rw [hx];rfl) rfl (by rw [hx]) (by rw [hx];rfl)
  rw [show Loc.th 37 _=_ from th_of rfl] at key
  exact⟨_,_,_,hmk,key⟩
 case o24H12 g0 g1 g2=>
  have hi:=ins (i:=⟨27,7,0,0,2⟩) rfl
  rw [movI_plain (i:=⟨27,7,0,0,2⟩) rfl] at hi
  have hmk:=st_mark hi
  have key:=W_leaves h ht eL er ej ((p*37+24:Nat):Int) r7 (⟨p,25,r0,r1,r2,r3,r4,r5,r6,r7,0⟩:Loc) (.inl ⟨rfl,hp,by show 25 < 37;decide⟩) (IO hI ht hne (show AtO (meN u) (s.mem.getD 19 0) (s.mem.getD 18 0) (s.mem.getD 0 0) (g u) _ _ _ _ _ _ _ (s.buf u) from by rw [←hme,hq,hgu];exact (AtO.o25H12 (by first | assumption | rfl | (simp_all;done)) (by first | assumption | rfl | (simp_all;done)) (by first | assumption | rfl | (simp_all;done))))) (by rw [hx];rfl) rfl (by rw [hx]) (by rw [hx];rfl)
  rw [show Loc.th 37 _=_ from th_of rfl] at key
  exact⟨_,_,_,hmk,key⟩
 case o24H22 g0 g1 g2=>
  have hi:=ins (i:=⟨27,7,0,0,2⟩) rfl
  rw [movI_plain (i:=⟨27,7,0,0,2⟩) rfl] at hi
  have hmk:=st_mark hi
  have key:=W_leaves h ht eL er ej ((p*37+24:Nat):Int) r7 (⟨p,25,r0,r1,r2,r3,r4,r5,r6,r7,0⟩:Loc) (.inl ⟨rfl,hp,by show 25 < 37;decide⟩) (IO hI ht hne (show AtO (meN u) (s.mem.getD 19 0) (s.mem.getD 18 0) (s.mem.getD 0 0) (g u) _ _ _ _ _ _ _ (s.buf u) from by rw [←hme,hq,hgu];exact (AtO.o25H22 (by first | assumption | rfl | (simp_all;done)) (by first | assumption | rfl | (simp_all;done)) (by first | assumption | rfl | (simp_all;done))))) (by rw [hx];rfl) rfl (by rw [hx]) (by rw [hx];rfl)
  rw [show Loc.th 37 _=_ from th_of rfl] at key
  exact⟨_,_,_,hmk,key⟩
 case o25H02 g0 g1=>
  have hi:=ins (i:=⟨16,4,8,0,19⟩) rfl
  rw [movI_plain (i:=⟨16,4,8,0,19⟩) rfl] at hi
  have hst:=st_load hi (ad:=19) (addr_abs _ _ _ _ _) (by rw [hnm];omega)
  have hl:s.load u 19=me:=by rw [load_q hq];rfl
  rw [hl] at hst
  have hg:=h.noted (t:=u) ⟨1,0,((p*37+25:Nat):Int),19,me,0,0,false⟩ (show (1:Int)≠7 by decide) (show (1:Int)≠13 by decide)
  have key:=W_loc hg ht eL er ej (⟨p,26,r0,r1,r2,r3,me,r5,r6,r7,0⟩:Loc) (.inl ⟨rfl,hp,by show 26 < 37;decide⟩) (IO hI ht hne (show AtO (meN u) (s.mem.getD 19 0) (s.mem.getD 18 0) (s.mem.getD 0 0) (g u) _ _ _ _ _ _ _ (s.buf u) from by rw [←hme,hq,hgu];exact (AtO.o26H02 (by first | assumption | rfl | omega | (intro e;dsimp only at e;omega)) (by first | assumption | rfl | omega | (intro e;dsimp only at e;omega)) (by first | assumption | rfl | omega | (intro e;dsimp only at e;omega))))) (by rw [hx];rfl) (by rw [hx]) (by rw [hx];rfl)
  rw [show Loc.th 37 _=_ from th_of rfl] at key
  exact⟨_,_,_,hst,key⟩
 case o25H12 g0 g1 g2=>
  have hi:=ins (i:=⟨16,4,8,0,19⟩) rfl
  rw [movI_plain (i:=⟨16,4,8,0,19⟩) rfl] at hi
  have hst:=st_load hi (ad:=19) (addr_abs _ _ _ _ _) (by rw [hnm];omega)
  have hl:s.load u 19=(s.mem.getD 19 0):=by rw [load_q hq];rfl
  rw [hl] at hst
  have hg:=h.noted (t:=u) ⟨1,0,((p*37+25:Nat):Int),19,(s.mem.getD 19 0),0,0,false⟩ (show (1:Int)≠7 by decide) (show (1:Int)≠13 by decide)
  have key:=W_loc hg ht eL er ej (⟨p,26,r0,r1,r2,r3,(s.mem.getD 19 0),r5,r6,r7,0⟩:Loc) (.inl ⟨rfl,hp,by show 26 < 37;decide⟩) (IO hI ht hne (show AtO (meN u) (s.mem.getD 19 0) (s.mem.getD 18 0) (s.mem.getD 0 0) (g u) _ _ _ _ _ _ _ (s.buf u) from by rw [←hme,hq,hgu];exact (AtO.o26H12 (by first | assumption | rfl | omega | (intro e;dsimp only at e;omega)) (by first | assumption | rfl | omega | (intro e;dsimp only at e;omega)) (by first | assumption | rfl | omega | (intro e;dsimp only at e;omega)) (by first | assumption | rfl | omega | (intro e;dsimp only at e;omega))))) (by rw [hx];rfl) (by rw [hx]) (by rw [hx];rfl)
  rw [show Loc.th 37 _=_ from th_of rfl] at key
  exact⟨_,_,_,hst,key⟩
 case o25H22 g0 g1 g2=>
  have hi:=ins (i:=⟨16,4,8,0,19⟩) rfl
  rw [movI_plain (i:=⟨16,4,8,0,19⟩) rfl] at hi
  have hst:=st_load hi (ad:=19) (addr_abs _ _ _ _ _) (by rw [hnm];omega)
  have hl:s.load u 19=(s.mem.getD 19 0):=by rw [load_q hq];rfl
  rw [hl] at hst
  have hg:=h.noted (t:=u) ⟨1,0,((p*37+25:Nat):Int),19,(s.mem.getD 19 0),0,0,false⟩ (show (1:Int)≠7 by decide) (show (1:Int)≠13 by decide)
  have key:=W_loc hg ht eL er ej (⟨p,26,r0,r1,r2,r3,(s.mem.getD 19 0),r5,r6,r7,0⟩:Loc) (.inl ⟨rfl,hp,by show 26 < 37;decide⟩) (IO hI ht hne (show AtO (meN u) (s.mem.getD 19 0) (s.mem.getD 18 0) (s.mem.getD 0 0) (g u) _ _ _ _ _ _ _ (s.buf u) from by rw [←hme,hq,hgu];exact (AtO.o26H22 (by first | assumption | rfl | omega | (intro e;dsimp only at e;omega)) (by first | assumption | rfl | omega | (intro e;dsimp only at e;omega)) (by first | assumption | rfl | omega | (intro e;dsimp only at e;omega)) (by first | assumption | rfl | omega | (intro e;dsimp only at e;omega))))) (by rw [hx];rfl) (by rw [hx]) (by rw [hx];rfl)
  rw [show Loc.th 37 _=_ from th_of rfl] at key
  exact⟨_,_,_,hst,key⟩
 case o26H02 g0 g1 g2=>
  have hi:=ins (i:=⟨1,5,0,0,me⟩) rfl
  rw [movI_plain (i:=⟨1,5,0,0,me⟩) rfl] at hi
  have hst:=st_set hi
  have key:=W_loc h ht eL er ej (⟨p,27,r0,r1,r2,r3,r4,(me),r6,r7,0⟩:Loc) (.inl ⟨rfl,hp,by show 27 < 37;decide⟩) (IO hI ht hne (show AtO (meN u) (s.mem.getD 19 0) (s.mem.getD 18 0) (s.mem.getD 0 0) (g u) _ _ _ _ _ _ _ (s.buf u) from by rw [←hme,hq,hgu];exact (AtO.o27H02 (by first | assumption | rfl | (simp_all;done)) (by first | assumption | rfl | (simp_all;done)) (by first | assumption | rfl | (simp_all;done)) (by first | assumption | rfl | (simp_all;done))))) (by rw [hx];rfl) (by rw [hx]) (by rw [hx];rfl)
  rw [show Loc.th 37 _=_ from th_of rfl] at key
  exact⟨_,_,_,hst,key⟩
 case o26H12 g0 g1 g2 g3=>
  have hi:=ins (i:=⟨1,5,0,0,me⟩) rfl
  rw [movI_plain (i:=⟨1,5,0,0,me⟩) rfl] at hi
  have hst:=st_set hi
  have key:=W_loc h ht eL er ej (⟨p,27,r0,r1,r2,r3,r4,(me),r6,r7,0⟩:Loc) (.inl ⟨rfl,hp,by show 27 < 37;decide⟩) (IO hI ht hne (show AtO (meN u) (s.mem.getD 19 0) (s.mem.getD 18 0) (s.mem.getD 0 0) (g u) _ _ _ _ _ _ _ (s.buf u) from by rw [←hme,hq,hgu];exact (AtO.o27H12 (by first | assumption | rfl | (simp_all;done)) (by first | assumption | rfl | (simp_all;done)) (by first | assumption | rfl | (simp_all;done)) (by first | assumption | rfl | (simp_all;done)) (by first | assumption | rfl | (simp_all;done))))) (by rw [hx];rfl) (by rw [hx]) (by rw [hx];rfl)
  rw [show Loc.th 37 _=_ from th_of rfl] at key
  exact⟨_,_,_,hst,key⟩
 case o26H22 g0 g1 g2 g3=>
  have hi:=ins (i:=⟨1,5,0,0,me⟩) rfl
  rw [movI_plain (i:=⟨1,5,0,0,me⟩) rfl] at hi
  have hst:=st_set hi
  have key:=W_loc h ht eL er ej (⟨p,27,r0,r1,r2,r3,r4,(me),r6,r7,0⟩:Loc) (.inl ⟨rfl,hp,by show 27 < 37;decide⟩) (IO hI ht hne (show AtO (meN u) (s.mem.getD 19 0) (s.mem.getD 18 0) (s.mem.getD 0 0) (g u) _ _ _ _ _ _ _ (s.buf u) from by rw [←hme,hq,hgu];exact (AtO.o27H22 (by first | assumption | rfl | (simp_all;done)) (by first | assumption | rfl | (simp_all;done)) (by first | assumption | rfl | (simp_all;done)) (by first | assumption | rfl | (simp_all;done)) (by first | assumption | rfl | (simp_all;done))))) (by rw [hx];rfl) (by rw [hx]) (by rw [hx];rfl)
  rw [show Loc.th 37 _=_ from th_of rfl] at key
  exact⟨_,_,_,hst,key⟩
 case o27H02 g0 g1 g2 g3=>
  have hi:=ins (i:=⟨12,6,4,5,0⟩) rfl
  rw [movI_plain (i:=⟨12,6,4,5,0⟩) rfl] at hi
  have hst:=st_same hi
  have hv:(if r4=r5 then (1:Int) else 0)=1:=by simp_all
  have key:=W_loc h ht eL er ej (⟨p,28,r0,r1,r2,r3,r4,r5,(if r4=r5 then (1:Int) else 0),r7,0⟩:Loc) (.inl ⟨rfl,hp,by show 28 < 37;decide⟩) (IO hI ht hne (show AtO (meN u) (s.mem.getD 19 0) (s.mem.getD 18 0) (s.mem.getD 0 0) (g u) _ _ _ _ _ _ _ (s.buf u) from by rw [←hme,hq,hgu];exact (AtO.o28H02 (by first | assumption | exact hv | (rw [hv];decide)) (by first | assumption | exact hv | (rw [hv];decide)) (by first | assumption | exact hv | (rw [hv];decide))))) (by rw [hx];rfl) (by rw [hx]) (by rw [hx];rfl)
  rw [show Loc.th 37 _=_ from th_of rfl] at key
  exact⟨_,_,_,hst,key⟩
 case o27H12 g0 g1 g2 g3 g4=>
  have hi:=ins (i:=⟨12,6,4,5,0⟩) rfl
  rw [movI_plain (i:=⟨12,6,4,5,0⟩) rfl] at hi
  have hst:=st_same hi
  have hv:(if r4=r5 then (1:Int) else 0)=1:=by simp_all
  have key:=W_loc h ht eL er ej (⟨p,28,r0,r1,r2,r3,r4,r5,(if r4=r5 then (1:Int) else 0),r7,0⟩:Loc) (.inl ⟨rfl,hp,by show 28 < 37;decide⟩) (IO hI ht hne (show AtO (meN u) (s.mem.getD 19 0) (s.mem.getD 18 0) (s.mem.getD 0 0) (g u) _ _ _ _ _ _ _ (s.buf u) from by rw [←hme,hq,hgu];exact (AtO.o28H12 (by first | assumption | exact hv | (rw [hv];decide)) (by first | assumption | exact hv | (rw [hv];decide)) (by first | assumption | exact hv | (rw [hv];decide)) (by first | assumption | exact hv | (rw [hv];decide))))) (by rw [hx];rfl) (by rw [hx]) (by rw [hx];rfl)
  rw [show Loc.th 37 _=_ from th_of rfl] at key
  exact⟨_,_,_,hst,key⟩
 case o27H22 g0 g1 g2 g3 g4=>
  have hi:=ins (i:=⟨12,6,4,5,0⟩) rfl
  rw [movI_plain (i:=⟨12,6,4,5,0⟩) rfl] at hi
  have hst:=st_same hi
  have hv:(if r4=r5 then (1:Int) else 0)=1:=by simp_all
  have key:=W_loc h ht eL er ej (⟨p,28,r0,r1,r2,r3,r4,r5,(if r4=r5 then (1:Int) else 0),r7,0⟩:Loc) (.inl ⟨rfl,hp,by show 28 < 37;decide⟩) (IO hI ht hne (show AtO (meN u) (s.mem.getD 19 0) (s.mem.getD 18 0) (s.mem.getD 0 0) (g u) _ _ _ _ _ _ _ (s.buf u) from by rw [←hme,hq,hgu];exact (AtO.o28H22 (by first | assumption | exact hv | (rw [hv];decide)) (by first | assumption | exact hv | (rw [hv];decide)) (by first | assumption | exact hv | (rw [hv];decide)) (by first | assumption | exact hv | (rw [hv];decide))))) (by rw [hx];rfl) (by rw [hx]) (by rw [hx];rfl)
  rw [show Loc.th 37 _=_ from th_of rfl] at key
  exact⟨_,_,_,hst,key⟩
 case o28H02 g0 g1 g2=>
  have hi:=ins (i:=⟨15,6,0,0,31⟩) rfl
  rw [movI_jump (i:=⟨15,6,0,0,31⟩) rfl] at hi
  have hst:=st_some hi
  by_cases hz:r6≠0
  ·rw [if_pos (by exact hz)] at hst
   have key:=W_loc h ht eL er ej (⟨p,31,r0,r1,r2,r3,r4,r5,r6,r7,0⟩:Loc) (.inl ⟨rfl,hp,by show 31 < 37;decide⟩) (IO hI ht hne (show AtO (meN u) (s.mem.getD 19 0) (s.mem.getD 18 0) (s.mem.getD 0 0) (g u) _ _ _ _ _ _ _ (s.buf u) from by rw [←hme,hq,hgu];exact (AtO.o31H02 (by first | assumption | (simp_all;done)) (by first | assumption | (simp_all;done))))) (by rw [hx];rfl) (by rw [hx]) (by rw [hx];rfl)
   rw [show Loc.th 37 _=_ from th_jmp (by omega) (by decide) (by decide)] at key
   exact⟨_,_,_,hst,key⟩
  ·rw [if_neg (by exact hz)] at hst
   exfalso;simp_all
 case o28H12 g0 g1 g2 g3=>
  have hi:=ins (i:=⟨15,6,0,0,31⟩) rfl
  rw [movI_jump (i:=⟨15,6,0,0,31⟩) rfl] at hi
  have hst:=st_some hi
  by_cases hz:r6≠0
  ·rw [if_pos (by exact hz)] at hst
   have key:=W_loc h ht eL er ej (⟨p,31,r0,r1,r2,r3,r4,r5,r6,r7,0⟩:Loc) (.inl ⟨rfl,hp,by show 31 < 37;decide⟩) (IO hI ht hne (show AtO (meN u) (s.mem.getD 19 0) (s.mem.getD 18 0) (s.mem.getD 0 0) (g u) _ _ _ _ _ _ _ (s.buf u) from by rw [←hme,hq,hgu];exact (AtO.o31H12 (by first | assumption | (simp_all;done)) (by first | assumption | (simp_all;done)) (by first | assumption | (simp_all;done))))) (by rw [hx];rfl) (by rw [hx]) (by rw [hx];rfl)
   rw [show Loc.th 37 _=_ from th_jmp (by omega) (by decide) (by decide)] at key
   exact⟨_,_,_,hst,key⟩
  ·rw [if_neg (by exact hz)] at hst
   exfalso;simp_all
 case o28H22 g0 g1 g2 g3=>
  have hi:=ins (i:=⟨15,6,0,0,31⟩) rfl
  rw [movI_jump (i:=⟨15,6,0,0,31⟩) rfl] at hi
  have hst:=st_some hi
  by_cases hz:r6≠0
  ·rw [if_pos (by exact hz)] at hst
   have key:=W_loc h ht eL er ej (⟨p,31,r0,r1,r2,r3,r4,r5,r6,r7,0⟩:Loc) (.inl ⟨rfl,hp,by show 31 < 37;decide⟩) (IO hI ht hne (show AtO (meN u) (s.mem.getD 19 0) (s.mem.getD 18 0) (s.mem.getD 0 0) (g u) _ _ _ _ _ _ _ (s.buf u) from by rw [←hme,hq,hgu];exact (AtO.o31H22 (by first | assumption | (simp_all;done)) (by first | assumption | (simp_all;done)) (by first | assumption | (simp_all;done))))) (by rw [hx];rfl) (by rw [hx]) (by rw [hx];rfl)
   rw [show Loc.th 37 _=_ from th_jmp (by omega) (by decide) (by decide)] at key
   exact⟨_,_,_,hst,key⟩
  ·rw [if_neg (by exact hz)] at hst
   exfalso;simp_all
 case o31H02 g0 g1=>
  have hi:=ins (i:=⟨1,4,0,0,0⟩) rfl
  rw [movI_plain (i:=⟨1,4,0,0,0⟩) rfl] at hi
  have hst:=st_set hi
  have key:=W_loc h ht eL er ej (⟨p,32,r0,r1,r2,r3,(0),r5,r6,r7,0⟩:Loc) (.inl ⟨rfl,hp,by show 32 < 37;decide⟩) (IO hI ht hne (show AtO (meN u) (s.mem.getD 19 0) (s.mem.getD 18 0) (s.mem.getD 0 0) (g u) _ _ _ _ _ _ _ (s.buf u) from by rw [←hme,hq,hgu];exact (AtO.o32H02 (by first | assumption | rfl | (simp_all;done)) (by first | assumption | rfl | (simp_all;done)) (by first | assumption | rfl | (simp_all;done))))) (by rw [hx];rfl) (by rw [hx]) (by rw [hx];rfl)
  rw [show Loc.th 37 _=_ from th_of rfl] at key
  exact⟨_,_,_,hst,key⟩
 case o31H12 g0 g1 g2=>
  have hi:=ins (i:=⟨1,4,0,0,0⟩) rfl
  rw [movI_plain (i:=⟨1,4,0,0,0⟩) rfl] at hi
  have hst:=st_set hi
  have key:=W_loc h ht eL er ej (⟨p,32,r0,r1,r2,r3,(0),r5,r6,r7,0⟩:Loc) (.inl ⟨rfl,hp,by show 32 < 37;decide⟩) (IO hI ht hne (show AtO (meN u) (s.mem.getD 19 0) (s.mem.getD 18 0) (s.mem.getD 0 0) (g u) _ _ _ _ _ _ _ (s.buf u) from by rw [←hme,hq,hgu];exact (AtO.o32H12 (by first | assumption | rfl | (simp_all;done)) (by first | assumption | rfl | (simp_all;done)) (by first | assumption | rfl | (simp_all;done)) (by first | assumption | rfl | (simp_all;done))))) (by rw [hx];rfl) (by rw [hx]) (by rw [hx];rfl)
  rw [show Loc.th 37 _=_ from th_of rfl] at key
  exact⟨_,_,_,hst,key⟩
 case o31H22 g0 g1 g2=>
  have hi:=ins (i:=⟨1,4,0,0,0⟩) rfl
  rw [movI_plain (i:=⟨1,4,0,0,0⟩) rfl] at hi
  have hst:=st_set hi
  have key:=W_loc h ht eL er ej (⟨p,32,r0,r1,r2,r3,(0),r5,r6,r7,0⟩:Loc) (.inl ⟨rfl,hp,by show 32 < 37;decide⟩) (IO hI ht hne (show AtO (meN u) (s.mem.getD 19 0) (s.mem.getD 18 0) (s.mem.getD 0 0) (g u) _ _ _ _ _ _ _ (s.buf u) from by rw [←hme,hq,hgu];exact (AtO.o32H22 (by first | assumption | rfl | (simp_all;done)) (by first | assumption | rfl | (simp_all;done)) (by first | assumption | rfl | (simp_all;done)) (by first | assumption | rfl | (simp_all;done))))) (by rw [hx];rfl) (by rw [hx]) (by rw [hx];rfl)
  rw [show Loc.th 37 _=_ from th_of rfl] at key
  exact⟨_,_,_,hst,key⟩
 case o32H02 g0 g1 g2=>
  have hi:=ins (i:=⟨17,4,8,0,19⟩) rfl
  rw [movI_plain (i:=⟨17,4,8,0,19⟩) rfl] at hi
  have hst:=st_store hi (ad:=19) (addr_abs _ _ _ _ _) (by rw [hnm];omega)
  by_cases hro:s.roomy u=true
  ·rw [if_pos hro] at hst
   have hrv:r4=0:=by assumption
   have hgg:g u=5:=by rw [hgu];assumption
   have key:=W_stored h ht eL er ej ((p*37+32:Nat):Int) 19 r4 (⟨p,33,r0,r1,r2,r3,r4,r5,r6,r7,0⟩:Loc) (.inl ⟨rfl,hp,by show 33 < 37;decide⟩) (⟨_,_,_,_,_,_,_,hI.oth (q':=s.buf u++[(19,r4)]) (g':=g u) ht hne (by rw [←hme,hq,hrv,hgu];exact (AtO.o33H03 (by first | assumption | rfl | (simp_all;done)) (by first | assumption | rfl | (simp_all;done)))) (hI.b2 u ht hne) (hI.b3 u ht hne) (fun e=>(hI.mS e).2.2 u ht hne) (fun e=>⟨(hI.mF e).1 u ht hne,fun h=>h⟩) (hI.cW u ht hne)⟩) (by rw [hx];rfl) (by rw [hx]) (.inl ⟨by decide,by rw [hx];rfl⟩)
   rw [show Loc.th 37 _=_ from th_of rfl] at key
   exact⟨_,_,_,hst,key⟩
  ·rw [if_neg hro] at hst
   exact⟨_,f,i,hst,flush h ht⟩
 case o32H12 g0 g1 g2 g3=>
  have hi:=ins (i:=⟨17,4,8,0,19⟩) rfl
  rw [movI_plain (i:=⟨17,4,8,0,19⟩) rfl] at hi
  have hst:=st_store hi (ad:=19) (addr_abs _ _ _ _ _) (by rw [hnm];omega)
  by_cases hro:s.roomy u=true
  ·rw [if_pos hro] at hst
   have hrv:r4=0:=by assumption
   have hgg:g u=5:=by rw [hgu];assumption
   have key:=W_stored h ht eL er ej ((p*37+32:Nat):Int) 19 r4 (⟨p,33,r0,r1,r2,r3,r4,r5,r6,r7,0⟩:Loc) (.inl ⟨rfl,hp,by show 33 < 37;decide⟩) (⟨_,_,_,_,_,_,_,hI.oth (q':=s.buf u++[(19,r4)]) (g':=g u) ht hne (by rw [←hme,hq,hrv,hgu];exact (AtO.o33H13 (by first | assumption | rfl | (simp_all;done)) (by first | assumption | rfl | (simp_all;done)) (by first | assumption | rfl | (simp_all;done)))) (hI.b2 u ht hne) (hI.b3 u ht hne) (fun e=>(hI.mS e).2.2 u ht hne) (fun e=>⟨(hI.mF e).1 u ht hne,fun h=>h⟩) (hI.cW u ht hne)⟩) (by rw [hx];rfl) (by rw [hx]) (.inl ⟨by decide,by rw [hx];rfl⟩)
   rw [show Loc.th 37 _=_ from th_of rfl] at key
   exact⟨_,_,_,hst,key⟩
  ·rw [if_neg hro] at hst
   exact⟨_,f,i,hst,flush h ht⟩
 case o32H22 g0 g1 g2 g3=>
  have hi:=ins (i:=⟨17,4,8,0,19⟩) rfl
  rw [movI_plain (i:=⟨17,4,8,0,19⟩) rfl] at hi
  have hst:=st_store hi (ad:=19) (addr_abs _ _ _ _ _) (by rw [hnm];omega)
  by_cases hro:s.roomy u=true
  ·rw [if_pos hro] at hst
   have hrv:r4=0:=by assumption
   have hgg:g u=5:=by rw [hgu];assumption
   have key:=W_stored h ht eL er ej ((p*37+32:Nat):Int) 19 r4 (⟨p,33,r0,r1,r2,r3,r4,r5,r6,r7,0⟩:Loc) (.inl ⟨rfl,hp,by show 33 < 37;decide⟩) (⟨_,_,_,_,_,_,_,hI.oth (q':=s.buf u++[(19,r4)]) (g':=g u) ht hne (by rw [←hme,hq,hrv,hgu];exact (AtO.o33H23 (by first | assumption | rfl | (simp_all;done)) (by first | assumption | rfl | (simp_all;done)) (by first | assumption | rfl | (simp_all;done)))) (hI.b2 u ht hne) (hI.b3 u ht hne) (fun e=>(hI.mS e).2.2 u ht hne) (fun e=>⟨(hI.mF e).1 u ht hne,fun h=>h⟩) (hI.cW u ht hne)⟩) (by rw [hx];rfl) (by rw [hx]) (.inl ⟨by decide,by rw [hx];rfl⟩)
   rw [show Loc.th 37 _=_ from th_of rfl] at key
   exact⟨_,_,_,hst,key⟩
  ·rw [if_neg hro] at hst
   exact⟨_,f,i,hst,flush h ht⟩
 case o33H03 g0 g1=>
  have hi:=ins (i:=⟨1,4,0,0,0⟩) rfl
  rw [movI_plain (i:=⟨1,4,0,0,0⟩) rfl] at hi
  have hst:=st_set hi
  have key:=W_loc h ht eL er ej (⟨p,34,r0,r1,r2,r3,(0),r5,r6,r7,0⟩:Loc) (.inl ⟨rfl,hp,by show 34 < 37;decide⟩) (IO hI ht hne (show AtO (meN u) (s.mem.getD 19 0) (s.mem.getD 18 0) (s.mem.getD 0 0) (g u) _ _ _ _ _ _ _ (s.buf u) from by rw [←hme,hq,hgu];exact (AtO.o34H03 (by first | assumption | rfl | (simp_all;done)) (by first | assumption | rfl | (simp_all;done)) (by first | assumption | rfl | (simp_all;done))))) (by rw [hx];rfl) (by rw [hx]) (by rw [hx];rfl)
  rw [show Loc.th 37 _=_ from th_of rfl] at key
  exact⟨_,_,_,hst,key⟩
 case o33H13 g0 g1 g2=>
  have hi:=ins (i:=⟨1,4,0,0,0⟩) rfl
  rw [movI_plain (i:=⟨1,4,0,0,0⟩) rfl] at hi
  have hst:=st_set hi
  have key:=W_loc h ht eL er ej (⟨p,34,r0,r1,r2,r3,(0),r5,r6,r7,0⟩:Loc) (.inl ⟨rfl,hp,by show 34 < 37;decide⟩) (IO hI ht hne (show AtO (meN u) (s.mem.getD 19 0) (s.mem.getD 18 0) (s.mem.getD 0 0) (g u) _ _ _ _ _ _ _ (s.buf u) from by rw [←hme,hq,hgu];exact (AtO.o34H13 (by first | assumption | rfl | (simp_all;done)) (by first | assumption | rfl | (simp_all;done)) (by first | assumption | rfl | (simp_all;done)) (by first | assumption | rfl | (simp_all;done))))) (by rw [hx];rfl) (by rw [hx]) (by rw [hx];rfl)
  rw [show Loc.th 37 _=_ from th_of rfl] at key
  exact⟨_,_,_,hst,key⟩
 case o33H23 g0 g1 g2=>
  have hi:=ins (i:=⟨1,4,0,0,0⟩) rfl
  rw [movI_plain (i:=⟨1,4,0,0,0⟩) rfl] at hi
  have hst:=st_set hi
  have key:=W_loc h ht eL er ej (⟨p,34,r0,r1,r2,r3,(0),r5,r6,r7,0⟩:Loc) (.inl ⟨rfl,hp,by show 34 < 37;decide⟩) (IO hI ht hne (show AtO (meN u) (s.mem.getD 19 0) (s.mem.getD 18 0) (s.mem.getD 0 0) (g u) _ _ _ _ _ _ _ (s.buf u) from by rw [←hme,hq,hgu];exact (AtO.o34H23 (by first | assumption | rfl | (simp_all;done)) (by first | assumption | rfl | (simp_all;done)) (by first | assumption | rfl | (simp_all;done)) (by first | assumption | rfl | (simp_all;done))))) (by rw [hx];rfl) (by rw [hx]) (by rw [hx];rfl)
  rw [show Loc.th 37 _=_ from th_of rfl] at key
  exact⟨_,_,_,hst,key⟩
 case o33H33 g0 g1 g2=>
  have hi:=ins (i:=⟨1,4,0,0,0⟩) rfl
  rw [movI_plain (i:=⟨1,4,0,0,0⟩) rfl] at hi
  have hst:=st_set hi
  have key:=W_loc h ht eL er ej (⟨p,34,r0,r1,r2,r3,(0),r5,r6,r7,0⟩:Loc) (.inl ⟨rfl,hp,by show 34 < 37;decide⟩) (IO hI ht hne (show AtO (meN u) (s.mem.getD 19 0) (s.mem.getD 18 0) (s.mem.getD 0 0) (g u) _ _ _ _ _ _ _ (s.buf u) from by rw [←hme,hq,hgu];exact (AtO.o34H33 (by first | assumption | rfl | (simp_all;done)) (by first | assumption | rfl | (simp_all;done)) (by first | assumption | rfl | (simp_all;done)) (by first | assumption | rfl | (simp_all;done))))) (by rw [hx];rfl) (by rw [hx]) (by rw [hx];rfl)
  rw [show Loc.th 37 _=_ from th_of rfl] at key
  exact⟨_,_,_,hst,key⟩
 case o34H03 g0 g1 g2=>
  have hi:=ins (i:=⟨17,4,8,0,18⟩) rfl
  rw [movI_plain (i:=⟨17,4,8,0,18⟩) rfl] at hi
  have hst:=st_store hi (ad:=18) (addr_abs _ _ _ _ _) (by rw [hnm];omega)
  by_cases hro:s.roomy u=true
  ·rw [if_pos hro] at hst
   have hrv:r4=0:=by assumption
   have hgg:g u=5:=by rw [hgu];assumption
   have key:=W_stored h ht eL er ej ((p*37+34:Nat):Int) 18 r4 (⟨p,35,r0,r1,r2,r3,r4,r5,r6,r7,0⟩:Loc) (.inl ⟨rfl,hp,by show 35 < 37;decide⟩) (⟨_,_,_,_,_,_,_,hI.oth (q':=s.buf u++[(18,r4)]) (g':=g u) ht hne (by rw [←hme,hq,hrv,hgu];exact (AtO.o35H04 (by first | assumption | rfl | (simp_all;done)) (by first | assumption | rfl | (simp_all;done)))) (hI.b2 u ht hne) (hI.b3 u ht hne) (fun e=>(hI.mS e).2.2 u ht hne) (fun e=>⟨(hI.mF e).1 u ht hne,fun h=>h⟩) (hI.cW u ht hne)⟩) (by rw [hx];rfl) (by rw [hx]) (.inl ⟨by decide,by rw [hx];rfl⟩)
   rw [show Loc.th 37 _=_ from th_of rfl] at key
   exact⟨_,_,_,hst,key⟩
  ·rw [if_neg hro] at hst
   exact⟨_,f,i,hst,flush h ht⟩
 case o34H13 g0 g1 g2 g3=>
  have hi:=ins (i:=⟨17,4,8,0,18⟩) rfl
  rw [movI_plain (i:=⟨17,4,8,0,18⟩) rfl] at hi
  have hst:=st_store hi (ad:=18) (addr_abs _ _ _ _ _) (by rw [hnm];omega)
  by_cases hro:s.roomy u=true
  ·rw [if_pos hro] at hst
   have hrv:r4=0:=by assumption
   have hgg:g u=5:=by rw [hgu];assumption
   have key:=W_stored h ht eL er ej ((p*37+34:Nat):Int) 18 r4 (⟨p,35,r0,r1,r2,r3,r4,r5,r6,r7,0⟩:Loc) (.inl ⟨rfl,hp,by show 35 < 37;decide⟩) (⟨_,_,_,_,_,_,_,hI.oth (q':=s.buf u++[(18,r4)]) (g':=g u) ht hne (by rw [←hme,hq,hrv,hgu];exact (AtO.o35H14 (by first | assumption | rfl | (simp_all;done)) (by first | assumption | rfl | (simp_all;done)) (by first | assumption | rfl | (simp_all;done)))) (hI.b2 u ht hne) (hI.b3 u ht hne) (fun e=>(hI.mS e).2.2 u ht hne) (fun e=>⟨(hI.mF e).1 u ht hne,fun h=>h⟩) (hI.cW u ht hne)⟩) (by rw [hx];rfl) (by rw [hx]) (.inl ⟨by decide,by rw [hx];rfl⟩)
   rw [show Loc.th 37 _=_ from th_of rfl] at key
   exact⟨_,_,_,hst,key⟩
  ·rw [if_neg hro] at hst
   exact⟨_,f,i,hst,flush h ht⟩
 case o34H23 g0 g1 g2 g3=>
  have hi:=ins (i:=⟨17,4,8,0,18⟩) rfl
  rw [movI_plain (i:=⟨17,4,8,0,18⟩) rfl] at hi
  have hst:=st_store hi (ad:=18) (addr_abs _ _ _ _ _) (by rw [hnm];omega)
  by_cases hro:s.roomy u=true
  ·rw [if_pos hro] at hst
   have hrv:r4=0:=by assumption
   have hgg:g u=5:=by rw [hgu];assumption
   have key:=W_stored h ht eL er ej ((p*37+34:Nat):Int) 18 r4 (⟨p,35,r0,r1,r2,r3,r4,r5,r6,r7,0⟩:Loc) (.inl ⟨rfl,hp,by show 35 < 37;decide⟩) (⟨_,_,_,_,_,_,_,hI.oth (q':=s.buf u++[(18,r4)]) (g':=g u) ht hne (by rw [←hme,hq,hrv,hgu];exact (AtO.o35H24 (by first | assumption | rfl | (simp_all;done)) (by first | assumption | rfl | (simp_all;done)) (by first | assumption | rfl | (simp_all;done)))) (hI.b2 u ht hne) (hI.b3 u ht hne) (fun e=>(hI.mS e).2.2 u ht hne) (fun e=>⟨(hI.mF e).1 u ht hne,fun h=>h⟩) (hI.cW u ht hne)⟩) (by rw [hx];rfl) (by rw [hx]) (.inl ⟨by decide,by rw [hx];rfl⟩)
   rw [show Loc.th 37 _=_ from th_of rfl] at key
   exact⟨_,_,_,hst,key⟩
  ·rw [if_neg hro] at hst
   exact⟨_,f,i,hst,flush h ht⟩
 case o34H33 g0 g1 g2 g3=>
  have hi:=ins (i:=⟨17,4,8,0,18⟩) rfl
  rw [movI_plain (i:=⟨17,4,8,0,18⟩) rfl] at hi
  have hst:=st_store hi (ad:=18) (addr_abs _ _ _ _ _) (by rw [hnm];omega)
  by_cases hro:s.roomy u=true
  ·rw [if_pos hro] at hst
   have hrv:r4=0:=by assumption
   have hgg:g u=5:=by rw [hgu];assumption
   have key:=W_stored h ht eL er ej ((p*37+34:Nat):Int) 18 r4 (⟨p,35,r0,r1,r2,r3,r4,r5,r6,r7,0⟩:Loc) (.inl ⟨rfl,hp,by show 35 < 37;decide⟩) (⟨_,_,_,_,_,_,_,hI.oth (q':=s.buf u++[(18,r4)]) (g':=g u) ht hne (by rw [←hme,hq,hrv,hgu];exact (AtO.o35H34 (by first | assumption | rfl | (simp_all;done)) (by first | assumption | rfl | (simp_all;done)) (by first | assumption | rfl | (simp_all;done)))) (hI.b2 u ht hne) (hI.b3 u ht hne) (fun e=>(hI.mS e).2.2 u ht hne) (fun e=>⟨(hI.mF e).1 u ht hne,fun h=>h⟩) (hI.cW u ht hne)⟩) (by rw [hx];rfl) (by rw [hx]) (.inl ⟨by decide,by rw [hx];rfl⟩)
   rw [show Loc.th 37 _=_ from th_of rfl] at key
   exact⟨_,_,_,hst,key⟩
  ·rw [if_neg hro] at hst
   exact⟨_,f,i,hst,flush h ht⟩
 case o35H04 g0 g1=>
  have hi:=ins (i:=⟨1,7,0,0,0⟩) rfl
  rw [movI_plain (i:=⟨1,7,0,0,0⟩) rfl] at hi
  have hst:=st_set hi
  have key:=W_loc h ht eL er ej (⟨p,36,r0,r1,r2,r3,r4,r5,r6,(0),0⟩:Loc) (.inl ⟨rfl,hp,by show 36 < 37;decide⟩) (IO hI ht hne (show AtO (meN u) (s.mem.getD 19 0) (s.mem.getD 18 0) (s.mem.getD 0 0) (g u) _ _ _ _ _ _ _ (s.buf u) from by rw [←hme,hq,hgu];exact (AtO.o36H04 (by first | assumption | rfl | (simp_all;done)) (by first | assumption | rfl | (simp_all;done)) (by first | assumption | rfl | (simp_all;done))))) (by rw [hx];rfl) (by rw [hx]) (by rw [hx];rfl)
  rw [show Loc.th 37 _=_ from th_of rfl] at key
  exact⟨_,_,_,hst,key⟩
 case o35H14 g0 g1 g2=>
  have hi:=ins (i:=⟨1,7,0,0,0⟩) rfl
  rw [movI_plain (i:=⟨1,7,0,0,0⟩) rfl] at hi
  have hst:=st_set hi
  have key:=W_loc h ht eL er ej (⟨p,36,r0,r1,r2,r3,r4,r5,r6,(0),0⟩:Loc) (.inl ⟨rfl,hp,by show 36 < 37;decide⟩) (IO hI ht hne (show AtO (meN u) (s.mem.getD 19 0) (s.mem.getD 18 0) (s.mem.getD 0 0) (g u) _ _ _ _ _ _ _ (s.buf u) from by rw [←hme,hq,hgu];exact (AtO.o36H14 (by first | assumption | rfl | (simp_all;done)) (by first | assumption | rfl | (simp_all;done)) (by first | assumption | rfl | (simp_all;done)) (by first | assumption | rfl | (simp_all;done))))) (by rw [hx];rfl) (by rw [hx]) (by rw [hx];rfl)
  rw [show Loc.th 37 _=_ from th_of rfl] at key
  exact⟨_,_,_,hst,key⟩
 case o35H24 g0 g1 g2=>
  have hi:=ins (i:=⟨1,7,0,0,0⟩) rfl
  rw [movI_plain (i:=⟨1,7,0,0,0⟩) rfl] at hi
  have hst:=st_set hi
  have key:=W_loc h ht eL er ej (⟨p,36,r0,r1,r2,r3,r4,r5,r6,(0),0⟩:Loc) (.inl ⟨rfl,hp,by show 36 < 37;decide⟩) (IO hI ht hne (show AtO (meN u) (s.mem.getD 19 0) (s.mem.getD 18 0) (s.mem.getD 0 0) (g u) _ _ _ _ _ _ _ (s.buf u) from by rw [←hme,hq,hgu];exact (AtO.o36H24 (by first | assumption | rfl | (simp_all;done)) (by first | assumption | rfl | (simp_all;done)) (by first | assumption | rfl | (simp_all;done)) (by first | assumption | rfl | (simp_all;done))))) (by rw [hx];rfl) (by rw [hx]) (by rw [hx];rfl)
  rw [show Loc.th 37 _=_ from th_of rfl] at key
  exact⟨_,_,_,hst,key⟩
 case o35H34 g0 g1 g2=>
  have hi:=ins (i:=⟨1,7,0,0,0⟩) rfl
  rw [movI_plain (i:=⟨1,7,0,0,0⟩) rfl] at hi
  have hst:=st_set hi
  have key:=W_loc h ht eL er ej (⟨p,36,r0,r1,r2,r3,r4,r5,r6,(0),0⟩:Loc) (.inl ⟨rfl,hp,by show 36 < 37;decide⟩) (IO hI ht hne (show AtO (meN u) (s.mem.getD 19 0) (s.mem.getD 18 0) (s.mem.getD 0 0) (g u) _ _ _ _ _ _ _ (s.buf u) from by rw [←hme,hq,hgu];exact (AtO.o36H34 (by first | assumption | rfl | (simp_all;done)) (by first | assumption | rfl | (simp_all;done)) (by first | assumption | rfl | (simp_all;done)) (by first | assumption | rfl | (simp_all;done))))) (by rw [hx];rfl) (by rw [hx]) (by rw [hx];rfl)
  rw [show Loc.th 37 _=_ from th_of rfl] at key
  exact⟨_,_,_,hst,key⟩
 case o35H44 g0 g1 g2=>
  have hi:=ins (i:=⟨1,7,0,0,0⟩) rfl
  rw [movI_plain (i:=⟨1,7,0,0,0⟩) rfl] at hi
  have hst:=st_set hi
  have key:=W_loc h ht eL er ej (⟨p,36,r0,r1,r2,r3,r4,r5,r6,(0),0⟩:Loc) (.inl ⟨rfl,hp,by show 36 < 37;decide⟩) (IO hI ht hne (show AtO (meN u) (s.mem.getD 19 0) (s.mem.getD 18 0) (s.mem.getD 0 0) (g u) _ _ _ _ _ _ _ (s.buf u) from by rw [←hme,hq,hgu];exact (AtO.o36H44 (by first | assumption | rfl | (simp_all;done)) (by first | assumption | rfl | (simp_all;done)) (by first | assumption | rfl | (simp_all;done)) (by first | assumption | rfl | (simp_all;done))))) (by rw [hx];rfl) (by rw [hx]) (by rw [hx];rfl)
  rw [show Loc.th 37 _=_ from th_of rfl] at key
  exact⟨_,_,_,hst,key⟩
 case o36H04 g0 g1 g2=>
  have hi:=ins (i:=⟨27,7,0,0,3⟩) rfl
  rw [movI_plain (i:=⟨27,7,0,0,3⟩) rfl] at hi
  have hmk:=st_mark hi
  have hg:=h.marked (t:=u) ⟨7,0,((p*37+36:Nat):Int),0,r7,0,3,false⟩ rfl (.inr ⟨rfl,by assumption⟩)
  have key:=W_again hg ht eL er ej (⟨p+1,0,r0,r1,r2,r3,r4,r5,r6,r7,0⟩:Loc) (by
   by_cases e:p+1 < R
   ·exact .inl ⟨rfl,e,by show 0 < 37;decide⟩
   ·exact .inr ⟨by show p+1=R;omega,rfl,.inl rfl⟩) (IO hI ht hne (show AtO (meN u) (s.mem.getD 19 0) (s.mem.getD 18 0) (s.mem.getD 0 0) (g u) _ _ _ _ _ _ _ (s.buf u) from by rw [←hme,hq,hgu];exact (AtO.o0H04 (by first | assumption | rfl | (simp_all;done)) (by first | assumption | rfl | (simp_all;done))))) (by rw [hx];rfl) (by rw [hx]) (by rw [hx];show 23 < 36;decide) rfl
  rw [show Loc.th 37 _=_ from th_last rfl] at key
  exact⟨_,_,_,hmk,key⟩
 case o36H14 g0 g1 g2 g3=>
  have hi:=ins (i:=⟨27,7,0,0,3⟩) rfl
  rw [movI_plain (i:=⟨27,7,0,0,3⟩) rfl] at hi
  have hmk:=st_mark hi
  have hg:=h.marked (t:=u) ⟨7,0,((p*37+36:Nat):Int),0,r7,0,3,false⟩ rfl (.inr ⟨rfl,by assumption⟩)
  have key:=W_again hg ht eL er ej (⟨p+1,0,r0,r1,r2,r3,r4,r5,r6,r7,0⟩:Loc) (by
   by_cases e:p+1 < R
   ·exact .inl ⟨rfl,e,by show 0 < 37;decide⟩
   ·exact .inr ⟨by show p+1=R;omega,rfl,.inl rfl⟩) (IO hI ht hne (show AtO (meN u) (s.mem.getD 19 0) (s.mem.getD 18 0) (s.mem.getD 0 0) (g u) _ _ _ _ _ _ _ (s.buf u) from by rw [←hme,hq,hgu];exact (AtO.o0H14 (by first | assumption | rfl | (simp_all;done)) (by first | assumption | rfl | (simp_all;done)) (by first | assumption | rfl | (simp_all;done))))) (by rw [hx];rfl) (by rw [hx]) (by rw [hx];show 23 < 36;decide) rfl
  rw [show Loc.th 37 _=_ from th_last rfl] at key
  exact⟨_,_,_,hmk,key⟩
 case o36H24 g0 g1 g2 g3=>
  have hi:=ins (i:=⟨27,7,0,0,3⟩) rfl
  rw [movI_plain (i:=⟨27,7,0,0,3⟩) rfl] at hi
  have hmk:=st_mark hi
  have hg:=h.marked (t:=u) ⟨7,0,((p*37+36:Nat):Int),0,r7,0,3,false⟩ rfl (.inr ⟨rfl,by assumption⟩)
  have key:=W_again hg ht eL er ej (⟨p+1,0,r0,r1,r2,r3,r4,r5,r6,r7,0⟩:Loc) (by
   by_cases e:p+1 < R
   ·exact .inl ⟨rfl,e,by show 0 < 37;decide⟩
   ·exact .inr ⟨by show p+1=R;omega,rfl,.inl rfl⟩) (IO hI ht hne (show AtO (meN u) (s.mem.getD 19 0) (s.mem.getD 18 0) (s.mem.getD 0 0) (g u) _ _ _ _ _ _ _ (s.buf u) from by rw [←hme,hq,hgu];exact (AtO.o0H24 (by first | assumption | rfl | (simp_all;done)) (by first | assumption | rfl | (simp_all;done)) (by first | assumption | rfl | (simp_all;done))))) (by rw [hx];rfl) (by rw [hx]) (by rw [hx];show 23 < 36;decide) rfl
  rw [show Loc.th 37 _=_ from th_last rfl] at key
  exact⟨_,_,_,hmk,key⟩
 case o36H34 g0 g1 g2 g3=>
  have hi:=ins (i:=⟨27,7,0,0,3⟩) rfl
  rw [movI_plain (i:=⟨27,7,0,0,3⟩) rfl] at hi
  have hmk:=st_mark hi
  have hg:=h.marked (t:=u) ⟨7,0,((p*37+36:Nat):Int),0,r7,0,3,false⟩ rfl (.inr ⟨rfl,by assumption⟩)
  have key:=W_again hg ht eL er ej (⟨p+1,0,r0,r1,r2,r3,r4,r5,r6,r7,0⟩:Loc) (by
   by_cases e:p+1 < R
   ·exact .inl ⟨rfl,e,by show 0 < 37;decide⟩
   ·exact .inr ⟨by show p+1=R;omega,rfl,.inl rfl⟩) (IO hI ht hne (show AtO (meN u) (s.mem.getD 19 0) (s.mem.getD 18 0) (s.mem.getD 0 0) (g u) _ _ _ _ _ _ _ (s.buf u) from by rw [←hme,hq,hgu];exact (AtO.o0H34 (by first | assumption | rfl | (simp_all;done)) (by first | assumption | rfl | (simp_all;done)) (by first | assumption | rfl | (simp_all;done))))) (by rw [hx];rfl) (by rw [hx]) (by rw [hx];show 23 < 36;decide) rfl
  rw [show Loc.th 37 _=_ from th_last rfl] at key
  exact⟨_,_,_,hmk,key⟩
 case o36H44 g0 g1 g2 g3=>
  have hi:=ins (i:=⟨27,7,0,0,3⟩) rfl
  rw [movI_plain (i:=⟨27,7,0,0,3⟩) rfl] at hi
  have hmk:=st_mark hi
  have hg:=h.marked (t:=u) ⟨7,0,((p*37+36:Nat):Int),0,r7,0,3,false⟩ rfl (.inr ⟨rfl,by assumption⟩)
  have key:=W_again hg ht eL er ej (⟨p+1,0,r0,r1,r2,r3,r4,r5,r6,r7,0⟩:Loc) (by
   by_cases e:p+1 < R
   ·exact .inl ⟨rfl,e,by show 0 < 37;decide⟩
   ·exact .inr ⟨by show p+1=R;omega,rfl,.inl rfl⟩) (IO hI ht hne (show AtO (meN u) (s.mem.getD 19 0) (s.mem.getD 18 0) (s.mem.getD 0 0) (g u) _ _ _ _ _ _ _ (s.buf u) from by rw [←hme,hq,hgu];exact (AtO.o0H44 (by first | assumption | rfl | (simp_all;done)) (by first | assumption | rfl | (simp_all;done)) (by first | assumption | rfl | (simp_all;done))))) (by rw [hx];rfl) (by rw [hx]) (by rw [hx];show 23 < 36;decide) rfl
  rw [show Loc.th 37 _=_ from th_last rfl] at key
  exact⟨_,_,_,hmk,key⟩
theorem run(hA:A < T)(hR:R≤100)(hc:codes[A]? = some (codeB R A))(hc2:∀ u,u < T→u≠A→codes[u]? = some (codeO R u))(l:List (Nat×Nat))(h:(X A T R).Inv s f i):∃ s',Ts.run codes s l=some s'∧∃ f' i',(X A T R).Inv s' f' i':=
 Wd.Lk.run codes (fun t ht=>by
   by_cases e:t=A
   ·subst e;exact⟨_,hc,by rw [X_B.1];exact codeB_len R t⟩
   ·exact⟨_,hc2 t ht e,by rw [(X_O e).1];exact codeO_len R _⟩)
  (fun s f i t h ht=>by
   obtain⟨m,σ,σ',c,pt,k,g,hI⟩:=h.I
   by_cases e:t=A
   ·subst e;exact IB (x:={ f t with st:=2 }) (k2:=k) hI hI.kb hI.hb
   ·exact IO (x:={ f t with st:=2 }) hI ht e (hI.ho t ht e))
  (fun s f i t h ht h0 hp hj=>by
   by_cases e:t=A
   ·subst e;exact stepB h ht hR hc h0 hp (by rw [X_B.1] at hj;exact hj)
   ·exact stepO h ht e hA hR (hc2 t ht e) h0 hp (by rw [(X_O e).1] at hj;exact hj)) (fun s f i t h ht=>flush h ht) l s f i h
end
end Go.Proofs.YtckmkaeopnnbbaaGreatDoor.As.Bia
