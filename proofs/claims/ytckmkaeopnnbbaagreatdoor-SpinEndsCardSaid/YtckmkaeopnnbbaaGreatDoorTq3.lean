/- Plain Lean: a lock of tickets: one at a time. No program in sight. -/
import Derived.Test.YtckmkaeopnnbbaaGreatDoorGl
import Derived.Test.YtckmkaeopnnbbaaGreatDoorGo
set_option linter.unusedVariables false
set_option linter.unusedSimpArgs false
namespace Go.Proofs.YtckmkaeopnnbbaaGreatDoor.As.Tick

def base (me : Int) : List Ins := [⟨27, 7, 0, 0, 0⟩, ⟨16, 4, 8, 0, 18⟩, ⟨1, 5, 0, 0, me⟩, ⟨12, 6, 4, 5, 0⟩, ⟨14, 6, 0, 0, 7⟩, ⟨1, 7, 0, 0, 1⟩, ⟨13, 0, 0, 0, 14⟩, ⟨1, 4, 0, 0, 1⟩, ⟨20, 4, 8, 0, 16⟩, ⟨16, 6, 8, 0, 17⟩, ⟨12, 6, 6, 4, 0⟩, ⟨14, 6, 0, 0, 9⟩, ⟨17, 5, 8, 0, 18⟩, ⟨1, 7, 0, 0, 0⟩, ⟨27, 7, 0, 0, 1⟩, ⟨16, 1, 8, 0, 0⟩, ⟨1, 2, 0, 0, 1⟩, ⟨3, 1, 1, 2, 0⟩, ⟨17, 1, 8, 0, 0⟩, ⟨27, 7, 0, 0, 2⟩, ⟨16, 4, 8, 0, 18⟩, ⟨1, 5, 0, 0, me⟩, ⟨12, 6, 4, 5, 0⟩, ⟨15, 6, 0, 0, 26⟩, ⟨1, 7, 0, 0, 2⟩, ⟨13, 0, 0, 0, 33⟩, ⟨1, 4, 0, 0, 0⟩, ⟨17, 4, 8, 0, 18⟩, ⟨16, 4, 8, 0, 17⟩, ⟨1, 6, 0, 0, 1⟩, ⟨3, 4, 4, 6, 0⟩, ⟨17, 4, 8, 0, 17⟩, ⟨1, 7, 0, 0, 0⟩, ⟨27, 7, 0, 0, 3⟩]
theorem base_eq (t : Nat) : baseR (resL (linTick 16 t)) (resL (linPass 16 t)) = base ((t + 1 : Nat) : Int) := by
 have e1 : resL (linTick 16 t) = [⟨16, 4, 8, 0, 18⟩, ⟨1, 5, 0, 0, ((t + 1 : Nat) : Int)⟩, ⟨12, 6, 4, 5, 0⟩, ⟨14, 6, 0, 0, 6⟩, ⟨1, 7, 0, 0, 1⟩, ⟨13, 0, 0, 0, 13⟩, ⟨1, 4, 0, 0, 1⟩, ⟨20, 4, 8, 0, 16⟩, ⟨16, 6, 8, 0, 17⟩, ⟨12, 6, 6, 4, 0⟩, ⟨14, 6, 0, 0, 8⟩, ⟨17, 5, 8, 0, 18⟩, ⟨1, 7, 0, 0, 0⟩] := rfl
 have e2 : resL (linPass 16 t) = [⟨16, 4, 8, 0, 18⟩, ⟨1, 5, 0, 0, ((t + 1 : Nat) : Int)⟩, ⟨12, 6, 4, 5, 0⟩, ⟨15, 6, 0, 0, 6⟩, ⟨1, 7, 0, 0, 2⟩, ⟨13, 0, 0, 0, 13⟩, ⟨1, 4, 0, 0, 0⟩, ⟨17, 4, 8, 0, 18⟩, ⟨16, 4, 8, 0, 17⟩, ⟨1, 6, 0, 0, 1⟩, ⟨3, 4, 4, 6, 0⟩, ⟨17, 4, 8, 0, 17⟩, ⟨1, 7, 0, 0, 0⟩] := rfl
 rw [e1, e2, baseR_eq]
 simp [base, incR, movI, jumps, wr32]
def codeT (R t : Nat) : List Ins := roundsR (resL (linTick 16 t)) (resL (linPass 16 t)) R []
theorem code_len (R t : Nat) : (codeT R t).length = R * 34 := by
 unfold codeT
 rw [roundsR_len, base_eq]; simp [base]
theorem code_get (R t p j : Nat) (hp : p < R) (hj : j < 34) : (codeT R t)[p * 34 + j]? = ((base ((t + 1 : Nat) : Int))[j]?).map (movI (p * 34)) := by
 have h := roundsR_get (resL (linTick 16 t)) (resL (linPass 16 t)) R [] p j hp (by rw [base_eq]; exact hj)
 rw [base_eq] at h
 have e : ([] : List Ins).length + p * (base ((t + 1 : Nat) : Int)).length = p * 34 := by rw [List.length_nil, Nat.zero_add]; rfl
 rw [e] at h
 exact h
inductive At (me n v ow c : Int) (g : Option Int) : Nat → Int → Int → Int → Int → Int → Int → List (Nat × Int) → Prop
 | a0F {r1 r2 r4 r5 r6 r7 : Int} (h0 : g = none) (h1 : ow ≠ me) : At me n v ow c g 0 r1 r2 r4 r5 r6 r7 []
 | a0H04 {r1 r2 r4 r5 r6 r7 : Int} (h0 : g = some v) (h1 : v < n) : At me n v ow c g 0 r1 r2 r4 r5 r6 r7 [(18, me), (0, wr32 (c + 1)), (18, 0), (17, wr32 (v + 1))]
 | a0H14 {r1 r2 r4 r5 r6 r7 : Int} (h0 : g = some v) (h1 : v < n) (h2 : ow = me) : At me n v ow c g 0 r1 r2 r4 r5 r6 r7 [(0, wr32 (c + 1)), (18, 0), (17, wr32 (v + 1))]
 | a0H24 {r1 r2 r4 r5 r6 r7 : Int} (h0 : g = some v) (h1 : v < n) (h2 : ow = me) : At me n v ow c g 0 r1 r2 r4 r5 r6 r7 [(18, 0), (17, wr32 (v + 1))]
 | a0H34 {r1 r2 r4 r5 r6 r7 : Int} (h0 : g = some v) (h1 : v < n) (h2 : ow = 0) : At me n v ow c g 0 r1 r2 r4 r5 r6 r7 [(17, wr32 (v + 1))]
 | a1F {r1 r2 r4 r5 r6 r7 : Int} (h0 : g = none) (h1 : ow ≠ me) : At me n v ow c g 1 r1 r2 r4 r5 r6 r7 []
 | a1H04 {r1 r2 r4 r5 r6 r7 : Int} (h0 : g = some v) (h1 : v < n) : At me n v ow c g 1 r1 r2 r4 r5 r6 r7 [(18, me), (0, wr32 (c + 1)), (18, 0), (17, wr32 (v + 1))]
 | a1H14 {r1 r2 r4 r5 r6 r7 : Int} (h0 : g = some v) (h1 : v < n) (h2 : ow = me) : At me n v ow c g 1 r1 r2 r4 r5 r6 r7 [(0, wr32 (c + 1)), (18, 0), (17, wr32 (v + 1))]
 | a1H24 {r1 r2 r4 r5 r6 r7 : Int} (h0 : g = some v) (h1 : v < n) (h2 : ow = me) : At me n v ow c g 1 r1 r2 r4 r5 r6 r7 [(18, 0), (17, wr32 (v + 1))]
 | a1H34 {r1 r2 r4 r5 r6 r7 : Int} (h0 : g = some v) (h1 : v < n) (h2 : ow = 0) : At me n v ow c g 1 r1 r2 r4 r5 r6 r7 [(17, wr32 (v + 1))]
 | a2F {r1 r2 r4 r5 r6 r7 : Int} (h0 : g = none) (h1 : ow ≠ me) (h2 : r4 ≠ me) : At me n v ow c g 2 r1 r2 r4 r5 r6 r7 []
 | a2H04 {r1 r2 r4 r5 r6 r7 : Int} (h0 : g = some v) (h1 : v < n) (h2 : r4 ≠ me) : At me n v ow c g 2 r1 r2 r4 r5 r6 r7 [(18, me), (0, wr32 (c + 1)), (18, 0), (17, wr32 (v + 1))]
 | a2H14 {r1 r2 r4 r5 r6 r7 : Int} (h0 : g = some v) (h1 : v < n) (h2 : ow = me) (h3 : r4 ≠ me) : At me n v ow c g 2 r1 r2 r4 r5 r6 r7 [(0, wr32 (c + 1)), (18, 0), (17, wr32 (v + 1))]
 | a2H24 {r1 r2 r4 r5 r6 r7 : Int} (h0 : g = some v) (h1 : v < n) (h2 : ow = me) (h3 : r4 ≠ me) : At me n v ow c g 2 r1 r2 r4 r5 r6 r7 [(18, 0), (17, wr32 (v + 1))]
 | a2H34 {r1 r2 r4 r5 r6 r7 : Int} (h0 : g = some v) (h1 : v < n) (h2 : ow = 0) (h3 : r4 ≠ me) : At me n v ow c g 2 r1 r2 r4 r5 r6 r7 [(17, wr32 (v + 1))]
 | a3F {r1 r2 r4 r5 r6 r7 : Int} (h0 : g = none) (h1 : ow ≠ me) (h2 : r4 ≠ me) (h3 : r5 = me) : At me n v ow c g 3 r1 r2 r4 r5 r6 r7 []
 | a3H04 {r1 r2 r4 r5 r6 r7 : Int} (h0 : g = some v) (h1 : v < n) (h2 : r4 ≠ me) (h3 : r5 = me) : At me n v ow c g 3 r1 r2 r4 r5 r6 r7 [(18, me), (0, wr32 (c + 1)), (18, 0), (17, wr32 (v + 1))]
 | a3H14 {r1 r2 r4 r5 r6 r7 : Int} (h0 : g = some v) (h1 : v < n) (h2 : ow = me) (h3 : r4 ≠ me) (h4 : r5 = me) : At me n v ow c g 3 r1 r2 r4 r5 r6 r7 [(0, wr32 (c + 1)), (18, 0), (17, wr32 (v + 1))]
 | a3H24 {r1 r2 r4 r5 r6 r7 : Int} (h0 : g = some v) (h1 : v < n) (h2 : ow = me) (h3 : r4 ≠ me) (h4 : r5 = me) : At me n v ow c g 3 r1 r2 r4 r5 r6 r7 [(18, 0), (17, wr32 (v + 1))]
 | a3H34 {r1 r2 r4 r5 r6 r7 : Int} (h0 : g = some v) (h1 : v < n) (h2 : ow = 0) (h3 : r4 ≠ me) (h4 : r5 = me) : At me n v ow c g 3 r1 r2 r4 r5 r6 r7 [(17, wr32 (v + 1))]
 | a4F {r1 r2 r4 r5 r6 r7 : Int} (h0 : g = none) (h1 : ow ≠ me) (h2 : r5 = me) (h3 : r6 = 0) : At me n v ow c g 4 r1 r2 r4 r5 r6 r7 []
 | a4H04 {r1 r2 r4 r5 r6 r7 : Int} (h0 : g = some v) (h1 : v < n) (h2 : r5 = me) (h3 : r6 = 0) : At me n v ow c g 4 r1 r2 r4 r5 r6 r7 [(18, me), (0, wr32 (c + 1)), (18, 0), (17, wr32 (v + 1))]
 | a4H14 {r1 r2 r4 r5 r6 r7 : Int} (h0 : g = some v) (h1 : v < n) (h2 : ow = me) (h3 : r5 = me) (h4 : r6 = 0) : At me n v ow c g 4 r1 r2 r4 r5 r6 r7 [(0, wr32 (c + 1)), (18, 0), (17, wr32 (v + 1))]
 | a4H24 {r1 r2 r4 r5 r6 r7 : Int} (h0 : g = some v) (h1 : v < n) (h2 : ow = me) (h3 : r5 = me) (h4 : r6 = 0) : At me n v ow c g 4 r1 r2 r4 r5 r6 r7 [(18, 0), (17, wr32 (v + 1))]
 | a4H34 {r1 r2 r4 r5 r6 r7 : Int} (h0 : g = some v) (h1 : v < n) (h2 : ow = 0) (h3 : r5 = me) (h4 : r6 = 0) : At me n v ow c g 4 r1 r2 r4 r5 r6 r7 [(17, wr32 (v + 1))]
 | a7F {r1 r2 r4 r5 r6 r7 : Int} (h0 : g = none) (h1 : ow ≠ me) (h2 : r5 = me) : At me n v ow c g 7 r1 r2 r4 r5 r6 r7 []
 | a7H04 {r1 r2 r4 r5 r6 r7 : Int} (h0 : g = some v) (h1 : v < n) (h2 : r5 = me) : At me n v ow c g 7 r1 r2 r4 r5 r6 r7 [(18, me), (0, wr32 (c + 1)), (18, 0), (17, wr32 (v + 1))]
 | a7H14 {r1 r2 r4 r5 r6 r7 : Int} (h0 : g = some v) (h1 : v < n) (h2 : ow = me) (h3 : r5 = me) : At me n v ow c g 7 r1 r2 r4 r5 r6 r7 [(0, wr32 (c + 1)), (18, 0), (17, wr32 (v + 1))]
 | a7H24 {r1 r2 r4 r5 r6 r7 : Int} (h0 : g = some v) (h1 : v < n) (h2 : ow = me) (h3 : r5 = me) : At me n v ow c g 7 r1 r2 r4 r5 r6 r7 [(18, 0), (17, wr32 (v + 1))]
 | a7H34 {r1 r2 r4 r5 r6 r7 : Int} (h0 : g = some v) (h1 : v < n) (h2 : ow = 0) (h3 : r5 = me) : At me n v ow c g 7 r1 r2 r4 r5 r6 r7 [(17, wr32 (v + 1))]
 | a8F {r1 r2 r4 r5 r6 r7 : Int} (h0 : g = none) (h1 : ow ≠ me) (h2 : r5 = me) (h3 : r4 = 1) : At me n v ow c g 8 r1 r2 r4 r5 r6 r7 []
 | a8H04 {r1 r2 r4 r5 r6 r7 : Int} (h0 : g = some v) (h1 : v < n) (h2 : r5 = me) (h3 : r4 = 1) : At me n v ow c g 8 r1 r2 r4 r5 r6 r7 [(18, me), (0, wr32 (c + 1)), (18, 0), (17, wr32 (v + 1))]
 | a8H14 {r1 r2 r4 r5 r6 r7 : Int} (h0 : g = some v) (h1 : v < n) (h2 : ow = me) (h3 : r5 = me) (h4 : r4 = 1) : At me n v ow c g 8 r1 r2 r4 r5 r6 r7 [(0, wr32 (c + 1)), (18, 0), (17, wr32 (v + 1))]
 | a8H24 {r1 r2 r4 r5 r6 r7 : Int} (h0 : g = some v) (h1 : v < n) (h2 : ow = me) (h3 : r5 = me) (h4 : r4 = 1) : At me n v ow c g 8 r1 r2 r4 r5 r6 r7 [(18, 0), (17, wr32 (v + 1))]
 | a8H34 {r1 r2 r4 r5 r6 r7 : Int} (h0 : g = some v) (h1 : v < n) (h2 : ow = 0) (h3 : r5 = me) (h4 : r4 = 1) : At me n v ow c g 8 r1 r2 r4 r5 r6 r7 [(17, wr32 (v + 1))]
 | a9W {r1 r2 r4 r5 r6 r7 : Int} (h0 : g = some r4) (h1 : v ≤ r4) (h2 : r4 < n) (h3 : ow ≠ me) (h4 : r5 = me) : At me n v ow c g 9 r1 r2 r4 r5 r6 r7 []
 | a10W {r1 r2 r4 r5 r6 r7 : Int} (h0 : g = some r4) (h1 : v ≤ r4) (h2 : r4 < n) (h3 : ow ≠ me) (h4 : r5 = me) (h5 : r6 ≤ v) : At me n v ow c g 10 r1 r2 r4 r5 r6 r7 []
 | a11W {r1 r2 r4 r5 r6 r7 : Int} (h0 : g = some r4) (h1 : v ≤ r4) (h2 : r4 < n) (h3 : ow ≠ me) (h4 : r5 = me) (h5 : r6 ≠ 0 → v = r4) : At me n v ow c g 11 r1 r2 r4 r5 r6 r7 []
 | a12H00 {r1 r2 r4 r5 r6 r7 : Int} (h0 : g = some v) (h1 : v < n) (h2 : r5 = me) : At me n v ow c g 12 r1 r2 r4 r5 r6 r7 []
 | a13H01 {r1 r2 r4 r5 r6 r7 : Int} (h0 : g = some v) (h1 : v < n) : At me n v ow c g 13 r1 r2 r4 r5 r6 r7 [(18, me)]
 | a13H11 {r1 r2 r4 r5 r6 r7 : Int} (h0 : g = some v) (h1 : v < n) (h2 : ow = me) : At me n v ow c g 13 r1 r2 r4 r5 r6 r7 []
 | a14H01 {r1 r2 r4 r5 r6 r7 : Int} (h0 : g = some v) (h1 : v < n) (h2 : r7 = 0) : At me n v ow c g 14 r1 r2 r4 r5 r6 r7 [(18, me)]
 | a14H11 {r1 r2 r4 r5 r6 r7 : Int} (h0 : g = some v) (h1 : v < n) (h2 : ow = me) (h3 : r7 = 0) : At me n v ow c g 14 r1 r2 r4 r5 r6 r7 []
 | a15H01 {r1 r2 r4 r5 r6 r7 : Int} (h0 : g = some v) (h1 : v < n) : At me n v ow c g 15 r1 r2 r4 r5 r6 r7 [(18, me)]
 | a15H11 {r1 r2 r4 r5 r6 r7 : Int} (h0 : g = some v) (h1 : v < n) (h2 : ow = me) : At me n v ow c g 15 r1 r2 r4 r5 r6 r7 []
 | a16H01 {r1 r2 r4 r5 r6 r7 : Int} (h0 : g = some v) (h1 : v < n) (h2 : r1 = c) : At me n v ow c g 16 r1 r2 r4 r5 r6 r7 [(18, me)]
 | a16H11 {r1 r2 r4 r5 r6 r7 : Int} (h0 : g = some v) (h1 : v < n) (h2 : ow = me) (h3 : r1 = c) : At me n v ow c g 16 r1 r2 r4 r5 r6 r7 []
 | a17H01 {r1 r2 r4 r5 r6 r7 : Int} (h0 : g = some v) (h1 : v < n) (h2 : r1 = c) (h3 : r2 = 1) : At me n v ow c g 17 r1 r2 r4 r5 r6 r7 [(18, me)]
 | a17H11 {r1 r2 r4 r5 r6 r7 : Int} (h0 : g = some v) (h1 : v < n) (h2 : ow = me) (h3 : r1 = c) (h4 : r2 = 1) : At me n v ow c g 17 r1 r2 r4 r5 r6 r7 []
 | a18H01 {r1 r2 r4 r5 r6 r7 : Int} (h0 : g = some v) (h1 : v < n) (h2 : r1 = wr32 (c + 1)) : At me n v ow c g 18 r1 r2 r4 r5 r6 r7 [(18, me)]
 | a18H11 {r1 r2 r4 r5 r6 r7 : Int} (h0 : g = some v) (h1 : v < n) (h2 : ow = me) (h3 : r1 = wr32 (c + 1)) : At me n v ow c g 18 r1 r2 r4 r5 r6 r7 []
 | a19H02 {r1 r2 r4 r5 r6 r7 : Int} (h0 : g = some v) (h1 : v < n) : At me n v ow c g 19 r1 r2 r4 r5 r6 r7 [(18, me), (0, wr32 (c + 1))]
 | a19H12 {r1 r2 r4 r5 r6 r7 : Int} (h0 : g = some v) (h1 : v < n) (h2 : ow = me) : At me n v ow c g 19 r1 r2 r4 r5 r6 r7 [(0, wr32 (c + 1))]
 | a19H22 {r1 r2 r4 r5 r6 r7 : Int} (h0 : g = some v) (h1 : v < n) (h2 : ow = me) : At me n v ow c g 19 r1 r2 r4 r5 r6 r7 []
 | a20H02 {r1 r2 r4 r5 r6 r7 : Int} (h0 : g = some v) (h1 : v < n) : At me n v ow c g 20 r1 r2 r4 r5 r6 r7 [(18, me), (0, wr32 (c + 1))]
 | a20H12 {r1 r2 r4 r5 r6 r7 : Int} (h0 : g = some v) (h1 : v < n) (h2 : ow = me) : At me n v ow c g 20 r1 r2 r4 r5 r6 r7 [(0, wr32 (c + 1))]
 | a20H22 {r1 r2 r4 r5 r6 r7 : Int} (h0 : g = some v) (h1 : v < n) (h2 : ow = me) : At me n v ow c g 20 r1 r2 r4 r5 r6 r7 []
 | a21H02 {r1 r2 r4 r5 r6 r7 : Int} (h0 : g = some v) (h1 : v < n) (h2 : r4 = me) : At me n v ow c g 21 r1 r2 r4 r5 r6 r7 [(18, me), (0, wr32 (c + 1))]
 | a21H12 {r1 r2 r4 r5 r6 r7 : Int} (h0 : g = some v) (h1 : v < n) (h2 : ow = me) (h3 : r4 = me) : At me n v ow c g 21 r1 r2 r4 r5 r6 r7 [(0, wr32 (c + 1))]
 | a21H22 {r1 r2 r4 r5 r6 r7 : Int} (h0 : g = some v) (h1 : v < n) (h2 : ow = me) (h3 : r4 = me) : At me n v ow c g 21 r1 r2 r4 r5 r6 r7 []
 | a22H02 {r1 r2 r4 r5 r6 r7 : Int} (h0 : g = some v) (h1 : v < n) (h2 : r4 = me) (h3 : r5 = me) : At me n v ow c g 22 r1 r2 r4 r5 r6 r7 [(18, me), (0, wr32 (c + 1))]
 | a22H12 {r1 r2 r4 r5 r6 r7 : Int} (h0 : g = some v) (h1 : v < n) (h2 : ow = me) (h3 : r4 = me) (h4 : r5 = me) : At me n v ow c g 22 r1 r2 r4 r5 r6 r7 [(0, wr32 (c + 1))]
 | a22H22 {r1 r2 r4 r5 r6 r7 : Int} (h0 : g = some v) (h1 : v < n) (h2 : ow = me) (h3 : r4 = me) (h4 : r5 = me) : At me n v ow c g 22 r1 r2 r4 r5 r6 r7 []
 | a23H02 {r1 r2 r4 r5 r6 r7 : Int} (h0 : g = some v) (h1 : v < n) (h2 : r6 = 1) : At me n v ow c g 23 r1 r2 r4 r5 r6 r7 [(18, me), (0, wr32 (c + 1))]
 | a23H12 {r1 r2 r4 r5 r6 r7 : Int} (h0 : g = some v) (h1 : v < n) (h2 : ow = me) (h3 : r6 = 1) : At me n v ow c g 23 r1 r2 r4 r5 r6 r7 [(0, wr32 (c + 1))]
 | a23H22 {r1 r2 r4 r5 r6 r7 : Int} (h0 : g = some v) (h1 : v < n) (h2 : ow = me) (h3 : r6 = 1) : At me n v ow c g 23 r1 r2 r4 r5 r6 r7 []
 | a26H02 {r1 r2 r4 r5 r6 r7 : Int} (h0 : g = some v) (h1 : v < n) : At me n v ow c g 26 r1 r2 r4 r5 r6 r7 [(18, me), (0, wr32 (c + 1))]
 | a26H12 {r1 r2 r4 r5 r6 r7 : Int} (h0 : g = some v) (h1 : v < n) (h2 : ow = me) : At me n v ow c g 26 r1 r2 r4 r5 r6 r7 [(0, wr32 (c + 1))]
 | a26H22 {r1 r2 r4 r5 r6 r7 : Int} (h0 : g = some v) (h1 : v < n) (h2 : ow = me) : At me n v ow c g 26 r1 r2 r4 r5 r6 r7 []
 | a27H02 {r1 r2 r4 r5 r6 r7 : Int} (h0 : g = some v) (h1 : v < n) (h2 : r4 = 0) : At me n v ow c g 27 r1 r2 r4 r5 r6 r7 [(18, me), (0, wr32 (c + 1))]
 | a27H12 {r1 r2 r4 r5 r6 r7 : Int} (h0 : g = some v) (h1 : v < n) (h2 : ow = me) (h3 : r4 = 0) : At me n v ow c g 27 r1 r2 r4 r5 r6 r7 [(0, wr32 (c + 1))]
 | a27H22 {r1 r2 r4 r5 r6 r7 : Int} (h0 : g = some v) (h1 : v < n) (h2 : ow = me) (h3 : r4 = 0) : At me n v ow c g 27 r1 r2 r4 r5 r6 r7 []
 | a28H03 {r1 r2 r4 r5 r6 r7 : Int} (h0 : g = some v) (h1 : v < n) : At me n v ow c g 28 r1 r2 r4 r5 r6 r7 [(18, me), (0, wr32 (c + 1)), (18, 0)]
 | a28H13 {r1 r2 r4 r5 r6 r7 : Int} (h0 : g = some v) (h1 : v < n) (h2 : ow = me) : At me n v ow c g 28 r1 r2 r4 r5 r6 r7 [(0, wr32 (c + 1)), (18, 0)]
 | a28H23 {r1 r2 r4 r5 r6 r7 : Int} (h0 : g = some v) (h1 : v < n) (h2 : ow = me) : At me n v ow c g 28 r1 r2 r4 r5 r6 r7 [(18, 0)]
 | a28H33 {r1 r2 r4 r5 r6 r7 : Int} (h0 : g = some v) (h1 : v < n) (h2 : ow = 0) : At me n v ow c g 28 r1 r2 r4 r5 r6 r7 []
 | a29H03 {r1 r2 r4 r5 r6 r7 : Int} (h0 : g = some v) (h1 : v < n) (h2 : r4 = v) : At me n v ow c g 29 r1 r2 r4 r5 r6 r7 [(18, me), (0, wr32 (c + 1)), (18, 0)]
 | a29H13 {r1 r2 r4 r5 r6 r7 : Int} (h0 : g = some v) (h1 : v < n) (h2 : ow = me) (h3 : r4 = v) : At me n v ow c g 29 r1 r2 r4 r5 r6 r7 [(0, wr32 (c + 1)), (18, 0)]
 | a29H23 {r1 r2 r4 r5 r6 r7 : Int} (h0 : g = some v) (h1 : v < n) (h2 : ow = me) (h3 : r4 = v) : At me n v ow c g 29 r1 r2 r4 r5 r6 r7 [(18, 0)]
 | a29H33 {r1 r2 r4 r5 r6 r7 : Int} (h0 : g = some v) (h1 : v < n) (h2 : ow = 0) (h3 : r4 = v) : At me n v ow c g 29 r1 r2 r4 r5 r6 r7 []
 | a30H03 {r1 r2 r4 r5 r6 r7 : Int} (h0 : g = some v) (h1 : v < n) (h2 : r4 = v) (h3 : r6 = 1) : At me n v ow c g 30 r1 r2 r4 r5 r6 r7 [(18, me), (0, wr32 (c + 1)), (18, 0)]
 | a30H13 {r1 r2 r4 r5 r6 r7 : Int} (h0 : g = some v) (h1 : v < n) (h2 : ow = me) (h3 : r4 = v) (h4 : r6 = 1) : At me n v ow c g 30 r1 r2 r4 r5 r6 r7 [(0, wr32 (c + 1)), (18, 0)]
 | a30H23 {r1 r2 r4 r5 r6 r7 : Int} (h0 : g = some v) (h1 : v < n) (h2 : ow = me) (h3 : r4 = v) (h4 : r6 = 1) : At me n v ow c g 30 r1 r2 r4 r5 r6 r7 [(18, 0)]
 | a30H33 {r1 r2 r4 r5 r6 r7 : Int} (h0 : g = some v) (h1 : v < n) (h2 : ow = 0) (h3 : r4 = v) (h4 : r6 = 1) : At me n v ow c g 30 r1 r2 r4 r5 r6 r7 []
 | a31H03 {r1 r2 r4 r5 r6 r7 : Int} (h0 : g = some v) (h1 : v < n) (h2 : r4 = wr32 (v + 1)) : At me n v ow c g 31 r1 r2 r4 r5 r6 r7 [(18, me), (0, wr32 (c + 1)), (18, 0)]
 | a31H13 {r1 r2 r4 r5 r6 r7 : Int} (h0 : g = some v) (h1 : v < n) (h2 : ow = me) (h3 : r4 = wr32 (v + 1)) : At me n v ow c g 31 r1 r2 r4 r5 r6 r7 [(0, wr32 (c + 1)), (18, 0)]
 | a31H23 {r1 r2 r4 r5 r6 r7 : Int} (h0 : g = some v) (h1 : v < n) (h2 : ow = me) (h3 : r4 = wr32 (v + 1)) : At me n v ow c g 31 r1 r2 r4 r5 r6 r7 [(18, 0)]
 | a31H33 {r1 r2 r4 r5 r6 r7 : Int} (h0 : g = some v) (h1 : v < n) (h2 : ow = 0) (h3 : r4 = wr32 (v + 1)) : At me n v ow c g 31 r1 r2 r4 r5 r6 r7 []
 | a32F {r1 r2 r4 r5 r6 r7 : Int} (h0 : g = none) (h1 : ow ≠ me) : At me n v ow c g 32 r1 r2 r4 r5 r6 r7 []
 | a32H04 {r1 r2 r4 r5 r6 r7 : Int} (h0 : g = some v) (h1 : v < n) : At me n v ow c g 32 r1 r2 r4 r5 r6 r7 [(18, me), (0, wr32 (c + 1)), (18, 0), (17, wr32 (v + 1))]
 | a32H14 {r1 r2 r4 r5 r6 r7 : Int} (h0 : g = some v) (h1 : v < n) (h2 : ow = me) : At me n v ow c g 32 r1 r2 r4 r5 r6 r7 [(0, wr32 (c + 1)), (18, 0), (17, wr32 (v + 1))]
 | a32H24 {r1 r2 r4 r5 r6 r7 : Int} (h0 : g = some v) (h1 : v < n) (h2 : ow = me) : At me n v ow c g 32 r1 r2 r4 r5 r6 r7 [(18, 0), (17, wr32 (v + 1))]
 | a32H34 {r1 r2 r4 r5 r6 r7 : Int} (h0 : g = some v) (h1 : v < n) (h2 : ow = 0) : At me n v ow c g 32 r1 r2 r4 r5 r6 r7 [(17, wr32 (v + 1))]
 | a33F {r1 r2 r4 r5 r6 r7 : Int} (h0 : g = none) (h1 : ow ≠ me) (h2 : r7 = 0) : At me n v ow c g 33 r1 r2 r4 r5 r6 r7 []
 | a33H04 {r1 r2 r4 r5 r6 r7 : Int} (h0 : g = some v) (h1 : v < n) (h2 : r7 = 0) : At me n v ow c g 33 r1 r2 r4 r5 r6 r7 [(18, me), (0, wr32 (c + 1)), (18, 0), (17, wr32 (v + 1))]
 | a33H14 {r1 r2 r4 r5 r6 r7 : Int} (h0 : g = some v) (h1 : v < n) (h2 : ow = me) (h3 : r7 = 0) : At me n v ow c g 33 r1 r2 r4 r5 r6 r7 [(0, wr32 (c + 1)), (18, 0), (17, wr32 (v + 1))]
 | a33H24 {r1 r2 r4 r5 r6 r7 : Int} (h0 : g = some v) (h1 : v < n) (h2 : ow = me) (h3 : r7 = 0) : At me n v ow c g 33 r1 r2 r4 r5 r6 r7 [(18, 0), (17, wr32 (v + 1))]
 | a33H34 {r1 r2 r4 r5 r6 r7 : Int} (h0 : g = some v) (h1 : v < n) (h2 : ow = 0) (h3 : r7 = 0) : At me n v ow c g 33 r1 r2 r4 r5 r6 r7 [(17, wr32 (v + 1))]
def inR (j : Nat) : Bool := decide (15 ≤ j) && decide (j ≤ 19)
section
variable {me n v ow c r1 r2 r4 r5 r6 r7 : Int} {g : Option Int} {j : Nat} {q : List (Nat × Int)}
theorem At.lt (h : At me n v ow c g j r1 r2 r4 r5 r6 r7 q) {k : Int} (hg : g = some k) : v ≤ k ∧ k < n := by
 cases h <;> simp_all <;> omega
theorem At.other {ow' c' : Int} (h : At me n v ow c g j r1 r2 r4 r5 r6 r7 q) (h1 : g ≠ some v) (h2 : ow' ≠ me) : At me n v ow' c' g j r1 r2 r4 r5 r6 r7 q := by
 cases h
 case a0F g0 g1 => exact At.a0F (by assumption) (by assumption)
 case a0H04 g0 g1 => exact absurd (by assumption) h1
 case a0H14 g0 g1 g2 => exact absurd (by assumption) h1
 case a0H24 g0 g1 g2 => exact absurd (by assumption) h1
 case a0H34 g0 g1 g2 => exact absurd (by assumption) h1
 case a1F g0 g1 => exact At.a1F (by assumption) (by assumption)
 case a1H04 g0 g1 => exact absurd (by assumption) h1
 case a1H14 g0 g1 g2 => exact absurd (by assumption) h1
 case a1H24 g0 g1 g2 => exact absurd (by assumption) h1
 case a1H34 g0 g1 g2 => exact absurd (by assumption) h1
 case a2F g0 g1 g2 => exact At.a2F (by assumption) (by assumption) (by assumption)
 case a2H04 g0 g1 g2 => exact absurd (by assumption) h1
 case a2H14 g0 g1 g2 g3 => exact absurd (by assumption) h1
 case a2H24 g0 g1 g2 g3 => exact absurd (by assumption) h1
 case a2H34 g0 g1 g2 g3 => exact absurd (by assumption) h1
 case a3F g0 g1 g2 g3 => exact At.a3F (by assumption) (by assumption) (by assumption) (by assumption)
 case a3H04 g0 g1 g2 g3 => exact absurd (by assumption) h1
 case a3H14 g0 g1 g2 g3 g4 => exact absurd (by assumption) h1
 case a3H24 g0 g1 g2 g3 g4 => exact absurd (by assumption) h1
 case a3H34 g0 g1 g2 g3 g4 => exact absurd (by assumption) h1
 case a4F g0 g1 g2 g3 => exact At.a4F (by assumption) (by assumption) (by assumption) (by assumption)
 case a4H04 g0 g1 g2 g3 => exact absurd (by assumption) h1
 case a4H14 g0 g1 g2 g3 g4 => exact absurd (by assumption) h1
 case a4H24 g0 g1 g2 g3 g4 => exact absurd (by assumption) h1
 case a4H34 g0 g1 g2 g3 g4 => exact absurd (by assumption) h1
 case a7F g0 g1 g2 => exact At.a7F (by assumption) (by assumption) (by assumption)
 case a7H04 g0 g1 g2 => exact absurd (by assumption) h1
 case a7H14 g0 g1 g2 g3 => exact absurd (by assumption) h1
 case a7H24 g0 g1 g2 g3 => exact absurd (by assumption) h1
 case a7H34 g0 g1 g2 g3 => exact absurd (by assumption) h1
 case a8F g0 g1 g2 g3 => exact At.a8F (by assumption) (by assumption) (by assumption) (by assumption)
 case a8H04 g0 g1 g2 g3 => exact absurd (by assumption) h1
 case a8H14 g0 g1 g2 g3 g4 => exact absurd (by assumption) h1
 case a8H24 g0 g1 g2 g3 g4 => exact absurd (by assumption) h1
 case a8H34 g0 g1 g2 g3 g4 => exact absurd (by assumption) h1
 case a9W g0 g1 g2 g3 g4 => exact At.a9W (by assumption) (by assumption) (by assumption) (by assumption) (by assumption)
 case a10W g0 g1 g2 g3 g4 g5 => exact At.a10W (by assumption) (by assumption) (by assumption) (by assumption) (by assumption) (by assumption)
 case a11W g0 g1 g2 g3 g4 g5 => exact At.a11W (by assumption) (by assumption) (by assumption) (by assumption) (by assumption) (by assumption)
 case a12H00 g0 g1 g2 => exact absurd (by assumption) h1
 case a13H01 g0 g1 => exact absurd (by assumption) h1
 case a13H11 g0 g1 g2 => exact absurd (by assumption) h1
 case a14H01 g0 g1 g2 => exact absurd (by assumption) h1
 case a14H11 g0 g1 g2 g3 => exact absurd (by assumption) h1
 case a15H01 g0 g1 => exact absurd (by assumption) h1
 case a15H11 g0 g1 g2 => exact absurd (by assumption) h1
 case a16H01 g0 g1 g2 => exact absurd (by assumption) h1
 case a16H11 g0 g1 g2 g3 => exact absurd (by assumption) h1
 case a17H01 g0 g1 g2 g3 => exact absurd (by assumption) h1
 case a17H11 g0 g1 g2 g3 g4 => exact absurd (by assumption) h1
 case a18H01 g0 g1 g2 => exact absurd (by assumption) h1
 case a18H11 g0 g1 g2 g3 => exact absurd (by assumption) h1
 case a19H02 g0 g1 => exact absurd (by assumption) h1
 case a19H12 g0 g1 g2 => exact absurd (by assumption) h1
 case a19H22 g0 g1 g2 => exact absurd (by assumption) h1
 case a20H02 g0 g1 => exact absurd (by assumption) h1
 case a20H12 g0 g1 g2 => exact absurd (by assumption) h1
 case a20H22 g0 g1 g2 => exact absurd (by assumption) h1
 case a21H02 g0 g1 g2 => exact absurd (by assumption) h1
 case a21H12 g0 g1 g2 g3 => exact absurd (by assumption) h1
 case a21H22 g0 g1 g2 g3 => exact absurd (by assumption) h1
 case a22H02 g0 g1 g2 g3 => exact absurd (by assumption) h1
 case a22H12 g0 g1 g2 g3 g4 => exact absurd (by assumption) h1
 case a22H22 g0 g1 g2 g3 g4 => exact absurd (by assumption) h1
 case a23H02 g0 g1 g2 => exact absurd (by assumption) h1
 case a23H12 g0 g1 g2 g3 => exact absurd (by assumption) h1
 case a23H22 g0 g1 g2 g3 => exact absurd (by assumption) h1
 case a26H02 g0 g1 => exact absurd (by assumption) h1
 case a26H12 g0 g1 g2 => exact absurd (by assumption) h1
 case a26H22 g0 g1 g2 => exact absurd (by assumption) h1
 case a27H02 g0 g1 g2 => exact absurd (by assumption) h1
 case a27H12 g0 g1 g2 g3 => exact absurd (by assumption) h1
 case a27H22 g0 g1 g2 g3 => exact absurd (by assumption) h1
 case a28H03 g0 g1 => exact absurd (by assumption) h1
 case a28H13 g0 g1 g2 => exact absurd (by assumption) h1
 case a28H23 g0 g1 g2 => exact absurd (by assumption) h1
 case a28H33 g0 g1 g2 => exact absurd (by assumption) h1
 case a29H03 g0 g1 g2 => exact absurd (by assumption) h1
 case a29H13 g0 g1 g2 g3 => exact absurd (by assumption) h1
 case a29H23 g0 g1 g2 g3 => exact absurd (by assumption) h1
 case a29H33 g0 g1 g2 g3 => exact absurd (by assumption) h1
 case a30H03 g0 g1 g2 g3 => exact absurd (by assumption) h1
 case a30H13 g0 g1 g2 g3 g4 => exact absurd (by assumption) h1
 case a30H23 g0 g1 g2 g3 g4 => exact absurd (by assumption) h1
 case a30H33 g0 g1 g2 g3 g4 => exact absurd (by assumption) h1
 case a31H03 g0 g1 g2 => exact absurd (by assumption) h1
 case a31H13 g0 g1 g2 g3 => exact absurd (by assumption) h1
 case a31H23 g0 g1 g2 g3 => exact absurd (by assumption) h1
 case a31H33 g0 g1 g2 g3 => exact absurd (by assumption) h1
 case a32F g0 g1 => exact At.a32F (by assumption) (by assumption)
 case a32H04 g0 g1 => exact absurd (by assumption) h1
 case a32H14 g0 g1 g2 => exact absurd (by assumption) h1
 case a32H24 g0 g1 g2 => exact absurd (by assumption) h1
 case a32H34 g0 g1 g2 => exact absurd (by assumption) h1
 case a33F g0 g1 g2 => exact At.a33F (by assumption) (by assumption) (by assumption)
 case a33H04 g0 g1 g2 => exact absurd (by assumption) h1
 case a33H14 g0 g1 g2 g3 => exact absurd (by assumption) h1
 case a33H24 g0 g1 g2 g3 => exact absurd (by assumption) h1
 case a33H34 g0 g1 g2 g3 => exact absurd (by assumption) h1
theorem At.served (h : At me n v ow c g j r1 r2 r4 r5 r6 r7 q) (h1 : g ≠ some v) : At me n (v + 1) ow c g j r1 r2 r4 r5 r6 r7 q := by
 cases h
 case a0F g0 g1 => exact At.a0F (by assumption) (by assumption)
 case a0H04 g0 g1 => exact absurd (by assumption) h1
 case a0H14 g0 g1 g2 => exact absurd (by assumption) h1
 case a0H24 g0 g1 g2 => exact absurd (by assumption) h1
 case a0H34 g0 g1 g2 => exact absurd (by assumption) h1
 case a1F g0 g1 => exact At.a1F (by assumption) (by assumption)
 case a1H04 g0 g1 => exact absurd (by assumption) h1
 case a1H14 g0 g1 g2 => exact absurd (by assumption) h1
 case a1H24 g0 g1 g2 => exact absurd (by assumption) h1
 case a1H34 g0 g1 g2 => exact absurd (by assumption) h1
 case a2F g0 g1 g2 => exact At.a2F (by assumption) (by assumption) (by assumption)
 case a2H04 g0 g1 g2 => exact absurd (by assumption) h1
 case a2H14 g0 g1 g2 g3 => exact absurd (by assumption) h1
 case a2H24 g0 g1 g2 g3 => exact absurd (by assumption) h1
 case a2H34 g0 g1 g2 g3 => exact absurd (by assumption) h1
 case a3F g0 g1 g2 g3 => exact At.a3F (by assumption) (by assumption) (by assumption) (by assumption)
 case a3H04 g0 g1 g2 g3 => exact absurd (by assumption) h1
 case a3H14 g0 g1 g2 g3 g4 => exact absurd (by assumption) h1
 case a3H24 g0 g1 g2 g3 g4 => exact absurd (by assumption) h1
 case a3H34 g0 g1 g2 g3 g4 => exact absurd (by assumption) h1
 case a4F g0 g1 g2 g3 => exact At.a4F (by assumption) (by assumption) (by assumption) (by assumption)
 case a4H04 g0 g1 g2 g3 => exact absurd (by assumption) h1
 case a4H14 g0 g1 g2 g3 g4 => exact absurd (by assumption) h1
 case a4H24 g0 g1 g2 g3 g4 => exact absurd (by assumption) h1
 case a4H34 g0 g1 g2 g3 g4 => exact absurd (by assumption) h1
 case a7F g0 g1 g2 => exact At.a7F (by assumption) (by assumption) (by assumption)
 case a7H04 g0 g1 g2 => exact absurd (by assumption) h1
 case a7H14 g0 g1 g2 g3 => exact absurd (by assumption) h1
 case a7H24 g0 g1 g2 g3 => exact absurd (by assumption) h1
 case a7H34 g0 g1 g2 g3 => exact absurd (by assumption) h1
 case a8F g0 g1 g2 g3 => exact At.a8F (by assumption) (by assumption) (by assumption) (by assumption)
 case a8H04 g0 g1 g2 g3 => exact absurd (by assumption) h1
 case a8H14 g0 g1 g2 g3 g4 => exact absurd (by assumption) h1
 case a8H24 g0 g1 g2 g3 g4 => exact absurd (by assumption) h1
 case a8H34 g0 g1 g2 g3 g4 => exact absurd (by assumption) h1
 case a9W g0 g1 g2 g3 g4 =>
  have hne : r4 ≠ v := fun e => h1 (by rw [show g = some r4 by assumption, e])
  exact At.a9W (by first | assumption | omega | (intro e; have := ‹r6 ≠ 0 → v = r4› e; omega)) (by first | assumption | omega | (intro e; have := ‹r6 ≠ 0 → v = r4› e; omega)) (by first | assumption | omega | (intro e; have := ‹r6 ≠ 0 → v = r4› e; omega)) (by first | assumption | omega | (intro e; have := ‹r6 ≠ 0 → v = r4› e; omega)) (by first | assumption | omega | (intro e; have := ‹r6 ≠ 0 → v = r4› e; omega))
 case a10W g0 g1 g2 g3 g4 g5 =>
  have hne : r4 ≠ v := fun e => h1 (by rw [show g = some r4 by assumption, e])
  exact At.a10W (by first | assumption | omega | (intro e; have := ‹r6 ≠ 0 → v = r4› e; omega)) (by first | assumption | omega | (intro e; have := ‹r6 ≠ 0 → v = r4› e; omega)) (by first | assumption | omega | (intro e; have := ‹r6 ≠ 0 → v = r4› e; omega)) (by first | assumption | omega | (intro e; have := ‹r6 ≠ 0 → v = r4› e; omega)) (by first | assumption | omega | (intro e; have := ‹r6 ≠ 0 → v = r4› e; omega)) (by first | assumption | omega | (intro e; have := ‹r6 ≠ 0 → v = r4› e; omega))
 case a11W g0 g1 g2 g3 g4 g5 =>
  have hne : r4 ≠ v := fun e => h1 (by rw [show g = some r4 by assumption, e])
  exact At.a11W (by first | assumption | omega | (intro e; have := ‹r6 ≠ 0 → v = r4› e; omega)) (by first | assumption | omega | (intro e; have := ‹r6 ≠ 0 → v = r4› e; omega)) (by first | assumption | omega | (intro e; have := ‹r6 ≠ 0 → v = r4› e; omega)) (by first | assumption | omega | (intro e; have := ‹r6 ≠ 0 → v = r4› e; omega)) (by first | assumption | omega | (intro e; have := ‹r6 ≠ 0 → v = r4› e; omega)) (by first | assumption | omega | (intro e; have := ‹r6 ≠ 0 → v = r4› e; omega))
 case a12H00 g0 g1 g2 => exact absurd (by assumption) h1
 case a13H01 g0 g1 => exact absurd (by assumption) h1
 case a13H11 g0 g1 g2 => exact absurd (by assumption) h1
 case a14H01 g0 g1 g2 => exact absurd (by assumption) h1
 case a14H11 g0 g1 g2 g3 => exact absurd (by assumption) h1
 case a15H01 g0 g1 => exact absurd (by assumption) h1
 case a15H11 g0 g1 g2 => exact absurd (by assumption) h1
 case a16H01 g0 g1 g2 => exact absurd (by assumption) h1
 case a16H11 g0 g1 g2 g3 => exact absurd (by assumption) h1
 case a17H01 g0 g1 g2 g3 => exact absurd (by assumption) h1
 case a17H11 g0 g1 g2 g3 g4 => exact absurd (by assumption) h1
 case a18H01 g0 g1 g2 => exact absurd (by assumption) h1
 case a18H11 g0 g1 g2 g3 => exact absurd (by assumption) h1
 case a19H02 g0 g1 => exact absurd (by assumption) h1
 case a19H12 g0 g1 g2 => exact absurd (by assumption) h1
 case a19H22 g0 g1 g2 => exact absurd (by assumption) h1
 case a20H02 g0 g1 => exact absurd (by assumption) h1
 case a20H12 g0 g1 g2 => exact absurd (by assumption) h1
 case a20H22 g0 g1 g2 => exact absurd (by assumption) h1
 case a21H02 g0 g1 g2 => exact absurd (by assumption) h1
 case a21H12 g0 g1 g2 g3 => exact absurd (by assumption) h1
 case a21H22 g0 g1 g2 g3 => exact absurd (by assumption) h1
 case a22H02 g0 g1 g2 g3 => exact absurd (by assumption) h1
 case a22H12 g0 g1 g2 g3 g4 => exact absurd (by assumption) h1
 case a22H22 g0 g1 g2 g3 g4 => exact absurd (by assumption) h1
 case a23H02 g0 g1 g2 => exact absurd (by assumption) h1
 case a23H12 g0 g1 g2 g3 => exact absurd (by assumption) h1
 case a23H22 g0 g1 g2 g3 => exact absurd (by assumption) h1
 case a26H02 g0 g1 => exact absurd (by assumption) h1
 case a26H12 g0 g1 g2 => exact absurd (by assumption) h1
 case a26H22 g0 g1 g2 => exact absurd (by assumption) h1
 case a27H02 g0 g1 g2 => exact absurd (by assumption) h1
 case a27H12 g0 g1 g2 g3 => exact absurd (by assumption) h1
 case a27H22 g0 g1 g2 g3 => exact absurd (by assumption) h1
 case a28H03 g0 g1 => exact absurd (by assumption) h1
 case a28H13 g0 g1 g2 => exact absurd (by assumption) h1
 case a28H23 g0 g1 g2 => exact absurd (by assumption) h1
 case a28H33 g0 g1 g2 => exact absurd (by assumption) h1
 case a29H03 g0 g1 g2 => exact absurd (by assumption) h1
 case a29H13 g0 g1 g2 g3 => exact absurd (by assumption) h1
 case a29H23 g0 g1 g2 g3 => exact absurd (by assumption) h1
 case a29H33 g0 g1 g2 g3 => exact absurd (by assumption) h1
 case a30H03 g0 g1 g2 g3 => exact absurd (by assumption) h1
 case a30H13 g0 g1 g2 g3 g4 => exact absurd (by assumption) h1
 case a30H23 g0 g1 g2 g3 g4 => exact absurd (by assumption) h1
 case a30H33 g0 g1 g2 g3 g4 => exact absurd (by assumption) h1
 case a31H03 g0 g1 g2 => exact absurd (by assumption) h1
 case a31H13 g0 g1 g2 g3 => exact absurd (by assumption) h1
 case a31H23 g0 g1 g2 g3 => exact absurd (by assumption) h1
 case a31H33 g0 g1 g2 g3 => exact absurd (by assumption) h1
 case a32F g0 g1 => exact At.a32F (by assumption) (by assumption)
 case a32H04 g0 g1 => exact absurd (by assumption) h1
 case a32H14 g0 g1 g2 => exact absurd (by assumption) h1
 case a32H24 g0 g1 g2 => exact absurd (by assumption) h1
 case a32H34 g0 g1 g2 => exact absurd (by assumption) h1
 case a33F g0 g1 g2 => exact At.a33F (by assumption) (by assumption) (by assumption)
 case a33H04 g0 g1 g2 => exact absurd (by assumption) h1
 case a33H14 g0 g1 g2 g3 => exact absurd (by assumption) h1
 case a33H24 g0 g1 g2 g3 => exact absurd (by assumption) h1
 case a33H34 g0 g1 g2 g3 => exact absurd (by assumption) h1
theorem At.drawn (h : At me n v ow c g j r1 r2 r4 r5 r6 r7 q) : At me (n + 1) v ow c g j r1 r2 r4 r5 r6 r7 q := by
 cases h
 case a0F g0 g1 => exact At.a0F (by first | assumption | omega) (by first | assumption | omega)
 case a0H04 g0 g1 => exact At.a0H04 (by first | assumption | omega) (by first | assumption | omega)
 case a0H14 g0 g1 g2 => exact At.a0H14 (by first | assumption | omega) (by first | assumption | omega) (by first | assumption | omega)
 case a0H24 g0 g1 g2 => exact At.a0H24 (by first | assumption | omega) (by first | assumption | omega) (by first | assumption | omega)
 case a0H34 g0 g1 g2 => exact At.a0H34 (by first | assumption | omega) (by first | assumption | omega) (by first | assumption | omega)
 case a1F g0 g1 => exact At.a1F (by first | assumption | omega) (by first | assumption | omega)
 case a1H04 g0 g1 => exact At.a1H04 (by first | assumption | omega) (by first | assumption | omega)
 case a1H14 g0 g1 g2 => exact At.a1H14 (by first | assumption | omega) (by first | assumption | omega) (by first | assumption | omega)
 case a1H24 g0 g1 g2 => exact At.a1H24 (by first | assumption | omega) (by first | assumption | omega) (by first | assumption | omega)
 case a1H34 g0 g1 g2 => exact At.a1H34 (by first | assumption | omega) (by first | assumption | omega) (by first | assumption | omega)
 case a2F g0 g1 g2 => exact At.a2F (by first | assumption | omega) (by first | assumption | omega) (by first | assumption | omega)
 case a2H04 g0 g1 g2 => exact At.a2H04 (by first | assumption | omega) (by first | assumption | omega) (by first | assumption | omega)
 case a2H14 g0 g1 g2 g3 => exact At.a2H14 (by first | assumption | omega) (by first | assumption | omega) (by first | assumption | omega) (by first | assumption | omega)
 case a2H24 g0 g1 g2 g3 => exact At.a2H24 (by first | assumption | omega) (by first | assumption | omega) (by first | assumption | omega) (by first | assumption | omega)
 case a2H34 g0 g1 g2 g3 => exact At.a2H34 (by first | assumption | omega) (by first | assumption | omega) (by first | assumption | omega) (by first | assumption | omega)
 case a3F g0 g1 g2 g3 => exact At.a3F (by first | assumption | omega) (by first | assumption | omega) (by first | assumption | omega) (by first | assumption | omega)
 case a3H04 g0 g1 g2 g3 => exact At.a3H04 (by first | assumption | omega) (by first | assumption | omega) (by first | assumption | omega) (by first | assumption | omega)
 case a3H14 g0 g1 g2 g3 g4 => exact At.a3H14 (by first | assumption | omega) (by first | assumption | omega) (by first | assumption | omega) (by first | assumption | omega) (by first | assumption | omega)
 case a3H24 g0 g1 g2 g3 g4 => exact At.a3H24 (by first | assumption | omega) (by first | assumption | omega) (by first | assumption | omega) (by first | assumption | omega) (by first | assumption | omega)
 case a3H34 g0 g1 g2 g3 g4 => exact At.a3H34 (by first | assumption | omega) (by first | assumption | omega) (by first | assumption | omega) (by first | assumption | omega) (by first | assumption | omega)
 case a4F g0 g1 g2 g3 => exact At.a4F (by first | assumption | omega) (by first | assumption | omega) (by first | assumption | omega) (by first | assumption | omega)
 case a4H04 g0 g1 g2 g3 => exact At.a4H04 (by first | assumption | omega) (by first | assumption | omega) (by first | assumption | omega) (by first | assumption | omega)
 case a4H14 g0 g1 g2 g3 g4 => exact At.a4H14 (by first | assumption | omega) (by first | assumption | omega) (by first | assumption | omega) (by first | assumption | omega) (by first | assumption | omega)
 case a4H24 g0 g1 g2 g3 g4 => exact At.a4H24 (by first | assumption | omega) (by first | assumption | omega) (by first | assumption | omega) (by first | assumption | omega) (by first | assumption | omega)
 case a4H34 g0 g1 g2 g3 g4 => exact At.a4H34 (by first | assumption | omega) (by first | assumption | omega) (by first | assumption | omega) (by first | assumption | omega) (by first | assumption | omega)
 case a7F g0 g1 g2 => exact At.a7F (by first | assumption | omega) (by first | assumption | omega) (by first | assumption | omega)
 case a7H04 g0 g1 g2 => exact At.a7H04 (by first | assumption | omega) (by first | assumption | omega) (by first | assumption | omega)
 case a7H14 g0 g1 g2 g3 => exact At.a7H14 (by first | assumption | omega) (by first | assumption | omega) (by first | assumption | omega) (by first | assumption | omega)
 case a7H24 g0 g1 g2 g3 => exact At.a7H24 (by first | assumption | omega) (by first | assumption | omega) (by first | assumption | omega) (by first | assumption | omega)
 case a7H34 g0 g1 g2 g3 => exact At.a7H34 (by first | assumption | omega) (by first | assumption | omega) (by first | assumption | omega) (by first | assumption | omega)
 case a8F g0 g1 g2 g3 => exact At.a8F (by first | assumption | omega) (by first | assumption | omega) (by first | assumption | omega) (by first | assumption | omega)
 case a8H04 g0 g1 g2 g3 => exact At.a8H04 (by first | assumption | omega) (by first | assumption | omega) (by first | assumption | omega) (by first | assumption | omega)
 case a8H14 g0 g1 g2 g3 g4 => exact At.a8H14 (by first | assumption | omega) (by first | assumption | omega) (by first | assumption | omega) (by first | assumption | omega) (by first | assumption | omega)
 case a8H24 g0 g1 g2 g3 g4 => exact At.a8H24 (by first | assumption | omega) (by first | assumption | omega) (by first | assumption | omega) (by first | assumption | omega) (by first | assumption | omega)
 case a8H34 g0 g1 g2 g3 g4 => exact At.a8H34 (by first | assumption | omega) (by first | assumption | omega) (by first | assumption | omega) (by first | assumption | omega) (by first | assumption | omega)
 case a9W g0 g1 g2 g3 g4 => exact At.a9W (by first | assumption | omega) (by first | assumption | omega) (by first | assumption | omega) (by first | assumption | omega) (by first | assumption | omega)
 case a10W g0 g1 g2 g3 g4 g5 => exact At.a10W (by first | assumption | omega) (by first | assumption | omega) (by first | assumption | omega) (by first | assumption | omega) (by first | assumption | omega) (by first | assumption | omega)
 case a11W g0 g1 g2 g3 g4 g5 => exact At.a11W (by first | assumption | omega) (by first | assumption | omega) (by first | assumption | omega) (by first | assumption | omega) (by first | assumption | omega) (by first | assumption | omega)
 case a12H00 g0 g1 g2 => exact At.a12H00 (by first | assumption | omega) (by first | assumption | omega) (by first | assumption | omega)
 case a13H01 g0 g1 => exact At.a13H01 (by first | assumption | omega) (by first | assumption | omega)
 case a13H11 g0 g1 g2 => exact At.a13H11 (by first | assumption | omega) (by first | assumption | omega) (by first | assumption | omega)
 case a14H01 g0 g1 g2 => exact At.a14H01 (by first | assumption | omega) (by first | assumption | omega) (by first | assumption | omega)
 case a14H11 g0 g1 g2 g3 => exact At.a14H11 (by first | assumption | omega) (by first | assumption | omega) (by first | assumption | omega) (by first | assumption | omega)
 case a15H01 g0 g1 => exact At.a15H01 (by first | assumption | omega) (by first | assumption | omega)
 case a15H11 g0 g1 g2 => exact At.a15H11 (by first | assumption | omega) (by first | assumption | omega) (by first | assumption | omega)
 case a16H01 g0 g1 g2 => exact At.a16H01 (by first | assumption | omega) (by first | assumption | omega) (by first | assumption | omega)
 case a16H11 g0 g1 g2 g3 => exact At.a16H11 (by first | assumption | omega) (by first | assumption | omega) (by first | assumption | omega) (by first | assumption | omega)
 case a17H01 g0 g1 g2 g3 => exact At.a17H01 (by first | assumption | omega) (by first | assumption | omega) (by first | assumption | omega) (by first | assumption | omega)
 case a17H11 g0 g1 g2 g3 g4 => exact At.a17H11 (by first | assumption | omega) (by first | assumption | omega) (by first | assumption | omega) (by first | assumption | omega) (by first | assumption | omega)
 case a18H01 g0 g1 g2 => exact At.a18H01 (by first | assumption | omega) (by first | assumption | omega) (by first | assumption | omega)
 case a18H11 g0 g1 g2 g3 => exact At.a18H11 (by first | assumption | omega) (by first | assumption | omega) (by first | assumption | omega) (by first | assumption | omega)
 case a19H02 g0 g1 => exact At.a19H02 (by first | assumption | omega) (by first | assumption | omega)
 case a19H12 g0 g1 g2 => exact At.a19H12 (by first | assumption | omega) (by first | assumption | omega) (by first | assumption | omega)
 case a19H22 g0 g1 g2 => exact At.a19H22 (by first | assumption | omega) (by first | assumption | omega) (by first | assumption | omega)
 case a20H02 g0 g1 => exact At.a20H02 (by first | assumption | omega) (by first | assumption | omega)
 case a20H12 g0 g1 g2 => exact At.a20H12 (by first | assumption | omega) (by first | assumption | omega) (by first | assumption | omega)
 case a20H22 g0 g1 g2 => exact At.a20H22 (by first | assumption | omega) (by first | assumption | omega) (by first | assumption | omega)
 case a21H02 g0 g1 g2 => exact At.a21H02 (by first | assumption | omega) (by first | assumption | omega) (by first | assumption | omega)
 case a21H12 g0 g1 g2 g3 => exact At.a21H12 (by first | assumption | omega) (by first | assumption | omega) (by first | assumption | omega) (by first | assumption | omega)
 case a21H22 g0 g1 g2 g3 => exact At.a21H22 (by first | assumption | omega) (by first | assumption | omega) (by first | assumption | omega) (by first | assumption | omega)
 case a22H02 g0 g1 g2 g3 => exact At.a22H02 (by first | assumption | omega) (by first | assumption | omega) (by first | assumption | omega) (by first | assumption | omega)
 case a22H12 g0 g1 g2 g3 g4 => exact At.a22H12 (by first | assumption | omega) (by first | assumption | omega) (by first | assumption | omega) (by first | assumption | omega) (by first | assumption | omega)
 case a22H22 g0 g1 g2 g3 g4 => exact At.a22H22 (by first | assumption | omega) (by first | assumption | omega) (by first | assumption | omega) (by first | assumption | omega) (by first | assumption | omega)
 case a23H02 g0 g1 g2 => exact At.a23H02 (by first | assumption | omega) (by first | assumption | omega) (by first | assumption | omega)
 case a23H12 g0 g1 g2 g3 => exact At.a23H12 (by first | assumption | omega) (by first | assumption | omega) (by first | assumption | omega) (by first | assumption | omega)
 case a23H22 g0 g1 g2 g3 => exact At.a23H22 (by first | assumption | omega) (by first | assumption | omega) (by first | assumption | omega) (by first | assumption | omega)
 case a26H02 g0 g1 => exact At.a26H02 (by first | assumption | omega) (by first | assumption | omega)
 case a26H12 g0 g1 g2 => exact At.a26H12 (by first | assumption | omega) (by first | assumption | omega) (by first | assumption | omega)
 case a26H22 g0 g1 g2 => exact At.a26H22 (by first | assumption | omega) (by first | assumption | omega) (by first | assumption | omega)
 case a27H02 g0 g1 g2 => exact At.a27H02 (by first | assumption | omega) (by first | assumption | omega) (by first | assumption | omega)
 case a27H12 g0 g1 g2 g3 => exact At.a27H12 (by first | assumption | omega) (by first | assumption | omega) (by first | assumption | omega) (by first | assumption | omega)
 case a27H22 g0 g1 g2 g3 => exact At.a27H22 (by first | assumption | omega) (by first | assumption | omega) (by first | assumption | omega) (by first | assumption | omega)
 case a28H03 g0 g1 => exact At.a28H03 (by first | assumption | omega) (by first | assumption | omega)
 case a28H13 g0 g1 g2 => exact At.a28H13 (by first | assumption | omega) (by first | assumption | omega) (by first | assumption | omega)
 case a28H23 g0 g1 g2 => exact At.a28H23 (by first | assumption | omega) (by first | assumption | omega) (by first | assumption | omega)
 case a28H33 g0 g1 g2 => exact At.a28H33 (by first | assumption | omega) (by first | assumption | omega) (by first | assumption | omega)
 case a29H03 g0 g1 g2 => exact At.a29H03 (by first | assumption | omega) (by first | assumption | omega) (by first | assumption | omega)
 case a29H13 g0 g1 g2 g3 => exact At.a29H13 (by first | assumption | omega) (by first | assumption | omega) (by first | assumption | omega) (by first | assumption | omega)
 case a29H23 g0 g1 g2 g3 => exact At.a29H23 (by first | assumption | omega) (by first | assumption | omega) (by first | assumption | omega) (by first | assumption | omega)
 case a29H33 g0 g1 g2 g3 => exact At.a29H33 (by first | assumption | omega) (by first | assumption | omega) (by first | assumption | omega) (by first | assumption | omega)
 case a30H03 g0 g1 g2 g3 => exact At.a30H03 (by first | assumption | omega) (by first | assumption | omega) (by first | assumption | omega) (by first | assumption | omega)
 case a30H13 g0 g1 g2 g3 g4 => exact At.a30H13 (by first | assumption | omega) (by first | assumption | omega) (by first | assumption | omega) (by first | assumption | omega) (by first | assumption | omega)
 case a30H23 g0 g1 g2 g3 g4 => exact At.a30H23 (by first | assumption | omega) (by first | assumption | omega) (by first | assumption | omega) (by first | assumption | omega) (by first | assumption | omega)
 case a30H33 g0 g1 g2 g3 g4 => exact At.a30H33 (by first | assumption | omega) (by first | assumption | omega) (by first | assumption | omega) (by first | assumption | omega) (by first | assumption | omega)
 case a31H03 g0 g1 g2 => exact At.a31H03 (by first | assumption | omega) (by first | assumption | omega) (by first | assumption | omega)
 case a31H13 g0 g1 g2 g3 => exact At.a31H13 (by first | assumption | omega) (by first | assumption | omega) (by first | assumption | omega) (by first | assumption | omega)
 case a31H23 g0 g1 g2 g3 => exact At.a31H23 (by first | assumption | omega) (by first | assumption | omega) (by first | assumption | omega) (by first | assumption | omega)
 case a31H33 g0 g1 g2 g3 => exact At.a31H33 (by first | assumption | omega) (by first | assumption | omega) (by first | assumption | omega) (by first | assumption | omega)
 case a32F g0 g1 => exact At.a32F (by first | assumption | omega) (by first | assumption | omega)
 case a32H04 g0 g1 => exact At.a32H04 (by first | assumption | omega) (by first | assumption | omega)
 case a32H14 g0 g1 g2 => exact At.a32H14 (by first | assumption | omega) (by first | assumption | omega) (by first | assumption | omega)
 case a32H24 g0 g1 g2 => exact At.a32H24 (by first | assumption | omega) (by first | assumption | omega) (by first | assumption | omega)
 case a32H34 g0 g1 g2 => exact At.a32H34 (by first | assumption | omega) (by first | assumption | omega) (by first | assumption | omega)
 case a33F g0 g1 g2 => exact At.a33F (by first | assumption | omega) (by first | assumption | omega) (by first | assumption | omega)
 case a33H04 g0 g1 g2 => exact At.a33H04 (by first | assumption | omega) (by first | assumption | omega) (by first | assumption | omega)
 case a33H14 g0 g1 g2 g3 => exact At.a33H14 (by first | assumption | omega) (by first | assumption | omega) (by first | assumption | omega) (by first | assumption | omega)
 case a33H24 g0 g1 g2 g3 => exact At.a33H24 (by first | assumption | omega) (by first | assumption | omega) (by first | assumption | omega) (by first | assumption | omega)
 case a33H34 g0 g1 g2 g3 => exact At.a33H34 (by first | assumption | omega) (by first | assumption | omega) (by first | assumption | omega) (by first | assumption | omega)
theorem At.notin (h : At me n v ow c g j r1 r2 r4 r5 r6 r7 q) (h1 : g ≠ some v) : inR j = false := by
 cases h <;> first | rfl | contradiction
theorem own_buf {e : Nat × Int} {r : List (Nat × Int)} (h : At me n v ow c g j r1 r2 r4 r5 r6 r7 (e :: r)) (hme : 0 < me) : g = some v ∧ v < n ∧ ((e.1 = 18 ∧ e.2 = me ∧ At me n v me c g j r1 r2 r4 r5 r6 r7 r) ∨ (e.1 = 18 ∧ e.2 = 0 ∧ At me n v 0 c g j r1 r2 r4 r5 r6 r7 r) ∨ (e.1 = 0 ∧ e.2 = wr32 (c + 1) ∧ ∀ c', At me n v ow c' g j r1 r2 r4 r5 r6 r7 r) ∨ (e.1 = 17 ∧ e.2 = wr32 (v + 1) ∧ ow = 0 ∧ ∀ v', At me n v' ow c none j r1 r2 r4 r5 r6 r7 r)) := by
 cases h
 case a0H04 g0 g1 => exact ⟨by assumption, by assumption, .inl ⟨rfl, rfl, by apply At.a0H14 <;> first | assumption | rfl | omega⟩⟩
 case a0H14 g0 g1 g2 => exact ⟨by assumption, by assumption, .inr (.inr (.inl ⟨rfl, rfl, fun c' => by apply At.a0H24 <;> first | assumption | rfl | omega⟩))⟩
 case a0H24 g0 g1 g2 => exact ⟨by assumption, by assumption, .inr (.inl ⟨rfl, rfl, by apply At.a0H34 <;> first | assumption | rfl | omega⟩)⟩
 case a0H34 g0 g1 g2 => exact ⟨by assumption, by assumption, .inr (.inr (.inr ⟨rfl, rfl, by assumption, fun v' => by apply At.a0F <;> first | assumption | rfl | omega⟩))⟩
 case a1H04 g0 g1 => exact ⟨by assumption, by assumption, .inl ⟨rfl, rfl, by apply At.a1H14 <;> first | assumption | rfl | omega⟩⟩
 case a1H14 g0 g1 g2 => exact ⟨by assumption, by assumption, .inr (.inr (.inl ⟨rfl, rfl, fun c' => by apply At.a1H24 <;> first | assumption | rfl | omega⟩))⟩
 case a1H24 g0 g1 g2 => exact ⟨by assumption, by assumption, .inr (.inl ⟨rfl, rfl, by apply At.a1H34 <;> first | assumption | rfl | omega⟩)⟩
 case a1H34 g0 g1 g2 => exact ⟨by assumption, by assumption, .inr (.inr (.inr ⟨rfl, rfl, by assumption, fun v' => by apply At.a1F <;> first | assumption | rfl | omega⟩))⟩
 case a2H04 g0 g1 g2 => exact ⟨by assumption, by assumption, .inl ⟨rfl, rfl, by apply At.a2H14 <;> first | assumption | rfl | omega⟩⟩
 case a2H14 g0 g1 g2 g3 => exact ⟨by assumption, by assumption, .inr (.inr (.inl ⟨rfl, rfl, fun c' => by apply At.a2H24 <;> first | assumption | rfl | omega⟩))⟩
 case a2H24 g0 g1 g2 g3 => exact ⟨by assumption, by assumption, .inr (.inl ⟨rfl, rfl, by apply At.a2H34 <;> first | assumption | rfl | omega⟩)⟩
 case a2H34 g0 g1 g2 g3 => exact ⟨by assumption, by assumption, .inr (.inr (.inr ⟨rfl, rfl, by assumption, fun v' => by apply At.a2F <;> first | assumption | rfl | omega⟩))⟩
 case a3H04 g0 g1 g2 g3 => exact ⟨by assumption, by assumption, .inl ⟨rfl, rfl, by apply At.a3H14 <;> first | assumption | rfl | omega⟩⟩
 case a3H14 g0 g1 g2 g3 g4 => exact ⟨by assumption, by assumption, .inr (.inr (.inl ⟨rfl, rfl, fun c' => by apply At.a3H24 <;> first | assumption | rfl | omega⟩))⟩
 case a3H24 g0 g1 g2 g3 g4 => exact ⟨by assumption, by assumption, .inr (.inl ⟨rfl, rfl, by apply At.a3H34 <;> first | assumption | rfl | omega⟩)⟩
 case a3H34 g0 g1 g2 g3 g4 => exact ⟨by assumption, by assumption, .inr (.inr (.inr ⟨rfl, rfl, by assumption, fun v' => by apply At.a3F <;> first | assumption | rfl | omega⟩))⟩
 case a4H04 g0 g1 g2 g3 => exact ⟨by assumption, by assumption, .inl ⟨rfl, rfl, by apply At.a4H14 <;> first | assumption | rfl | omega⟩⟩
 case a4H14 g0 g1 g2 g3 g4 => exact ⟨by assumption, by assumption, .inr (.inr (.inl ⟨rfl, rfl, fun c' => by apply At.a4H24 <;> first | assumption | rfl | omega⟩))⟩
 case a4H24 g0 g1 g2 g3 g4 => exact ⟨by assumption, by assumption, .inr (.inl ⟨rfl, rfl, by apply At.a4H34 <;> first | assumption | rfl | omega⟩)⟩
 case a4H34 g0 g1 g2 g3 g4 => exact ⟨by assumption, by assumption, .inr (.inr (.inr ⟨rfl, rfl, by assumption, fun v' => by apply At.a4F <;> first | assumption | rfl | omega⟩))⟩
 case a7H04 g0 g1 g2 => exact ⟨by assumption, by assumption, .inl ⟨rfl, rfl, by apply At.a7H14 <;> first | assumption | rfl | omega⟩⟩
 case a7H14 g0 g1 g2 g3 => exact ⟨by assumption, by assumption, .inr (.inr (.inl ⟨rfl, rfl, fun c' => by apply At.a7H24 <;> first | assumption | rfl | omega⟩))⟩
 case a7H24 g0 g1 g2 g3 => exact ⟨by assumption, by assumption, .inr (.inl ⟨rfl, rfl, by apply At.a7H34 <;> first | assumption | rfl | omega⟩)⟩
 case a7H34 g0 g1 g2 g3 => exact ⟨by assumption, by assumption, .inr (.inr (.inr ⟨rfl, rfl, by assumption, fun v' => by apply At.a7F <;> first | assumption | rfl | omega⟩))⟩
 case a8H04 g0 g1 g2 g3 => exact ⟨by assumption, by assumption, .inl ⟨rfl, rfl, by apply At.a8H14 <;> first | assumption | rfl | omega⟩⟩
 case a8H14 g0 g1 g2 g3 g4 => exact ⟨by assumption, by assumption, .inr (.inr (.inl ⟨rfl, rfl, fun c' => by apply At.a8H24 <;> first | assumption | rfl | omega⟩))⟩
 case a8H24 g0 g1 g2 g3 g4 => exact ⟨by assumption, by assumption, .inr (.inl ⟨rfl, rfl, by apply At.a8H34 <;> first | assumption | rfl | omega⟩)⟩
 case a8H34 g0 g1 g2 g3 g4 => exact ⟨by assumption, by assumption, .inr (.inr (.inr ⟨rfl, rfl, by assumption, fun v' => by apply At.a8F <;> first | assumption | rfl | omega⟩))⟩
 case a13H01 g0 g1 => exact ⟨by assumption, by assumption, .inl ⟨rfl, rfl, by apply At.a13H11 <;> first | assumption | rfl | omega⟩⟩
 case a14H01 g0 g1 g2 => exact ⟨by assumption, by assumption, .inl ⟨rfl, rfl, by apply At.a14H11 <;> first | assumption | rfl | omega⟩⟩
 case a15H01 g0 g1 => exact ⟨by assumption, by assumption, .inl ⟨rfl, rfl, by apply At.a15H11 <;> first | assumption | rfl | omega⟩⟩
 case a16H01 g0 g1 g2 => exact ⟨by assumption, by assumption, .inl ⟨rfl, rfl, by apply At.a16H11 <;> first | assumption | rfl | omega⟩⟩
 case a17H01 g0 g1 g2 g3 => exact ⟨by assumption, by assumption, .inl ⟨rfl, rfl, by apply At.a17H11 <;> first | assumption | rfl | omega⟩⟩
 case a18H01 g0 g1 g2 => exact ⟨by assumption, by assumption, .inl ⟨rfl, rfl, by apply At.a18H11 <;> first | assumption | rfl | omega⟩⟩
 case a19H02 g0 g1 => exact ⟨by assumption, by assumption, .inl ⟨rfl, rfl, by apply At.a19H12 <;> first | assumption | rfl | omega⟩⟩
 case a19H12 g0 g1 g2 => exact ⟨by assumption, by assumption, .inr (.inr (.inl ⟨rfl, rfl, fun c' => by apply At.a19H22 <;> first | assumption | rfl | omega⟩))⟩
 case a20H02 g0 g1 => exact ⟨by assumption, by assumption, .inl ⟨rfl, rfl, by apply At.a20H12 <;> first | assumption | rfl | omega⟩⟩
 case a20H12 g0 g1 g2 => exact ⟨by assumption, by assumption, .inr (.inr (.inl ⟨rfl, rfl, fun c' => by apply At.a20H22 <;> first | assumption | rfl | omega⟩))⟩
 case a21H02 g0 g1 g2 => exact ⟨by assumption, by assumption, .inl ⟨rfl, rfl, by apply At.a21H12 <;> first | assumption | rfl | omega⟩⟩
 case a21H12 g0 g1 g2 g3 => exact ⟨by assumption, by assumption, .inr (.inr (.inl ⟨rfl, rfl, fun c' => by apply At.a21H22 <;> first | assumption | rfl | omega⟩))⟩
 case a22H02 g0 g1 g2 g3 => exact ⟨by assumption, by assumption, .inl ⟨rfl, rfl, by apply At.a22H12 <;> first | assumption | rfl | omega⟩⟩
 case a22H12 g0 g1 g2 g3 g4 => exact ⟨by assumption, by assumption, .inr (.inr (.inl ⟨rfl, rfl, fun c' => by apply At.a22H22 <;> first | assumption | rfl | omega⟩))⟩
 case a23H02 g0 g1 g2 => exact ⟨by assumption, by assumption, .inl ⟨rfl, rfl, by apply At.a23H12 <;> first | assumption | rfl | omega⟩⟩
 case a23H12 g0 g1 g2 g3 => exact ⟨by assumption, by assumption, .inr (.inr (.inl ⟨rfl, rfl, fun c' => by apply At.a23H22 <;> first | assumption | rfl | omega⟩))⟩
 case a26H02 g0 g1 => exact ⟨by assumption, by assumption, .inl ⟨rfl, rfl, by apply At.a26H12 <;> first | assumption | rfl | omega⟩⟩
 case a26H12 g0 g1 g2 => exact ⟨by assumption, by assumption, .inr (.inr (.inl ⟨rfl, rfl, fun c' => by apply At.a26H22 <;> first | assumption | rfl | omega⟩))⟩
 case a27H02 g0 g1 g2 => exact ⟨by assumption, by assumption, .inl ⟨rfl, rfl, by apply At.a27H12 <;> first | assumption | rfl | omega⟩⟩
 case a27H12 g0 g1 g2 g3 => exact ⟨by assumption, by assumption, .inr (.inr (.inl ⟨rfl, rfl, fun c' => by apply At.a27H22 <;> first | assumption | rfl | omega⟩))⟩
 case a28H03 g0 g1 => exact ⟨by assumption, by assumption, .inl ⟨rfl, rfl, by apply At.a28H13 <;> first | assumption | rfl | omega⟩⟩
 case a28H13 g0 g1 g2 => exact ⟨by assumption, by assumption, .inr (.inr (.inl ⟨rfl, rfl, fun c' => by apply At.a28H23 <;> first | assumption | rfl | omega⟩))⟩
 case a28H23 g0 g1 g2 => exact ⟨by assumption, by assumption, .inr (.inl ⟨rfl, rfl, by apply At.a28H33 <;> first | assumption | rfl | omega⟩)⟩
 case a29H03 g0 g1 g2 => exact ⟨by assumption, by assumption, .inl ⟨rfl, rfl, by apply At.a29H13 <;> first | assumption | rfl | omega⟩⟩
 case a29H13 g0 g1 g2 g3 => exact ⟨by assumption, by assumption, .inr (.inr (.inl ⟨rfl, rfl, fun c' => by apply At.a29H23 <;> first | assumption | rfl | omega⟩))⟩
 case a29H23 g0 g1 g2 g3 => exact ⟨by assumption, by assumption, .inr (.inl ⟨rfl, rfl, by apply At.a29H33 <;> first | assumption | rfl | omega⟩)⟩
 case a30H03 g0 g1 g2 g3 => exact ⟨by assumption, by assumption, .inl ⟨rfl, rfl, by apply At.a30H13 <;> first | assumption | rfl | omega⟩⟩
 case a30H13 g0 g1 g2 g3 g4 => exact ⟨by assumption, by assumption, .inr (.inr (.inl ⟨rfl, rfl, fun c' => by apply At.a30H23 <;> first | assumption | rfl | omega⟩))⟩
 case a30H23 g0 g1 g2 g3 g4 => exact ⟨by assumption, by assumption, .inr (.inl ⟨rfl, rfl, by apply At.a30H33 <;> first | assumption | rfl | omega⟩)⟩
 case a31H03 g0 g1 g2 => exact ⟨by assumption, by assumption, .inl ⟨rfl, rfl, by apply At.a31H13 <;> first | assumption | rfl | omega⟩⟩
 case a31H13 g0 g1 g2 g3 => exact ⟨by assumption, by assumption, .inr (.inr (.inl ⟨rfl, rfl, fun c' => by apply At.a31H23 <;> first | assumption | rfl | omega⟩))⟩
 case a31H23 g0 g1 g2 g3 => exact ⟨by assumption, by assumption, .inr (.inl ⟨rfl, rfl, by apply At.a31H33 <;> first | assumption | rfl | omega⟩)⟩
 case a32H04 g0 g1 => exact ⟨by assumption, by assumption, .inl ⟨rfl, rfl, by apply At.a32H14 <;> first | assumption | rfl | omega⟩⟩
 case a32H14 g0 g1 g2 => exact ⟨by assumption, by assumption, .inr (.inr (.inl ⟨rfl, rfl, fun c' => by apply At.a32H24 <;> first | assumption | rfl | omega⟩))⟩
 case a32H24 g0 g1 g2 => exact ⟨by assumption, by assumption, .inr (.inl ⟨rfl, rfl, by apply At.a32H34 <;> first | assumption | rfl | omega⟩)⟩
 case a32H34 g0 g1 g2 => exact ⟨by assumption, by assumption, .inr (.inr (.inr ⟨rfl, rfl, by assumption, fun v' => by apply At.a32F <;> first | assumption | rfl | omega⟩))⟩
 case a33H04 g0 g1 g2 => exact ⟨by assumption, by assumption, .inl ⟨rfl, rfl, by apply At.a33H14 <;> first | assumption | rfl | omega⟩⟩
 case a33H14 g0 g1 g2 g3 => exact ⟨by assumption, by assumption, .inr (.inr (.inl ⟨rfl, rfl, fun c' => by apply At.a33H24 <;> first | assumption | rfl | omega⟩))⟩
 case a33H24 g0 g1 g2 g3 => exact ⟨by assumption, by assumption, .inr (.inl ⟨rfl, rfl, by apply At.a33H34 <;> first | assumption | rfl | omega⟩)⟩
 case a33H34 g0 g1 g2 g3 => exact ⟨by assumption, by assumption, .inr (.inr (.inr ⟨rfl, rfl, by assumption, fun v' => by apply At.a33F <;> first | assumption | rfl | omega⟩))⟩
end
theorem owner_other {me n v ow c r1 r2 r4 r5 r6 r7 : Int} {g : Option Int} {j : Nat} {q : List (Nat × Int)} (h : At me n v ow c g j r1 r2 r4 r5 r6 r7 q) (h1 : g ≠ some v) : ow ≠ me := by
 cases h <;> first | assumption | contradiction
def drew (x : Loc) : Int := (x.p : Int) + if 8 < x.j then 1 else 0
structure Inw (T : Nat) (mem : List Int) (f : Nat → Loc) (q : Nat → List (Nat × Int)) (g : Nat → Option Int) : Prop where
 hat : ∀ t, t < T → At ((t + 1 : Nat) : Int) (mem.getD 16 0) (mem.getD 17 0) (mem.getD 18 0) (mem.getD 0 0) (g t) (f t).j (f t).r1 (f t).r2 (f t).r4 (f t).r5 (f t).r6 (f t).r7 (q t)
 un : ∀ t u, t < T → u < T → t ≠ u → g t = g u → g t = none
 vn : mem.getD 17 0 ≤ mem.getD 16 0
 v0 : 0 ≤ mem.getD 17 0
 sum : mem.getD 16 0 = sumT (fun t => drew (f t)) T
def X (T R : Nat) : Lk := ⟨34, R, T, 19, inR, 18, fun mem f q => ∃ g, Inw T mem f q g⟩
section
variable {T R t : Nat} {codes : List (List Ins)} {s : Ts} {f : Nat → Loc} {i : Int} {g : Nat → Option Int} {mem : List Int} {q : Nat → List (Nat × Int)}
theorem sum_up {x : Loc} (ht : t < T) (hd : drew x = drew (f t)) : sumT (fun u => drew (upF f t x u)) T = sumT (fun u => drew (f u)) T := by
 refine sumT_congr T (fun u _ => ?_)
 by_cases e : u = t
 ·subst e; rw [upF_self]; exact hd
 ·rw [upF_ne _ _ e]
theorem Inw.put {x : Loc} {q' : List (Nat × Int)} {g' : Option Int} (h : Inw T mem f q g) (ht : t < T) (hd : drew x = drew (f t)) (hx : At ((t + 1 : Nat) : Int) (mem.getD 16 0) (mem.getD 17 0) (mem.getD 18 0) (mem.getD 0 0) g' x.j x.r1 x.r2 x.r4 x.r5 x.r6 x.r7 q') (hg : g' = none ∨ g' = g t) : Inw T mem (upF f t x) (upF q t q') (upF g t g') := by
 refine ⟨fun u hu => ?_, fun a b ha hb hne hab => ?_, h.vn, h.v0, by rw [sum_up ht hd]; exact h.sum⟩
 ·by_cases e : u = t
  ·subst e; rw [upF_self, upF_self, upF_self]; exact hx
  ·rw [upF_ne _ _ e, upF_ne _ _ e, upF_ne _ _ e]; exact h.hat u hu
 ·by_cases e1 : a = t
  ·subst e1
   rw [upF_self] at hab ⊢
   rw [upF_ne _ _ (fun e => hne e.symm)] at hab
   rcases hg with hg | hg
   ·exact hg
   ·rw [hg] at hab ⊢; exact h.un _ _ ha hb hne hab
  ·rw [upF_ne _ _ e1] at hab ⊢
   by_cases e2 : b = t
   ·subst e2
    rw [upF_self] at hab
    rcases hg with hg | hg
    ·rw [hab]; exact hg
    ·rw [hg] at hab; exact h.un _ _ ha hb hne hab
   ·rw [upF_ne _ _ e2] at hab; exact h.un _ _ ha hb hne hab
theorem I_loc {x : Loc} (h : Inw T mem f q g) (ht : t < T) (hd : drew x = drew (f t)) (hx : At ((t + 1 : Nat) : Int) (mem.getD 16 0) (mem.getD 17 0) (mem.getD 18 0) (mem.getD 0 0) (g t) x.j x.r1 x.r2 x.r4 x.r5 x.r6 x.r7 (q t)) : (X T R).I mem (upF f t x) q := by
 have := h.put (q' := q t) ht hd hx (.inr rfl)
 rw [upF_id q t, upF_id g t] at this
 exact ⟨_, this⟩
theorem get_set {l : List Int} {a b : Nat} {v : Int} (h : a < l.length) : (l.set a v).getD b 0 = if a = b then v else l.getD b 0 := by
 rw [List.getD_eq_getElem?_getD, List.getElem?_set]
 by_cases e : a = b
 ·subst e; rw [if_pos rfl, if_pos rfl, if_pos h]; rfl
 ·rw [if_neg e, if_neg e, ← List.getD_eq_getElem?_getD]
theorem sumT_le {F : Nat → Int} {B : Int} : ∀ (n : Nat), (∀ t, t < n → F t ≤ B) → sumT F n ≤ n * B
 | 0, _ => by simp [sumT]
 | n + 1, h => by
  rw [sumT]
  have h1 := sumT_le n (fun t ht => h t (by omega))
  have h2 := h n (by omega)
  have : ((n + 1 : Nat) : Int) * B = (n : Int) * B + B := by rw [show ((n + 1 : Nat) : Int) = (n : Int) + 1 by omega, Int.add_mul]; omega
  omega
theorem few (h : (X T R).Inv s f i) (hI : Inw T s.mem f s.buf g) (hT : T ≤ 8) (hR : R ≤ 100) : s.mem.getD 16 0 ≤ 1000 := by
 rw [hI.sum]
 have h1 : ∀ t, t < T → drew (f t) ≤ 101 := fun t ht => by
  have := h.fr t ht
  unfold drew
  have hp : (f t).p ≤ R := by
   rcases this with ⟨_, h, _⟩ | ⟨h, _⟩
   ·have : (f t).p < R := h; omega
   ·have : (f t).p = R := h; omega
  split <;> omega
 have := sumT_le T h1
 omega
theorem flush (h : (X T R).Inv s f i) (ht : t < T) (hT : T ≤ 8) (hR : R ≤ 100) : (X T R).Inv (s.flush t) f i := by
 refine h.flushed ht (fun e r hq => ?_)
 obtain ⟨g, hI⟩ := h.I
 have hat := hI.hat t ht
 rw [hq] at hat
 obtain ⟨hg, hvn, hc⟩ := own_buf hat (by omega)
 have hnm : s.mem.length = 19 := h.nm
 have hbig := few h hI hT hR
 have hv0 := hI.v0
 have hgu : ∀ u, u < T → u ≠ t → g u ≠ some (s.mem.getD 17 0) := fun u hu hne e => by
  have := hI.un u t hu ht hne (by rw [e, hg])
  rw [e] at this; cases this
 have other : ∀ (mem' : List Int), mem'.getD 16 0 = s.mem.getD 16 0 → mem'.getD 17 0 = s.mem.getD 17 0 → (∀ u : Nat, u ≠ t → mem'.getD 18 0 ≠ ((u + 1 : Nat) : Int) ∨ mem'.getD 18 0 = s.mem.getD 18 0) → (∀ u, u < T → u ≠ t → s.mem.getD 18 0 ≠ ((u + 1 : Nat) : Int)) → At ((t + 1 : Nat) : Int) (mem'.getD 16 0) (mem'.getD 17 0) (mem'.getD 18 0) (mem'.getD 0 0) (g t) (f t).j (f t).r1 (f t).r2 (f t).r4 (f t).r5 (f t).r6 (f t).r7 r → (X T R).I mem' f (upF s.buf t r) := fun mem' e16 e17 h18 hold hx => by
  refine ⟨g, ⟨fun u hu => ?_, hI.un, by rw [e16, e17]; exact hI.vn, by rw [e17]; exact hI.v0, by rw [e16]; exact hI.sum⟩⟩
  by_cases e : u = t
  ·subst e; rw [upF_self]; exact hx
  ·rw [upF_ne _ _ e, e16, e17]
   refine (hI.hat u hu).other (hgu u hu e) ?_
   rcases h18 u e with h1 | h1
   ·exact h1
   ·rw [h1]; exact hold u hu e
 have hold : ∀ u, u < T → u ≠ t → s.mem.getD 18 0 ≠ ((u + 1 : Nat) : Int) := fun u hu hne => owner_other (hI.hat u hu) (hgu u hu hne)
 rcases hc with ⟨e0, e1, hr⟩ | ⟨e0, e1, hr⟩ | ⟨e0, e1, hr⟩ | ⟨e0, e1, e2, hr⟩
 ·refine ⟨other _ (by rw [get_set (by omega), if_neg (by omega)]) (by rw [get_set (by omega), if_neg (by omega)]) (fun u hu => .inl (by rw [get_set (by omega), if_pos e0, e1]; omega)) hold ?_, .inl (by omega)⟩
  rw [get_set (by omega), get_set (by omega), get_set (by omega), get_set (by omega), if_neg (by omega), if_neg (by omega), if_pos e0, if_neg (by omega), e1]
  exact hr
 ·refine ⟨other _ (by rw [get_set (by omega), if_neg (by omega)]) (by rw [get_set (by omega), if_neg (by omega)]) (fun u hu => .inl (by rw [get_set (by omega), if_pos e0, e1]; omega)) hold ?_, .inl (by omega)⟩
  rw [get_set (by omega), get_set (by omega), get_set (by omega), get_set (by omega), if_neg (by omega), if_neg (by omega), if_pos e0, if_neg (by omega), e1]
  exact hr
 ·refine ⟨other _ (by rw [get_set (by omega), if_neg (by omega)]) (by rw [get_set (by omega), if_neg (by omega)]) (fun u hu => .inr (by rw [get_set (by omega), if_neg (by omega)])) hold ?_, .inr ⟨e0, by show 0 < 19; decide, e1⟩⟩
  rw [get_set (by omega), get_set (by omega), get_set (by omega), if_neg (by omega), if_neg (by omega), if_neg (by omega)]
  exact hr _
 ·refine ⟨⟨upF g t none, ⟨fun u hu => ?_, fun a b ha hb hne hab => ?_, ?_, ?_, ?_⟩⟩, .inl (by omega)⟩
  ·have m16 : (s.mem.set e.1 e.2).getD 16 0 = s.mem.getD 16 0 := by rw [get_set (by omega), if_neg (by omega)]
   have m17 : (s.mem.set e.1 e.2).getD 17 0 = s.mem.getD 17 0 + 1 := by rw [get_set (by omega), if_pos e0, e1]; unfold wr32; omega
   have m18 : (s.mem.set e.1 e.2).getD 18 0 = s.mem.getD 18 0 := by rw [get_set (by omega), if_neg (by omega)]
   have m0 : (s.mem.set e.1 e.2).getD 0 0 = s.mem.getD 0 0 := by rw [get_set (by omega), if_neg (by omega)]
   rw [m16, m17, m18, m0]
   by_cases eu : u = t
   ·subst eu; rw [upF_self, upF_self]; exact hr _
   ·rw [upF_ne _ _ eu, upF_ne _ _ eu]
    exact (hI.hat u hu).served (hgu u hu eu)
  ·by_cases e1 : a = t
   ·subst e1; rw [upF_self]
   ·rw [upF_ne _ _ e1] at hab ⊢
    by_cases e2 : b = t
    ·subst e2; rw [upF_self] at hab; exact hab
    ·rw [upF_ne _ _ e2] at hab; exact hI.un _ _ ha hb hne hab
  ·rw [get_set (by omega), get_set (by omega), if_pos e0, if_neg (by omega), e1]; unfold wr32; omega
  ·rw [get_set (by omega), if_pos e0, e1]; unfold wr32; omega
  ·rw [get_set (by omega), if_neg (by omega)]; exact hI.sum
theorem at_ins {p j : Nat} {r0 r1 r2 r3 r4 r5 r6 r7 : Int} (hc : codes[t]? = some (codeT R t)) (hs : s.ths[t]? = some (Loc.th 34 ⟨p, j, r0, r1, r2, r3, r4, r5, r6, r7, 0⟩)) (hp : p < R) (hj : j < 34) {i : Ins} (hi : (base ((t + 1 : Nat) : Int))[j]? = some i) : AtI codes s t ⟨((p * 34 + j : Nat) : Int), [r0, r1, r2, r3, r4, r5, r6, r7], 0⟩ (movI (p * 34) i) := by
 refine ⟨hs, ⟨codeT R t, hc, ?_⟩, rfl, by show (0 : Int) ≤ ((p * 34 + j : Nat) : Int); omega⟩
 show (codeT R t)[((p * 34 + j : Nat) : Int).toNat]? = _
 rw [Int.toNat_natCast, code_get R t p j hp hj, hi]; rfl
theorem th_of {p j j' : Nat} {r0 r1 r2 r3 r4 r5 r6 r7 st : Int} (e : j' = j + 1) : Loc.th 34 ⟨p, j', r0, r1, r2, r3, r4, r5, r6, r7, st⟩ = ⟨((p * 34 + j : Nat) : Int) + 1, [r0, r1, r2, r3, r4, r5, r6, r7], st⟩ := by
 subst e; unfold Loc.th; congr 1
theorem th_jmp {p k : Nat} {r0 r1 r2 r3 r4 r5 r6 r7 st : Int} (hp : p ≤ 100) (hk : k < 34) : Loc.th 34 ⟨p, k, r0, r1, r2, r3, r4, r5, r6, r7, st⟩ = ⟨wr32 ((k : Int) + ((p * 34 : Nat) : Int)), [r0, r1, r2, r3, r4, r5, r6, r7], st⟩ := by
 unfold Loc.th
 have : wr32 ((k : Int) + ((p * 34 : Nat) : Int)) = ((p * 34 + k : Nat) : Int) := by unfold wr32; omega
 rw [this]
theorem th_last {p : Nat} {r0 r1 r2 r3 r4 r5 r6 r7 st : Int} : Loc.th 34 ⟨p + 1, 0, r0, r1, r2, r3, r4, r5, r6, r7, st⟩ = ⟨((p * 34 + 33 : Nat) : Int) + 1, [r0, r1, r2, r3, r4, r5, r6, r7], st⟩ := by
 unfold Loc.th; congr 1; show (((p + 1) * 34 + 0 : Nat) : Int) = _; omega
theorem load_q {q : List (Nat × Int)} (hq : s.buf t = q) (a : Nat) : s.load t a = (lastQ q a).getD (s.mem.getD a 0) := by unfold Ts.load; rw [hq]
theorem empty_q {q : List (Nat × Int)} (hq : s.buf t = q) : s.empty t = decide (q.length = 0) := by unfold Ts.empty; rw [hq]
set_option maxHeartbeats 8000000 in
theorem step (h : (X T R).Inv s f i) (ht : t < T) (hT : T ≤ 8) (hR : R ≤ 100) (hc : codes[t]? = some (codeT R t)) (h0 : (f t).st = 0) (hp : (f t).p < R) (hj : (f t).j < 34) : ∃ s' f' i', s.stepT codes t = some s' ∧ (X T R).Inv s' f' i' := by
 obtain ⟨x, hx⟩ : ∃ x, f t = x := ⟨_, rfl⟩
 obtain ⟨gf, hI⟩ := h.I
 have hat := hI.hat t ht
 have hs := h.hs t ht
 have hnm : s.mem.length = 19 := h.nm
 have hbig := few h hI hT hR
 have hvn := hI.vn
 have hv0 := hI.v0
 rw [hx] at hat hs h0 hp hj
 obtain ⟨p, j, r0, r1, r2, r3, r4, r5, r6, r7, st⟩ := x
 dsimp only at hat h0 hp hj
 subst h0
 generalize hq : s.buf t = q at hat
 generalize hgt : gf t = g at hat
 obtain ⟨me, hme⟩ : ∃ me : Int, me = ((t + 1 : Nat) : Int) := ⟨_, rfl⟩
 have hme0 : 0 < me := by omega
 rw [← hme] at hat
 have ins := fun {i : Ins} (hi : (base me)[j]? = some i) => at_ins (R := R) (i := i) hc hs hp hj (by rw [← hme]; exact hi)
 cases hat
 case a0F g0 g1 =>
  have hi := ins (i := ⟨27, 7, 0, 0, 0⟩) rfl
  rw [movI_plain (i := ⟨27, 7, 0, 0, 0⟩) rfl] at hi
  have hmk := st_mark hi
  have hg := h.marked (t := t) ⟨7, 0, ((p * 34 + 0 : Nat) : Int), 0, r7, 0, 0, false⟩ rfl (.inl rfl)
  have key := hg.loc ht (⟨p, 1, r0, r1, r2, r3, r4, r5, r6, r7, 0⟩ : Loc) (.inl ⟨rfl, hp, by show 1 < 34; decide⟩) (I_loc (mem := s.mem) (q := s.buf) hI ht (by rw [hx]; rfl) (by rw [hq, hgt, ← hme]; apply At.a1F <;> first | assumption | rfl | (simp_all; done))) (by rw [hx]; rfl) (by rw [hx]) (by rw [hx]; rfl)
  rw [show Loc.th (X T R).Lb _ = _ from th_of rfl] at key
  exact ⟨_, _, _, hmk, key⟩
 case a0H04 g0 g1 =>
  have hi := ins (i := ⟨27, 7, 0, 0, 0⟩) rfl
  rw [movI_plain (i := ⟨27, 7, 0, 0, 0⟩) rfl] at hi
  have hmk := st_mark hi
  have hg := h.marked (t := t) ⟨7, 0, ((p * 34 + 0 : Nat) : Int), 0, r7, 0, 0, false⟩ rfl (.inl rfl)
  have key := hg.loc ht (⟨p, 1, r0, r1, r2, r3, r4, r5, r6, r7, 0⟩ : Loc) (.inl ⟨rfl, hp, by show 1 < 34; decide⟩) (I_loc (mem := s.mem) (q := s.buf) hI ht (by rw [hx]; rfl) (by rw [hq, hgt, ← hme]; apply At.a1H04 <;> first | assumption | rfl | (simp_all; done))) (by rw [hx]; rfl) (by rw [hx]) (by rw [hx]; rfl)
  rw [show Loc.th (X T R).Lb _ = _ from th_of rfl] at key
  exact ⟨_, _, _, hmk, key⟩
 case a0H14 g0 g1 g2 =>
  have hi := ins (i := ⟨27, 7, 0, 0, 0⟩) rfl
  rw [movI_plain (i := ⟨27, 7, 0, 0, 0⟩) rfl] at hi
  have hmk := st_mark hi
  have hg := h.marked (t := t) ⟨7, 0, ((p * 34 + 0 : Nat) : Int), 0, r7, 0, 0, false⟩ rfl (.inl rfl)
  have key := hg.loc ht (⟨p, 1, r0, r1, r2, r3, r4, r5, r6, r7, 0⟩ : Loc) (.inl ⟨rfl, hp, by show 1 < 34; decide⟩) (I_loc (mem := s.mem) (q := s.buf) hI ht (by rw [hx]; rfl) (by rw [hq, hgt, ← hme]; apply At.a1H14 <;> first | assumption | rfl | (simp_all; done))) (by rw [hx]; rfl) (by rw [hx]) (by rw [hx]; rfl)
  rw [show Loc.th (X T R).Lb _ = _ from th_of rfl] at key
  exact ⟨_, _, _, hmk, key⟩
 case a0H24 g0 g1 g2 =>
  have hi := ins (i := ⟨27, 7, 0, 0, 0⟩) rfl
  rw [movI_plain (i := ⟨27, 7, 0, 0, 0⟩) rfl] at hi
  have hmk := st_mark hi
  have hg := h.marked (t := t) ⟨7, 0, ((p * 34 + 0 : Nat) : Int), 0, r7, 0, 0, false⟩ rfl (.inl rfl)
  have key := hg.loc ht (⟨p, 1, r0, r1, r2, r3, r4, r5, r6, r7, 0⟩ : Loc) (.inl ⟨rfl, hp, by show 1 < 34; decide⟩) (I_loc (mem := s.mem) (q := s.buf) hI ht (by rw [hx]; rfl) (by rw [hq, hgt, ← hme]; apply At.a1H24 <;> first | assumption | rfl | (simp_all; done))) (by rw [hx]; rfl) (by rw [hx]) (by rw [hx]; rfl)
  rw [show Loc.th (X T R).Lb _ = _ from th_of rfl] at key
  exact ⟨_, _, _, hmk, key⟩
 case a0H34 g0 g1 g2 =>
  have hi := ins (i := ⟨27, 7, 0, 0, 0⟩) rfl
  rw [movI_plain (i := ⟨27, 7, 0, 0, 0⟩) rfl] at hi
  have hmk := st_mark hi
  have hg := h.marked (t := t) ⟨7, 0, ((p * 34 + 0 : Nat) : Int), 0, r7, 0, 0, false⟩ rfl (.inl rfl)
  have key := hg.loc ht (⟨p, 1, r0, r1, r2, r3, r4, r5, r6, r7, 0⟩ : Loc) (.inl ⟨rfl, hp, by show 1 < 34; decide⟩) (I_loc (mem := s.mem) (q := s.buf) hI ht (by rw [hx]; rfl) (by rw [hq, hgt, ← hme]; apply At.a1H34 <;> first | assumption | rfl | (simp_all; done))) (by rw [hx]; rfl) (by rw [hx]) (by rw [hx]; rfl)
  rw [show Loc.th (X T R).Lb _ = _ from th_of rfl] at key
  exact ⟨_, _, _, hmk, key⟩
 case a1F g0 g1 =>
  have hi := ins (i := ⟨16, 4, 8, 0, 18⟩) rfl
  rw [movI_plain (i := ⟨16, 4, 8, 0, 18⟩) rfl] at hi
  have hst := st_load hi (ad := 18) (addr_abs _ _ _ _ _) (by rw [hnm]; decide)
  have hl : s.load t 18 = (s.mem.getD 18 0) := by rw [load_q hq]; rfl
  rw [hl] at hst
  have hg := h.noted (t := t) ⟨1, 0, ((p * 34 + 1 : Nat) : Int), 18, (s.mem.getD 18 0), 0, 0, false⟩ (show (1 : Int) ≠ 7 by decide) (show (1 : Int) ≠ 13 by decide)
  have key := hg.loc ht (⟨p, 2, r0, r1, r2, r3, (s.mem.getD 18 0), r5, r6, r7, 0⟩ : Loc) (.inl ⟨rfl, hp, by show 2 < 34; decide⟩) (I_loc (mem := s.mem) (q := s.buf) hI ht (by rw [hx]; rfl) (by rw [hq, hgt, ← hme]; exact (At.a2F (by first | assumption | rfl | omega | (intro e; dsimp only at e; omega) | exact Int.le_refl _) (by first | assumption | rfl | omega | (intro e; dsimp only at e; omega) | exact Int.le_refl _) (by first | assumption | rfl | omega | (intro e; dsimp only at e; omega) | exact Int.le_refl _)))) (by rw [hx]; rfl) (by rw [hx]) (by rw [hx]; rfl)
  rw [show Loc.th (X T R).Lb _ = _ from th_of rfl] at key
  exact ⟨_, _, _, hst, key⟩
 case a1H04 g0 g1 =>
  have hi := ins (i := ⟨16, 4, 8, 0, 18⟩) rfl
  rw [movI_plain (i := ⟨16, 4, 8, 0, 18⟩) rfl] at hi
  have hst := st_load hi (ad := 18) (addr_abs _ _ _ _ _) (by rw [hnm]; decide)
  have hl : s.load t 18 = (0 : Int) := by rw [load_q hq]; rfl
  rw [hl] at hst
  have hg := h.noted (t := t) ⟨1, 0, ((p * 34 + 1 : Nat) : Int), 18, (0 : Int), 0, 0, false⟩ (show (1 : Int) ≠ 7 by decide) (show (1 : Int) ≠ 13 by decide)
  have key := hg.loc ht (⟨p, 2, r0, r1, r2, r3, (0 : Int), r5, r6, r7, 0⟩ : Loc) (.inl ⟨rfl, hp, by show 2 < 34; decide⟩) (I_loc (mem := s.mem) (q := s.buf) hI ht (by rw [hx]; rfl) (by rw [hq, hgt, ← hme]; exact (At.a2H04 (by first | assumption | rfl | omega | (intro e; dsimp only at e; omega) | exact Int.le_refl _) (by first | assumption | rfl | omega | (intro e; dsimp only at e; omega) | exact Int.le_refl _) (by first | assumption | rfl | omega | (intro e; dsimp only at e; omega) | exact Int.le_refl _)))) (by rw [hx]; rfl) (by rw [hx]) (by rw [hx]; rfl)
  rw [show Loc.th (X T R).Lb _ = _ from th_of rfl] at key
  exact ⟨_, _, _, hst, key⟩
 case a1H14 g0 g1 g2 =>
  have hi := ins (i := ⟨16, 4, 8, 0, 18⟩) rfl
  rw [movI_plain (i := ⟨16, 4, 8, 0, 18⟩) rfl] at hi
  have hst := st_load hi (ad := 18) (addr_abs _ _ _ _ _) (by rw [hnm]; decide)
  have hl : s.load t 18 = (0 : Int) := by rw [load_q hq]; rfl
  rw [hl] at hst
  have hg := h.noted (t := t) ⟨1, 0, ((p * 34 + 1 : Nat) : Int), 18, (0 : Int), 0, 0, false⟩ (show (1 : Int) ≠ 7 by decide) (show (1 : Int) ≠ 13 by decide)
  have key := hg.loc ht (⟨p, 2, r0, r1, r2, r3, (0 : Int), r5, r6, r7, 0⟩ : Loc) (.inl ⟨rfl, hp, by show 2 < 34; decide⟩) (I_loc (mem := s.mem) (q := s.buf) hI ht (by rw [hx]; rfl) (by rw [hq, hgt, ← hme]; exact (At.a2H14 (by first | assumption | rfl | omega | (intro e; dsimp only at e; omega) | exact Int.le_refl _) (by first | assumption | rfl | omega | (intro e; dsimp only at e; omega) | exact Int.le_refl _) (by first | assumption | rfl | omega | (intro e; dsimp only at e; omega) | exact Int.le_refl _) (by first | assumption | rfl | omega | (intro e; dsimp only at e; omega) | exact Int.le_refl _)))) (by rw [hx]; rfl) (by rw [hx]) (by rw [hx]; rfl)
  rw [show Loc.th (X T R).Lb _ = _ from th_of rfl] at key
  exact ⟨_, _, _, hst, key⟩
 case a1H24 g0 g1 g2 =>
  have hi := ins (i := ⟨16, 4, 8, 0, 18⟩) rfl
  rw [movI_plain (i := ⟨16, 4, 8, 0, 18⟩) rfl] at hi
  have hst := st_load hi (ad := 18) (addr_abs _ _ _ _ _) (by rw [hnm]; decide)
  have hl : s.load t 18 = (0 : Int) := by rw [load_q hq]; rfl
  rw [hl] at hst
  have hg := h.noted (t := t) ⟨1, 0, ((p * 34 + 1 : Nat) : Int), 18, (0 : Int), 0, 0, false⟩ (show (1 : Int) ≠ 7 by decide) (show (1 : Int) ≠ 13 by decide)
  have key := hg.loc ht (⟨p, 2, r0, r1, r2, r3, (0 : Int), r5, r6, r7, 0⟩ : Loc) (.inl ⟨rfl, hp, by show 2 < 34; decide⟩) (I_loc (mem := s.mem) (q := s.buf) hI ht (by rw [hx]; rfl) (by rw [hq, hgt, ← hme]; exact (At.a2H24 (by first | assumption | rfl | omega | (intro e; dsimp only at e; omega) | exact Int.le_refl _) (by first | assumption | rfl | omega | (intro e; dsimp only at e; omega) | exact Int.le_refl _) (by first | assumption | rfl | omega | (intro e; dsimp only at e; omega) | exact Int.le_refl _) (by first | assumption | rfl | omega | (intro e; dsimp only at e; omega) | exact Int.le_refl _)))) (by rw [hx]; rfl) (by rw [hx]) (by rw [hx]; rfl)
  rw [show Loc.th (X T R).Lb _ = _ from th_of rfl] at key
  exact ⟨_, _, _, hst, key⟩
 case a1H34 g0 g1 g2 =>
  have hi := ins (i := ⟨16, 4, 8, 0, 18⟩) rfl
  rw [movI_plain (i := ⟨16, 4, 8, 0, 18⟩) rfl] at hi
  have hst := st_load hi (ad := 18) (addr_abs _ _ _ _ _) (by rw [hnm]; decide)
  have hl : s.load t 18 = (s.mem.getD 18 0) := by rw [load_q hq]; rfl
  rw [hl] at hst
  have hg := h.noted (t := t) ⟨1, 0, ((p * 34 + 1 : Nat) : Int), 18, (s.mem.getD 18 0), 0, 0, false⟩ (show (1 : Int) ≠ 7 by decide) (show (1 : Int) ≠ 13 by decide)
  have key := hg.loc ht (⟨p, 2, r0, r1, r2, r3, (s.mem.getD 18 0), r5, r6, r7, 0⟩ : Loc) (.inl ⟨rfl, hp, by show 2 < 34; decide⟩) (I_loc (mem := s.mem) (q := s.buf) hI ht (by rw [hx]; rfl) (by rw [hq, hgt, ← hme]; exact (At.a2H34 (by first | assumption | rfl | omega | (intro e; dsimp only at e; omega) | exact Int.le_refl _) (by first | assumption | rfl | omega | (intro e; dsimp only at e; omega) | exact Int.le_refl _) (by first | assumption | rfl | omega | (intro e; dsimp only at e; omega) | exact Int.le_refl _) (by first | assumption | rfl | omega | (intro e; dsimp only at e; omega) | exact Int.le_refl _)))) (by rw [hx]; rfl) (by rw [hx]) (by rw [hx]; rfl)
  rw [show Loc.th (X T R).Lb _ = _ from th_of rfl] at key
  exact ⟨_, _, _, hst, key⟩
 case a2F g0 g1 g2 =>
  have hi := ins (i := ⟨1, 5, 0, 0, me⟩) rfl
  rw [movI_plain (i := ⟨1, 5, 0, 0, me⟩) rfl] at hi
  have hst := st_set hi
  have key := h.loc ht (⟨p, 3, r0, r1, r2, r3, r4, (me), r6, r7, 0⟩ : Loc) (.inl ⟨rfl, hp, by show 3 < 34; decide⟩) (I_loc (mem := s.mem) (q := s.buf) hI ht (by rw [hx]; rfl) (by rw [hq, hgt, ← hme]; apply At.a3F <;> first | assumption | rfl | (simp_all; done))) (by rw [hx]; rfl) (by rw [hx]) (by rw [hx]; rfl)
  rw [show Loc.th (X T R).Lb _ = _ from th_of rfl] at key
  exact ⟨_, _, _, hst, key⟩
 case a2H04 g0 g1 g2 =>
  have hi := ins (i := ⟨1, 5, 0, 0, me⟩) rfl
  rw [movI_plain (i := ⟨1, 5, 0, 0, me⟩) rfl] at hi
  have hst := st_set hi
  have key := h.loc ht (⟨p, 3, r0, r1, r2, r3, r4, (me), r6, r7, 0⟩ : Loc) (.inl ⟨rfl, hp, by show 3 < 34; decide⟩) (I_loc (mem := s.mem) (q := s.buf) hI ht (by rw [hx]; rfl) (by rw [hq, hgt, ← hme]; apply At.a3H04 <;> first | assumption | rfl | (simp_all; done))) (by rw [hx]; rfl) (by rw [hx]) (by rw [hx]; rfl)
  rw [show Loc.th (X T R).Lb _ = _ from th_of rfl] at key
  exact ⟨_, _, _, hst, key⟩
 case a2H14 g0 g1 g2 g3 =>
  have hi := ins (i := ⟨1, 5, 0, 0, me⟩) rfl
  rw [movI_plain (i := ⟨1, 5, 0, 0, me⟩) rfl] at hi
  have hst := st_set hi
  have key := h.loc ht (⟨p, 3, r0, r1, r2, r3, r4, (me), r6, r7, 0⟩ : Loc) (.inl ⟨rfl, hp, by show 3 < 34; decide⟩) (I_loc (mem := s.mem) (q := s.buf) hI ht (by rw [hx]; rfl) (by rw [hq, hgt, ← hme]; apply At.a3H14 <;> first | assumption | rfl | (simp_all; done))) (by rw [hx]; rfl) (by rw [hx]) (by rw [hx]; rfl)
  rw [show Loc.th (X T R).Lb _ = _ from th_of rfl] at key
  exact ⟨_, _, _, hst, key⟩
 case a2H24 g0 g1 g2 g3 =>
  have hi := ins (i := ⟨1, 5, 0, 0, me⟩) rfl
  rw [movI_plain (i := ⟨1, 5, 0, 0, me⟩) rfl] at hi
  have hst := st_set hi
  have key := h.loc ht (⟨p, 3, r0, r1, r2, r3, r4, (me), r6, r7, 0⟩ : Loc) (.inl ⟨rfl, hp, by show 3 < 34; decide⟩) (I_loc (mem := s.mem) (q := s.buf) hI ht (by rw [hx]; rfl) (by rw [hq, hgt, ← hme]; apply At.a3H24 <;> first | assumption | rfl | (simp_all; done))) (by rw [hx]; rfl) (by rw [hx]) (by rw [hx]; rfl)
  rw [show Loc.th (X T R).Lb _ = _ from th_of rfl] at key
  exact ⟨_, _, _, hst, key⟩
 case a2H34 g0 g1 g2 g3 =>
  have hi := ins (i := ⟨1, 5, 0, 0, me⟩) rfl
  rw [movI_plain (i := ⟨1, 5, 0, 0, me⟩) rfl] at hi
  have hst := st_set hi
  have key := h.loc ht (⟨p, 3, r0, r1, r2, r3, r4, (me), r6, r7, 0⟩ : Loc) (.inl ⟨rfl, hp, by show 3 < 34; decide⟩) (I_loc (mem := s.mem) (q := s.buf) hI ht (by rw [hx]; rfl) (by rw [hq, hgt, ← hme]; apply At.a3H34 <;> first | assumption | rfl | (simp_all; done))) (by rw [hx]; rfl) (by rw [hx]) (by rw [hx]; rfl)
  rw [show Loc.th (X T R).Lb _ = _ from th_of rfl] at key
  exact ⟨_, _, _, hst, key⟩
 case a3F g0 g1 g2 g3 =>
  have hi := ins (i := ⟨12, 6, 4, 5, 0⟩) rfl
  rw [movI_plain (i := ⟨12, 6, 4, 5, 0⟩) rfl] at hi
  have hst := st_same hi
  have hv : (if r4 = r5 then (1 : Int) else 0) = 0 := by simp_all
  have key := h.loc ht (⟨p, 4, r0, r1, r2, r3, r4, r5, (if r4 = r5 then (1 : Int) else 0), r7, 0⟩ : Loc) (.inl ⟨rfl, hp, by show 4 < 34; decide⟩) (I_loc (mem := s.mem) (q := s.buf) hI ht (by rw [hx]; rfl) (by rw [hq, hgt, ← hme]; exact (At.a4F (by first | assumption | exact hv) (by first | assumption | exact hv) (by first | assumption | exact hv) (by first | assumption | exact hv)))) (by rw [hx]; rfl) (by rw [hx]) (by rw [hx]; rfl)
  rw [show Loc.th (X T R).Lb _ = _ from th_of rfl] at key
  exact ⟨_, _, _, hst, key⟩
 case a3H04 g0 g1 g2 g3 =>
  have hi := ins (i := ⟨12, 6, 4, 5, 0⟩) rfl
  rw [movI_plain (i := ⟨12, 6, 4, 5, 0⟩) rfl] at hi
  have hst := st_same hi
  have hv : (if r4 = r5 then (1 : Int) else 0) = 0 := by simp_all
  have key := h.loc ht (⟨p, 4, r0, r1, r2, r3, r4, r5, (if r4 = r5 then (1 : Int) else 0), r7, 0⟩ : Loc) (.inl ⟨rfl, hp, by show 4 < 34; decide⟩) (I_loc (mem := s.mem) (q := s.buf) hI ht (by rw [hx]; rfl) (by rw [hq, hgt, ← hme]; exact (At.a4H04 (by first | assumption | exact hv) (by first | assumption | exact hv) (by first | assumption | exact hv) (by first | assumption | exact hv)))) (by rw [hx]; rfl) (by rw [hx]) (by rw [hx]; rfl)
  rw [show Loc.th (X T R).Lb _ = _ from th_of rfl] at key
  exact ⟨_, _, _, hst, key⟩
 case a3H14 g0 g1 g2 g3 g4 =>
  have hi := ins (i := ⟨12, 6, 4, 5, 0⟩) rfl
  rw [movI_plain (i := ⟨12, 6, 4, 5, 0⟩) rfl] at hi
  have hst := st_same hi
  have hv : (if r4 = r5 then (1 : Int) else 0) = 0 := by simp_all
  have key := h.loc ht (⟨p, 4, r0, r1, r2, r3, r4, r5, (if r4 = r5 then (1 : Int) else 0), r7, 0⟩ : Loc) (.inl ⟨rfl, hp, by show 4 < 34; decide⟩) (I_loc (mem := s.mem) (q := s.buf) hI ht (by rw [hx]; rfl) (by rw [hq, hgt, ← hme]; exact (At.a4H14 (by first | assumption | exact hv) (by first | assumption | exact hv) (by first | assumption | exact hv) (by first | assumption | exact hv) (by first | assumption | exact hv)))) (by rw [hx]; rfl) (by rw [hx]) (by rw [hx]; rfl)
  rw [show Loc.th (X T R).Lb _ = _ from th_of rfl] at key
  exact ⟨_, _, _, hst, key⟩
 case a3H24 g0 g1 g2 g3 g4 =>
  have hi := ins (i := ⟨12, 6, 4, 5, 0⟩) rfl
  rw [movI_plain (i := ⟨12, 6, 4, 5, 0⟩) rfl] at hi
  have hst := st_same hi
  have hv : (if r4 = r5 then (1 : Int) else 0) = 0 := by simp_all
  have key := h.loc ht (⟨p, 4, r0, r1, r2, r3, r4, r5, (if r4 = r5 then (1 : Int) else 0), r7, 0⟩ : Loc) (.inl ⟨rfl, hp, by show 4 < 34; decide⟩) (I_loc (mem := s.mem) (q := s.buf) hI ht (by rw [hx]; rfl) (by rw [hq, hgt, ← hme]; exact (At.a4H24 (by first | assumption | exact hv) (by first | assumption | exact hv) (by first | assumption | exact hv) (by first | assumption | exact hv) (by first | assumption | exact hv)))) (by rw [hx]; rfl) (by rw [hx]) (by rw [hx]; rfl)
  rw [show Loc.th (X T R).Lb _ = _ from th_of rfl] at key
  exact ⟨_, _, _, hst, key⟩
 case a3H34 g0 g1 g2 g3 g4 =>
  have hi := ins (i := ⟨12, 6, 4, 5, 0⟩) rfl
  rw [movI_plain (i := ⟨12, 6, 4, 5, 0⟩) rfl] at hi
  have hst := st_same hi
  have hv : (if r4 = r5 then (1 : Int) else 0) = 0 := by simp_all
  have key := h.loc ht (⟨p, 4, r0, r1, r2, r3, r4, r5, (if r4 = r5 then (1 : Int) else 0), r7, 0⟩ : Loc) (.inl ⟨rfl, hp, by show 4 < 34; decide⟩) (I_loc (mem := s.mem) (q := s.buf) hI ht (by rw [hx]; rfl) (by rw [hq, hgt, ← hme]; exact (At.a4H34 (by first | assumption | exact hv) (by first | assumption | exact hv) (by first | assumption | exact hv) (by first | assumption | exact hv) (by first | assumption | exact hv)))) (by rw [hx]; rfl) (by rw [hx]) (by rw [hx]; rfl)
  rw [show Loc.th (X T R).Lb _ = _ from th_of rfl] at key
  exact ⟨_, _, _, hst, key⟩
 case a4F g0 g1 g2 g3 =>
  have hi := ins (i := ⟨14, 6, 0, 0, 7⟩) rfl
  rw [movI_jump (i := ⟨14, 6, 0, 0, 7⟩) rfl] at hi
  have hst := st_zero hi
  by_cases hz : r6 = 0
  ·rw [if_pos (by exact hz)] at hst
   have key := h.loc ht (⟨p, 7, r0, r1, r2, r3, r4, r5, r6, r7, 0⟩ : Loc) (.inl ⟨rfl, hp, by show 7 < 34; decide⟩) (I_loc (mem := s.mem) (q := s.buf) hI ht (by rw [hx]; rfl) (by rw [hq, hgt, ← hme]; apply At.a7F <;> first | assumption | (simp_all; done))) (by rw [hx]; rfl) (by rw [hx]) (by rw [hx]; rfl)
   rw [show Loc.th (X T R).Lb _ = _ from th_jmp (by omega) (by decide)] at key
   exact ⟨_, _, _, hst, key⟩
  ·rw [if_neg (by exact hz)] at hst
   exfalso; simp_all
 case a4H04 g0 g1 g2 g3 =>
  have hi := ins (i := ⟨14, 6, 0, 0, 7⟩) rfl
  rw [movI_jump (i := ⟨14, 6, 0, 0, 7⟩) rfl] at hi
  have hst := st_zero hi
  by_cases hz : r6 = 0
  ·rw [if_pos (by exact hz)] at hst
   have key := h.loc ht (⟨p, 7, r0, r1, r2, r3, r4, r5, r6, r7, 0⟩ : Loc) (.inl ⟨rfl, hp, by show 7 < 34; decide⟩) (I_loc (mem := s.mem) (q := s.buf) hI ht (by rw [hx]; rfl) (by rw [hq, hgt, ← hme]; apply At.a7H04 <;> first | assumption | (simp_all; done))) (by rw [hx]; rfl) (by rw [hx]) (by rw [hx]; rfl)
   rw [show Loc.th (X T R).Lb _ = _ from th_jmp (by omega) (by decide)] at key
   exact ⟨_, _, _, hst, key⟩
  ·rw [if_neg (by exact hz)] at hst
   exfalso; simp_all
 case a4H14 g0 g1 g2 g3 g4 =>
  have hi := ins (i := ⟨14, 6, 0, 0, 7⟩) rfl
  rw [movI_jump (i := ⟨14, 6, 0, 0, 7⟩) rfl] at hi
  have hst := st_zero hi
  by_cases hz : r6 = 0
  ·rw [if_pos (by exact hz)] at hst
   have key := h.loc ht (⟨p, 7, r0, r1, r2, r3, r4, r5, r6, r7, 0⟩ : Loc) (.inl ⟨rfl, hp, by show 7 < 34; decide⟩) (I_loc (mem := s.mem) (q := s.buf) hI ht (by rw [hx]; rfl) (by rw [hq, hgt, ← hme]; apply At.a7H14 <;> first | assumption | (simp_all; done))) (by rw [hx]; rfl) (by rw [hx]) (by rw [hx]; rfl)
   rw [show Loc.th (X T R).Lb _ = _ from th_jmp (by omega) (by decide)] at key
   exact ⟨_, _, _, hst, key⟩
  ·rw [if_neg (by exact hz)] at hst
   exfalso; simp_all
 case a4H24 g0 g1 g2 g3 g4 =>
  have hi := ins (i := ⟨14, 6, 0, 0, 7⟩) rfl
  rw [movI_jump (i := ⟨14, 6, 0, 0, 7⟩) rfl] at hi
  have hst := st_zero hi
  by_cases hz : r6 = 0
  ·rw [if_pos (by exact hz)] at hst
   have key := h.loc ht (⟨p, 7, r0, r1, r2, r3, r4, r5, r6, r7, 0⟩ : Loc) (.inl ⟨rfl, hp, by show 7 < 34; decide⟩) (I_loc (mem := s.mem) (q := s.buf) hI ht (by rw [hx]; rfl) (by rw [hq, hgt, ← hme]; apply At.a7H24 <;> first | assumption | (simp_all; done))) (by rw [hx]; rfl) (by rw [hx]) (by rw [hx]; rfl)
   rw [show Loc.th (X T R).Lb _ = _ from th_jmp (by omega) (by decide)] at key
   exact ⟨_, _, _, hst, key⟩
  ·rw [if_neg (by exact hz)] at hst
   exfalso; simp_all
 case a4H34 g0 g1 g2 g3 g4 =>
  have hi := ins (i := ⟨14, 6, 0, 0, 7⟩) rfl
  rw [movI_jump (i := ⟨14, 6, 0, 0, 7⟩) rfl] at hi
  have hst := st_zero hi
  by_cases hz : r6 = 0
  ·rw [if_pos (by exact hz)] at hst
   have key := h.loc ht (⟨p, 7, r0, r1, r2, r3, r4, r5, r6, r7, 0⟩ : Loc) (.inl ⟨rfl, hp, by show 7 < 34; decide⟩) (I_loc (mem := s.mem) (q := s.buf) hI ht (by rw [hx]; rfl) (by rw [hq, hgt, ← hme]; apply At.a7H34 <;> first | assumption | (simp_all; done))) (by rw [hx]; rfl) (by rw [hx]) (by rw [hx]; rfl)
   rw [show Loc.th (X T R).Lb _ = _ from th_jmp (by omega) (by decide)] at key
   exact ⟨_, _, _, hst, key⟩
  ·rw [if_neg (by exact hz)] at hst
   exfalso; simp_all
 case a7F g0 g1 g2 =>
  have hi := ins (i := ⟨1, 4, 0, 0, 1⟩) rfl
  rw [movI_plain (i := ⟨1, 4, 0, 0, 1⟩) rfl] at hi
  have hst := st_set hi
  have key := h.loc ht (⟨p, 8, r0, r1, r2, r3, (1), r5, r6, r7, 0⟩ : Loc) (.inl ⟨rfl, hp, by show 8 < 34; decide⟩) (I_loc (mem := s.mem) (q := s.buf) hI ht (by rw [hx]; rfl) (by rw [hq, hgt, ← hme]; apply At.a8F <;> first | assumption | rfl | (simp_all; done))) (by rw [hx]; rfl) (by rw [hx]) (by rw [hx]; rfl)
  rw [show Loc.th (X T R).Lb _ = _ from th_of rfl] at key
  exact ⟨_, _, _, hst, key⟩
 case a7H04 g0 g1 g2 =>
  have hi := ins (i := ⟨1, 4, 0, 0, 1⟩) rfl
  rw [movI_plain (i := ⟨1, 4, 0, 0, 1⟩) rfl] at hi
  have hst := st_set hi
  have key := h.loc ht (⟨p, 8, r0, r1, r2, r3, (1), r5, r6, r7, 0⟩ : Loc) (.inl ⟨rfl, hp, by show 8 < 34; decide⟩) (I_loc (mem := s.mem) (q := s.buf) hI ht (by rw [hx]; rfl) (by rw [hq, hgt, ← hme]; apply At.a8H04 <;> first | assumption | rfl | (simp_all; done))) (by rw [hx]; rfl) (by rw [hx]) (by rw [hx]; rfl)
  rw [show Loc.th (X T R).Lb _ = _ from th_of rfl] at key
  exact ⟨_, _, _, hst, key⟩
 case a7H14 g0 g1 g2 g3 =>
  have hi := ins (i := ⟨1, 4, 0, 0, 1⟩) rfl
  rw [movI_plain (i := ⟨1, 4, 0, 0, 1⟩) rfl] at hi
  have hst := st_set hi
  have key := h.loc ht (⟨p, 8, r0, r1, r2, r3, (1), r5, r6, r7, 0⟩ : Loc) (.inl ⟨rfl, hp, by show 8 < 34; decide⟩) (I_loc (mem := s.mem) (q := s.buf) hI ht (by rw [hx]; rfl) (by rw [hq, hgt, ← hme]; apply At.a8H14 <;> first | assumption | rfl | (simp_all; done))) (by rw [hx]; rfl) (by rw [hx]) (by rw [hx]; rfl)
  rw [show Loc.th (X T R).Lb _ = _ from th_of rfl] at key
  exact ⟨_, _, _, hst, key⟩
 case a7H24 g0 g1 g2 g3 =>
  have hi := ins (i := ⟨1, 4, 0, 0, 1⟩) rfl
  rw [movI_plain (i := ⟨1, 4, 0, 0, 1⟩) rfl] at hi
  have hst := st_set hi
  have key := h.loc ht (⟨p, 8, r0, r1, r2, r3, (1), r5, r6, r7, 0⟩ : Loc) (.inl ⟨rfl, hp, by show 8 < 34; decide⟩) (I_loc (mem := s.mem) (q := s.buf) hI ht (by rw [hx]; rfl) (by rw [hq, hgt, ← hme]; apply At.a8H24 <;> first | assumption | rfl | (simp_all; done))) (by rw [hx]; rfl) (by rw [hx]) (by rw [hx]; rfl)
  rw [show Loc.th (X T R).Lb _ = _ from th_of rfl] at key
  exact ⟨_, _, _, hst, key⟩
 case a7H34 g0 g1 g2 g3 =>
  have hi := ins (i := ⟨1, 4, 0, 0, 1⟩) rfl
  rw [movI_plain (i := ⟨1, 4, 0, 0, 1⟩) rfl] at hi
  have hst := st_set hi
  have key := h.loc ht (⟨p, 8, r0, r1, r2, r3, (1), r5, r6, r7, 0⟩ : Loc) (.inl ⟨rfl, hp, by show 8 < 34; decide⟩) (I_loc (mem := s.mem) (q := s.buf) hI ht (by rw [hx]; rfl) (by rw [hq, hgt, ← hme]; apply At.a8H34 <;> first | assumption | rfl | (simp_all; done))) (by rw [hx]; rfl) (by rw [hx]) (by rw [hx]; rfl)
  rw [show Loc.th (X T R).Lb _ = _ from th_of rfl] at key
  exact ⟨_, _, _, hst, key⟩
 case a8F g0 g1 g2 g3 =>
  have hi := ins (i := ⟨20, 4, 8, 0, 16⟩) rfl
  rw [movI_plain (i := ⟨20, 4, 8, 0, 16⟩) rfl] at hi
  have hl : s.load t 16 = s.mem.getD 16 0 := by rw [load_q hq]; rfl
  have hst := st_fetch hi (ad := 16) (addr_abs _ _ _ _ _) (by rw [hnm]; decide) (by rw [empty_q hq]; rfl)
  rw [hl] at hst
  have r41 : r4 = 1 := by assumption
  subst r41
  have hw : wr32 (s.mem.getD 16 0 + 1) = s.mem.getD 16 0 + 1 := by unfold wr32; omega
  have e1 : (Th.mk ((p * 34 + 8 : Nat) : Int) [r0, r1, r2, r3, 1, r5, r6, r7] 0).reg 4 = 1 := rfl
  rw [e1, hw] at hst
  have m16 : ∀ v : Int, (s.mem.set 16 v).getD 16 0 = v := fun v => by rw [get_set (by rw [hnm]; decide), if_pos rfl]
  have m17 : ∀ v : Int, (s.mem.set 16 v).getD 17 0 = s.mem.getD 17 0 := fun v => by rw [get_set (by rw [hnm]; decide), if_neg (by decide)]
  have m18 : ∀ v : Int, (s.mem.set 16 v).getD 18 0 = s.mem.getD 18 0 := fun v => by rw [get_set (by rw [hnm]; decide), if_neg (by decide)]
  have m0 : ∀ v : Int, (s.mem.set 16 v).getD 0 0 = s.mem.getD 0 0 := fun v => by rw [get_set (by rw [hnm]; decide), if_neg (by decide)]
  have hfr : ∀ u, u < T → gf u ≠ some (s.mem.getD 16 0) := fun u hu e => by have := (hI.hat u hu).lt e; omega
  have hI2 : (X T R).I (s.mem.set 16 (s.mem.getD 16 0 + 1)) (upF f t ⟨p, 9, r0, r1, r2, r3, (s.mem.getD 16 0), r5, r6, r7, 0⟩) s.buf := by
   refine ⟨upF gf t (some (s.mem.getD 16 0)), ⟨fun u hu => ?_, fun a b ha hb hne hab => ?_, by rw [m16, m17]; omega, by rw [m17]; exact hv0, ?_⟩⟩
   ·rw [m16, m17, m18, m0]
    by_cases e : u = t
    ·subst e
     rw [upF_self, upF_self, hq, ← hme]
     exact At.a9W rfl hvn (show s.mem.getD 16 0 < s.mem.getD 16 0 + 1 by omega) (by assumption) (by assumption)
    ·rw [upF_ne _ _ e, upF_ne _ _ e]
     exact (hI.hat u hu).drawn
   ·by_cases e1 : a = t
    ·subst e1
     rw [upF_self, upF_ne _ _ (fun e => hne e.symm)] at hab
     exact absurd hab.symm (hfr b hb)
    ·rw [upF_ne _ _ e1] at hab ⊢
     by_cases e2 : b = t
     ·subst e2; rw [upF_self] at hab; exact absurd hab (hfr a ha)
     ·rw [upF_ne _ _ e2] at hab; exact hI.un _ _ ha hb hne hab
   ·rw [m16, hI.sum]
    refine (sumT_one t 1 ?_ T ht (fun u _ e => by rw [upF_ne _ _ e])).symm
    rw [upF_self, hx]
    show (p : Int) + (if 8 < 9 then 1 else 0) = (p : Int) + (if 8 < 8 then 1 else 0) + 1
    rw [if_pos (by decide), if_neg (by decide)]; omega
  have key := h.swapped ht ⟨4, 0, ((p * 34 + 8 : Nat) : Int), 16, s.mem.getD 16 0 + 1, s.mem.getD 16 0, 0, true⟩ rfl 16 (s.mem.getD 16 0 + 1) (by decide) (⟨p, 9, r0, r1, r2, r3, (s.mem.getD 16 0), r5, r6, r7, 0⟩ : Loc) (.inl ⟨rfl, hp, by show 9 < 34; decide⟩) hI2 (by rw [hx]; rfl) (by rw [hx]) (by rw [hx]; rfl)
  rw [show Loc.th (X T R).Lb _ = _ from th_of rfl] at key
  exact ⟨_, _, _, hst, key⟩
 case a8H04 g0 g1 g2 g3 =>
  have hi := ins (i := ⟨20, 4, 8, 0, 16⟩) rfl
  rw [movI_plain (i := ⟨20, 4, 8, 0, 16⟩) rfl] at hi
  exact ⟨_, f, i, st_drain hi (by show drainsI 20; decide) (fun _ => by rw [addr_abs, hnm]; decide) (by rw [empty_q hq]; rfl), flush h ht hT hR⟩
 case a8H14 g0 g1 g2 g3 g4 =>
  have hi := ins (i := ⟨20, 4, 8, 0, 16⟩) rfl
  rw [movI_plain (i := ⟨20, 4, 8, 0, 16⟩) rfl] at hi
  exact ⟨_, f, i, st_drain hi (by show drainsI 20; decide) (fun _ => by rw [addr_abs, hnm]; decide) (by rw [empty_q hq]; rfl), flush h ht hT hR⟩
 case a8H24 g0 g1 g2 g3 g4 =>
  have hi := ins (i := ⟨20, 4, 8, 0, 16⟩) rfl
  rw [movI_plain (i := ⟨20, 4, 8, 0, 16⟩) rfl] at hi
  exact ⟨_, f, i, st_drain hi (by show drainsI 20; decide) (fun _ => by rw [addr_abs, hnm]; decide) (by rw [empty_q hq]; rfl), flush h ht hT hR⟩
 case a8H34 g0 g1 g2 g3 g4 =>
  have hi := ins (i := ⟨20, 4, 8, 0, 16⟩) rfl
  rw [movI_plain (i := ⟨20, 4, 8, 0, 16⟩) rfl] at hi
  exact ⟨_, f, i, st_drain hi (by show drainsI 20; decide) (fun _ => by rw [addr_abs, hnm]; decide) (by rw [empty_q hq]; rfl), flush h ht hT hR⟩
 case a9W g0 g1 g2 g3 g4 =>
  have hi := ins (i := ⟨16, 6, 8, 0, 17⟩) rfl
  rw [movI_plain (i := ⟨16, 6, 8, 0, 17⟩) rfl] at hi
  have hst := st_load hi (ad := 17) (addr_abs _ _ _ _ _) (by rw [hnm]; decide)
  have hl : s.load t 17 = (s.mem.getD 17 0) := by rw [load_q hq]; rfl
  rw [hl] at hst
  have hg := h.noted (t := t) ⟨1, 0, ((p * 34 + 9 : Nat) : Int), 17, (s.mem.getD 17 0), 0, 0, false⟩ (show (1 : Int) ≠ 7 by decide) (show (1 : Int) ≠ 13 by decide)
  have key := hg.loc ht (⟨p, 10, r0, r1, r2, r3, r4, r5, (s.mem.getD 17 0), r7, 0⟩ : Loc) (.inl ⟨rfl, hp, by show 10 < 34; decide⟩) (I_loc (mem := s.mem) (q := s.buf) hI ht (by rw [hx]; rfl) (by rw [hq, hgt, ← hme]; exact (At.a10W (by first | assumption | rfl | omega | (intro e; dsimp only at e; omega) | exact Int.le_refl _) (by first | assumption | rfl | omega | (intro e; dsimp only at e; omega) | exact Int.le_refl _) (by first | assumption | rfl | omega | (intro e; dsimp only at e; omega) | exact Int.le_refl _) (by first | assumption | rfl | omega | (intro e; dsimp only at e; omega) | exact Int.le_refl _) (by first | assumption | rfl | omega | (intro e; dsimp only at e; omega) | exact Int.le_refl _) (by first | assumption | rfl | omega | (intro e; dsimp only at e; omega) | exact Int.le_refl _)))) (by rw [hx]; rfl) (by rw [hx]) (by rw [hx]; rfl)
  rw [show Loc.th (X T R).Lb _ = _ from th_of rfl] at key
  exact ⟨_, _, _, hst, key⟩
 case a10W g0 g1 g2 g3 g4 g5 =>
  have hi := ins (i := ⟨12, 6, 6, 4, 0⟩) rfl
  rw [movI_plain (i := ⟨12, 6, 6, 4, 0⟩) rfl] at hi
  have hst := st_same hi
  have key := h.loc ht (⟨p, 11, r0, r1, r2, r3, r4, r5, (if r6 = r4 then (1 : Int) else 0), r7, 0⟩ : Loc) (.inl ⟨rfl, hp, by show 11 < 34; decide⟩) (I_loc (mem := s.mem) (q := s.buf) hI ht (by rw [hx]; rfl) (by rw [hq, hgt, ← hme]; exact (At.a11W (by first | assumption | (show (if r6 = r4 then (1 : Int) else 0) ≠ 0 → s.mem.getD 17 0 = r4; split; (intro _; omega); (intro e; exact absurd rfl e))) (by first | assumption | (show (if r6 = r4 then (1 : Int) else 0) ≠ 0 → s.mem.getD 17 0 = r4; split; (intro _; omega); (intro e; exact absurd rfl e))) (by first | assumption | (show (if r6 = r4 then (1 : Int) else 0) ≠ 0 → s.mem.getD 17 0 = r4; split; (intro _; omega); (intro e; exact absurd rfl e))) (by first | assumption | (show (if r6 = r4 then (1 : Int) else 0) ≠ 0 → s.mem.getD 17 0 = r4; split; (intro _; omega); (intro e; exact absurd rfl e))) (by first | assumption | (show (if r6 = r4 then (1 : Int) else 0) ≠ 0 → s.mem.getD 17 0 = r4; split; (intro _; omega); (intro e; exact absurd rfl e))) (by first | assumption | (show (if r6 = r4 then (1 : Int) else 0) ≠ 0 → s.mem.getD 17 0 = r4; split; (intro _; omega); (intro e; exact absurd rfl e)))))) (by rw [hx]; rfl) (by rw [hx]) (by rw [hx]; rfl)
  rw [show Loc.th (X T R).Lb _ = _ from th_of rfl] at key
  exact ⟨_, _, _, hst, key⟩
 case a11W g0 g1 g2 g3 g4 g5 =>
  have hi := ins (i := ⟨14, 6, 0, 0, 9⟩) rfl
  rw [movI_jump (i := ⟨14, 6, 0, 0, 9⟩) rfl] at hi
  have hst := st_zero hi
  by_cases hz : r6 = 0
  ·rw [if_pos (by exact hz)] at hst
   have key := h.loc ht (⟨p, 9, r0, r1, r2, r3, r4, r5, r6, r7, 0⟩ : Loc) (.inl ⟨rfl, hp, by show 9 < 34; decide⟩) (I_loc (mem := s.mem) (q := s.buf) hI ht (by rw [hx]; rfl) (by rw [hq, hgt, ← hme]; apply At.a9W <;> first | assumption | (simp_all; done))) (by rw [hx]; rfl) (by rw [hx]) (by rw [hx]; rfl)
   rw [show Loc.th (X T R).Lb _ = _ from th_jmp (by omega) (by decide)] at key
   exact ⟨_, _, _, hst, key⟩
  ·rw [if_neg (by exact hz)] at hst
   have hvr : s.mem.getD 17 0 = r4 := ‹r6 ≠ 0 → s.mem.getD 17 0 = r4› hz
   have key := h.loc ht (⟨p, 12, r0, r1, r2, r3, r4, r5, r6, r7, 0⟩ : Loc) (.inl ⟨rfl, hp, by show 12 < 34; decide⟩) (I_loc (mem := s.mem) (q := s.buf) hI ht (by rw [hx]; rfl) (by rw [hq, hgt, ← hme]; exact (At.a12H00 (by first | assumption | (rw [hvr]; assumption)) (by first | assumption | (rw [hvr]; assumption)) (by first | assumption | (rw [hvr]; assumption))))) (by rw [hx]; rfl) (by rw [hx]) (by rw [hx]; rfl)
   rw [show Loc.th (X T R).Lb _ = _ from th_of rfl] at key
   exact ⟨_, _, _, hst, key⟩
 case a12H00 g0 g1 g2 =>
  have hi := ins (i := ⟨17, 5, 8, 0, 18⟩) rfl
  rw [movI_plain (i := ⟨17, 5, 8, 0, 18⟩) rfl] at hi
  have hst := st_store hi (ad := 18) (addr_abs _ _ _ _ _) (by rw [hnm]; decide)
  by_cases hro : s.roomy t = true
  ·rw [if_pos hro] at hst
   have hrv : r5 = me := by assumption
   have key := h.stored ht ((p * 34 + 12 : Nat) : Int) 18 r5 (⟨p, 13, r0, r1, r2, r3, r4, r5, r6, r7, 0⟩ : Loc) (.inl ⟨rfl, hp, by show 13 < 34; decide⟩) (by
    have := hI.put (q' := s.buf t ++ [(18, r5)]) (x := ⟨p, 13, r0, r1, r2, r3, r4, r5, r6, r7, 0⟩) ht (by rw [hx]; rfl) (show At ((t + 1 : Nat) : Int) (s.mem.getD 16 0) (s.mem.getD 17 0) (s.mem.getD 18 0) (s.mem.getD 0 0) (gf t) _ _ _ _ _ _ _ _ from by rw [hq, hgt, hrv, ← hme]; apply At.a13H01 <;> first | assumption | rfl | (simp_all; done)) (.inr rfl)
    rw [upF_id gf t] at this
    exact ⟨_, this⟩) (by rw [hx]; rfl) (by rw [hx]) (.inl ⟨by decide, by rw [hx]; rfl⟩)
   rw [show Loc.th (X T R).Lb _ = _ from th_of rfl] at key
   exact ⟨_, _, _, hst, key⟩
  ·rw [if_neg hro] at hst
   exact ⟨_, f, i, hst, flush h ht hT hR⟩
 case a13H01 g0 g1 =>
  have hi := ins (i := ⟨1, 7, 0, 0, 0⟩) rfl
  rw [movI_plain (i := ⟨1, 7, 0, 0, 0⟩) rfl] at hi
  have hst := st_set hi
  have key := h.loc ht (⟨p, 14, r0, r1, r2, r3, r4, r5, r6, (0), 0⟩ : Loc) (.inl ⟨rfl, hp, by show 14 < 34; decide⟩) (I_loc (mem := s.mem) (q := s.buf) hI ht (by rw [hx]; rfl) (by rw [hq, hgt, ← hme]; apply At.a14H01 <;> first | assumption | rfl | (simp_all; done))) (by rw [hx]; rfl) (by rw [hx]) (by rw [hx]; rfl)
  rw [show Loc.th (X T R).Lb _ = _ from th_of rfl] at key
  exact ⟨_, _, _, hst, key⟩
 case a13H11 g0 g1 g2 =>
  have hi := ins (i := ⟨1, 7, 0, 0, 0⟩) rfl
  rw [movI_plain (i := ⟨1, 7, 0, 0, 0⟩) rfl] at hi
  have hst := st_set hi
  have key := h.loc ht (⟨p, 14, r0, r1, r2, r3, r4, r5, r6, (0), 0⟩ : Loc) (.inl ⟨rfl, hp, by show 14 < 34; decide⟩) (I_loc (mem := s.mem) (q := s.buf) hI ht (by rw [hx]; rfl) (by rw [hq, hgt, ← hme]; apply At.a14H11 <;> first | assumption | rfl | (simp_all; done))) (by rw [hx]; rfl) (by rw [hx]) (by rw [hx]; rfl)
  rw [show Loc.th (X T R).Lb _ = _ from th_of rfl] at key
  exact ⟨_, _, _, hst, key⟩
 case a14H01 g0 g1 g2 =>
  have hi := ins (i := ⟨27, 7, 0, 0, 1⟩) rfl
  rw [movI_plain (i := ⟨27, 7, 0, 0, 1⟩) rfl] at hi
  have hmk := st_mark hi
  have r70 : r7 = 0 := by assumption
  subst r70
  have key := h.enters ht ((p * 34 + 14 : Nat) : Int) (⟨p, 15, r0, r1, r2, r3, r4, r5, r6, 0, 0⟩ : Loc) (.inl ⟨rfl, hp, by show 15 < 34; decide⟩) (I_loc (mem := s.mem) (q := s.buf) hI ht (by rw [hx]; rfl) (by rw [hq, hgt, ← hme]; apply At.a15H01 <;> first | assumption | rfl | (simp_all; done))) (fun u hu => by
   by_cases e : u = t
   ·subst e; rw [hx]; rfl
   ·exact (hI.hat u hu).notin (fun e2 => by
     have := hI.un u t hu ht e (by rw [e2, hgt]; exact Eq.symm (by assumption))
     rw [e2] at this; cases this)) rfl (by rw [hx]) (by rw [hx]; rfl)
  rw [show Loc.th (X T R).Lb _ = _ from th_of rfl] at key
  exact ⟨_, _, _, hmk, key⟩
 case a14H11 g0 g1 g2 g3 =>
  have hi := ins (i := ⟨27, 7, 0, 0, 1⟩) rfl
  rw [movI_plain (i := ⟨27, 7, 0, 0, 1⟩) rfl] at hi
  have hmk := st_mark hi
  have r70 : r7 = 0 := by assumption
  subst r70
  have key := h.enters ht ((p * 34 + 14 : Nat) : Int) (⟨p, 15, r0, r1, r2, r3, r4, r5, r6, 0, 0⟩ : Loc) (.inl ⟨rfl, hp, by show 15 < 34; decide⟩) (I_loc (mem := s.mem) (q := s.buf) hI ht (by rw [hx]; rfl) (by rw [hq, hgt, ← hme]; apply At.a15H11 <;> first | assumption | rfl | (simp_all; done))) (fun u hu => by
   by_cases e : u = t
   ·subst e; rw [hx]; rfl
   ·exact (hI.hat u hu).notin (fun e2 => by
     have := hI.un u t hu ht e (by rw [e2, hgt]; exact Eq.symm (by assumption))
     rw [e2] at this; cases this)) rfl (by rw [hx]) (by rw [hx]; rfl)
  rw [show Loc.th (X T R).Lb _ = _ from th_of rfl] at key
  exact ⟨_, _, _, hmk, key⟩
 case a15H01 g0 g1 =>
  have hi := ins (i := ⟨16, 1, 8, 0, 0⟩) rfl
  rw [movI_plain (i := ⟨16, 1, 8, 0, 0⟩) rfl] at hi
  have hst := st_load hi (ad := 0) (addr_abs _ _ _ _ _) (by rw [hnm]; decide)
  have hl : s.load t 0 = (s.mem.getD 0 0) := by rw [load_q hq]; rfl
  rw [hl] at hst
  have hg := h.noted (t := t) ⟨1, 0, ((p * 34 + 15 : Nat) : Int), 0, (s.mem.getD 0 0), 0, 0, false⟩ (show (1 : Int) ≠ 7 by decide) (show (1 : Int) ≠ 13 by decide)
  have key := hg.loc ht (⟨p, 16, r0, (s.mem.getD 0 0), r2, r3, r4, r5, r6, r7, 0⟩ : Loc) (.inl ⟨rfl, hp, by show 16 < 34; decide⟩) (I_loc (mem := s.mem) (q := s.buf) hI ht (by rw [hx]; rfl) (by rw [hq, hgt, ← hme]; exact (At.a16H01 (by first | assumption | rfl | omega | (intro e; dsimp only at e; omega) | exact Int.le_refl _) (by first | assumption | rfl | omega | (intro e; dsimp only at e; omega) | exact Int.le_refl _) (by first | assumption | rfl | omega | (intro e; dsimp only at e; omega) | exact Int.le_refl _)))) (by rw [hx]; rfl) (by rw [hx]) (by rw [hx]; rfl)
  rw [show Loc.th (X T R).Lb _ = _ from th_of rfl] at key
  exact ⟨_, _, _, hst, key⟩
 case a15H11 g0 g1 g2 =>
  have hi := ins (i := ⟨16, 1, 8, 0, 0⟩) rfl
  rw [movI_plain (i := ⟨16, 1, 8, 0, 0⟩) rfl] at hi
  have hst := st_load hi (ad := 0) (addr_abs _ _ _ _ _) (by rw [hnm]; decide)
  have hl : s.load t 0 = (s.mem.getD 0 0) := by rw [load_q hq]; rfl
  rw [hl] at hst
  have hg := h.noted (t := t) ⟨1, 0, ((p * 34 + 15 : Nat) : Int), 0, (s.mem.getD 0 0), 0, 0, false⟩ (show (1 : Int) ≠ 7 by decide) (show (1 : Int) ≠ 13 by decide)
  have key := hg.loc ht (⟨p, 16, r0, (s.mem.getD 0 0), r2, r3, r4, r5, r6, r7, 0⟩ : Loc) (.inl ⟨rfl, hp, by show 16 < 34; decide⟩) (I_loc (mem := s.mem) (q := s.buf) hI ht (by rw [hx]; rfl) (by rw [hq, hgt, ← hme]; exact (At.a16H11 (by first | assumption | rfl | omega | (intro e; dsimp only at e; omega) | exact Int.le_refl _) (by first | assumption | rfl | omega | (intro e; dsimp only at e; omega) | exact Int.le_refl _) (by first | assumption | rfl | omega | (intro e; dsimp only at e; omega) | exact Int.le_refl _) (by first | assumption | rfl | omega | (intro e; dsimp only at e; omega) | exact Int.le_refl _)))) (by rw [hx]; rfl) (by rw [hx]) (by rw [hx]; rfl)
  rw [show Loc.th (X T R).Lb _ = _ from th_of rfl] at key
  exact ⟨_, _, _, hst, key⟩
 case a16H01 g0 g1 g2 =>
  have hi := ins (i := ⟨1, 2, 0, 0, 1⟩) rfl
  rw [movI_plain (i := ⟨1, 2, 0, 0, 1⟩) rfl] at hi
  have hst := st_set hi
  have key := h.loc ht (⟨p, 17, r0, r1, (1), r3, r4, r5, r6, r7, 0⟩ : Loc) (.inl ⟨rfl, hp, by show 17 < 34; decide⟩) (I_loc (mem := s.mem) (q := s.buf) hI ht (by rw [hx]; rfl) (by rw [hq, hgt, ← hme]; apply At.a17H01 <;> first | assumption | rfl | (simp_all; done))) (by rw [hx]; rfl) (by rw [hx]) (by rw [hx]; rfl)
  rw [show Loc.th (X T R).Lb _ = _ from th_of rfl] at key
  exact ⟨_, _, _, hst, key⟩
 case a16H11 g0 g1 g2 g3 =>
  have hi := ins (i := ⟨1, 2, 0, 0, 1⟩) rfl
  rw [movI_plain (i := ⟨1, 2, 0, 0, 1⟩) rfl] at hi
  have hst := st_set hi
  have key := h.loc ht (⟨p, 17, r0, r1, (1), r3, r4, r5, r6, r7, 0⟩ : Loc) (.inl ⟨rfl, hp, by show 17 < 34; decide⟩) (I_loc (mem := s.mem) (q := s.buf) hI ht (by rw [hx]; rfl) (by rw [hq, hgt, ← hme]; apply At.a17H11 <;> first | assumption | rfl | (simp_all; done))) (by rw [hx]; rfl) (by rw [hx]) (by rw [hx]; rfl)
  rw [show Loc.th (X T R).Lb _ = _ from th_of rfl] at key
  exact ⟨_, _, _, hst, key⟩
 case a17H01 g0 g1 g2 g3 =>
  have hi := ins (i := ⟨3, 1, 1, 2, 0⟩) rfl
  rw [movI_plain (i := ⟨3, 1, 1, 2, 0⟩) rfl] at hi
  have hst := st_add hi
  have key := h.loc ht (⟨p, 18, r0, (wr32 (r1 + r2)), r2, r3, r4, r5, r6, r7, 0⟩ : Loc) (.inl ⟨rfl, hp, by show 18 < 34; decide⟩) (I_loc (mem := s.mem) (q := s.buf) hI ht (by rw [hx]; rfl) (by rw [hq, hgt, ← hme]; apply At.a18H01 <;> first | assumption | rfl | (simp_all; done))) (by rw [hx]; rfl) (by rw [hx]) (by rw [hx]; rfl)
  rw [show Loc.th (X T R).Lb _ = _ from th_of rfl] at key
  exact ⟨_, _, _, hst, key⟩
 case a17H11 g0 g1 g2 g3 g4 =>
  have hi := ins (i := ⟨3, 1, 1, 2, 0⟩) rfl
  rw [movI_plain (i := ⟨3, 1, 1, 2, 0⟩) rfl] at hi
  have hst := st_add hi
  have key := h.loc ht (⟨p, 18, r0, (wr32 (r1 + r2)), r2, r3, r4, r5, r6, r7, 0⟩ : Loc) (.inl ⟨rfl, hp, by show 18 < 34; decide⟩) (I_loc (mem := s.mem) (q := s.buf) hI ht (by rw [hx]; rfl) (by rw [hq, hgt, ← hme]; apply At.a18H11 <;> first | assumption | rfl | (simp_all; done))) (by rw [hx]; rfl) (by rw [hx]) (by rw [hx]; rfl)
  rw [show Loc.th (X T R).Lb _ = _ from th_of rfl] at key
  exact ⟨_, _, _, hst, key⟩
 case a18H01 g0 g1 g2 =>
  have hi := ins (i := ⟨17, 1, 8, 0, 0⟩) rfl
  rw [movI_plain (i := ⟨17, 1, 8, 0, 0⟩) rfl] at hi
  have hst := st_store hi (ad := 0) (addr_abs _ _ _ _ _) (by rw [hnm]; decide)
  by_cases hro : s.roomy t = true
  ·rw [if_pos hro] at hst
   have hrv : r1 = (wr32 (s.mem.getD 0 0 + 1)) := by assumption
   have key := h.stored ht ((p * 34 + 18 : Nat) : Int) 0 r1 (⟨p, 19, r0, r1, r2, r3, r4, r5, r6, r7, 0⟩ : Loc) (.inl ⟨rfl, hp, by show 19 < 34; decide⟩) (by
    have := hI.put (q' := s.buf t ++ [(0, r1)]) (x := ⟨p, 19, r0, r1, r2, r3, r4, r5, r6, r7, 0⟩) ht (by rw [hx]; rfl) (show At ((t + 1 : Nat) : Int) (s.mem.getD 16 0) (s.mem.getD 17 0) (s.mem.getD 18 0) (s.mem.getD 0 0) (gf t) _ _ _ _ _ _ _ _ from by rw [hq, hgt, hrv, ← hme]; apply At.a19H02 <;> first | assumption | rfl | (simp_all; done)) (.inr rfl)
    rw [upF_id gf t] at this
    exact ⟨_, this⟩) (by rw [hx]; rfl) (by rw [hx]) (.inr ⟨rfl, by rw [hx]; rfl, rfl⟩)
   rw [show Loc.th (X T R).Lb _ = _ from th_of rfl] at key
   exact ⟨_, _, _, hst, key⟩
  ·rw [if_neg hro] at hst
   exact ⟨_, f, i, hst, flush h ht hT hR⟩
 case a18H11 g0 g1 g2 g3 =>
  have hi := ins (i := ⟨17, 1, 8, 0, 0⟩) rfl
  rw [movI_plain (i := ⟨17, 1, 8, 0, 0⟩) rfl] at hi
  have hst := st_store hi (ad := 0) (addr_abs _ _ _ _ _) (by rw [hnm]; decide)
  by_cases hro : s.roomy t = true
  ·rw [if_pos hro] at hst
   have hrv : r1 = (wr32 (s.mem.getD 0 0 + 1)) := by assumption
   have key := h.stored ht ((p * 34 + 18 : Nat) : Int) 0 r1 (⟨p, 19, r0, r1, r2, r3, r4, r5, r6, r7, 0⟩ : Loc) (.inl ⟨rfl, hp, by show 19 < 34; decide⟩) (by
    have := hI.put (q' := s.buf t ++ [(0, r1)]) (x := ⟨p, 19, r0, r1, r2, r3, r4, r5, r6, r7, 0⟩) ht (by rw [hx]; rfl) (show At ((t + 1 : Nat) : Int) (s.mem.getD 16 0) (s.mem.getD 17 0) (s.mem.getD 18 0) (s.mem.getD 0 0) (gf t) _ _ _ _ _ _ _ _ from by rw [hq, hgt, hrv, ← hme]; apply At.a19H12 <;> first | assumption | rfl | (simp_all; done)) (.inr rfl)
    rw [upF_id gf t] at this
    exact ⟨_, this⟩) (by rw [hx]; rfl) (by rw [hx]) (.inr ⟨rfl, by rw [hx]; rfl, rfl⟩)
   rw [show Loc.th (X T R).Lb _ = _ from th_of rfl] at key
   exact ⟨_, _, _, hst, key⟩
  ·rw [if_neg hro] at hst
   exact ⟨_, f, i, hst, flush h ht hT hR⟩
 case a19H02 g0 g1 =>
  have hi := ins (i := ⟨27, 7, 0, 0, 2⟩) rfl
  rw [movI_plain (i := ⟨27, 7, 0, 0, 2⟩) rfl] at hi
  have hmk := st_mark hi
  have key := h.leaves ht ((p * 34 + 19 : Nat) : Int) r7 (⟨p, 20, r0, r1, r2, r3, r4, r5, r6, r7, 0⟩ : Loc) (.inl ⟨rfl, hp, by show 20 < 34; decide⟩) (I_loc (mem := s.mem) (q := s.buf) hI ht (by rw [hx]; rfl) (by rw [hq, hgt, ← hme]; apply At.a20H02 <;> first | assumption | rfl | (simp_all; done))) (by rw [hx]; rfl) rfl (by rw [hx]) (by rw [hx]; rfl)
  rw [show Loc.th (X T R).Lb _ = _ from th_of rfl] at key
  exact ⟨_, _, _, hmk, key⟩
 case a19H12 g0 g1 g2 =>
  have hi := ins (i := ⟨27, 7, 0, 0, 2⟩) rfl
  rw [movI_plain (i := ⟨27, 7, 0, 0, 2⟩) rfl] at hi
  have hmk := st_mark hi
  have key := h.leaves ht ((p * 34 + 19 : Nat) : Int) r7 (⟨p, 20, r0, r1, r2, r3, r4, r5, r6, r7, 0⟩ : Loc) (.inl ⟨rfl, hp, by show 20 < 34; decide⟩) (I_loc (mem := s.mem) (q := s.buf) hI ht (by rw [hx]; rfl) (by rw [hq, hgt, ← hme]; apply At.a20H12 <;> first | assumption | rfl | (simp_all; done))) (by rw [hx]; rfl) rfl (by rw [hx]) (by rw [hx]; rfl)
  rw [show Loc.th (X T R).Lb _ = _ from th_of rfl] at key
  exact ⟨_, _, _, hmk, key⟩
 case a19H22 g0 g1 g2 =>
  have hi := ins (i := ⟨27, 7, 0, 0, 2⟩) rfl
  rw [movI_plain (i := ⟨27, 7, 0, 0, 2⟩) rfl] at hi
  have hmk := st_mark hi
  have key := h.leaves ht ((p * 34 + 19 : Nat) : Int) r7 (⟨p, 20, r0, r1, r2, r3, r4, r5, r6, r7, 0⟩ : Loc) (.inl ⟨rfl, hp, by show 20 < 34; decide⟩) (I_loc (mem := s.mem) (q := s.buf) hI ht (by rw [hx]; rfl) (by rw [hq, hgt, ← hme]; apply At.a20H22 <;> first | assumption | rfl | (simp_all; done))) (by rw [hx]; rfl) rfl (by rw [hx]) (by rw [hx]; rfl)
  rw [show Loc.th (X T R).Lb _ = _ from th_of rfl] at key
  exact ⟨_, _, _, hmk, key⟩
 case a20H02 g0 g1 =>
  have hi := ins (i := ⟨16, 4, 8, 0, 18⟩) rfl
  rw [movI_plain (i := ⟨16, 4, 8, 0, 18⟩) rfl] at hi
  have hst := st_load hi (ad := 18) (addr_abs _ _ _ _ _) (by rw [hnm]; decide)
  have hl : s.load t 18 = me := by rw [load_q hq]; rfl
  rw [hl] at hst
  have hg := h.noted (t := t) ⟨1, 0, ((p * 34 + 20 : Nat) : Int), 18, me, 0, 0, false⟩ (show (1 : Int) ≠ 7 by decide) (show (1 : Int) ≠ 13 by decide)
  have key := hg.loc ht (⟨p, 21, r0, r1, r2, r3, me, r5, r6, r7, 0⟩ : Loc) (.inl ⟨rfl, hp, by show 21 < 34; decide⟩) (I_loc (mem := s.mem) (q := s.buf) hI ht (by rw [hx]; rfl) (by rw [hq, hgt, ← hme]; exact (At.a21H02 (by first | assumption | rfl | omega | (intro e; dsimp only at e; omega) | exact Int.le_refl _) (by first | assumption | rfl | omega | (intro e; dsimp only at e; omega) | exact Int.le_refl _) (by first | assumption | rfl | omega | (intro e; dsimp only at e; omega) | exact Int.le_refl _)))) (by rw [hx]; rfl) (by rw [hx]) (by rw [hx]; rfl)
  rw [show Loc.th (X T R).Lb _ = _ from th_of rfl] at key
  exact ⟨_, _, _, hst, key⟩
 case a20H12 g0 g1 g2 =>
  have hi := ins (i := ⟨16, 4, 8, 0, 18⟩) rfl
  rw [movI_plain (i := ⟨16, 4, 8, 0, 18⟩) rfl] at hi
  have hst := st_load hi (ad := 18) (addr_abs _ _ _ _ _) (by rw [hnm]; decide)
  have hl : s.load t 18 = (s.mem.getD 18 0) := by rw [load_q hq]; rfl
  rw [hl] at hst
  have hg := h.noted (t := t) ⟨1, 0, ((p * 34 + 20 : Nat) : Int), 18, (s.mem.getD 18 0), 0, 0, false⟩ (show (1 : Int) ≠ 7 by decide) (show (1 : Int) ≠ 13 by decide)
  have key := hg.loc ht (⟨p, 21, r0, r1, r2, r3, (s.mem.getD 18 0), r5, r6, r7, 0⟩ : Loc) (.inl ⟨rfl, hp, by show 21 < 34; decide⟩) (I_loc (mem := s.mem) (q := s.buf) hI ht (by rw [hx]; rfl) (by rw [hq, hgt, ← hme]; exact (At.a21H12 (by first | assumption | rfl | omega | (intro e; dsimp only at e; omega) | exact Int.le_refl _) (by first | assumption | rfl | omega | (intro e; dsimp only at e; omega) | exact Int.le_refl _) (by first | assumption | rfl | omega | (intro e; dsimp only at e; omega) | exact Int.le_refl _) (by first | assumption | rfl | omega | (intro e; dsimp only at e; omega) | exact Int.le_refl _)))) (by rw [hx]; rfl) (by rw [hx]) (by rw [hx]; rfl)
  rw [show Loc.th (X T R).Lb _ = _ from th_of rfl] at key
  exact ⟨_, _, _, hst, key⟩
 case a20H22 g0 g1 g2 =>
  have hi := ins (i := ⟨16, 4, 8, 0, 18⟩) rfl
  rw [movI_plain (i := ⟨16, 4, 8, 0, 18⟩) rfl] at hi
  have hst := st_load hi (ad := 18) (addr_abs _ _ _ _ _) (by rw [hnm]; decide)
  have hl : s.load t 18 = (s.mem.getD 18 0) := by rw [load_q hq]; rfl
  rw [hl] at hst
  have hg := h.noted (t := t) ⟨1, 0, ((p * 34 + 20 : Nat) : Int), 18, (s.mem.getD 18 0), 0, 0, false⟩ (show (1 : Int) ≠ 7 by decide) (show (1 : Int) ≠ 13 by decide)
  have key := hg.loc ht (⟨p, 21, r0, r1, r2, r3, (s.mem.getD 18 0), r5, r6, r7, 0⟩ : Loc) (.inl ⟨rfl, hp, by show 21 < 34; decide⟩) (I_loc (mem := s.mem) (q := s.buf) hI ht (by rw [hx]; rfl) (by rw [hq, hgt, ← hme]; exact (At.a21H22 (by first | assumption | rfl | omega | (intro e; dsimp only at e; omega) | exact Int.le_refl _) (by first | assumption | rfl | omega | (intro e; dsimp only at e; omega) | exact Int.le_refl _) (by first | assumption | rfl | omega | (intro e; dsimp only at e; omega) | exact Int.le_refl _) (by first | assumption | rfl | omega | (intro e; dsimp only at e; omega) | exact Int.le_refl _)))) (by rw [hx]; rfl) (by rw [hx]) (by rw [hx]; rfl)
  rw [show Loc.th (X T R).Lb _ = _ from th_of rfl] at key
  exact ⟨_, _, _, hst, key⟩
 case a21H02 g0 g1 g2 =>
  have hi := ins (i := ⟨1, 5, 0, 0, me⟩) rfl
  rw [movI_plain (i := ⟨1, 5, 0, 0, me⟩) rfl] at hi
  have hst := st_set hi
  have key := h.loc ht (⟨p, 22, r0, r1, r2, r3, r4, (me), r6, r7, 0⟩ : Loc) (.inl ⟨rfl, hp, by show 22 < 34; decide⟩) (I_loc (mem := s.mem) (q := s.buf) hI ht (by rw [hx]; rfl) (by rw [hq, hgt, ← hme]; apply At.a22H02 <;> first | assumption | rfl | (simp_all; done))) (by rw [hx]; rfl) (by rw [hx]) (by rw [hx]; rfl)
  rw [show Loc.th (X T R).Lb _ = _ from th_of rfl] at key
  exact ⟨_, _, _, hst, key⟩
 case a21H12 g0 g1 g2 g3 =>
  have hi := ins (i := ⟨1, 5, 0, 0, me⟩) rfl
  rw [movI_plain (i := ⟨1, 5, 0, 0, me⟩) rfl] at hi
  have hst := st_set hi
  have key := h.loc ht (⟨p, 22, r0, r1, r2, r3, r4, (me), r6, r7, 0⟩ : Loc) (.inl ⟨rfl, hp, by show 22 < 34; decide⟩) (I_loc (mem := s.mem) (q := s.buf) hI ht (by rw [hx]; rfl) (by rw [hq, hgt, ← hme]; apply At.a22H12 <;> first | assumption | rfl | (simp_all; done))) (by rw [hx]; rfl) (by rw [hx]) (by rw [hx]; rfl)
  rw [show Loc.th (X T R).Lb _ = _ from th_of rfl] at key
  exact ⟨_, _, _, hst, key⟩
 case a21H22 g0 g1 g2 g3 =>
  have hi := ins (i := ⟨1, 5, 0, 0, me⟩) rfl
  rw [movI_plain (i := ⟨1, 5, 0, 0, me⟩) rfl] at hi
  have hst := st_set hi
  have key := h.loc ht (⟨p, 22, r0, r1, r2, r3, r4, (me), r6, r7, 0⟩ : Loc) (.inl ⟨rfl, hp, by show 22 < 34; decide⟩) (I_loc (mem := s.mem) (q := s.buf) hI ht (by rw [hx]; rfl) (by rw [hq, hgt, ← hme]; apply At.a22H22 <;> first | assumption | rfl | (simp_all; done))) (by rw [hx]; rfl) (by rw [hx]) (by rw [hx]; rfl)
  rw [show Loc.th (X T R).Lb _ = _ from th_of rfl] at key
  exact ⟨_, _, _, hst, key⟩
 case a22H02 g0 g1 g2 g3 =>
  have hi := ins (i := ⟨12, 6, 4, 5, 0⟩) rfl
  rw [movI_plain (i := ⟨12, 6, 4, 5, 0⟩) rfl] at hi
  have hst := st_same hi
  have hv : (if r4 = r5 then (1 : Int) else 0) = 1 := by simp_all
  have key := h.loc ht (⟨p, 23, r0, r1, r2, r3, r4, r5, (if r4 = r5 then (1 : Int) else 0), r7, 0⟩ : Loc) (.inl ⟨rfl, hp, by show 23 < 34; decide⟩) (I_loc (mem := s.mem) (q := s.buf) hI ht (by rw [hx]; rfl) (by rw [hq, hgt, ← hme]; exact (At.a23H02 (by first | assumption | exact hv) (by first | assumption | exact hv) (by first | assumption | exact hv)))) (by rw [hx]; rfl) (by rw [hx]) (by rw [hx]; rfl)
  rw [show Loc.th (X T R).Lb _ = _ from th_of rfl] at key
  exact ⟨_, _, _, hst, key⟩
 case a22H12 g0 g1 g2 g3 g4 =>
  have hi := ins (i := ⟨12, 6, 4, 5, 0⟩) rfl
  rw [movI_plain (i := ⟨12, 6, 4, 5, 0⟩) rfl] at hi
  have hst := st_same hi
  have hv : (if r4 = r5 then (1 : Int) else 0) = 1 := by simp_all
  have key := h.loc ht (⟨p, 23, r0, r1, r2, r3, r4, r5, (if r4 = r5 then (1 : Int) else 0), r7, 0⟩ : Loc) (.inl ⟨rfl, hp, by show 23 < 34; decide⟩) (I_loc (mem := s.mem) (q := s.buf) hI ht (by rw [hx]; rfl) (by rw [hq, hgt, ← hme]; exact (At.a23H12 (by first | assumption | exact hv) (by first | assumption | exact hv) (by first | assumption | exact hv) (by first | assumption | exact hv)))) (by rw [hx]; rfl) (by rw [hx]) (by rw [hx]; rfl)
  rw [show Loc.th (X T R).Lb _ = _ from th_of rfl] at key
  exact ⟨_, _, _, hst, key⟩
 case a22H22 g0 g1 g2 g3 g4 =>
  have hi := ins (i := ⟨12, 6, 4, 5, 0⟩) rfl
  rw [movI_plain (i := ⟨12, 6, 4, 5, 0⟩) rfl] at hi
  have hst := st_same hi
  have hv : (if r4 = r5 then (1 : Int) else 0) = 1 := by simp_all
  have key := h.loc ht (⟨p, 23, r0, r1, r2, r3, r4, r5, (if r4 = r5 then (1 : Int) else 0), r7, 0⟩ : Loc) (.inl ⟨rfl, hp, by show 23 < 34; decide⟩) (I_loc (mem := s.mem) (q := s.buf) hI ht (by rw [hx]; rfl) (by rw [hq, hgt, ← hme]; exact (At.a23H22 (by first | assumption | exact hv) (by first | assumption | exact hv) (by first | assumption | exact hv) (by first | assumption | exact hv)))) (by rw [hx]; rfl) (by rw [hx]) (by rw [hx]; rfl)
  rw [show Loc.th (X T R).Lb _ = _ from th_of rfl] at key
  exact ⟨_, _, _, hst, key⟩
 case a23H02 g0 g1 g2 =>
  have hi := ins (i := ⟨15, 6, 0, 0, 26⟩) rfl
  rw [movI_jump (i := ⟨15, 6, 0, 0, 26⟩) rfl] at hi
  have hst := st_some hi
  by_cases hz : r6 ≠ 0
  ·rw [if_pos (by exact hz)] at hst
   have key := h.loc ht (⟨p, 26, r0, r1, r2, r3, r4, r5, r6, r7, 0⟩ : Loc) (.inl ⟨rfl, hp, by show 26 < 34; decide⟩) (I_loc (mem := s.mem) (q := s.buf) hI ht (by rw [hx]; rfl) (by rw [hq, hgt, ← hme]; apply At.a26H02 <;> first | assumption | (simp_all; done))) (by rw [hx]; rfl) (by rw [hx]) (by rw [hx]; rfl)
   rw [show Loc.th (X T R).Lb _ = _ from th_jmp (by omega) (by decide)] at key
   exact ⟨_, _, _, hst, key⟩
  ·rw [if_neg (by exact hz)] at hst
   exfalso; simp_all
 case a23H12 g0 g1 g2 g3 =>
  have hi := ins (i := ⟨15, 6, 0, 0, 26⟩) rfl
  rw [movI_jump (i := ⟨15, 6, 0, 0, 26⟩) rfl] at hi
  have hst := st_some hi
  by_cases hz : r6 ≠ 0
  ·rw [if_pos (by exact hz)] at hst
   have key := h.loc ht (⟨p, 26, r0, r1, r2, r3, r4, r5, r6, r7, 0⟩ : Loc) (.inl ⟨rfl, hp, by show 26 < 34; decide⟩) (I_loc (mem := s.mem) (q := s.buf) hI ht (by rw [hx]; rfl) (by rw [hq, hgt, ← hme]; apply At.a26H12 <;> first | assumption | (simp_all; done))) (by rw [hx]; rfl) (by rw [hx]) (by rw [hx]; rfl)
   rw [show Loc.th (X T R).Lb _ = _ from th_jmp (by omega) (by decide)] at key
   exact ⟨_, _, _, hst, key⟩
  ·rw [if_neg (by exact hz)] at hst
   exfalso; simp_all
 case a23H22 g0 g1 g2 g3 =>
  have hi := ins (i := ⟨15, 6, 0, 0, 26⟩) rfl
  rw [movI_jump (i := ⟨15, 6, 0, 0, 26⟩) rfl] at hi
  have hst := st_some hi
  by_cases hz : r6 ≠ 0
  ·rw [if_pos (by exact hz)] at hst
   have key := h.loc ht (⟨p, 26, r0, r1, r2, r3, r4, r5, r6, r7, 0⟩ : Loc) (.inl ⟨rfl, hp, by show 26 < 34; decide⟩) (I_loc (mem := s.mem) (q := s.buf) hI ht (by rw [hx]; rfl) (by rw [hq, hgt, ← hme]; apply At.a26H22 <;> first | assumption | (simp_all; done))) (by rw [hx]; rfl) (by rw [hx]) (by rw [hx]; rfl)
   rw [show Loc.th (X T R).Lb _ = _ from th_jmp (by omega) (by decide)] at key
   exact ⟨_, _, _, hst, key⟩
  ·rw [if_neg (by exact hz)] at hst
   exfalso; simp_all
 case a26H02 g0 g1 =>
  have hi := ins (i := ⟨1, 4, 0, 0, 0⟩) rfl
  rw [movI_plain (i := ⟨1, 4, 0, 0, 0⟩) rfl] at hi
  have hst := st_set hi
  have key := h.loc ht (⟨p, 27, r0, r1, r2, r3, (0), r5, r6, r7, 0⟩ : Loc) (.inl ⟨rfl, hp, by show 27 < 34; decide⟩) (I_loc (mem := s.mem) (q := s.buf) hI ht (by rw [hx]; rfl) (by rw [hq, hgt, ← hme]; apply At.a27H02 <;> first | assumption | rfl | (simp_all; done))) (by rw [hx]; rfl) (by rw [hx]) (by rw [hx]; rfl)
  rw [show Loc.th (X T R).Lb _ = _ from th_of rfl] at key
  exact ⟨_, _, _, hst, key⟩
 case a26H12 g0 g1 g2 =>
  have hi := ins (i := ⟨1, 4, 0, 0, 0⟩) rfl
  rw [movI_plain (i := ⟨1, 4, 0, 0, 0⟩) rfl] at hi
  have hst := st_set hi
  have key := h.loc ht (⟨p, 27, r0, r1, r2, r3, (0), r5, r6, r7, 0⟩ : Loc) (.inl ⟨rfl, hp, by show 27 < 34; decide⟩) (I_loc (mem := s.mem) (q := s.buf) hI ht (by rw [hx]; rfl) (by rw [hq, hgt, ← hme]; apply At.a27H12 <;> first | assumption | rfl | (simp_all; done))) (by rw [hx]; rfl) (by rw [hx]) (by rw [hx]; rfl)
  rw [show Loc.th (X T R).Lb _ = _ from th_of rfl] at key
  exact ⟨_, _, _, hst, key⟩
 case a26H22 g0 g1 g2 =>
  have hi := ins (i := ⟨1, 4, 0, 0, 0⟩) rfl
  rw [movI_plain (i := ⟨1, 4, 0, 0, 0⟩) rfl] at hi
  have hst := st_set hi
  have key := h.loc ht (⟨p, 27, r0, r1, r2, r3, (0), r5, r6, r7, 0⟩ : Loc) (.inl ⟨rfl, hp, by show 27 < 34; decide⟩) (I_loc (mem := s.mem) (q := s.buf) hI ht (by rw [hx]; rfl) (by rw [hq, hgt, ← hme]; apply At.a27H22 <;> first | assumption | rfl | (simp_all; done))) (by rw [hx]; rfl) (by rw [hx]) (by rw [hx]; rfl)
  rw [show Loc.th (X T R).Lb _ = _ from th_of rfl] at key
  exact ⟨_, _, _, hst, key⟩
 case a27H02 g0 g1 g2 =>
  have hi := ins (i := ⟨17, 4, 8, 0, 18⟩) rfl
  rw [movI_plain (i := ⟨17, 4, 8, 0, 18⟩) rfl] at hi
  have hst := st_store hi (ad := 18) (addr_abs _ _ _ _ _) (by rw [hnm]; decide)
  by_cases hro : s.roomy t = true
  ·rw [if_pos hro] at hst
   have hrv : r4 = 0 := by assumption
   have key := h.stored ht ((p * 34 + 27 : Nat) : Int) 18 r4 (⟨p, 28, r0, r1, r2, r3, r4, r5, r6, r7, 0⟩ : Loc) (.inl ⟨rfl, hp, by show 28 < 34; decide⟩) (by
    have := hI.put (q' := s.buf t ++ [(18, r4)]) (x := ⟨p, 28, r0, r1, r2, r3, r4, r5, r6, r7, 0⟩) ht (by rw [hx]; rfl) (show At ((t + 1 : Nat) : Int) (s.mem.getD 16 0) (s.mem.getD 17 0) (s.mem.getD 18 0) (s.mem.getD 0 0) (gf t) _ _ _ _ _ _ _ _ from by rw [hq, hgt, hrv, ← hme]; apply At.a28H03 <;> first | assumption | rfl | (simp_all; done)) (.inr rfl)
    rw [upF_id gf t] at this
    exact ⟨_, this⟩) (by rw [hx]; rfl) (by rw [hx]) (.inl ⟨by decide, by rw [hx]; rfl⟩)
   rw [show Loc.th (X T R).Lb _ = _ from th_of rfl] at key
   exact ⟨_, _, _, hst, key⟩
  ·rw [if_neg hro] at hst
   exact ⟨_, f, i, hst, flush h ht hT hR⟩
 case a27H12 g0 g1 g2 g3 =>
  have hi := ins (i := ⟨17, 4, 8, 0, 18⟩) rfl
  rw [movI_plain (i := ⟨17, 4, 8, 0, 18⟩) rfl] at hi
  have hst := st_store hi (ad := 18) (addr_abs _ _ _ _ _) (by rw [hnm]; decide)
  by_cases hro : s.roomy t = true
  ·rw [if_pos hro] at hst
   have hrv : r4 = 0 := by assumption
   have key := h.stored ht ((p * 34 + 27 : Nat) : Int) 18 r4 (⟨p, 28, r0, r1, r2, r3, r4, r5, r6, r7, 0⟩ : Loc) (.inl ⟨rfl, hp, by show 28 < 34; decide⟩) (by
    have := hI.put (q' := s.buf t ++ [(18, r4)]) (x := ⟨p, 28, r0, r1, r2, r3, r4, r5, r6, r7, 0⟩) ht (by rw [hx]; rfl) (show At ((t + 1 : Nat) : Int) (s.mem.getD 16 0) (s.mem.getD 17 0) (s.mem.getD 18 0) (s.mem.getD 0 0) (gf t) _ _ _ _ _ _ _ _ from by rw [hq, hgt, hrv, ← hme]; apply At.a28H13 <;> first | assumption | rfl | (simp_all; done)) (.inr rfl)
    rw [upF_id gf t] at this
    exact ⟨_, this⟩) (by rw [hx]; rfl) (by rw [hx]) (.inl ⟨by decide, by rw [hx]; rfl⟩)
   rw [show Loc.th (X T R).Lb _ = _ from th_of rfl] at key
   exact ⟨_, _, _, hst, key⟩
  ·rw [if_neg hro] at hst
   exact ⟨_, f, i, hst, flush h ht hT hR⟩
 case a27H22 g0 g1 g2 g3 =>
  have hi := ins (i := ⟨17, 4, 8, 0, 18⟩) rfl
  rw [movI_plain (i := ⟨17, 4, 8, 0, 18⟩) rfl] at hi
  have hst := st_store hi (ad := 18) (addr_abs _ _ _ _ _) (by rw [hnm]; decide)
  by_cases hro : s.roomy t = true
  ·rw [if_pos hro] at hst
   have hrv : r4 = 0 := by assumption
   have key := h.stored ht ((p * 34 + 27 : Nat) : Int) 18 r4 (⟨p, 28, r0, r1, r2, r3, r4, r5, r6, r7, 0⟩ : Loc) (.inl ⟨rfl, hp, by show 28 < 34; decide⟩) (by
    have := hI.put (q' := s.buf t ++ [(18, r4)]) (x := ⟨p, 28, r0, r1, r2, r3, r4, r5, r6, r7, 0⟩) ht (by rw [hx]; rfl) (show At ((t + 1 : Nat) : Int) (s.mem.getD 16 0) (s.mem.getD 17 0) (s.mem.getD 18 0) (s.mem.getD 0 0) (gf t) _ _ _ _ _ _ _ _ from by rw [hq, hgt, hrv, ← hme]; apply At.a28H23 <;> first | assumption | rfl | (simp_all; done)) (.inr rfl)
    rw [upF_id gf t] at this
    exact ⟨_, this⟩) (by rw [hx]; rfl) (by rw [hx]) (.inl ⟨by decide, by rw [hx]; rfl⟩)
   rw [show Loc.th (X T R).Lb _ = _ from th_of rfl] at key
   exact ⟨_, _, _, hst, key⟩
  ·rw [if_neg hro] at hst
   exact ⟨_, f, i, hst, flush h ht hT hR⟩
 case a28H03 g0 g1 =>
  have hi := ins (i := ⟨16, 4, 8, 0, 17⟩) rfl
  rw [movI_plain (i := ⟨16, 4, 8, 0, 17⟩) rfl] at hi
  have hst := st_load hi (ad := 17) (addr_abs _ _ _ _ _) (by rw [hnm]; decide)
  have hl : s.load t 17 = (s.mem.getD 17 0) := by rw [load_q hq]; rfl
  rw [hl] at hst
  have hg := h.noted (t := t) ⟨1, 0, ((p * 34 + 28 : Nat) : Int), 17, (s.mem.getD 17 0), 0, 0, false⟩ (show (1 : Int) ≠ 7 by decide) (show (1 : Int) ≠ 13 by decide)
  have key := hg.loc ht (⟨p, 29, r0, r1, r2, r3, (s.mem.getD 17 0), r5, r6, r7, 0⟩ : Loc) (.inl ⟨rfl, hp, by show 29 < 34; decide⟩) (I_loc (mem := s.mem) (q := s.buf) hI ht (by rw [hx]; rfl) (by rw [hq, hgt, ← hme]; exact (At.a29H03 (by first | assumption | rfl | omega | (intro e; dsimp only at e; omega) | exact Int.le_refl _) (by first | assumption | rfl | omega | (intro e; dsimp only at e; omega) | exact Int.le_refl _) (by first | assumption | rfl | omega | (intro e; dsimp only at e; omega) | exact Int.le_refl _)))) (by rw [hx]; rfl) (by rw [hx]) (by rw [hx]; rfl)
  rw [show Loc.th (X T R).Lb _ = _ from th_of rfl] at key
  exact ⟨_, _, _, hst, key⟩
 case a28H13 g0 g1 g2 =>
  have hi := ins (i := ⟨16, 4, 8, 0, 17⟩) rfl
  rw [movI_plain (i := ⟨16, 4, 8, 0, 17⟩) rfl] at hi
  have hst := st_load hi (ad := 17) (addr_abs _ _ _ _ _) (by rw [hnm]; decide)
  have hl : s.load t 17 = (s.mem.getD 17 0) := by rw [load_q hq]; rfl
  rw [hl] at hst
  have hg := h.noted (t := t) ⟨1, 0, ((p * 34 + 28 : Nat) : Int), 17, (s.mem.getD 17 0), 0, 0, false⟩ (show (1 : Int) ≠ 7 by decide) (show (1 : Int) ≠ 13 by decide)
  have key := hg.loc ht (⟨p, 29, r0, r1, r2, r3, (s.mem.getD 17 0), r5, r6, r7, 0⟩ : Loc) (.inl ⟨rfl, hp, by show 29 < 34; decide⟩) (I_loc (mem := s.mem) (q := s.buf) hI ht (by rw [hx]; rfl) (by rw [hq, hgt, ← hme]; exact (At.a29H13 (by first | assumption | rfl | omega | (intro e; dsimp only at e; omega) | exact Int.le_refl _) (by first | assumption | rfl | omega | (intro e; dsimp only at e; omega) | exact Int.le_refl _) (by first | assumption | rfl | omega | (intro e; dsimp only at e; omega) | exact Int.le_refl _) (by first | assumption | rfl | omega | (intro e; dsimp only at e; omega) | exact Int.le_refl _)))) (by rw [hx]; rfl) (by rw [hx]) (by rw [hx]; rfl)
  rw [show Loc.th (X T R).Lb _ = _ from th_of rfl] at key
  exact ⟨_, _, _, hst, key⟩
 case a28H23 g0 g1 g2 =>
  have hi := ins (i := ⟨16, 4, 8, 0, 17⟩) rfl
  rw [movI_plain (i := ⟨16, 4, 8, 0, 17⟩) rfl] at hi
  have hst := st_load hi (ad := 17) (addr_abs _ _ _ _ _) (by rw [hnm]; decide)
  have hl : s.load t 17 = (s.mem.getD 17 0) := by rw [load_q hq]; rfl
  rw [hl] at hst
  have hg := h.noted (t := t) ⟨1, 0, ((p * 34 + 28 : Nat) : Int), 17, (s.mem.getD 17 0), 0, 0, false⟩ (show (1 : Int) ≠ 7 by decide) (show (1 : Int) ≠ 13 by decide)
  have key := hg.loc ht (⟨p, 29, r0, r1, r2, r3, (s.mem.getD 17 0), r5, r6, r7, 0⟩ : Loc) (.inl ⟨rfl, hp, by show 29 < 34; decide⟩) (I_loc (mem := s.mem) (q := s.buf) hI ht (by rw [hx]; rfl) (by rw [hq, hgt, ← hme]; exact (At.a29H23 (by first | assumption | rfl | omega | (intro e; dsimp only at e; omega) | exact Int.le_refl _) (by first | assumption | rfl | omega | (intro e; dsimp only at e; omega) | exact Int.le_refl _) (by first | assumption | rfl | omega | (intro e; dsimp only at e; omega) | exact Int.le_refl _) (by first | assumption | rfl | omega | (intro e; dsimp only at e; omega) | exact Int.le_refl _)))) (by rw [hx]; rfl) (by rw [hx]) (by rw [hx]; rfl)
  rw [show Loc.th (X T R).Lb _ = _ from th_of rfl] at key
  exact ⟨_, _, _, hst, key⟩
 case a28H33 g0 g1 g2 =>
  have hi := ins (i := ⟨16, 4, 8, 0, 17⟩) rfl
  rw [movI_plain (i := ⟨16, 4, 8, 0, 17⟩) rfl] at hi
  have hst := st_load hi (ad := 17) (addr_abs _ _ _ _ _) (by rw [hnm]; decide)
  have hl : s.load t 17 = (s.mem.getD 17 0) := by rw [load_q hq]; rfl
  rw [hl] at hst
  have hg := h.noted (t := t) ⟨1, 0, ((p * 34 + 28 : Nat) : Int), 17, (s.mem.getD 17 0), 0, 0, false⟩ (show (1 : Int) ≠ 7 by decide) (show (1 : Int) ≠ 13 by decide)
  have key := hg.loc ht (⟨p, 29, r0, r1, r2, r3, (s.mem.getD 17 0), r5, r6, r7, 0⟩ : Loc) (.inl ⟨rfl, hp, by show 29 < 34; decide⟩) (I_loc (mem := s.mem) (q := s.buf) hI ht (by rw [hx]; rfl) (by rw [hq, hgt, ← hme]; exact (At.a29H33 (by first | assumption | rfl | omega | (intro e; dsimp only at e; omega) | exact Int.le_refl _) (by first | assumption | rfl | omega | (intro e; dsimp only at e; omega) | exact Int.le_refl _) (by first | assumption | rfl | omega | (intro e; dsimp only at e; omega) | exact Int.le_refl _) (by first | assumption | rfl | omega | (intro e; dsimp only at e; omega) | exact Int.le_refl _)))) (by rw [hx]; rfl) (by rw [hx]) (by rw [hx]; rfl)
  rw [show Loc.th (X T R).Lb _ = _ from th_of rfl] at key
  exact ⟨_, _, _, hst, key⟩
 case a29H03 g0 g1 g2 =>
  have hi := ins (i := ⟨1, 6, 0, 0, 1⟩) rfl
  rw [movI_plain (i := ⟨1, 6, 0, 0, 1⟩) rfl] at hi
  have hst := st_set hi
  have key := h.loc ht (⟨p, 30, r0, r1, r2, r3, r4, r5, (1), r7, 0⟩ : Loc) (.inl ⟨rfl, hp, by show 30 < 34; decide⟩) (I_loc (mem := s.mem) (q := s.buf) hI ht (by rw [hx]; rfl) (by rw [hq, hgt, ← hme]; apply At.a30H03 <;> first | assumption | rfl | (simp_all; done))) (by rw [hx]; rfl) (by rw [hx]) (by rw [hx]; rfl)
  rw [show Loc.th (X T R).Lb _ = _ from th_of rfl] at key
  exact ⟨_, _, _, hst, key⟩
 case a29H13 g0 g1 g2 g3 =>
  have hi := ins (i := ⟨1, 6, 0, 0, 1⟩) rfl
  rw [movI_plain (i := ⟨1, 6, 0, 0, 1⟩) rfl] at hi
  have hst := st_set hi
  have key := h.loc ht (⟨p, 30, r0, r1, r2, r3, r4, r5, (1), r7, 0⟩ : Loc) (.inl ⟨rfl, hp, by show 30 < 34; decide⟩) (I_loc (mem := s.mem) (q := s.buf) hI ht (by rw [hx]; rfl) (by rw [hq, hgt, ← hme]; apply At.a30H13 <;> first | assumption | rfl | (simp_all; done))) (by rw [hx]; rfl) (by rw [hx]) (by rw [hx]; rfl)
  rw [show Loc.th (X T R).Lb _ = _ from th_of rfl] at key
  exact ⟨_, _, _, hst, key⟩
 case a29H23 g0 g1 g2 g3 =>
  have hi := ins (i := ⟨1, 6, 0, 0, 1⟩) rfl
  rw [movI_plain (i := ⟨1, 6, 0, 0, 1⟩) rfl] at hi
  have hst := st_set hi
  have key := h.loc ht (⟨p, 30, r0, r1, r2, r3, r4, r5, (1), r7, 0⟩ : Loc) (.inl ⟨rfl, hp, by show 30 < 34; decide⟩) (I_loc (mem := s.mem) (q := s.buf) hI ht (by rw [hx]; rfl) (by rw [hq, hgt, ← hme]; apply At.a30H23 <;> first | assumption | rfl | (simp_all; done))) (by rw [hx]; rfl) (by rw [hx]) (by rw [hx]; rfl)
  rw [show Loc.th (X T R).Lb _ = _ from th_of rfl] at key
  exact ⟨_, _, _, hst, key⟩
 case a29H33 g0 g1 g2 g3 =>
  have hi := ins (i := ⟨1, 6, 0, 0, 1⟩) rfl
  rw [movI_plain (i := ⟨1, 6, 0, 0, 1⟩) rfl] at hi
  have hst := st_set hi
  have key := h.loc ht (⟨p, 30, r0, r1, r2, r3, r4, r5, (1), r7, 0⟩ : Loc) (.inl ⟨rfl, hp, by show 30 < 34; decide⟩) (I_loc (mem := s.mem) (q := s.buf) hI ht (by rw [hx]; rfl) (by rw [hq, hgt, ← hme]; apply At.a30H33 <;> first | assumption | rfl | (simp_all; done))) (by rw [hx]; rfl) (by rw [hx]) (by rw [hx]; rfl)
  rw [show Loc.th (X T R).Lb _ = _ from th_of rfl] at key
  exact ⟨_, _, _, hst, key⟩
 case a30H03 g0 g1 g2 g3 =>
  have hi := ins (i := ⟨3, 4, 4, 6, 0⟩) rfl
  rw [movI_plain (i := ⟨3, 4, 4, 6, 0⟩) rfl] at hi
  have hst := st_add hi
  have key := h.loc ht (⟨p, 31, r0, r1, r2, r3, (wr32 (r4 + r6)), r5, r6, r7, 0⟩ : Loc) (.inl ⟨rfl, hp, by show 31 < 34; decide⟩) (I_loc (mem := s.mem) (q := s.buf) hI ht (by rw [hx]; rfl) (by rw [hq, hgt, ← hme]; apply At.a31H03 <;> first | assumption | rfl | (simp_all; done))) (by rw [hx]; rfl) (by rw [hx]) (by rw [hx]; rfl)
  rw [show Loc.th (X T R).Lb _ = _ from th_of rfl] at key
  exact ⟨_, _, _, hst, key⟩
 case a30H13 g0 g1 g2 g3 g4 =>
  have hi := ins (i := ⟨3, 4, 4, 6, 0⟩) rfl
  rw [movI_plain (i := ⟨3, 4, 4, 6, 0⟩) rfl] at hi
  have hst := st_add hi
  have key := h.loc ht (⟨p, 31, r0, r1, r2, r3, (wr32 (r4 + r6)), r5, r6, r7, 0⟩ : Loc) (.inl ⟨rfl, hp, by show 31 < 34; decide⟩) (I_loc (mem := s.mem) (q := s.buf) hI ht (by rw [hx]; rfl) (by rw [hq, hgt, ← hme]; apply At.a31H13 <;> first | assumption | rfl | (simp_all; done))) (by rw [hx]; rfl) (by rw [hx]) (by rw [hx]; rfl)
  rw [show Loc.th (X T R).Lb _ = _ from th_of rfl] at key
  exact ⟨_, _, _, hst, key⟩
 case a30H23 g0 g1 g2 g3 g4 =>
  have hi := ins (i := ⟨3, 4, 4, 6, 0⟩) rfl
  rw [movI_plain (i := ⟨3, 4, 4, 6, 0⟩) rfl] at hi
  have hst := st_add hi
  have key := h.loc ht (⟨p, 31, r0, r1, r2, r3, (wr32 (r4 + r6)), r5, r6, r7, 0⟩ : Loc) (.inl ⟨rfl, hp, by show 31 < 34; decide⟩) (I_loc (mem := s.mem) (q := s.buf) hI ht (by rw [hx]; rfl) (by rw [hq, hgt, ← hme]; apply At.a31H23 <;> first | assumption | rfl | (simp_all; done))) (by rw [hx]; rfl) (by rw [hx]) (by rw [hx]; rfl)
  rw [show Loc.th (X T R).Lb _ = _ from th_of rfl] at key
  exact ⟨_, _, _, hst, key⟩
 case a30H33 g0 g1 g2 g3 g4 =>
  have hi := ins (i := ⟨3, 4, 4, 6, 0⟩) rfl
  rw [movI_plain (i := ⟨3, 4, 4, 6, 0⟩) rfl] at hi
  have hst := st_add hi
  have key := h.loc ht (⟨p, 31, r0, r1, r2, r3, (wr32 (r4 + r6)), r5, r6, r7, 0⟩ : Loc) (.inl ⟨rfl, hp, by show 31 < 34; decide⟩) (I_loc (mem := s.mem) (q := s.buf) hI ht (by rw [hx]; rfl) (by rw [hq, hgt, ← hme]; apply At.a31H33 <;> first | assumption | rfl | (simp_all; done))) (by rw [hx]; rfl) (by rw [hx]) (by rw [hx]; rfl)
  rw [show Loc.th (X T R).Lb _ = _ from th_of rfl] at key
  exact ⟨_, _, _, hst, key⟩
 case a31H03 g0 g1 g2 =>
  have hi := ins (i := ⟨17, 4, 8, 0, 17⟩) rfl
  rw [movI_plain (i := ⟨17, 4, 8, 0, 17⟩) rfl] at hi
  have hst := st_store hi (ad := 17) (addr_abs _ _ _ _ _) (by rw [hnm]; decide)
  by_cases hro : s.roomy t = true
  ·rw [if_pos hro] at hst
   have hrv : r4 = (wr32 (s.mem.getD 17 0 + 1)) := by assumption
   have key := h.stored ht ((p * 34 + 31 : Nat) : Int) 17 r4 (⟨p, 32, r0, r1, r2, r3, r4, r5, r6, r7, 0⟩ : Loc) (.inl ⟨rfl, hp, by show 32 < 34; decide⟩) (by
    have := hI.put (q' := s.buf t ++ [(17, r4)]) (x := ⟨p, 32, r0, r1, r2, r3, r4, r5, r6, r7, 0⟩) ht (by rw [hx]; rfl) (show At ((t + 1 : Nat) : Int) (s.mem.getD 16 0) (s.mem.getD 17 0) (s.mem.getD 18 0) (s.mem.getD 0 0) (gf t) _ _ _ _ _ _ _ _ from by rw [hq, hgt, hrv, ← hme]; apply At.a32H04 <;> first | assumption | rfl | (simp_all; done)) (.inr rfl)
    rw [upF_id gf t] at this
    exact ⟨_, this⟩) (by rw [hx]; rfl) (by rw [hx]) (.inl ⟨by decide, by rw [hx]; rfl⟩)
   rw [show Loc.th (X T R).Lb _ = _ from th_of rfl] at key
   exact ⟨_, _, _, hst, key⟩
  ·rw [if_neg hro] at hst
   exact ⟨_, f, i, hst, flush h ht hT hR⟩
 case a31H13 g0 g1 g2 g3 =>
  have hi := ins (i := ⟨17, 4, 8, 0, 17⟩) rfl
  rw [movI_plain (i := ⟨17, 4, 8, 0, 17⟩) rfl] at hi
  have hst := st_store hi (ad := 17) (addr_abs _ _ _ _ _) (by rw [hnm]; decide)
  by_cases hro : s.roomy t = true
  ·rw [if_pos hro] at hst
   have hrv : r4 = (wr32 (s.mem.getD 17 0 + 1)) := by assumption
   have key := h.stored ht ((p * 34 + 31 : Nat) : Int) 17 r4 (⟨p, 32, r0, r1, r2, r3, r4, r5, r6, r7, 0⟩ : Loc) (.inl ⟨rfl, hp, by show 32 < 34; decide⟩) (by
    have := hI.put (q' := s.buf t ++ [(17, r4)]) (x := ⟨p, 32, r0, r1, r2, r3, r4, r5, r6, r7, 0⟩) ht (by rw [hx]; rfl) (show At ((t + 1 : Nat) : Int) (s.mem.getD 16 0) (s.mem.getD 17 0) (s.mem.getD 18 0) (s.mem.getD 0 0) (gf t) _ _ _ _ _ _ _ _ from by rw [hq, hgt, hrv, ← hme]; apply At.a32H14 <;> first | assumption | rfl | (simp_all; done)) (.inr rfl)
    rw [upF_id gf t] at this
    exact ⟨_, this⟩) (by rw [hx]; rfl) (by rw [hx]) (.inl ⟨by decide, by rw [hx]; rfl⟩)
   rw [show Loc.th (X T R).Lb _ = _ from th_of rfl] at key
   exact ⟨_, _, _, hst, key⟩
  ·rw [if_neg hro] at hst
   exact ⟨_, f, i, hst, flush h ht hT hR⟩
 case a31H23 g0 g1 g2 g3 =>
  have hi := ins (i := ⟨17, 4, 8, 0, 17⟩) rfl
  rw [movI_plain (i := ⟨17, 4, 8, 0, 17⟩) rfl] at hi
  have hst := st_store hi (ad := 17) (addr_abs _ _ _ _ _) (by rw [hnm]; decide)
  by_cases hro : s.roomy t = true
  ·rw [if_pos hro] at hst
   have hrv : r4 = (wr32 (s.mem.getD 17 0 + 1)) := by assumption
   have key := h.stored ht ((p * 34 + 31 : Nat) : Int) 17 r4 (⟨p, 32, r0, r1, r2, r3, r4, r5, r6, r7, 0⟩ : Loc) (.inl ⟨rfl, hp, by show 32 < 34; decide⟩) (by
    have := hI.put (q' := s.buf t ++ [(17, r4)]) (x := ⟨p, 32, r0, r1, r2, r3, r4, r5, r6, r7, 0⟩) ht (by rw [hx]; rfl) (show At ((t + 1 : Nat) : Int) (s.mem.getD 16 0) (s.mem.getD 17 0) (s.mem.getD 18 0) (s.mem.getD 0 0) (gf t) _ _ _ _ _ _ _ _ from by rw [hq, hgt, hrv, ← hme]; apply At.a32H24 <;> first | assumption | rfl | (simp_all; done)) (.inr rfl)
    rw [upF_id gf t] at this
    exact ⟨_, this⟩) (by rw [hx]; rfl) (by rw [hx]) (.inl ⟨by decide, by rw [hx]; rfl⟩)
   rw [show Loc.th (X T R).Lb _ = _ from th_of rfl] at key
   exact ⟨_, _, _, hst, key⟩
  ·rw [if_neg hro] at hst
   exact ⟨_, f, i, hst, flush h ht hT hR⟩
 case a31H33 g0 g1 g2 g3 =>
  have hi := ins (i := ⟨17, 4, 8, 0, 17⟩) rfl
  rw [movI_plain (i := ⟨17, 4, 8, 0, 17⟩) rfl] at hi
  have hst := st_store hi (ad := 17) (addr_abs _ _ _ _ _) (by rw [hnm]; decide)
  by_cases hro : s.roomy t = true
  ·rw [if_pos hro] at hst
   have hrv : r4 = (wr32 (s.mem.getD 17 0 + 1)) := by assumption
   have key := h.stored ht ((p * 34 + 31 : Nat) : Int) 17 r4 (⟨p, 32, r0, r1, r2, r3, r4, r5, r6, r7, 0⟩ : Loc) (.inl ⟨rfl, hp, by show 32 < 34; decide⟩) (by
    have := hI.put (q' := s.buf t ++ [(17, r4)]) (x := ⟨p, 32, r0, r1, r2, r3, r4, r5, r6, r7, 0⟩) ht (by rw [hx]; rfl) (show At ((t + 1 : Nat) : Int) (s.mem.getD 16 0) (s.mem.getD 17 0) (s.mem.getD 18 0) (s.mem.getD 0 0) (gf t) _ _ _ _ _ _ _ _ from by rw [hq, hgt, hrv, ← hme]; apply At.a32H34 <;> first | assumption | rfl | (simp_all; done)) (.inr rfl)
    rw [upF_id gf t] at this
    exact ⟨_, this⟩) (by rw [hx]; rfl) (by rw [hx]) (.inl ⟨by decide, by rw [hx]; rfl⟩)
   rw [show Loc.th (X T R).Lb _ = _ from th_of rfl] at key
   exact ⟨_, _, _, hst, key⟩
  ·rw [if_neg hro] at hst
   exact ⟨_, f, i, hst, flush h ht hT hR⟩
 case a32F g0 g1 =>
  have hi := ins (i := ⟨1, 7, 0, 0, 0⟩) rfl
  rw [movI_plain (i := ⟨1, 7, 0, 0, 0⟩) rfl] at hi
  have hst := st_set hi
  have key := h.loc ht (⟨p, 33, r0, r1, r2, r3, r4, r5, r6, (0), 0⟩ : Loc) (.inl ⟨rfl, hp, by show 33 < 34; decide⟩) (I_loc (mem := s.mem) (q := s.buf) hI ht (by rw [hx]; rfl) (by rw [hq, hgt, ← hme]; apply At.a33F <;> first | assumption | rfl | (simp_all; done))) (by rw [hx]; rfl) (by rw [hx]) (by rw [hx]; rfl)
  rw [show Loc.th (X T R).Lb _ = _ from th_of rfl] at key
  exact ⟨_, _, _, hst, key⟩
 case a32H04 g0 g1 =>
  have hi := ins (i := ⟨1, 7, 0, 0, 0⟩) rfl
  rw [movI_plain (i := ⟨1, 7, 0, 0, 0⟩) rfl] at hi
  have hst := st_set hi
  have key := h.loc ht (⟨p, 33, r0, r1, r2, r3, r4, r5, r6, (0), 0⟩ : Loc) (.inl ⟨rfl, hp, by show 33 < 34; decide⟩) (I_loc (mem := s.mem) (q := s.buf) hI ht (by rw [hx]; rfl) (by rw [hq, hgt, ← hme]; apply At.a33H04 <;> first | assumption | rfl | (simp_all; done))) (by rw [hx]; rfl) (by rw [hx]) (by rw [hx]; rfl)
  rw [show Loc.th (X T R).Lb _ = _ from th_of rfl] at key
  exact ⟨_, _, _, hst, key⟩
 case a32H14 g0 g1 g2 =>
  have hi := ins (i := ⟨1, 7, 0, 0, 0⟩) rfl
  rw [movI_plain (i := ⟨1, 7, 0, 0, 0⟩) rfl] at hi
  have hst := st_set hi
  have key := h.loc ht (⟨p, 33, r0, r1, r2, r3, r4, r5, r6, (0), 0⟩ : Loc) (.inl ⟨rfl, hp, by show 33 < 34; decide⟩) (I_loc (mem := s.mem) (q := s.buf) hI ht (by rw [hx]; rfl) (by rw [hq, hgt, ← hme]; apply At.a33H14 <;> first | assumption | rfl | (simp_all; done))) (by rw [hx]; rfl) (by rw [hx]) (by rw [hx]; rfl)
  rw [show Loc.th (X T R).Lb _ = _ from th_of rfl] at key
  exact ⟨_, _, _, hst, key⟩
 case a32H24 g0 g1 g2 =>
  have hi := ins (i := ⟨1, 7, 0, 0, 0⟩) rfl
  rw [movI_plain (i := ⟨1, 7, 0, 0, 0⟩) rfl] at hi
  have hst := st_set hi
  have key := h.loc ht (⟨p, 33, r0, r1, r2, r3, r4, r5, r6, (0), 0⟩ : Loc) (.inl ⟨rfl, hp, by show 33 < 34; decide⟩) (I_loc (mem := s.mem) (q := s.buf) hI ht (by rw [hx]; rfl) (by rw [hq, hgt, ← hme]; apply At.a33H24 <;> first | assumption | rfl | (simp_all; done))) (by rw [hx]; rfl) (by rw [hx]) (by rw [hx]; rfl)
  rw [show Loc.th (X T R).Lb _ = _ from th_of rfl] at key
  exact ⟨_, _, _, hst, key⟩
 case a32H34 g0 g1 g2 =>
  have hi := ins (i := ⟨1, 7, 0, 0, 0⟩) rfl
  rw [movI_plain (i := ⟨1, 7, 0, 0, 0⟩) rfl] at hi
  have hst := st_set hi
  have key := h.loc ht (⟨p, 33, r0, r1, r2, r3, r4, r5, r6, (0), 0⟩ : Loc) (.inl ⟨rfl, hp, by show 33 < 34; decide⟩) (I_loc (mem := s.mem) (q := s.buf) hI ht (by rw [hx]; rfl) (by rw [hq, hgt, ← hme]; apply At.a33H34 <;> first | assumption | rfl | (simp_all; done))) (by rw [hx]; rfl) (by rw [hx]) (by rw [hx]; rfl)
  rw [show Loc.th (X T R).Lb _ = _ from th_of rfl] at key
  exact ⟨_, _, _, hst, key⟩
 case a33F g0 g1 g2 =>
  have hi := ins (i := ⟨27, 7, 0, 0, 3⟩) rfl
  rw [movI_plain (i := ⟨27, 7, 0, 0, 3⟩) rfl] at hi
  have hmk := st_mark hi
  have hg := h.marked (t := t) ⟨7, 0, ((p * 34 + 33 : Nat) : Int), 0, r7, 0, 3, false⟩ rfl (.inr ⟨rfl, by assumption⟩)
  have key := hg.again ht (⟨p + 1, 0, r0, r1, r2, r3, r4, r5, r6, r7, 0⟩ : Loc) (by
   by_cases e : p + 1 < R
   ·exact .inl ⟨rfl, e, by show 0 < 34; decide⟩
   ·exact .inr ⟨by show p + 1 = R; omega, rfl, .inl rfl⟩) (I_loc hI ht (by rw [hx]; unfold drew; show ((p + 1 : Nat) : Int) + (if 8 < 0 then 1 else 0) = (p : Int) + (if 8 < 33 then 1 else 0); rw [if_neg (by decide), if_pos (by decide)]; omega) (show At ((t + 1 : Nat) : Int) (s.mem.getD 16 0) (s.mem.getD 17 0) (s.mem.getD 18 0) (s.mem.getD 0 0) _ _ _ _ _ _ _ _ (s.buf t) from by rw [hq, hgt, ← hme]; apply At.a0F <;> first | assumption | rfl | (simp_all; done))) (by rw [hx]; rfl) (by rw [hx]) (by rw [hx]; show 18 < 33; decide) rfl
  rw [show Loc.th (X T R).Lb _ = _ from th_last] at key
  exact ⟨_, _, _, hmk, key⟩
 case a33H04 g0 g1 g2 =>
  have hi := ins (i := ⟨27, 7, 0, 0, 3⟩) rfl
  rw [movI_plain (i := ⟨27, 7, 0, 0, 3⟩) rfl] at hi
  have hmk := st_mark hi
  have hg := h.marked (t := t) ⟨7, 0, ((p * 34 + 33 : Nat) : Int), 0, r7, 0, 3, false⟩ rfl (.inr ⟨rfl, by assumption⟩)
  have key := hg.again ht (⟨p + 1, 0, r0, r1, r2, r3, r4, r5, r6, r7, 0⟩ : Loc) (by
   by_cases e : p + 1 < R
   ·exact .inl ⟨rfl, e, by show 0 < 34; decide⟩
   ·exact .inr ⟨by show p + 1 = R; omega, rfl, .inl rfl⟩) (I_loc hI ht (by rw [hx]; unfold drew; show ((p + 1 : Nat) : Int) + (if 8 < 0 then 1 else 0) = (p : Int) + (if 8 < 33 then 1 else 0); rw [if_neg (by decide), if_pos (by decide)]; omega) (show At ((t + 1 : Nat) : Int) (s.mem.getD 16 0) (s.mem.getD 17 0) (s.mem.getD 18 0) (s.mem.getD 0 0) _ _ _ _ _ _ _ _ (s.buf t) from by rw [hq, hgt, ← hme]; apply At.a0H04 <;> first | assumption | rfl | (simp_all; done))) (by rw [hx]; rfl) (by rw [hx]) (by rw [hx]; show 18 < 33; decide) rfl
  rw [show Loc.th (X T R).Lb _ = _ from th_last] at key
  exact ⟨_, _, _, hmk, key⟩
 case a33H14 g0 g1 g2 g3 =>
  have hi := ins (i := ⟨27, 7, 0, 0, 3⟩) rfl
  rw [movI_plain (i := ⟨27, 7, 0, 0, 3⟩) rfl] at hi
  have hmk := st_mark hi
  have hg := h.marked (t := t) ⟨7, 0, ((p * 34 + 33 : Nat) : Int), 0, r7, 0, 3, false⟩ rfl (.inr ⟨rfl, by assumption⟩)
  have key := hg.again ht (⟨p + 1, 0, r0, r1, r2, r3, r4, r5, r6, r7, 0⟩ : Loc) (by
   by_cases e : p + 1 < R
   ·exact .inl ⟨rfl, e, by show 0 < 34; decide⟩
   ·exact .inr ⟨by show p + 1 = R; omega, rfl, .inl rfl⟩) (I_loc hI ht (by rw [hx]; unfold drew; show ((p + 1 : Nat) : Int) + (if 8 < 0 then 1 else 0) = (p : Int) + (if 8 < 33 then 1 else 0); rw [if_neg (by decide), if_pos (by decide)]; omega) (show At ((t + 1 : Nat) : Int) (s.mem.getD 16 0) (s.mem.getD 17 0) (s.mem.getD 18 0) (s.mem.getD 0 0) _ _ _ _ _ _ _ _ (s.buf t) from by rw [hq, hgt, ← hme]; apply At.a0H14 <;> first | assumption | rfl | (simp_all; done))) (by rw [hx]; rfl) (by rw [hx]) (by rw [hx]; show 18 < 33; decide) rfl
  rw [show Loc.th (X T R).Lb _ = _ from th_last] at key
  exact ⟨_, _, _, hmk, key⟩
 case a33H24 g0 g1 g2 g3 =>
  have hi := ins (i := ⟨27, 7, 0, 0, 3⟩) rfl
  rw [movI_plain (i := ⟨27, 7, 0, 0, 3⟩) rfl] at hi
  have hmk := st_mark hi
  have hg := h.marked (t := t) ⟨7, 0, ((p * 34 + 33 : Nat) : Int), 0, r7, 0, 3, false⟩ rfl (.inr ⟨rfl, by assumption⟩)
  have key := hg.again ht (⟨p + 1, 0, r0, r1, r2, r3, r4, r5, r6, r7, 0⟩ : Loc) (by
   by_cases e : p + 1 < R
   ·exact .inl ⟨rfl, e, by show 0 < 34; decide⟩
   ·exact .inr ⟨by show p + 1 = R; omega, rfl, .inl rfl⟩) (I_loc hI ht (by rw [hx]; unfold drew; show ((p + 1 : Nat) : Int) + (if 8 < 0 then 1 else 0) = (p : Int) + (if 8 < 33 then 1 else 0); rw [if_neg (by decide), if_pos (by decide)]; omega) (show At ((t + 1 : Nat) : Int) (s.mem.getD 16 0) (s.mem.getD 17 0) (s.mem.getD 18 0) (s.mem.getD 0 0) _ _ _ _ _ _ _ _ (s.buf t) from by rw [hq, hgt, ← hme]; apply At.a0H24 <;> first | assumption | rfl | (simp_all; done))) (by rw [hx]; rfl) (by rw [hx]) (by rw [hx]; show 18 < 33; decide) rfl
  rw [show Loc.th (X T R).Lb _ = _ from th_last] at key
  exact ⟨_, _, _, hmk, key⟩
 case a33H34 g0 g1 g2 g3 =>
  have hi := ins (i := ⟨27, 7, 0, 0, 3⟩) rfl
  rw [movI_plain (i := ⟨27, 7, 0, 0, 3⟩) rfl] at hi
  have hmk := st_mark hi
  have hg := h.marked (t := t) ⟨7, 0, ((p * 34 + 33 : Nat) : Int), 0, r7, 0, 3, false⟩ rfl (.inr ⟨rfl, by assumption⟩)
  have key := hg.again ht (⟨p + 1, 0, r0, r1, r2, r3, r4, r5, r6, r7, 0⟩ : Loc) (by
   by_cases e : p + 1 < R
   ·exact .inl ⟨rfl, e, by show 0 < 34; decide⟩
   ·exact .inr ⟨by show p + 1 = R; omega, rfl, .inl rfl⟩) (I_loc hI ht (by rw [hx]; unfold drew; show ((p + 1 : Nat) : Int) + (if 8 < 0 then 1 else 0) = (p : Int) + (if 8 < 33 then 1 else 0); rw [if_neg (by decide), if_pos (by decide)]; omega) (show At ((t + 1 : Nat) : Int) (s.mem.getD 16 0) (s.mem.getD 17 0) (s.mem.getD 18 0) (s.mem.getD 0 0) _ _ _ _ _ _ _ _ (s.buf t) from by rw [hq, hgt, ← hme]; apply At.a0H34 <;> first | assumption | rfl | (simp_all; done))) (by rw [hx]; rfl) (by rw [hx]) (by rw [hx]; show 18 < 33; decide) rfl
  rw [show Loc.th (X T R).Lb _ = _ from th_last] at key
  exact ⟨_, _, _, hmk, key⟩
theorem run (hT : T ≤ 8) (hR : R ≤ 100) (hc : ∀ t, t < T → codes[t]? = some (codeT R t)) (l : List (Nat × Nat)) (h : (X T R).Inv s f i) : ∃ s', Ts.run codes s l = some s' ∧ ∃ f' i', (X T R).Inv s' f' i' :=
 Lk.run codes (fun t ht => ⟨_, hc t ht, code_len R t⟩)
  (fun s f i t h ht => by
   obtain ⟨g, hI⟩ := h.I
   exact I_loc (x := { f t with st := 2 }) hI ht rfl (hI.hat t ht))
  (fun s f i t h ht h0 hp hj => step h ht hT hR (hc t ht) h0 hp hj) (fun s f i t h ht => flush h ht hT hR) l s f i h
end
end Go.Proofs.YtckmkaeopnnbbaaGreatDoor.As.Tick
