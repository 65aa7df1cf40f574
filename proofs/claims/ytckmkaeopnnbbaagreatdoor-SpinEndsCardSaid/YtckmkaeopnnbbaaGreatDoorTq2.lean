/- Plain Lean: a lock that is looked at first: one at a time. No program in sight. -/
import Derived.Test.YtckmkaeopnnbbaaGreatDoorGl
import Derived.Test.YtckmkaeopnnbbaaGreatDoorGo
set_option linter.unusedVariables false
set_option linter.unusedSimpArgs false
namespace Go.Proofs.YtckmkaeopnnbbaaGreatDoor.As.Ttas

def base (me : Int) : List Ins := [⟨27, 7, 0, 0, 0⟩, ⟨16, 4, 8, 0, 16⟩, ⟨1, 5, 0, 0, me⟩, ⟨12, 6, 4, 5, 0⟩, ⟨14, 6, 0, 0, 7⟩, ⟨1, 7, 0, 0, 1⟩, ⟨13, 0, 0, 0, 12⟩, ⟨16, 4, 8, 0, 16⟩, ⟨15, 4, 0, 0, 7⟩, ⟨21, 4, 8, 5, 16⟩, ⟨15, 4, 0, 0, 7⟩, ⟨1, 7, 0, 0, 0⟩, ⟨27, 7, 0, 0, 1⟩, ⟨16, 1, 8, 0, 0⟩, ⟨1, 2, 0, 0, 1⟩, ⟨3, 1, 1, 2, 0⟩, ⟨17, 1, 8, 0, 0⟩, ⟨27, 7, 0, 0, 2⟩, ⟨16, 4, 8, 0, 16⟩, ⟨1, 5, 0, 0, me⟩, ⟨12, 6, 4, 5, 0⟩, ⟨15, 6, 0, 0, 24⟩, ⟨1, 7, 0, 0, 2⟩, ⟨13, 0, 0, 0, 27⟩, ⟨1, 4, 0, 0, 0⟩, ⟨17, 4, 8, 0, 16⟩, ⟨1, 7, 0, 0, 0⟩, ⟨27, 7, 0, 0, 3⟩]
theorem base_eq (t : Nat) : baseR (resL (linTtas 16 t)) (resL (linRel 16 t)) = base ((t + 1 : Nat) : Int) := by
 have e1 : resL (linTtas 16 t) = [⟨16, 4, 8, 0, 16⟩, ⟨1, 5, 0, 0, ((t + 1 : Nat) : Int)⟩, ⟨12, 6, 4, 5, 0⟩, ⟨14, 6, 0, 0, 6⟩, ⟨1, 7, 0, 0, 1⟩, ⟨13, 0, 0, 0, 11⟩, ⟨16, 4, 8, 0, 16⟩, ⟨15, 4, 0, 0, 6⟩, ⟨21, 4, 8, 5, 16⟩, ⟨15, 4, 0, 0, 6⟩, ⟨1, 7, 0, 0, 0⟩] := rfl
 have e2 : resL (linRel 16 t) = [⟨16, 4, 8, 0, 16⟩, ⟨1, 5, 0, 0, ((t + 1 : Nat) : Int)⟩, ⟨12, 6, 4, 5, 0⟩, ⟨15, 6, 0, 0, 6⟩, ⟨1, 7, 0, 0, 2⟩, ⟨13, 0, 0, 0, 9⟩, ⟨1, 4, 0, 0, 0⟩, ⟨17, 4, 8, 0, 16⟩, ⟨1, 7, 0, 0, 0⟩] := rfl
 rw [e1, e2, baseR_eq]
 simp [base, incR, movI, jumps, wr32]
def codeT (R t : Nat) : List Ins := roundsR (resL (linTtas 16 t)) (resL (linRel 16 t)) R []
theorem code_len (R t : Nat) : (codeT R t).length = R * 28 := by
 unfold codeT
 rw [roundsR_len, base_eq]; simp [base]
theorem code_get (R t p j : Nat) (hp : p < R) (hj : j < 28) : (codeT R t)[p * 28 + j]? = ((base ((t + 1 : Nat) : Int))[j]?).map (movI (p * 28)) := by
 have h := roundsR_get (resL (linTtas 16 t)) (resL (linRel 16 t)) R [] p j hp (by rw [base_eq]; exact hj)
 rw [base_eq] at h
 have e : ([] : List Ins).length + p * (base ((t + 1 : Nat) : Int)).length = p * 28 := by rw [List.length_nil, Nat.zero_add]; rfl
 rw [e] at h
 exact h
inductive At (me ow c : Int) : Nat → Int → Int → Int → Int → Int → Int → List (Nat × Int) → Prop
 | a0F {r1 r2 r4 r5 r6 r7 : Int} (h0 : ow ≠ me) : At me ow c 0 r1 r2 r4 r5 r6 r7 []
 | a0R1 {r1 r2 r4 r5 r6 r7 : Int} (h0 : ow = me) : At me ow c 0 r1 r2 r4 r5 r6 r7 [(16, 0)]
 | a0R2 {r1 r2 r4 r5 r6 r7 : Int} (h0 : ow = me) : At me ow c 0 r1 r2 r4 r5 r6 r7 [(0, wr32 (c + 1)), (16, 0)]
 | a1F {r1 r2 r4 r5 r6 r7 : Int} (h0 : ow ≠ me) : At me ow c 1 r1 r2 r4 r5 r6 r7 []
 | a1R1 {r1 r2 r4 r5 r6 r7 : Int} (h0 : ow = me) : At me ow c 1 r1 r2 r4 r5 r6 r7 [(16, 0)]
 | a1R2 {r1 r2 r4 r5 r6 r7 : Int} (h0 : ow = me) : At me ow c 1 r1 r2 r4 r5 r6 r7 [(0, wr32 (c + 1)), (16, 0)]
 | a2F {r1 r2 r4 r5 r6 r7 : Int} (h0 : ow ≠ me) (h1 : r4 ≠ me) : At me ow c 2 r1 r2 r4 r5 r6 r7 []
 | a2R1 {r1 r2 r4 r5 r6 r7 : Int} (h0 : ow = me) (h1 : r4 ≠ me) : At me ow c 2 r1 r2 r4 r5 r6 r7 [(16, 0)]
 | a2R2 {r1 r2 r4 r5 r6 r7 : Int} (h0 : ow = me) (h1 : r4 ≠ me) : At me ow c 2 r1 r2 r4 r5 r6 r7 [(0, wr32 (c + 1)), (16, 0)]
 | a3F {r1 r2 r4 r5 r6 r7 : Int} (h0 : ow ≠ me) (h1 : r4 ≠ me) (h2 : r5 = me) : At me ow c 3 r1 r2 r4 r5 r6 r7 []
 | a3R1 {r1 r2 r4 r5 r6 r7 : Int} (h0 : ow = me) (h1 : r4 ≠ me) (h2 : r5 = me) : At me ow c 3 r1 r2 r4 r5 r6 r7 [(16, 0)]
 | a3R2 {r1 r2 r4 r5 r6 r7 : Int} (h0 : ow = me) (h1 : r4 ≠ me) (h2 : r5 = me) : At me ow c 3 r1 r2 r4 r5 r6 r7 [(0, wr32 (c + 1)), (16, 0)]
 | a4F {r1 r2 r4 r5 r6 r7 : Int} (h0 : ow ≠ me) (h1 : r5 = me) (h2 : r6 = 0) : At me ow c 4 r1 r2 r4 r5 r6 r7 []
 | a4R1 {r1 r2 r4 r5 r6 r7 : Int} (h0 : ow = me) (h1 : r5 = me) (h2 : r6 = 0) : At me ow c 4 r1 r2 r4 r5 r6 r7 [(16, 0)]
 | a4R2 {r1 r2 r4 r5 r6 r7 : Int} (h0 : ow = me) (h1 : r5 = me) (h2 : r6 = 0) : At me ow c 4 r1 r2 r4 r5 r6 r7 [(0, wr32 (c + 1)), (16, 0)]
 | a7F {r1 r2 r4 r5 r6 r7 : Int} (h0 : ow ≠ me) (h1 : r5 = me) : At me ow c 7 r1 r2 r4 r5 r6 r7 []
 | a7R1 {r1 r2 r4 r5 r6 r7 : Int} (h0 : ow = me) (h1 : r5 = me) : At me ow c 7 r1 r2 r4 r5 r6 r7 [(16, 0)]
 | a7R2 {r1 r2 r4 r5 r6 r7 : Int} (h0 : ow = me) (h1 : r5 = me) : At me ow c 7 r1 r2 r4 r5 r6 r7 [(0, wr32 (c + 1)), (16, 0)]
 | a8F {r1 r2 r4 r5 r6 r7 : Int} (h0 : ow ≠ me) (h1 : r5 = me) : At me ow c 8 r1 r2 r4 r5 r6 r7 []
 | a8R1 {r1 r2 r4 r5 r6 r7 : Int} (h0 : ow = me) (h1 : r5 = me) : At me ow c 8 r1 r2 r4 r5 r6 r7 [(16, 0)]
 | a8R2 {r1 r2 r4 r5 r6 r7 : Int} (h0 : ow = me) (h1 : r5 = me) : At me ow c 8 r1 r2 r4 r5 r6 r7 [(0, wr32 (c + 1)), (16, 0)]
 | a9F {r1 r2 r4 r5 r6 r7 : Int} (h0 : ow ≠ me) (h1 : r5 = me) (h2 : r4 = 0) : At me ow c 9 r1 r2 r4 r5 r6 r7 []
 | a9R1 {r1 r2 r4 r5 r6 r7 : Int} (h0 : ow = me) (h1 : r5 = me) (h2 : r4 = 0) : At me ow c 9 r1 r2 r4 r5 r6 r7 [(16, 0)]
 | a9R2 {r1 r2 r4 r5 r6 r7 : Int} (h0 : ow = me) (h1 : r5 = me) (h2 : r4 = 0) : At me ow c 9 r1 r2 r4 r5 r6 r7 [(0, wr32 (c + 1)), (16, 0)]
 | a10F {r1 r2 r4 r5 r6 r7 : Int} (h0 : ow ≠ me) (h1 : r4 ≠ 0) (h2 : r5 = me) : At me ow c 10 r1 r2 r4 r5 r6 r7 []
 | a10O {r1 r2 r4 r5 r6 r7 : Int} (h0 : ow = me) (h1 : r4 = 0) : At me ow c 10 r1 r2 r4 r5 r6 r7 []
 | a11O {r1 r2 r4 r5 r6 r7 : Int} (h0 : ow = me) : At me ow c 11 r1 r2 r4 r5 r6 r7 []
 | a12O {r1 r2 r4 r5 r6 r7 : Int} (h0 : ow = me) (h1 : r7 = 0) : At me ow c 12 r1 r2 r4 r5 r6 r7 []
 | a13O {r1 r2 r4 r5 r6 r7 : Int} (h0 : ow = me) : At me ow c 13 r1 r2 r4 r5 r6 r7 []
 | a14O {r1 r2 r4 r5 r6 r7 : Int} (h0 : ow = me) (h1 : r1 = c) : At me ow c 14 r1 r2 r4 r5 r6 r7 []
 | a15O {r1 r2 r4 r5 r6 r7 : Int} (h0 : ow = me) (h1 : r1 = c) (h2 : r2 = 1) : At me ow c 15 r1 r2 r4 r5 r6 r7 []
 | a16O {r1 r2 r4 r5 r6 r7 : Int} (h0 : ow = me) (h1 : r1 = wr32 (c + 1)) : At me ow c 16 r1 r2 r4 r5 r6 r7 []
 | a17O {r1 r2 r4 r5 r6 r7 : Int} (h0 : ow = me) : At me ow c 17 r1 r2 r4 r5 r6 r7 []
 | a17P {r1 r2 r4 r5 r6 r7 : Int} (h0 : ow = me) : At me ow c 17 r1 r2 r4 r5 r6 r7 [(0, wr32 (c + 1))]
 | a18O {r1 r2 r4 r5 r6 r7 : Int} (h0 : ow = me) : At me ow c 18 r1 r2 r4 r5 r6 r7 []
 | a18P {r1 r2 r4 r5 r6 r7 : Int} (h0 : ow = me) : At me ow c 18 r1 r2 r4 r5 r6 r7 [(0, wr32 (c + 1))]
 | a19O {r1 r2 r4 r5 r6 r7 : Int} (h0 : ow = me) (h1 : r4 = me) : At me ow c 19 r1 r2 r4 r5 r6 r7 []
 | a19P {r1 r2 r4 r5 r6 r7 : Int} (h0 : ow = me) (h1 : r4 = me) : At me ow c 19 r1 r2 r4 r5 r6 r7 [(0, wr32 (c + 1))]
 | a20O {r1 r2 r4 r5 r6 r7 : Int} (h0 : ow = me) (h1 : r4 = me) (h2 : r5 = me) : At me ow c 20 r1 r2 r4 r5 r6 r7 []
 | a20P {r1 r2 r4 r5 r6 r7 : Int} (h0 : ow = me) (h1 : r4 = me) (h2 : r5 = me) : At me ow c 20 r1 r2 r4 r5 r6 r7 [(0, wr32 (c + 1))]
 | a21O {r1 r2 r4 r5 r6 r7 : Int} (h0 : ow = me) (h1 : r6 = 1) : At me ow c 21 r1 r2 r4 r5 r6 r7 []
 | a21P {r1 r2 r4 r5 r6 r7 : Int} (h0 : ow = me) (h1 : r6 = 1) : At me ow c 21 r1 r2 r4 r5 r6 r7 [(0, wr32 (c + 1))]
 | a24O {r1 r2 r4 r5 r6 r7 : Int} (h0 : ow = me) : At me ow c 24 r1 r2 r4 r5 r6 r7 []
 | a24P {r1 r2 r4 r5 r6 r7 : Int} (h0 : ow = me) : At me ow c 24 r1 r2 r4 r5 r6 r7 [(0, wr32 (c + 1))]
 | a25O {r1 r2 r4 r5 r6 r7 : Int} (h0 : ow = me) (h1 : r4 = 0) : At me ow c 25 r1 r2 r4 r5 r6 r7 []
 | a25P {r1 r2 r4 r5 r6 r7 : Int} (h0 : ow = me) (h1 : r4 = 0) : At me ow c 25 r1 r2 r4 r5 r6 r7 [(0, wr32 (c + 1))]
 | a26F {r1 r2 r4 r5 r6 r7 : Int} (h0 : ow ≠ me) : At me ow c 26 r1 r2 r4 r5 r6 r7 []
 | a26R1 {r1 r2 r4 r5 r6 r7 : Int} (h0 : ow = me) : At me ow c 26 r1 r2 r4 r5 r6 r7 [(16, 0)]
 | a26R2 {r1 r2 r4 r5 r6 r7 : Int} (h0 : ow = me) : At me ow c 26 r1 r2 r4 r5 r6 r7 [(0, wr32 (c + 1)), (16, 0)]
 | a27F {r1 r2 r4 r5 r6 r7 : Int} (h0 : ow ≠ me) (h1 : r7 = 0) : At me ow c 27 r1 r2 r4 r5 r6 r7 []
 | a27R1 {r1 r2 r4 r5 r6 r7 : Int} (h0 : ow = me) (h1 : r7 = 0) : At me ow c 27 r1 r2 r4 r5 r6 r7 [(16, 0)]
 | a27R2 {r1 r2 r4 r5 r6 r7 : Int} (h0 : ow = me) (h1 : r7 = 0) : At me ow c 27 r1 r2 r4 r5 r6 r7 [(0, wr32 (c + 1)), (16, 0)]
def inR (j : Nat) : Bool := decide (13 ≤ j) && decide (j ≤ 17)
theorem At.other {me ow c ow' c' r1 r2 r4 r5 r6 r7 : Int} {j : Nat} {q : List (Nat × Int)} (h : At me ow c j r1 r2 r4 r5 r6 r7 q) (h1 : ow ≠ me) (h2 : ow' ≠ me) : At me ow' c' j r1 r2 r4 r5 r6 r7 q := by
 cases h
 case a0F g0 => exact At.a0F h2 
 case a0R1 g0 => exact absurd (by assumption) h1
 case a0R2 g0 => exact absurd (by assumption) h1
 case a1F g0 => exact At.a1F h2 
 case a1R1 g0 => exact absurd (by assumption) h1
 case a1R2 g0 => exact absurd (by assumption) h1
 case a2F g0 g1 => exact At.a2F h2 (by assumption)
 case a2R1 g0 g1 => exact absurd (by assumption) h1
 case a2R2 g0 g1 => exact absurd (by assumption) h1
 case a3F g0 g1 g2 => exact At.a3F h2 (by assumption) (by assumption)
 case a3R1 g0 g1 g2 => exact absurd (by assumption) h1
 case a3R2 g0 g1 g2 => exact absurd (by assumption) h1
 case a4F g0 g1 g2 => exact At.a4F h2 (by assumption) (by assumption)
 case a4R1 g0 g1 g2 => exact absurd (by assumption) h1
 case a4R2 g0 g1 g2 => exact absurd (by assumption) h1
 case a7F g0 g1 => exact At.a7F h2 (by assumption)
 case a7R1 g0 g1 => exact absurd (by assumption) h1
 case a7R2 g0 g1 => exact absurd (by assumption) h1
 case a8F g0 g1 => exact At.a8F h2 (by assumption)
 case a8R1 g0 g1 => exact absurd (by assumption) h1
 case a8R2 g0 g1 => exact absurd (by assumption) h1
 case a9F g0 g1 g2 => exact At.a9F h2 (by assumption) (by assumption)
 case a9R1 g0 g1 g2 => exact absurd (by assumption) h1
 case a9R2 g0 g1 g2 => exact absurd (by assumption) h1
 case a10F g0 g1 g2 => exact At.a10F h2 (by assumption) (by assumption)
 case a10O g0 g1 => exact absurd (by assumption) h1
 case a11O g0 => exact absurd (by assumption) h1
 case a12O g0 g1 => exact absurd (by assumption) h1
 case a13O g0 => exact absurd (by assumption) h1
 case a14O g0 g1 => exact absurd (by assumption) h1
 case a15O g0 g1 g2 => exact absurd (by assumption) h1
 case a16O g0 g1 => exact absurd (by assumption) h1
 case a17O g0 => exact absurd (by assumption) h1
 case a17P g0 => exact absurd (by assumption) h1
 case a18O g0 => exact absurd (by assumption) h1
 case a18P g0 => exact absurd (by assumption) h1
 case a19O g0 g1 => exact absurd (by assumption) h1
 case a19P g0 g1 => exact absurd (by assumption) h1
 case a20O g0 g1 g2 => exact absurd (by assumption) h1
 case a20P g0 g1 g2 => exact absurd (by assumption) h1
 case a21O g0 g1 => exact absurd (by assumption) h1
 case a21P g0 g1 => exact absurd (by assumption) h1
 case a24O g0 => exact absurd (by assumption) h1
 case a24P g0 => exact absurd (by assumption) h1
 case a25O g0 g1 => exact absurd (by assumption) h1
 case a25P g0 g1 => exact absurd (by assumption) h1
 case a26F g0 => exact At.a26F h2 
 case a26R1 g0 => exact absurd (by assumption) h1
 case a26R2 g0 => exact absurd (by assumption) h1
 case a27F g0 g1 => exact At.a27F h2 (by assumption)
 case a27R1 g0 g1 => exact absurd (by assumption) h1
 case a27R2 g0 g1 => exact absurd (by assumption) h1
theorem At.notin {me ow c r1 r2 r4 r5 r6 r7 : Int} {j : Nat} {q : List (Nat × Int)} (h : At me ow c j r1 r2 r4 r5 r6 r7 q) (h1 : ow ≠ me) : inR j = false := by
 cases h <;> first | rfl | contradiction
def X (T R : Nat) : Lk := ⟨28, R, T, 17, inR, 16, fun mem f q => ∀ t, t < T → At ((t + 1 : Nat) : Int) (mem.getD 16 0) (mem.getD 0 0) (f t).j (f t).r1 (f t).r2 (f t).r4 (f t).r5 (f t).r6 (f t).r7 (q t)⟩
theorem I_put {T R t : Nat} {mem mem' : List Int} {f : Nat → Loc} {q : Nat → List (Nat × Int)} {x : Loc} {q' : List (Nat × Int)} (h : (X T R).I mem f q) (ho : ∀ u, u < T → u ≠ t → At ((u + 1 : Nat) : Int) (mem.getD 16 0) (mem.getD 0 0) (f u).j (f u).r1 (f u).r2 (f u).r4 (f u).r5 (f u).r6 (f u).r7 (q u) → At ((u + 1 : Nat) : Int) (mem'.getD 16 0) (mem'.getD 0 0) (f u).j (f u).r1 (f u).r2 (f u).r4 (f u).r5 (f u).r6 (f u).r7 (q u)) (hx : At ((t + 1 : Nat) : Int) (mem'.getD 16 0) (mem'.getD 0 0) x.j x.r1 x.r2 x.r4 x.r5 x.r6 x.r7 q') : (X T R).I mem' (upF f t x) (upF q t q') := by
 intro u hu
 by_cases e : u = t
 ·subst e; rw [upF_self, upF_self]; exact hx
 ·rw [upF_ne _ _ e, upF_ne _ _ e]; exact ho u hu e (h u hu)
theorem I_loc {T R t : Nat} {mem : List Int} {f : Nat → Loc} {q : Nat → List (Nat × Int)} {x : Loc} (h : (X T R).I mem f q) (hx : At ((t + 1 : Nat) : Int) (mem.getD 16 0) (mem.getD 0 0) x.j x.r1 x.r2 x.r4 x.r5 x.r6 x.r7 (q t)) : (X T R).I mem (upF f t x) q := by
 have := I_put (q' := q t) h (fun _ _ _ h => h) hx
 rwa [upF_id] at this
section
variable {T R t : Nat} {codes : List (List Ins)} {s : Ts} {f : Nat → Loc} {i : Int}
theorem get_set {l : List Int} {a b : Nat} {v : Int} (h : a < l.length) : (l.set a v).getD b 0 = if a = b then v else l.getD b 0 := by
 rw [List.getD_eq_getElem?_getD, List.getElem?_set]
 by_cases e : a = b
 ·subst e; rw [if_pos rfl, if_pos rfl, if_pos h]; rfl
 ·rw [if_neg e, if_neg e, ← List.getD_eq_getElem?_getD]
theorem own_buf {me ow c r1 r2 r4 r5 r6 r7 : Int} {j : Nat} {e : Nat × Int} {r : List (Nat × Int)} (h : At me ow c j r1 r2 r4 r5 r6 r7 (e :: r)) (hme : 0 < me) : ow = me ∧ ((e.1 = 0 ∧ e.2 = wr32 (c + 1) ∧ ∀ c', At me ow c' j r1 r2 r4 r5 r6 r7 r) ∨ (e.1 = 16 ∧ e.2 = 0 ∧ At me 0 c j r1 r2 r4 r5 r6 r7 r)) := by
 cases h
 case a0R1 g0 => exact ⟨by assumption, .inr ⟨rfl, rfl, At.a0F (by omega) ⟩⟩
 case a0R2 g0 => exact ⟨by assumption, .inl ⟨rfl, rfl, fun c' => At.a0R1 (by assumption) ⟩⟩
 case a1R1 g0 => exact ⟨by assumption, .inr ⟨rfl, rfl, At.a1F (by omega) ⟩⟩
 case a1R2 g0 => exact ⟨by assumption, .inl ⟨rfl, rfl, fun c' => At.a1R1 (by assumption) ⟩⟩
 case a2R1 g0 g1 => exact ⟨by assumption, .inr ⟨rfl, rfl, At.a2F (by omega) (by assumption)⟩⟩
 case a2R2 g0 g1 => exact ⟨by assumption, .inl ⟨rfl, rfl, fun c' => At.a2R1 (by assumption) (by assumption)⟩⟩
 case a3R1 g0 g1 g2 => exact ⟨by assumption, .inr ⟨rfl, rfl, At.a3F (by omega) (by assumption) (by assumption)⟩⟩
 case a3R2 g0 g1 g2 => exact ⟨by assumption, .inl ⟨rfl, rfl, fun c' => At.a3R1 (by assumption) (by assumption) (by assumption)⟩⟩
 case a4R1 g0 g1 g2 => exact ⟨by assumption, .inr ⟨rfl, rfl, At.a4F (by omega) (by assumption) (by assumption)⟩⟩
 case a4R2 g0 g1 g2 => exact ⟨by assumption, .inl ⟨rfl, rfl, fun c' => At.a4R1 (by assumption) (by assumption) (by assumption)⟩⟩
 case a7R1 g0 g1 => exact ⟨by assumption, .inr ⟨rfl, rfl, At.a7F (by omega) (by assumption)⟩⟩
 case a7R2 g0 g1 => exact ⟨by assumption, .inl ⟨rfl, rfl, fun c' => At.a7R1 (by assumption) (by assumption)⟩⟩
 case a8R1 g0 g1 => exact ⟨by assumption, .inr ⟨rfl, rfl, At.a8F (by omega) (by assumption)⟩⟩
 case a8R2 g0 g1 => exact ⟨by assumption, .inl ⟨rfl, rfl, fun c' => At.a8R1 (by assumption) (by assumption)⟩⟩
 case a9R1 g0 g1 g2 => exact ⟨by assumption, .inr ⟨rfl, rfl, At.a9F (by omega) (by assumption) (by assumption)⟩⟩
 case a9R2 g0 g1 g2 => exact ⟨by assumption, .inl ⟨rfl, rfl, fun c' => At.a9R1 (by assumption) (by assumption) (by assumption)⟩⟩
 case a17P g0 => exact ⟨by assumption, .inl ⟨rfl, rfl, fun c' => At.a17O (by assumption) ⟩⟩
 case a18P g0 => exact ⟨by assumption, .inl ⟨rfl, rfl, fun c' => At.a18O (by assumption) ⟩⟩
 case a19P g0 g1 => exact ⟨by assumption, .inl ⟨rfl, rfl, fun c' => At.a19O (by assumption) (by assumption)⟩⟩
 case a20P g0 g1 g2 => exact ⟨by assumption, .inl ⟨rfl, rfl, fun c' => At.a20O (by assumption) (by assumption) (by assumption)⟩⟩
 case a21P g0 g1 => exact ⟨by assumption, .inl ⟨rfl, rfl, fun c' => At.a21O (by assumption) (by assumption)⟩⟩
 case a24P g0 => exact ⟨by assumption, .inl ⟨rfl, rfl, fun c' => At.a24O (by assumption) ⟩⟩
 case a25P g0 g1 => exact ⟨by assumption, .inl ⟨rfl, rfl, fun c' => At.a25O (by assumption) (by assumption)⟩⟩
 case a26R1 g0 => exact ⟨by assumption, .inr ⟨rfl, rfl, At.a26F (by omega) ⟩⟩
 case a26R2 g0 => exact ⟨by assumption, .inl ⟨rfl, rfl, fun c' => At.a26R1 (by assumption) ⟩⟩
 case a27R1 g0 g1 => exact ⟨by assumption, .inr ⟨rfl, rfl, At.a27F (by omega) (by assumption)⟩⟩
 case a27R2 g0 g1 => exact ⟨by assumption, .inl ⟨rfl, rfl, fun c' => At.a27R1 (by assumption) (by assumption)⟩⟩
theorem flush (h : (X T R).Inv s f i) (ht : t < T) : (X T R).Inv (s.flush t) f i := by
 refine h.flushed ht (fun e r hq => ?_)
 have hat := h.I t ht
 rw [hq] at hat
 obtain ⟨how, hc⟩ := own_buf hat (by omega)
 have hnm : s.mem.length = 17 := h.nm
 rcases hc with ⟨e0, e1, hr⟩ | ⟨e0, e1, hr⟩
 ·refine ⟨?_, .inr ⟨e0, by show 0 < 17; decide, e1⟩⟩
  have m0 : (s.mem.set e.1 e.2).getD 16 0 = s.mem.getD 16 0 := by rw [get_set (by omega), if_neg (by omega)]
  have := I_put (t := t) (x := f t) (mem' := s.mem.set e.1 e.2) (q' := r) h.I (fun u hu hne hu2 => by
   rw [m0]
   exact hu2.other (by rw [how]; omega) (by rw [how]; omega)) (by rw [m0]; exact hr _)
  rwa [upF_id] at this
 ·refine ⟨?_, .inl (by omega)⟩
  have m0 : (s.mem.set e.1 e.2).getD 16 0 = 0 := by rw [get_set (by omega), if_pos (by omega), e1]
  have m1 : (s.mem.set e.1 e.2).getD 0 0 = s.mem.getD 0 0 := by rw [get_set (by omega), if_neg (by omega)]
  have := I_put (t := t) (x := f t) (mem' := s.mem.set e.1 e.2) (q' := r) h.I (fun u hu hne hu2 => by
   rw [m0, m1]
   exact hu2.other (by rw [how]; omega) (by omega)) (by rw [m0, m1]; exact hr)
  rwa [upF_id] at this
theorem at_ins {p j : Nat} {r0 r1 r2 r3 r4 r5 r6 r7 : Int} (hc : codes[t]? = some (codeT R t)) (hs : s.ths[t]? = some (Loc.th 28 ⟨p, j, r0, r1, r2, r3, r4, r5, r6, r7, 0⟩)) (hp : p < R) (hj : j < 28) {i : Ins} (hi : (base ((t + 1 : Nat) : Int))[j]? = some i) : AtI codes s t ⟨((p * 28 + j : Nat) : Int), [r0, r1, r2, r3, r4, r5, r6, r7], 0⟩ (movI (p * 28) i) := by
 refine ⟨hs, ⟨codeT R t, hc, ?_⟩, rfl, by show (0 : Int) ≤ ((p * 28 + j : Nat) : Int); omega⟩
 show (codeT R t)[((p * 28 + j : Nat) : Int).toNat]? = _
 rw [Int.toNat_natCast, code_get R t p j hp hj, hi]; rfl
theorem th_of {p j j' : Nat} {r0 r1 r2 r3 r4 r5 r6 r7 st : Int} (e : j' = j + 1) : Loc.th 28 ⟨p, j', r0, r1, r2, r3, r4, r5, r6, r7, st⟩ = ⟨((p * 28 + j : Nat) : Int) + 1, [r0, r1, r2, r3, r4, r5, r6, r7], st⟩ := by
 subst e; unfold Loc.th; congr 1
theorem th_jmp {p k : Nat} {r0 r1 r2 r3 r4 r5 r6 r7 st : Int} (hp : p ≤ 100) (hk : k < 28) : Loc.th 28 ⟨p, k, r0, r1, r2, r3, r4, r5, r6, r7, st⟩ = ⟨wr32 ((k : Int) + ((p * 28 : Nat) : Int)), [r0, r1, r2, r3, r4, r5, r6, r7], st⟩ := by
 unfold Loc.th
 have : wr32 ((k : Int) + ((p * 28 : Nat) : Int)) = ((p * 28 + k : Nat) : Int) := by unfold wr32; omega
 rw [this]
theorem th_last {p : Nat} {r0 r1 r2 r3 r4 r5 r6 r7 st : Int} : Loc.th 28 ⟨p + 1, 0, r0, r1, r2, r3, r4, r5, r6, r7, st⟩ = ⟨((p * 28 + 27 : Nat) : Int) + 1, [r0, r1, r2, r3, r4, r5, r6, r7], st⟩ := by
 unfold Loc.th; congr 1; show (((p + 1) * 28 + 0 : Nat) : Int) = _; omega
theorem load_q {q : List (Nat × Int)} (hq : s.buf t = q) (a : Nat) : s.load t a = (lastQ q a).getD (s.mem.getD a 0) := by unfold Ts.load; rw [hq]
theorem empty_q {q : List (Nat × Int)} (hq : s.buf t = q) : s.empty t = decide (q.length = 0) := by unfold Ts.empty; rw [hq]
set_option maxHeartbeats 4000000 in
theorem step (h : (X T R).Inv s f i) (ht : t < T) (hR : R ≤ 100) (hc : codes[t]? = some (codeT R t)) (h0 : (f t).st = 0) (hp : (f t).p < R) (hj : (f t).j < 28) : ∃ s' f' i', s.stepT codes t = some s' ∧ (X T R).Inv s' f' i' := by
 obtain ⟨x, hx⟩ : ∃ x, f t = x := ⟨_, rfl⟩
 have hat := h.I t ht
 have hs := h.hs t ht
 have hnm : s.mem.length = 17 := h.nm
 rw [hx] at hat hs h0 hp hj
 obtain ⟨p, j, r0, r1, r2, r3, r4, r5, r6, r7, st⟩ := x
 dsimp only at hat h0 hp hj
 subst h0
 generalize hq : s.buf t = q at hat
 obtain ⟨me, hme⟩ : ∃ me : Int, me = ((t + 1 : Nat) : Int) := ⟨_, rfl⟩
 have hme0 : 0 < me := by omega
 have hmu : ∀ u : Nat, u ≠ t → ((u + 1 : Nat) : Int) ≠ me := fun u hu => by omega
 have hI := h.I
 rw [← hme] at hat
 have ins := fun {i : Ins} (hi : (base me)[j]? = some i) => at_ins (R := R) (i := i) hc hs hp hj (by rw [← hme]; exact hi)
 cases hat
 case a0F g0 =>
  have hi := ins (i := ⟨27, 7, 0, 0, 0⟩) rfl
  rw [movI_plain (i := ⟨27, 7, 0, 0, 0⟩) rfl] at hi
  have hmk := st_mark hi
  have hg := h.marked (t := t) ⟨7, 0, ((p * 28 + 0 : Nat) : Int), 0, r7, 0, 0, false⟩ rfl (.inl rfl)
  have key := hg.loc ht (⟨p, 1, r0, r1, r2, r3, r4, r5, r6, r7, 0⟩ : Loc) (.inl ⟨rfl, hp, by show 1 < 28; decide⟩) (I_loc (mem := s.mem) (q := s.buf) hI (by rw [hq, ← hme]; exact (At.a1F (by first | assumption | rfl | (simp_all; done))))) (by rw [hx]; rfl) (by rw [hx]) (by rw [hx]; rfl)
  rw [show Loc.th (X T R).Lb _ = _ from th_of rfl] at key
  exact ⟨_, _, _, hmk, key⟩
 case a0R1 g0 =>
  have hi := ins (i := ⟨27, 7, 0, 0, 0⟩) rfl
  rw [movI_plain (i := ⟨27, 7, 0, 0, 0⟩) rfl] at hi
  have hmk := st_mark hi
  have hg := h.marked (t := t) ⟨7, 0, ((p * 28 + 0 : Nat) : Int), 0, r7, 0, 0, false⟩ rfl (.inl rfl)
  have key := hg.loc ht (⟨p, 1, r0, r1, r2, r3, r4, r5, r6, r7, 0⟩ : Loc) (.inl ⟨rfl, hp, by show 1 < 28; decide⟩) (I_loc (mem := s.mem) (q := s.buf) hI (by rw [hq, ← hme]; exact (At.a1R1 (by first | assumption | rfl | (simp_all; done))))) (by rw [hx]; rfl) (by rw [hx]) (by rw [hx]; rfl)
  rw [show Loc.th (X T R).Lb _ = _ from th_of rfl] at key
  exact ⟨_, _, _, hmk, key⟩
 case a0R2 g0 =>
  have hi := ins (i := ⟨27, 7, 0, 0, 0⟩) rfl
  rw [movI_plain (i := ⟨27, 7, 0, 0, 0⟩) rfl] at hi
  have hmk := st_mark hi
  have hg := h.marked (t := t) ⟨7, 0, ((p * 28 + 0 : Nat) : Int), 0, r7, 0, 0, false⟩ rfl (.inl rfl)
  have key := hg.loc ht (⟨p, 1, r0, r1, r2, r3, r4, r5, r6, r7, 0⟩ : Loc) (.inl ⟨rfl, hp, by show 1 < 28; decide⟩) (I_loc (mem := s.mem) (q := s.buf) hI (by rw [hq, ← hme]; exact (At.a1R2 (by first | assumption | rfl | (simp_all; done))))) (by rw [hx]; rfl) (by rw [hx]) (by rw [hx]; rfl)
  rw [show Loc.th (X T R).Lb _ = _ from th_of rfl] at key
  exact ⟨_, _, _, hmk, key⟩
 case a1F g0 =>
  have hi := ins (i := ⟨16, 4, 8, 0, 16⟩) rfl
  rw [movI_plain (i := ⟨16, 4, 8, 0, 16⟩) rfl] at hi
  have hst := st_load hi (ad := 16) (addr_abs _ _ _ _ _) (by rw [hnm]; decide)
  have hl : s.load t 16 = s.mem.getD 16 0 := by rw [load_q hq]; rfl
  rw [hl] at hst
  have hg := h.noted (t := t) ⟨1, 0, ((p * 28 + 1 : Nat) : Int), 16, s.mem.getD 16 0, 0, 0, false⟩ (show (1 : Int) ≠ 7 by decide) (show (1 : Int) ≠ 13 by decide)
  have key := hg.loc ht (⟨p, 2, r0, r1, r2, r3, (s.mem.getD 16 0), r5, r6, r7, 0⟩ : Loc) (.inl ⟨rfl, hp, by show 2 < 28; decide⟩) (I_loc (mem := s.mem) (q := s.buf) hI (by rw [hq, ← hme]; exact (At.a2F (by first | assumption | rfl | (show (0 : Int) ≠ _; omega) | omega) (by first | assumption | rfl | (show (0 : Int) ≠ _; omega) | omega)))) (by rw [hx]; rfl) (by rw [hx]) (by rw [hx]; rfl)
  rw [show Loc.th (X T R).Lb _ = _ from th_of rfl] at key
  exact ⟨_, _, _, hst, key⟩
 case a1R1 g0 =>
  have hi := ins (i := ⟨16, 4, 8, 0, 16⟩) rfl
  rw [movI_plain (i := ⟨16, 4, 8, 0, 16⟩) rfl] at hi
  have hst := st_load hi (ad := 16) (addr_abs _ _ _ _ _) (by rw [hnm]; decide)
  have hl : s.load t 16 = 0 := by rw [load_q hq]; rfl
  rw [hl] at hst
  have hg := h.noted (t := t) ⟨1, 0, ((p * 28 + 1 : Nat) : Int), 16, 0, 0, 0, false⟩ (show (1 : Int) ≠ 7 by decide) (show (1 : Int) ≠ 13 by decide)
  have key := hg.loc ht (⟨p, 2, r0, r1, r2, r3, (0 : Int), r5, r6, r7, 0⟩ : Loc) (.inl ⟨rfl, hp, by show 2 < 28; decide⟩) (I_loc (mem := s.mem) (q := s.buf) hI (by rw [hq, ← hme]; exact (At.a2R1 (by first | assumption | rfl | (show (0 : Int) ≠ _; omega) | omega) (by first | assumption | rfl | (show (0 : Int) ≠ _; omega) | omega)))) (by rw [hx]; rfl) (by rw [hx]) (by rw [hx]; rfl)
  rw [show Loc.th (X T R).Lb _ = _ from th_of rfl] at key
  exact ⟨_, _, _, hst, key⟩
 case a1R2 g0 =>
  have hi := ins (i := ⟨16, 4, 8, 0, 16⟩) rfl
  rw [movI_plain (i := ⟨16, 4, 8, 0, 16⟩) rfl] at hi
  have hst := st_load hi (ad := 16) (addr_abs _ _ _ _ _) (by rw [hnm]; decide)
  have hl : s.load t 16 = 0 := by rw [load_q hq]; rfl
  rw [hl] at hst
  have hg := h.noted (t := t) ⟨1, 0, ((p * 28 + 1 : Nat) : Int), 16, 0, 0, 0, false⟩ (show (1 : Int) ≠ 7 by decide) (show (1 : Int) ≠ 13 by decide)
  have key := hg.loc ht (⟨p, 2, r0, r1, r2, r3, (0 : Int), r5, r6, r7, 0⟩ : Loc) (.inl ⟨rfl, hp, by show 2 < 28; decide⟩) (I_loc (mem := s.mem) (q := s.buf) hI (by rw [hq, ← hme]; exact (At.a2R2 (by first | assumption | rfl | (show (0 : Int) ≠ _; omega) | omega) (by first | assumption | rfl | (show (0 : Int) ≠ _; omega) | omega)))) (by rw [hx]; rfl) (by rw [hx]) (by rw [hx]; rfl)
  rw [show Loc.th (X T R).Lb _ = _ from th_of rfl] at key
  exact ⟨_, _, _, hst, key⟩
 case a2F g0 g1 =>
  have hi := ins (i := ⟨1, 5, 0, 0, me⟩) rfl
  rw [movI_plain (i := ⟨1, 5, 0, 0, me⟩) rfl] at hi
  have hst := st_set hi
  have key := h.loc ht (⟨p, 3, r0, r1, r2, r3, r4, (me), r6, r7, 0⟩ : Loc) (.inl ⟨rfl, hp, by show 3 < 28; decide⟩) (I_loc (mem := s.mem) (q := s.buf) hI (by rw [hq, ← hme]; apply At.a3F <;> first | assumption | rfl | (simp_all; done))) (by rw [hx]; rfl) (by rw [hx]) (by rw [hx]; rfl)
  rw [show Loc.th (X T R).Lb _ = _ from th_of rfl] at key
  exact ⟨_, _, _, hst, key⟩
 case a2R1 g0 g1 =>
  have hi := ins (i := ⟨1, 5, 0, 0, me⟩) rfl
  rw [movI_plain (i := ⟨1, 5, 0, 0, me⟩) rfl] at hi
  have hst := st_set hi
  have key := h.loc ht (⟨p, 3, r0, r1, r2, r3, r4, (me), r6, r7, 0⟩ : Loc) (.inl ⟨rfl, hp, by show 3 < 28; decide⟩) (I_loc (mem := s.mem) (q := s.buf) hI (by rw [hq, ← hme]; apply At.a3R1 <;> first | assumption | rfl | (simp_all; done))) (by rw [hx]; rfl) (by rw [hx]) (by rw [hx]; rfl)
  rw [show Loc.th (X T R).Lb _ = _ from th_of rfl] at key
  exact ⟨_, _, _, hst, key⟩
 case a2R2 g0 g1 =>
  have hi := ins (i := ⟨1, 5, 0, 0, me⟩) rfl
  rw [movI_plain (i := ⟨1, 5, 0, 0, me⟩) rfl] at hi
  have hst := st_set hi
  have key := h.loc ht (⟨p, 3, r0, r1, r2, r3, r4, (me), r6, r7, 0⟩ : Loc) (.inl ⟨rfl, hp, by show 3 < 28; decide⟩) (I_loc (mem := s.mem) (q := s.buf) hI (by rw [hq, ← hme]; apply At.a3R2 <;> first | assumption | rfl | (simp_all; done))) (by rw [hx]; rfl) (by rw [hx]) (by rw [hx]; rfl)
  rw [show Loc.th (X T R).Lb _ = _ from th_of rfl] at key
  exact ⟨_, _, _, hst, key⟩
 case a3F g0 g1 g2 =>
  have hi := ins (i := ⟨12, 6, 4, 5, 0⟩) rfl
  rw [movI_plain (i := ⟨12, 6, 4, 5, 0⟩) rfl] at hi
  have hst := st_same hi
  have hv : (if r4 = r5 then (1 : Int) else 0) = 0 := by simp_all
  have key := h.loc ht (⟨p, 4, r0, r1, r2, r3, r4, r5, (if r4 = r5 then (1 : Int) else 0), r7, 0⟩ : Loc) (.inl ⟨rfl, hp, by show 4 < 28; decide⟩) (I_loc (mem := s.mem) (q := s.buf) hI (by rw [hq, ← hme]; exact (At.a4F (by first | assumption | exact hv) (by first | assumption | exact hv) (by first | assumption | exact hv)))) (by rw [hx]; rfl) (by rw [hx]) (by rw [hx]; rfl)
  rw [show Loc.th (X T R).Lb _ = _ from th_of rfl] at key
  exact ⟨_, _, _, hst, key⟩
 case a3R1 g0 g1 g2 =>
  have hi := ins (i := ⟨12, 6, 4, 5, 0⟩) rfl
  rw [movI_plain (i := ⟨12, 6, 4, 5, 0⟩) rfl] at hi
  have hst := st_same hi
  have hv : (if r4 = r5 then (1 : Int) else 0) = 0 := by simp_all
  have key := h.loc ht (⟨p, 4, r0, r1, r2, r3, r4, r5, (if r4 = r5 then (1 : Int) else 0), r7, 0⟩ : Loc) (.inl ⟨rfl, hp, by show 4 < 28; decide⟩) (I_loc (mem := s.mem) (q := s.buf) hI (by rw [hq, ← hme]; exact (At.a4R1 (by first | assumption | exact hv) (by first | assumption | exact hv) (by first | assumption | exact hv)))) (by rw [hx]; rfl) (by rw [hx]) (by rw [hx]; rfl)
  rw [show Loc.th (X T R).Lb _ = _ from th_of rfl] at key
  exact ⟨_, _, _, hst, key⟩
 case a3R2 g0 g1 g2 =>
  have hi := ins (i := ⟨12, 6, 4, 5, 0⟩) rfl
  rw [movI_plain (i := ⟨12, 6, 4, 5, 0⟩) rfl] at hi
  have hst := st_same hi
  have hv : (if r4 = r5 then (1 : Int) else 0) = 0 := by simp_all
  have key := h.loc ht (⟨p, 4, r0, r1, r2, r3, r4, r5, (if r4 = r5 then (1 : Int) else 0), r7, 0⟩ : Loc) (.inl ⟨rfl, hp, by show 4 < 28; decide⟩) (I_loc (mem := s.mem) (q := s.buf) hI (by rw [hq, ← hme]; exact (At.a4R2 (by first | assumption | exact hv) (by first | assumption | exact hv) (by first | assumption | exact hv)))) (by rw [hx]; rfl) (by rw [hx]) (by rw [hx]; rfl)
  rw [show Loc.th (X T R).Lb _ = _ from th_of rfl] at key
  exact ⟨_, _, _, hst, key⟩
 case a4F g0 g1 g2 =>
  have hi := ins (i := ⟨14, 6, 0, 0, 7⟩) rfl
  rw [movI_jump (i := ⟨14, 6, 0, 0, 7⟩) rfl] at hi
  have hst := st_zero hi
  by_cases hz : r6 = 0
  ·rw [if_pos (by exact hz)] at hst
   have key := h.loc ht (⟨p, 7, r0, r1, r2, r3, r4, r5, r6, r7, 0⟩ : Loc) (.inl ⟨rfl, hp, by show 7 < 28; decide⟩) (I_loc (mem := s.mem) (q := s.buf) hI (by rw [hq, ← hme]; apply At.a7F <;> first | assumption | (simp_all; done))) (by rw [hx]; rfl) (by rw [hx]) (by rw [hx]; rfl)
   rw [show Loc.th (X T R).Lb _ = _ from th_jmp (by omega) (by decide)] at key
   exact ⟨_, _, _, hst, key⟩
  ·rw [if_neg (by exact hz)] at hst
   exfalso; simp_all
 case a4R1 g0 g1 g2 =>
  have hi := ins (i := ⟨14, 6, 0, 0, 7⟩) rfl
  rw [movI_jump (i := ⟨14, 6, 0, 0, 7⟩) rfl] at hi
  have hst := st_zero hi
  by_cases hz : r6 = 0
  ·rw [if_pos (by exact hz)] at hst
   have key := h.loc ht (⟨p, 7, r0, r1, r2, r3, r4, r5, r6, r7, 0⟩ : Loc) (.inl ⟨rfl, hp, by show 7 < 28; decide⟩) (I_loc (mem := s.mem) (q := s.buf) hI (by rw [hq, ← hme]; apply At.a7R1 <;> first | assumption | (simp_all; done))) (by rw [hx]; rfl) (by rw [hx]) (by rw [hx]; rfl)
   rw [show Loc.th (X T R).Lb _ = _ from th_jmp (by omega) (by decide)] at key
   exact ⟨_, _, _, hst, key⟩
  ·rw [if_neg (by exact hz)] at hst
   exfalso; simp_all
 case a4R2 g0 g1 g2 =>
  have hi := ins (i := ⟨14, 6, 0, 0, 7⟩) rfl
  rw [movI_jump (i := ⟨14, 6, 0, 0, 7⟩) rfl] at hi
  have hst := st_zero hi
  by_cases hz : r6 = 0
  ·rw [if_pos (by exact hz)] at hst
   have key := h.loc ht (⟨p, 7, r0, r1, r2, r3, r4, r5, r6, r7, 0⟩ : Loc) (.inl ⟨rfl, hp, by show 7 < 28; decide⟩) (I_loc (mem := s.mem) (q := s.buf) hI (by rw [hq, ← hme]; apply At.a7R2 <;> first | assumption | (simp_all; done))) (by rw [hx]; rfl) (by rw [hx]) (by rw [hx]; rfl)
   rw [show Loc.th (X T R).Lb _ = _ from th_jmp (by omega) (by decide)] at key
   exact ⟨_, _, _, hst, key⟩
  ·rw [if_neg (by exact hz)] at hst
   exfalso; simp_all
 case a7F g0 g1 =>
  have hi := ins (i := ⟨16, 4, 8, 0, 16⟩) rfl
  rw [movI_plain (i := ⟨16, 4, 8, 0, 16⟩) rfl] at hi
  have hst := st_load hi (ad := 16) (addr_abs _ _ _ _ _) (by rw [hnm]; decide)
  have hl : s.load t 16 = s.mem.getD 16 0 := by rw [load_q hq]; rfl
  rw [hl] at hst
  have hg := h.noted (t := t) ⟨1, 0, ((p * 28 + 7 : Nat) : Int), 16, s.mem.getD 16 0, 0, 0, false⟩ (show (1 : Int) ≠ 7 by decide) (show (1 : Int) ≠ 13 by decide)
  have key := hg.loc ht (⟨p, 8, r0, r1, r2, r3, (s.mem.getD 16 0), r5, r6, r7, 0⟩ : Loc) (.inl ⟨rfl, hp, by show 8 < 28; decide⟩) (I_loc (mem := s.mem) (q := s.buf) hI (by rw [hq, ← hme]; exact (At.a8F (by first | assumption | rfl | (show (0 : Int) ≠ _; omega) | omega) (by first | assumption | rfl | (show (0 : Int) ≠ _; omega) | omega)))) (by rw [hx]; rfl) (by rw [hx]) (by rw [hx]; rfl)
  rw [show Loc.th (X T R).Lb _ = _ from th_of rfl] at key
  exact ⟨_, _, _, hst, key⟩
 case a7R1 g0 g1 =>
  have hi := ins (i := ⟨16, 4, 8, 0, 16⟩) rfl
  rw [movI_plain (i := ⟨16, 4, 8, 0, 16⟩) rfl] at hi
  have hst := st_load hi (ad := 16) (addr_abs _ _ _ _ _) (by rw [hnm]; decide)
  have hl : s.load t 16 = 0 := by rw [load_q hq]; rfl
  rw [hl] at hst
  have hg := h.noted (t := t) ⟨1, 0, ((p * 28 + 7 : Nat) : Int), 16, 0, 0, 0, false⟩ (show (1 : Int) ≠ 7 by decide) (show (1 : Int) ≠ 13 by decide)
  have key := hg.loc ht (⟨p, 8, r0, r1, r2, r3, (0 : Int), r5, r6, r7, 0⟩ : Loc) (.inl ⟨rfl, hp, by show 8 < 28; decide⟩) (I_loc (mem := s.mem) (q := s.buf) hI (by rw [hq, ← hme]; exact (At.a8R1 (by first | assumption | rfl | (show (0 : Int) ≠ _; omega) | omega) (by first | assumption | rfl | (show (0 : Int) ≠ _; omega) | omega)))) (by rw [hx]; rfl) (by rw [hx]) (by rw [hx]; rfl)
  rw [show Loc.th (X T R).Lb _ = _ from th_of rfl] at key
  exact ⟨_, _, _, hst, key⟩
 case a7R2 g0 g1 =>
  have hi := ins (i := ⟨16, 4, 8, 0, 16⟩) rfl
  rw [movI_plain (i := ⟨16, 4, 8, 0, 16⟩) rfl] at hi
  have hst := st_load hi (ad := 16) (addr_abs _ _ _ _ _) (by rw [hnm]; decide)
  have hl : s.load t 16 = 0 := by rw [load_q hq]; rfl
  rw [hl] at hst
  have hg := h.noted (t := t) ⟨1, 0, ((p * 28 + 7 : Nat) : Int), 16, 0, 0, 0, false⟩ (show (1 : Int) ≠ 7 by decide) (show (1 : Int) ≠ 13 by decide)
  have key := hg.loc ht (⟨p, 8, r0, r1, r2, r3, (0 : Int), r5, r6, r7, 0⟩ : Loc) (.inl ⟨rfl, hp, by show 8 < 28; decide⟩) (I_loc (mem := s.mem) (q := s.buf) hI (by rw [hq, ← hme]; exact (At.a8R2 (by first | assumption | rfl | (show (0 : Int) ≠ _; omega) | omega) (by first | assumption | rfl | (show (0 : Int) ≠ _; omega) | omega)))) (by rw [hx]; rfl) (by rw [hx]) (by rw [hx]; rfl)
  rw [show Loc.th (X T R).Lb _ = _ from th_of rfl] at key
  exact ⟨_, _, _, hst, key⟩
 case a8F g0 g1 =>
  have hi := ins (i := ⟨15, 4, 0, 0, 7⟩) rfl
  rw [movI_jump (i := ⟨15, 4, 0, 0, 7⟩) rfl] at hi
  have hst := st_some hi
  by_cases hz : r4 ≠ 0
  ·rw [if_pos (by exact hz)] at hst
   have key := h.loc ht (⟨p, 7, r0, r1, r2, r3, r4, r5, r6, r7, 0⟩ : Loc) (.inl ⟨rfl, hp, by show 7 < 28; decide⟩) (I_loc (mem := s.mem) (q := s.buf) hI (by rw [hq, ← hme]; apply At.a7F <;> first | assumption | (simp_all; done))) (by rw [hx]; rfl) (by rw [hx]) (by rw [hx]; rfl)
   rw [show Loc.th (X T R).Lb _ = _ from th_jmp (by omega) (by decide)] at key
   exact ⟨_, _, _, hst, key⟩
  ·rw [if_neg (by exact hz)] at hst
   have key := h.loc ht (⟨p, 9, r0, r1, r2, r3, r4, r5, r6, r7, 0⟩ : Loc) (.inl ⟨rfl, hp, by show 9 < 28; decide⟩) (I_loc (mem := s.mem) (q := s.buf) hI (by rw [hq, ← hme]; apply At.a9F <;> first | assumption | (simp_all; done))) (by rw [hx]; rfl) (by rw [hx]) (by rw [hx]; rfl)
   rw [show Loc.th (X T R).Lb _ = _ from th_of rfl] at key
   exact ⟨_, _, _, hst, key⟩
 case a8R1 g0 g1 =>
  have hi := ins (i := ⟨15, 4, 0, 0, 7⟩) rfl
  rw [movI_jump (i := ⟨15, 4, 0, 0, 7⟩) rfl] at hi
  have hst := st_some hi
  by_cases hz : r4 ≠ 0
  ·rw [if_pos (by exact hz)] at hst
   have key := h.loc ht (⟨p, 7, r0, r1, r2, r3, r4, r5, r6, r7, 0⟩ : Loc) (.inl ⟨rfl, hp, by show 7 < 28; decide⟩) (I_loc (mem := s.mem) (q := s.buf) hI (by rw [hq, ← hme]; apply At.a7R1 <;> first | assumption | (simp_all; done))) (by rw [hx]; rfl) (by rw [hx]) (by rw [hx]; rfl)
   rw [show Loc.th (X T R).Lb _ = _ from th_jmp (by omega) (by decide)] at key
   exact ⟨_, _, _, hst, key⟩
  ·rw [if_neg (by exact hz)] at hst
   have key := h.loc ht (⟨p, 9, r0, r1, r2, r3, r4, r5, r6, r7, 0⟩ : Loc) (.inl ⟨rfl, hp, by show 9 < 28; decide⟩) (I_loc (mem := s.mem) (q := s.buf) hI (by rw [hq, ← hme]; apply At.a9R1 <;> first | assumption | (simp_all; done))) (by rw [hx]; rfl) (by rw [hx]) (by rw [hx]; rfl)
   rw [show Loc.th (X T R).Lb _ = _ from th_of rfl] at key
   exact ⟨_, _, _, hst, key⟩
 case a8R2 g0 g1 =>
  have hi := ins (i := ⟨15, 4, 0, 0, 7⟩) rfl
  rw [movI_jump (i := ⟨15, 4, 0, 0, 7⟩) rfl] at hi
  have hst := st_some hi
  by_cases hz : r4 ≠ 0
  ·rw [if_pos (by exact hz)] at hst
   have key := h.loc ht (⟨p, 7, r0, r1, r2, r3, r4, r5, r6, r7, 0⟩ : Loc) (.inl ⟨rfl, hp, by show 7 < 28; decide⟩) (I_loc (mem := s.mem) (q := s.buf) hI (by rw [hq, ← hme]; apply At.a7R2 <;> first | assumption | (simp_all; done))) (by rw [hx]; rfl) (by rw [hx]) (by rw [hx]; rfl)
   rw [show Loc.th (X T R).Lb _ = _ from th_jmp (by omega) (by decide)] at key
   exact ⟨_, _, _, hst, key⟩
  ·rw [if_neg (by exact hz)] at hst
   have key := h.loc ht (⟨p, 9, r0, r1, r2, r3, r4, r5, r6, r7, 0⟩ : Loc) (.inl ⟨rfl, hp, by show 9 < 28; decide⟩) (I_loc (mem := s.mem) (q := s.buf) hI (by rw [hq, ← hme]; apply At.a9R2 <;> first | assumption | (simp_all; done))) (by rw [hx]; rfl) (by rw [hx]) (by rw [hx]; rfl)
   rw [show Loc.th (X T R).Lb _ = _ from th_of rfl] at key
   exact ⟨_, _, _, hst, key⟩
 case a9F g0 g1 g2 =>
  have hi := ins (i := ⟨21, 4, 8, 5, 16⟩) rfl
  rw [movI_plain (i := ⟨21, 4, 8, 5, 16⟩) rfl] at hi
  have hl : s.load t 16 = s.mem.getD 16 0 := by rw [load_q hq]; rfl
  have hcs := st_cas hi (ad := 16) (addr_abs _ _ _ _ _) (by rw [hnm]; decide) (by rw [empty_q hq]; rfl)
  rw [hl] at hcs
  have r40 : r4 = 0 := by assumption
  have r5m : r5 = me := by assumption
  subst r40; subst r5m
  by_cases how : s.mem.getD 16 0 = 0
  ·rw [if_pos (by exact how)] at hcs
   have m0 : ∀ v : Int, (s.mem.set 16 v).getD 16 0 = v := fun v => by rw [get_set (by rw [hnm]; decide), if_pos rfl]
   have m1 : ∀ v : Int, (s.mem.set 16 v).getD 0 0 = s.mem.getD 0 0 := fun v => by rw [get_set (by rw [hnm]; decide), if_neg (by decide)]
   rw [how] at hcs
   have hI2 : (X T R).I (s.mem.set 16 r5) (upF f t ⟨p, 10, r0, r1, r2, r3, 0, r5, r6, r7, 0⟩) s.buf := by
    have := I_put (t := t) (mem' := s.mem.set 16 r5) (x := ⟨p, 10, r0, r1, r2, r3, 0, r5, r6, r7, 0⟩) (q' := s.buf t) hI (fun u hu hne hu2 => by rw [m0, m1]; exact hu2.other (by rw [how]; omega) (fun e => hmu u hne e.symm)) (by rw [m0, m1, hq, ← hme]; exact At.a10O rfl (by first | rfl | (intro _; rfl) | (intro e; exact absurd rfl e)))
    rwa [upF_id] at this
   have key := h.swapped ht ⟨4, 0, ((p * 28 + 9 : Nat) : Int), 16, r5, 0, 0, true⟩ rfl 16 r5 (by decide) (⟨p, 10, r0, r1, r2, r3, 0, r5, r6, r7, 0⟩ : Loc) (.inl ⟨rfl, hp, by show 10 < 28; decide⟩) hI2 (by rw [hx]; rfl) (by rw [hx]) (by rw [hx]; rfl)
   rw [show Loc.th (X T R).Lb _ = _ from th_of rfl] at key
   exact ⟨_, _, _, hcs, key⟩
  ·rw [if_neg (by exact how)] at hcs
   have hg := h.noted (t := t) ⟨4, 0, ((p * 28 + 9 : Nat) : Int), 16, s.mem.getD 16 0, s.mem.getD 16 0, 0, false⟩ (show (4 : Int) ≠ 7 by decide) (show (4 : Int) ≠ 13 by decide)
   have key := hg.loc ht (⟨p, 10, r0, r1, r2, r3, (s.mem.getD 16 0), r5, r6, r7, 0⟩ : Loc) (.inl ⟨rfl, hp, by show 10 < 28; decide⟩) (I_loc (mem := s.mem) (q := s.buf) hI (by rw [hq, ← hme]; exact At.a10F (by assumption) how rfl)) (by rw [hx]; rfl) (by rw [hx]) (by rw [hx]; rfl)
   rw [show Loc.th (X T R).Lb _ = _ from th_of rfl] at key
   exact ⟨_, _, _, hcs, key⟩
 case a9R1 g0 g1 g2 =>
  have hi := ins (i := ⟨21, 4, 8, 5, 16⟩) rfl
  rw [movI_plain (i := ⟨21, 4, 8, 5, 16⟩) rfl] at hi
  exact ⟨_, f, i, st_drain hi (by show drainsI 21; decide) (fun _ => by rw [addr_abs, hnm]; decide) (by rw [empty_q hq]; rfl), flush h ht⟩
 case a9R2 g0 g1 g2 =>
  have hi := ins (i := ⟨21, 4, 8, 5, 16⟩) rfl
  rw [movI_plain (i := ⟨21, 4, 8, 5, 16⟩) rfl] at hi
  exact ⟨_, f, i, st_drain hi (by show drainsI 21; decide) (fun _ => by rw [addr_abs, hnm]; decide) (by rw [empty_q hq]; rfl), flush h ht⟩
 case a10F g0 g1 g2 =>
  have hi := ins (i := ⟨15, 4, 0, 0, 7⟩) rfl
  rw [movI_jump (i := ⟨15, 4, 0, 0, 7⟩) rfl] at hi
  have hst := st_some hi
  by_cases hz : r4 ≠ 0
  ·rw [if_pos (by exact hz)] at hst
   have key := h.loc ht (⟨p, 7, r0, r1, r2, r3, r4, r5, r6, r7, 0⟩ : Loc) (.inl ⟨rfl, hp, by show 7 < 28; decide⟩) (I_loc (mem := s.mem) (q := s.buf) hI (by rw [hq, ← hme]; apply At.a7F <;> first | assumption | (simp_all; done))) (by rw [hx]; rfl) (by rw [hx]) (by rw [hx]; rfl)
   rw [show Loc.th (X T R).Lb _ = _ from th_jmp (by omega) (by decide)] at key
   exact ⟨_, _, _, hst, key⟩
  ·rw [if_neg (by exact hz)] at hst
   exfalso; simp_all
 case a10O g0 g1 =>
  have hi := ins (i := ⟨15, 4, 0, 0, 7⟩) rfl
  rw [movI_jump (i := ⟨15, 4, 0, 0, 7⟩) rfl] at hi
  have hst := st_some hi
  by_cases hz : r4 ≠ 0
  ·rw [if_pos (by exact hz)] at hst
   exfalso; simp_all
  ·rw [if_neg (by exact hz)] at hst
   have key := h.loc ht (⟨p, 11, r0, r1, r2, r3, r4, r5, r6, r7, 0⟩ : Loc) (.inl ⟨rfl, hp, by show 11 < 28; decide⟩) (I_loc (mem := s.mem) (q := s.buf) hI (by rw [hq, ← hme]; exact (At.a11O (by first | assumption | (simp_all; done))))) (by rw [hx]; rfl) (by rw [hx]) (by rw [hx]; rfl)
   rw [show Loc.th (X T R).Lb _ = _ from th_of rfl] at key
   exact ⟨_, _, _, hst, key⟩
 case a11O g0 =>
  have hi := ins (i := ⟨1, 7, 0, 0, 0⟩) rfl
  rw [movI_plain (i := ⟨1, 7, 0, 0, 0⟩) rfl] at hi
  have hst := st_set hi
  have key := h.loc ht (⟨p, 12, r0, r1, r2, r3, r4, r5, r6, (0), 0⟩ : Loc) (.inl ⟨rfl, hp, by show 12 < 28; decide⟩) (I_loc (mem := s.mem) (q := s.buf) hI (by rw [hq, ← hme]; apply At.a12O <;> first | assumption | rfl | (simp_all; done))) (by rw [hx]; rfl) (by rw [hx]) (by rw [hx]; rfl)
  rw [show Loc.th (X T R).Lb _ = _ from th_of rfl] at key
  exact ⟨_, _, _, hst, key⟩
 case a12O g0 g1 =>
  have hi := ins (i := ⟨27, 7, 0, 0, 1⟩) rfl
  rw [movI_plain (i := ⟨27, 7, 0, 0, 1⟩) rfl] at hi
  have hmk := st_mark hi
  have r70 : r7 = 0 := by assumption
  subst r70
  have key := h.enters ht ((p * 28 + 12 : Nat) : Int) (⟨p, 13, r0, r1, r2, r3, r4, r5, r6, 0, 0⟩ : Loc) (.inl ⟨rfl, hp, by show 13 < 28; decide⟩) (I_loc (mem := s.mem) (q := s.buf) hI (by rw [hq, ← hme]; exact (At.a13O (by first | assumption | rfl | (simp_all; done))))) (fun u hu => by
   by_cases e : u = t
   ·subst e; rw [hx]; rfl
   ·exact (hI u hu).notin (by rw [show s.mem.getD 16 0 = me by assumption]; exact fun e2 => hmu u e e2.symm)) rfl (by rw [hx]) (by rw [hx]; rfl)
  rw [show Loc.th (X T R).Lb _ = _ from th_of rfl] at key
  exact ⟨_, _, _, hmk, key⟩
 case a13O g0 =>
  have hi := ins (i := ⟨16, 1, 8, 0, 0⟩) rfl
  rw [movI_plain (i := ⟨16, 1, 8, 0, 0⟩) rfl] at hi
  have hst := st_load hi (ad := 0) (addr_abs _ _ _ _ _) (by rw [hnm]; decide)
  have hl : s.load t 0 = s.mem.getD 0 0 := by rw [load_q hq]; rfl
  rw [hl] at hst
  have hg := h.noted (t := t) ⟨1, 0, ((p * 28 + 13 : Nat) : Int), 0, s.mem.getD 0 0, 0, 0, false⟩ (show (1 : Int) ≠ 7 by decide) (show (1 : Int) ≠ 13 by decide)
  have key := hg.loc ht (⟨p, 14, r0, (s.mem.getD 0 0), r2, r3, r4, r5, r6, r7, 0⟩ : Loc) (.inl ⟨rfl, hp, by show 14 < 28; decide⟩) (I_loc (mem := s.mem) (q := s.buf) hI (by rw [hq, ← hme]; exact (At.a14O (by first | assumption | rfl | (show (0 : Int) ≠ _; omega) | omega) (by first | assumption | rfl | (show (0 : Int) ≠ _; omega) | omega)))) (by rw [hx]; rfl) (by rw [hx]) (by rw [hx]; rfl)
  rw [show Loc.th (X T R).Lb _ = _ from th_of rfl] at key
  exact ⟨_, _, _, hst, key⟩
 case a14O g0 g1 =>
  have hi := ins (i := ⟨1, 2, 0, 0, 1⟩) rfl
  rw [movI_plain (i := ⟨1, 2, 0, 0, 1⟩) rfl] at hi
  have hst := st_set hi
  have key := h.loc ht (⟨p, 15, r0, r1, (1), r3, r4, r5, r6, r7, 0⟩ : Loc) (.inl ⟨rfl, hp, by show 15 < 28; decide⟩) (I_loc (mem := s.mem) (q := s.buf) hI (by rw [hq, ← hme]; apply At.a15O <;> first | assumption | rfl | (simp_all; done))) (by rw [hx]; rfl) (by rw [hx]) (by rw [hx]; rfl)
  rw [show Loc.th (X T R).Lb _ = _ from th_of rfl] at key
  exact ⟨_, _, _, hst, key⟩
 case a15O g0 g1 g2 =>
  have hi := ins (i := ⟨3, 1, 1, 2, 0⟩) rfl
  rw [movI_plain (i := ⟨3, 1, 1, 2, 0⟩) rfl] at hi
  have hst := st_add hi
  have key := h.loc ht (⟨p, 16, r0, (wr32 (r1 + r2)), r2, r3, r4, r5, r6, r7, 0⟩ : Loc) (.inl ⟨rfl, hp, by show 16 < 28; decide⟩) (I_loc (mem := s.mem) (q := s.buf) hI (by rw [hq, ← hme]; apply At.a16O <;> first | assumption | rfl | (simp_all; done))) (by rw [hx]; rfl) (by rw [hx]) (by rw [hx]; rfl)
  rw [show Loc.th (X T R).Lb _ = _ from th_of rfl] at key
  exact ⟨_, _, _, hst, key⟩
 case a16O g0 g1 =>
  have hi := ins (i := ⟨17, 1, 8, 0, 0⟩) rfl
  rw [movI_plain (i := ⟨17, 1, 8, 0, 0⟩) rfl] at hi
  have hst := st_store hi (ad := 0) (addr_abs _ _ _ _ _) (by rw [hnm]; decide)
  by_cases hro : s.roomy t = true
  ·rw [if_pos hro] at hst
   have hr1 : r1 = wr32 (s.mem.getD 0 0 + 1) := by assumption
   subst hr1
   have key := h.stored ht ((p * 28 + 16 : Nat) : Int) 0 (wr32 (s.mem.getD 0 0 + 1)) (⟨p, 17, r0, (wr32 (s.mem.getD 0 0 + 1)), r2, r3, r4, r5, r6, r7, 0⟩ : Loc) (.inl ⟨rfl, hp, by show 17 < 28; decide⟩) (I_put hI (fun _ _ _ h => h) (by rw [hq, ← hme]; exact (At.a17P (by first | assumption | rfl | (simp_all; done))))) (by rw [hx]; rfl) (by rw [hx]) (.inr ⟨rfl, by rw [hx]; rfl, rfl⟩)
   rw [show Loc.th (X T R).Lb _ = _ from th_of rfl] at key
   exact ⟨_, _, _, hst, key⟩
  ·rw [if_neg hro] at hst
   exact ⟨_, f, i, hst, flush h ht⟩
 case a17O g0 =>
  have hi := ins (i := ⟨27, 7, 0, 0, 2⟩) rfl
  rw [movI_plain (i := ⟨27, 7, 0, 0, 2⟩) rfl] at hi
  have hmk := st_mark hi
  have key := h.leaves ht ((p * 28 + 17 : Nat) : Int) r7 (⟨p, 18, r0, r1, r2, r3, r4, r5, r6, r7, 0⟩ : Loc) (.inl ⟨rfl, hp, by show 18 < 28; decide⟩) (I_loc (mem := s.mem) (q := s.buf) hI (by rw [hq, ← hme]; exact (At.a18O (by first | assumption | rfl | (simp_all; done))))) (by rw [hx]; rfl) rfl (by rw [hx]) (by rw [hx]; rfl)
  rw [show Loc.th (X T R).Lb _ = _ from th_of rfl] at key
  exact ⟨_, _, _, hmk, key⟩
 case a17P g0 =>
  have hi := ins (i := ⟨27, 7, 0, 0, 2⟩) rfl
  rw [movI_plain (i := ⟨27, 7, 0, 0, 2⟩) rfl] at hi
  have hmk := st_mark hi
  have key := h.leaves ht ((p * 28 + 17 : Nat) : Int) r7 (⟨p, 18, r0, r1, r2, r3, r4, r5, r6, r7, 0⟩ : Loc) (.inl ⟨rfl, hp, by show 18 < 28; decide⟩) (I_loc (mem := s.mem) (q := s.buf) hI (by rw [hq, ← hme]; exact (At.a18P (by first | assumption | rfl | (simp_all; done))))) (by rw [hx]; rfl) rfl (by rw [hx]) (by rw [hx]; rfl)
  rw [show Loc.th (X T R).Lb _ = _ from th_of rfl] at key
  exact ⟨_, _, _, hmk, key⟩
 case a18O g0 =>
  have hi := ins (i := ⟨16, 4, 8, 0, 16⟩) rfl
  rw [movI_plain (i := ⟨16, 4, 8, 0, 16⟩) rfl] at hi
  have hst := st_load hi (ad := 16) (addr_abs _ _ _ _ _) (by rw [hnm]; decide)
  have hl : s.load t 16 = s.mem.getD 16 0 := by rw [load_q hq]; rfl
  rw [hl] at hst
  have hg := h.noted (t := t) ⟨1, 0, ((p * 28 + 18 : Nat) : Int), 16, s.mem.getD 16 0, 0, 0, false⟩ (show (1 : Int) ≠ 7 by decide) (show (1 : Int) ≠ 13 by decide)
  have key := hg.loc ht (⟨p, 19, r0, r1, r2, r3, (s.mem.getD 16 0), r5, r6, r7, 0⟩ : Loc) (.inl ⟨rfl, hp, by show 19 < 28; decide⟩) (I_loc (mem := s.mem) (q := s.buf) hI (by rw [hq, ← hme]; exact (At.a19O (by first | assumption | rfl | (show (0 : Int) ≠ _; omega) | omega) (by first | assumption | rfl | (show (0 : Int) ≠ _; omega) | omega)))) (by rw [hx]; rfl) (by rw [hx]) (by rw [hx]; rfl)
  rw [show Loc.th (X T R).Lb _ = _ from th_of rfl] at key
  exact ⟨_, _, _, hst, key⟩
 case a18P g0 =>
  have hi := ins (i := ⟨16, 4, 8, 0, 16⟩) rfl
  rw [movI_plain (i := ⟨16, 4, 8, 0, 16⟩) rfl] at hi
  have hst := st_load hi (ad := 16) (addr_abs _ _ _ _ _) (by rw [hnm]; decide)
  have hl : s.load t 16 = s.mem.getD 16 0 := by rw [load_q hq]; rfl
  rw [hl] at hst
  have hg := h.noted (t := t) ⟨1, 0, ((p * 28 + 18 : Nat) : Int), 16, s.mem.getD 16 0, 0, 0, false⟩ (show (1 : Int) ≠ 7 by decide) (show (1 : Int) ≠ 13 by decide)
  have key := hg.loc ht (⟨p, 19, r0, r1, r2, r3, (s.mem.getD 16 0), r5, r6, r7, 0⟩ : Loc) (.inl ⟨rfl, hp, by show 19 < 28; decide⟩) (I_loc (mem := s.mem) (q := s.buf) hI (by rw [hq, ← hme]; exact (At.a19P (by first | assumption | rfl | (show (0 : Int) ≠ _; omega) | omega) (by first | assumption | rfl | (show (0 : Int) ≠ _; omega) | omega)))) (by rw [hx]; rfl) (by rw [hx]) (by rw [hx]; rfl)
  rw [show Loc.th (X T R).Lb _ = _ from th_of rfl] at key
  exact ⟨_, _, _, hst, key⟩
 case a19O g0 g1 =>
  have hi := ins (i := ⟨1, 5, 0, 0, me⟩) rfl
  rw [movI_plain (i := ⟨1, 5, 0, 0, me⟩) rfl] at hi
  have hst := st_set hi
  have key := h.loc ht (⟨p, 20, r0, r1, r2, r3, r4, (me), r6, r7, 0⟩ : Loc) (.inl ⟨rfl, hp, by show 20 < 28; decide⟩) (I_loc (mem := s.mem) (q := s.buf) hI (by rw [hq, ← hme]; apply At.a20O <;> first | assumption | rfl | (simp_all; done))) (by rw [hx]; rfl) (by rw [hx]) (by rw [hx]; rfl)
  rw [show Loc.th (X T R).Lb _ = _ from th_of rfl] at key
  exact ⟨_, _, _, hst, key⟩
 case a19P g0 g1 =>
  have hi := ins (i := ⟨1, 5, 0, 0, me⟩) rfl
  rw [movI_plain (i := ⟨1, 5, 0, 0, me⟩) rfl] at hi
  have hst := st_set hi
  have key := h.loc ht (⟨p, 20, r0, r1, r2, r3, r4, (me), r6, r7, 0⟩ : Loc) (.inl ⟨rfl, hp, by show 20 < 28; decide⟩) (I_loc (mem := s.mem) (q := s.buf) hI (by rw [hq, ← hme]; apply At.a20P <;> first | assumption | rfl | (simp_all; done))) (by rw [hx]; rfl) (by rw [hx]) (by rw [hx]; rfl)
  rw [show Loc.th (X T R).Lb _ = _ from th_of rfl] at key
  exact ⟨_, _, _, hst, key⟩
 case a20O g0 g1 g2 =>
  have hi := ins (i := ⟨12, 6, 4, 5, 0⟩) rfl
  rw [movI_plain (i := ⟨12, 6, 4, 5, 0⟩) rfl] at hi
  have hst := st_same hi
  have hv : (if r4 = r5 then (1 : Int) else 0) = 1 := by simp_all
  have key := h.loc ht (⟨p, 21, r0, r1, r2, r3, r4, r5, (if r4 = r5 then (1 : Int) else 0), r7, 0⟩ : Loc) (.inl ⟨rfl, hp, by show 21 < 28; decide⟩) (I_loc (mem := s.mem) (q := s.buf) hI (by rw [hq, ← hme]; exact (At.a21O (by first | assumption | exact hv) (by first | assumption | exact hv)))) (by rw [hx]; rfl) (by rw [hx]) (by rw [hx]; rfl)
  rw [show Loc.th (X T R).Lb _ = _ from th_of rfl] at key
  exact ⟨_, _, _, hst, key⟩
 case a20P g0 g1 g2 =>
  have hi := ins (i := ⟨12, 6, 4, 5, 0⟩) rfl
  rw [movI_plain (i := ⟨12, 6, 4, 5, 0⟩) rfl] at hi
  have hst := st_same hi
  have hv : (if r4 = r5 then (1 : Int) else 0) = 1 := by simp_all
  have key := h.loc ht (⟨p, 21, r0, r1, r2, r3, r4, r5, (if r4 = r5 then (1 : Int) else 0), r7, 0⟩ : Loc) (.inl ⟨rfl, hp, by show 21 < 28; decide⟩) (I_loc (mem := s.mem) (q := s.buf) hI (by rw [hq, ← hme]; exact (At.a21P (by first | assumption | exact hv) (by first | assumption | exact hv)))) (by rw [hx]; rfl) (by rw [hx]) (by rw [hx]; rfl)
  rw [show Loc.th (X T R).Lb _ = _ from th_of rfl] at key
  exact ⟨_, _, _, hst, key⟩
 case a21O g0 g1 =>
  have hi := ins (i := ⟨15, 6, 0, 0, 24⟩) rfl
  rw [movI_jump (i := ⟨15, 6, 0, 0, 24⟩) rfl] at hi
  have hst := st_some hi
  by_cases hz : r6 ≠ 0
  ·rw [if_pos (by exact hz)] at hst
   have key := h.loc ht (⟨p, 24, r0, r1, r2, r3, r4, r5, r6, r7, 0⟩ : Loc) (.inl ⟨rfl, hp, by show 24 < 28; decide⟩) (I_loc (mem := s.mem) (q := s.buf) hI (by rw [hq, ← hme]; exact (At.a24O (by first | assumption | (simp_all; done))))) (by rw [hx]; rfl) (by rw [hx]) (by rw [hx]; rfl)
   rw [show Loc.th (X T R).Lb _ = _ from th_jmp (by omega) (by decide)] at key
   exact ⟨_, _, _, hst, key⟩
  ·rw [if_neg (by exact hz)] at hst
   exfalso; simp_all
 case a21P g0 g1 =>
  have hi := ins (i := ⟨15, 6, 0, 0, 24⟩) rfl
  rw [movI_jump (i := ⟨15, 6, 0, 0, 24⟩) rfl] at hi
  have hst := st_some hi
  by_cases hz : r6 ≠ 0
  ·rw [if_pos (by exact hz)] at hst
   have key := h.loc ht (⟨p, 24, r0, r1, r2, r3, r4, r5, r6, r7, 0⟩ : Loc) (.inl ⟨rfl, hp, by show 24 < 28; decide⟩) (I_loc (mem := s.mem) (q := s.buf) hI (by rw [hq, ← hme]; exact (At.a24P (by first | assumption | (simp_all; done))))) (by rw [hx]; rfl) (by rw [hx]) (by rw [hx]; rfl)
   rw [show Loc.th (X T R).Lb _ = _ from th_jmp (by omega) (by decide)] at key
   exact ⟨_, _, _, hst, key⟩
  ·rw [if_neg (by exact hz)] at hst
   exfalso; simp_all
 case a24O g0 =>
  have hi := ins (i := ⟨1, 4, 0, 0, 0⟩) rfl
  rw [movI_plain (i := ⟨1, 4, 0, 0, 0⟩) rfl] at hi
  have hst := st_set hi
  have key := h.loc ht (⟨p, 25, r0, r1, r2, r3, (0), r5, r6, r7, 0⟩ : Loc) (.inl ⟨rfl, hp, by show 25 < 28; decide⟩) (I_loc (mem := s.mem) (q := s.buf) hI (by rw [hq, ← hme]; apply At.a25O <;> first | assumption | rfl | (simp_all; done))) (by rw [hx]; rfl) (by rw [hx]) (by rw [hx]; rfl)
  rw [show Loc.th (X T R).Lb _ = _ from th_of rfl] at key
  exact ⟨_, _, _, hst, key⟩
 case a24P g0 =>
  have hi := ins (i := ⟨1, 4, 0, 0, 0⟩) rfl
  rw [movI_plain (i := ⟨1, 4, 0, 0, 0⟩) rfl] at hi
  have hst := st_set hi
  have key := h.loc ht (⟨p, 25, r0, r1, r2, r3, (0), r5, r6, r7, 0⟩ : Loc) (.inl ⟨rfl, hp, by show 25 < 28; decide⟩) (I_loc (mem := s.mem) (q := s.buf) hI (by rw [hq, ← hme]; apply At.a25P <;> first | assumption | rfl | (simp_all; done))) (by rw [hx]; rfl) (by rw [hx]) (by rw [hx]; rfl)
  rw [show Loc.th (X T R).Lb _ = _ from th_of rfl] at key
  exact ⟨_, _, _, hst, key⟩
 case a25O g0 g1 =>
  have hi := ins (i := ⟨17, 4, 8, 0, 16⟩) rfl
  rw [movI_plain (i := ⟨17, 4, 8, 0, 16⟩) rfl] at hi
  have hst := st_store hi (ad := 16) (addr_abs _ _ _ _ _) (by rw [hnm]; decide)
  by_cases hro : s.roomy t = true
  ·rw [if_pos hro] at hst
   have hr4 : r4 = 0 := by assumption
   subst hr4
   have key := h.stored ht ((p * 28 + 25 : Nat) : Int) 16 0 (⟨p, 26, r0, r1, r2, r3, 0, r5, r6, r7, 0⟩ : Loc) (.inl ⟨rfl, hp, by show 26 < 28; decide⟩) (I_put hI (fun _ _ _ h => h) (by rw [hq, ← hme]; exact (At.a26R1 (by first | assumption | rfl | (simp_all; done))))) (by rw [hx]; rfl) (by rw [hx]) (.inl ⟨by decide, by rw [hx]; rfl⟩)
   rw [show Loc.th (X T R).Lb _ = _ from th_of rfl] at key
   exact ⟨_, _, _, hst, key⟩
  ·rw [if_neg hro] at hst
   exact ⟨_, f, i, hst, flush h ht⟩
 case a25P g0 g1 =>
  have hi := ins (i := ⟨17, 4, 8, 0, 16⟩) rfl
  rw [movI_plain (i := ⟨17, 4, 8, 0, 16⟩) rfl] at hi
  have hst := st_store hi (ad := 16) (addr_abs _ _ _ _ _) (by rw [hnm]; decide)
  by_cases hro : s.roomy t = true
  ·rw [if_pos hro] at hst
   have hr4 : r4 = 0 := by assumption
   subst hr4
   have key := h.stored ht ((p * 28 + 25 : Nat) : Int) 16 0 (⟨p, 26, r0, r1, r2, r3, 0, r5, r6, r7, 0⟩ : Loc) (.inl ⟨rfl, hp, by show 26 < 28; decide⟩) (I_put hI (fun _ _ _ h => h) (by rw [hq, ← hme]; exact (At.a26R2 (by first | assumption | rfl | (simp_all; done))))) (by rw [hx]; rfl) (by rw [hx]) (.inl ⟨by decide, by rw [hx]; rfl⟩)
   rw [show Loc.th (X T R).Lb _ = _ from th_of rfl] at key
   exact ⟨_, _, _, hst, key⟩
  ·rw [if_neg hro] at hst
   exact ⟨_, f, i, hst, flush h ht⟩
 case a26F g0 =>
  have hi := ins (i := ⟨1, 7, 0, 0, 0⟩) rfl
  rw [movI_plain (i := ⟨1, 7, 0, 0, 0⟩) rfl] at hi
  have hst := st_set hi
  have key := h.loc ht (⟨p, 27, r0, r1, r2, r3, r4, r5, r6, (0), 0⟩ : Loc) (.inl ⟨rfl, hp, by show 27 < 28; decide⟩) (I_loc (mem := s.mem) (q := s.buf) hI (by rw [hq, ← hme]; apply At.a27F <;> first | assumption | rfl | (simp_all; done))) (by rw [hx]; rfl) (by rw [hx]) (by rw [hx]; rfl)
  rw [show Loc.th (X T R).Lb _ = _ from th_of rfl] at key
  exact ⟨_, _, _, hst, key⟩
 case a26R1 g0 =>
  have hi := ins (i := ⟨1, 7, 0, 0, 0⟩) rfl
  rw [movI_plain (i := ⟨1, 7, 0, 0, 0⟩) rfl] at hi
  have hst := st_set hi
  have key := h.loc ht (⟨p, 27, r0, r1, r2, r3, r4, r5, r6, (0), 0⟩ : Loc) (.inl ⟨rfl, hp, by show 27 < 28; decide⟩) (I_loc (mem := s.mem) (q := s.buf) hI (by rw [hq, ← hme]; apply At.a27R1 <;> first | assumption | rfl | (simp_all; done))) (by rw [hx]; rfl) (by rw [hx]) (by rw [hx]; rfl)
  rw [show Loc.th (X T R).Lb _ = _ from th_of rfl] at key
  exact ⟨_, _, _, hst, key⟩
 case a26R2 g0 =>
  have hi := ins (i := ⟨1, 7, 0, 0, 0⟩) rfl
  rw [movI_plain (i := ⟨1, 7, 0, 0, 0⟩) rfl] at hi
  have hst := st_set hi
  have key := h.loc ht (⟨p, 27, r0, r1, r2, r3, r4, r5, r6, (0), 0⟩ : Loc) (.inl ⟨rfl, hp, by show 27 < 28; decide⟩) (I_loc (mem := s.mem) (q := s.buf) hI (by rw [hq, ← hme]; apply At.a27R2 <;> first | assumption | rfl | (simp_all; done))) (by rw [hx]; rfl) (by rw [hx]) (by rw [hx]; rfl)
  rw [show Loc.th (X T R).Lb _ = _ from th_of rfl] at key
  exact ⟨_, _, _, hst, key⟩
 case a27F g0 g1 =>
  have hi := ins (i := ⟨27, 7, 0, 0, 3⟩) rfl
  rw [movI_plain (i := ⟨27, 7, 0, 0, 3⟩) rfl] at hi
  have hmk := st_mark hi
  have hg := h.marked (t := t) ⟨7, 0, ((p * 28 + 27 : Nat) : Int), 0, r7, 0, 3, false⟩ rfl (.inr ⟨rfl, by assumption⟩)
  have key := hg.again ht (⟨p + 1, 0, r0, r1, r2, r3, r4, r5, r6, r7, 0⟩ : Loc) (by
   by_cases e : p + 1 < R
   ·exact .inl ⟨rfl, e, by show 0 < 28; decide⟩
   ·exact .inr ⟨by show p + 1 = R; omega, rfl, .inl rfl⟩) (I_loc (mem := s.mem) (q := s.buf) hI (by rw [hq, ← hme]; exact (At.a0F (by first | assumption | rfl | (simp_all; done))))) (by rw [hx]; rfl) (by rw [hx]) (by rw [hx]; show 16 < 27; decide) rfl
  rw [show Loc.th (X T R).Lb _ = _ from th_last] at key
  exact ⟨_, _, _, hmk, key⟩
 case a27R1 g0 g1 =>
  have hi := ins (i := ⟨27, 7, 0, 0, 3⟩) rfl
  rw [movI_plain (i := ⟨27, 7, 0, 0, 3⟩) rfl] at hi
  have hmk := st_mark hi
  have hg := h.marked (t := t) ⟨7, 0, ((p * 28 + 27 : Nat) : Int), 0, r7, 0, 3, false⟩ rfl (.inr ⟨rfl, by assumption⟩)
  have key := hg.again ht (⟨p + 1, 0, r0, r1, r2, r3, r4, r5, r6, r7, 0⟩ : Loc) (by
   by_cases e : p + 1 < R
   ·exact .inl ⟨rfl, e, by show 0 < 28; decide⟩
   ·exact .inr ⟨by show p + 1 = R; omega, rfl, .inl rfl⟩) (I_loc (mem := s.mem) (q := s.buf) hI (by rw [hq, ← hme]; exact (At.a0R1 (by first | assumption | rfl | (simp_all; done))))) (by rw [hx]; rfl) (by rw [hx]) (by rw [hx]; show 16 < 27; decide) rfl
  rw [show Loc.th (X T R).Lb _ = _ from th_last] at key
  exact ⟨_, _, _, hmk, key⟩
 case a27R2 g0 g1 =>
  have hi := ins (i := ⟨27, 7, 0, 0, 3⟩) rfl
  rw [movI_plain (i := ⟨27, 7, 0, 0, 3⟩) rfl] at hi
  have hmk := st_mark hi
  have hg := h.marked (t := t) ⟨7, 0, ((p * 28 + 27 : Nat) : Int), 0, r7, 0, 3, false⟩ rfl (.inr ⟨rfl, by assumption⟩)
  have key := hg.again ht (⟨p + 1, 0, r0, r1, r2, r3, r4, r5, r6, r7, 0⟩ : Loc) (by
   by_cases e : p + 1 < R
   ·exact .inl ⟨rfl, e, by show 0 < 28; decide⟩
   ·exact .inr ⟨by show p + 1 = R; omega, rfl, .inl rfl⟩) (I_loc (mem := s.mem) (q := s.buf) hI (by rw [hq, ← hme]; exact (At.a0R2 (by first | assumption | rfl | (simp_all; done))))) (by rw [hx]; rfl) (by rw [hx]) (by rw [hx]; show 16 < 27; decide) rfl
  rw [show Loc.th (X T R).Lb _ = _ from th_last] at key
  exact ⟨_, _, _, hmk, key⟩
theorem run (hR0 : 0 < R) (hR : R ≤ 100) (hc : ∀ t, t < T → codes[t]? = some (codeT R t)) (l : List (Nat × Nat)) (h : (X T R).Inv s f i) : ∃ s', Ts.run codes s l = some s' ∧ ∃ f' i', (X T R).Inv s' f' i' :=
 Lk.run codes (fun t ht => ⟨_, hc t ht, code_len R t⟩)
  (fun s f i t h ht => by
   refine I_loc (x := { f t with st := 2 }) h.I ?_
   exact h.I t ht)
  (fun s f i t h ht h0 hp hj => step h ht hR (hc t ht) h0 hp hj) (fun s f i t h ht => flush h ht) l s f i h
end
end Go.Proofs.YtckmkaeopnnbbaaGreatDoor.As.Ttas
