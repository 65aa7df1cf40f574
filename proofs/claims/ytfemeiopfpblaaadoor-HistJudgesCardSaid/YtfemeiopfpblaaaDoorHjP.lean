/- Plain Lean: what abstract objects answer, told by their state, and told by all that was done ahead; both are the same. No program in sight. -/
import Derived.Test.YtfemeiopfpblaaaDoorHjBase
set_option linter.unusedVariables false
set_option linter.unusedSimpArgs false
namespace Go.Proofs.YtfemeiopfpblaaaDoor.As

structure Ob where
  k : Int
  n : Int
  a : Int
  b : Int
structure Ask where
  who : Int
  obj : Int
  call : Int
  part : Int
  arg : Int
  val : Int
structure Act where
  x : Ask
  site : Int
  at_ : Int
  ended : Bool
  res : Int
  data : List Int
structure Stp where
  x : Ask
  r : Int
/-- An object's state. -/
structure St where
  o : Ob
  owner : Int
  rd : List Bool
  data : List Int
  draft : List Int
  count : Int
  done : Bool
  come : List Int
  opened : Int
  left : List Int
abbrev Ans := Option (Int × List Int)
def St.new (o : Ob) : St := ⟨o, -1, List.replicate 8 false, List.replicate 3 0, List.replicate 3 0, o.n, false, List.replicate 8 0, 0, List.replicate 8 0⟩

/-! ### By the state -/
def doLock (s : St) (x : Ask) : Ans × St :=
  if x.call = 2 then
    if s.owner = x.who then (some (0, []), { s with owner := -1, data := s.draft }) else (some (2, []), s)
  else if s.owner = x.who then (some (1, []), s)
  else if s.owner = -1 then (some (0, []), { s with owner := x.who })
  else (none, s)
def doDuo (s : St) (x : Ask) : Ans × St := if x.who ≠ s.o.a ∧ x.who ≠ s.o.b then (some (4, []), s) else doLock s x
def doSeq (s : St) (x : Ask) : Ans × St :=
  if x.call = 4 then
    if s.owner = x.who then (some (0, []), { s with draft := s.draft.set x.arg.toNat x.val }) else (some (2, []), s)
  else if x.call = 3 then (some (0, s.data.take s.o.n.toNat), s)
  else doLock s x
def doSem (s : St) (x : Ask) : Ans × St :=
  if x.call = 2 then
    if s.count = s.o.a then (some (3, []), s) else (some (0, []), { s with count := s.count + 1 })
  else if s.count = 0 then (none, s) else (some (0, []), { s with count := s.count - 1 })
def doBar (s : St) (x : Ask) : Ans × St :=
  if s.o.n ≤ x.who then (some (4, []), s)
  else if x.arg ≠ s.o.n then (some (3, []), s)
  else if x.part = 1 then
    if s.left.getD x.who.toNat 0 < s.come.getD x.who.toNat 0 then (none, s) else (some (0, []), { s with come := s.come.set x.who.toNat (s.come.getD x.who.toNat 0 + 1) })
  else if x.part = 2 then
    if (List.range s.o.n.toNat).any (fun t => decide (s.come.getD t 0 ≤ s.opened)) = true then (none, s) else (some (0, []), { s with opened := s.opened + 1 })
  else if x.part = 3 then
    if s.come.getD x.who.toNat 0 = s.left.getD x.who.toNat 0 ∨ s.opened < s.come.getD x.who.toNat 0 then (none, s) else (some (0, []), { s with left := s.left.set x.who.toNat (s.left.getD x.who.toNat 0 + 1) })
  else (none, s)
def St.mine (s : St) (x : Ask) : Prop := s.owner = x.who ∨ s.rd.getD x.who.toNat false = true
instance (s : St) (x : Ask) : Decidable (s.mine x) := by unfold St.mine; infer_instance
def doRw (s : St) (x : Ask) : Ans × St :=
  if x.call = 2 then
    if s.mine x then (some (0, []), { s with rd := s.rd.set x.who.toNat false, owner := if s.owner = x.who then -1 else s.owner }) else (some (2, []), s)
  else if s.mine x then (some (1, []), s)
  else if 0 ≤ s.owner ∨ (x.call = 1 ∧ s.rd ≠ List.replicate 8 false) then (none, s)
  else if x.call = 1 then (some (0, []), { s with owner := x.who })
  else (some (0, []), { s with rd := s.rd.set x.who.toNat true })
def doOnce (s : St) (x : Ask) : Ans × St :=
  if x.call = 10 then
    if s.owner = x.who then (some (0, []), { s with owner := -1, done := true }) else (some (2, []), s)
  else if s.owner = x.who then (some (1, []), s)
  else if s.done = true then (some (0, []), s)
  else if 0 ≤ s.owner then (none, s)
  else (some (5, []), { s with owner := x.who })
/-- May it be asked at all? -/
def Asks (th : Int) (o : Ob) (x : Ask) : Prop := AskP o.k o.n o.a o.b x.call th x.who ∧ ¬ (x.call = 4 ∧ o.n ≤ x.arg) ∧ (o.k = 13 ∨ x.part = 0)
instance (th : Int) (o : Ob) (x : Ask) : Decidable (Asks th o x) := by unfold Asks; infer_instance
def doKind (s : St) (x : Ask) : Ans × St :=
  if s.o.k = 6 ∨ s.o.k = 7 then doDuo s x
  else if s.o.k = 9 then doSeq s x
  else if s.o.k = 11 then doSem s x
  else if s.o.k = 12 then (some (0, []), s)
  else if s.o.k = 13 then doBar s x
  else if s.o.k = 14 then doRw s x
  else if s.o.k = 15 then doOnce s x
  else doLock s x
def doOb (th : Int) (s : St) (x : Ask) : Ans × St := if Asks th s.o x then doKind s x else (none, s)

/-! ### By all that was done -/
def ownStep (j : Int) (n : Int) (s : Stp) : Int :=
  if s.x.obj = j then
    let m := if (s.x.call = 1 ∧ s.r = 0) ∨ (s.x.call = 9 ∧ s.r = 5) then s.x.who else n
    if ((s.x.call = 2 ∨ s.x.call = 10) ∧ s.r = 0) ∧ m = s.x.who then -1 else m
  else n
def ownH (H : List Stp) (j : Int) : Int := H.foldl (ownStep j) (-1)
def readStep (j who : Int) (b : Bool) (s : Stp) : Bool :=
  if s.x.obj = j ∧ s.x.who = who ∧ s.r = 0 then (if s.x.call = 2 then false else if s.x.call = 3 then true else b) else b
def readH (H : List Stp) (j who : Int) : Bool := H.foldl (readStep j who) false
def manyStep (j call part who : Int) (n : Int) (s : Stp) : Int :=
  if s.x.obj = j ∧ s.x.call = call ∧ s.x.part = part ∧ s.r = 0 ∧ (who < 0 ∨ s.x.who = who) then n + 1 else n
def manyH (H : List Stp) (j call part who : Int) : Int := H.foldl (manyStep j call part who) 0
def isRel (j : Int) (s : Stp) : Bool := decide (s.x.obj = j ∧ s.x.call = 2 ∧ s.r = 0)
/-- The place of the last release, from a place on. -/
def lastN (j : Int) : List Stp → Nat → Int → Int
  | [], _, l => l
  | s :: r, i, l => lastN j r (i + 1) (if isRel j s = true then (i : Int) else l)
def lastH (H : List Stp) (j : Int) : Int := lastN j H 0 (-1)
def putStep (j : Int) (d : List Int) (s : Stp) : List Int := if s.x.obj = j ∧ s.x.call = 4 ∧ s.r = 0 then d.set s.x.arg.toNat s.x.val else d
def dataH (H : List Stp) (j n : Int) : List Int := (H.take (lastH H j).toNat).foldl (putStep j) (List.replicate n.toNat 0)
def refBar (o : Ob) (H : List Stp) (x : Ask) : Ans :=
  if o.n ≤ x.who then some (4, [])
  else if 8 < x.arg ∨ x.arg ≠ o.n then some (3, [])
  else if x.part = 1 then (if manyH H x.obj 9 1 x.who = manyH H x.obj 9 3 x.who then some (0, []) else none)
  else if x.part = 2 then (if (List.range o.n.toNat).any (fun t => decide (manyH H x.obj 9 1 t ≤ manyH H x.obj 9 2 (-1))) = true then none else some (0, []))
  else if x.part = 3 then (if manyH H x.obj 9 3 x.who < manyH H x.obj 9 1 x.who ∧ manyH H x.obj 9 1 x.who ≤ manyH H x.obj 9 2 (-1) then some (0, []) else none)
  else none
def refSem (o : Ob) (H : List Stp) (x : Ask) : Ans :=
  if x.call = 2 ∧ o.n + manyH H x.obj 2 0 (-1) - manyH H x.obj 1 0 (-1) = o.a then some (3, [])
  else if x.call = 1 ∧ o.n + manyH H x.obj 2 0 (-1) - manyH H x.obj 1 0 (-1) = 0 then none
  else some (0, [])
def mineH (H : List Stp) (x : Ask) : Prop := ownH H x.obj = x.who ∨ readH H x.obj x.who = true
instance (H : List Stp) (x : Ask) : Decidable (mineH H x) := by unfold mineH; infer_instance
def refRw (th : Int) (H : List Stp) (x : Ask) : Ans :=
  if x.call = 2 then (if mineH H x then some (0, []) else some (2, []))
  else if mineH H x then some (1, [])
  else if (List.range th.toNat).any (fun t => decide (ownH H x.obj = t) || (decide (x.call = 1) && readH H x.obj t)) = true then none
  else some (0, [])
def refOnce (H : List Stp) (x : Ask) : Ans :=
  if x.call = 10 then (if ownH H x.obj = x.who then some (0, []) else some (2, []))
  else if ownH H x.obj = x.who then some (1, [])
  else if 0 < manyH H x.obj 10 0 (-1) then some (0, [])
  else if 0 ≤ ownH H x.obj then none
  else some (5, [])
def refLock (H : List Stp) (x : Ask) : Ans :=
  if x.call = 1 then (if ownH H x.obj = x.who then some (1, []) else if 0 ≤ ownH H x.obj then none else some (0, []))
  else if ownH H x.obj = x.who then some (0, []) else some (2, [])
/-- What it is told, of an object. -/
def refOb (th : Int) (o : Ob) (H : List Stp) (x : Ask) : Ans :=
  if AskP o.k o.n o.a o.b x.call th x.who then
    if o.k = 13 then refBar o H x
    else if x.part ≠ 0 ∨ (x.call = 4 ∧ (2 < x.arg ∨ o.n ≤ x.arg)) then none
    else if o.k = 12 then some (0, [])
    else if o.k = 11 then refSem o H x
    else if (o.k = 6 ∨ o.k = 7) ∧ x.who ≠ o.a ∧ x.who ≠ o.b then some (4, [])
    else if o.k = 9 ∧ x.call = 3 then some (0, dataH H x.obj o.n)
    else if o.k = 14 then refRw th H x
    else if o.k = 15 then refOnce H x
    else refLock H x
  else none
end Go.Proofs.YtfemeiopfpblaaaDoor.As
