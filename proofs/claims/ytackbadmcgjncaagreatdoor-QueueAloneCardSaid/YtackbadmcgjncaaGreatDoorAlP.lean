/- Plain Lean: a thread alone that acquires twice and releases twice on a machine sc. No program in sight. -/
import Derived.Test.YtackbadmcgjncaaGreatDoorCoI
set_option linter.unusedVariables false
namespace Go.Proofs.YtackbadmcgjncaaGreatDoor.As

def scP : Port Sc := { size := fun s => (s.mem.length : Int), load := fun s a => s.mem.getD a 0, room := fun _ => true, store := Sc.store, empty := fun _ => true, flush := id, swap := Sc.store, remote := id, note := Sc.note }
/-- Code of which all places are so much greater. -/
def movedI (l : List Ins) (by_ : Nat) : List Ins := l.map fun i => if jumpsI i.op then { i with k := wr32 (i.k + by_) } else i
def outIns : Ins := ⟨22, 7, 0, 0, 0⟩
def joinI (l c : List Ins) : List Ins := l ++ movedI c l.length ++ [outIns]
def aloneCode (a b : List Ins) : List Ins := joinI (joinI (joinI (joinI [] a) a) b) b
/-- What is put out. -/
def outsI (l : List Ev) : List Int := (l.filter fun e => e.who == 0 && e.kind == 6).map Ev.val
def wd (x : Int) : Bool := decide (0 ≤ x) && decide (x ≤ 4294967295)
/-- What the locks' codes use. -/
def usesI (op : Int) : Bool := op == 1 || op == 2 || op == 3 || op == 12 || op == 13 || op == 14 || op == 15 || op == 16 || op == 17 || op == 18 || op == 19 || op == 20 || op == 21 || op == 22 || op == 25
def okI (n : Nat) (i : Ins) : Bool := rightI i n && wd i.k && usesI i.op
def okT (n : Nat) (t : Th) : Bool := decide (0 ≤ t.pc) && decide (t.pc ≤ n) && decide (t.regs.length = 8) && t.regs.all wd
def okS (s : Sc) : Bool := decide (s.evs.length ≤ 100000) && s.mem.all wd && decide (s.who = 0)
/-- From here on a thread alone does what it should, within so many steps. -/
def goodFrom (code : List Ins) (t own : Nat) : Nat → Th → Sc → Nat → Bool
  | 0, _, _, _ => false
  | f + 1, th, s, outs =>
    if th.st ≠ 0 then decide (th.st = 2) && decide (outsI s.evs = [0, 1, 0, 2])
    else okT code.length th && okS s && match stepI scP code th s with
      | none => false
      | some q =>
        if outs < (outsI q.2.evs).length then decide ((q.2.mem.getD (16 + own) 0 = (t : Int) + 1) ↔ (outsI q.2.evs).length ≤ 2) && goodFrom code t own f q.1 q.2 (outsI q.2.evs).length
        else goodFrom code t own f q.1 q.2 outs
def th0 : Th := ⟨0, [0, 0, 0, 0, 0, 0, 0, 0], 0⟩
def sc0 (mem : List Int) : Sc := ⟨List.replicate 16 0 ++ mem, [], 0⟩
/-- A thread alone does what it should. -/
def aloneGood (a b : List Ins) (mem : List Int) (t own : Nat) : Bool :=
  let code := aloneCode a b
  code.all (okI code.length) && decide (code.length ≤ 4000) && decide (16 + own < 16 + mem.length) && decide (mem.length ≤ 1000) && goodFrom code t own 1001 th0 (sc0 mem) 0
end Go.Proofs.YtackbadmcgjncaaGreatDoor.As
