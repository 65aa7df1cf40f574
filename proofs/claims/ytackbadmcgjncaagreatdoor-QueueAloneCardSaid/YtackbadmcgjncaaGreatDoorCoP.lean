/- Plain Lean: a thread, an event, what an instruction does to a thread and to what it asks. No program in sight. -/
import Derived.Test.YtackbadmcgjncaaGreatDoorAsmSpec
set_option linter.unusedVariables false
namespace Go.Proofs.YtackbadmcgjncaaGreatDoor.As

/-- A thread. -/
structure Th where
  pc : Int
  regs : List Int
  st : Int
  deriving DecidableEq
/-- An event. -/
structure Ev where
  kind : Int
  who : Int
  pc : Int
  addr : Int
  val : Int
  old : Int
  k : Int
  ok : Bool
  deriving DecidableEq
def wr32 (x : Int) : Int := x % 4294967296
def Th.reg (t : Th) (i : Int) : Int := t.regs.getD i.toNat 0
def Th.put (t : Th) (i v : Int) : Th := { t with regs := t.regs.set i.toNat v }
def Th.next (t : Th) : Th := { t with pc := t.pc + 1 }
/-- What a thread asks: a machine of whatever states. -/
structure Port (σ : Type) where
  size : σ → Int
  load : σ → Nat → Int
  room : σ → Bool
  store : σ → Nat → Int → σ
  empty : σ → Bool
  flush : σ → σ
  swap : σ → Nat → Int → σ
  remote : σ → σ
  note : σ → Ev → σ
/-- The operations of two words that the locks use. -/
def aluI (op a b : Int) : Option Int :=
  if op = 3 then some (wr32 (a + b)) else if op = 4 then some (wr32 (a - b)) else if op = 5 then some (wr32 (a * b)) else if op = 12 then some (if a = b then 1 else 0) else none
def addrI (t : Th) (i : Ins) : Int := if i.b < 0 ∨ 8 ≤ i.b then i.k else wr32 (t.reg i.b + i.k)
def asksI (op : Int) : Prop := op = 16 ∨ op = 17 ∨ op = 19 ∨ op = 20 ∨ op = 21 ∨ op = 23 ∨ op = 24
instance (op : Int) : Decidable (asksI op) := by unfold asksI; infer_instance
def drainsI (op : Int) : Prop := op = 18 ∨ op = 19 ∨ op = 20 ∨ op = 21 ∨ op = 23 ∨ op = 24 ∨ op = 25
instance (op : Int) : Decidable (drainsI op) := by unfold drainsI; infer_instance
def jumpsI (op : Int) : Prop := op = 13 ∨ op = 14 ∨ op = 15
instance (op : Int) : Decidable (jumpsI op) := by unfold jumpsI; infer_instance
variable {σ : Type}
/-- What asks memory, its address at hand; none: what the locks do not use. -/
def asks (P : Port σ) (i : Ins) (ad : Nat) (t : Th) (s : σ) : Option (Th × σ) :=
  if i.op = 16 then
    let v := P.load s ad
    some (t.put i.a v, P.note s ⟨1, 0, t.pc, ad, v, 0, 0, false⟩)
  else if i.op = 17 then
    let v := t.reg i.a
    some (t, P.note (P.store s ad v) ⟨2, 0, t.pc, ad, v, 0, 0, false⟩)
  else if i.op = 19 then
    let o := P.load s ad
    let v := t.reg i.a
    some (t.put i.a o, P.note (P.swap s ad v) ⟨4, 0, t.pc, ad, v, o, 0, true⟩)
  else if i.op = 20 then
    let o := P.load s ad
    let v := wr32 (o + t.reg i.a)
    some (t.put i.a o, P.note (P.swap s ad v) ⟨4, 0, t.pc, ad, v, o, 0, true⟩)
  else if i.op = 21 then
    let o := P.load s ad
    let v := t.reg i.c
    if o = t.reg i.a then some (t.put i.a o, P.note (P.swap s ad v) ⟨4, 0, t.pc, ad, v, o, 0, true⟩)
    else some (t.put i.a o, P.note s ⟨4, 0, t.pc, ad, o, o, 0, false⟩)
  else none
/-- What asks nothing. -/
def plainI (P : Port σ) (i : Ins) (t : Th) (s : σ) : Option (Th × σ) :=
  if i.op = 1 then some (t.put i.a i.k, s)
  else if i.op = 2 then some (t.put i.a (t.reg i.b), s)
  else if i.op = 18 then some (t, P.note s ⟨5, 0, t.pc, 0, 0, 0, 0, false⟩)
  else if i.op = 22 then some (t, P.note s ⟨6, 0, t.pc, 0, t.reg i.a, 0, 0, false⟩)
  else if i.op = 27 then some (t, P.note s ⟨7, 0, t.pc, 0, t.reg i.a, 0, i.k, false⟩)
  else if i.op = 25 then some (t, P.note (P.remote s) ⟨10, 0, t.pc, 0, 0, 0, 0, false⟩)
  else if i.op = 26 then some (t, s)
  else (aluI i.op (t.reg i.b) (t.reg i.c)).map fun v => (t.put i.a v, s)
def goesI (i : Ins) (t : Th) : Bool := if i.op = 13 then true else if i.op = 14 then decide (t.reg i.a = 0) else decide (t.reg i.a ≠ 0)
/-- A thread's next instruction; none: what the locks do not come to. -/
def stepI (P : Port σ) (code : List Ins) (t : Th) (s : σ) : Option (Th × σ) :=
  if t.st ≠ 0 then some (t, s)
  else if t.pc < 0 ∨ (code.length : Int) ≤ t.pc then some ({ t with st := 2 }, P.note s ⟨12, 0, t.pc, 0, 0, 0, 0, false⟩)
  else match code[t.pc.toNat]? with
  | none => none
  | some i =>
    let ad := if asksI i.op then addrI t i else 0
    if asksI i.op ∧ P.size s ≤ ad then none
    else if (drainsI i.op ∧ P.empty s = false) ∨ (i.op = 17 ∧ P.room s = false) then some (t, P.flush s)
    else if i.op = 0 then some ({ t with st := 2 }, P.note s ⟨12, 0, t.pc, 0, 0, 0, 0, false⟩)
    else if jumpsI i.op then some (if goesI i t = true then { t with pc := i.k } else t.next, s)
    else if asksI i.op then (asks P i ad.toNat t s).map fun q => (q.1.next, q.2)
    else (plainI P i t s).map fun q => (q.1.next, q.2)
end Go.Proofs.YtackbadmcgjncaaGreatDoor.As
