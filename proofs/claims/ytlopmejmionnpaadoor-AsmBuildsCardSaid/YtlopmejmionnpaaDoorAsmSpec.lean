/- Plain Lean: code as text, and code gathered by a builder: what the packages asm, isa and deadlatchref02, deadlatchref04 come to. No program in sight. -/
namespace Go.Proofs.YtlopmejmionnpaaDoor.As

/-- Bytes. -/
abbrev B8 := List UInt8

/-- An instruction. -/
structure Ins where
  op : Int
  a : Int
  b : Int
  c : Int
  k : Int

/-! ### The kinds -/
def opNames : List B8 := [[104, 97, 108, 116], [115, 101, 116], [109, 111, 118, 101], [97, 100, 100], [115, 117, 98], [109, 117, 108], [97, 110, 100], [111, 114], [120, 111, 114], [115, 104, 108], [115, 104, 114], [108, 101, 115, 115], [115, 97, 109, 101], [106, 117, 109, 112], [122, 101, 114, 111], [115, 111, 109, 101], [108, 111, 97, 100], [115, 116, 111, 114, 101], [102, 101, 110, 99, 101], [115, 119, 97, 112], [102, 101, 116, 99, 104], [99, 97, 115], [111, 117, 116], [119, 97, 105, 116], [119, 97, 107, 101], [114, 101, 109, 111, 116, 101], [121, 105, 101, 108, 100], [109, 97, 114, 107]]
def opName (op : Int) : B8 := if 0 ≤ op ∧ op < 28 then opNames.getD op.toNat [] else []
/-- The fields of each kind, as letters. -/
def opFields : List B8 := [[], [65, 75], [65, 66], [65, 66, 67], [65, 66, 67], [65, 66, 67], [65, 66, 67], [65, 66, 67], [65, 66, 67], [65, 66, 67], [65, 66, 67], [65, 66, 67], [65, 66, 67], [84], [65, 84], [65, 84], [65, 77, 75], [65, 77, 75], [], [65, 77, 75], [65, 77, 75], [65, 67, 77, 75], [65], [65, 77, 75], [65, 77, 75], [], [], [65, 75]]
def opField (op : Int) : B8 := if 0 ≤ op ∧ op < 28 then opFields.getD op.toNat [] else []
def jumps (op : Int) : Bool := op == 13 || op == 14 || op == 15

/-! ### Names and numbers -/
def isLet (c : UInt8) : Bool := decide (97 ≤ c) && decide (c ≤ 122)
def isDig (c : UInt8) : Bool := decide (48 ≤ c) && decide (c ≤ 57)
/-- A place's name. -/
def nameOk : B8 → Bool
  | [] => false
  | c :: r => isLet c && (r.all (fun x => isLet x || isDig x) && decide (r.length < 20))

/-! ### A builder -/
structure BS where
  code : List Ins
  places : List (B8 × Nat)
  links : List (Nat × B8)
  bad : Bool
def BS.zero : BS := ⟨[], [], [], false⟩
def BS.find (s : BS) (name : B8) : Option Nat := (s.places.find? (fun p => p.1 == name)).map (·.2)
def BS.do_ (s : BS) (i : Ins) : BS := { s with code := s.code ++ [i] }
def BS.at_ (s : BS) (name : B8) : BS :=
  if (s.find name).isSome || !nameOk name then { s with bad := true } else { s with places := s.places ++ [(name, s.code.length)] }
def BS.go_ (s : BS) (op a : Int) (name : B8) : BS := { s with code := s.code ++ [⟨op, a, 0, 0, 0⟩], links := s.links ++ [(s.code.length, name)] }
def BS.set_ (s : BS) (a : Int) (k : Int) : BS := s.do_ ⟨1, a, 0, 0, k⟩
def BS.alu_ (s : BS) (op a x y : Int) : BS := s.do_ ⟨op, a, x, y, 0⟩
def BS.ask_ (s : BS) (op a : Int) (addr : Int) : BS := s.do_ ⟨op, a, 8, 0, addr⟩
def BS.cas_ (s : BS) (a c : Int) (addr : Int) : BS := s.do_ ⟨21, a, 8, c, addr⟩
/-- One link after the other is put in. -/
def BS.linkTo (s : BS) : List (Nat × B8) → List Ins → Option (List Ins)
  | [], out => some out
  | (i, name) :: r, out =>
    match s.find name, out[i]? with
    | some n, some x => if jumps x.op then s.linkTo r (out.set i { x with k := n }) else none
    | _, _ => none
def BS.out (s : BS) : Option (List Ins) := if s.bad then (s.linkTo s.links s.code).bind (fun _ => none) else s.linkTo s.links s.code
end Go.Proofs.YtlopmejmionnpaaDoor.As
