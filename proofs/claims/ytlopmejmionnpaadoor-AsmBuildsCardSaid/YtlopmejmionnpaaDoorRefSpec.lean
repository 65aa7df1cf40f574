/- Plain Lean: the document's reading of code as text (the package deadlatchref04), by lists of bytes. No program in sight. -/
import Derived.Test.YtlopmejmionnpaaDoorAsmSpec
namespace Go.Proofs.YtlopmejmionnpaaDoor.As

/-- A text, parted by a byte. -/
def splitB (by_ : UInt8) : B8 → List B8
  | [] => [[]]
  | c :: r => if c = by_ then [] :: splitB by_ r else
    match splitB by_ r with
    | h :: t => (c :: h) :: t
    | [] => [[c]]
/-- The value of digits. -/
def valB (l : B8) : Nat := l.foldl (fun n c => 10 * n + (c.toNat - 48)) 0
/-- A word; -1: it is none. -/
def numB (l : B8) : Int :=
  if l.length = 0 ∨ 10 < l.length ∨ (1 < l.length ∧ l[0]? = some 48) then -1 else if l.all isDig then (if 4294967295 < valB l then -1 else (valB l : Int)) else -1
/-- A register; -1: it is none. -/
def regB : B8 → Int
  | [r, c] => if r = 114 ∧ 48 ≤ c.toNat ∧ c.toNat ≤ 55 then (c.toNat : Int) - 48 else -1
  | _ => -1
/-- A kind's number; -1: it is none. -/
def opB (name : B8) : Int := if opNames.contains name then (opNames.idxOf name : Int) else -1
/-- The rows of the table. -/
def opRows : List B8 := [[104, 97, 108, 116], [115, 101, 116, 32, 65, 75], [109, 111, 118, 101, 32, 65, 66], [97, 100, 100, 32, 65, 66, 67], [115, 117, 98, 32, 65, 66, 67], [109, 117, 108, 32, 65, 66, 67], [97, 110, 100, 32, 65, 66, 67], [111, 114, 32, 65, 66, 67], [120, 111, 114, 32, 65, 66, 67], [115, 104, 108, 32, 65, 66, 67], [115, 104, 114, 32, 65, 66, 67], [108, 101, 115, 115, 32, 65, 66, 67], [115, 97, 109, 101, 32, 65, 66, 67], [106, 117, 109, 112, 32, 84], [122, 101, 114, 111, 32, 65, 84], [115, 111, 109, 101, 32, 65, 84], [108, 111, 97, 100, 32, 65, 77, 75], [115, 116, 111, 114, 101, 32, 65, 77, 75], [102, 101, 110, 99, 101], [115, 119, 97, 112, 32, 65, 77, 75], [102, 101, 116, 99, 104, 32, 65, 77, 75], [99, 97, 115, 32, 65, 67, 77, 75], [111, 117, 116, 32, 65], [119, 97, 105, 116, 32, 65, 77, 75], [119, 97, 107, 101, 32, 65, 77, 75], [114, 101, 109, 111, 116, 101], [121, 105, 101, 108, 100], [109, 97, 114, 107, 32, 65, 75]]
/-- What an address is: its base, its word; below 0: it is none. -/
def addrB (l : B8) : Int × Int :=
  if l.length < 3 ∨ l[0]? ≠ some 91 ∨ l[l.length - 1]? ≠ some 93 then (-1, -1) else
    let s := (l.drop 1).take (l.length - 2)
    if s.contains 43 then
      let i := s.idxOf 43
      if regB (s.take i) < 0 then (-1, -1) else (regB (s.take i), numB (s.drop (i + 1)))
    else (8, numB s)
def hasB (op : Int) (c : UInt8) : Bool := (opField op).contains c
def ifMemB (f : B8) : Int := if f.contains 77 then 1 else 0
/-- The fields of a line, one behind the other. -/
def fieldsB : B8 → List B8 → Ins → B8 → Option (Ins × B8)
  | [], _, i, to => some (i, to)
  | _ :: _, [], _, _ => none
  | f :: r, w :: ws, i, to =>
    if f = 65 ∨ f = 66 ∨ f = 67 then
      if regB w < 0 then none else fieldsB r ws (if f = 65 then { i with a := regB w } else if f = 66 then { i with b := regB w } else { i with c := regB w }) to
    else if f = 77 then
      if (addrB w).1 < 0 ∨ (addrB w).2 < 0 then none else some ({ i with b := (addrB w).1, k := (addrB w).2 }, [])
    else if f = 75 then
      if numB w < 0 then none else fieldsB r ws { i with k := numB w } to
    else if f = 84 then
      if w.length < 2 ∨ w[0]? ≠ some 64 then none else
        if 0 ≤ numB (w.drop 1) then fieldsB r ws { i with k := numB (w.drop 1) } to
        else if nameOk (w.drop 1) then fieldsB r ws i (w.drop 1)
        else none
    else fieldsB r ws i to
/-- A line's instruction, and the name that it jumps to. -/
def readB (t : B8) : Option (Ins × B8) :=
  let words := splitB 32 t
  let op := opB (words.headD [])
  if op < 0 then none else
    if (words.length : Int) ≠ (opField op).length + 1 - ifMemB (opField op) then none else fieldsB (opField op) words.tail ⟨op, 0, 0, 0, 0⟩ []
/-- The place of a name among lines; -1: there is none. -/
def placeGo (name : B8) : Int → List B8 → Int
  | _, [] => -1
  | n, l :: r => if l = [] then placeGo name n r else if l = name ++ [58] then n else placeGo name (if l.getLast? = some 58 then n else n + 1) r
def placeB (lines : List B8) (name : B8) : Int := placeGo name 0 lines
/-- One line more, at number n, in the first going through. -/
def lineB (lines : List B8) (n : Nat) (t : B8) (out : List Ins) : Except (Int × Int) (List Ins) :=
  if t = [] then .ok out
  else if t.getLast? = some 58 then
    if nameOk t.dropLast = false then .error (n + 1, 3)
    else if 0 ≤ placeB (lines.take n) t.dropLast then .error (n + 1, 6)
    else .ok out
  else match readB t with
    | none => .error (n + 1, 3)
    | some (i, _) => if 4000 ≤ out.length then .error (n + 1, 4) else .ok (out ++ [i])
/-- The first going through, of the first n lines. -/
def pass1 (lines : List B8) : Nat → Except (Int × Int) (List Ins)
  | 0 => .ok []
  | n + 1 => (pass1 lines n).bind (fun out => lineB lines n (lines.getD n []) out)
/-- One line more in the second going through; the number of instructions ahead. -/
def jumpB (lines : List B8) (n : Nat) (t : B8) (k : Nat) (out : List Ins) : Except (Int × Int) (Nat × List Ins) :=
  if t = [] ∨ t.getLast? = some 58 then .ok (k, out)
  else match readB t with
    | none => .ok (k + 1, out)
    | some (i, to) =>
      if hasB i.op 84 then
        if to ≠ [] ∧ placeB lines to < 0 then .error (n + 1, 5) else
          let out' := if to = [] then out else out.modify k (fun x => { x with k := placeB lines to })
          if (out.length : Int) < (out'.getD k ⟨0, 0, 0, 0, 0⟩).k then .error (n + 1, 5) else .ok (k + 1, out')
      else .ok (k + 1, out)
def pass2 (lines : List B8) (out : List Ins) : Nat → Except (Int × Int) (Nat × List Ins)
  | 0 => .ok (0, out)
  | n + 1 => (pass2 lines out n).bind (fun r => jumpB lines n (lines.getD n []) r.1 r.2)
/-- The code, the line, the error. -/
def parseB (s : B8) : List Ins × Int × Int :=
  if 20000 < s.length then ([], 0, 4) else
    let lines := splitB 10 s
    match pass1 lines lines.length with
    | .error (n, e) => ([], n, e)
    | .ok out =>
      match pass2 lines out lines.length with
      | .error (n, e) => ([], n, e)
      | .ok r => (r.2, 0, 0)
end Go.Proofs.YtlopmejmionnpaaDoor.As
