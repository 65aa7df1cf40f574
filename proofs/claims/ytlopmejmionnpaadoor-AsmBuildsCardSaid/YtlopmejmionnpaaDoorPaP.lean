/- Plain Lean: the package asm's own reading of code as text (a line's words taken one by one; places and jumps gathered on the way) is the document's. No program in sight. -/
import Derived.Test.YtlopmejmionnpaaDoorRefL
set_option linter.unusedSimpArgs false
namespace Go.Proofs.YtlopmejmionnpaaDoor.As

/-- How an instruction's words are taken: the letters of its fields, an address's own word left out. -/
def formB (op : Int) : B8 := if (opField op).contains 77 then (opField op).filter (fun c => c != 75) else opField op
/-- What a line is read into: the words left, the instruction, the name. -/
structure LS where
  ws : List B8
  i : Ins
  to : B8
def LS.reg (s : LS) (f : UInt8) (n : Int) : LS := { s with i := if f = 65 then { s.i with a := n } else if f = 66 then { s.i with b := n } else { s.i with c := n } }
/-- One word is taken. -/
def takeB (f : UInt8) (s : LS) : Option LS :=
  match s.ws with
  | [] => none
  | w :: r =>
    if f = 75 then (if numB w < 0 then none else some ⟨r, { s.i with k := numB w }, s.to⟩)
    else if f = 84 then
      (if w[0]? = some 64 then (if 0 ≤ numB (w.drop 1) then some ⟨r, { s.i with k := numB (w.drop 1) }, s.to⟩ else if nameOk (w.drop 1) = true then some ⟨r, s.i, w.drop 1⟩ else none) else none)
    else if f = 77 then (if (addrB w).1 < 0 ∨ (addrB w).2 < 0 then none else some ⟨r, { s.i with b := (addrB w).1, k := (addrB w).2 }, s.to⟩)
    else (if regB w < 0 then none else some (LS.reg ⟨r, s.i, s.to⟩ f (regB w)))
def takesB : B8 → LS → Option LS
  | [], s => some s
  | f :: r, s => (takeB f s).bind (takesB r)
def endB (o : Option LS) : Option (Ins × B8) := o.bind (fun s => if s.ws = [] then some (s.i, s.to) else none)
def readP : List B8 → Option (Ins × B8)
  | [] => none
  | w :: r => if opB w < 0 then none else endB (takesB (formB (opB w)) ⟨r, ⟨opB w, 0, 0, 0, 0⟩, []⟩)

/-! ### A line is read as the document says -/
theorem form_cases (op : Int) (h0 : 0 ≤ op) (h1 : op < 28) : (opField op, formB op) = ([], []) ∨ (opField op, formB op) = ([65, 75], [65, 75]) ∨ (opField op, formB op) = ([65, 66], [65, 66]) ∨ (opField op, formB op) = ([65, 66, 67], [65, 66, 67]) ∨
    (opField op, formB op) = ([84], [84]) ∨ (opField op, formB op) = ([65, 84], [65, 84]) ∨ (opField op, formB op) = ([65, 77, 75], [65, 77]) ∨ (opField op, formB op) = ([65, 67, 77, 75], [65, 67, 77]) ∨ (opField op, formB op) = ([65], [65]) := by
  obtain ⟨n, rfl⟩ := Int.eq_ofNat_of_zero_le h0
  have h2 : n = 0 ∨ n = 1 ∨ n = 2 ∨ n = 3 ∨ n = 4 ∨ n = 5 ∨ n = 6 ∨ n = 7 ∨ n = 8 ∨ n = 9 ∨ n = 10 ∨ n = 11 ∨ n = 12 ∨ n = 13 ∨ n = 14 ∨ n = 15 ∨ n = 16 ∨ n = 17 ∨ n = 18 ∨ n = 19 ∨ n = 20 ∨ n = 21 ∨ n = 22 ∨ n = 23 ∨ n = 24 ∨ n = 25 ∨ n = 26 ∨ n = 27 := by omega
  rcases h2 with h | h | h | h | h | h | h | h | h | h | h | h | h | h | h | h | h | h | h | h | h | h | h | h | h | h | h | h <;> subst h <;>
    first | exact .inl rfl | exact .inr (.inl rfl) | exact .inr (.inr (.inl rfl)) | exact .inr (.inr (.inr (.inl rfl))) | exact .inr (.inr (.inr (.inr (.inl rfl)))) | exact .inr (.inr (.inr (.inr (.inr (.inl rfl))))) | exact .inr (.inr (.inr (.inr (.inr (.inr (.inl rfl)))))) | exact .inr (.inr (.inr (.inr (.inr (.inr (.inr (.inl rfl))))))) | exact .inr (.inr (.inr (.inr (.inr (.inr (.inr (.inr rfl)))))))
def goB (f : B8) (r : List B8) (i : Ins) : Option (Ins × B8) := if ((r.length + 1 : Nat) : Int) ≠ f.length + 1 - ifMemB f then none else fieldsB f r i []
theorem opB_lt (w : B8) : opB w < 28 := by
  unfold opB
  split
  · rename_i h
    have : opNames.idxOf w < opNames.length := List.idxOf_lt_length_of_mem (by simpa using h)
    have e : opNames.length = 28 := by decide
    omega
  · omega
theorem place_eq (w : B8) (X : Option LS) (Y : Option LS) : (if w.length < 2 ∨ w[0]? ≠ some 64 then none else if 0 ≤ numB (w.drop 1) then X else if nameOk (w.drop 1) then Y else none)
    = (if w[0]? = some 64 then (if 0 ≤ numB (w.drop 1) then X else if nameOk (w.drop 1) = true then Y else none) else none) := by
  by_cases h : w[0]? = some 64
  · rw [if_pos h]
    by_cases h2 : w.length < 2
    · rw [if_pos (.inl h2)]
      have : w.drop 1 = [] := by
        apply List.eq_nil_of_length_eq_zero
        rw [List.length_drop]; omega
      rw [this]
      have e1 : ¬ 0 ≤ numB [] := by decide
      have e2 : ¬ nameOk [] = true := by decide
      rw [if_neg e1, if_neg e2]
    · rw [if_neg (by simp [h2, h])]
  · rw [if_neg h, if_pos (.inr h)]
theorem go0 (r : List B8) (i : Ins) : goB [] r i = endB (takesB [] ⟨r, i, []⟩) := by
  cases r with
  | nil => simp [goB, takesB, endB, ifMemB, fieldsB]
  | cons x r => simp [goB, takesB, endB, ifMemB, fieldsB]; omega
theorem goA (r : List B8) (i : Ins) : goB [65] r i = endB (takesB [65] ⟨r, i, []⟩) := by
  match r with
  | [] => simp [goB, takesB, takeB, endB, ifMemB, fieldsB]
  | [x] => by_cases h : regB x < 0 <;> simp [goB, takesB, takeB, endB, ifMemB, fieldsB, LS.reg, h]
  | x :: y :: r => by_cases h : regB x < 0 <;> simp [goB, takesB, takeB, endB, ifMemB, fieldsB, LS.reg, h] <;> omega
theorem goAB (r : List B8) (i : Ins) : goB [65, 66] r i = endB (takesB [65, 66] ⟨r, i, []⟩) := by
  match r with
  | [] => simp [goB, takesB, takeB, endB, ifMemB, fieldsB]
  | [x] => by_cases h : regB x < 0 <;> simp [goB, takesB, takeB, endB, ifMemB, fieldsB, LS.reg, h]
  | [x, y] => by_cases h : regB x < 0 <;> by_cases h2 : regB y < 0 <;> simp [goB, takesB, takeB, endB, ifMemB, fieldsB, LS.reg, h, h2]
  | x :: y :: z :: r => by_cases h : regB x < 0 <;> by_cases h2 : regB y < 0 <;> simp [goB, takesB, takeB, endB, ifMemB, fieldsB, LS.reg, h, h2] <;> omega
theorem goABC (r : List B8) (i : Ins) : goB [65, 66, 67] r i = endB (takesB [65, 66, 67] ⟨r, i, []⟩) := by
  match r with
  | [] => simp [goB, takesB, takeB, endB, ifMemB, fieldsB]
  | [x] => by_cases h : regB x < 0 <;> simp [goB, takesB, takeB, endB, ifMemB, fieldsB, LS.reg, h]
  | [x, y] => by_cases h : regB x < 0 <;> by_cases h2 : regB y < 0 <;> simp [goB, takesB, takeB, endB, ifMemB, fieldsB, LS.reg, h, h2]
  | [x, y, z] => by_cases h : regB x < 0 <;> by_cases h2 : regB y < 0 <;> by_cases h3 : regB z < 0 <;> simp [goB, takesB, takeB, endB, ifMemB, fieldsB, LS.reg, h, h2, h3]
  | x :: y :: z :: u :: r => by_cases h : regB x < 0 <;> by_cases h2 : regB y < 0 <;> by_cases h3 : regB z < 0 <;> simp [goB, takesB, takeB, endB, ifMemB, fieldsB, LS.reg, h, h2, h3] <;> omega
theorem goAK (r : List B8) (i : Ins) : goB [65, 75] r i = endB (takesB [65, 75] ⟨r, i, []⟩) := by
  match r with
  | [] => simp [goB, takesB, takeB, endB, ifMemB, fieldsB]
  | [x] => by_cases h : regB x < 0 <;> simp [goB, takesB, takeB, endB, ifMemB, fieldsB, LS.reg, h]
  | [x, y] => by_cases h : regB x < 0 <;> by_cases h2 : numB y < 0 <;> simp [goB, takesB, takeB, endB, ifMemB, fieldsB, LS.reg, h, h2]
  | x :: y :: z :: r => by_cases h : regB x < 0 <;> by_cases h2 : numB y < 0 <;> simp [goB, takesB, takeB, endB, ifMemB, fieldsB, LS.reg, h, h2] <;> omega
theorem goAM (r : List B8) (i : Ins) : goB [65, 77, 75] r i = endB (takesB [65, 77] ⟨r, i, []⟩) := by
  match r with
  | [] => simp [goB, takesB, takeB, endB, ifMemB, fieldsB]
  | [x] => by_cases h : regB x < 0 <;> simp [goB, takesB, takeB, endB, ifMemB, fieldsB, LS.reg, h]
  | [x, y] => by_cases h : regB x < 0 <;> by_cases h2 : (addrB y).1 < 0 ∨ (addrB y).2 < 0 <;> simp [goB, takesB, takeB, endB, ifMemB, fieldsB, LS.reg, h, h2]
  | x :: y :: z :: r => by_cases h : regB x < 0 <;> by_cases h2 : (addrB y).1 < 0 ∨ (addrB y).2 < 0 <;> simp [goB, takesB, takeB, endB, ifMemB, fieldsB, LS.reg, h, h2] <;> omega
theorem goACM (r : List B8) (i : Ins) : goB [65, 67, 77, 75] r i = endB (takesB [65, 67, 77] ⟨r, i, []⟩) := by
  match r with
  | [] => simp [goB, takesB, takeB, endB, ifMemB, fieldsB]
  | [x] => by_cases h : regB x < 0 <;> simp [goB, takesB, takeB, endB, ifMemB, fieldsB, LS.reg, h]
  | [x, y] => by_cases h : regB x < 0 <;> by_cases h2 : regB y < 0 <;> simp [goB, takesB, takeB, endB, ifMemB, fieldsB, LS.reg, h, h2]
  | [x, y, z] => by_cases h : regB x < 0 <;> by_cases h2 : regB y < 0 <;> by_cases h3 : (addrB z).1 < 0 ∨ (addrB z).2 < 0 <;> simp [goB, takesB, takeB, endB, ifMemB, fieldsB, LS.reg, h, h2, h3]
  | x :: y :: z :: u :: r => by_cases h : regB x < 0 <;> by_cases h2 : regB y < 0 <;> by_cases h3 : (addrB z).1 < 0 ∨ (addrB z).2 < 0 <;> simp [goB, takesB, takeB, endB, ifMemB, fieldsB, LS.reg, h, h2, h3] <;> omega
theorem fields_T (w : B8) (i : Ins) : fieldsB [84] [w] i [] = endB (takeB 84 ⟨[w], i, []⟩) := by
  have h1 : fieldsB [84] [w] i [] = ((if w.length < 2 ∨ w[0]? ≠ some 64 then none else if 0 ≤ numB (w.drop 1) then some ⟨[], { i with k := numB (w.drop 1) }, []⟩ else if nameOk (w.drop 1) then some ⟨[], i, w.drop 1⟩ else none) : Option LS).bind (fun s => some (s.i, s.to)) := by
    unfold fieldsB
    rw [if_neg (show ¬ ((84 : UInt8) = 65 ∨ (84 : UInt8) = 66 ∨ (84 : UInt8) = 67) by decide), if_neg (show ¬ (84 : UInt8) = 77 by decide), if_neg (show ¬ (84 : UInt8) = 75 by decide), if_pos rfl]
    split
    · rfl
    · split
      · rfl
      · split <;> rfl
  rw [h1, place_eq]
  unfold takeB endB
  simp only []
  rw [if_neg (show ¬ (84 : UInt8) = 75 by decide), if_pos trivial]
  split
  · split
    · rfl
    · split <;> rfl
  · rfl
theorem goT (r : List B8) (i : Ins) : goB [84] r i = endB (takesB [84] ⟨r, i, []⟩) := by
  match r with
  | [] => simp [goB, takesB, takeB, endB, ifMemB, fieldsB]
  | [x] =>
    have e1 : goB [84] [x] i = fieldsB [84] [x] i [] := by unfold goB; rw [if_neg (by simp [ifMemB])]
    have e2 : takesB [84] ⟨[x], i, []⟩ = takeB 84 ⟨[x], i, []⟩ := by
      show (takeB 84 _).bind (takesB []) = _
      cases takeB 84 ⟨[x], i, []⟩ <;> rfl
    rw [e1, e2, fields_T]
  | x :: y :: r =>
    have e1 : goB [84] (x :: y :: r) i = none := by unfold goB; rw [if_pos (by simp [ifMemB]; omega)]
    rw [e1]
    show none = endB ((takeB 84 _).bind (takesB []))
    unfold takeB
    simp only []
    rw [if_neg (show ¬ (84 : UInt8) = 75 by decide), if_pos trivial]
    split
    · split
      · rfl
      · split <;> rfl
    · rfl
theorem goAT (r : List B8) (i : Ins) : goB [65, 84] r i = endB (takesB [65, 84] ⟨r, i, []⟩) := by
  match r with
  | [] => simp [goB, takesB, takeB, endB, ifMemB, fieldsB]
  | [x] => by_cases h : regB x < 0 <;> simp [goB, takesB, takeB, endB, ifMemB, fieldsB, LS.reg, h]
  | [x, y] =>
    by_cases h : regB x < 0
    · simp [goB, takesB, takeB, endB, ifMemB, fieldsB, LS.reg, h]
    · have e1 : goB [65, 84] [x, y] i = fieldsB [84] [y] { i with a := regB x } [] := by
        unfold goB; rw [if_neg (by simp [ifMemB])]
        rw [fieldsB, if_pos (.inl rfl), if_neg h, if_pos rfl]
      have e2 : takesB [65, 84] ⟨[x, y], i, []⟩ = takesB [84] ⟨[y], { i with a := regB x }, []⟩ := by
        show (takeB 65 _).bind (takesB [84]) = _
        simp [takeB, h, LS.reg]
      have e3 : takesB [84] ⟨[y], { i with a := regB x }, []⟩ = takeB 84 ⟨[y], { i with a := regB x }, []⟩ := by
        show (takeB 84 _).bind (takesB []) = _
        cases takeB 84 ⟨[y], { i with a := regB x }, []⟩ <;> rfl
      rw [e1, e2, e3, fields_T]
  | x :: y :: z :: r =>
    have e1 : goB [65, 84] (x :: y :: z :: r) i = none := by unfold goB; rw [if_pos (by simp [ifMemB]; omega)]
    rw [e1]
    by_cases h : regB x < 0
    · simp [takesB, takeB, endB, LS.reg, h]
    · have e2 : takesB [65, 84] ⟨x :: y :: z :: r, i, []⟩ = takesB [84] ⟨y :: z :: r, { i with a := regB x }, []⟩ := by
        show (takeB 65 _).bind (takesB [84]) = _
        simp [takeB, h, LS.reg]
      rw [e2]
      show none = endB ((takeB 84 _).bind (takesB []))
      unfold takeB
      simp only []
      rw [if_neg (show ¬ (84 : UInt8) = 75 by decide), if_pos trivial]
      split
      · split
        · rfl
        · split <;> rfl
      · rfl
theorem readP_eq (t : B8) : readP (splitB 32 t) = readB t := by
  unfold readB
  have hne := splitB_ne' 32 t
  obtain ⟨w, r, hw⟩ : ∃ w r, splitB 32 t = w :: r := by
    cases h : splitB 32 t with
    | nil => exact absurd h hne
    | cons w r => exact ⟨w, r, rfl⟩
  rw [hw]
  show (if opB w < 0 then none else _) = if opB w < 0 then none else _
  by_cases h : opB w < 0
  · rw [if_pos h, if_pos h]
  · rw [if_neg h, if_neg h]
    show endB (takesB (formB (opB w)) ⟨r, ⟨opB w, 0, 0, 0, 0⟩, []⟩) = goB (opField (opB w)) r ⟨opB w, 0, 0, 0, 0⟩
    generalize (⟨opB w, 0, 0, 0, 0⟩ : Ins) = i
    rcases form_cases (opB w) (by omega) (opB_lt w) with e | e | e | e | e | e | e | e | e <;> (injection e with e1 e2; rw [e1, e2])
    · exact (go0 r i).symm
    · exact (goAK r i).symm
    · exact (goAB r i).symm
    · exact (goABC r i).symm
    · exact (goT r i).symm
    · exact (goAT r i).symm
    · exact (goAM r i).symm
    · exact (goACM r i).symm
    · exact (goA r i).symm

/-! ### Places -/
theorem placeGo_snoc (nm t : B8) : ∀ (l : List B8) (k : Int), 0 ≤ k → placeGo nm k (l ++ [t]) = if 0 ≤ placeGo nm k l then placeGo nm k l else if t = nm ++ [58] then k + (l.filter isI).length else -1
  | [], k, hk => by
    have e0 : placeGo nm k [] = -1 := rfl
    rw [e0, if_neg (by omega)]
    show placeGo nm k [t] = _
    by_cases h1 : t = []
    · rw [placeGo, if_pos h1, h1, if_neg (by simp)]; rfl
    · rw [placeGo, if_neg h1]
      by_cases h2 : t = nm ++ [58]
      · rw [if_pos h2, if_pos h2]; simp
      · rw [if_neg h2, if_neg h2]; rfl
  | x :: l, k, hk => by
    show placeGo nm k (x :: (l ++ [t])) = _
    rw [placeGo, placeGo]
    by_cases h1 : x = []
    · rw [if_pos h1, if_pos h1, placeGo_snoc nm t l k hk]
      have : isI x = false := isI_no (.inl h1)
      rw [List.filter_cons_of_neg (by simp [this])]
    · rw [if_neg h1, if_neg h1]
      by_cases h2 : x = nm ++ [58]
      · rw [if_pos h2, if_pos h2, if_pos hk]
      · rw [if_neg h2, if_neg h2]
        by_cases h3 : x.getLast? = some 58
        · rw [if_pos h3, placeGo_snoc nm t l k hk]
          have : isI x = false := isI_no (.inr h3)
          rw [List.filter_cons_of_neg (by simp [this])]
        · rw [if_neg h3, placeGo_snoc nm t l (k + 1) (by omega)]
          have : isI x = true := isI_yes h1 h3
          rw [List.filter_cons_of_pos this, List.length_cons]
          split
          · rfl
          · split
            · push_cast; omega
            · rfl
theorem cntI_take (ws : List B8) : ∀ n, n ≤ ws.length → cntI ws n = ((ws.take n).filter isI).length
  | 0, _ => by simp [cntI]
  | n + 1, h => by
    have hn : n < ws.length := by omega
    rw [List.take_succ_eq_append_getElem hn, List.filter_append, List.length_append, cntI, cntI_take ws n (by omega)]
    have e : ws.getD n [] = ws[n] := by simp [hn]
    rw [e]
    cases h : isI ws[n] <;> simp [h]
theorem placeB_take (ws : List B8) (nm : B8) (n : Nat) (hn : n < ws.length) :
    placeB (ws.take (n + 1)) nm = if 0 ≤ placeB (ws.take n) nm then placeB (ws.take n) nm else if ws.getD n [] = nm ++ [58] then (cntI ws n : Int) else -1 := by
  have e : ws.getD n [] = ws[n] := by simp [hn]
  rw [List.take_succ_eq_append_getElem hn, e, cntI_take ws n (by omega)]
  unfold placeB
  rw [placeGo_snoc nm _ _ 0 (by omega)]
  simp
/-- What the package's map of places holds behind n lines. -/
def findP (ws : List B8) (n : Nat) (nm : B8) : Option Nat := if 0 ≤ placeB (ws.take n) nm then some (placeB (ws.take n) nm).toNat else none
theorem findP_zero (ws : List B8) (nm : B8) : findP ws 0 nm = none := by
  unfold findP; rw [if_neg (by simp [placeB, placeGo])]
theorem findP_keep (ws : List B8) (n : Nat) (hn : n < ws.length) (h : ws.getD n [] = [] ∨ (ws.getD n []).getLast? ≠ some 58) : findP ws (n + 1) = findP ws n := by
  funext nm
  unfold findP
  rw [placeB_take ws nm n hn]
  have : ¬ (ws.getD n [] = nm ++ [58]) := by
    rcases h with h | h
    · rw [h]; simp
    · intro e; apply h; rw [e]; simp
  rw [if_neg this]
  by_cases h0 : 0 ≤ placeB (ws.take n) nm
  · simp only [if_pos h0]
  · simp only [if_neg h0]; rfl
theorem findP_put (ws : List B8) (n : Nat) (hn : n < ws.length) (nm0 : B8) (h : ws.getD n [] = nm0 ++ [58]) (h0 : findP ws n nm0 = none) : findP ws (n + 1) = fun nm => if nm = nm0 then some (cntI ws n) else findP ws n nm := by
  funext nm
  have e := placeB_take ws nm n hn
  by_cases hc : nm = nm0
  · subst hc
    have hneg : ¬ 0 ≤ placeB (ws.take n) nm := by
      intro hh; unfold findP at h0; rw [if_pos hh] at h0; cases h0
    rw [if_pos rfl]
    unfold findP
    rw [e, if_neg hneg, if_pos h, if_pos (by omega)]
    simp
  · rw [if_neg hc]
    have : ¬ (ws.getD n [] = nm ++ [58]) := by
      rw [h]; intro e'; exact hc (List.append_cancel_right e').symm
    rw [if_neg this] at e
    unfold findP
    rw [e]
    by_cases h1 : 0 ≤ placeB (ws.take n) nm
    · simp only [if_pos h1]
    · simp only [if_neg h1]; rfl
theorem findP_all (ws : List B8) (nm : B8) : findP ws ws.length nm = if 0 ≤ placeB ws nm then some (placeB ws nm).toNat else none := by
  unfold findP; rw [List.take_length]

/-! ### Jumps -/
/-- A jump: its place, its line, the name. -/
structure Jmp where
  at_ : Nat
  line : Nat
  to : B8
def jmpOf (ws : List B8) (n : Nat) : List Jmp :=
  if isI (ws.getD n []) then (match readB (ws.getD n []) with | some x => if hasB x.1.op 84 then [⟨cntI ws n, n + 1, x.2⟩] else [] | none => []) else []
def jmps (ws : List B8) : Nat → List Jmp
  | 0 => []
  | n + 1 => jmps ws n ++ jmpOf ws n
def runJ1 (ws : List B8) (j : Jmp) (out : List Ins) : Except (Int × Int) (List Ins) :=
  if j.to ≠ [] ∧ placeB ws j.to < 0 then .error (j.line, 5) else
    let out' := if j.to = [] then out else out.modify j.at_ (fun x => { x with k := placeB ws j.to })
    if (out.length : Int) < (out'.getD j.at_ ⟨0, 0, 0, 0, 0⟩).k then .error (j.line, 5) else .ok out'
def runJ (ws : List B8) : List Jmp → List Ins → Except (Int × Int) (List Ins)
  | [], out => .ok out
  | j :: r, out => (runJ1 ws j out).bind (runJ ws r)
theorem runJ_app (ws : List B8) : ∀ (a b : List Jmp) (out : List Ins), runJ ws (a ++ b) out = (runJ ws a out).bind (runJ ws b)
  | [], b, out => rfl
  | j :: a, b, out => by
    show (runJ1 ws j out).bind (runJ ws (a ++ b)) = ((runJ1 ws j out).bind (runJ ws a)).bind (runJ ws b)
    cases runJ1 ws j out with
    | error e => rfl
    | ok o => exact runJ_app ws a b o
theorem ite_run (ws : List B8) (c : Prop) [Decidable c] (e : Int × Int) (m : Nat) (o : List Ins) : (if c then Except.error e else Except.ok (m, o)) = ((if c then Except.error e else Except.ok o).bind (runJ ws [])).map (fun o => (m, o)) := by
  split <;> rfl
theorem pass2_run (ws : List B8) (out : List Ins) : ∀ n, pass2 ws out n = (runJ ws (jmps ws n) out).map (fun o => (cntI ws n, o))
  | 0 => rfl
  | n + 1 => by
    rw [pass2, pass2_run ws out n, jmps, runJ_app]
    cases h : runJ ws (jmps ws n) out with
    | error e => rfl
    | ok o =>
      show jumpB ws n (ws.getD n []) (cntI ws n) o = (runJ ws (jmpOf ws n) o).map _
      unfold jumpB jmpOf
      by_cases hi : isI (ws.getD n []) = true
      · have hn : ¬ (ws.getD n [] = [] ∨ (ws.getD n []).getLast? = some 58) := by intro e; rw [isI_no e] at hi; cases hi
        rw [if_neg hn, if_pos hi]
        have hc : cntI ws (n + 1) = cntI ws n + 1 := by rw [cntI, if_pos hi]
        rw [hc]
        cases readB (ws.getD n []) with
        | none => rfl
        | some x =>
          obtain ⟨i, to⟩ := x
          simp only []
          by_cases hj : hasB i.op 84 = true
          · rw [if_pos hj, if_pos hj]
            show _ = ((runJ1 ws ⟨cntI ws n, n + 1, to⟩ o).bind (runJ ws [])).map _
            unfold runJ1
            simp only []
            by_cases h1 : to ≠ [] ∧ placeB ws to < 0
            · rw [if_pos h1, if_pos h1]; rfl
            · rw [if_neg h1, if_neg h1]
              rw [show (((n + 1 : Nat) : Int)) = (n : Int) + 1 from by omega]
              exact ite_run ws _ _ _ _
          · rw [if_neg hj, if_neg hj]; rfl
      · have hn : ws.getD n [] = [] ∨ (ws.getD n []).getLast? = some 58 := by
          by_cases h1 : ws.getD n [] = []
          · exact .inl h1
          · by_cases h2 : (ws.getD n []).getLast? = some 58
            · exact .inr h2
            · exact absurd (isI_yes h1 h2) hi
        rw [if_pos hn, if_neg hi]
        have hc : cntI ws (n + 1) = cntI ws n := by rw [cntI, if_neg hi]; rfl
        rw [hc]
        rfl
theorem parse_run_err {s : B8} {o : List Ins} {e : Int × Int} (hs : s.length ≤ 20000) (h1 : pass1 (splitB 10 s) (splitB 10 s).length = .ok o) (h : runJ (splitB 10 s) (jmps (splitB 10 s) (splitB 10 s).length) o = .error e) : parseB s = ([], e.1, e.2) :=
  parse_err2 hs h1 (by rw [pass2_run, h]; rfl) (Nat.le_refl _)
theorem parse_run_ok {s : B8} {o o' : List Ins} (hs : s.length ≤ 20000) (h1 : pass1 (splitB 10 s) (splitB 10 s).length = .ok o) (h : runJ (splitB 10 s) (jmps (splitB 10 s) (splitB 10 s).length) o = .ok o') : parseB s = (o', 0, 0) :=
  parse_ok hs h1 (x := (cntI (splitB 10 s) (splitB 10 s).length, o')) (by rw [pass2_run, h]; rfl)
end Go.Proofs.YtlopmejmionnpaaDoor.As
