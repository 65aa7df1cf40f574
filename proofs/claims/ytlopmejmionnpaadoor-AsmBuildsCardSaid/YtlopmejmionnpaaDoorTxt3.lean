/- Plain Lean: lines of labels and instructions are read as the code that they make. No program in sight. -/
import Derived.Test.YtlopmejmionnpaaDoorTxt2
set_option linter.unusedVariables false
namespace Go.Proofs.YtlopmejmionnpaaDoor.As

/-- A line. -/
inductive Ln where
  | lab (n : B8)
  | ins (i : Ins) (to : B8)
def Ln.text : Ln → B8
  | .lab n => n ++ [58]
  | .ins i to => lineOf i to
def Ln.Ok : Ln → Prop
  | .lab n => nameOk n = true
  | .ins i to => Fits i to
def textL : List Ln → B8
  | [] => []
  | l :: r => l.text ++ 10 :: textL r
def insL : List Ln → List (Ins × B8)
  | [] => []
  | .lab _ :: r => insL r
  | .ins i to :: r => (i, to) :: insL r
/-- Where a name stands: the number of the instructions ahead of it. -/
def placeL (nm : B8) : Nat → List Ln → Option Nat
  | _, [] => none
  | n, .lab m :: r => if m = nm then some n else placeL nm n r
  | n, .ins _ _ :: r => placeL nm (n + 1) r
def resI (b : List Ln) (x : Ins × B8) : Ins := if x.2 = [] then x.1 else { x.1 with k := ((placeL x.2 0 b).getD 0 : Nat) }
/-- The code that lines make. -/
def resL (b : List Ln) : List Ins := (insL b).map (resI b)
/-- Each name once, and fit. -/
def okLabs : List B8 → List Ln → Bool
  | _, [] => true
  | seen, .lab m :: r => nameOk m && (!seen.contains m && okLabs (m :: seen) r)
  | seen, .ins _ _ :: r => okLabs seen r
def Ln.okTo (b : List Ln) : Ln → Bool
  | .lab _ => true
  | .ins i to => if to = [] then !jumps i.op || decide (i.k ≤ ((insL b).length : Int)) else (placeL to 0 b).isSome
/-- Lines that are read. -/
structure OkL (b : List Ln) : Prop where
  all : ∀ l ∈ b, l.Ok
  labs : okLabs [] b = true
  to : ∀ l ∈ b, l.okTo b = true
  few : b.length ≤ 180

theorem text_mem {l : Ln} (h : l.Ok) : (10 : UInt8) ∉ l.text := by
  intro hm
  cases l with
  | lab n =>
    rcases List.mem_append.1 hm with e | e
    · have := nameOk_mem h e
      have : (10 : UInt8).toNat = 10 := rfl
      omega
    · simp at e
  | ins i to => exact (line_mem (i := i) h hm).1 rfl
theorem text_len {l : Ln} (h : l.Ok) : l.text.length ≤ 110 := by
  cases l with
  | lab n => have := nameOk_len (n := n) h; show (n ++ [58]).length ≤ 110; simp; omega
  | ins i to => exact line_len (i := i) h
theorem textL_len : ∀ (b : List Ln), (∀ l ∈ b, l.Ok) → (textL b).length ≤ 111 * b.length
  | [], _ => by simp [textL]
  | l :: r, h => by
    have h1 := text_len (h l (by simp))
    have h2 := textL_len r (fun x hx => h x (by simp [hx]))
    rw [textL, List.length_append, List.length_cons, List.length_cons]; omega
theorem split_textL : ∀ (b : List Ln), (∀ l ∈ b, l.Ok) → splitB 10 (textL b) = b.map Ln.text ++ [[]]
  | [], _ => rfl
  | l :: r, h => by
    rw [textL, splitB_app 10 _ _ (text_mem (h l (by simp))), split_textL r (fun x hx => h x (by simp [hx]))]; rfl
theorem line_last {i : Ins} {to : B8} (h : Fits i to) : (lineOf i to).getLast? ≠ some 58 := by
  intro e
  exact (line_mem h (List.mem_of_getLast? e)).2 rfl
theorem placeGo_text (nm : B8) : ∀ (b : List Ln) (n : Nat), (∀ l ∈ b, l.Ok) → placeGo nm n (b.map Ln.text) = match placeL nm n b with | some m => (m : Int) | none => -1
  | [], n, _ => rfl
  | .lab m :: r, n, h => by
    have ih := placeGo_text nm r n (fun x hx => h x (by simp [hx]))
    rw [List.map_cons, placeGo]
    show (if m ++ [58] = [] then _ else _) = _
    rw [if_neg (by simp), placeL]
    by_cases e : m = nm
    · rw [if_pos (by show m ++ [58] = _; rw [e]), if_pos e]
    · rw [if_neg (by show ¬ m ++ [58] = _; intro e'; exact e (List.append_cancel_right e')), if_neg e]
      show placeGo nm (if (m ++ [58]).getLast? = some 58 then (n : Int) else n + 1) _ = _
      rw [if_pos (by simp)]
      exact ih
  | .ins i to :: r, n, h => by
    have ih := placeGo_text nm r (n + 1) (fun x hx => h x (by simp [hx]))
    have hf : Fits i to := h (.ins i to) (by simp)
    rw [List.map_cons, placeGo]
    show (if lineOf i to = [] then _ else _) = _
    rw [if_neg (line_ne hf), placeL]
    have h2 : ¬ lineOf i to = nm ++ [58] := by intro e; apply line_last hf; rw [e]; simp
    rw [if_neg (show ¬ (Ln.ins i to).text = _ from h2)]
    show placeGo nm (if (lineOf i to).getLast? = some 58 then (n : Int) else n + 1) _ = _
    rw [if_neg (line_last hf)]
    exact ih
theorem placeGo_end (nm : B8) : ∀ (l : List B8) (n : Int), placeGo nm n (l ++ [[]]) = placeGo nm n l
  | [], n => rfl
  | x :: l, n => by
    rw [List.cons_append, placeGo, placeGo, placeGo_end nm l, placeGo_end nm l]
theorem placeL_len (nm : B8) : ∀ (b : List Ln) (n m : Nat), placeL nm n b = some m → m ≤ n + (insL b).length
  | [], n, m, h => by cases h
  | .lab x :: r, n, m, h => by
    rw [placeL] at h
    rw [insL]
    split at h
    · injection h with h; omega
    · exact placeL_len nm r n m h
  | .ins i to :: r, n, m, h => by
    rw [placeL] at h
    have := placeL_len nm r (n + 1) m h
    rw [insL, List.length_cons]; omega
theorem insL_app : ∀ (a b : List Ln), insL (a ++ b) = insL a ++ insL b
  | [], b => rfl
  | .lab _ :: r, b => by rw [List.cons_append, insL, insL, insL_app r b]
  | .ins i to :: r, b => by rw [List.cons_append, insL, insL, insL_app r b]; rfl
theorem insL_len : ∀ (b : List Ln), (insL b).length ≤ b.length
  | [] => Nat.le_refl _
  | .lab _ :: r => by rw [insL, List.length_cons]; have := insL_len r; omega
  | .ins i to :: r => by rw [insL, List.length_cons, List.length_cons]; have := insL_len r; omega
theorem okLabs_at : ∀ (p : List Ln) (m : B8) (q : List Ln) (seen : List B8) (n : Nat), okLabs seen (p ++ .lab m :: q) = true → placeL m n p = none ∧ m ∉ seen
  | [], m, q, seen, n, h => by
    rw [List.nil_append, okLabs, Bool.and_eq_true, Bool.and_eq_true] at h
    refine ⟨rfl, fun e => ?_⟩
    have := h.2.1
    rw [List.contains_iff_mem.2 e] at this
    cases this
  | .lab x :: p, m, q, seen, n, h => by
    rw [List.cons_append, okLabs, Bool.and_eq_true, Bool.and_eq_true] at h
    have ih := okLabs_at p m q (x :: seen) n h.2.2
    rw [placeL, if_neg (fun e => ih.2 (by simp [e]))]
    exact ⟨ih.1, fun e => ih.2 (by simp [e])⟩
  | .ins i to :: p, m, q, seen, n, h => by
    rw [List.cons_append, okLabs] at h
    exact okLabs_at p m q seen (n + 1) h

theorem lines_at {p : List Ln} {l : Ln} {q : List Ln} : ((p ++ l :: q).map Ln.text ++ [[]]).getD p.length [] = l.text := by
  simp [List.getD]
theorem lines_take {p q : List Ln} : ((p ++ q).map Ln.text ++ [[]]).take p.length = p.map Ln.text := by
  rw [List.map_append, List.append_assoc, List.take_append_of_le_length (by simp), List.take_of_length_le (by simp)]
theorem pass1_text (b : List Ln) (H : OkL b) : ∀ (p q : List Ln), b = p ++ q → pass1 (b.map Ln.text ++ [[]]) p.length = .ok ((insL p).map (·.1)) := by
  intro p
  induction hn : p.length generalizing p with
  | zero =>
    intro q _
    have : p = [] := List.length_eq_zero_iff.1 hn
    rw [this]; rfl
  | succ n ih =>
    intro q hb
    obtain ⟨p', l, rfl⟩ : ∃ p' l, p = p' ++ [l] := ⟨p.dropLast, p.getLast (by intro e; rw [e] at hn; cases hn), (List.dropLast_concat_getLast _).symm⟩
    have hn' : p'.length = n := by simpa using hn
    have hb' : b = p' ++ l :: q := by rw [hb, List.append_assoc]; rfl
    have h1 := ih p' hn' (l :: q) hb'
    rw [pass1_succ h1, ← hn']
    have hl : (b.map Ln.text ++ [[]]).getD p'.length [] = l.text := by rw [hb']; exact lines_at
    have ht : (b.map Ln.text ++ [[]]).take p'.length = p'.map Ln.text := by rw [hb']; exact lines_take
    rw [hl, insL_app]
    have hall : ∀ x ∈ p', x.Ok := fun x hx => H.all x (by rw [hb']; simp [hx])
    have hlok : l.Ok := H.all l (by rw [hb']; simp)
    unfold lineB
    cases l with
    | lab m =>
      show (if m ++ [58] = [] then _ else if (m ++ [58]).getLast? = some 58 then (if nameOk (m ++ [58]).dropLast = false then _ else if 0 ≤ placeB (List.take p'.length (b.map Ln.text ++ [[]])) (m ++ [58]).dropLast then _ else _) else _) = _
      rw [if_neg (by simp), if_pos (by simp), List.dropLast_concat, show nameOk m = true from hlok, if_neg (by decide), ht]
      unfold placeB
      have hp := placeGo_text m p' 0 hall
      have hnone := (okLabs_at p' m q [] 0 (by rw [← hb']; exact H.labs)).1
      rw [hnone] at hp
      rw [show placeGo m 0 (p'.map Ln.text) = -1 from hp, if_neg (by omega)]
      simp [insL]
    | ins i to =>
      have hf : Fits i to := hlok
      show (if lineOf i to = [] then _ else if (lineOf i to).getLast? = some 58 then _ else match readB (lineOf i to) with | none => _ | some (i, _) => _) = _
      rw [if_neg (line_ne hf), if_neg (line_last hf), read_line hf]
      simp only []
      have := insL_len p'
      have := H.few
      have hbl : b.length = p'.length + (q.length + 1) := by rw [hb']; simp
      rw [if_neg (by simp; omega)]
      simp [insL]
theorem has84 {op : Int} (h : 0 ≤ op ∧ op < 28) : hasB op 84 = jumps op := op_cases (P := fun op => hasB op 84 = jumps op) h (by decide)
theorem modify_mid {α : Type} (f : α → α) : ∀ (a : List α) (x : α) (b : List α), (a ++ x :: b).modify a.length f = a ++ f x :: b
  | [], x, b => rfl
  | y :: a, x, b => by simp [modify_mid f a x b]
theorem pass2_text (b : List Ln) (H : OkL b) : ∀ (p q : List Ln), b = p ++ q → pass2 (b.map Ln.text ++ [[]]) ((insL b).map (·.1)) p.length = .ok ((insL p).length, (insL p).map (resI b) ++ (insL q).map (·.1)) := by
  intro p
  induction hn : p.length generalizing p with
  | zero =>
    intro q hb
    have : p = [] := List.length_eq_zero_iff.1 hn
    rw [hb, this]; rfl
  | succ n ih =>
    intro q hb
    obtain ⟨p', l, rfl⟩ : ∃ p' l, p = p' ++ [l] := ⟨p.dropLast, p.getLast (by intro e; rw [e] at hn; cases hn), (List.dropLast_concat_getLast _).symm⟩
    have hn' : p'.length = n := by simpa using hn
    have hb' : b = p' ++ l :: q := by rw [hb, List.append_assoc]; rfl
    have h1 := ih p' hn' (l :: q) hb'
    rw [pass2_succ h1, ← hn']
    have hl : (b.map Ln.text ++ [[]]).getD p'.length [] = l.text := by rw [hb']; exact lines_at
    rw [hl, insL_app]
    have hlok : l.Ok := H.all l (by rw [hb']; simp)
    unfold jumpB
    cases l with
    | lab m =>
      show (if m ++ [58] = [] ∨ (m ++ [58]).getLast? = some 58 then _ else _) = _
      rw [if_pos (.inr (by simp))]
      simp [insL]
    | ins i to =>
      have hf : Fits i to := hlok
      have hto := H.to (.ins i to) (by rw [hb']; simp)
      have hlen : (insL b).length = (insL p').length + ((insL q).length + 1) := by rw [hb', insL_app, insL]; simp
      have e1 : insL (Ln.ins i to :: q) = (i, to) :: insL q := rfl
      have e2 : insL [Ln.ins i to] = [(i, to)] := rfl
      show (if lineOf i to = [] ∨ (lineOf i to).getLast? = some 58 then _ else match readB (lineOf i to) with | none => _ | some (i, to) => _) = _
      rw [if_neg (by rintro (e | e); exact line_ne hf e; exact line_last hf e), read_line hf, e1, e2]
      simp only []
      rw [has84 hf.op]
      replace hto : (if to = [] then !jumps i.op || decide (i.k ≤ ((insL b).length : Int)) else (placeL to 0 b).isSome) = true := hto
      by_cases ht : to = []
      · have hr : resI b (i, to) = i := by unfold resI; rw [if_pos ht]
        rw [if_pos ht] at hto
        cases hj : jumps i.op with
        | false => simp [hr]
        | true =>
          rw [hj] at hto
          have hk : i.k ≤ ((insL b).length : Int) := by simpa using hto
          rw [if_pos rfl, if_neg (by rintro ⟨e, _⟩; exact e ht), if_pos ht]
          have hg : (List.map (resI b) (insL p') ++ List.map (fun x => x.1) ((i, to) :: insL q)).getD (insL p').length ⟨0, 0, 0, 0, 0⟩ = i := by
            simp [List.getD]
          rw [hg, if_neg (by simp; omega)]
          simp [hr]
      · rw [if_neg ht] at hto
        obtain ⟨m, hm⟩ := Option.isSome_iff_exists.1 hto
        have hj := (hf.to ht).1
        have hml := placeL_len to b 0 m hm
        have hp : placeB (b.map Ln.text ++ [[]]) to = m := by
          unfold placeB
          rw [placeGo_end]
          have := placeGo_text to b 0 H.all
          rw [hm] at this
          exact this
        rw [hj, if_pos rfl, hp, if_neg (by rintro ⟨_, e⟩; omega), if_neg ht]
        have hmd : (List.map (resI b) (insL p') ++ List.map (fun x => x.1) ((i, to) :: insL q)).modify (insL p').length (fun x => { x with k := (m : Int) }) = List.map (resI b) (insL p') ++ { i with k := (m : Int) } :: List.map (fun x => x.1) (insL q) := by
          have := modify_mid (fun x : Ins => { x with k := (m : Int) }) (List.map (resI b) (insL p')) i (List.map (fun x => x.1) (insL q))
          rw [List.length_map] at this
          exact this
        have hr : resI b (i, to) = { i with k := (m : Int) } := by unfold resI; rw [if_neg ht]; simp only []; rw [hm]; rfl
        rw [hmd]
        have hg : (List.map (resI b) (insL p') ++ { i with k := (m : Int) } :: List.map (fun x => x.1) (insL q)).getD (insL p').length ⟨0, 0, 0, 0, 0⟩ = { i with k := (m : Int) } := by
          simp [List.getD]
        rw [hg, if_neg (by simp; omega)]
        simp [hr]
/-- Lines are read as their code. -/
theorem parse_text {b : List Ln} (H : OkL b) : parseB (textL b) = (resL b, 0, 0) := by
  have hs := split_textL b H.all
  have hlen := textL_len b H.all
  have hfew := H.few
  have h1 := pass1_text b H b [] (by simp)
  have h2 := pass2_text b H b [] (by simp)
  have hn : (b.map Ln.text ++ [[]]).length = b.length + 1 := by simp
  have hl : (b.map Ln.text ++ [[]]).getD b.length [] = [] := by simp [List.getD]
  have p1 := pass1_succ h1
  rw [hl] at p1
  have p2 := pass2_succ h2
  rw [hl] at p2
  have := parse_ok (s := textL b) (o := (insL b).map (·.1)) (x := ((insL b).length, (insL b).map (resI b) ++ (insL ([] : List Ln)).map (·.1))) (by omega)
    (by rw [hs, hn]; exact p1) (by rw [hs, hn]; exact p2)
  rw [this]
  simp [resL, insL]
end Go.Proofs.YtlopmejmionnpaaDoor.As
