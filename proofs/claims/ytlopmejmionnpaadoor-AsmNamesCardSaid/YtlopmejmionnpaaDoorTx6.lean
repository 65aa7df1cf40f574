/- Plain Lean: lines of labels and instructions, and lines without bytes, are read as the code that they make. No program in sight. Plain Lean: the lines of a code whose places have names are read as that code. No program in sight. -/
import Derived.Test.YtlopmejmionnpaaDoorTxt3
section
set_option linter.unusedVariables false
namespace Go.Proofs.YtlopmejmionnpaaDoor.As.T4

/-- A line. -/
inductive Ln where
  | lab (n : B8)
  | ins (i : Ins) (to : B8)
  | blank
def Ln.text : Ln → B8
  | .lab n => n ++ [58]
  | .ins i to => lineOf i to
  | .blank => []
def Ln.Ok : Ln → Prop
  | .lab n => nameOk n = true
  | .ins i to => Fits i to
  | .blank => True
def textL : List Ln → B8
  | [] => []
  | l :: r => l.text ++ 10 :: textL r
def insL : List Ln → List (Ins × B8)
  | [] => []
  | .lab _ :: r => insL r
  | .ins i to :: r => (i, to) :: insL r
  | .blank :: r => insL r
/-- Where a name stands: the number of the instructions ahead of it. -/
def placeL (nm : B8) : Nat → List Ln → Option Nat
  | _, [] => none
  | n, .lab m :: r => if m = nm then some n else placeL nm n r
  | n, .ins _ _ :: r => placeL nm (n + 1) r
  | n, .blank :: r => placeL nm n r
def resI (b : List Ln) (x : Ins × B8) : Ins := if x.2 = [] then x.1 else { x.1 with k := ((placeL x.2 0 b).getD 0 : Nat) }
/-- The code that lines make. -/
def resL (b : List Ln) : List Ins := (insL b).map (resI b)
/-- Each name once, and fit. -/
def okLabs : List B8 → List Ln → Bool
  | _, [] => true
  | seen, .lab m :: r => nameOk m && (!seen.contains m && okLabs (m :: seen) r)
  | seen, .ins _ _ :: r => okLabs seen r
  | seen, .blank :: r => okLabs seen r
def Ln.okTo (b : List Ln) : Ln → Bool
  | .lab _ => true
  | .ins i to => if to = [] then !jumps i.op || decide (i.k ≤ ((insL b).length : Int)) else (placeL to 0 b).isSome
  | .blank => true
/-- Lines that are read. -/
structure OkL (b : List Ln) : Prop where
  all : ∀ l ∈ b, l.Ok
  labs : okLabs [] b = true
  to : ∀ l ∈ b, l.okTo b = true
  few : (insL b).length ≤ 3000
  size : (textL b).length ≤ 20000

theorem text_mem {l : Ln} (h : l.Ok) : (10 : UInt8) ∉ l.text := by
  intro hm
  cases l with
  | lab n =>
    rcases List.mem_append.1 hm with e | e
    · have := nameOk_mem h e
      have : (10 : UInt8).toNat = 10 := rfl
      omega
    · simp at e
  | ins i to => exact (line_mem (i := i) h hm).1 rfl
  | blank => cases hm
theorem text_len {l : Ln} (h : l.Ok) : l.text.length ≤ 110 := by
  cases l with
  | lab n => have := nameOk_len (n := n) h; show (n ++ [58]).length ≤ 110; simp; omega
  | ins i to => exact line_len (i := i) h
  | blank => exact Nat.zero_le _
theorem textL_len : ∀ (b : List Ln), (∀ l ∈ b, l.Ok) → (textL b).length ≤ 111 * b.length
  | [], _ => by simp [textL]
  | l :: r, h => by
    have h1 := text_len (h l (by simp))
    have h2 := textL_len r (fun x hx => h x (by simp [hx]))
    rw [textL, List.length_append, List.length_cons, List.length_cons]; omega
theorem split_textL : ∀ (b : List Ln), (∀ l ∈ b, l.Ok) → splitB 10 (textL b) = b.map Ln.text ++ [[]]
  | [], _ => rfl
  | l :: r, h => by
    rw [textL, splitB_app 10 _ _ (text_mem (h l (by simp))), split_textL r (fun x hx => h x (by simp [hx]))]; rfl
theorem line_last {i : Ins} {to : B8} (h : Fits i to) : (lineOf i to).getLast? ≠ some 58 := by
  intro e
  exact (line_mem h (List.mem_of_getLast? e)).2 rfl
theorem placeGo_text (nm : B8) : ∀ (b : List Ln) (n : Nat), (∀ l ∈ b, l.Ok) → placeGo nm n (b.map Ln.text) = match placeL nm n b with | some m => (m : Int) | none => -1
  | [], n, _ => rfl
  | .lab m :: r, n, h => by
    have ih := placeGo_text nm r n (fun x hx => h x (by simp [hx]))
    rw [List.map_cons, placeGo]
    show (if m ++ [58] = [] then _ else _) = _
    rw [if_neg (by simp), placeL]
    by_cases e : m = nm
    · rw [if_pos (by show m ++ [58] = _; rw [e]), if_pos e]
    · rw [if_neg (by show ¬ m ++ [58] = _; intro e'; exact e (List.append_cancel_right e')), if_neg e]
      show placeGo nm (if (m ++ [58]).getLast? = some 58 then (n : Int) else n + 1) _ = _
      rw [if_pos (by simp)]
      exact ih
  | .ins i to :: r, n, h => by
    have ih := placeGo_text nm r (n + 1) (fun x hx => h x (by simp [hx]))
    have hf : Fits i to := h (.ins i to) (by simp)
    rw [List.map_cons, placeGo]
    show (if lineOf i to = [] then _ else _) = _
    rw [if_neg (line_ne hf), placeL]
    have h2 : ¬ lineOf i to = nm ++ [58] := by intro e; apply line_last hf; rw [e]; simp
    rw [if_neg (show ¬ (Ln.ins i to).text = _ from h2)]
    show placeGo nm (if (lineOf i to).getLast? = some 58 then (n : Int) else n + 1) _ = _
    rw [if_neg (line_last hf)]
    exact ih
  | .blank :: r, n, h => by
    have ih := placeGo_text nm r n (fun x hx => h x (by simp [hx]))
    rw [List.map_cons, placeGo]
    show (if ([] : B8) = [] then _ else _) = _
    rw [if_pos rfl, placeL]
    exact ih
theorem placeGo_end (nm : B8) : ∀ (l : List B8) (n : Int), placeGo nm n (l ++ [[]]) = placeGo nm n l
  | [], n => rfl
  | x :: l, n => by
    rw [List.cons_append, placeGo, placeGo, placeGo_end nm l, placeGo_end nm l]
theorem placeL_len (nm : B8) : ∀ (b : List Ln) (n m : Nat), placeL nm n b = some m → m ≤ n + (insL b).length
  | [], n, m, h => by cases h
  | .lab x :: r, n, m, h => by
    rw [placeL] at h
    rw [insL]
    split at h
    · injection h with h; omega
    · exact placeL_len nm r n m h
  | .ins i to :: r, n, m, h => by
    rw [placeL] at h
    have := placeL_len nm r (n + 1) m h
    rw [insL, List.length_cons]; omega
  | .blank :: r, n, m, h => by
    rw [placeL] at h
    rw [insL]
    exact placeL_len nm r n m h
theorem insL_app : ∀ (a b : List Ln), insL (a ++ b) = insL a ++ insL b
  | [], b => rfl
  | .lab _ :: r, b => by rw [List.cons_append, insL, insL, insL_app r b]
  | .ins i to :: r, b => by rw [List.cons_append, insL, insL, insL_app r b]; rfl
  | .blank :: r, b => by rw [List.cons_append, insL, insL, insL_app r b]
theorem insL_len : ∀ (b : List Ln), (insL b).length ≤ b.length
  | [] => Nat.le_refl _
  | .lab _ :: r => by rw [insL, List.length_cons]; have := insL_len r; omega
  | .ins i to :: r => by rw [insL, List.length_cons, List.length_cons]; have := insL_len r; omega
  | .blank :: r => by rw [insL, List.length_cons]; have := insL_len r; omega
theorem okLabs_at : ∀ (p : List Ln) (m : B8) (q : List Ln) (seen : List B8) (n : Nat), okLabs seen (p ++ .lab m :: q) = true → placeL m n p = none ∧ m ∉ seen
  | [], m, q, seen, n, h => by
    rw [List.nil_append, okLabs, Bool.and_eq_true, Bool.and_eq_true] at h
    refine ⟨rfl, fun e => ?_⟩
    have := h.2.1
    rw [List.contains_iff_mem.2 e] at this
    cases this
  | .lab x :: p, m, q, seen, n, h => by
    rw [List.cons_append, okLabs, Bool.and_eq_true, Bool.and_eq_true] at h
    have ih := okLabs_at p m q (x :: seen) n h.2.2
    rw [placeL, if_neg (fun e => ih.2 (by simp [e]))]
    exact ⟨ih.1, fun e => ih.2 (by simp [e])⟩
  | .ins i to :: p, m, q, seen, n, h => by
    rw [List.cons_append, okLabs] at h
    exact okLabs_at p m q seen (n + 1) h
  | .blank :: p, m, q, seen, n, h => by
    rw [List.cons_append, okLabs] at h
    exact okLabs_at p m q seen n h

theorem lines_at {p : List Ln} {l : Ln} {q : List Ln} : ((p ++ l :: q).map Ln.text ++ [[]]).getD p.length [] = l.text := by
  simp [List.getD]
theorem lines_take {p q : List Ln} : ((p ++ q).map Ln.text ++ [[]]).take p.length = p.map Ln.text := by
  rw [List.map_append, List.append_assoc, List.take_append_of_le_length (by simp), List.take_of_length_le (by simp)]
theorem pass1_text (b : List Ln) (H : OkL b) : ∀ (p q : List Ln), b = p ++ q → pass1 (b.map Ln.text ++ [[]]) p.length = .ok ((insL p).map (·.1)) := by
  intro p
  induction hn : p.length generalizing p with
  | zero =>
    intro q _
    have : p = [] := List.length_eq_zero_iff.1 hn
    rw [this]; rfl
  | succ n ih =>
    intro q hb
    obtain ⟨p', l, rfl⟩ : ∃ p' l, p = p' ++ [l] := ⟨p.dropLast, p.getLast (by intro e; rw [e] at hn; cases hn), (List.dropLast_concat_getLast _).symm⟩
    have hn' : p'.length = n := by simpa using hn
    have hb' : b = p' ++ l :: q := by rw [hb, List.append_assoc]; rfl
    have h1 := ih p' hn' (l :: q) hb'
    rw [pass1_succ h1, ← hn']
    have hl : (b.map Ln.text ++ [[]]).getD p'.length [] = l.text := by rw [hb']; exact lines_at
    have ht : (b.map Ln.text ++ [[]]).take p'.length = p'.map Ln.text := by rw [hb']; exact lines_take
    rw [hl, insL_app]
    have hall : ∀ x ∈ p', x.Ok := fun x hx => H.all x (by rw [hb']; simp [hx])
    have hlok : l.Ok := H.all l (by rw [hb']; simp)
    unfold lineB
    cases l with
    | lab m =>
      show (if m ++ [58] = [] then _ else if (m ++ [58]).getLast? = some 58 then (if nameOk (m ++ [58]).dropLast = false then _ else if 0 ≤ placeB (List.take p'.length (b.map Ln.text ++ [[]])) (m ++ [58]).dropLast then _ else _) else _) = _
      rw [if_neg (by simp), if_pos (by simp), List.dropLast_concat, show nameOk m = true from hlok, if_neg (by decide), ht]
      unfold placeB
      have hp := placeGo_text m p' 0 hall
      have hnone := (okLabs_at p' m q [] 0 (by rw [← hb']; exact H.labs)).1
      rw [hnone] at hp
      rw [show placeGo m 0 (p'.map Ln.text) = -1 from hp, if_neg (by omega)]
      simp [insL]
    | ins i to =>
      have hf : Fits i to := hlok
      show (if lineOf i to = [] then _ else if (lineOf i to).getLast? = some 58 then _ else match readB (lineOf i to) with | none => _ | some (i, _) => _) = _
      rw [if_neg (line_ne hf), if_neg (line_last hf), read_line hf]
      simp only []
      have := H.few
      have hbl : (insL b).length = (insL p').length + ((insL q).length + 1) := by rw [hb', insL_app, insL]; simp
      rw [if_neg (by simp; omega)]
      simp [insL]
    | blank =>
      show (if ([] : B8) = [] then _ else _) = _
      rw [if_pos rfl]
      simp [insL]
theorem pass2_text (b : List Ln) (H : OkL b) : ∀ (p q : List Ln), b = p ++ q → pass2 (b.map Ln.text ++ [[]]) ((insL b).map (·.1)) p.length = .ok ((insL p).length, (insL p).map (resI b) ++ (insL q).map (·.1)) := by
  intro p
  induction hn : p.length generalizing p with
  | zero =>
    intro q hb
    have : p = [] := List.length_eq_zero_iff.1 hn
    rw [hb, this]; rfl
  | succ n ih =>
    intro q hb
    obtain ⟨p', l, rfl⟩ : ∃ p' l, p = p' ++ [l] := ⟨p.dropLast, p.getLast (by intro e; rw [e] at hn; cases hn), (List.dropLast_concat_getLast _).symm⟩
    have hn' : p'.length = n := by simpa using hn
    have hb' : b = p' ++ l :: q := by rw [hb, List.append_assoc]; rfl
    have h1 := ih p' hn' (l :: q) hb'
    rw [pass2_succ h1, ← hn']
    have hl : (b.map Ln.text ++ [[]]).getD p'.length [] = l.text := by rw [hb']; exact lines_at
    rw [hl, insL_app]
    have hlok : l.Ok := H.all l (by rw [hb']; simp)
    unfold jumpB
    cases l with
    | lab m =>
      show (if m ++ [58] = [] ∨ (m ++ [58]).getLast? = some 58 then _ else _) = _
      rw [if_pos (.inr (by simp))]
      simp [insL]
    | ins i to =>
      have hf : Fits i to := hlok
      have hto := H.to (.ins i to) (by rw [hb']; simp)
      have hlen : (insL b).length = (insL p').length + ((insL q).length + 1) := by rw [hb', insL_app, insL]; simp
      have e1 : insL (Ln.ins i to :: q) = (i, to) :: insL q := rfl
      have e2 : insL [Ln.ins i to] = [(i, to)] := rfl
      show (if lineOf i to = [] ∨ (lineOf i to).getLast? = some 58 then _ else match readB (lineOf i to) with | none => _ | some (i, to) => _) = _
      rw [if_neg (by rintro (e | e); exact line_ne hf e; exact line_last hf e), read_line hf, e1, e2]
      simp only []
      rw [has84 hf.op]
      replace hto : (if to = [] then !jumps i.op || decide (i.k ≤ ((insL b).length : Int)) else (placeL to 0 b).isSome) = true := hto
      by_cases ht : to = []
      · have hr : resI b (i, to) = i := by unfold resI; rw [if_pos ht]
        rw [if_pos ht] at hto
        cases hj : jumps i.op with
        | false => simp [hr]
        | true =>
          rw [hj] at hto
          have hk : i.k ≤ ((insL b).length : Int) := by simpa using hto
          rw [if_pos rfl, if_neg (by rintro ⟨e, _⟩; exact e ht), if_pos ht]
          have hg : (List.map (resI b) (insL p') ++ List.map (fun x => x.1) ((i, to) :: insL q)).getD (insL p').length ⟨0, 0, 0, 0, 0⟩ = i := by
            simp [List.getD]
          rw [hg, if_neg (by simp; omega)]
          simp [hr]
      · rw [if_neg ht] at hto
        obtain ⟨m, hm⟩ := Option.isSome_iff_exists.1 hto
        have hj := (hf.to ht).1
        have hml := placeL_len to b 0 m hm
        have hp : placeB (b.map Ln.text ++ [[]]) to = m := by
          unfold placeB
          rw [placeGo_end]
          have := placeGo_text to b 0 H.all
          rw [hm] at this
          exact this
        rw [hj, if_pos rfl, hp, if_neg (by rintro ⟨_, e⟩; omega), if_neg ht]
        have hmd : (List.map (resI b) (insL p') ++ List.map (fun x => x.1) ((i, to) :: insL q)).modify (insL p').length (fun x => { x with k := (m : Int) }) = List.map (resI b) (insL p') ++ { i with k := (m : Int) } :: List.map (fun x => x.1) (insL q) := by
          have := modify_mid (fun x : Ins => { x with k := (m : Int) }) (List.map (resI b) (insL p')) i (List.map (fun x => x.1) (insL q))
          rw [List.length_map] at this
          exact this
        have hr : resI b (i, to) = { i with k := (m : Int) } := by unfold resI; rw [if_neg ht]; simp only []; rw [hm]; rfl
        rw [hmd]
        have hg : (List.map (resI b) (insL p') ++ { i with k := (m : Int) } :: List.map (fun x => x.1) (insL q)).getD (insL p').length ⟨0, 0, 0, 0, 0⟩ = { i with k := (m : Int) } := by
          simp [List.getD]
        rw [hg, if_neg (by simp; omega)]
        simp [hr]
    | blank =>
      rw [if_pos (show Ln.blank.text = [] ∨ Ln.blank.text.getLast? = some 58 from .inl rfl)]
      simp [insL]
/-- Lines are read as their code. -/
theorem parse_text {b : List Ln} (H : OkL b) : parseB (textL b) = (resL b, 0, 0) := by
  have hs := split_textL b H.all
  have hsz := H.size
  have h1 := pass1_text b H b [] (by simp)
  have h2 := pass2_text b H b [] (by simp)
  have hn : (b.map Ln.text ++ [[]]).length = b.length + 1 := by simp
  have hl : (b.map Ln.text ++ [[]]).getD b.length [] = [] := by simp [List.getD]
  have p1 := pass1_succ h1
  rw [hl] at p1
  have p2 := pass2_succ h2
  rw [hl] at p2
  have := parse_ok (s := textL b) (o := (insL b).map (·.1)) (x := ((insL b).length, (insL b).map (resI b) ++ (insL ([] : List Ln)).map (·.1))) (by omega)
    (by rw [hs, hn]; exact p1) (by rw [hs, hn]; exact p2)
  rw [this]
  simp [resL, insL]
/-! ### A code's own lines -/
def own (l : List Ins) : List Ln := l.map (fun i => .ins i [])
theorem own_ins : ∀ (l : List Ins), insL (own l) = l.map (fun i => (i, []))
  | [] => rfl
  | i :: r => by show (i, []) :: insL (own r) = _; rw [own_ins r]; rfl
theorem own_res (l : List Ins) : resL (own l) = l := by
  unfold resL
  rw [own_ins, List.map_map]
  exact (List.map_congr_left (fun i _ => by show resI _ (i, []) = i; unfold resI; rw [if_pos rfl])).trans (List.map_id' l)
theorem own_text : ∀ (l : List Ins), textL (own l) = l.flatMap (fun i => lineOf i [] ++ [10])
  | [] => rfl
  | i :: r => by show lineOf i [] ++ 10 :: textL (own r) = _; rw [own_text r]; simp
theorem own_labs (seen : List B8) : ∀ (l : List Ins), okLabs seen (own l) = true
  | [] => rfl
  | i :: r => own_labs seen r
/-- What is printed is read as it was. -/
theorem own_back (l : List Ins) (h : ∀ i ∈ l, Fits i [] ∧ (jumps i.op = true → i.k ≤ (l.length : Int))) (hs : l.length ≤ 3000) (ht : (l.flatMap (fun i => lineOf i [] ++ [10])).length ≤ 20000) : parseB (l.flatMap (fun i => lineOf i [] ++ [10])) = (l, 0, 0) := by
  have H : OkL (own l) := by
    refine ⟨fun x hx => ?_, own_labs [] l, fun x hx => ?_, by rw [own_ins, List.length_map]; exact hs, by rw [own_text]; exact ht⟩
    · obtain ⟨i, hi, rfl⟩ := List.mem_map.1 hx
      exact (h i hi).1
    · obtain ⟨i, hi, rfl⟩ := List.mem_map.1 hx
      show (if ([] : B8) = [] then !jumps i.op || decide (i.k ≤ ((insL (own l)).length : Int)) else (placeL [] 0 (own l)).isSome) = true
      rw [if_pos rfl, own_ins, List.length_map]
      cases hj : jumps i.op with
      | false => rfl
      | true => simpa using (h i hi).2 hj
  rw [← own_text, parse_text H, own_res]
end Go.Proofs.YtlopmejmionnpaaDoor.As.T4
end
section
set_option linter.unusedVariables false
set_option linter.unusedSimpArgs false
namespace Go.Proofs.YtlopmejmionnpaaDoor.As.T4

/-- A place's name: a name, an x, its number. -/
def pn (nm : B8) (i : Nat) : B8 := nm ++ 120 :: decB i
theorem decB_inj {a b : Nat} (h : decB a = decB b) : a = b := by
  have := congrArg valB h
  rwa [decB_val, decB_val] at this
theorem pn_inj {nm : B8} {a b : Nat} (h : pn nm a = pn nm b) : a = b := by
  have := List.append_cancel_left h
  injection this with _ h
  exact decB_inj h
theorem pn_ne (nm : B8) (i : Nat) : pn nm i ≠ [] := by simp [pn]
theorem pn_len {nm : B8} (h : nm.length ≤ 10) {i : Nat} (hi : i ≤ 200) : (pn nm i).length ≤ 14 := by
  have := decB_len 2 i (by omega)
  simp [pn]; omega
theorem pn_ok {nm : B8} (h : nameOk nm = true) (hl : nm.length ≤ 10) {i : Nat} (hi : i ≤ 200) : nameOk (pn nm i) = true := by
  have h3 := decB_len 2 i (by omega)
  cases nm with
  | nil => cases h
  | cons c r =>
    have h2 := decB_all i
    simp only [List.all_eq_true] at h2
    simp only [nameOk, Bool.and_eq_true, List.all_eq_true, decide_eq_true_eq, Bool.or_eq_true] at h
    show nameOk (c :: (r ++ 120 :: decB i)) = true
    simp only [nameOk, Bool.and_eq_true, List.all_eq_true, decide_eq_true_eq, Bool.or_eq_true]
    refine ⟨h.1, fun x hx => ?_, ?_⟩
    · rcases List.mem_append.1 hx with hx | hx
      · exact h.2.1 x hx
      · rcases List.mem_cons.1 hx with hx | hx
        · left; rw [hx]; decide
        · exact .inr (h2 x hx)
    · simp at hl ⊢; omega
/-- An instruction whose place has a name. -/
def insN (nm : B8) (x : Ins) : Ln := if hasB x.op 84 = true then .ins { x with k := 0 } (pn nm x.k.toNat) else .ins x []
def blk (bl i : Nat) : List Ln := if bl % 3 = i % 3 then [.blank] else []
def piece (nm : B8) (bl i : Nat) (x : Ins) : List Ln := .lab (pn nm i) :: (blk bl i ++ [insN nm x])
/-- The lines ahead of the last place. -/
def pre (nm : B8) (bl : Nat) : Nat → List Ins → List Ln
  | _, [] => []
  | i, x :: r => piece nm bl i x ++ pre nm bl (i + 1) r
def full (nm : B8) (bl : Nat) (l : List Ins) : List Ln := pre nm bl 0 l ++ .lab (pn nm l.length) :: blk bl l.length
theorem pre_snoc (nm : B8) (bl : Nat) : ∀ (l : List Ins) (i : Nat) (x : Ins), pre nm bl i (l ++ [x]) = pre nm bl i l ++ piece nm bl (i + l.length) x
  | [], i, x => by simp [pre]
  | y :: r, i, x => by
    rw [List.cons_append, pre, pre, pre_snoc nm bl r (i + 1) x, List.append_assoc, List.length_cons, show i + 1 + r.length = i + (r.length + 1) by omega]
theorem textL_app : ∀ (a b : List Ln), textL (a ++ b) = textL a ++ textL b
  | [], b => rfl
  | l :: r, b => by rw [List.cons_append, textL, textL, textL_app r b]; simp
theorem blk_ins (bl i : Nat) : insL (blk bl i) = [] := by unfold blk; split <;> rfl
theorem blk_labs (bl i : Nat) (seen : List B8) (r : List Ln) : okLabs seen (blk bl i ++ r) = okLabs seen r := by unfold blk; split <;> rfl
theorem blk_place (bl i : Nat) (nm : B8) (n : Nat) (r : List Ln) : placeL nm n (blk bl i ++ r) = placeL nm n r := by unfold blk; split <;> rfl
theorem blk_mem {bl i : Nat} {l : Ln} (h : l ∈ blk bl i) : l = .blank := by
  unfold blk at h
  split at h
  · exact List.mem_singleton.1 h
  · cases h
def insP (nm : B8) (x : Ins) : Ins × B8 := if hasB x.op 84 = true then ({ x with k := 0 }, pn nm x.k.toNat) else (x, [])
theorem insN_ins (nm : B8) (x : Ins) (r : List Ln) : insL (insN nm x :: r) = insP nm x :: insL r := by unfold insN insP; split <;> rfl
theorem insN_place (nm m : B8) (x : Ins) (n : Nat) (r : List Ln) : placeL m n (insN nm x :: r) = placeL m (n + 1) r := by unfold insN; split <;> rfl
theorem insN_labs (nm : B8) (x : Ins) (seen : List B8) (r : List Ln) : okLabs seen (insN nm x :: r) = okLabs seen r := by unfold insN; split <;> rfl
theorem insL_pre (nm : B8) (bl : Nat) : ∀ (l : List Ins) (i : Nat), insL (pre nm bl i l) = l.map (insP nm)
  | [], i => rfl
  | x :: r, i => by
    show insL (blk bl i ++ [insN nm x] ++ pre nm bl (i + 1) r) = _
    rw [insL_app, insL_app, blk_ins, insN_ins, insL_pre nm bl r (i + 1)]
    rfl
theorem insL_full (nm : B8) (bl : Nat) (l : List Ins) : insL (full nm bl l) = l.map (insP nm) := by
  show insL (pre nm bl 0 l ++ .lab (pn nm l.length) :: blk bl l.length) = _
  rw [insL_app, insL_pre, insL, blk_ins, List.append_nil]
theorem place_full (nm : B8) (bl k : Nat) : ∀ (l : List Ins) (i : Nat), i ≤ k → k ≤ i + l.length → placeL (pn nm k) i (pre nm bl i l ++ .lab (pn nm (i + l.length)) :: blk bl (i + l.length)) = some k
  | [], i, h1, h2 => by
    obtain rfl : k = i := by simp at h2; omega
    show placeL (pn nm k) k (.lab (pn nm k) :: blk bl k) = some k
    rw [placeL, if_pos rfl]
  | x :: r, i, h1, h2 => by
    show placeL (pn nm k) i (.lab (pn nm i) :: ((blk bl i ++ [insN nm x]) ++ pre nm bl (i + 1) r) ++ _) = some k
    rw [List.cons_append, placeL]
    by_cases e : i = k
    · rw [if_pos (by rw [e]), e]
    · rw [if_neg (fun h => e (pn_inj h)), List.append_assoc, List.append_assoc, blk_place, List.cons_append, List.nil_append, insN_place]
      have := place_full nm bl k r (i + 1) (by omega) (by simp at h2; omega)
      rw [List.length_cons, show i + (r.length + 1) = i + 1 + r.length by omega]
      exact this
theorem labs_full {nm : B8} (hn : nameOk nm = true) (hl : nm.length ≤ 10) (bl : Nat) : ∀ (l : List Ins) (i : Nat) (seen : List B8), i + l.length ≤ 200 → (∀ j, i ≤ j → pn nm j ∉ seen) →
    okLabs seen (pre nm bl i l ++ .lab (pn nm (i + l.length)) :: blk bl (i + l.length)) = true
  | [], i, seen, h, hs => by
    show okLabs seen (.lab (pn nm (i + 0)) :: blk bl (i + 0)) = true
    have h1 : okLabs (pn nm (i + 0) :: seen) (blk bl (i + 0)) = true := by
      have := blk_labs bl (i + 0) (pn nm (i + 0) :: seen) []
      rw [List.append_nil] at this
      rw [this]; rfl
    rw [okLabs, h1, pn_ok hn hl (by simp at h; omega)]
    have := hs (i + 0) (by omega)
    simpa [List.contains_iff_mem] using this
  | x :: r, i, seen, h, hs => by
    show okLabs seen (.lab (pn nm i) :: ((blk bl i ++ [insN nm x]) ++ pre nm bl (i + 1) r) ++ _) = true
    rw [List.cons_append, okLabs, List.append_assoc, List.append_assoc, blk_labs, List.cons_append, List.nil_append, insN_labs]
    have ih := labs_full hn hl bl r (i + 1) (pn nm i :: seen) (by simp at h; omega) (fun j hj e => by
      rcases List.mem_cons.1 e with e | e
      · have := pn_inj e; omega
      · exact hs j (by omega) e)
    rw [List.length_cons, show i + (r.length + 1) = i + 1 + r.length by omega, ih, pn_ok hn hl (by simp at h; omega)]
    have := hs i (by omega)
    simp [List.contains_iff_mem, this]
/-- May a code's instruction stand here, with its place named? -/
structure InN (n : Nat) (x : Ins) : Prop where
  fits : Fits x []
  to : hasB x.op 84 = true → x.k ≤ n
theorem insP_fits {nm : B8} (hn : nameOk nm = true) (hl : nm.length ≤ 10) {n : Nat} (h200 : n ≤ 200) {x : Ins} (h : InN n x) : Fits (insP nm x).1 (insP nm x).2 := by
  unfold insP
  by_cases e : hasB x.op 84 = true
  · rw [if_pos e]
    have hk := h.to e
    have hf := h.fits
    exact ⟨hf.op, hf.a, hf.b, hf.c, ⟨Int.le_refl _, by show (0 : Int) ≤ _; split <;> omega⟩, fun _ => ⟨by rw [← has84 hf.op]; exact e, rfl, pn_ok hn hl (by have := hf.k.1; omega)⟩⟩
  · rw [if_neg e]
    exact h.fits
theorem mem_pre {nm : B8} {bl : Nat} {y : Ln} : ∀ {l : List Ins} {i : Nat}, y ∈ pre nm bl i l → (∃ j, i ≤ j ∧ j ≤ i + l.length ∧ y = .lab (pn nm j)) ∨ y = .blank ∨ ∃ x ∈ l, y = insN nm x
  | [], i, h => by cases h
  | x :: r, i, h => by
    rcases List.mem_append.1 h with h | h
    · rcases List.mem_cons.1 h with h | h
      · exact .inl ⟨i, Nat.le_refl _, by omega, h⟩
      · rcases List.mem_append.1 h with h | h
        · exact .inr (.inl (blk_mem h))
        · exact .inr (.inr ⟨x, List.mem_cons_self, List.mem_singleton.1 h⟩)
    · rcases mem_pre h with ⟨j, h1, h2, h3⟩ | h | ⟨z, hz, h⟩
      · exact .inl ⟨j, by omega, by simp; omega, h3⟩
      · exact .inr (.inl h)
      · exact .inr (.inr ⟨z, List.mem_cons_of_mem _ hz, h⟩)
theorem pre_ok {nm : B8} (hn : nameOk nm = true) (hl : nm.length ≤ 10) {bl n : Nat} (h200 : n ≤ 200) {l : List Ins} (hll : l.length ≤ n) (h : ∀ x ∈ l, InN n x) : ∀ y ∈ pre nm bl 0 l, y.Ok := by
  intro y hy
  rcases mem_pre hy with ⟨j, _, h2, rfl⟩ | rfl | ⟨x, hx, rfl⟩
  · exact pn_ok hn hl (by omega)
  · exact True.intro
  · have := insP_fits hn hl h200 (h x hx)
    unfold insN
    unfold insP at this
    split <;> rename_i e <;> simp only [e] at this <;> exact this
theorem pre_len (nm : B8) (bl : Nat) : ∀ (l : List Ins) (i : Nat), (pre nm bl i l).length ≤ 3 * l.length
  | [], i => Nat.le_refl _
  | x :: r, i => by
    have := pre_len nm bl r (i + 1)
    have h2 : (blk bl i).length ≤ 1 := by unfold blk; split <;> simp
    simp only [pre, piece, List.length_append, List.length_cons, List.length_nil]
    omega
/-- So long the text is. -/
theorem pre_size {nm : B8} (hn : nameOk nm = true) (hl : nm.length ≤ 10) {bl n : Nat} (h200 : n ≤ 200) {l : List Ins} (hll : l.length ≤ n) (h : ∀ x ∈ l, InN n x) : (textL (pre nm bl 0 l)).length ≤ 66600 := by
  have h1 := textL_len _ (pre_ok (bl := bl) hn hl h200 hll h)
  have h2 := pre_len nm bl l 0
  omega
/-- A code whose places have names is read as it was. -/
theorem names_back {nm : B8} (hn : nameOk nm = true) (hl : nm.length ≤ 10) (bl : Nat) {l : List Ins} (h200 : l.length ≤ 200) (h : ∀ x ∈ l, InN l.length x) (hs : (textL (full nm bl l)).length ≤ 20000) : parseB (textL (full nm bl l)) = (l, 0, 0) := by
  have hp : ∀ k, k ≤ l.length → placeL (pn nm k) 0 (full nm bl l) = some k := fun k hk => by
    have := place_full nm bl k l 0 (Nat.zero_le _) (by omega)
    rw [Nat.zero_add] at this
    exact this
  have H : OkL (full nm bl l) := by
    refine ⟨fun y hy => ?_, ?_, fun y hy => ?_, ?_, hs⟩
    · rcases List.mem_append.1 hy with hy | hy
      · exact pre_ok hn hl h200 (Nat.le_refl _) h y hy
      · rcases List.mem_cons.1 hy with rfl | hy
        · exact pn_ok hn hl h200
        · rw [blk_mem hy]; exact True.intro
    · have := labs_full hn hl bl l 0 [] (by omega) (fun j _ e => by cases e)
      rw [Nat.zero_add] at this
      exact this
    · have hlab : ∀ j, (Ln.lab (pn nm j)).okTo (full nm bl l) = true := fun _ => rfl
      rcases List.mem_append.1 hy with hy | hy
      · rcases mem_pre hy with ⟨j, _, _, rfl⟩ | rfl | ⟨x, hx, rfl⟩
        · rfl
        · rfl
        · unfold insN
          by_cases e : hasB x.op 84 = true
          · rw [if_pos e]
            show (if pn nm x.k.toNat = [] then _ else (placeL (pn nm x.k.toNat) 0 (full nm bl l)).isSome) = true
            have := (h x hx).to e
            have := (h x hx).fits.k.1
            rw [if_neg (pn_ne _ _), hp _ (by omega)]; rfl
          · rw [if_neg e]
            show (if ([] : B8) = [] then !jumps x.op || decide (x.k ≤ ((insL (full nm bl l)).length : Int)) else (placeL [] 0 (full nm bl l)).isSome) = true
            rw [if_pos rfl, ← has84 (h x hx).fits.op]
            simp [e]
      · rcases List.mem_cons.1 hy with rfl | hy
        · rfl
        · rw [blk_mem hy]; rfl
    · rw [insL_full, List.length_map]; omega
  rw [parse_text H]
  have : resL (full nm bl l) = l := by
    unfold resL
    rw [insL_full, List.map_map]
    have hid : ∀ x ∈ l, (resI (full nm bl l) ∘ insP nm) x = x := fun x hx => by
      show resI (full nm bl l) (insP nm x) = x
      unfold insP resI
      by_cases e : hasB x.op 84 = true
      · have h1 := (h x hx).to e
        have h2 := (h x hx).fits.k.1
        rw [if_pos e]
        simp only []
        rw [if_neg (pn_ne _ _), hp _ (by omega)]
        have h3 : (((some x.k.toNat).getD 0 : Nat) : Int) = x.k := by
          show ((x.k.toNat : Nat) : Int) = x.k
          omega
        rw [h3]
      · rw [if_neg e]
        simp
    exact (List.map_congr_left hid).trans (List.map_id' l)
  rw [this]
/-- A line with a place: what stands ahead of the place. -/
theorem line_split {x : Ins} (hx : 0 ≤ x.op ∧ x.op < 28) (h : hasB x.op 84 = true) (nm : B8) (hnm : nm ≠ []) : ∃ P : B8, lineOf x [] = P ++ 64 :: decB x.k.toNat ∧ lineOf { x with k := 0 } nm = P ++ 64 :: nm := by
  have hj := h
  rw [has84 hx] at hj
  obtain ⟨op, a, b, c, k⟩ := x
  simp only [jumps, Bool.or_eq_true, beq_iff_eq] at hj
  rcases hj with (rfl | rfl) | rfl
  · refine ⟨opName 13 ++ [32], ?_, ?_⟩
    · show joinB 32 [opName 13, 64 :: decB k.toNat] = _
      simp [joinB]
    · show joinB 32 [opName 13, 64 :: (if nm = [] then _ else nm)] = _
      rw [if_neg hnm]; simp [joinB]
  · refine ⟨opName 14 ++ 32 :: regW a ++ [32], ?_, ?_⟩
    · show joinB 32 [opName 14, regW a, 64 :: decB k.toNat] = _
      simp [joinB]
    · show joinB 32 [opName 14, regW a, 64 :: (if nm = [] then _ else nm)] = _
      rw [if_neg hnm]; simp [joinB]
  · refine ⟨opName 15 ++ 32 :: regW a ++ [32], ?_, ?_⟩
    · show joinB 32 [opName 15, regW a, 64 :: decB k.toNat] = _
      simp [joinB]
    · show joinB 32 [opName 15, regW a, 64 :: (if nm = [] then _ else nm)] = _
      rw [if_neg hnm]; simp [joinB]
theorem textL_snoc (b : List Ln) (l : Ln) : textL (b ++ [l]) = textL b ++ (l.text ++ [10]) := by rw [textL_app]; rfl
end Go.Proofs.YtlopmejmionnpaaDoor.As.T4
end
