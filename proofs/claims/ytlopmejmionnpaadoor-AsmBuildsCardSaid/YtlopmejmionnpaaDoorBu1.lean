/- Plain Lean: what a builder gathers of instructions and of names is what the law's own lists gather. No program in sight. -/
import Derived.Test.YtlopmejmionnpaaDoorRefSpec
set_option linter.unusedVariables false
set_option linter.unusedSimpArgs false
namespace Go.Proofs.YtlopmejmionnpaaDoor.As.Bu

/-- The place that an instruction is to go to. -/
def lk (names : List B8) (x : Ins) : Option B8 := if hasB x.op 84 = true ∧ names ≠ [] then some (names.getD (x.k.toNat % names.length) []) else none
/-- What is laid at first. -/
def cd (names : List B8) (x : Ins) : Ins := match lk names x with | some _ => ⟨x.op, x.a, 0, 0, 0⟩ | none => x
/-- The builder behind one instruction. -/
def nameS (names : List B8) (s : BS) (i : Nat) : BS := if names.getD i [] = [] then s else s.at_ (names.getD i [])
def insS (names : List B8) (s : BS) (x : Ins) : BS := match lk names x with | some nm => s.go_ x.op x.a nm | none => s.do_ x
def stepB (names : List B8) (s : BS) (i : Nat) (x : Ins) : BS := insS names (nameS names s i) x
def runB (names : List B8) (s : BS) : Nat → List Ins → BS
  | _, [] => s
  | i, x :: r => runB names (stepB names s i x) (i + 1) r
def stB (names : List B8) (l : List Ins) : BS := runB names BS.zero 0 l
def lkFrom (names : List B8) : Nat → List Ins → List (Nat × B8)
  | _, [] => []
  | i, x :: r => match lk names x with | some nm => (i, nm) :: lkFrom names (i + 1) r | none => lkFrom names (i + 1) r
theorem runB_app (names : List B8) : ∀ (l : List Ins) (s : BS) (i : Nat) (x : Ins), runB names s i (l ++ [x]) = stepB names (runB names s i l) (i + l.length) x
  | [], s, i, x => rfl
  | y :: r, s, i, x => by
    rw [List.cons_append, runB, runB_app names r]
    rw [List.length_cons, runB, show i + 1 + r.length = i + (r.length + 1) by omega]
theorem stB_snoc (names : List B8) (l : List Ins) (x : Ins) : stB names (l ++ [x]) = stepB names (stB names l) l.length x := by
  unfold stB
  rw [runB_app, Nat.zero_add]
theorem lkFrom_app (names : List B8) : ∀ (l : List Ins) (i : Nat) (x : Ins), lkFrom names i (l ++ [x]) = lkFrom names i l ++ (match lk names x with | some nm => [(i + l.length, nm)] | none => [])
  | [], i, x => by
    simp only [List.nil_append, lkFrom, List.length_nil, Nat.add_zero]
  | y :: r, i, x => by
    rw [List.cons_append, lkFrom, lkFrom_app names r, lkFrom, List.length_cons, show i + 1 + r.length = i + (r.length + 1) by omega]
    cases lk names y <;> rfl
theorem nameS_code (names : List B8) (s : BS) (i : Nat) : (nameS names s i).code = s.code ∧ (nameS names s i).links = s.links := by
  unfold nameS BS.at_
  split
  · exact ⟨rfl, rfl⟩
  · split <;> exact ⟨rfl, rfl⟩
theorem insS_code (names : List B8) (s : BS) (x : Ins) : (insS names s x).code = s.code ++ [cd names x] ∧ (insS names s x).places = s.places ∧ (insS names s x).bad = s.bad ∧
    (insS names s x).links = s.links ++ (match lk names x with | some nm => [(s.code.length, nm)] | none => []) := by
  unfold insS cd
  cases lk names x with
  | none => exact ⟨rfl, rfl, rfl, by simp [BS.do_]⟩
  | some nm => exact ⟨rfl, rfl, rfl, rfl⟩
theorem stB_code (names : List B8) (l : List Ins) : (stB names l).code = l.map (cd names) ∧ (stB names l).links = lkFrom names 0 l := by
  generalize hn : l.length = n
  induction n generalizing l with
  | zero =>
    obtain rfl := List.length_eq_zero_iff.1 hn
    exact ⟨rfl, rfl⟩
  | succ n ih =>
    obtain ⟨a, x, rfl⟩ : ∃ a x, l = a ++ [x] := ⟨l.dropLast, l.getLast (by intro e; rw [e] at hn; cases hn), (List.dropLast_concat_getLast _).symm⟩
    have hl : a.length = n := by simpa using hn
    obtain ⟨i1, i2⟩ := ih a hl
    rw [stB_snoc, lkFrom_app]
    unfold stepB
    obtain ⟨c1, c2⟩ := nameS_code names (stB names a) a.length
    obtain ⟨d1, d2, d3, d4⟩ := insS_code names (nameS names (stB names a) a.length) x
    rw [d1, d4, c1, c2, i1, i2]
    refine ⟨by simp, ?_⟩
    cases lk names x with
    | none => rfl
    | some nm => simp
/-- The instruction in its place. -/
def fx (s : BS) (names : List B8) (x : Ins) : Ins := match lk names x with | some nm => ⟨x.op, x.a, 0, 0, ((s.find nm).getD 0 : Nat)⟩ | none => x
def fd (s : BS) (names : List B8) (x : Ins) : Bool := match lk names x with | some nm => (s.find nm).isSome | none => true
theorem jumps_of {op : Int} (h : hasB op 84 = true) : jumps op = true := by
  unfold hasB opField at h
  split at h
  · next ho =>
    obtain ⟨n, rfl⟩ := Int.eq_ofNat_of_zero_le ho.1
    have h2 : n = 0 ∨ n = 1 ∨ n = 2 ∨ n = 3 ∨ n = 4 ∨ n = 5 ∨ n = 6 ∨ n = 7 ∨ n = 8 ∨ n = 9 ∨ n = 10 ∨ n = 11 ∨ n = 12 ∨ n = 13 ∨ n = 14 ∨ n = 15 ∨ n = 16 ∨ n = 17 ∨ n = 18 ∨ n = 19 ∨ n = 20 ∨ n = 21 ∨ n = 22 ∨ n = 23 ∨ n = 24 ∨ n = 25 ∨ n = 26 ∨ n = 27 := by omega
    rcases h2 with e | e | e | e | e | e | e | e | e | e | e | e | e | e | e | e | e | e | e | e | e | e | e | e | e | e | e | e <;> subst e <;> first | rfl | (exfalso; revert h; decide)
  · cases h
theorem linkTo_from (s : BS) (names : List B8) : ∀ (xs : List Ins) (i : Nat) (A : List Ins), A.length = i →
    s.linkTo (lkFrom names i xs) (A ++ xs.map (cd names)) = if xs.all (fd s names) = true then some (A ++ xs.map (fx s names)) else none
  | [], i, A, h => by simp [lkFrom, BS.linkTo]
  | x :: r, i, A, h => by
    have ih := fun B (hB : B.length = i + 1) => linkTo_from s names r (i + 1) B hB
    cases e : lk names x with
    | none =>
      have e1 : lkFrom names i (x :: r) = lkFrom names (i + 1) r := by rw [lkFrom, e]
      have e2 : cd names x = x := by unfold cd; rw [e]
      have e3 : fd s names x = true := by unfold fd; rw [e]
      have e4 : fx s names x = x := by unfold fx; rw [e]
      have := ih (A ++ [x]) (by simp [h])
      rw [List.append_assoc] at this
      rw [e1, List.map_cons, e2, show A ++ x :: r.map (cd names) = A ++ ([x] ++ r.map (cd names)) from rfl, this, List.all_cons, e3, List.map_cons, e4]
      simp
    | some nm =>
      have hj : jumps x.op = true := by
        unfold lk at e
        split at e
        · next h => exact jumps_of h.1
        · cases e
      have e1 : lkFrom names i (x :: r) = (i, nm) :: lkFrom names (i + 1) r := by rw [lkFrom, e]
      have e2 : cd names x = ⟨x.op, x.a, 0, 0, 0⟩ := by unfold cd; rw [e]
      have e3 : fd s names x = (s.find nm).isSome := by unfold fd; rw [e]
      have e4 : fx s names x = ⟨x.op, x.a, 0, 0, ((s.find nm).getD 0 : Nat)⟩ := by unfold fx; rw [e]
      rw [e1, List.map_cons, e2, List.all_cons, e3, List.map_cons, e4, BS.linkTo]
      have hg : (A ++ (⟨x.op, x.a, 0, 0, 0⟩ : Ins) :: r.map (cd names))[i]? = some ⟨x.op, x.a, 0, 0, 0⟩ := by
        rw [List.getElem?_append_right (by omega), h]; simp
      rw [hg]
      cases hf : s.find nm with
      | none => rfl
      | some n =>
        simp only []
        rw [if_pos hj]
        have hset : (A ++ (⟨x.op, x.a, 0, 0, 0⟩ : Ins) :: r.map (cd names)).set i ⟨x.op, x.a, 0, 0, (n : Int)⟩ = (A ++ [⟨x.op, x.a, 0, 0, (n : Int)⟩]) ++ r.map (cd names) := by
          rw [List.set_append_right _ _ (by omega), h]; simp
        rw [hset, ih _ (by simp [h])]
        simp
/-- What the builder answers. -/
theorem stB_out (names : List B8) (l : List Ins) : (stB names l).out = if (!(stB names l).bad && l.all (fd (stB names l) names)) = true then some (l.map (fx (stB names l) names)) else none := by
  obtain ⟨h1, h2⟩ := stB_code names l
  have h := linkTo_from (stB names l) names l 0 [] rfl
  unfold BS.out
  rw [h1, h2]
  rw [List.nil_append, List.nil_append] at h
  rw [h]
  cases (stB names l).bad <;> cases l.all (fd (stB names l) names) <;> rfl
theorem fx_cells (s : BS) (names : List B8) (x : Ins) : fx s names x = { cd names x with k := (fx s names x).k } := by
  unfold fx cd
  cases lk names x <;> rfl
theorem stB_places (names : List B8) (l : List Ins) : (stB names l).places.length ≤ l.length := by
  generalize hn : l.length = n
  induction n generalizing l with
  | zero =>
    obtain rfl := List.length_eq_zero_iff.1 hn
    exact Nat.le_refl _
  | succ n ih =>
    obtain ⟨a, x, rfl⟩ : ∃ a x, l = a ++ [x] := ⟨l.dropLast, l.getLast (by intro e; rw [e] at hn; cases hn), (List.dropLast_concat_getLast _).symm⟩
    have hl : a.length = n := by simpa using hn
    have i1 := ih a hl
    rw [stB_snoc]
    unfold stepB
    rw [(insS_code names _ x).2.1]
    unfold nameS BS.at_
    split
    · omega
    · split
      · show (stB names a).places.length ≤ _; omega
      · simp; omega
end Go.Proofs.YtlopmejmionnpaaDoor.As.Bu
