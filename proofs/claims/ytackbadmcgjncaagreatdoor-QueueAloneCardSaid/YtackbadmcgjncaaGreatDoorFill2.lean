/- Plain Lean: what a builder gathers of lines is the code that they make. No program in sight. -/
import Derived.Test.YtackbadmcgjncaaGreatDoorFill
set_option linter.unusedVariables false
namespace Go.Proofs.YtackbadmcgjncaaGreatDoor.As

def plOf : Nat → List Ln → List (B8 × Nat)
  | _, [] => []
  | n, .lab m :: r => (m, n) :: plOf n r
  | n, .ins _ _ :: r => plOf (n + 1) r
def lkOf : Nat → List Ln → List (Nat × B8)
  | _, [] => []
  | n, .lab _ :: r => lkOf n r
  | n, .ins _ to :: r => if to = [] then lkOf (n + 1) r else (n, to) :: lkOf (n + 1) r
theorem find_pl (nm : B8) : ∀ (b : List Ln) (n : Nat), ((plOf n b).find? (fun p => p.1 == nm)).map (·.2) = placeL nm n b
  | [], n => rfl
  | .lab m :: r, n => by
    rw [plOf, placeL, List.find?_cons]
    by_cases e : m = nm
    · rw [if_pos e, e, beq_self_eq_true]; rfl
    · rw [if_neg e, beq_eq_false_iff_ne.2 e]; exact find_pl nm r n
  | .ins i to :: r, n => by rw [plOf, placeL]; exact find_pl nm r (n + 1)
theorem find_snoc' (s : BS) (nm x : B8) (n : Nat) : (BS.find { s with places := s.places ++ [(nm, n)] } x).isSome = ((s.find x).isSome || (x == nm)) := by
  unfold BS.find
  simp only [List.find?_append, List.find?_cons, List.find?_nil, Option.isSome_map]
  by_cases e : x = nm
  · subst e
    rw [beq_self_eq_true]
    cases s.places.find? (fun p => p.1 == x) <;> simp
  · rw [beq_eq_false_iff_ne.2 (fun e' => e e'.symm), beq_eq_false_iff_ne.2 e]
    cases s.places.find? (fun p => p.1 == x) <;> simp
theorem run_eq : ∀ (b : List Ln) (s : BS) (seen : List B8), s.bad = false → (∀ m, m ∉ seen → (s.find m).isSome = false) → okLabs seen b = true →
    (∀ i to, Ln.ins i to ∈ b → to ≠ [] → i = ⟨i.op, i.a, 0, 0, 0⟩) →
    s.run b = ⟨s.code ++ (insL b).map (·.1), s.places ++ plOf s.code.length b, s.links ++ lkOf s.code.length b, false⟩
  | [], s, seen, hb, _, _, _ => by
    obtain ⟨c, p, l, bad⟩ := s
    have : bad = false := hb
    subst this
    simp [BS.run, insL, plOf, lkOf]
  | .lab m :: r, s, seen, hb, hs, ho, hi => by
    rw [okLabs, Bool.and_eq_true, Bool.and_eq_true] at ho
    obtain ⟨h1, h2, h3⟩ := ho
    have hm : m ∉ seen := by intro e; rw [List.contains_iff_mem.2 e] at h2; cases h2
    have ha : s.add (.lab m) = { s with places := s.places ++ [(m, s.code.length)] } := by
      show s.at_ m = _
      unfold BS.at_
      rw [if_neg (by rw [hs m hm, h1]; decide)]
    rw [BS.run, ha, run_eq r { s with places := s.places ++ [(m, s.code.length)] } (m :: seen) hb (fun x hx => by
      rw [find_snoc', hs x (fun e => hx (by simp [e])), Bool.false_or, beq_eq_false_iff_ne.2 (fun e => hx (by simp [e]))]) h3 (fun i to h => hi i to (by simp [h]))]
    simp [insL, plOf, lkOf]
  | .ins i [] :: r, s, seen, hb, hs, ho, hi => by
    rw [okLabs] at ho
    rw [BS.run, show s.add (.ins i []) = s.do_ i from rfl, run_eq r (s.do_ i) seen hb hs ho (fun i to h => hi i to (by simp [h]))]
    simp [insL, plOf, lkOf, BS.do_]
  | .ins i (c :: to) :: r, s, seen, hb, hs, ho, hi => by
    rw [okLabs] at ho
    have he := hi i (c :: to) (by simp) (by simp)
    rw [BS.run, show s.add (.ins i (c :: to)) = s.go_ i.op i.a (c :: to) from rfl, run_eq r (s.go_ i.op i.a (c :: to)) seen hb hs ho (fun i to h => hi i to (by simp [h]))]
    simp [insL, plOf, lkOf, BS.go_, ← he]
theorem linkTo_lk (b : List Ln) (s : BS) (hf : ∀ nm, s.find nm = placeL nm 0 b) : ∀ (q : List Ln) (A : List Ins),
    (∀ i to, Ln.ins i to ∈ q → to ≠ [] → jumps i.op = true ∧ (placeL to 0 b).isSome = true) →
    s.linkTo (lkOf A.length q) (A ++ (insL q).map (·.1)) = some (A ++ (insL q).map (resI b))
  | [], A, _ => rfl
  | .lab m :: r, A, h => by rw [lkOf, insL]; exact linkTo_lk b s hf r A (fun i to hm => h i to (by simp [hm]))
  | .ins i to :: r, A, h => by
    have ih := linkTo_lk b s hf r
    rw [lkOf, insL]
    by_cases ht : to = []
    · rw [if_pos ht]
      have := ih (A ++ [i]) (fun i to hm => h i to (by simp [hm]))
      have hr : resI b (i, to) = i := by unfold resI; rw [if_pos ht]
      rw [List.length_append] at this
      rw [List.map_cons, List.map_cons, hr]
      simpa using this
    · rw [if_neg ht]
      obtain ⟨hj, hp⟩ := h i to (by simp) ht
      obtain ⟨n, hn⟩ := Option.isSome_iff_exists.1 hp
      have hr : resI b (i, to) = { i with k := (n : Int) } := by unfold resI; rw [if_neg ht]; simp only []; rw [hn]; rfl
      have hg : (A ++ List.map (fun x => x.1) ((i, to) :: insL r))[A.length]? = some i := by simp
      unfold BS.linkTo
      rw [hf, hn, hg]
      simp only []
      rw [if_pos hj, List.map_cons, List.map_cons, hr, List.set_append_right _ _ (Nat.le_refl _), Nat.sub_self]
      have := ih (A ++ [{ i with k := (n : Int) }]) (fun i to hm => h i to (by simp [hm]))
      rw [List.length_append] at this
      simpa using this
theorem jump_zero {i : Ins} {to : B8} (h : Fits i to) (ht : to ≠ []) : i = ⟨i.op, i.a, 0, 0, 0⟩ := by
  obtain ⟨hj, hk, _⟩ := h.to ht
  have h1 := op_cases (P := fun op => jumps op = true → hasB op 77 = false ∧ hasB op 66 = false ∧ hasB op 67 = false) h.op (by decide)
  obtain ⟨a1, a2, a3⟩ := h1 hj
  have hb := h.b
  have hc := h.c
  rw [a1, a2] at hb
  rw [a3] at hc
  obtain ⟨op, a, b, c, k⟩ := i
  simp only [Bool.false_eq_true, if_false] at hb hc hk ⊢
  have e1 : b = 0 := by omega
  have e2 : c = 0 := by omega
  rw [e1, e2, hk]
/-- What a builder gathers of lines that are read is the code that they make. -/
theorem out_run {b : List Ln} (H : OkL b) : (BS.zero.run b).out = some (resL b) := by
  have hr := run_eq b BS.zero [] rfl (fun m _ => rfl) H.labs (fun i to hm ht => jump_zero (H.all _ hm) ht)
  have hf : ∀ nm, (BS.zero.run b).find nm = placeL nm 0 b := by
    intro nm
    rw [hr, ← find_pl nm b 0]
    rfl
  have := linkTo_lk b (BS.zero.run b) hf b [] (fun i to hm ht => ⟨((H.all _ hm : Fits i to).to ht).1, by
    have := H.to _ hm
    replace this : (if to = [] then !jumps i.op || decide (i.k ≤ ((insL b).length : Int)) else (placeL to 0 b).isSome) = true := this
    rw [if_neg ht] at this
    exact this⟩)
  unfold BS.out
  have hb : (BS.zero.run b).bad = false := by rw [hr]
  have hl : (BS.zero.run b).links = lkOf 0 b := by rw [hr]; rfl
  have hc : (BS.zero.run b).code = (insL b).map (·.1) := by rw [hr]; rfl
  rw [hb, hl, hc]
  simpa [resL] using this
/-- The names of the jumps that lines add are short. -/
theorem links_run {b : List Ln} (H : OkL b) : ∀ p ∈ (BS.zero.run b).links, p.2.length ≤ 20 := by
  have hr := run_eq b BS.zero [] rfl (fun m _ => rfl) H.labs (fun i to hm ht => jump_zero (H.all _ hm) ht)
  rw [hr]
  have key : ∀ (q : List Ln) (n : Nat), (∀ l ∈ q, l.Ok) → ∀ p ∈ lkOf n q, p.2.length ≤ 20 := by
    intro q
    induction q with
    | nil => intro n _ p hp; cases hp
    | cons l r ih =>
      intro n h p hp
      cases l with
      | lab m => exact ih n (fun x hx => h x (by simp [hx])) p hp
      | ins i to =>
        rw [lkOf] at hp
        split at hp
        · exact ih (n + 1) (fun x hx => h x (by simp [hx])) p hp
        · next ht =>
          rcases List.mem_cons.1 hp with e | hp
          · rw [e]; exact (nameOk_len ((h (.ins i to) (by simp) : Fits i to).to ht).2.2).2
          · exact ih (n + 1) (fun x hx => h x (by simp [hx])) p hp
  intro p hp
  exact key b 0 H.all p (by simpa [BS.zero] using hp)
end Go.Proofs.YtackbadmcgjncaaGreatDoor.As
