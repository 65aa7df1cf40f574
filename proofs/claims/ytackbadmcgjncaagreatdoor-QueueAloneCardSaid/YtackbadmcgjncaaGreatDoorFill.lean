/- Plain Lean: lines into which numbers are put, and what is read of them. No program in sight. -/
import Derived.Test.YtackbadmcgjncaaGreatDoorTxt3
set_option linter.unusedVariables false
namespace Go.Proofs.YtackbadmcgjncaaGreatDoor.As

/-- A letter and a closing bracket? -/
def inBr (r : B8) : Bool := decide (97 ≤ (r.getD 0 0).toNat) && (decide ((r.getD 0 0).toNat ≤ 113) && decide (r.getD 1 0 = 93))
def fillGo (base t : Nat) : Nat → B8 → B8
  | 0, _ => []
  | _ + 1, [] => []
  | n + 1, c :: r =>
    if c = 36 then decB (t + 1) ++ fillGo base t n r
    else if c = 91 ∧ inBr r = true then 91 :: (decB (base + ((r.getD 0 0).toNat - 97)) ++ 93 :: fillGo base t n (r.drop 2))
    else c :: fillGo base t n r
/-- Lines, in which letters in brackets are addresses, and $ is who asks. -/
def fillB (base t : Nat) (s : B8) : B8 := fillGo base t s.length s
theorem fillGo_more (base t : Nat) : ∀ (n m : Nat) (s : B8), s.length ≤ n → s.length ≤ m → fillGo base t n s = fillGo base t m s
  | 0, m, s, h, _ => by
    have : s = [] := List.length_eq_zero_iff.1 (by omega)
    rw [this]; cases m <;> rfl
  | n + 1, 0, s, _, h => by
    have : s = [] := List.length_eq_zero_iff.1 (by omega)
    rw [this]; rfl
  | n + 1, m + 1, [], _, _ => rfl
  | n + 1, m + 1, c :: r, h1, h2 => by
    rw [List.length_cons] at h1 h2
    rw [fillGo, fillGo, fillGo_more base t n m r (by omega) (by omega), fillGo_more base t n m (r.drop 2) (by rw [List.length_drop]; omega) (by rw [List.length_drop]; omega)]
theorem fillB_nil (base t : Nat) : fillB base t [] = [] := rfl
theorem fillB_cons (base t : Nat) (c : UInt8) (r : B8) : fillB base t (c :: r) = if c = 36 then decB (t + 1) ++ fillB base t r
    else if c = 91 ∧ inBr r = true then 91 :: (decB (base + ((r.getD 0 0).toNat - 97)) ++ 93 :: fillB base t (r.drop 2))
    else c :: fillB base t r := by
  unfold fillB
  rw [List.length_cons, fillGo, fillGo_more base t r.length (r.drop 2).length (r.drop 2) (by rw [List.length_drop]; omega) (Nat.le_refl _)]
theorem inBr_line (l r : B8) (h : (10 : UInt8) ∉ l) : inBr (l ++ 10 :: r) = inBr l ∧ (inBr l = true → 2 ≤ l.length) := by
  match l, h with
  | [], _ => exact ⟨rfl, fun e => by cases e⟩
  | [x], _ => exact ⟨by simp [inBr], fun e => by simp [inBr] at e⟩
  | x :: y :: l, _ => exact ⟨rfl, fun _ => by simp⟩
theorem fillB_line (base t : Nat) (r : B8) : ∀ (n : Nat) (l : B8), l.length ≤ n → (10 : UInt8) ∉ l → fillB base t (l ++ 10 :: r) = fillB base t l ++ 10 :: fillB base t r := by
  intro n
  induction n with
  | zero =>
    intro l hl _
    have : l = [] := List.length_eq_zero_iff.1 (by omega)
    rw [this, List.nil_append, fillB_cons, if_neg (by decide), if_neg (by rintro ⟨e, _⟩; revert e; decide)]
    rfl
  | succ n ih =>
    intro l hl h10
    match l, hl, h10 with
    | [], _, _ =>
      rw [List.nil_append, fillB_cons, if_neg (by decide), if_neg (by rintro ⟨e, _⟩; revert e; decide)]
      rfl
    | c :: l, hl, h10 =>
      have hl' : l.length ≤ n := by simpa using hl
      have h10' : (10 : UInt8) ∉ l := fun e => h10 (by simp [e])
      obtain ⟨hb, hb2⟩ := inBr_line l r h10'
      rw [List.cons_append, fillB_cons, fillB_cons, hb, ih l hl' h10']
      split
      · rw [List.append_assoc]
      · split
        · next hc =>
          have h2 := hb2 hc.2
          have hd : (l ++ 10 :: r).drop 2 = l.drop 2 ++ 10 :: r := by rw [List.drop_append_of_le_length h2]
          have hg : (l ++ 10 :: r).getD 0 0 = l.getD 0 0 := by
            match l, h2 with
            | x :: y :: l, _ => rfl
          rw [hd, hg, ih (l.drop 2) (by rw [List.length_drop]; omega) (fun e => h10' (List.mem_of_mem_drop e))]
          simp
        · rw [List.cons_append]
/-- Lines, each ended. -/
def unl : List B8 → B8
  | [] => []
  | l :: r => l ++ 10 :: unl r
theorem unl_app : ∀ (a b : List B8), unl (a ++ b) = unl a ++ unl b
  | [], b => rfl
  | l :: a, b => by rw [List.cons_append, unl, unl, unl_app a b, List.append_assoc]; rfl
theorem fillB_unl (base t : Nat) : ∀ (ls : List B8), (∀ l ∈ ls, (10 : UInt8) ∉ l) → fillB base t (unl ls) = unl (ls.map (fillB base t))
  | [], _ => rfl
  | l :: r, h => by
    rw [unl, fillB_line base t _ l.length l (Nat.le_refl _) (h l (by simp)), fillB_unl base t r (fun x hx => h x (by simp [hx]))]; rfl
theorem textL_unl : ∀ (b : List Ln), textL b = unl (b.map Ln.text)
  | [] => rfl
  | l :: r => by rw [textL, textL_unl r]; rfl

/-! ### Lines, by hand -/
def fitB (op a b c : Int) (to : B8) : Bool :=
  decide (0 ≤ op ∧ op < 28) && (decide (0 ≤ a ∧ a ≤ if hasB op 65 then 7 else 0) && (decide (0 ≤ b ∧ b ≤ if hasB op 77 then 8 else if hasB op 66 then 7 else 0) && (decide (0 ≤ c ∧ c ≤ if hasB op 67 then 7 else 0) && (to == [] || (jumps op && nameOk to)))))
theorem fit_of {op a b c k : Int} {to : B8} (h : fitB op a b c to = true) (hk : 0 ≤ k ∧ k ≤ if hasB op 75 ∨ hasB op 84 then 4294967295 else 0) (hk0 : to = [] ∨ k = 0) : Fits ⟨op, a, b, c, k⟩ to := by
  unfold fitB at h
  simp only [Bool.and_eq_true, decide_eq_true_eq, Bool.or_eq_true, beq_iff_eq] at h
  obtain ⟨h1, h2, h3, h4, h5⟩ := h
  exact ⟨h1, h2, h3, h4, hk, fun e => by rcases h5 with h5 | h5; exact absurd h5 e; rcases hk0 with h6 | h6; exact absurd h6 e; exact ⟨h5.1, h6, h5.2⟩⟩
theorem fit_0 {op a b c : Int} {to : B8} (h : fitB op a b c to = true) : Fits ⟨op, a, b, c, 0⟩ to :=
  fit_of h ⟨by omega, by split <;> omega⟩ (.inr rfl)
theorem fit_k {op a b c k : Int} (h : fitB op a b c [] = true) (h2 : (hasB op 75 || hasB op 84) = true) (hk : 0 ≤ k ∧ k ≤ 4294967295) : Fits ⟨op, a, b, c, k⟩ [] :=
  fit_of h ⟨hk.1, by rw [if_pos (by simpa using h2)]; exact hk.2⟩ (.inl rfl)

/-- The calls of a builder that lines name. -/
def BS.add (s : BS) : Ln → BS
  | .lab n => s.at_ n
  | .ins i [] => s.do_ i
  | .ins i (c :: r) => s.go_ i.op i.a (c :: r)
def BS.run (s : BS) : List Ln → BS
  | [] => s
  | l :: r => (s.add l).run r
theorem BS.run_app : ∀ (a b : List Ln) (s : BS), s.run (a ++ b) = (s.run a).run b
  | [], b, s => rfl
  | l :: a, b, s => by rw [List.cons_append, BS.run, BS.run, BS.run_app a b]
theorem cons2 {a b : B8} {l m : List B8} (h : a = b) (k : l = m) : a :: l = b :: m := by rw [h, k]
theorem dec_0 : decB (Int.toNat 0) = [48] := decB_small (by decide)
theorem dec_1 : decB (Int.toNat 1) = [49] := decB_small (by decide)
theorem dec_2 : decB (Int.toNat 2) = [50] := decB_small (by decide)
theorem dec_4 : decB (Int.toNat 4) = [52] := decB_small (by decide)
end Go.Proofs.YtackbadmcgjncaaGreatDoor.As
