/- Plain Lean: the document's lines of the locks of layer 16, words put in, and the code that they make. No program in sight. -/
import Derived.Test.YtmohjegcecimfaaDoorSubs
set_option linter.unusedVariables false
set_option maxRecDepth 4000
namespace Go.Proofs.YtmohjegcecimfaaDoor.As

def subs : List (B8 × B8) → B8 → B8
  | [], s => s
  | p :: r, s => subs r (subB p.1 p.2 s)
def Dig (d : B8) : Prop := d ≠ [] ∧ ∀ x ∈ d, 48 ≤ x.toNat ∧ x.toNat ≤ 57
theorem dig_dec (n : Nat) : Dig (decB n) := ⟨decB_ne n, fun _ h => decB_mem h⟩
def okW (w : B8) : Bool := decide (0 < w.length) && w.all (fun x => decide (57 < x.toNat))
theorem okW_not {w d : B8} (h : okW w = true) (hd : Dig d) : 0 < w.length ∧ ∀ x ∈ d, x ∉ w := by
  unfold okW at h
  rw [Bool.and_eq_true, decide_eq_true_eq, List.all_eq_true] at h
  refine ⟨h.1, fun x hx hw => ?_⟩
  have h1 := of_decide_eq_true (h.2 x hw)
  have h2 := hd.2 x hx
  omega
theorem subs_mid {d : B8} (hd : Dig d) (A R : B8) : ∀ (ps : List (B8 × B8)), (∀ p ∈ ps, okW p.1 = true ∧ subB p.1 p.2 A = A ∧ subB p.1 p.2 R = R) → subs ps (A ++ (d ++ R)) = A ++ (d ++ R)
  | [], _ => rfl
  | p :: r, h => by
    obtain ⟨h1, h2, h3⟩ := h p (by simp)
    obtain ⟨h4, h5⟩ := okW_not h1 hd
    rw [subs, subB_mid _ _ h4 R d A h5 hd.1, h2, h3]
    exact subs_mid hd A R r (fun q hq => h q (by simp [hq]))
theorem subs_unl : ∀ (ps : List (B8 × B8)) (ls : List B8), (∀ p ∈ ps, 0 < p.1.length ∧ (10 : UInt8) ∉ p.1) → subs ps (unl ls) = unl (ls.map (subs ps))
  | [], ls, _ => by
    have : subs ([] : List (B8 × B8)) = id := by funext s; rfl
    rw [this, List.map_id]; rfl
  | p :: r, ls, h => by
    rw [subs, subB_unl _ _ (h p (by simp)).1 (h p (by simp)).2, subs_unl r _ (fun q hq => h q (by simp [hq])), List.map_map]; rfl
theorem fill_skip (base t : Nat) (S : B8) : ∀ P : B8, (∀ x ∈ P, x ≠ 36 ∧ x ≠ 91) → fillB base t (P ++ S) = P ++ fillB base t S
  | [], _ => rfl
  | c :: P, h => by
    obtain ⟨h1, h2⟩ := h c (by simp)
    rw [List.cons_append, fillB_cons, if_neg h1, if_neg (fun e => h2 e.1), fill_skip base t S P (fun x hx => h x (by simp [hx]))]; rfl
theorem dig_skip {d : B8} (hd : Dig d) : ∀ x ∈ d, x ≠ 36 ∧ x ≠ 91 := fun x hx => by
  have h := hd.2 x hx
  refine ⟨?_, ?_⟩ <;> (rintro rfl; revert h; decide)
theorem fill_end (base t : Nat) : fillB base t [93] = [93] := rfl
def okP (P : B8) : Bool := P.all (fun x => x != 36 && x != 91)
theorem okP_not {P : B8} (h : okP P = true) : ∀ x ∈ P, x ≠ 36 ∧ x ≠ 91 := fun x hx => by
  have := List.all_eq_true.1 h x hx
  simpa using this
theorem fill_dir (base t : Nat) {d : B8} (hd : Dig d) (P : B8) (hP : okP P = true) : fillB base t (P ++ [91] ++ (d ++ [93])) = P ++ [91] ++ (d ++ [93]) := by
  have hb : inBr (d ++ [93]) = false := by
    obtain ⟨h1, h2⟩ := hd
    match d, h1, h2 with
    | c :: r, _, h2 =>
      have := (h2 c (by simp)).2
      unfold inBr
      rw [Bool.and_eq_false_iff]
      refine .inl (decide_eq_false ?_)
      show ¬ 97 ≤ c.toNat
      omega
  rw [List.append_assoc, fill_skip _ _ _ _ (okP_not hP), show [(91 : UInt8)] ++ (d ++ [93]) = 91 :: (d ++ [93]) from rfl, fillB_cons, if_neg (by decide), if_neg (by rw [hb]; rintro ⟨_, e⟩; cases e), fill_skip _ _ _ _ (dig_skip hd), fill_end]
theorem fill_far (base t : Nat) {d : B8} (hd : Dig d) (P : B8) (hP : okP P = true) : fillB base t (P ++ [91, 114, 52, 43] ++ (d ++ [93])) = P ++ [91, 114, 52, 43] ++ (d ++ [93]) := by
  have hb : inBr (114 :: 52 :: 43 :: (d ++ [93])) = false := rfl
  rw [List.append_assoc, fill_skip _ _ _ _ (okP_not hP), show [91, 114, 52, 43] ++ (d ++ [93]) = (91 : UInt8) :: 114 :: 52 :: 43 :: (d ++ [93]) from rfl, fillB_cons, if_neg (by decide), if_neg (by rw [hb]; rintro ⟨_, e⟩; cases e),
    show (114 : UInt8) :: 52 :: 43 :: (d ++ [93]) = [114, 52, 43] ++ (d ++ [93]) from rfl, fill_skip _ _ _ _ (by decide), fill_skip _ _ _ _ (dig_skip hd), fill_end]
/-- A short line. -/
def Shrt (l : B8) : Prop := l.length ≤ 40 ∧ (10 : UInt8) ∉ l
theorem shrt_of {l : B8} (h : (decide (l.length ≤ 40) && l.all (fun x => x != 10)) = true) : Shrt l := by
  rw [Bool.and_eq_true, decide_eq_true_eq, List.all_eq_true] at h
  exact ⟨h.1, fun e => by have := h.2 _ e; simp at this⟩
theorem shrt_mid {n : Nat} (hn : n ≤ 1000000000) {A : B8} (h : (decide (A.length ≤ 28) && A.all (fun x => x != 10)) = true) : Shrt (A ++ (decB n ++ [93])) := by
  rw [Bool.and_eq_true, decide_eq_true_eq, List.all_eq_true] at h
  have := decB_len 9 n (by omega)
  refine ⟨by simp only [List.length_append, List.length_cons, List.length_nil]; omega, fun e => ?_⟩
  rcases List.mem_append.1 e with e | e
  · have := h.2 _ e; simp at this
  · rcases List.mem_append.1 e with e | e
    · have := decB_mem e; revert this; decide
    · revert e; decide
theorem unl_short : ∀ (ls : List B8), (∀ l ∈ ls, Shrt l) → (unl ls).length ≤ 41 * ls.length
  | [], _ => by decide
  | l :: r, h => by
    have h1 := (h l (by simp)).1
    have h2 := unl_short r (fun x hx => h x (by simp [hx]))
    rw [unl, List.length_append, List.length_cons, List.length_cons]; omega

/-- What is put in. -/
def putL (base th t : Nat) : List (B8 × B8) := [([78, 69, 88, 84], decB (base + 2 + t)), ([87, 65, 73, 84], decB (base + 2 + th + t)), ([80, 82, 69, 86, 78], decB (base + 1)), ([80, 82, 69, 86, 87], decB (base + 1 + th)), ([70, 76, 65, 71], decB (base + 2)), ([77, 73, 78, 69], decB (base + 3 + th + t)), ([80, 82, 69, 68], decB (base + 3 + 2 * th + t))]
theorem putL_ok (base th t : Nat) : ∀ p ∈ putL base th t, 0 < p.1.length ∧ (10 : UInt8) ∉ p.1 := by
  unfold putL
  simp only [List.mem_cons, List.not_mem_nil, or_false, forall_eq_or_imp, forall_eq]
  exact ⟨by decide, by decide, by decide, by decide, by decide, by decide, by decide⟩
/-! ### McsIn -/
def srcMcsIn : List B8 := [[108, 111, 97, 100, 32, 114, 52, 32, 91, 98, 93], [115, 101, 116, 32, 114, 53, 32, 36], [115, 97, 109, 101, 32, 114, 54, 32, 114, 52, 32, 114, 53], [122, 101, 114, 111, 32, 114, 54, 32, 64, 102, 114, 101, 101], [115, 101, 116, 32, 114, 55, 32, 49], [106, 117, 109, 112, 32, 64, 101, 110, 100], [102, 114, 101, 101, 58], [115, 101, 116, 32, 114, 52, 32, 48], [115, 116, 111, 114, 101, 32, 114, 52, 32, 91, 78, 69, 88, 84, 93], [115, 101, 116, 32, 114, 52, 32, 49], [115, 116, 111, 114, 101, 32, 114, 52, 32, 91, 87, 65, 73, 84, 93], [115, 101, 116, 32, 114, 52, 32, 36], [115, 119, 97, 112, 32, 114, 52, 32, 91, 97, 93], [122, 101, 114, 111, 32, 114, 52, 32, 64, 103, 111, 116], [115, 116, 111, 114, 101, 32, 114, 53, 32, 91, 114, 52, 43, 80, 82, 69, 86, 78, 93], [115, 112, 105, 110, 58], [108, 111, 97, 100, 32, 114, 54, 32, 91, 87, 65, 73, 84, 93], [115, 111, 109, 101, 32, 114, 54, 32, 64, 115, 112, 105, 110], [103, 111, 116, 58], [115, 116, 111, 114, 101, 32, 114, 53, 32, 91, 98, 93], [115, 101, 116, 32, 114, 55, 32, 48], [101, 110, 100, 58]]
def midMcsIn (base th t : Nat) : List B8 := [[108, 111, 97, 100, 32, 114, 52, 32, 91, 98, 93], [115, 101, 116, 32, 114, 53, 32, 36], [115, 97, 109, 101, 32, 114, 54, 32, 114, 52, 32, 114, 53], [122, 101, 114, 111, 32, 114, 54, 32, 64, 102, 114, 101, 101], [115, 101, 116, 32, 114, 55, 32, 49], [106, 117, 109, 112, 32, 64, 101, 110, 100], [102, 114, 101, 101, 58], [115, 101, 116, 32, 114, 52, 32, 48], [115, 116, 111, 114, 101, 32, 114, 52, 32] ++ [91] ++ (decB (base + 2 + t) ++ [93]), [115, 101, 116, 32, 114, 52, 32, 49], [115, 116, 111, 114, 101, 32, 114, 52, 32] ++ [91] ++ (decB (base + 2 + th + t) ++ [93]), [115, 101, 116, 32, 114, 52, 32, 36], [115, 119, 97, 112, 32, 114, 52, 32, 91, 97, 93], [122, 101, 114, 111, 32, 114, 52, 32, 64, 103, 111, 116], [115, 116, 111, 114, 101, 32, 114, 53, 32] ++ [91, 114, 52, 43] ++ (decB (base + 1) ++ [93]), [115, 112, 105, 110, 58], [108, 111, 97, 100, 32, 114, 54, 32] ++ [91] ++ (decB (base + 2 + th + t) ++ [93]), [115, 111, 109, 101, 32, 114, 54, 32, 64, 115, 112, 105, 110], [103, 111, 116, 58], [115, 116, 111, 114, 101, 32, 114, 53, 32, 91, 98, 93], [115, 101, 116, 32, 114, 55, 32, 48], [101, 110, 100, 58]]
def linMcsIn (base th t : Nat) : List Ln := [.ins ⟨16, 4, 8, 0, ((base + 1 : Nat) : Int)⟩ [], .ins ⟨1, 5, 0, 0, ((t + 1 : Nat) : Int)⟩ [], .ins ⟨12, 6, 4, 5, 0⟩ [], .ins ⟨14, 6, 0, 0, 0⟩ [102, 114, 101, 101], .ins ⟨1, 7, 0, 0, 1⟩ [], .ins ⟨13, 0, 0, 0, 0⟩ [101, 110, 100], .lab [102, 114, 101, 101], .ins ⟨1, 4, 0, 0, 0⟩ [], .ins ⟨17, 4, 8, 0, ((base + 2 + t : Nat) : Int)⟩ [], .ins ⟨1, 4, 0, 0, 1⟩ [], .ins ⟨17, 4, 8, 0, ((base + 2 + th + t : Nat) : Int)⟩ [], .ins ⟨1, 4, 0, 0, ((t + 1 : Nat) : Int)⟩ [], .ins ⟨19, 4, 8, 0, ((base : Nat) : Int)⟩ [], .ins ⟨14, 4, 0, 0, 0⟩ [103, 111, 116], .ins ⟨17, 5, 4, 0, ((base + 1 : Nat) : Int)⟩ [], .lab [115, 112, 105, 110], .ins ⟨16, 6, 8, 0, ((base + 2 + th + t : Nat) : Int)⟩ [], .ins ⟨15, 6, 0, 0, 0⟩ [115, 112, 105, 110], .lab [103, 111, 116], .ins ⟨17, 5, 8, 0, ((base + 1 : Nat) : Int)⟩ [], .ins ⟨1, 7, 0, 0, 0⟩ [], .lab [101, 110, 100]]
theorem subMcsIn (base th t : Nat) : (srcMcsIn).map (subs (putL base th t)) = midMcsIn base th t := by
  unfold srcMcsIn midMcsIn
  simp only [List.map_cons, List.map_nil]
  exact cons2 (by kernel_rfl) (cons2 (by kernel_rfl) (cons2 (by kernel_rfl) (cons2 (by kernel_rfl) (cons2 (by kernel_rfl) (cons2 (by kernel_rfl) (cons2 (by kernel_rfl) (cons2 (by kernel_rfl) (cons2 ((show subs (putL base th t) [115, 116, 111, 114, 101, 32, 114, 52, 32, 91, 78, 69, 88, 84, 93] = subs [([87, 65, 73, 84], decB (base + 2 + th + t)), ([80, 82, 69, 86, 78], decB (base + 1)), ([80, 82, 69, 86, 87], decB (base + 1 + th)), ([70, 76, 65, 71], decB (base + 2)), ([77, 73, 78, 69], decB (base + 3 + th + t)), ([80, 82, 69, 68], decB (base + 3 + 2 * th + t))] ([115, 116, 111, 114, 101, 32, 114, 52, 32] ++ [91] ++ (decB (base + 2 + t) ++ [93])) from by kernel_rfl).trans (subs_mid (dig_dec _) ([115, 116, 111, 114, 101, 32, 114, 52, 32] ++ [91]) [93] _ (by
    simp only [List.mem_cons, List.not_mem_nil, or_false, forall_eq_or_imp, forall_eq]
    exact ⟨⟨by decide, by kernel_rfl, by kernel_rfl⟩, ⟨by decide, by kernel_rfl, by kernel_rfl⟩, ⟨by decide, by kernel_rfl, by kernel_rfl⟩, ⟨by decide, by kernel_rfl, by kernel_rfl⟩, ⟨by decide, by kernel_rfl, by kernel_rfl⟩, ⟨by decide, by kernel_rfl, by kernel_rfl⟩⟩))) (cons2 (by kernel_rfl) (cons2 ((show subs (putL base th t) [115, 116, 111, 114, 101, 32, 114, 52, 32, 91, 87, 65, 73, 84, 93] = subs [([80, 82, 69, 86, 78], decB (base + 1)), ([80, 82, 69, 86, 87], decB (base + 1 + th)), ([70, 76, 65, 71], decB (base + 2)), ([77, 73, 78, 69], decB (base + 3 + th + t)), ([80, 82, 69, 68], decB (base + 3 + 2 * th + t))] ([115, 116, 111, 114, 101, 32, 114, 52, 32] ++ [91] ++ (decB (base + 2 + th + t) ++ [93])) from by kernel_rfl).trans (subs_mid (dig_dec _) ([115, 116, 111, 114, 101, 32, 114, 52, 32] ++ [91]) [93] _ (by
    simp only [List.mem_cons, List.not_mem_nil, or_false, forall_eq_or_imp, forall_eq]
    exact ⟨⟨by decide, by kernel_rfl, by kernel_rfl⟩, ⟨by decide, by kernel_rfl, by kernel_rfl⟩, ⟨by decide, by kernel_rfl, by kernel_rfl⟩, ⟨by decide, by kernel_rfl, by kernel_rfl⟩, ⟨by decide, by kernel_rfl, by kernel_rfl⟩⟩))) (cons2 (by kernel_rfl) (cons2 (by kernel_rfl) (cons2 (by kernel_rfl) (cons2 ((show subs (putL base th t) [115, 116, 111, 114, 101, 32, 114, 53, 32, 91, 114, 52, 43, 80, 82, 69, 86, 78, 93] = subs [([80, 82, 69, 86, 87], decB (base + 1 + th)), ([70, 76, 65, 71], decB (base + 2)), ([77, 73, 78, 69], decB (base + 3 + th + t)), ([80, 82, 69, 68], decB (base + 3 + 2 * th + t))] ([115, 116, 111, 114, 101, 32, 114, 53, 32] ++ [91, 114, 52, 43] ++ (decB (base + 1) ++ [93])) from by kernel_rfl).trans (subs_mid (dig_dec _) ([115, 116, 111, 114, 101, 32, 114, 53, 32] ++ [91, 114, 52, 43]) [93] _ (by
    simp only [List.mem_cons, List.not_mem_nil, or_false, forall_eq_or_imp, forall_eq]
    exact ⟨⟨by decide, by kernel_rfl, by kernel_rfl⟩, ⟨by decide, by kernel_rfl, by kernel_rfl⟩, ⟨by decide, by kernel_rfl, by kernel_rfl⟩, ⟨by decide, by kernel_rfl, by kernel_rfl⟩⟩))) (cons2 (by kernel_rfl) (cons2 ((show subs (putL base th t) [108, 111, 97, 100, 32, 114, 54, 32, 91, 87, 65, 73, 84, 93] = subs [([80, 82, 69, 86, 78], decB (base + 1)), ([80, 82, 69, 86, 87], decB (base + 1 + th)), ([70, 76, 65, 71], decB (base + 2)), ([77, 73, 78, 69], decB (base + 3 + th + t)), ([80, 82, 69, 68], decB (base + 3 + 2 * th + t))] ([108, 111, 97, 100, 32, 114, 54, 32] ++ [91] ++ (decB (base + 2 + th + t) ++ [93])) from by kernel_rfl).trans (subs_mid (dig_dec _) ([108, 111, 97, 100, 32, 114, 54, 32] ++ [91]) [93] _ (by
    simp only [List.mem_cons, List.not_mem_nil, or_false, forall_eq_or_imp, forall_eq]
    exact ⟨⟨by decide, by kernel_rfl, by kernel_rfl⟩, ⟨by decide, by kernel_rfl, by kernel_rfl⟩, ⟨by decide, by kernel_rfl, by kernel_rfl⟩, ⟨by decide, by kernel_rfl, by kernel_rfl⟩, ⟨by decide, by kernel_rfl, by kernel_rfl⟩⟩))) (cons2 (by kernel_rfl) (cons2 (by kernel_rfl) (cons2 (by kernel_rfl) (cons2 (by kernel_rfl) (cons2 (by kernel_rfl) (rfl))))))))))))))))))))))
theorem fillMcsIn (base th t : Nat) : (midMcsIn base th t).map (fillB base t) = (linMcsIn base th t).map Ln.text := by
  unfold midMcsIn linMcsIn
  simp only [List.map_cons, List.map_nil]
  exact cons2 rfl (cons2 (congrArg (fun x => 115 :: 101 :: 116 :: 32 :: 114 :: 53 :: 32 :: x) (List.append_nil (decB (t + 1)))) (cons2 rfl (cons2 rfl (cons2 (congrArg (fun x => joinB 32 [[115, 101, 116], [114, 55], x]) dec_1).symm (cons2 rfl (cons2 rfl (cons2 (congrArg (fun x => joinB 32 [[115, 101, 116], [114, 52], x]) dec_0).symm (cons2 (fill_dir base t (dig_dec _) [115, 116, 111, 114, 101, 32, 114, 52, 32] (by decide)) (cons2 (congrArg (fun x => joinB 32 [[115, 101, 116], [114, 52], x]) dec_1).symm (cons2 (fill_dir base t (dig_dec _) [115, 116, 111, 114, 101, 32, 114, 52, 32] (by decide)) (cons2 (congrArg (fun x => 115 :: 101 :: 116 :: 32 :: 114 :: 52 :: 32 :: x) (List.append_nil (decB (t + 1)))) (cons2 rfl (cons2 rfl (cons2 (fill_far base t (dig_dec _) [115, 116, 111, 114, 101, 32, 114, 53, 32] (by decide)) (cons2 rfl (cons2 (fill_dir base t (dig_dec _) [108, 111, 97, 100, 32, 114, 54, 32] (by decide)) (cons2 rfl (cons2 rfl (cons2 rfl (cons2 (congrArg (fun x => joinB 32 [[115, 101, 116], [114, 55], x]) dec_0).symm (cons2 rfl (rfl))))))))))))))))))))))
theorem shrtMcsIn {base th t : Nat} (hb : base ≤ 100000) (hth : th ≤ 100) (ht : t ≤ 100) : ∀ l ∈ midMcsIn base th t, Shrt l := by
  unfold midMcsIn
  simp only [List.mem_cons, List.not_mem_nil, or_false, forall_eq_or_imp, forall_eq]
  exact ⟨shrt_of (by decide), shrt_of (by decide), shrt_of (by decide), shrt_of (by decide), shrt_of (by decide), shrt_of (by decide), shrt_of (by decide), shrt_of (by decide), shrt_mid (by omega) (by decide), shrt_of (by decide), shrt_mid (by omega) (by decide), shrt_of (by decide), shrt_of (by decide), shrt_of (by decide), shrt_mid (by omega) (by decide), shrt_of (by decide), shrt_mid (by omega) (by decide), shrt_of (by decide), shrt_of (by decide), shrt_of (by decide), shrt_of (by decide), shrt_of (by decide)⟩
theorem lenMcsIn {base th t : Nat} (hb : base ≤ 100000) (hth : th ≤ 100) (ht : t ≤ 100) : (unl (midMcsIn base th t)).length ≤ 10000 := Nat.le_trans (unl_short _ (shrtMcsIn hb hth ht)) (Nat.le_of_ble_eq_true rfl)
theorem okMcsIn {base th t : Nat} (hb : base ≤ 100000) (hth : th ≤ 100) (ht : t ≤ 100) : OkL (linMcsIn base th t) := by
  refine ⟨?_, rfl, ?_, Nat.le_of_ble_eq_true rfl⟩
  · unfold linMcsIn
    simp only [List.mem_cons, List.not_mem_nil, or_false, forall_eq_or_imp, forall_eq]
    exact ⟨(fit_k (by decide) rfl (by omega)), (fit_k (by decide) rfl (by omega)), (fit_0 (by decide)), (fit_0 (by decide)), (fit_k (by decide) rfl (by omega)), (fit_0 (by decide)), show nameOk _ = true from rfl, (fit_k (by decide) rfl (by omega)), (fit_k (by decide) rfl (by omega)), (fit_k (by decide) rfl (by omega)), (fit_k (by decide) rfl (by omega)), (fit_k (by decide) rfl (by omega)), (fit_k (by decide) rfl (by omega)), (fit_0 (by decide)), (fit_k (by decide) rfl (by omega)), show nameOk _ = true from rfl, (fit_k (by decide) rfl (by omega)), (fit_0 (by decide)), show nameOk _ = true from rfl, (fit_k (by decide) rfl (by omega)), (fit_k (by decide) rfl (by omega)), show nameOk _ = true from rfl⟩
  · unfold linMcsIn
    simp only [List.mem_cons, List.not_mem_nil, or_false, forall_eq_or_imp, forall_eq]
    exact ⟨rfl, rfl, rfl, rfl, rfl, rfl, rfl, rfl, rfl, rfl, rfl, rfl, rfl, rfl, rfl, rfl, rfl, rfl, rfl, rfl, rfl, rfl⟩
theorem putMcsIn (base th t : Nat) : subs (putL base th t) (unl srcMcsIn) = unl (midMcsIn base th t) := by rw [subs_unl _ _ (putL_ok base th t), subMcsIn]
theorem parseMcsIn {base th t : Nat} (hb : base ≤ 100000) (hth : th ≤ 100) (ht : t ≤ 100) : parseB (fillB base t (unl (midMcsIn base th t))) = (resL (linMcsIn base th t), 0, 0) := by
  rw [fillB_unl _ _ _ (fun l h => (shrtMcsIn hb hth ht l h).2), fillMcsIn, ← textL_unl]
  exact parse_text (okMcsIn hb hth ht)
/-! ### McsOut -/
def srcMcsOut : List B8 := [[108, 111, 97, 100, 32, 114, 52, 32, 91, 98, 93], [115, 101, 116, 32, 114, 53, 32, 36], [115, 97, 109, 101, 32, 114, 54, 32, 114, 52, 32, 114, 53], [115, 111, 109, 101, 32, 114, 54, 32, 64, 109, 105, 110, 101], [115, 101, 116, 32, 114, 55, 32, 50], [106, 117, 109, 112, 32, 64, 101, 110, 100], [109, 105, 110, 101, 58], [115, 101, 116, 32, 114, 52, 32, 48], [115, 116, 111, 114, 101, 32, 114, 52, 32, 91, 98, 93], [108, 111, 97, 100, 32, 114, 52, 32, 91, 78, 69, 88, 84, 93], [115, 111, 109, 101, 32, 114, 52, 32, 64, 112, 97, 115, 115], [109, 111, 118, 101, 32, 114, 52, 32, 114, 53], [115, 101, 116, 32, 114, 54, 32, 48], [99, 97, 115, 32, 114, 52, 32, 114, 54, 32, 91, 97, 93], [115, 97, 109, 101, 32, 114, 54, 32, 114, 52, 32, 114, 53], [115, 111, 109, 101, 32, 114, 54, 32, 64, 100, 111, 110, 101], [108, 111, 111, 107, 58], [108, 111, 97, 100, 32, 114, 52, 32, 91, 78, 69, 88, 84, 93], [122, 101, 114, 111, 32, 114, 52, 32, 64, 108, 111, 111, 107], [112, 97, 115, 115, 58], [115, 101, 116, 32, 114, 54, 32, 48], [115, 116, 111, 114, 101, 32, 114, 54, 32, 91, 114, 52, 43, 80, 82, 69, 86, 87, 93], [100, 111, 110, 101, 58], [115, 101, 116, 32, 114, 55, 32, 48], [101, 110, 100, 58]]
def midMcsOut (base th t : Nat) : List B8 := [[108, 111, 97, 100, 32, 114, 52, 32, 91, 98, 93], [115, 101, 116, 32, 114, 53, 32, 36], [115, 97, 109, 101, 32, 114, 54, 32, 114, 52, 32, 114, 53], [115, 111, 109, 101, 32, 114, 54, 32, 64, 109, 105, 110, 101], [115, 101, 116, 32, 114, 55, 32, 50], [106, 117, 109, 112, 32, 64, 101, 110, 100], [109, 105, 110, 101, 58], [115, 101, 116, 32, 114, 52, 32, 48], [115, 116, 111, 114, 101, 32, 114, 52, 32, 91, 98, 93], [108, 111, 97, 100, 32, 114, 52, 32] ++ [91] ++ (decB (base + 2 + t) ++ [93]), [115, 111, 109, 101, 32, 114, 52, 32, 64, 112, 97, 115, 115], [109, 111, 118, 101, 32, 114, 52, 32, 114, 53], [115, 101, 116, 32, 114, 54, 32, 48], [99, 97, 115, 32, 114, 52, 32, 114, 54, 32, 91, 97, 93], [115, 97, 109, 101, 32, 114, 54, 32, 114, 52, 32, 114, 53], [115, 111, 109, 101, 32, 114, 54, 32, 64, 100, 111, 110, 101], [108, 111, 111, 107, 58], [108, 111, 97, 100, 32, 114, 52, 32] ++ [91] ++ (decB (base + 2 + t) ++ [93]), [122, 101, 114, 111, 32, 114, 52, 32, 64, 108, 111, 111, 107], [112, 97, 115, 115, 58], [115, 101, 116, 32, 114, 54, 32, 48], [115, 116, 111, 114, 101, 32, 114, 54, 32] ++ [91, 114, 52, 43] ++ (decB (base + 1 + th) ++ [93]), [100, 111, 110, 101, 58], [115, 101, 116, 32, 114, 55, 32, 48], [101, 110, 100, 58]]
def linMcsOut (base th t : Nat) : List Ln := [.ins ⟨16, 4, 8, 0, ((base + 1 : Nat) : Int)⟩ [], .ins ⟨1, 5, 0, 0, ((t + 1 : Nat) : Int)⟩ [], .ins ⟨12, 6, 4, 5, 0⟩ [], .ins ⟨15, 6, 0, 0, 0⟩ [109, 105, 110, 101], .ins ⟨1, 7, 0, 0, 2⟩ [], .ins ⟨13, 0, 0, 0, 0⟩ [101, 110, 100], .lab [109, 105, 110, 101], .ins ⟨1, 4, 0, 0, 0⟩ [], .ins ⟨17, 4, 8, 0, ((base + 1 : Nat) : Int)⟩ [], .ins ⟨16, 4, 8, 0, ((base + 2 + t : Nat) : Int)⟩ [], .ins ⟨15, 4, 0, 0, 0⟩ [112, 97, 115, 115], .ins ⟨2, 4, 5, 0, 0⟩ [], .ins ⟨1, 6, 0, 0, 0⟩ [], .ins ⟨21, 4, 8, 6, ((base : Nat) : Int)⟩ [], .ins ⟨12, 6, 4, 5, 0⟩ [], .ins ⟨15, 6, 0, 0, 0⟩ [100, 111, 110, 101], .lab [108, 111, 111, 107], .ins ⟨16, 4, 8, 0, ((base + 2 + t : Nat) : Int)⟩ [], .ins ⟨14, 4, 0, 0, 0⟩ [108, 111, 111, 107], .lab [112, 97, 115, 115], .ins ⟨1, 6, 0, 0, 0⟩ [], .ins ⟨17, 6, 4, 0, ((base + 1 + th : Nat) : Int)⟩ [], .lab [100, 111, 110, 101], .ins ⟨1, 7, 0, 0, 0⟩ [], .lab [101, 110, 100]]
theorem subMcsOut (base th t : Nat) : (srcMcsOut).map (subs (putL base th t)) = midMcsOut base th t := by
  unfold srcMcsOut midMcsOut
  simp only [List.map_cons, List.map_nil]
  exact cons2 (by kernel_rfl) (cons2 (by kernel_rfl) (cons2 (by kernel_rfl) (cons2 (by kernel_rfl) (cons2 (by kernel_rfl) (cons2 (by kernel_rfl) (cons2 (by kernel_rfl) (cons2 (by kernel_rfl) (cons2 (by kernel_rfl) (cons2 ((show subs (putL base th t) [108, 111, 97, 100, 32, 114, 52, 32, 91, 78, 69, 88, 84, 93] = subs [([87, 65, 73, 84], decB (base + 2 + th + t)), ([80, 82, 69, 86, 78], decB (base + 1)), ([80, 82, 69, 86, 87], decB (base + 1 + th)), ([70, 76, 65, 71], decB (base + 2)), ([77, 73, 78, 69], decB (base + 3 + th + t)), ([80, 82, 69, 68], decB (base + 3 + 2 * th + t))] ([108, 111, 97, 100, 32, 114, 52, 32] ++ [91] ++ (decB (base + 2 + t) ++ [93])) from by kernel_rfl).trans (subs_mid (dig_dec _) ([108, 111, 97, 100, 32, 114, 52, 32] ++ [91]) [93] _ (by
    simp only [List.mem_cons, List.not_mem_nil, or_false, forall_eq_or_imp, forall_eq]
    exact ⟨⟨by decide, by kernel_rfl, by kernel_rfl⟩, ⟨by decide, by kernel_rfl, by kernel_rfl⟩, ⟨by decide, by kernel_rfl, by kernel_rfl⟩, ⟨by decide, by kernel_rfl, by kernel_rfl⟩, ⟨by decide, by kernel_rfl, by kernel_rfl⟩, ⟨by decide, by kernel_rfl, by kernel_rfl⟩⟩))) (cons2 (by kernel_rfl) (cons2 (by kernel_rfl) (cons2 (by kernel_rfl) (cons2 (by kernel_rfl) (cons2 (by kernel_rfl) (cons2 (by kernel_rfl) (cons2 (by kernel_rfl) (cons2 ((show subs (putL base th t) [108, 111, 97, 100, 32, 114, 52, 32, 91, 78, 69, 88, 84, 93] = subs [([87, 65, 73, 84], decB (base + 2 + th + t)), ([80, 82, 69, 86, 78], decB (base + 1)), ([80, 82, 69, 86, 87], decB (base + 1 + th)), ([70, 76, 65, 71], decB (base + 2)), ([77, 73, 78, 69], decB (base + 3 + th + t)), ([80, 82, 69, 68], decB (base + 3 + 2 * th + t))] ([108, 111, 97, 100, 32, 114, 52, 32] ++ [91] ++ (decB (base + 2 + t) ++ [93])) from by kernel_rfl).trans (subs_mid (dig_dec _) ([108, 111, 97, 100, 32, 114, 52, 32] ++ [91]) [93] _ (by
    simp only [List.mem_cons, List.not_mem_nil, or_false, forall_eq_or_imp, forall_eq]
    exact ⟨⟨by decide, by kernel_rfl, by kernel_rfl⟩, ⟨by decide, by kernel_rfl, by kernel_rfl⟩, ⟨by decide, by kernel_rfl, by kernel_rfl⟩, ⟨by decide, by kernel_rfl, by kernel_rfl⟩, ⟨by decide, by kernel_rfl, by kernel_rfl⟩, ⟨by decide, by kernel_rfl, by kernel_rfl⟩⟩))) (cons2 (by kernel_rfl) (cons2 (by kernel_rfl) (cons2 (by kernel_rfl) (cons2 ((show subs (putL base th t) [115, 116, 111, 114, 101, 32, 114, 54, 32, 91, 114, 52, 43, 80, 82, 69, 86, 87, 93] = subs [([70, 76, 65, 71], decB (base + 2)), ([77, 73, 78, 69], decB (base + 3 + th + t)), ([80, 82, 69, 68], decB (base + 3 + 2 * th + t))] ([115, 116, 111, 114, 101, 32, 114, 54, 32] ++ [91, 114, 52, 43] ++ (decB (base + 1 + th) ++ [93])) from by kernel_rfl).trans (subs_mid (dig_dec _) ([115, 116, 111, 114, 101, 32, 114, 54, 32] ++ [91, 114, 52, 43]) [93] _ (by
    simp only [List.mem_cons, List.not_mem_nil, or_false, forall_eq_or_imp, forall_eq]
    exact ⟨⟨by decide, by kernel_rfl, by kernel_rfl⟩, ⟨by decide, by kernel_rfl, by kernel_rfl⟩, ⟨by decide, by kernel_rfl, by kernel_rfl⟩⟩))) (cons2 (by kernel_rfl) (cons2 (by kernel_rfl) (cons2 (by kernel_rfl) (rfl)))))))))))))))))))))))))
theorem fillMcsOut (base th t : Nat) : (midMcsOut base th t).map (fillB base t) = (linMcsOut base th t).map Ln.text := by
  unfold midMcsOut linMcsOut
  simp only [List.map_cons, List.map_nil]
  exact cons2 rfl (cons2 (congrArg (fun x => 115 :: 101 :: 116 :: 32 :: 114 :: 53 :: 32 :: x) (List.append_nil (decB (t + 1)))) (cons2 rfl (cons2 rfl (cons2 (congrArg (fun x => joinB 32 [[115, 101, 116], [114, 55], x]) dec_2).symm (cons2 rfl (cons2 rfl (cons2 (congrArg (fun x => joinB 32 [[115, 101, 116], [114, 52], x]) dec_0).symm (cons2 rfl (cons2 (fill_dir base t (dig_dec _) [108, 111, 97, 100, 32, 114, 52, 32] (by decide)) (cons2 rfl (cons2 rfl (cons2 (congrArg (fun x => joinB 32 [[115, 101, 116], [114, 54], x]) dec_0).symm (cons2 rfl (cons2 rfl (cons2 rfl (cons2 rfl (cons2 (fill_dir base t (dig_dec _) [108, 111, 97, 100, 32, 114, 52, 32] (by decide)) (cons2 rfl (cons2 rfl (cons2 (congrArg (fun x => joinB 32 [[115, 101, 116], [114, 54], x]) dec_0).symm (cons2 (fill_far base t (dig_dec _) [115, 116, 111, 114, 101, 32, 114, 54, 32] (by decide)) (cons2 rfl (cons2 (congrArg (fun x => joinB 32 [[115, 101, 116], [114, 55], x]) dec_0).symm (cons2 rfl (rfl)))))))))))))))))))))))))
theorem shrtMcsOut {base th t : Nat} (hb : base ≤ 100000) (hth : th ≤ 100) (ht : t ≤ 100) : ∀ l ∈ midMcsOut base th t, Shrt l := by
  unfold midMcsOut
  simp only [List.mem_cons, List.not_mem_nil, or_false, forall_eq_or_imp, forall_eq]
  exact ⟨shrt_of (by decide), shrt_of (by decide), shrt_of (by decide), shrt_of (by decide), shrt_of (by decide), shrt_of (by decide), shrt_of (by decide), shrt_of (by decide), shrt_of (by decide), shrt_mid (by omega) (by decide), shrt_of (by decide), shrt_of (by decide), shrt_of (by decide), shrt_of (by decide), shrt_of (by decide), shrt_of (by decide), shrt_of (by decide), shrt_mid (by omega) (by decide), shrt_of (by decide), shrt_of (by decide), shrt_of (by decide), shrt_mid (by omega) (by decide), shrt_of (by decide), shrt_of (by decide), shrt_of (by decide)⟩
theorem lenMcsOut {base th t : Nat} (hb : base ≤ 100000) (hth : th ≤ 100) (ht : t ≤ 100) : (unl (midMcsOut base th t)).length ≤ 10000 := Nat.le_trans (unl_short _ (shrtMcsOut hb hth ht)) (Nat.le_of_ble_eq_true rfl)
theorem okMcsOut {base th t : Nat} (hb : base ≤ 100000) (hth : th ≤ 100) (ht : t ≤ 100) : OkL (linMcsOut base th t) := by
  refine ⟨?_, rfl, ?_, Nat.le_of_ble_eq_true rfl⟩
  · unfold linMcsOut
    simp only [List.mem_cons, List.not_mem_nil, or_false, forall_eq_or_imp, forall_eq]
    exact ⟨(fit_k (by decide) rfl (by omega)), (fit_k (by decide) rfl (by omega)), (fit_0 (by decide)), (fit_0 (by decide)), (fit_k (by decide) rfl (by omega)), (fit_0 (by decide)), show nameOk _ = true from rfl, (fit_k (by decide) rfl (by omega)), (fit_k (by decide) rfl (by omega)), (fit_k (by decide) rfl (by omega)), (fit_0 (by decide)), (fit_0 (by decide)), (fit_k (by decide) rfl (by omega)), (fit_k (by decide) rfl (by omega)), (fit_0 (by decide)), (fit_0 (by decide)), show nameOk _ = true from rfl, (fit_k (by decide) rfl (by omega)), (fit_0 (by decide)), show nameOk _ = true from rfl, (fit_k (by decide) rfl (by omega)), (fit_k (by decide) rfl (by omega)), show nameOk _ = true from rfl, (fit_k (by decide) rfl (by omega)), show nameOk _ = true from rfl⟩
  · unfold linMcsOut
    simp only [List.mem_cons, List.not_mem_nil, or_false, forall_eq_or_imp, forall_eq]
    exact ⟨rfl, rfl, rfl, rfl, rfl, rfl, rfl, rfl, rfl, rfl, rfl, rfl, rfl, rfl, rfl, rfl, rfl, rfl, rfl, rfl, rfl, rfl, rfl, rfl, rfl⟩
theorem putMcsOut (base th t : Nat) : subs (putL base th t) (unl srcMcsOut) = unl (midMcsOut base th t) := by rw [subs_unl _ _ (putL_ok base th t), subMcsOut]
theorem parseMcsOut {base th t : Nat} (hb : base ≤ 100000) (hth : th ≤ 100) (ht : t ≤ 100) : parseB (fillB base t (unl (midMcsOut base th t))) = (resL (linMcsOut base th t), 0, 0) := by
  rw [fillB_unl _ _ _ (fun l h => (shrtMcsOut hb hth ht l h).2), fillMcsOut, ← textL_unl]
  exact parse_text (okMcsOut hb hth ht)
/-! ### ClhIn -/
def srcClhIn : List B8 := [[108, 111, 97, 100, 32, 114, 52, 32, 91, 98, 93], [115, 101, 116, 32, 114, 53, 32, 36], [115, 97, 109, 101, 32, 114, 54, 32, 114, 52, 32, 114, 53], [122, 101, 114, 111, 32, 114, 54, 32, 64, 102, 114, 101, 101], [115, 101, 116, 32, 114, 55, 32, 49], [106, 117, 109, 112, 32, 64, 101, 110, 100], [102, 114, 101, 101, 58], [108, 111, 97, 100, 32, 114, 52, 32, 91, 77, 73, 78, 69, 93], [115, 101, 116, 32, 114, 54, 32, 49], [115, 116, 111, 114, 101, 32, 114, 54, 32, 91, 114, 52, 43, 70, 76, 65, 71, 93], [115, 119, 97, 112, 32, 114, 52, 32, 91, 97, 93], [115, 116, 111, 114, 101, 32, 114, 52, 32, 91, 80, 82, 69, 68, 93], [115, 112, 105, 110, 58], [108, 111, 97, 100, 32, 114, 54, 32, 91, 114, 52, 43, 70, 76, 65, 71, 93], [115, 111, 109, 101, 32, 114, 54, 32, 64, 115, 112, 105, 110], [115, 116, 111, 114, 101, 32, 114, 53, 32, 91, 98, 93], [115, 101, 116, 32, 114, 55, 32, 48], [101, 110, 100, 58]]
def midClhIn (base th t : Nat) : List B8 := [[108, 111, 97, 100, 32, 114, 52, 32, 91, 98, 93], [115, 101, 116, 32, 114, 53, 32, 36], [115, 97, 109, 101, 32, 114, 54, 32, 114, 52, 32, 114, 53], [122, 101, 114, 111, 32, 114, 54, 32, 64, 102, 114, 101, 101], [115, 101, 116, 32, 114, 55, 32, 49], [106, 117, 109, 112, 32, 64, 101, 110, 100], [102, 114, 101, 101, 58], [108, 111, 97, 100, 32, 114, 52, 32] ++ [91] ++ (decB (base + 3 + th + t) ++ [93]), [115, 101, 116, 32, 114, 54, 32, 49], [115, 116, 111, 114, 101, 32, 114, 54, 32] ++ [91, 114, 52, 43] ++ (decB (base + 2) ++ [93]), [115, 119, 97, 112, 32, 114, 52, 32, 91, 97, 93], [115, 116, 111, 114, 101, 32, 114, 52, 32] ++ [91] ++ (decB (base + 3 + 2 * th + t) ++ [93]), [115, 112, 105, 110, 58], [108, 111, 97, 100, 32, 114, 54, 32] ++ [91, 114, 52, 43] ++ (decB (base + 2) ++ [93]), [115, 111, 109, 101, 32, 114, 54, 32, 64, 115, 112, 105, 110], [115, 116, 111, 114, 101, 32, 114, 53, 32, 91, 98, 93], [115, 101, 116, 32, 114, 55, 32, 48], [101, 110, 100, 58]]
def linClhIn (base th t : Nat) : List Ln := [.ins ⟨16, 4, 8, 0, ((base + 1 : Nat) : Int)⟩ [], .ins ⟨1, 5, 0, 0, ((t + 1 : Nat) : Int)⟩ [], .ins ⟨12, 6, 4, 5, 0⟩ [], .ins ⟨14, 6, 0, 0, 0⟩ [102, 114, 101, 101], .ins ⟨1, 7, 0, 0, 1⟩ [], .ins ⟨13, 0, 0, 0, 0⟩ [101, 110, 100], .lab [102, 114, 101, 101], .ins ⟨16, 4, 8, 0, ((base + 3 + th + t : Nat) : Int)⟩ [], .ins ⟨1, 6, 0, 0, 1⟩ [], .ins ⟨17, 6, 4, 0, ((base + 2 : Nat) : Int)⟩ [], .ins ⟨19, 4, 8, 0, ((base : Nat) : Int)⟩ [], .ins ⟨17, 4, 8, 0, ((base + 3 + 2 * th + t : Nat) : Int)⟩ [], .lab [115, 112, 105, 110], .ins ⟨16, 6, 4, 0, ((base + 2 : Nat) : Int)⟩ [], .ins ⟨15, 6, 0, 0, 0⟩ [115, 112, 105, 110], .ins ⟨17, 5, 8, 0, ((base + 1 : Nat) : Int)⟩ [], .ins ⟨1, 7, 0, 0, 0⟩ [], .lab [101, 110, 100]]
theorem subClhIn (base th t : Nat) : (srcClhIn).map (subs (putL base th t)) = midClhIn base th t := by
  unfold srcClhIn midClhIn
  simp only [List.map_cons, List.map_nil]
  exact cons2 (by kernel_rfl) (cons2 (by kernel_rfl) (cons2 (by kernel_rfl) (cons2 (by kernel_rfl) (cons2 (by kernel_rfl) (cons2 (by kernel_rfl) (cons2 (by kernel_rfl) (cons2 ((show subs (putL base th t) [108, 111, 97, 100, 32, 114, 52, 32, 91, 77, 73, 78, 69, 93] = subs [([80, 82, 69, 68], decB (base + 3 + 2 * th + t))] ([108, 111, 97, 100, 32, 114, 52, 32] ++ [91] ++ (decB (base + 3 + th + t) ++ [93])) from by kernel_rfl).trans (subs_mid (dig_dec _) ([108, 111, 97, 100, 32, 114, 52, 32] ++ [91]) [93] _ (by
    simp only [List.mem_cons, List.not_mem_nil, or_false, forall_eq]
    exact ⟨by decide, by kernel_rfl, by kernel_rfl⟩))) (cons2 (by kernel_rfl) (cons2 ((show subs (putL base th t) [115, 116, 111, 114, 101, 32, 114, 54, 32, 91, 114, 52, 43, 70, 76, 65, 71, 93] = subs [([77, 73, 78, 69], decB (base + 3 + th + t)), ([80, 82, 69, 68], decB (base + 3 + 2 * th + t))] ([115, 116, 111, 114, 101, 32, 114, 54, 32] ++ [91, 114, 52, 43] ++ (decB (base + 2) ++ [93])) from by kernel_rfl).trans (subs_mid (dig_dec _) ([115, 116, 111, 114, 101, 32, 114, 54, 32] ++ [91, 114, 52, 43]) [93] _ (by
    simp only [List.mem_cons, List.not_mem_nil, or_false, forall_eq_or_imp, forall_eq]
    exact ⟨⟨by decide, by kernel_rfl, by kernel_rfl⟩, ⟨by decide, by kernel_rfl, by kernel_rfl⟩⟩))) (cons2 (by kernel_rfl) (cons2 (by kernel_rfl) (cons2 (by kernel_rfl) (cons2 ((show subs (putL base th t) [108, 111, 97, 100, 32, 114, 54, 32, 91, 114, 52, 43, 70, 76, 65, 71, 93] = subs [([77, 73, 78, 69], decB (base + 3 + th + t)), ([80, 82, 69, 68], decB (base + 3 + 2 * th + t))] ([108, 111, 97, 100, 32, 114, 54, 32] ++ [91, 114, 52, 43] ++ (decB (base + 2) ++ [93])) from by kernel_rfl).trans (subs_mid (dig_dec _) ([108, 111, 97, 100, 32, 114, 54, 32] ++ [91, 114, 52, 43]) [93] _ (by
    simp only [List.mem_cons, List.not_mem_nil, or_false, forall_eq_or_imp, forall_eq]
    exact ⟨⟨by decide, by kernel_rfl, by kernel_rfl⟩, ⟨by decide, by kernel_rfl, by kernel_rfl⟩⟩))) (cons2 (by kernel_rfl) (cons2 (by kernel_rfl) (cons2 (by kernel_rfl) (cons2 (by kernel_rfl) (rfl))))))))))))))))))
theorem fillClhIn (base th t : Nat) : (midClhIn base th t).map (fillB base t) = (linClhIn base th t).map Ln.text := by
  unfold midClhIn linClhIn
  simp only [List.map_cons, List.map_nil]
  exact cons2 rfl (cons2 (congrArg (fun x => 115 :: 101 :: 116 :: 32 :: 114 :: 53 :: 32 :: x) (List.append_nil (decB (t + 1)))) (cons2 rfl (cons2 rfl (cons2 (congrArg (fun x => joinB 32 [[115, 101, 116], [114, 55], x]) dec_1).symm (cons2 rfl (cons2 rfl (cons2 (fill_dir base t (dig_dec _) [108, 111, 97, 100, 32, 114, 52, 32] (by decide)) (cons2 (congrArg (fun x => joinB 32 [[115, 101, 116], [114, 54], x]) dec_1).symm (cons2 (fill_far base t (dig_dec _) [115, 116, 111, 114, 101, 32, 114, 54, 32] (by decide)) (cons2 rfl (cons2 (fill_dir base t (dig_dec _) [115, 116, 111, 114, 101, 32, 114, 52, 32] (by decide)) (cons2 rfl (cons2 (fill_far base t (dig_dec _) [108, 111, 97, 100, 32, 114, 54, 32] (by decide)) (cons2 rfl (cons2 rfl (cons2 (congrArg (fun x => joinB 32 [[115, 101, 116], [114, 55], x]) dec_0).symm (cons2 rfl (rfl))))))))))))))))))
theorem shrtClhIn {base th t : Nat} (hb : base ≤ 100000) (hth : th ≤ 100) (ht : t ≤ 100) : ∀ l ∈ midClhIn base th t, Shrt l := by
  unfold midClhIn
  simp only [List.mem_cons, List.not_mem_nil, or_false, forall_eq_or_imp, forall_eq]
  exact ⟨shrt_of (by decide), shrt_of (by decide), shrt_of (by decide), shrt_of (by decide), shrt_of (by decide), shrt_of (by decide), shrt_of (by decide), shrt_mid (by omega) (by decide), shrt_of (by decide), shrt_mid (by omega) (by decide), shrt_of (by decide), shrt_mid (by omega) (by decide), shrt_of (by decide), shrt_mid (by omega) (by decide), shrt_of (by decide), shrt_of (by decide), shrt_of (by decide), shrt_of (by decide)⟩
theorem lenClhIn {base th t : Nat} (hb : base ≤ 100000) (hth : th ≤ 100) (ht : t ≤ 100) : (unl (midClhIn base th t)).length ≤ 10000 := Nat.le_trans (unl_short _ (shrtClhIn hb hth ht)) (Nat.le_of_ble_eq_true rfl)
theorem okClhIn {base th t : Nat} (hb : base ≤ 100000) (hth : th ≤ 100) (ht : t ≤ 100) : OkL (linClhIn base th t) := by
  refine ⟨?_, rfl, ?_, Nat.le_of_ble_eq_true rfl⟩
  · unfold linClhIn
    simp only [List.mem_cons, List.not_mem_nil, or_false, forall_eq_or_imp, forall_eq]
    exact ⟨(fit_k (by decide) rfl (by omega)), (fit_k (by decide) rfl (by omega)), (fit_0 (by decide)), (fit_0 (by decide)), (fit_k (by decide) rfl (by omega)), (fit_0 (by decide)), show nameOk _ = true from rfl, (fit_k (by decide) rfl (by omega)), (fit_k (by decide) rfl (by omega)), (fit_k (by decide) rfl (by omega)), (fit_k (by decide) rfl (by omega)), (fit_k (by decide) rfl (by omega)), show nameOk _ = true from rfl, (fit_k (by decide) rfl (by omega)), (fit_0 (by decide)), (fit_k (by decide) rfl (by omega)), (fit_k (by decide) rfl (by omega)), show nameOk _ = true from rfl⟩
  · unfold linClhIn
    simp only [List.mem_cons, List.not_mem_nil, or_false, forall_eq_or_imp, forall_eq]
    exact ⟨rfl, rfl, rfl, rfl, rfl, rfl, rfl, rfl, rfl, rfl, rfl, rfl, rfl, rfl, rfl, rfl, rfl, rfl⟩
theorem putClhIn (base th t : Nat) : subs (putL base th t) (unl srcClhIn) = unl (midClhIn base th t) := by rw [subs_unl _ _ (putL_ok base th t), subClhIn]
theorem parseClhIn {base th t : Nat} (hb : base ≤ 100000) (hth : th ≤ 100) (ht : t ≤ 100) : parseB (fillB base t (unl (midClhIn base th t))) = (resL (linClhIn base th t), 0, 0) := by
  rw [fillB_unl _ _ _ (fun l h => (shrtClhIn hb hth ht l h).2), fillClhIn, ← textL_unl]
  exact parse_text (okClhIn hb hth ht)
/-! ### ClhOut -/
def srcClhOut : List B8 := [[108, 111, 97, 100, 32, 114, 52, 32, 91, 98, 93], [115, 101, 116, 32, 114, 53, 32, 36], [115, 97, 109, 101, 32, 114, 54, 32, 114, 52, 32, 114, 53], [115, 111, 109, 101, 32, 114, 54, 32, 64, 109, 105, 110, 101], [115, 101, 116, 32, 114, 55, 32, 50], [106, 117, 109, 112, 32, 64, 101, 110, 100], [109, 105, 110, 101, 58], [115, 101, 116, 32, 114, 52, 32, 48], [115, 116, 111, 114, 101, 32, 114, 52, 32, 91, 98, 93], [108, 111, 97, 100, 32, 114, 52, 32, 91, 77, 73, 78, 69, 93], [108, 111, 97, 100, 32, 114, 54, 32, 91, 80, 82, 69, 68, 93], [115, 116, 111, 114, 101, 32, 114, 54, 32, 91, 77, 73, 78, 69, 93], [115, 101, 116, 32, 114, 54, 32, 48], [115, 116, 111, 114, 101, 32, 114, 54, 32, 91, 114, 52, 43, 70, 76, 65, 71, 93], [115, 101, 116, 32, 114, 55, 32, 48], [101, 110, 100, 58]]
def midClhOut (base th t : Nat) : List B8 := [[108, 111, 97, 100, 32, 114, 52, 32, 91, 98, 93], [115, 101, 116, 32, 114, 53, 32, 36], [115, 97, 109, 101, 32, 114, 54, 32, 114, 52, 32, 114, 53], [115, 111, 109, 101, 32, 114, 54, 32, 64, 109, 105, 110, 101], [115, 101, 116, 32, 114, 55, 32, 50], [106, 117, 109, 112, 32, 64, 101, 110, 100], [109, 105, 110, 101, 58], [115, 101, 116, 32, 114, 52, 32, 48], [115, 116, 111, 114, 101, 32, 114, 52, 32, 91, 98, 93], [108, 111, 97, 100, 32, 114, 52, 32] ++ [91] ++ (decB (base + 3 + th + t) ++ [93]), [108, 111, 97, 100, 32, 114, 54, 32] ++ [91] ++ (decB (base + 3 + 2 * th + t) ++ [93]), [115, 116, 111, 114, 101, 32, 114, 54, 32] ++ [91] ++ (decB (base + 3 + th + t) ++ [93]), [115, 101, 116, 32, 114, 54, 32, 48], [115, 116, 111, 114, 101, 32, 114, 54, 32] ++ [91, 114, 52, 43] ++ (decB (base + 2) ++ [93]), [115, 101, 116, 32, 114, 55, 32, 48], [101, 110, 100, 58]]
def linClhOut (base th t : Nat) : List Ln := [.ins ⟨16, 4, 8, 0, ((base + 1 : Nat) : Int)⟩ [], .ins ⟨1, 5, 0, 0, ((t + 1 : Nat) : Int)⟩ [], .ins ⟨12, 6, 4, 5, 0⟩ [], .ins ⟨15, 6, 0, 0, 0⟩ [109, 105, 110, 101], .ins ⟨1, 7, 0, 0, 2⟩ [], .ins ⟨13, 0, 0, 0, 0⟩ [101, 110, 100], .lab [109, 105, 110, 101], .ins ⟨1, 4, 0, 0, 0⟩ [], .ins ⟨17, 4, 8, 0, ((base + 1 : Nat) : Int)⟩ [], .ins ⟨16, 4, 8, 0, ((base + 3 + th + t : Nat) : Int)⟩ [], .ins ⟨16, 6, 8, 0, ((base + 3 + 2 * th + t : Nat) : Int)⟩ [], .ins ⟨17, 6, 8, 0, ((base + 3 + th + t : Nat) : Int)⟩ [], .ins ⟨1, 6, 0, 0, 0⟩ [], .ins ⟨17, 6, 4, 0, ((base + 2 : Nat) : Int)⟩ [], .ins ⟨1, 7, 0, 0, 0⟩ [], .lab [101, 110, 100]]
theorem subClhOut (base th t : Nat) : (srcClhOut).map (subs (putL base th t)) = midClhOut base th t := by
  unfold srcClhOut midClhOut
  simp only [List.map_cons, List.map_nil]
  exact cons2 (by kernel_rfl) (cons2 (by kernel_rfl) (cons2 (by kernel_rfl) (cons2 (by kernel_rfl) (cons2 (by kernel_rfl) (cons2 (by kernel_rfl) (cons2 (by kernel_rfl) (cons2 (by kernel_rfl) (cons2 (by kernel_rfl) (cons2 ((show subs (putL base th t) [108, 111, 97, 100, 32, 114, 52, 32, 91, 77, 73, 78, 69, 93] = subs [([80, 82, 69, 68], decB (base + 3 + 2 * th + t))] ([108, 111, 97, 100, 32, 114, 52, 32] ++ [91] ++ (decB (base + 3 + th + t) ++ [93])) from by kernel_rfl).trans (subs_mid (dig_dec _) ([108, 111, 97, 100, 32, 114, 52, 32] ++ [91]) [93] _ (by
    simp only [List.mem_cons, List.not_mem_nil, or_false, forall_eq]
    exact ⟨by decide, by kernel_rfl, by kernel_rfl⟩))) (cons2 (by kernel_rfl) (cons2 ((show subs (putL base th t) [115, 116, 111, 114, 101, 32, 114, 54, 32, 91, 77, 73, 78, 69, 93] = subs [([80, 82, 69, 68], decB (base + 3 + 2 * th + t))] ([115, 116, 111, 114, 101, 32, 114, 54, 32] ++ [91] ++ (decB (base + 3 + th + t) ++ [93])) from by kernel_rfl).trans (subs_mid (dig_dec _) ([115, 116, 111, 114, 101, 32, 114, 54, 32] ++ [91]) [93] _ (by
    simp only [List.mem_cons, List.not_mem_nil, or_false, forall_eq]
    exact ⟨by decide, by kernel_rfl, by kernel_rfl⟩))) (cons2 (by kernel_rfl) (cons2 ((show subs (putL base th t) [115, 116, 111, 114, 101, 32, 114, 54, 32, 91, 114, 52, 43, 70, 76, 65, 71, 93] = subs [([77, 73, 78, 69], decB (base + 3 + th + t)), ([80, 82, 69, 68], decB (base + 3 + 2 * th + t))] ([115, 116, 111, 114, 101, 32, 114, 54, 32] ++ [91, 114, 52, 43] ++ (decB (base + 2) ++ [93])) from by kernel_rfl).trans (subs_mid (dig_dec _) ([115, 116, 111, 114, 101, 32, 114, 54, 32] ++ [91, 114, 52, 43]) [93] _ (by
    simp only [List.mem_cons, List.not_mem_nil, or_false, forall_eq_or_imp, forall_eq]
    exact ⟨⟨by decide, by kernel_rfl, by kernel_rfl⟩, ⟨by decide, by kernel_rfl, by kernel_rfl⟩⟩))) (cons2 (by kernel_rfl) (cons2 (by kernel_rfl) (rfl))))))))))))))))
theorem fillClhOut (base th t : Nat) : (midClhOut base th t).map (fillB base t) = (linClhOut base th t).map Ln.text := by
  unfold midClhOut linClhOut
  simp only [List.map_cons, List.map_nil]
  exact cons2 rfl (cons2 (congrArg (fun x => 115 :: 101 :: 116 :: 32 :: 114 :: 53 :: 32 :: x) (List.append_nil (decB (t + 1)))) (cons2 rfl (cons2 rfl (cons2 (congrArg (fun x => joinB 32 [[115, 101, 116], [114, 55], x]) dec_2).symm (cons2 rfl (cons2 rfl (cons2 (congrArg (fun x => joinB 32 [[115, 101, 116], [114, 52], x]) dec_0).symm (cons2 rfl (cons2 (fill_dir base t (dig_dec _) [108, 111, 97, 100, 32, 114, 52, 32] (by decide)) (cons2 (fill_dir base t (dig_dec _) [108, 111, 97, 100, 32, 114, 54, 32] (by decide)) (cons2 (fill_dir base t (dig_dec _) [115, 116, 111, 114, 101, 32, 114, 54, 32] (by decide)) (cons2 (congrArg (fun x => joinB 32 [[115, 101, 116], [114, 54], x]) dec_0).symm (cons2 (fill_far base t (dig_dec _) [115, 116, 111, 114, 101, 32, 114, 54, 32] (by decide)) (cons2 (congrArg (fun x => joinB 32 [[115, 101, 116], [114, 55], x]) dec_0).symm (cons2 rfl (rfl))))))))))))))))
theorem shrtClhOut {base th t : Nat} (hb : base ≤ 100000) (hth : th ≤ 100) (ht : t ≤ 100) : ∀ l ∈ midClhOut base th t, Shrt l := by
  unfold midClhOut
  simp only [List.mem_cons, List.not_mem_nil, or_false, forall_eq_or_imp, forall_eq]
  exact ⟨shrt_of (by decide), shrt_of (by decide), shrt_of (by decide), shrt_of (by decide), shrt_of (by decide), shrt_of (by decide), shrt_of (by decide), shrt_of (by decide), shrt_of (by decide), shrt_mid (by omega) (by decide), shrt_mid (by omega) (by decide), shrt_mid (by omega) (by decide), shrt_of (by decide), shrt_mid (by omega) (by decide), shrt_of (by decide), shrt_of (by decide)⟩
theorem lenClhOut {base th t : Nat} (hb : base ≤ 100000) (hth : th ≤ 100) (ht : t ≤ 100) : (unl (midClhOut base th t)).length ≤ 10000 := Nat.le_trans (unl_short _ (shrtClhOut hb hth ht)) (Nat.le_of_ble_eq_true rfl)
theorem okClhOut {base th t : Nat} (hb : base ≤ 100000) (hth : th ≤ 100) (ht : t ≤ 100) : OkL (linClhOut base th t) := by
  refine ⟨?_, rfl, ?_, Nat.le_of_ble_eq_true rfl⟩
  · unfold linClhOut
    simp only [List.mem_cons, List.not_mem_nil, or_false, forall_eq_or_imp, forall_eq]
    exact ⟨(fit_k (by decide) rfl (by omega)), (fit_k (by decide) rfl (by omega)), (fit_0 (by decide)), (fit_0 (by decide)), (fit_k (by decide) rfl (by omega)), (fit_0 (by decide)), show nameOk _ = true from rfl, (fit_k (by decide) rfl (by omega)), (fit_k (by decide) rfl (by omega)), (fit_k (by decide) rfl (by omega)), (fit_k (by decide) rfl (by omega)), (fit_k (by decide) rfl (by omega)), (fit_k (by decide) rfl (by omega)), (fit_k (by decide) rfl (by omega)), (fit_k (by decide) rfl (by omega)), show nameOk _ = true from rfl⟩
  · unfold linClhOut
    simp only [List.mem_cons, List.not_mem_nil, or_false, forall_eq_or_imp, forall_eq]
    exact ⟨rfl, rfl, rfl, rfl, rfl, rfl, rfl, rfl, rfl, rfl, rfl, rfl, rfl, rfl, rfl, rfl⟩
theorem putClhOut (base th t : Nat) : subs (putL base th t) (unl srcClhOut) = unl (midClhOut base th t) := by rw [subs_unl _ _ (putL_ok base th t), subClhOut]
theorem parseClhOut {base th t : Nat} (hb : base ≤ 100000) (hth : th ≤ 100) (ht : t ≤ 100) : parseB (fillB base t (unl (midClhOut base th t))) = (resL (linClhOut base th t), 0, 0) := by
  rw [fillB_unl _ _ _ (fun l h => (shrtClhOut hb hth ht l h).2), fillClhOut, ← textL_unl]
  exact parse_text (okClhOut hb hth ht)
end Go.Proofs.YtmohjegcecimfaaDoor.As
