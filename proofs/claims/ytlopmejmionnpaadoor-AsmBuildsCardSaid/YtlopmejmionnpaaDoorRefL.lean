/- Plain Lean: laws of the document's reading of a text. No program in sight. -/
import Derived.Test.YtlopmejmionnpaaDoorRefSpec
set_option linter.unusedVariables false
namespace Go.Proofs.YtlopmejmionnpaaDoor.As

theorem splitB_ne' (b : UInt8) : ∀ l : B8, splitB b l ≠ []
  | [] => by simp [splitB]
  | c :: r => by
    unfold splitB
    split
    · simp
    · cases h : splitB b r with
      | nil => simp
      | cons x y => simp
theorem splitB_len (b : UInt8) : ∀ l : B8, (splitB b l).length ≤ l.length + 1 ∧ ∀ x ∈ splitB b l, x.length ≤ l.length
  | [] => by simp [splitB]
  | c :: r => by
    have ih := splitB_len b r
    unfold splitB
    split
    · refine ⟨by simp; omega, ?_⟩
      intro x hx
      rcases List.mem_cons.1 hx with e | hx
      · rw [e]; simp
      · have := ih.2 x hx; simp; omega
    · cases h : splitB b r with
      | nil => exact absurd h (splitB_ne' b r)
      | cons y z =>
        rw [h] at ih
        refine ⟨by have := ih.1; simp at this ⊢; omega, ?_⟩
        intro x hx
        rcases List.mem_cons.1 hx with e | hx
        · rw [e]; have := ih.2 y (by simp); simp; omega
        · have := ih.2 x (by simp [hx]); simp; omega
theorem numB_le (l : B8) : numB l ≤ 4294967295 := by
  unfold numB
  split
  · omega
  · split
    · split <;> omega
    · omega
theorem addrB_le (l : B8) : (addrB l).2 ≤ 4294967295 := by
  unfold addrB
  split
  · simp
  · simp only []
    split
    · split
      · simp
      · exact numB_le _
    · exact numB_le _
theorem pass1_succ {lines : List B8} {n : Nat} {out : List Ins} (h : pass1 lines n = .ok out) : pass1 lines (n + 1) = lineB lines n (lines.getD n []) out := by
  rw [pass1, h]; rfl
theorem pass1_err {lines : List B8} {n : Nat} {e : Int × Int} (h : pass1 lines n = .error e) : ∀ d, pass1 lines (n + d) = .error e
  | 0 => h
  | d + 1 => by rw [← Nat.add_assoc, pass1, pass1_err h d]; rfl
theorem parse_err1 {s : B8} {n : Nat} {e : Int × Int} (hs : s.length ≤ 20000) (h : pass1 (splitB 10 s) n = .error e) (hn : n ≤ (splitB 10 s).length) : parseB s = ([], e.1, e.2) := by
  have := pass1_err h ((splitB 10 s).length - n)
  rw [show n + ((splitB 10 s).length - n) = (splitB 10 s).length from by omega] at this
  unfold parseB
  rw [if_neg (by omega)]
  simp only []
  rw [this]
/-- Is a line an instruction's? -/
def isI (t : B8) : Bool := !(t == []) && !(t.getLast? == some 58)
def cntI (ws : List B8) : Nat → Nat
  | 0 => 0
  | n + 1 => cntI ws n + if isI (ws.getD n []) then 1 else 0
theorem isI_yes {t : B8} (h0 : t ≠ []) (h1 : t.getLast? ≠ some 58) : isI t = true := by simp [isI, h0, h1]
theorem isI_no {t : B8} (h : t = [] ∨ t.getLast? = some 58) : isI t = false := by rcases h with h | h <;> simp [isI, h]
theorem lineB_ok {ws : List B8} {n : Nat} {t : B8} {out o2 : List Ins} (h : lineB ws n t out = .ok o2) :
    (isI t = false ∧ o2 = out) ∨ (isI t = true ∧ ∃ x, readB t = some x ∧ o2 = out ++ [x.1]) := by
  unfold lineB at h
  split at h
  · next h0 => injection h with h; exact .inl ⟨isI_no (.inl h0), h.symm⟩
  · next h0 =>
    split at h
    · next h1 =>
      split at h
      · cases h
      · split at h
        · cases h
        · injection h with h; exact .inl ⟨isI_no (.inr h1), h.symm⟩
    · next h1 =>
      split at h
      · cases h
      · next i to hr =>
        split at h
        · cases h
        · injection h with h; exact .inr ⟨isI_yes h0 h1, (i, to), hr, h.symm⟩
theorem pass1_pre {ws : List B8} {n : Nat} {o : List Ins} (h : pass1 ws (n + 1) = .ok o) : ∃ o1, pass1 ws n = .ok o1 ∧ lineB ws n (ws.getD n []) o1 = .ok o := by
  rw [pass1] at h
  cases hp : pass1 ws n with
  | error e => rw [hp] at h; cases h
  | ok o1 => rw [hp] at h; exact ⟨o1, rfl, h⟩
theorem pass1_len {ws : List B8} : ∀ {n : Nat} {o : List Ins}, pass1 ws n = .ok o → o.length = cntI ws n
  | 0, o, h => by injection h with h; rw [← h]; rfl
  | n + 1, o, h => by
    obtain ⟨o1, h1, h2⟩ := pass1_pre h
    have := pass1_len h1
    rcases lineB_ok h2 with ⟨a, b⟩ | ⟨a, x, _, b⟩
    · rw [b, cntI, a]; simpa using this
    · rw [b, cntI, a]; simpa using this
theorem cntI_mono (ws : List B8) (n : Nat) : ∀ d, cntI ws n ≤ cntI ws (n + d)
  | 0 => Nat.le_refl _
  | d + 1 => by have := cntI_mono ws n d; rw [← Nat.add_assoc, cntI]; omega
theorem pass1_at {ws : List B8} {n : Nat} (hi : isI (ws.getD n []) = true) : ∀ (d : Nat) {o : List Ins}, pass1 ws (n + 1 + d) = .ok o → ∃ x, readB (ws.getD n []) = some x
  | 0, o, h => by
    obtain ⟨o1, h1, h2⟩ := pass1_pre h
    rcases lineB_ok h2 with ⟨a, _⟩ | ⟨_, x, hx, _⟩
    · rw [hi] at a; cases a
    · exact ⟨x, hx⟩
  | d + 1, o, h => by
    obtain ⟨o1, h1, _⟩ := pass1_pre h
    exact pass1_at hi d h1
theorem pass1_ins {ws : List B8} {n : Nat} {o : List Ins} (hn : n < ws.length) (hi : isI (ws.getD n []) = true) (h : pass1 ws ws.length = .ok o) : (∃ x, readB (ws.getD n []) = some x) ∧ cntI ws n < o.length := by
  refine ⟨pass1_at hi (ws.length - (n + 1)) (by rw [show n + 1 + (ws.length - (n + 1)) = ws.length from by omega]; exact h), ?_⟩
  rw [pass1_len h]
  have h1 := cntI_mono ws (n + 1) (ws.length - (n + 1))
  rw [show n + 1 + (ws.length - (n + 1)) = ws.length from by omega, cntI, hi] at h1
  simp at h1
  omega
theorem fieldsB_k : ∀ (f : B8) (ws : List B8) (i : Ins) (to : B8) (x : Ins × B8), 0 ≤ i.k ∧ i.k ≤ 4294967295 → fieldsB f ws i to = some x → 0 ≤ x.1.k ∧ x.1.k ≤ 4294967295
  | [], ws, i, to, x, hk, h => by rw [fieldsB] at h; injection h with h; rw [← h]; exact hk
  | c :: r, [], i, to, x, hk, h => by rw [fieldsB] at h; cases h
  | c :: r, w :: ws, i, to, x, hk, h => by
    rw [fieldsB] at h
    have h1 := numB_le w
    have h2 := numB_le (w.drop 1)
    have h3 := addrB_le w
    split at h
    · split at h
      · cases h
      · exact fieldsB_k _ _ _ _ _ (by split; exact hk; split <;> exact hk) h
    · split at h
      · split at h
        · cases h
        · injection h with h; rw [← h]; simp only []; omega
      · split at h
        · split at h
          · cases h
          · exact fieldsB_k _ _ _ _ _ (by simp only []; omega) h
        · split at h
          · split at h
            · cases h
            · split at h
              · exact fieldsB_k _ _ _ _ _ (by simp only []; omega) h
              · split at h
                · exact fieldsB_k _ _ _ _ _ hk h
                · cases h
          · exact fieldsB_k _ _ _ _ _ hk h
theorem readB_k {t : B8} {x : Ins × B8} (h : readB t = some x) : 0 ≤ x.1.k ∧ x.1.k ≤ 4294967295 := by
  unfold readB at h
  simp only [] at h
  split at h
  · cases h
  · split at h
    · cases h
    · exact fieldsB_k _ _ _ _ _ (by simp) h
theorem fieldsB_to (L : Nat) : ∀ (f : B8) (ws : List B8) (i : Ins) (to : B8) (x : Ins × B8), to.length ≤ L → (∀ w ∈ ws, w.length ≤ L) → fieldsB f ws i to = some x → x.2.length ≤ L
  | [], ws, i, to, x, ht, hw, h => by rw [fieldsB] at h; injection h with h; rw [← h]; exact ht
  | c :: r, [], i, to, x, ht, hw, h => by rw [fieldsB] at h; cases h
  | c :: r, w :: ws, i, to, x, ht, hw, h => by
    rw [fieldsB] at h
    have h2 : ∀ w ∈ ws, w.length ≤ L := fun y hy => hw y (by simp [hy])
    have h1 : (w.drop 1).length ≤ L := by have := hw w (by simp); rw [List.length_drop]; omega
    split at h
    · split at h
      · cases h
      · exact fieldsB_to L _ _ _ _ _ ht h2 h
    · split at h
      · split at h
        · cases h
        · injection h with h; rw [← h]; simp
      · split at h
        · split at h
          · cases h
          · exact fieldsB_to L _ _ _ _ _ ht h2 h
        · split at h
          · split at h
            · cases h
            · split at h
              · exact fieldsB_to L _ _ _ _ _ ht h2 h
              · split at h
                · exact fieldsB_to L _ _ _ _ _ h1 h2 h
                · cases h
          · exact fieldsB_to L _ _ _ _ _ ht h2 h
theorem readB_to {t : B8} {x : Ins × B8} (h : readB t = some x) : x.2.length ≤ t.length := by
  unfold readB at h
  simp only [] at h
  split at h
  · cases h
  · split at h
    · cases h
    · exact fieldsB_to _ _ _ _ _ _ (by simp) (fun w hw => (splitB_len 32 t).2 w (List.mem_of_mem_tail hw)) h
theorem pass1_k {ws : List B8} : ∀ {n : Nat} {o : List Ins}, pass1 ws n = .ok o → ∀ x ∈ o, 0 ≤ x.k ∧ x.k ≤ 4294967295
  | 0, o, h => by injection h with h; rw [← h]; intro x hx; cases hx
  | n + 1, o, h => by
    obtain ⟨o1, h1, h2⟩ := pass1_pre h
    have := pass1_k h1
    rcases lineB_ok h2 with ⟨a, b⟩ | ⟨a, x, hx, b⟩
    · rw [b]; exact this
    · rw [b]
      intro y hy
      rcases List.mem_append.1 hy with hy | hy
      · exact this y hy
      · have : y = x.1 := by simpa using hy
        rw [this]; exact readB_k hx
theorem placeGo_le (nm : B8) : ∀ (l : List B8) (n : Int), 0 ≤ n → placeGo nm n l ≤ n + l.length
  | [], n, h => by rw [placeGo]; simp; omega
  | x :: l, n, h => by
    rw [placeGo]
    have h1 := placeGo_le nm l n h
    have h2 := placeGo_le nm l (n + 1) (by omega)
    rw [List.length_cons]
    split
    · omega
    · split
      · omega
      · split <;> omega
theorem placeB_le (ws : List B8) (nm : B8) : placeB ws nm ≤ ws.length := by have := placeGo_le nm ws 0 (by omega); unfold placeB; omega
theorem pass2_succ {ws : List B8} {o cur : List Ins} {n k : Nat} (h : pass2 ws o n = .ok (k, cur)) : pass2 ws o (n + 1) = jumpB ws n (ws.getD n []) k cur := by
  rw [pass2, h]; rfl
theorem pass2_err {ws : List B8} {o : List Ins} {n : Nat} {e : Int × Int} (h : pass2 ws o n = .error e) : ∀ d, pass2 ws o (n + d) = .error e
  | 0 => h
  | d + 1 => by rw [← Nat.add_assoc, pass2, pass2_err h d]; rfl
theorem parse_err2 {s : B8} {n : Nat} {o : List Ins} {e : Int × Int} (hs : s.length ≤ 20000) (h1 : pass1 (splitB 10 s) (splitB 10 s).length = .ok o) (h : pass2 (splitB 10 s) o n = .error e) (hn : n ≤ (splitB 10 s).length) : parseB s = ([], e.1, e.2) := by
  have := pass2_err h ((splitB 10 s).length - n)
  rw [show n + ((splitB 10 s).length - n) = (splitB 10 s).length from by omega] at this
  unfold parseB
  rw [if_neg (by omega)]
  simp only []
  rw [h1]
  simp only []
  rw [this]
theorem parse_ok {s : B8} {o : List Ins} {x : Nat × List Ins} (hs : s.length ≤ 20000) (h1 : pass1 (splitB 10 s) (splitB 10 s).length = .ok o) (h : pass2 (splitB 10 s) o (splitB 10 s).length = .ok x) : parseB s = (x.2, 0, 0) := by
  unfold parseB
  rw [if_neg (by omega)]
  simp only []
  rw [h1]
  simp only []
  rw [h]
end Go.Proofs.YtlopmejmionnpaaDoor.As
