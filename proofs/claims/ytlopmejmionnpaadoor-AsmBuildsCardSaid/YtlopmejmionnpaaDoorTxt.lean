/- Plain Lean: a line of an instruction, and what the document reads of it. No program in sight. -/
import Derived.Test.YtlopmejmionnpaaDoorRefL
set_option linter.unusedVariables false
namespace Go.Proofs.YtlopmejmionnpaaDoor.As

/-- A number's digits. -/
def decB (n : Nat) : B8 := if n < 10 then [UInt8.ofNat (48 + n)] else decB (n / 10) ++ [UInt8.ofNat (48 + n % 10)]
termination_by n
theorem decB_small {n : Nat} (h : n < 10) : decB n = [UInt8.ofNat (48 + n)] := by rw [decB, if_pos h]
theorem decB_big {n : Nat} (h : ¬ n < 10) : decB n = decB (n / 10) ++ [UInt8.ofNat (48 + n % 10)] := by rw [decB, if_neg h]
theorem dig_toNat {d : Nat} (h : d < 10) : (UInt8.ofNat (48 + d)).toNat = 48 + d := by
  rw [UInt8.toNat_ofNat']; omega
theorem dig_isDig {d : Nat} (h : d < 10) : isDig (UInt8.ofNat (48 + d)) = true := by
  have := dig_toNat h
  unfold isDig
  rw [Bool.and_eq_true, decide_eq_true_eq, decide_eq_true_eq, UInt8.le_iff_toNat_le, UInt8.le_iff_toNat_le, this]
  exact ⟨by show 48 ≤ _; omega, by show _ ≤ 57; omega⟩
theorem decB_all (n : Nat) : (decB n).all isDig = true := by
  induction n using Nat.strongRecOn with
  | _ n ih =>
    by_cases h : n < 10
    · rw [decB_small h, List.all_cons, dig_isDig h]; rfl
    · rw [decB_big h, List.all_append, ih (n / 10) (by omega), List.all_cons, dig_isDig (by omega)]; rfl
theorem decB_val (n : Nat) : valB (decB n) = n := by
  induction n using Nat.strongRecOn with
  | _ n ih =>
    by_cases h : n < 10
    · rw [decB_small h]
      show 10 * 0 + ((UInt8.ofNat (48 + n)).toNat - 48) = n
      rw [dig_toNat h]; omega
    · rw [decB_big h]
      unfold valB
      rw [List.foldl_append]
      have := ih (n / 10) (by omega)
      unfold valB at this
      rw [this]
      show 10 * (n / 10) + ((UInt8.ofNat (48 + n % 10)).toNat - 48) = n
      rw [dig_toNat (by omega)]; omega
theorem decB_pos (n : Nat) : 0 < (decB n).length := by
  by_cases h : n < 10
  · rw [decB_small h]; simp
  · rw [decB_big h]; simp
theorem decB_ne (n : Nat) : decB n ≠ [] := List.length_pos_iff.1 (decB_pos n)
theorem decB_len (m : Nat) : ∀ n : Nat, n < 10 ^ (m + 1) → (decB n).length ≤ m + 1 := by
  induction m with
  | zero => intro n h; rw [decB_small (by simpa using h)]; simp
  | succ m ih =>
    intro n h
    by_cases hs : n < 10
    · rw [decB_small hs]; simp
    · rw [decB_big hs, List.length_append]
      have := ih (n / 10) (by rw [Nat.pow_succ] at h; omega)
      simp; omega
theorem decB_head (n : Nat) : 1 ≤ n → (decB n)[0]? ≠ some 48 := by
  induction n using Nat.strongRecOn with
  | _ n ih =>
    intro h1
    by_cases h : n < 10
    · rw [decB_small h]
      intro e
      have e : UInt8.ofNat (48 + n) = 48 := by simpa using e
      have := congrArg UInt8.toNat e
      rw [dig_toNat h] at this
      have : (48 : UInt8).toNat = 48 := rfl
      omega
    · rw [decB_big h, List.getElem?_append_left (decB_pos _)]
      exact ih (n / 10) (by omega) (by omega)
theorem numB_dec {n : Nat} (h : n ≤ 4294967295) : numB (decB n) = n := by
  unfold numB
  rw [decB_all, decB_val, if_pos rfl, if_neg, if_neg (by omega)]
  have h1 := decB_pos n
  have h2 := decB_len 9 n (by omega)
  rintro (e | e | ⟨e1, e2⟩)
  · omega
  · omega
  · by_cases h3 : 1 ≤ n
    · exact decB_head n h3 e2
    · have : n = 0 := by omega
      subst this
      rw [decB_small (by omega)] at e1
      simp at e1
theorem isDig_ne {c : UInt8} (h : isDig c = true) : 48 ≤ c.toNat ∧ c.toNat ≤ 57 := by
  unfold isDig at h
  rw [Bool.and_eq_true, decide_eq_true_eq, decide_eq_true_eq, UInt8.le_iff_toNat_le, UInt8.le_iff_toNat_le] at h
  exact h
theorem decB_mem {n : Nat} {c : UInt8} (h : c ∈ decB n) : 48 ≤ c.toNat ∧ c.toNat ≤ 57 := isDig_ne (List.all_eq_true.1 (decB_all n) c h)
theorem isLet_ne {c : UInt8} (h : isLet c = true) : 97 ≤ c.toNat ∧ c.toNat ≤ 122 := by
  unfold isLet at h
  rw [Bool.and_eq_true, decide_eq_true_eq, decide_eq_true_eq, UInt8.le_iff_toNat_le, UInt8.le_iff_toNat_le] at h
  exact h
theorem nameOk_mem {n : B8} (h : nameOk n = true) {c : UInt8} (hc : c ∈ n) : 48 ≤ c.toNat ∧ c.toNat ≤ 122 ∧ c.toNat ≠ 58 ∧ c.toNat ≠ 64 ∧ c.toNat ≠ 91 ∧ c.toNat ≠ 93 := by
  cases n with
  | nil => cases hc
  | cons x r =>
    unfold nameOk at h
    rw [Bool.and_eq_true, Bool.and_eq_true] at h
    obtain ⟨h1, h2, _⟩ := h
    rcases List.mem_cons.1 hc with e | hc
    · rw [e]; have := isLet_ne h1; omega
    · have := List.all_eq_true.1 h2 c hc
      rw [Bool.or_eq_true] at this
      rcases this with h | h
      · have := isLet_ne h; omega
      · have := isDig_ne h; omega
theorem nameOk_len {n : B8} (h : nameOk n = true) : 1 ≤ n.length ∧ n.length ≤ 20 := by
  cases n with
  | nil => cases h
  | cons x r =>
    unfold nameOk at h
    rw [Bool.and_eq_true, Bool.and_eq_true] at h
    have := h.2.2
    simp at this
    simp; omega
theorem nameOk_num {n : B8} (h : nameOk n = true) : numB n = -1 := by
  cases n with
  | nil => cases h
  | cons x r =>
    unfold nameOk at h
    rw [Bool.and_eq_true] at h
    have h1 := isLet_ne h.1
    have : isDig x = false := by
      cases e : isDig x with
      | false => rfl
      | true => have := isDig_ne e; omega
    unfold numB
    split
    · rfl
    · rw [List.all_cons, this]; rfl

/-! ### Parting and joining -/
def joinB (b : UInt8) : List B8 → B8
  | [] => []
  | [w] => w
  | w :: v :: r => w ++ b :: joinB b (v :: r)
theorem splitB_app (b : UInt8) : ∀ (w t : B8), b ∉ w → splitB b (w ++ b :: t) = w :: splitB b t
  | [], t, h => by rw [List.nil_append, splitB, if_pos rfl]
  | c :: w, t, h => by
    rw [List.cons_append, splitB, if_neg (fun e => h (by simp [e])), splitB_app b w t (fun e => h (by simp [e]))]
theorem splitB_none (b : UInt8) : ∀ (w : B8), b ∉ w → splitB b w = [w]
  | [], h => rfl
  | c :: w, h => by rw [splitB, if_neg (fun e => h (by simp [e])), splitB_none b w (fun e => h (by simp [e]))]
theorem splitB_join (b : UInt8) : ∀ (ws : List B8), ws ≠ [] → (∀ w ∈ ws, b ∉ w) → splitB b (joinB b ws) = ws
  | [], h, _ => absurd rfl h
  | [w], _, h => splitB_none b w (h w (by simp))
  | w :: v :: r, _, h => by
    rw [joinB, splitB_app b _ _ (h w (by simp)), splitB_join b (v :: r) (by simp) (fun x hx => h x (by simp at hx ⊢; exact .inr hx))]
theorem joinB_mem {b : UInt8} : ∀ {ws : List B8} {c : UInt8}, c ∈ joinB b ws → c = b ∨ ∃ w ∈ ws, c ∈ w
  | [], c, h => by cases h
  | [w], c, h => .inr ⟨w, by simp, h⟩
  | w :: v :: r, c, h => by
    rw [joinB] at h
    rcases List.mem_append.1 h with h | h
    · exact .inr ⟨w, by simp, h⟩
    · rcases List.mem_cons.1 h with h | h
      · exact .inl h
      · rcases joinB_mem h with h | ⟨x, hx, h⟩
        · exact .inl h
        · exact .inr ⟨x, by simp at hx ⊢; exact .inr hx, h⟩
theorem joinB_len (b : UInt8) : ∀ (ws : List B8), (joinB b ws).length ≤ (ws.map (fun w => w.length + 1)).sum
  | [] => by simp [joinB]
  | [w] => by simp [joinB]
  | w :: v :: r => by
    rw [joinB]
    have := joinB_len b (v :: r)
    simp only [List.map_cons, List.sum_cons, List.length_append, List.length_cons] at this ⊢
    omega
theorem joinB_ne (b : UInt8) : ∀ (w : B8) (r : List B8), w ≠ [] → joinB b (w :: r) ≠ []
  | w, [], h => h
  | w, v :: r, h => by rw [joinB]; simp

/-! ### A line -/
def regW (a : Int) : B8 := [114, UInt8.ofNat (48 + a.toNat)]
def addrW (b k : Int) : B8 := if b = 8 then 91 :: (decB k.toNat ++ [93]) else 91 :: (regW b ++ (43 :: (decB k.toNat ++ [93])))
def wordsB (i : Ins) (to : B8) : B8 → List B8
  | [] => []
  | f :: r =>
    if f = 65 then regW i.a :: wordsB i to r
    else if f = 66 then regW i.b :: wordsB i to r
    else if f = 67 then regW i.c :: wordsB i to r
    else if f = 77 then [addrW i.b i.k]
    else if f = 75 then decB i.k.toNat :: wordsB i to r
    else if f = 84 then (64 :: (if to = [] then decB i.k.toNat else to)) :: wordsB i to r
    else [] :: wordsB i to r
/-- The words of a line. -/
def wordsOf (i : Ins) (to : B8) : List B8 := opName i.op :: wordsB i to (opField i.op)
def lineOf (i : Ins) (to : B8) : B8 := joinB 32 (wordsOf i to)
/-- May it stand in a line? -/
structure Fits (i : Ins) (to : B8) : Prop where
  op : 0 ≤ i.op ∧ i.op < 28
  a : 0 ≤ i.a ∧ i.a ≤ if hasB i.op 65 then 7 else 0
  b : 0 ≤ i.b ∧ i.b ≤ if hasB i.op 77 then 8 else if hasB i.op 66 then 7 else 0
  c : 0 ≤ i.c ∧ i.c ≤ if hasB i.op 67 then 7 else 0
  k : 0 ≤ i.k ∧ i.k ≤ if hasB i.op 75 ∨ hasB i.op 84 then 4294967295 else 0
  to : to ≠ [] → jumps i.op = true ∧ i.k = 0 ∧ nameOk to = true

theorem regB_regW {a : Int} (h : 0 ≤ a ∧ a ≤ 7) : regB (regW a) = a := by
  have : a = 0 ∨ a = 1 ∨ a = 2 ∨ a = 3 ∨ a = 4 ∨ a = 5 ∨ a = 6 ∨ a = 7 := by omega
  rcases this with e | e | e | e | e | e | e | e <;> subst e <;> decide
theorem regW_mem {a : Int} (h : 0 ≤ a ∧ a ≤ 7) {c : UInt8} (hc : c ∈ regW a) : c.toNat = 114 ∨ 48 ≤ c.toNat ∧ c.toNat ≤ 57 := by
  unfold regW at hc
  rcases List.mem_cons.1 hc with e | hc
  · rw [e]; exact .inl rfl
  · rw [List.mem_singleton] at hc
    rw [hc, dig_toNat (by omega)]; omega
theorem mem43_dec (n : Nat) : (43 : UInt8) ∉ decB n ++ [93] := by
  intro h
  rcases List.mem_append.1 h with h | h
  · have := decB_mem h
    have : (43 : UInt8).toNat = 43 := rfl
    omega
  · simp at h
theorem addrB_addrW {b k : Int} (hb : 0 ≤ b ∧ b ≤ 8) (hk : 0 ≤ k ∧ k ≤ 4294967295) : addrB (addrW b k) = (b, k) := by
  have hn : numB (decB k.toNat) = k := by rw [numB_dec (by omega)]; omega
  have hp := decB_pos k.toNat
  have h43 : (43 : UInt8) ∉ decB k.toNat := fun h => mem43_dec k.toNat (by simp [h])
  unfold addrW
  by_cases h8 : b = 8
  · rw [if_pos h8]
    unfold addrB
    rw [if_neg]
    · simp only []
      have e : (List.drop 1 (91 :: (decB k.toNat ++ [93]))).take ((91 :: (decB k.toNat ++ [93])).length - 2) = decB k.toNat := by
        simp
      rw [e, if_neg (by rw [List.contains_iff_mem]; exact h43), hn, h8]
    · rintro (e | e | e)
      · simp at e; omega
      · simp at e
      · simp at e
  · rw [if_neg h8]
    have hr := regB_regW (a := b) ⟨hb.1, by omega⟩
    have h43r : (43 : UInt8) ∉ regW b := by
      intro h
      have := regW_mem (a := b) ⟨hb.1, by omega⟩ h
      have : (43 : UInt8).toNat = 43 := rfl
      omega
    unfold addrB
    rw [if_neg]
    · simp only []
      have e : (List.drop 1 (91 :: (regW b ++ (43 :: (decB k.toNat ++ [93]))))).take ((91 :: (regW b ++ (43 :: (decB k.toNat ++ [93])))).length - 2) = regW b ++ (43 :: decB k.toNat) := by
        have : (91 :: (regW b ++ (43 :: (decB k.toNat ++ [93])))).length - 2 = (regW b ++ (43 :: decB k.toNat)).length := by simp
        rw [this]
        show (regW b ++ (43 :: (decB k.toNat ++ [93]))).take _ = _
        rw [show regW b ++ (43 :: (decB k.toNat ++ [93])) = (regW b ++ (43 :: decB k.toNat)) ++ [93] from by simp, List.take_left]
      rw [e, if_pos (by rw [List.contains_iff_mem]; simp)]
      have hix : (regW b ++ (43 :: decB k.toNat)).idxOf 43 = 2 := by
        rw [List.idxOf_append, if_neg h43r]; simp [regW]
      rw [hix]
      have t2 : (regW b ++ (43 :: decB k.toNat)).take 2 = regW b := by simp [regW]
      have d3 : (regW b ++ (43 :: decB k.toNat)).drop (2 + 1) = decB k.toNat := by simp [regW]
      rw [t2, d3, hr, hn, if_neg (by omega)]
    · rintro (e | e | e)
      · simp at e; omega
      · simp at e
      · simp [regW] at e
end Go.Proofs.YtlopmejmionnpaaDoor.As
