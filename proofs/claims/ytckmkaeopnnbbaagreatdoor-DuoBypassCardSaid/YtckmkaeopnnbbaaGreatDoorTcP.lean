/- Plain Lean: what trace.calls gathers; a row of calls in memory. -/
import Derived.Test.YtckmkaeopnnbbaaGreatDoorGc
import Derived.Laws.OwnMore
import Derived.Laws.AppendOwn
import Derived.RangeFuncBox
set_option linter.unusedVariables false
set_option linter.unusedSimpArgs false
namespace Go.Proofs.YtckmkaeopnnbbaaGreatDoor.As
open Go.RowKit

/-- A call that was begun. -/
structure Cl where
  site : Int
  who : Int
  began : Int
  ended : Int
  res : Int
  inner : List Int
def Cl.cells (c : Cl) (v : Value) : List Value := [.int .i64 c.site, .int .i64 c.who, .int .i64 c.began, .int .i64 c.ended, .int .u32 c.res, v]
/-- What one event of a thread does: l: its calls; open: is the last one open? -/
def callS (t : Int) (s : List Cl × Bool) (x : Nat × Ev) : List Cl × Bool :=
  if x.2.kind ≠ 7 then
    (if s.2 = true ∧ x.2.kind ≠ 3 then
      match s.1.getLast? with
      | some c => (s.1.dropLast ++ [{ c with inner := c.inner ++ [(x.1 : Int)] }], s.2)
      | none => s
    else s)
  else if x.2.k.tmod 2 = 0 then (s.1 ++ [⟨x.2.k.tdiv 2 % 4294967296, t, x.1, -1, 0, []⟩], true)
  else if s.2 = true then
    match s.1.getLast? with
    | some c => if c.site = x.2.k.tdiv 2 % 4294967296 then (s.1.dropLast ++ [{ c with ended := x.1, res := x.2.val }], false) else s
    | none => s
  else s
def callsF (t : Int) (l : List (Nat × Ev)) : List Cl × Bool := l.foldl (callS t) ([], false)
theorem callsF_snoc (t : Int) (l : List (Nat × Ev)) (x : Nat × Ev) : callsF t (l ++ [x]) = callS t (callsF t l) x := by
  unfold callsF
  rw [List.foldl_append]; rfl
theorem snoc_ind {α : Type} {P : List α → Prop} (h0 : P []) (h1 : ∀ l x, P l → P (l ++ [x])) (l : List α) : P l := by
  rw [← List.reverse_reverse l]
  induction l.reverse with
  | nil => exact h0
  | cons a r ih => rw [List.reverse_cons]; exact h1 _ _ ih
theorem last_form {α : Type} {l : List α} (h : l ≠ []) : ∃ l0 c, l = l0 ++ [c] := by
  refine ⟨l.dropLast, l.getLast h, ?_⟩
  rw [List.dropLast_concat_getLast h]
theorem callS_len (t : Int) (s : List Cl × Bool) (x : Nat × Ev) : (callS t s x).1.length ≤ s.1.length + 1 := by
  unfold callS
  have hd : ∀ (l : List Cl) c c', l.getLast? = some c → (l.dropLast ++ [c']).length = l.length := fun l c c' h => by
    have : l ≠ [] := by intro e; subst e; cases h
    obtain ⟨l0, d, rfl⟩ := last_form this
    simp
  split
  · split
    · split
      · rename_i c hc; dsimp only; rw [hd _ _ _ hc]; omega
      · omega
    · omega
  · split
    · simp
    · split
      · split
        · split
          · rename_i c hc _; dsimp only; rw [hd _ _ _ hc]; omega
          · omega
        · omega
      · omega
theorem callsF_len (t : Int) (l : List (Nat × Ev)) : (callsF t l).1.length ≤ l.length := by
  refine snoc_ind (P := fun l => (callsF t l).1.length ≤ l.length) (Nat.le_refl _) (fun l x ih => ?_) l
  rw [callsF_snoc]
  have := callS_len t (callsF t l) x
  simp
  omega
/-- An open call is there. -/
theorem callsF_open (t : Int) (l : List (Nat × Ev)) : (callsF t l).2 = true → (callsF t l).1 ≠ [] := by
  refine snoc_ind (P := fun l => (callsF t l).2 = true → (callsF t l).1 ≠ []) (fun h => by cases h) (fun l x ih => ?_) l
  rw [callsF_snoc]
  unfold callS
  split
  · split
    · split
      · intro _; simp
      · exact ih
    · exact ih
  · split
    · intro _; simp
    · split
      · split
        · split
          · intro _; simp
          · exact ih
        · exact ih
      · exact ih
/-- No call has more in it than befell. -/
theorem callS_inner (t : Int) (s : List Cl × Bool) (x : Nat × Ev) (n : Nat) (h : ∀ c ∈ s.1, c.inner.length ≤ n) : ∀ c ∈ (callS t s x).1, c.inner.length ≤ n + 1 := by
  have hd : ∀ (l : List Cl) c, l.getLast? = some c → c ∈ l ∧ ∀ d ∈ l.dropLast, d ∈ l := fun l c h => ⟨List.mem_of_getLast? h, fun d hd => List.dropLast_subset l hd⟩
  have h' : ∀ c ∈ s.1, c.inner.length ≤ n + 1 := fun c hc => Nat.le_succ_of_le (h c hc)
  unfold callS
  split
  · split
    · split
      · rename_i c hc
        intro d hm
        rcases List.mem_append.1 hm with hm | hm
        · exact h' d ((hd _ _ hc).2 d hm)
        · rw [List.mem_singleton.1 hm]
          have := h c (hd _ _ hc).1
          simp; omega
      · exact h'
    · exact h'
  · split
    · intro d hm
      rcases List.mem_append.1 hm with hm | hm
      · exact h' d hm
      · rw [List.mem_singleton.1 hm]; exact Nat.zero_le _
    · split
      · split
        · split
          · rename_i c hc _
            intro d hm
            rcases List.mem_append.1 hm with hm | hm
            · exact h' d ((hd _ _ hc).2 d hm)
            · rw [List.mem_singleton.1 hm]; exact h' c (hd _ _ hc).1
          · exact h'
        · exact h'
      · exact h'
theorem callsF_inner (t : Int) (l : List (Nat × Ev)) : ∀ c ∈ (callsF t l).1, c.inner.length ≤ l.length := by
  refine snoc_ind (P := fun l => ∀ c ∈ (callsF t l).1, c.inner.length ≤ l.length) (fun c hc => by cases hc) (fun l x ih => ?_) l
  rw [callsF_snoc, List.length_append]
  exact callS_inner t _ x _ ih
/-! ### In memory -/
def flatC : List Cl → List Value → List Value
  | c :: l, v :: vs => c.cells v ++ flatC l vs
  | _, _ => []
theorem flatC_snoc (c : Cl) (u : Value) : ∀ (l : List Cl) (vs : List Value), vs.length = l.length → flatC (l ++ [c]) (vs ++ [u]) = flatC l vs ++ c.cells u
  | [], [], _ => rfl
  | [], _ :: _, h => by cases h
  | _ :: _, [], h => by cases h
  | d :: l, v :: vs, h => by
    show d.cells v ++ flatC (l ++ [c]) (vs ++ [u]) = (d.cells v ++ flatC l vs) ++ c.cells u
    rw [flatC_snoc c u l vs (by simpa using h), List.append_assoc]
theorem flatC_len : ∀ (l : List Cl) (vs : List Value), vs.length = l.length → (flatC l vs).length = l.length * 6
  | [], [], _ => rfl
  | [], _ :: _, h => by cases h
  | _ :: _, [], h => by cases h
  | d :: l, v :: vs, h => by
    show (d.cells v ++ flatC l vs).length = _
    rw [List.length_append, flatC_len l vs (by simpa using h)]
    simp [Cl.cells]; omega
/-- A row of calls, each with a row of its own. -/
structure OutC (B : Nat) (W : World) (v : Value) (l : List Cl) (vs : List Value) : Prop where
  len : vs.length = l.length
  row : W.ownsRow B 63 6 v l.length (flatC l vs)
  inn : ∀ (i : Nat) (c : Cl) (u : Value), l[i]? = some c → vs[i]? = some u → W.ownsRow B 3 1 u c.inner.length (c.inner.map (Value.int .i64))
  dis : ∀ (i j : Nat) (u u' : Value) (b : Nat), i ≠ j → vs[i]? = some u → vs[j]? = some u' → u.ownBlock = some b → u'.ownBlock ≠ some b
section
variable {B : Nat} {W w1 : World} {v v' u u' : Value} {l : List Cl} {vs : List Value} {c : Cl}
theorem row_types {e e' : TypeId} {s s' n n' b : Nat} {xs xs' : List Value} (h : W.ownsRow B e s v n xs) (h' : W.ownsRow B e' s' v' n' xs') (hne : e ≠ e') (hb : v.ownBlock = some b) : v'.ownBlock ≠ some b := by
  rcases h.2 with ⟨rfl, _⟩ | ⟨g, cap, cur, rfl, _, hg, _⟩
  · simp [Value.ownBlock] at hb
  · rcases h'.2 with ⟨rfl, _⟩ | ⟨g', cap', cur', rfl, _, hg', _⟩
    · simp [Value.ownBlock]
    · simp only [Value.ownBlock, Option.some.injEq, ne_eq] at hb ⊢
      intro e2
      subst e2 hb
      rw [hg] at hg'
      injection hg' with hg'
      injection hg' with _ q _
      exact hne q
theorem OutC.nil (B : Nat) (W : World) : OutC B W (.slice none 0 0) [] [] := ⟨rfl, World.ownsRow_nil _ _ _ _, fun _ _ _ h => by simp at h, fun _ _ _ _ _ _ h => by simp at h⟩
theorem OutC.kept {row : Option Nat} (h : OutC B W v l vs) (hg : W.grownBy w1 row) (h1 : v.ownBlock = none ∨ v.ownBlock ≠ row) (h2 : ∀ (i : Nat) (u : Value), vs[i]? = some u → u.ownBlock = none ∨ u.ownBlock ≠ row) : OutC B w1 v l vs :=
  ⟨h.len, h.row.kept hg h1, fun i c u hc hu => (h.inn i c u hc hu).kept hg (h2 i u hu), h.dis⟩
theorem OutC.inn_at (h : OutC B W v l vs) {i : Nat} (hu : vs[i]? = some u) : ∃ c, l[i]? = some c ∧ W.ownsRow B 3 1 u c.inner.length (c.inner.map (Value.int .i64)) := by
  have hi : i < l.length := by rw [← h.len]; exact (List.getElem?_eq_some_iff.1 hu).1
  exact ⟨_, List.getElem?_eq_getElem hi, h.inn i _ u (List.getElem?_eq_getElem hi) hu⟩
/-- Its rows are no row of another kind's. -/
theorem OutC.off (h : OutC B W v l vs) {i : Nat} (hu : vs[i]? = some u) : u.ownBlock = none ∨ u.ownBlock ≠ v.ownBlock := by
  obtain ⟨c, _, hr⟩ := h.inn_at hu
  cases e : v.ownBlock with
  | none =>
    cases e2 : u.ownBlock with
    | none => exact .inl rfl
    | some b => exact .inr (by simp)
  | some b => exact .inr (row_types h.row hr (by decide) e)
/-- One call more. -/
theorem OutC.snoc (h : OutC B W v l vs) (hc : c.inner = []) (hr : w1.ownsRow B 63 6 v' (l.length + 1) (flatC l vs ++ c.cells (.slice none 0 0))) (hg : W.grownBy w1 v.ownBlock) : OutC B w1 v' (l ++ [c]) (vs ++ [.slice none 0 0]) := by
  refine ⟨by simp [h.len], ?_, fun i d u hd hu => ?_, fun i j u u' b hij hu hu' hb => ?_⟩
  · rw [flatC_snoc _ _ _ _ h.len, List.length_append]; exact hr
  · by_cases e : i < l.length
    · rw [List.getElem?_append_left e] at hd
      rw [List.getElem?_append_left (by rw [h.len]; exact e)] at hu
      exact (h.inn i d u hd hu).kept hg (h.off hu)
    · have e2 : i = l.length := by
        have := (List.getElem?_eq_some_iff.1 hd).1
        simp at this; omega
      subst e2
      rw [List.getElem?_append_right (Nat.le_refl _)] at hd
      rw [List.getElem?_append_right (by rw [h.len]; exact Nat.le_refl _), h.len] at hu
      simp at hd hu
      subst hd hu
      rw [hc]
      exact World.ownsRow_nil _ _ _ _
  · by_cases e : i < vs.length
    · rw [List.getElem?_append_left e] at hu
      by_cases e' : j < vs.length
      · rw [List.getElem?_append_left e'] at hu'
        exact h.dis i j u u' b hij hu hu' hb
      · rw [List.getElem?_append_right (by omega)] at hu'
        have : u' = .slice none 0 0 := by
          cases hk : j - vs.length with
          | zero => rw [hk] at hu'; simpa using hu'.symm
          | succ k => rw [hk] at hu'; simp at hu'
        subst this
        simp [Value.ownBlock]
    · rw [List.getElem?_append_right (by omega)] at hu
      have : u = .slice none 0 0 := by
        cases hk : i - vs.length with
        | zero => rw [hk] at hu; simpa using hu.symm
        | succ k => rw [hk] at hu; simp at hu
      subst this
      simp [Value.ownBlock] at hb
/-- The last one. -/
theorem OutC.last (h : OutC B W v (l ++ [c]) vs) : ∃ vs0 u g cap, vs = vs0 ++ [u] ∧ vs0.length = l.length ∧ v = .slice (some ⟨g, 0, none⟩) (l.length + 1) cap ∧ (∀ j x, (c.cells u)[j]? = some x → W.cell? ⟨g, l.length * 6 + j, none⟩ = some x) ∧ (∀ j, W.frozen? ⟨g, j, none⟩ = false) ∧ W.ownsRow B 3 1 u c.inner.length (c.inner.map (Value.int .i64)) ∧ B ≤ g := by
  have hl := h.len
  have hne : vs ≠ [] := by intro e; subst e; simp at hl
  obtain ⟨vs0, u, rfl⟩ := last_form hne
  have hl0 : vs0.length = l.length := by simpa using hl
  have hr := h.row
  rw [List.length_append] at hr
  obtain ⟨g, cap, rfl⟩ := ownsRow_succ hr
  refine ⟨vs0, u, g, cap, rfl, hl0, rfl, fun j x hj => ?_, fun j => hr.frozenAt j, h.inn l.length c u (by simp) (by rw [← hl0]; simp), (hr.lt g rfl).1⟩
  have hj6 : j < 6 := (List.getElem?_eq_some_iff.1 hj).1
  have hx := hr.cellAt (l.length * 6 + j) (by show _ < (l.length + 1) * 6; omega)
  rw [hx, flatC_snoc _ _ _ _ hl0, List.getElem?_append_right (by rw [flatC_len _ _ hl0]; omega), flatC_len _ _ hl0]
  rw [show l.length * 6 + j - l.length * 6 = j by omega]
  exact hj
theorem set_last {g cap : Nat} (h : W.ownsRow B 63 6 (.slice (some ⟨g, 0, none⟩) (l.length + 1) cap) (l.length + 1) (flatC l vs ++ c.cells u)) (hl : vs.length = l.length) (j : Nat) (x : Value) {c' : Cl} (hc : (c.cells u).set j x = c'.cells u') :
    (W.setCell ⟨g, l.length * 6 + j, none⟩ x).ownsRow B 63 6 (.slice (some ⟨g, 0, none⟩) (l.length + 1) cap) (l.length + 1) (flatC l vs ++ c'.cells u') ∧ W.grownBy (W.setCell ⟨g, l.length * 6 + j, none⟩ x) (some g) := by
  have hs := h.stored (l.length * 6 + j) x
  refine ⟨?_, hs.2⟩
  have e : (flatC l vs ++ c.cells u).set (l.length * 6 + j) x = flatC l vs ++ c'.cells u' := by
    rw [List.set_append_right _ _ (by rw [flatC_len _ _ hl]; omega), flatC_len _ _ hl, show l.length * 6 + j - l.length * 6 = j by omega, hc]
  rw [← e]
  exact hs.1
/-- The last one's cell, which is no row, is set. -/
theorem OutC.set {g cap : Nat} {vs0 : List Value} (h : OutC B W (.slice (some ⟨g, 0, none⟩) (l.length + 1) cap) (l ++ [c]) (vs0 ++ [u])) (hl0 : vs0.length = l.length) (j : Nat) (x : Value) {c' : Cl} (hc : (c.cells u).set j x = c'.cells u) (hi : c'.inner = c.inner) :
    OutC B (W.setCell ⟨g, l.length * 6 + j, none⟩ x) (.slice (some ⟨g, 0, none⟩) (l.length + 1) cap) (l ++ [c']) (vs0 ++ [u]) := by
  have hr := h.row
  rw [flatC_snoc _ _ _ _ hl0, List.length_append] at hr
  obtain ⟨h1, h2⟩ := set_last hr hl0 j x hc
  refine ⟨by simp [hl0], by rw [flatC_snoc _ _ _ _ hl0, List.length_append]; exact h1, fun i d z hd hz => ?_, h.dis⟩
  have hoff := h.off hz
  have hb : (Value.slice (some ⟨g, 0, none⟩) (l.length + 1) cap).ownBlock = some g := rfl
  rw [hb] at hoff
  by_cases e : i < l.length
  · rw [List.getElem?_append_left e] at hd
    exact (h.inn i d z (by rw [List.getElem?_append_left e]; exact hd) hz).kept h2 hoff
  · have e2 : i = l.length := by
      have := (List.getElem?_eq_some_iff.1 hd).1
      simp at this; omega
    subst e2
    simp at hd
    subst hd
    rw [hi]
    exact (h.inn l.length c z (by simp) hz).kept h2 hoff
/-- The last one's row has one place more. -/
theorem OutC.more {g cap : Nat} {vs0 : List Value} {i : Int} (h : OutC B W (.slice (some ⟨g, 0, none⟩) (l.length + 1) cap) (l ++ [c]) (vs0 ++ [u])) (hl0 : vs0.length = l.length) (hr : w1.ownsRow B 3 1 u' (c.inner.length + 1) (c.inner.map (Value.int .i64) ++ [.int .i64 i])) (hg : W.grownBy w1 u.ownBlock) (hb : u'.ownBlock = u.ownBlock ∨ ∃ k, W.heap.size ≤ k ∧ u'.ownBlock = some k) :
    OutC B (w1.setCell ⟨g, l.length * 6 + 5, none⟩ u') (.slice (some ⟨g, 0, none⟩) (l.length + 1) cap) (l ++ [{ c with inner := c.inner ++ [i] }]) (vs0 ++ [u']) := by
  have hul : (vs0 ++ [u])[l.length]? = some u := by rw [← hl0]; simp
  have hoff := h.off hul
  have hgb : (Value.slice (some ⟨g, 0, none⟩) (l.length + 1) cap).ownBlock = some g := rfl
  have hrow := h.row
  rw [flatC_snoc _ _ _ _ hl0, List.length_append] at hrow
  have hrow1 : w1.ownsRow B 63 6 (.slice (some ⟨g, 0, none⟩) (l.length + 1) cap) (l.length + 1) (flatC l vs0 ++ c.cells u) := by
    refine hrow.kept hg ?_
    rw [hgb] at hoff ⊢
    rcases hoff with e | e
    · right; rw [e]; simp
    · right; exact fun e2 => e e2.symm
  obtain ⟨h1, h2⟩ := set_last hrow1 hl0 5 u' (c' := { c with inner := c.inner ++ [i] }) (u' := u') rfl
  have hu'g : u'.ownBlock ≠ some g := row_types hrow1 hr (by decide) rfl
  have key : ∀ z : Value, ∀ k, k < l.length → (vs0 ++ [u])[k]? = some z → z.ownBlock = none ∨ (z.ownBlock ≠ u.ownBlock ∧ ∀ b, u'.ownBlock = some b → z.ownBlock ≠ some b) := fun z k hk hz => by
    cases hz0 : z.ownBlock with
    | none => exact .inl rfl
    | some b =>
      right
      obtain ⟨d, hd, hdr⟩ := h.inn_at hz
      have hlt := (hdr.lt b hz0).2
      have hub : u.ownBlock ≠ some b := h.dis k l.length z u b (by omega) hz hul hz0
      refine ⟨fun e => hub e.symm, fun b' hb' e => ?_⟩
      injection e with e; subst e
      rcases hb with e2 | ⟨k2, hk2, e2⟩
      · rw [hb'] at e2; exact hub e2.symm
      · rw [hb'] at e2; injection e2 with e2; omega
  refine ⟨by simp [hl0], by rw [flatC_snoc _ _ _ _ hl0, List.length_append]; exact h1, fun k d z hd hz => ?_, fun k k' z z' b hkk hz hz' hzb => ?_⟩
  · by_cases e : k < l.length
    · rw [List.getElem?_append_left e] at hd
      rw [List.getElem?_append_left (by omega)] at hz
      have hz1 : (vs0 ++ [u])[k]? = some z := by rw [List.getElem?_append_left (by omega)]; exact hz
      have ho := h.off hz1
      rw [hgb] at ho
      refine ((h.inn k d z (by rw [List.getElem?_append_left e]; exact hd) hz1).kept hg ?_).kept h2 ho
      rcases key z k e hz1 with e1 | e1
      · exact .inl e1
      · exact .inr e1.1
    · have e2 : k = l.length := by
        have := (List.getElem?_eq_some_iff.1 hd).1
        simp at this; omega
      subst e2
      rw [← hl0] at hz
      simp at hd hz
      subst hd hz
      have := hr.kept h2 (.inr hu'g)
      simpa using this
  · have split : ∀ {k : Nat} {z : Value}, (vs0 ++ [u'])[k]? = some z → (k < l.length ∧ (vs0 ++ [u])[k]? = some z) ∨ (k = l.length ∧ z = u') := fun {k z} hz => by
      by_cases e : k < l.length
      · rw [List.getElem?_append_left (by omega)] at hz
        exact .inl ⟨e, by rw [List.getElem?_append_left (by omega)]; exact hz⟩
      · have := (List.getElem?_eq_some_iff.1 hz).1
        have e2 : k = vs0.length := by simp at this; omega
        subst e2
        simp at hz
        exact .inr ⟨hl0, hz.symm⟩
    rcases split hz with ⟨k1, hz1⟩ | ⟨k1, rfl⟩ <;> rcases split hz' with ⟨k2, hz2⟩ | ⟨k2, rfl⟩
    · exact h.dis k k' z z' b hkk hz1 hz2 hzb
    · rcases key z k k1 hz1 with e | e
      · rw [e] at hzb; cases hzb
      · exact fun e2 => e.2 b e2 hzb
    · rcases key z' k' k2 hz2 with e | e
      · rw [e]; simp
      · exact e.2 b hzb
    · omega
end
end Go.Proofs.YtckmkaeopnnbbaaGreatDoor.As
