/- Plain Lean: an abstract object's state tells what was done ahead: what it answers is what all that was done ahead answers. No program in sight. -/
import Derived.Test.YtfemeiopfpblaaaDoorHjP
set_option linter.unusedVariables false
set_option linter.unusedSimpArgs false
namespace Go.Proofs.YtfemeiopfpblaaaDoor.As

theorem ownH_app (H : List Stp) (s : Stp) (j : Int) : ownH (H ++ [s]) j = ownStep j (ownH H j) s := by simp [ownH]
theorem readH_app (H : List Stp) (s : Stp) (j t : Int) : readH (H ++ [s]) j t = readStep j t (readH H j t) s := by simp [readH]
theorem manyH_app (H : List Stp) (s : Stp) (j c p t : Int) : manyH (H ++ [s]) j c p t = manyStep j c p t (manyH H j c p t) s := by simp [manyH]
theorem manyH_pos (j c p t : Int) : ∀ (H : List Stp) (n : Int), 0 ≤ n → 0 ≤ H.foldl (manyStep j c p t) n
  | [], n, h => h
  | s :: r, n, h => manyH_pos j c p t r _ (by unfold manyStep; split <;> omega)
theorem lastN_app (j : Int) (s : Stp) : ∀ (H : List Stp) (i : Nat) (l : Int), lastN j (H ++ [s]) i l = if isRel j s = true then ((i + H.length : Nat) : Int) else lastN j H i l
  | [], i, l => by simp [lastN]
  | a :: r, i, l => by
    rw [List.cons_append, lastN, lastN_app j s r, lastN, List.length_cons, show i + 1 + r.length = i + (r.length + 1) from by omega]
theorem lastN_le (j : Int) : ∀ (H : List Stp) (i : Nat) (l : Int), l ≤ i → lastN j H i l ≤ ((i + H.length : Nat) : Int)
  | [], i, l, h => by simpa [lastN] using h
  | a :: r, i, l, h => by
    rw [lastN, List.length_cons]
    have := lastN_le j r (i + 1) (if isRel j a = true then (i : Int) else l) (by split <;> omega)
    omega
theorem lastH_le (H : List Stp) (j : Int) : (lastH H j).toNat ≤ H.length := by
  have := lastN_le j H 0 (-1) (by omega)
  unfold lastH
  omega
theorem dataH_app (H : List Stp) (s : Stp) (j n : Int) : dataH (H ++ [s]) j n = if isRel j s = true then H.foldl (putStep j) (List.replicate n.toNat 0) else dataH H j n := by
  unfold dataH
  have h : lastH (H ++ [s]) j = if isRel j s = true then ((0 + H.length : Nat) : Int) else lastH H j := lastN_app j s H 0 (-1)
  rw [h]
  split
  · rw [show ((0 + H.length : Nat) : Int).toNat = H.length from by omega, List.take_append_of_le_length (Nat.le_refl _), List.take_length]
  · rw [List.take_append_of_le_length (lastH_le H j)]
/-- An object's state, and all that was done ahead. -/
structure Rel (th : Int) (o : Ob) (s : St) (H : List Stp) (j : Int) : Prop where
  ob : s.o = o
  l1 : s.rd.length = 8
  l2 : s.data.length = 3
  l3 : s.draft.length = 3
  l4 : s.come.length = 8
  l5 : s.left.length = 8
  own : (o.k ≠ 11 ∧ o.k ≠ 12 ∧ o.k ≠ 13) → s.owner = ownH H j ∧ -1 ≤ s.owner ∧ s.owner < th
  rd : o.k = 14 → ∀ t : Nat, t < 8 → s.rd[t]? = some (readH H j t) ∧ (readH H j t = true → (t : Int) < th)
  seq : o.k = 9 → s.draft.take o.n.toNat = H.foldl (putStep j) (List.replicate o.n.toNat 0) ∧ s.data.take o.n.toNat = dataH H j o.n
  cnt : o.k = 11 → s.count = o.n + manyH H j 2 0 (-1) - manyH H j 1 0 (-1)
  bar : o.k = 13 → (∀ t : Nat, t < 8 → s.come[t]? = some (manyH H j 9 1 t) ∧ s.left[t]? = some (manyH H j 9 3 t) ∧ manyH H j 9 3 t ≤ manyH H j 9 1 t) ∧ s.opened = manyH H j 9 2 (-1)
  once : o.k = 15 → (s.done = true ↔ 0 < manyH H j 10 0 (-1))
theorem rel_new (th : Int) (o : Ob) (j : Int) (hr : RightP o.k o.n o.a o.b th) : Rel th o (St.new o) [] j := by
  have h1 := hr.1
  have rep : ∀ t : Nat, t < 8 → (List.replicate 8 (0 : Int))[t]? = some 0 := fun t ht => by rw [List.getElem?_replicate, if_pos ht]
  have reb : ∀ t : Nat, t < 8 → (List.replicate 8 false)[t]? = some false := fun t ht => by rw [List.getElem?_replicate, if_pos ht]
  have hn : o.k = 9 → o.n.toNat ≤ 3 := fun hk => by obtain ⟨_, _, h⟩ := hr; omega
  refine ⟨rfl, rfl, rfl, rfl, rfl, rfl, fun _ => ⟨rfl, by show (-1 : Int) ≤ -1; omega, by show (-1 : Int) < th; omega⟩, fun _ t ht => ⟨reb t ht, fun e => by cases e⟩, fun hk => ?_, fun _ => ?_, fun _ => ⟨fun t ht => ⟨rep t ht, rep t ht, Int.le_refl _⟩, rfl⟩, fun _ => ?_⟩
  · have h3 : (List.replicate 3 (0 : Int)).take o.n.toNat = List.replicate o.n.toNat 0 := by rw [List.take_replicate]; congr 1; have := hn hk; omega
    exact ⟨h3, h3⟩
  · show o.n = o.n + 0 - 0; omega
  · show (false = true ↔ 0 < (0 : Int)); simp
/-- What is done with another object leaves it. -/
theorem rel_other {th : Int} {o : Ob} {s : St} {H : List Stp} {j : Int} (R : Rel th o s H j) (q : Stp) (hq : q.x.obj ≠ j) : Rel th o s (H ++ [q]) j := by
  have h1 : ownH (H ++ [q]) j = ownH H j := by rw [ownH_app, ownStep, if_neg hq]
  have h2 : ∀ t, readH (H ++ [q]) j t = readH H j t := fun t => by rw [readH_app, readStep, if_neg (fun e => hq e.1)]
  have h3 : ∀ c p t, manyH (H ++ [q]) j c p t = manyH H j c p t := fun c p t => by rw [manyH_app, manyStep, if_neg (fun e => hq e.1)]
  have h4 : (H ++ [q]).foldl (putStep j) (List.replicate o.n.toNat 0) = H.foldl (putStep j) (List.replicate o.n.toNat 0) := by
    rw [List.foldl_append]; show putStep j _ q = _; rw [putStep, if_neg (fun e => hq e.1)]
  have h5 : dataH (H ++ [q]) j o.n = dataH H j o.n := by rw [dataH_app, if_neg (by unfold isRel; simp [hq])]
  obtain ⟨a1, a2, a3, a4, a5, a6, a7, a8, a9, b1, b2, b3⟩ := R
  refine ⟨a1, a2, a3, a4, a5, a6, ?_, ?_, ?_, ?_, ?_, ?_⟩
  · rw [h1]; exact a7
  · simp only [h2]; exact a8
  · rw [h4, h5]; exact a9
  · simp only [h3]; exact b1
  · simp only [h3]; exact b2
  · simp only [h3]; exact b3

/-! ### Object by object -/
theorem lock_step {th : Int} {s : St} {H : List Stp} {x : Ask} (h1 : s.owner = ownH H x.obj) (h2 : -1 ≤ s.owner) (h3 : s.owner < th) (h4 : 0 ≤ x.who) (h5 : x.who < th) (hc : x.call = 1 ∨ x.call = 2) :
    refLock H x = (doLock s x).1 ∧ ∀ r d, (doLock s x).1 = some (r, d) → (doLock s x).2.owner = ownH (H ++ [⟨x, r⟩]) x.obj ∧ -1 ≤ (doLock s x).2.owner ∧ (doLock s x).2.owner < th := by
  have e : ∀ r, ownH (H ++ [⟨x, r⟩]) x.obj = ownStep x.obj s.owner ⟨x, r⟩ := fun r => by rw [ownH_app, h1]
  unfold refLock doLock
  rw [← h1]
  rcases hc with hc | hc
  · by_cases ho : s.owner = x.who
    · simp [hc, ho, e, ownStep]; omega
    · by_cases hn : s.owner = -1
      · have : ¬ (-1 = x.who) := by omega
        have : ¬ (x.who = -1) := by omega
        simp [hc, ho, hn, e, ownStep, *]; omega
      · have : 0 ≤ s.owner := by omega
        simp [hc, ho, hn, e, this]
  · by_cases ho : s.owner = x.who
    · simp [hc, ho, e, ownStep]; omega
    · simp [hc, ho, e, ownStep]; omega

theorem many_eq (H : List Stp) (x : Ask) (r j c p t : Int) : manyH (H ++ [⟨x, r⟩]) j c p t = if x.obj = j ∧ x.call = c ∧ x.part = p ∧ r = 0 ∧ (t < 0 ∨ x.who = t) then manyH H j c p t + 1 else manyH H j c p t := by rw [manyH_app]; rfl
theorem sem_step {o : Ob} {s : St} {H : List Stp} {x : Ask} (ho : s.o = o) (h1 : s.count = o.n + manyH H x.obj 2 0 (-1) - manyH H x.obj 1 0 (-1)) (hp : x.part = 0) (hc : x.call = 1 ∨ x.call = 2) :
    refSem o H x = (doSem s x).1 ∧ ∀ r d, (doSem s x).1 = some (r, d) → (doSem s x).2.count = o.n + manyH (H ++ [⟨x, r⟩]) x.obj 2 0 (-1) - manyH (H ++ [⟨x, r⟩]) x.obj 1 0 (-1) := by
  unfold refSem doSem
  rw [← h1, ho]
  rcases hc with hc | hc
  · by_cases h0 : s.count = 0
    · simp [hc, h0]
    · simp [hc, h0, many_eq, hp]; omega
  · by_cases h0 : s.count = o.a
    · simp [hc, h0, many_eq, hp]; omega
    · simp [hc, h0, many_eq, hp]; omega
theorem set_get {α : Type} (l : List α) (i t : Nat) (v : α) (hi : i < l.length) : (l.set i v)[t]? = if t = i then some v else l[t]? := by
  by_cases h : t = i
  · subst h; simp [hi]
  · rw [if_neg h, List.getElem?_set_ne (fun e => h e.symm)]
theorem getD_of {α : Type} {l : List α} {t : Nat} {v d : α} (h : l[t]? = some v) : l.getD t d = v := by rw [List.getD_eq_getElem?_getD, h]; rfl
theorem any_cong {n : Nat} {p q : Nat → Bool} (h : ∀ t, t < n → p t = q t) : (List.range n).any p = (List.range n).any q := by
  rw [Bool.eq_iff_iff, List.any_eq_true, List.any_eq_true]
  constructor
  · rintro ⟨t, ht, hp⟩; exact ⟨t, ht, by rw [← h t (List.mem_range.1 ht)]; exact hp⟩
  · rintro ⟨t, ht, hp⟩; exact ⟨t, ht, by rw [h t (List.mem_range.1 ht)]; exact hp⟩
def BarR (s : St) (H : List Stp) (j : Int) : Prop := (∀ t : Nat, t < 8 → s.come[t]? = some (manyH H j 9 1 t) ∧ s.left[t]? = some (manyH H j 9 3 t) ∧ manyH H j 9 3 t ≤ manyH H j 9 1 t) ∧ s.opened = manyH H j 9 2 (-1)
theorem bar_step {o : Ob} {s : St} {H : List Stp} {x : Ask} (ho : s.o = o) (h4 : s.come.length = 8) (h5 : s.left.length = 8) (hB : BarR s H x.obj) (hw : 0 ≤ x.who) (hw8 : x.who < 8) (hn : o.n ≤ 8) (hc : x.call = 9) :
    refBar o H x = (doBar s x).1 ∧ ∀ r d, (doBar s x).1 = some (r, d) → BarR (doBar s x).2 (H ++ [⟨x, r⟩]) x.obj ∧ (doBar s x).2.come.length = 8 ∧ (doBar s x).2.left.length = 8 := by
  obtain ⟨w, hwn⟩ : ∃ w : Nat, x.who = w := ⟨x.who.toNat, by omega⟩
  have hwt : x.who.toNat = w := by omega
  obtain ⟨hb, hop⟩ := hB
  obtain ⟨c1, c2, c3⟩ := hb w (by omega)
  have d1 := getD_of (d := (0 : Int)) c1
  have d2 := getD_of (d := (0 : Int)) c2
  have keep : ∀ r, r ≠ 0 ∨ (x.part ≠ 1 ∧ x.part ≠ 2 ∧ x.part ≠ 3) → BarR s (H ++ [⟨x, r⟩]) x.obj := fun r hr => by
    refine ⟨fun t ht => ?_, ?_⟩
    · rw [many_eq, many_eq, if_neg (by omega), if_neg (by omega)]; exact hb t ht
    · rw [many_eq, if_neg (by omega)]; exact hop
  subst ho
  unfold refBar doBar
  rw [hwt, d1, d2, hwn]
  by_cases k1 : s.o.n ≤ (w : Int)
  · rw [if_pos k1, if_pos k1]
    exact ⟨rfl, fun r d e => by injection e with e; injection e with e1 _; subst e1; exact ⟨keep 4 (.inl (by omega)), h4, h5⟩⟩
  · rw [if_neg k1, if_neg k1]
    by_cases k2 : x.arg = s.o.n
    · rw [if_neg (c := 8 < x.arg ∨ x.arg ≠ s.o.n) (by omega), if_neg (c := x.arg ≠ s.o.n) (by omega)]
      by_cases p1 : x.part = 1
      · rw [if_pos p1, if_pos p1]
        by_cases q : manyH H x.obj 9 1 w = manyH H x.obj 9 3 w
        · rw [if_pos q, if_neg (by omega)]
          refine ⟨rfl, fun r d e => ?_⟩
          injection e with e; injection e with e1 _; subst e1
          refine ⟨⟨fun t ht => ?_, ?_⟩, by simpa using h4, h5⟩
          · obtain ⟨b1, b2, b3⟩ := hb t ht
            show (s.come.set w _)[t]? = _ ∧ s.left[t]? = _ ∧ _
            rw [many_eq, many_eq, set_get _ _ _ _ (by omega), if_neg (c := _ ∧ _ ∧ x.part = 3 ∧ _) (by omega)]
            by_cases ht2 : t = w
            · subst ht2
              rw [if_pos rfl, if_pos ⟨rfl, hc, p1, rfl, .inr hwn⟩]
              exact ⟨rfl, b2, by omega⟩
            · rw [if_neg ht2, if_neg (by omega)]
              exact ⟨b1, b2, b3⟩
          · show s.opened = _
            rw [many_eq, if_neg (by omega)]; exact hop
        · rw [if_neg q, if_pos (by omega)]
          exact ⟨rfl, fun r d e => by cases e⟩
      · rw [if_neg p1, if_neg p1]
        by_cases p2 : x.part = 2
        · rw [if_pos p2, if_pos p2, ← hop]
          have ha : (List.range s.o.n.toNat).any (fun t => decide (s.come.getD t 0 ≤ s.opened)) = (List.range s.o.n.toNat).any (fun t => decide (manyH H x.obj 9 1 t ≤ s.opened)) := any_cong (fun t ht => by rw [getD_of (hb t (by omega)).1])
          rw [ha]
          split
          · exact ⟨rfl, fun r d e => by cases e⟩
          · refine ⟨rfl, fun r d e => ?_⟩
            injection e with e; injection e with e1 _; subst e1
            refine ⟨⟨fun t ht => ?_, ?_⟩, h4, h5⟩
            · rw [many_eq, many_eq, if_neg (by omega), if_neg (by omega)]; exact hb t ht
            · show s.opened + 1 = _
              rw [many_eq, if_pos ⟨rfl, hc, p2, rfl, .inl (by omega)⟩, hop]
        · rw [if_neg p2, if_neg p2]
          by_cases p3 : x.part = 3
          · rw [if_pos p3, if_pos p3, ← hop]
            by_cases q : manyH H x.obj 9 3 w < manyH H x.obj 9 1 w ∧ manyH H x.obj 9 1 w ≤ s.opened
            · rw [if_pos q, if_neg (by omega)]
              refine ⟨rfl, fun r d e => ?_⟩
              injection e with e; injection e with e1 _; subst e1
              refine ⟨⟨fun t ht => ?_, ?_⟩, h4, by simpa using h5⟩
              · obtain ⟨b1, b2, b3⟩ := hb t ht
                show s.come[t]? = _ ∧ (s.left.set w _)[t]? = _ ∧ _
                rw [many_eq, many_eq, set_get _ _ _ _ (by omega), if_neg (c := _ ∧ _ ∧ x.part = 1 ∧ _) (by omega)]
                by_cases ht2 : t = w
                · subst ht2
                  rw [if_pos rfl, if_pos ⟨rfl, hc, p3, rfl, .inr hwn⟩]
                  exact ⟨b1, rfl, by omega⟩
                · rw [if_neg ht2, if_neg (by omega)]
                  exact ⟨b1, b2, b3⟩
              · show s.opened = _
                rw [many_eq, if_neg (by omega)]; exact hop
            · rw [if_neg q, if_pos (by omega)]
              exact ⟨rfl, fun r d e => by cases e⟩
          · rw [if_neg p3, if_neg p3]
            exact ⟨rfl, fun r d e => by cases e⟩
    · rw [if_pos (.inr k2), if_pos k2]
      exact ⟨rfl, fun r d e => by injection e with e; injection e with e1 _; subst e1; exact ⟨keep 3 (.inl (by omega)), h4, h5⟩⟩
theorem once_step {th : Int} {s : St} {H : List Stp} {x : Ask} (h1 : s.owner = ownH H x.obj) (h2 : -1 ≤ s.owner) (h3 : s.owner < th) (h4 : 0 ≤ x.who) (h5 : x.who < th) (hd : s.done = true ↔ 0 < manyH H x.obj 10 0 (-1)) (hp : x.part = 0) (hc : x.call = 9 ∨ x.call = 10) :
    refOnce H x = (doOnce s x).1 ∧ ∀ r d, (doOnce s x).1 = some (r, d) → ((doOnce s x).2.owner = ownH (H ++ [⟨x, r⟩]) x.obj ∧ -1 ≤ (doOnce s x).2.owner ∧ (doOnce s x).2.owner < th) ∧ ((doOnce s x).2.done = true ↔ 0 < manyH (H ++ [⟨x, r⟩]) x.obj 10 0 (-1)) := by
  have e : ∀ r, ownH (H ++ [⟨x, r⟩]) x.obj = ownStep x.obj s.owner ⟨x, r⟩ := fun r => by rw [ownH_app, h1]
  have hm : 0 ≤ manyH H x.obj 10 0 (-1) := manyH_pos _ _ _ _ H 0 (Int.le_refl _)
  unfold refOnce doOnce
  rw [← h1]
  rcases hc with hc | hc
  · by_cases ho : s.owner = x.who
    · simp [hc, ho, e, ownStep, many_eq, hp, hd]; omega
    · by_cases hdn : s.done = true
      · have hm2 := hd.1 hdn
        simp [hc, ho, hdn, hm2, e, ownStep, many_eq, hp]; exact ⟨h2, h3⟩
      · have hm2 : ¬ 0 < manyH H x.obj 10 0 (-1) := fun e => hdn (hd.2 e)
        have hdf : s.done = false := by simpa using hdn
        by_cases hn : 0 ≤ s.owner
        · simp [hc, ho, hdf, hm2, hn]
        · simp [hc, ho, hdf, hm2, hn, e, ownStep, many_eq, hp]; omega
  · by_cases ho : s.owner = x.who
    · simp [hc, ho, e, ownStep, many_eq, hp]; omega
    · simp [hc, ho, e, ownStep, many_eq, hp, hd]; omega
def RdR (th : Int) (s : St) (H : List Stp) (j : Int) : Prop := ∀ t : Nat, t < 8 → s.rd[t]? = some (readH H j t) ∧ (readH H j t = true → (t : Int) < th)
theorem read_eq (H : List Stp) (x : Ask) (r t : Int) : readH (H ++ [⟨x, r⟩]) x.obj t = if x.who = t ∧ r = 0 then (if x.call = 2 then false else if x.call = 3 then true else readH H x.obj t) else readH H x.obj t := by
  rw [readH_app, readStep]; simp
theorem rw_any {th : Int} {s : St} {H : List Stp} {j c : Int} (h1 : s.owner = ownH H j) (h2 : -1 ≤ s.owner) (h3 : s.owner < th) (l1 : s.rd.length = 8) (hR : RdR th s H j) (hth : th ≤ 8) :
    ((List.range th.toNat).any (fun t => decide (ownH H j = t) || (decide (c = 1) && readH H j t)) = true) ↔ (0 ≤ s.owner ∨ (c = 1 ∧ s.rd ≠ List.replicate 8 false)) := by
  rw [List.any_eq_true]
  constructor
  · rintro ⟨t, ht, hp⟩
    have ht2 := List.mem_range.1 ht
    rw [Bool.or_eq_true, Bool.and_eq_true, decide_eq_true_eq, decide_eq_true_eq] at hp
    rcases hp with hp | ⟨hc, hp⟩
    · left; omega
    · right
      refine ⟨hc, fun e => ?_⟩
      have := (hR t (by omega)).1
      rw [e, List.getElem?_replicate, if_pos (by omega), hp] at this
      simp at this
  · rintro (h | ⟨hc, hne⟩)
    · exact ⟨s.owner.toNat, List.mem_range.2 (by omega), by rw [Bool.or_eq_true, decide_eq_true_eq]; left; omega⟩
    · obtain ⟨t, ht, hp⟩ : ∃ t : Nat, t < 8 ∧ readH H j t = true := by
        apply Classical.byContradiction
        intro hno
        apply hne
        apply List.ext_getElem?
        intro t
        rw [List.getElem?_replicate]
        by_cases ht : t < 8
        · rw [if_pos ht, (hR t ht).1]
          cases hb : readH H j t with
          | false => rfl
          | true => exact absurd ⟨t, ht, hb⟩ hno
        · rw [if_neg ht, List.getElem?_eq_none (by omega)]
      have := (hR t ht).2 hp
      exact ⟨t, List.mem_range.2 (by omega), by rw [Bool.or_eq_true, Bool.and_eq_true, decide_eq_true_eq]; exact .inr ⟨decide_eq_true hc, hp⟩⟩
theorem rw_step {th : Int} {s : St} {H : List Stp} {x : Ask} (h1 : s.owner = ownH H x.obj) (h2 : -1 ≤ s.owner) (h3 : s.owner < th) (l1 : s.rd.length = 8) (hR : RdR th s H x.obj) (hth : th ≤ 8) (h4 : 0 ≤ x.who) (h5 : x.who < th) (hc : x.call = 1 ∨ x.call = 2 ∨ x.call = 3) :
    refRw th H x = (doRw s x).1 ∧ ∀ r d, (doRw s x).1 = some (r, d) → ((doRw s x).2.owner = ownH (H ++ [⟨x, r⟩]) x.obj ∧ -1 ≤ (doRw s x).2.owner ∧ (doRw s x).2.owner < th) ∧ RdR th (doRw s x).2 (H ++ [⟨x, r⟩]) x.obj ∧ (doRw s x).2.rd.length = 8 := by
  have e : ∀ r, ownH (H ++ [⟨x, r⟩]) x.obj = ownStep x.obj s.owner ⟨x, r⟩ := fun r => by rw [ownH_app, h1]
  obtain ⟨w, hwn⟩ : ∃ w : Nat, x.who = w := ⟨x.who.toNat, by omega⟩
  have hwt : x.who.toNat = w := by omega
  have d1 := getD_of (d := false) (hR w (by omega)).1
  have hm : mineH H x ↔ s.mine x := by
    unfold mineH St.mine
    rw [← h1, hwt, d1, hwn]
  have same : ∀ r, r ≠ 0 ∨ x.call = 1 → RdR th s (H ++ [⟨x, r⟩]) x.obj := fun r hr t ht => by
    rw [read_eq]
    have : (if x.who = (t : Int) ∧ r = 0 then (if x.call = 2 then false else if x.call = 3 then true else readH H x.obj t) else readH H x.obj t) = readH H x.obj t := by
      split
      · next h => rw [if_neg (by omega), if_neg (by omega)]
      · rfl
    rw [this]; exact hR t ht
  have hset : ∀ (v : Bool) (q : St), q.rd = s.rd.set w v → (v = if x.call = 2 then false else if x.call = 3 then true else v) → (x.call = 2 ∨ x.call = 3) → RdR th q (H ++ [⟨x, 0⟩]) x.obj := fun v q hq hv hcc t ht => by
    rw [hq, read_eq, set_get _ _ _ _ (by omega)]
    by_cases htw : t = w
    · subst htw
      rw [if_pos rfl, if_pos ⟨hwn, rfl⟩]
      refine ⟨?_, fun _ => by omega⟩
      rw [hv]
      rcases hcc with hcc | hcc <;> simp [hcc]
    · rw [if_neg htw, if_neg (by omega)]; exact hR t ht
  unfold refRw doRw
  rw [hwt]
  by_cases k2 : x.call = 2
  · rw [if_pos k2, if_pos k2]
    by_cases km : s.mine x
    · rw [if_pos km, if_pos (hm.2 km)]
      refine ⟨rfl, fun r d e1 => ?_⟩
      injection e1 with e1; injection e1 with e1 _; subst e1
      refine ⟨?_, hset false _ rfl (by rw [if_pos k2]) (.inl k2), by simpa using l1⟩
      rw [e]
      show (if s.owner = x.who then -1 else s.owner) = _ ∧ -1 ≤ (if s.owner = x.who then -1 else s.owner) ∧ (if s.owner = x.who then -1 else s.owner) < th
      unfold ownStep
      simp [k2]
      split <;> omega
    · rw [if_neg km, if_neg (fun q => km (hm.1 q))]
      refine ⟨rfl, fun r d e1 => ?_⟩
      injection e1 with e1; injection e1 with e1 _; subst e1
      exact ⟨by rw [e]; unfold ownStep; simp; exact ⟨h2, h3⟩, same _ (.inl (by omega)), l1⟩
  · rw [if_neg k2, if_neg k2]
    by_cases km : s.mine x
    · rw [if_pos km, if_pos (hm.2 km)]
      refine ⟨rfl, fun r d e1 => ?_⟩
      injection e1 with e1; injection e1 with e1 _; subst e1
      exact ⟨by rw [e]; unfold ownStep; simp; exact ⟨h2, h3⟩, same _ (.inl (by omega)), l1⟩
    · rw [if_neg km, if_neg (fun q => km (hm.1 q))]
      by_cases kb : 0 ≤ s.owner ∨ (x.call = 1 ∧ s.rd ≠ List.replicate 8 false)
      · rw [if_pos kb, if_pos ((rw_any h1 h2 h3 l1 hR hth).2 kb)]
        exact ⟨rfl, fun r d e1 => by cases e1⟩
      · rw [if_neg kb, if_neg (fun q => kb ((rw_any h1 h2 h3 l1 hR hth).1 q))]
        by_cases k1 : x.call = 1
        · rw [if_pos k1]
          refine ⟨rfl, fun r d e1 => ?_⟩
          injection e1 with e1; injection e1 with e1 _; subst e1
          exact ⟨by rw [e]; unfold ownStep; simp [k1]; omega, same _ (.inr k1), l1⟩
        · rw [if_neg k1]
          have k3 : x.call = 3 := by omega
          refine ⟨rfl, fun r d e1 => ?_⟩
          injection e1 with e1; injection e1 with e1 _; subst e1
          exact ⟨by rw [e]; unfold ownStep; simp [k3]; exact ⟨h2, h3⟩, hset true _ rfl (by simp [k3]) (.inr k3), by simpa using l1⟩
def SeqR (n : Int) (s : St) (H : List Stp) (j : Int) : Prop := s.draft.take n.toNat = H.foldl (putStep j) (List.replicate n.toNat 0) ∧ s.data.take n.toNat = dataH H j n
theorem put_eq (n : Int) (H : List Stp) (x : Ask) (r : Int) : (H ++ [(⟨x, r⟩ : Stp)]).foldl (putStep x.obj) (List.replicate n.toNat 0) = if x.call = 4 ∧ r = 0 then (H.foldl (putStep x.obj) (List.replicate n.toNat 0)).set x.arg.toNat x.val else H.foldl (putStep x.obj) (List.replicate n.toNat 0) := by
  rw [List.foldl_append]
  show putStep x.obj _ ⟨x, r⟩ = _
  rw [putStep]; simp
theorem seq_step {th : Int} {s : St} {H : List Stp} {x : Ask} (h1 : s.owner = ownH H x.obj) (h2 : -1 ≤ s.owner) (h3 : s.owner < th) (l2 : s.data.length = 3) (l3 : s.draft.length = 3) (hR : SeqR s.o.n s H x.obj) (h4 : 0 ≤ x.who) (h5 : x.who < th) (hc : 1 ≤ x.call ∧ x.call ≤ 4) :
    (if x.call = 3 then some (0, dataH H x.obj s.o.n) else refLock H x) = (doSeq s x).1 ∧ ∀ r d, (doSeq s x).1 = some (r, d) → ((doSeq s x).2.owner = ownH (H ++ [⟨x, r⟩]) x.obj ∧ -1 ≤ (doSeq s x).2.owner ∧ (doSeq s x).2.owner < th) ∧ SeqR s.o.n (doSeq s x).2 (H ++ [⟨x, r⟩]) x.obj ∧ (doSeq s x).2.data.length = 3 ∧ (doSeq s x).2.draft.length = 3 := by
  have e : ∀ r, ownH (H ++ [⟨x, r⟩]) x.obj = ownStep x.obj s.owner ⟨x, r⟩ := fun r => by rw [ownH_app, h1]
  obtain ⟨r1, r2⟩ := hR
  have same : ∀ (q : St) r, q.draft = s.draft → q.data = s.data → r ≠ 0 ∨ x.call = 1 ∨ x.call = 3 → SeqR s.o.n q (H ++ [⟨x, r⟩]) x.obj := fun q r e1 e2 hr => by
    refine ⟨?_, ?_⟩
    · rw [put_eq, if_neg (by omega), e1]; exact r1
    · rw [dataH_app, if_neg (by unfold isRel; simp; omega), e2]; exact r2
  unfold refLock doSeq doLock
  rw [← h1]
  by_cases k4 : x.call = 4
  · have n3 : ¬ x.call = 3 := by omega
    have n1 : ¬ x.call = 1 := by omega
    rw [if_neg n3, if_neg n1, if_pos k4]
    by_cases ho : s.owner = x.who
    · rw [if_pos ho, if_pos ho]
      refine ⟨rfl, fun r d e1 => ?_⟩
      injection e1 with e1; injection e1 with e1 _; subst e1
      refine ⟨by rw [e]; unfold ownStep; simp [k4]; exact ⟨h2, h3⟩, ⟨?_, ?_⟩, l2, by simpa using l3⟩
      · rw [put_eq, if_pos ⟨k4, rfl⟩, ← r1]
        show (s.draft.set _ _).take _ = _
        rw [List.take_set]
      · rw [dataH_app, if_neg (by unfold isRel; simp; omega)]; exact r2
    · rw [if_neg ho, if_neg ho]
      refine ⟨rfl, fun r d e1 => ?_⟩
      injection e1 with e1; injection e1 with e1 _; subst e1
      exact ⟨by rw [e]; unfold ownStep; simp; exact ⟨h2, h3⟩, same _ _ rfl rfl (.inl (by omega)), l2, l3⟩
  · rw [if_neg k4]
    by_cases k3 : x.call = 3
    · rw [if_pos k3, if_pos k3]
      refine ⟨by rw [r2], fun r d e1 => ?_⟩
      injection e1 with e1; injection e1 with e1 _; subst e1
      exact ⟨by rw [e]; unfold ownStep; simp [k3]; exact ⟨h2, h3⟩, same _ _ rfl rfl (.inr (.inr k3)), l2, l3⟩
    · rw [if_neg k3, if_neg k3]
      by_cases k2 : x.call = 2
      · have n1 : ¬ x.call = 1 := by omega
        rw [if_neg n1, if_pos k2]
        by_cases ho : s.owner = x.who
        · rw [if_pos ho, if_pos ho]
          refine ⟨rfl, fun r d e1 => ?_⟩
          injection e1 with e1; injection e1 with e1 _; subst e1
          refine ⟨by rw [e]; unfold ownStep; simp [k2, ho]; omega, ⟨?_, ?_⟩, l3, l3⟩
          · rw [put_eq, if_neg (by omega)]; exact r1
          · rw [dataH_app, if_pos (by unfold isRel; simp [k2])]; exact r1
        · rw [if_neg ho, if_neg ho]
          refine ⟨rfl, fun r d e1 => ?_⟩
          injection e1 with e1; injection e1 with e1 _; subst e1
          exact ⟨by rw [e]; unfold ownStep; simp; exact ⟨h2, h3⟩, same _ _ rfl rfl (.inl (by omega)), l2, l3⟩
      · have k1 : x.call = 1 := by omega
        rw [if_pos k1, if_neg k2]
        by_cases ho : s.owner = x.who
        · rw [if_pos ho, if_pos ho]
          refine ⟨rfl, fun r d e1 => ?_⟩
          injection e1 with e1; injection e1 with e1 _; subst e1
          exact ⟨by rw [e]; unfold ownStep; simp; exact ⟨h2, h3⟩, same _ _ rfl rfl (.inl (by omega)), l2, l3⟩
        · rw [if_neg ho, if_neg ho]
          by_cases hn : s.owner = -1
          · rw [if_pos hn, if_neg (by omega)]
            refine ⟨rfl, fun r d e1 => ?_⟩
            injection e1 with e1; injection e1 with e1 _; subst e1
            exact ⟨by rw [e]; unfold ownStep; simp [k1]; omega, same _ _ rfl rfl (.inr (.inl k1)), l2, l3⟩
          · rw [if_neg hn, if_pos (by omega)]
            exact ⟨rfl, fun r d e1 => by cases e1⟩

/-- What an object's state answers is what all that was done ahead answers. -/
theorem step_same {th : Int} {o : Ob} {s : St} {H : List Stp} {x : Ask} (R : Rel th o s H x.obj) (hr : RightP o.k o.n o.a o.b th) :
    refOb th o H x = (doOb th s x).1 ∧ ∀ r d, (doOb th s x).1 = some (r, d) → Rel th o (doOb th s x).2 (H ++ [⟨x, r⟩]) x.obj := by
  obtain ⟨rfl, a2, a3, a4, a5, a6, a7, a8, a9, b1, b2, b3⟩ := R
  obtain ⟨t1, t8, hk⟩ := hr
  by_cases hA : Asks th s.o x
  · obtain ⟨hP, hn4, hp⟩ := hA
    have hP2 := hP
    obtain ⟨_, w0, w1, hmay⟩ := hP2
    have hd : doOb th s x = doKind s x := by unfold doOb; rw [if_pos ⟨hP, hn4, hp⟩]
    rw [hd]
    unfold MayP at hmay
    by_cases k13 : s.o.k = 13
    · have e : doKind s x = doBar s x := by unfold doKind; rw [if_neg (by omega), if_neg (by omega), if_neg (by omega), if_neg (by omega), if_pos k13]
      have f : refOb th s.o H x = refBar s.o H x := by unfold refOb; rw [if_pos hP, if_pos k13]
      have hs := bar_step (s := s) (H := H) (x := x) rfl a5 a6 (b2 k13) w0 (by omega) (by omega) (by omega)
      rw [e, f]
      refine ⟨hs.1, fun r d h => ?_⟩
      obtain ⟨h1, h2, h3⟩ := hs.2 r d h
      have hso : (doBar s x).2.o = s.o ∧ (doBar s x).2.rd.length = 8 ∧ (doBar s x).2.data.length = 3 ∧ (doBar s x).2.draft.length = 3 := by
        unfold doBar; repeat' split
        all_goals exact ⟨rfl, a2, a3, a4⟩
      exact ⟨hso.1, hso.2.1, hso.2.2.1, hso.2.2.2, h2, h3, fun q => by omega, fun q => by omega, fun q => by omega, fun q => by omega, fun _ => h1, fun q => by omega⟩
    · have hp0 : x.part = 0 := by omega
      have f0 : refOb th s.o H x = if s.o.k = 12 then some (0, []) else if s.o.k = 11 then refSem s.o H x else if (s.o.k = 6 ∨ s.o.k = 7) ∧ x.who ≠ s.o.a ∧ x.who ≠ s.o.b then some (4, []) else if s.o.k = 9 ∧ x.call = 3 then some (0, dataH H x.obj s.o.n) else if s.o.k = 14 then refRw th H x else if s.o.k = 15 then refOnce H x else refLock H x := by
        unfold refOb; rw [if_pos hP, if_neg k13, if_neg (by omega)]
      rw [f0]
      by_cases k12 : s.o.k = 12
      · have e : doKind s x = (some (0, []), s) := by unfold doKind; rw [if_neg (by omega), if_neg (by omega), if_neg (by omega), if_pos k12]
        rw [e, if_pos k12]
        exact ⟨rfl, fun r d h => ⟨rfl, a2, a3, a4, a5, a6, fun q => by omega, fun q => by omega, fun q => by omega, fun q => by omega, fun q => by omega, fun q => by omega⟩⟩
      · rw [if_neg k12]
        by_cases k11 : s.o.k = 11
        · have e : doKind s x = doSem s x := by unfold doKind; rw [if_neg (by omega), if_neg (by omega), if_pos k11]
          have hs := sem_step (s := s) (H := H) (x := x) rfl (b1 k11) hp0 (by omega)
          rw [e, if_pos k11]
          refine ⟨hs.1, fun r d h => ?_⟩
          have hso : (doSem s x).2.o = s.o ∧ (doSem s x).2.rd.length = 8 ∧ (doSem s x).2.data.length = 3 ∧ (doSem s x).2.draft.length = 3 ∧ (doSem s x).2.come.length = 8 ∧ (doSem s x).2.left.length = 8 := by
            unfold doSem; repeat' split
            all_goals exact ⟨rfl, a2, a3, a4, a5, a6⟩
          exact ⟨hso.1, hso.2.1, hso.2.2.1, hso.2.2.2.1, hso.2.2.2.2.1, hso.2.2.2.2.2, fun q => by omega, fun q => by omega, fun q => by omega, fun _ => hs.2 r d h, fun q => by omega, fun q => by omega⟩
        · rw [if_neg k11]
          obtain ⟨o1, o2, o3⟩ := a7 ⟨k11, k12, k13⟩
          by_cases k9 : s.o.k = 9
          · have e : doKind s x = doSeq s x := by unfold doKind; rw [if_neg (by omega), if_pos k9]
            have hs := seq_step (s := s) (H := H) (x := x) o1 o2 o3 a3 a4 (a9 k9) w0 w1 (by omega)
            rw [e, if_neg (by omega)]
            refine ⟨?_, fun r d h => ?_⟩
            · rw [← hs.1]
              by_cases k3 : x.call = 3
              · rw [if_pos ⟨k9, k3⟩, if_pos k3]
              · rw [if_neg (by omega), if_neg (by omega), if_neg (by omega), if_neg k3]
            · obtain ⟨h1, h2, h3, h4⟩ := hs.2 r d h
              have hso : (doSeq s x).2.o = s.o ∧ (doSeq s x).2.rd.length = 8 ∧ (doSeq s x).2.come.length = 8 ∧ (doSeq s x).2.left.length = 8 := by
                unfold doSeq doLock; repeat' split
                all_goals exact ⟨rfl, a2, a5, a6⟩
              exact ⟨hso.1, hso.2.1, h3, h4, hso.2.2.1, hso.2.2.2, fun _ => h1, fun q => by omega, fun _ => h2, fun q => by omega, fun q => by omega, fun q => by omega⟩
          · by_cases k14 : s.o.k = 14
            · have e : doKind s x = doRw s x := by unfold doKind; rw [if_neg (by omega), if_neg (by omega), if_neg (by omega), if_neg (by omega), if_neg (by omega), if_pos k14]
              have hs := rw_step (s := s) (H := H) (x := x) o1 o2 o3 a2 (a8 k14) t8 w0 w1 (by omega)
              rw [e, if_neg (by omega), if_neg (by omega), if_pos k14]
              refine ⟨hs.1, fun r d h => ?_⟩
              obtain ⟨h1, h2, h3⟩ := hs.2 r d h
              have hso : (doRw s x).2.o = s.o ∧ (doRw s x).2.data.length = 3 ∧ (doRw s x).2.draft.length = 3 ∧ (doRw s x).2.come.length = 8 ∧ (doRw s x).2.left.length = 8 := by
                unfold doRw; repeat' split
                all_goals exact ⟨rfl, a3, a4, a5, a6⟩
              exact ⟨hso.1, h3, hso.2.1, hso.2.2.1, hso.2.2.2.1, hso.2.2.2.2, fun _ => h1, fun _ => h2, fun q => by omega, fun q => by omega, fun q => by omega, fun q => by omega⟩
            · by_cases k15 : s.o.k = 15
              · have e : doKind s x = doOnce s x := by unfold doKind; rw [if_neg (by omega), if_neg (by omega), if_neg (by omega), if_neg (by omega), if_neg (by omega), if_neg (by omega), if_pos k15]
                have hs := once_step (s := s) (H := H) (x := x) o1 o2 o3 w0 w1 (b3 k15) hp0 (by omega)
                rw [e, if_neg (by omega), if_neg (by omega), if_neg k14, if_pos k15]
                refine ⟨hs.1, fun r d h => ?_⟩
                obtain ⟨h1, h2⟩ := hs.2 r d h
                have hso : (doOnce s x).2.o = s.o ∧ (doOnce s x).2.rd.length = 8 ∧ (doOnce s x).2.data.length = 3 ∧ (doOnce s x).2.draft.length = 3 ∧ (doOnce s x).2.come.length = 8 ∧ (doOnce s x).2.left.length = 8 := by
                  unfold doOnce; repeat' split
                  all_goals exact ⟨rfl, a2, a3, a4, a5, a6⟩
                exact ⟨hso.1, hso.2.1, hso.2.2.1, hso.2.2.2.1, hso.2.2.2.2.1, hso.2.2.2.2.2, fun _ => h1, fun q => by omega, fun q => by omega, fun q => by omega, fun q => by omega, fun _ => h2⟩
              · have hs := lock_step (s := s) (H := H) (x := x) o1 o2 o3 w0 w1 (by omega)
                have hso : (doLock s x).2.o = s.o ∧ (doLock s x).2.rd.length = 8 ∧ (doLock s x).2.data.length = 3 ∧ (doLock s x).2.draft.length = 3 ∧ (doLock s x).2.come.length = 8 ∧ (doLock s x).2.left.length = 8 := by
                  unfold doLock; repeat' split
                  all_goals exact ⟨rfl, a2, by assumption, a4, a5, a6⟩
                by_cases hdu : (s.o.k = 6 ∨ s.o.k = 7) ∧ x.who ≠ s.o.a ∧ x.who ≠ s.o.b
                · have e : doKind s x = (some (4, []), s) := by unfold doKind; rw [if_pos hdu.1]; unfold doDuo; rw [if_pos hdu.2]
                  rw [e, if_pos hdu]
                  refine ⟨rfl, fun r d h => ?_⟩
                  injection h with h; injection h with h _; subst h
                  exact ⟨rfl, a2, a3, a4, a5, a6, fun _ => ⟨by rw [ownH_app, ← o1]; unfold ownStep; simp, o2, o3⟩, fun q => by omega, fun q => by omega, fun q => by omega, fun q => by omega, fun q => by omega⟩
                · have e : doKind s x = doLock s x := by
                    unfold doKind
                    by_cases k67 : s.o.k = 6 ∨ s.o.k = 7
                    · rw [if_pos k67]; unfold doDuo; rw [if_neg (fun q => hdu ⟨k67, q⟩)]
                    · rw [if_neg k67, if_neg k9, if_neg k11, if_neg k12, if_neg k13, if_neg k14, if_neg k15]
                  rw [e, if_neg hdu, if_neg (by omega), if_neg k14, if_neg k15]
                  exact ⟨hs.1, fun r d h => ⟨hso.1, hso.2.1, hso.2.2.1, hso.2.2.2.1, hso.2.2.2.2.1, hso.2.2.2.2.2, fun _ => hs.2 r d h, fun q => by omega, fun q => by omega, fun q => by omega, fun q => by omega, fun q => by omega⟩⟩
  · have hd : doOb th s x = (none, s) := by unfold doOb; rw [if_neg hA]
    rw [hd]
    refine ⟨?_, fun r d h => by cases h⟩
    unfold refOb
    by_cases hP : AskP s.o.k s.o.n s.o.a s.o.b x.call th x.who
    · have hm := hP.2.2.2
      unfold MayP at hm
      have h2 : s.o.k ≠ 13 ∧ (x.part ≠ 0 ∨ (x.call = 4 ∧ s.o.n ≤ x.arg)) := by
        unfold Asks at hA
        by_cases k13 : s.o.k = 13
        · exact absurd ⟨hP, by omega, .inl k13⟩ hA
        · refine ⟨k13, ?_⟩
          by_cases hp : x.part = 0
          · right
            apply Classical.byContradiction
            intro hq
            exact hA ⟨hP, hq, .inr hp⟩
          · exact .inl hp
      rw [if_pos hP, if_neg h2.1, if_pos (by omega)]
    · rw [if_neg hP]

/-! ### Histories -/
def fitsP (a : Act) (w : Int × List Int) : Prop := a.ended = false ∨ a.x.part = 1 ∨ a.x.part = 2 ∨ (a.res = w.1 ∧ a.data = w.2)
instance (a : Act) (w : Int × List Int) : Decidable (fitsP a w) := by unfold fitsP; infer_instance
def doAt (th : Int) (S : List St) (x : Ask) : Ans × List St :=
  if 0 ≤ x.obj then
    match S[x.obj.toNat]? with
    | none => (none, S)
    | some s => ((doOb th s x).1, S.set x.obj.toNat (doOb th s x).2)
  else (none, S)
def judgeM (th : Int) : List St → List Act → Nat → Int
  | _, [], _ => -1
  | S, a :: r, i =>
    match (doAt th S a.x).1 with
    | none => i
    | some w => if fitsP a w then judgeM th (doAt th S a.x).2 r (i + 1) else i
def refAt (th : Int) (obs : List Ob) (H : List Stp) (x : Ask) : Ans :=
  if 0 ≤ x.obj then
    match obs[x.obj.toNat]? with
    | none => none
    | some o => refOb th o H x
  else none
def judgeR (th : Int) (obs : List Ob) : List Stp → List Act → Nat → Int
  | _, [], _ => -1
  | H, a :: r, i =>
    match refAt th obs H a.x with
    | none => i
    | some w => if fitsP a w then judgeR th obs (H ++ [⟨a.x, w.1⟩]) r (i + 1) else i
theorem judge_go {th : Int} {obs : List Ob} (hR : ∀ o ∈ obs, RightP o.k o.n o.a o.b th) : ∀ (acts : List Act) (S : List St) (H : List Stp) (i : Nat), S.length = obs.length →
    (∀ (j : Nat) o s, obs[j]? = some o → S[j]? = some s → Rel th o s H j) → judgeM th S acts i = judgeR th obs H acts i
  | [], S, H, i, hl, hr => rfl
  | a :: r, S, H, i, hl, hr => by
    unfold judgeM judgeR doAt refAt
    by_cases h0 : 0 ≤ a.x.obj
    · rw [if_pos h0, if_pos h0]
      cases ho : obs[a.x.obj.toNat]? with
      | none =>
        have hs : S[a.x.obj.toNat]? = none := by rw [List.getElem?_eq_none_iff] at ho ⊢; omega
        rw [hs]
      | some o =>
        have hlt : a.x.obj.toNat < obs.length := (List.getElem?_eq_some_iff.1 ho).1
        obtain ⟨s, hs⟩ : ∃ s, S[a.x.obj.toNat]? = some s := ⟨_, List.getElem?_eq_getElem (by omega)⟩
        rw [hs]
        have R := hr _ o s ho hs
        rw [show ((a.x.obj.toNat : Nat) : Int) = a.x.obj by omega] at R
        obtain ⟨h1, h2⟩ := step_same R (hR o (List.mem_of_getElem? ho))
        simp only [h1]
        cases hw : (doOb th s a.x).1 with
        | none => rfl
        | some w =>
          simp only
          split
          · refine judge_go hR r _ _ (i + 1) (by simpa using hl) (fun j o' s' ho' hs' => ?_)
            by_cases hj : j = a.x.obj.toNat
            · subst hj
              rw [set_get _ _ _ _ (by omega), if_pos rfl] at hs'
              injection hs' with hs'; subst hs'
              rw [ho] at ho'; injection ho' with ho'; subst ho'
              rw [show ((a.x.obj.toNat : Nat) : Int) = a.x.obj by omega]
              exact h2 w.1 w.2 hw
            · rw [set_get _ _ _ _ (by omega), if_neg hj] at hs'
              exact rel_other (hr j o' s' ho' hs') _ (by show a.x.obj ≠ (j : Int); omega)
          · rfl
    · rw [if_neg h0, if_neg h0]
/-- What can be, told by states, is what can be, told by all that was done. -/
theorem judge_same {th : Int} {obs : List Ob} (hR : ∀ o ∈ obs, RightP o.k o.n o.a o.b th) (acts : List Act) : judgeM th (obs.map St.new) acts 0 = judgeR th obs [] acts 0 := by
  refine judge_go hR acts _ _ 0 (by simp) (fun j o s ho hs => ?_)
  rw [List.getElem?_map, ho] at hs
  injection hs with hs
  subst hs
  exact rel_new th o j (hR o (List.mem_of_getElem? ho))
end Go.Proofs.YtfemeiopfpblaaaDoor.As
