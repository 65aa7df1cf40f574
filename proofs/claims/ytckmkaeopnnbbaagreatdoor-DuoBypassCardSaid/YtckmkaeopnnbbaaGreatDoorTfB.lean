/- Plain Lean: what is put in by the row of who waits: calls come in the order of their doors. No program in sight. -/
import Derived.Test.YtckmkaeopnnbbaaGreatDoorTcC
import Derived.Test.YtckmkaeopnnbbaaGreatDoorTfA
set_option linter.unusedVariables false
set_option linter.unusedSimpArgs false
namespace Go.Proofs.YtckmkaeopnnbbaaGreatDoor.As

def isSw (a : Int) (evs : List Ev) (x : Int) : Bool := match evs[x.toNat]? with | some e => decide (e.kind = 4 ∧ e.addr = a) | none => false
def doorP (a : Int) (evs : List Ev) (c : Cl) : Int := match c.inner.find? (isSw a evs) with | some x => x | none => -1
theorem isSw_snoc (a : Int) (evs : List Ev) (e : Ev) {x : Int} (h0 : 0 ≤ x) (h1 : x < evs.length) : isSw a (evs ++ [e]) x = isSw a evs x := by
  unfold isSw
  rw [List.getElem?_append_left (by omega)]
theorem isSw_new (a : Int) (evs : List Ev) (e : Ev) : isSw a (evs ++ [e]) (evs.length : Int) = decide (e.kind = 4 ∧ e.addr = a) := by
  unfold isSw
  rw [Int.toNat_natCast, List.getElem?_append_right (Nat.le_refl _), Nat.sub_self]; rfl
theorem find_congr {α : Type} {p q : α → Bool} : ∀ {l : List α}, (∀ x ∈ l, p x = q x) → l.find? p = l.find? q
  | [], _ => rfl
  | a :: l, h => by
    have h1 := h a (List.mem_cons_self ..)
    have h2 := find_congr (l := l) (fun x hx => h x (List.mem_cons_of_mem _ hx))
    rw [List.find?_cons, List.find?_cons, h1, h2]
def inB (n : Nat) (c : Cl) : Prop := ∀ x ∈ c.inner, 0 ≤ x ∧ x < (n : Int)
theorem doorP_snoc (a : Int) (evs : List Ev) (e : Ev) {c : Cl} (h : inB evs.length c) : doorP a (evs ++ [e]) c = doorP a evs c := by
  unfold doorP
  rw [find_congr (q := isSw a evs) (fun x hx => isSw_snoc a evs e (h x hx).1 (h x hx).2)]
theorem doorP_add (a : Int) (evs : List Ev) (e : Ev) {c : Cl} (h : inB evs.length c) : doorP a (evs ++ [e]) { c with inner := c.inner ++ [(evs.length : Int)] } = if doorP a evs c = -1 then (if e.kind = 4 ∧ e.addr = a then (evs.length : Int) else -1) else doorP a evs c := by
  have hk : ∀ x, c.inner.find? (isSw a evs) = some x → 0 ≤ x := fun x hx => (h x (List.mem_of_find?_eq_some hx)).1
  unfold doorP
  show (match (c.inner ++ [(evs.length : Int)]).find? (isSw a (evs ++ [e])) with | some x => x | none => -1) = _
  rw [List.find?_append, find_congr (q := isSw a evs) (fun x hx => isSw_snoc a evs e (h x hx).1 (h x hx).2)]
  cases hf : c.inner.find? (isSw a evs) with
  | some x =>
    have := hk x hf
    show x = if x = -1 then _ else x
    rw [if_neg (by omega)]
  | none =>
    show (match ([(evs.length : Int)]).find? (isSw a (evs ++ [e])) with | some x => x | none => -1) = if (-1 : Int) = -1 then _ else -1
    rw [if_pos rfl, List.find?_cons, isSw_new]
    by_cases he : e.kind = 4 ∧ e.addr = a
    · rw [if_pos he, decide_eq_true he]
    · rw [if_neg he, decide_eq_false he]; rfl
theorem fm_congr {α β : Type} {p q : α → Option β} : ∀ {l : List α}, (∀ x ∈ l, p x = q x) → l.filterMap p = l.filterMap q
  | [], _ => rfl
  | a :: l, h => by
    rw [List.filterMap_cons, List.filterMap_cons, h a (List.mem_cons_self ..), fm_congr (l := l) (fun x hx => h x (List.mem_cons_of_mem _ hx))]
theorem ofI_grow (evs : List Ev) (e : Ev) (t : Int) : ofI (evs ++ [e]) t (evs ++ [e]).length = ofI evs t evs.length ++ (if e.who = t then [(evs.length, e)] else []) := by
  rw [List.length_append, List.length_singleton, ofI_succ (evs ++ [e]) t evs.length e (by rw [List.getElem?_append_right (Nat.le_refl _), Nat.sub_self]; rfl)]
  congr 1
  unfold ofI
  refine fm_congr (fun j hj => ?_)
  rw [List.getElem?_append_left (List.mem_range.1 hj)]
def Gd (a : Int) (evs : List Ev) (dn : List (Int × Int)) (c : Cl) : Prop := c.site = 0 → (doorP a evs c, c.ended) ∈ dn
def Tf (a : Int) (evs : List Ev) (k : Nat) (dn : List (Int × Int)) (wt : List (Nat × Int)) (t : Nat) (s : List Cl × Bool) : Prop :=
  (∀ c ∈ s.1, inB evs.length c) ∧
  ((k = 0 ∧ (∀ c ∈ s.1, Gd a evs dn c) ∧ (s.2 = true → ∃ l c, s.1 = l ++ [c] ∧ c.site ≠ 0)) ∨
   (k = 1 ∧ s.2 = true ∧ ∃ l c, s.1 = l ++ [c] ∧ (∀ c ∈ l, Gd a evs dn c) ∧ c.site = 0 ∧ c.ended = -1 ∧ doorP a evs c = -1) ∨
   (k = 2 ∧ s.2 = true ∧ ∃ l c, s.1 = l ++ [c] ∧ (∀ c ∈ l, Gd a evs dn c) ∧ c.site = 0 ∧ c.ended = -1 ∧ (t, doorP a evs c) ∈ wt))
theorem Gd.snoc {a : Int} {evs : List Ev} {dn dn' : List (Int × Int)} {c : Cl} (h : Gd a evs dn c) (hb : inB evs.length c) (e : Ev) (hd : ∀ x ∈ dn, x ∈ dn') : Gd a (evs ++ [e]) dn' c := fun h0 => by
  rw [doorP_snoc a evs e hb]; exact hd _ (h h0)
theorem inB.snoc {n : Nat} {c : Cl} (h : inB n c) : inB (n + 1) c := fun x hx => ⟨(h x hx).1, by have := (h x hx).2; omega⟩
theorem inB.add {n : Nat} {c : Cl} (h : inB n c) : inB (n + 1) { c with inner := c.inner ++ [(n : Int)] } := fun x hx => by
  rcases List.mem_append.1 hx with hx | hx
  · exact h.snoc x hx
  · rw [List.mem_singleton.1 hx]; omega
theorem Tf.other {a : Int} {evs : List Ev} {k : Nat} {dn dn' : List (Int × Int)} {wt wt' : List (Nat × Int)} {t : Nat} {s : List Cl × Bool} (h : Tf a evs k dn wt t s) (e : Ev) (hd : ∀ x ∈ dn, x ∈ dn') (hw : ∀ d, (t, d) ∈ wt → (t, d) ∈ wt') : Tf a (evs ++ [e]) k dn' wt' t s := by
  obtain ⟨hb, h⟩ := h
  refine ⟨fun c hc => by rw [List.length_append]; exact (hb c hc).snoc, ?_⟩
  rcases h with ⟨h0, h1, h2⟩ | ⟨h0, h1, l, c, h2, h3, h4, h5, h6⟩ | ⟨h0, h1, l, c, h2, h3, h4, h5, h6⟩
  · exact .inl ⟨h0, fun c hc => (h1 c hc).snoc (hb c hc) e hd, h2⟩
  · exact .inr (.inl ⟨h0, h1, l, c, h2, fun d hd' => (h3 d hd').snoc (hb d (by rw [h2]; exact List.mem_append_left _ hd')) e hd, h4, h5, by rw [doorP_snoc a evs e (hb c (by rw [h2]; simp))]; exact h6⟩)
  · exact .inr (.inr ⟨h0, h1, l, c, h2, fun d hd' => (h3 d hd').snoc (hb d (by rw [h2]; exact List.mem_append_left _ hd')) e hd, h4, h5, by rw [doorP_snoc a evs e (hb c (by rw [h2]; simp))]; exact hw _ h6⟩)
theorem callS_else {t : Int} {s : List Cl × Bool} {x : Nat × Ev} (h7 : x.2.kind ≠ 7) : callS t s x = s ∨ (s.2 = true ∧ ∃ l c, s.1 = l ++ [c] ∧ callS t s x = (l ++ [{ c with inner := c.inner ++ [(x.1 : Int)] }], s.2)) := by
  unfold callS
  rw [if_pos h7]
  split
  · rename_i h
    cases hl : s.1.getLast? with
    | none => exact .inl rfl
    | some c =>
      have hne : s.1 ≠ [] := by intro e; rw [e] at hl; cases hl
      obtain ⟨l, d, hs⟩ := last_form hne
      have : d = c := by rw [hs] at hl; simpa using hl
      subst this
      exact .inr ⟨h.1, l, d, hs, by dsimp only; rw [hs, List.dropLast_concat]⟩
  · exact .inl rfl
theorem callS_begin {t : Int} {s : List Cl × Bool} {x : Nat × Ev} (h7 : x.2.kind = 7) (hk : x.2.k.tmod 2 = 0) : callS t s x = (s.1 ++ [⟨x.2.k.tdiv 2 % 4294967296, t, x.1, -1, 0, []⟩], true) := by
  unfold callS
  rw [if_neg (by omega), if_pos hk]
theorem callS_end {t : Int} {s : List Cl × Bool} {x : Nat × Ev} (h7 : x.2.kind = 7) (hk : x.2.k.tmod 2 ≠ 0) (ho : s.2 = true) {l : List Cl} {c : Cl} (hs : s.1 = l ++ [c]) : callS t s x = if c.site = x.2.k.tdiv 2 % 4294967296 then (l ++ [{ c with ended := (x.1 : Int), res := x.2.val }], false) else s := by
  unfold callS
  rw [if_neg (by omega), if_neg hk, if_pos ho, hs, List.getLast?_concat, List.dropLast_concat]
theorem callS_shut {t : Int} {s : List Cl × Bool} {x : Nat × Ev} (h7 : x.2.kind = 7) (hk : x.2.k.tmod 2 ≠ 0) (ho : s.2 = false) : callS t s x = s := by
  unfold callS
  rw [if_neg (by omega), if_neg hk, if_neg (by rw [ho]; decide)]
theorem calls_grow (l : List Ev) (e : Ev) (u : Nat) : callsF (u : Int) (ofI (l ++ [e]) (u : Int) (l ++ [e]).length) = if e.who = (u : Int) then callS (u : Int) (callsF (u : Int) (ofI l (u : Int) l.length)) (l.length, e) else callsF (u : Int) (ofI l (u : Int) l.length) := by
  rw [ofI_grow]
  by_cases h : e.who = (u : Int)
  · rw [if_pos h, if_pos h, callsF_snoc]
  · rw [if_neg h, if_neg h, List.append_nil]
theorem Tf.keep {l : List Ev} {k : Nat} {dn : List (Int × Int)} {wt : List (Nat × Int)} {t : Nat} {s : List Cl × Bool} (h : Tf 16 l k dn wt t s) (hwt : ∀ b ∈ wt, 0 ≤ b.2) (e : Ev) (h7 : e.kind ≠ 7) (h4 : ¬ (e.kind = 4 ∧ e.addr = 16) ∨ k = 0) : Tf 16 (l ++ [e]) k dn wt t (callS (t : Int) s (l.length, e)) := by
  rcases callS_else (t := (t : Int)) (s := s) (x := (l.length, e)) h7 with c | ⟨ho, r, c, hs, hc⟩
  · rw [c]; exact h.other e (fun _ hx => hx) (fun _ hx => hx)
  rw [hc]
  obtain ⟨hb, h⟩ := h
  have hbc : inB l.length c := hb c (by rw [hs]; simp)
  have hbr : ∀ d ∈ r, inB l.length d := fun d hd => hb d (by rw [hs]; exact List.mem_append_left _ hd)
  have uniq : ∀ {r' : List Cl} {c' : Cl}, s.1 = r' ++ [c'] → r' = r ∧ c' = c := fun {r' c'} e2 => by
    have := e2.symm.trans hs
    have h1 := List.append_inj' this rfl
    exact ⟨h1.1, by simpa using h1.2⟩
  refine ⟨fun d hd => ?_, ?_⟩
  · rw [List.length_append]
    rcases List.mem_append.1 hd with hd | hd
    · exact (hbr d hd).snoc
    · rw [List.mem_singleton.1 hd]; exact hbc.add
  rcases h with ⟨h0, h1, h2⟩ | ⟨h0, h1, r', c', h2, h3, h4', h5, h6⟩ | ⟨h0, h1, r', c', h2, h3, h4', h5, h6⟩
  · obtain ⟨r', c', e2, e3⟩ := h2 ho
    obtain ⟨rfl, rfl⟩ := uniq e2
    refine .inl ⟨h0, fun d hd => ?_, fun _ => ⟨r', _, rfl, e3⟩⟩
    rcases List.mem_append.1 hd with hd | hd
    · exact (h1 d (by rw [hs]; exact List.mem_append_left _ hd)).snoc (hbr d hd) e (fun _ hx => hx)
    · rw [List.mem_singleton.1 hd]; exact fun e4 => absurd e4 e3
  · obtain ⟨rfl, rfl⟩ := uniq h2
    refine .inr (.inl ⟨h0, h1, r', _, rfl, fun d hd => (h3 d hd).snoc (hbr d hd) e (fun _ hx => hx), h4', h5, ?_⟩)
    rw [doorP_add 16 l e hbc, if_pos h6]
    rcases h4 with h4 | h4
    · rw [if_neg h4]
    · omega
  · obtain ⟨rfl, rfl⟩ := uniq h2
    refine .inr (.inr ⟨h0, h1, r', _, rfl, fun d hd => (h3 d hd).snoc (hbr d hd) e (fun _ hx => hx), h4', h5, ?_⟩)
    rw [doorP_add 16 l e hbc, if_neg (by have := hwt _ h6; dsimp only at this; omega)]
    exact h6
end Go.Proofs.YtckmkaeopnnbbaaGreatDoor.As
