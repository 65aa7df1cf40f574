/- Plain Lean: what is put in by the row of who waits: calls come in the order of their doors. No program in sight. -/
import Derived.Test.YtckmkaeopnnbbaaGreatDoorTcC
import Derived.Test.YtckmkaeopnnbbaaGreatDoorTfA
set_option linter.unusedVariables false
set_option linter.unusedSimpArgs false
namespace Go.Proofs.YtckmkaeopnnbbaaGreatDoor.As

def isSw (a : Int) (evs : List Ev) (x : Int) : Bool := match evs[x.toNat]? with | some e => decide (e.kind = 4 ∧ e.addr = a) | none => false
def doorP (a : Int) (evs : List Ev) (c : Cl) : Int := match c.inner.find? (isSw a evs) with | some x => x | none => -1
def badP (a : Int) (evs : List Ev) (c d : Cl) : Bool := !(decide (c.site ≠ 0) || decide (d.site ≠ 0) || decide (d.ended < 0) || decide (doorP a evs c < 0)) && (decide (doorP a evs c < doorP a evs d) && (decide (c.ended < 0) || decide (c.ended > d.ended)))
def turnsP (a : Int) (evs : List Ev) (cs : List Cl) : Bool := cs.all fun c => cs.all fun d => !badP a evs c d
theorem isSw_snoc (a : Int) (evs : List Ev) (e : Ev) {x : Int} (h0 : 0 ≤ x) (h1 : x < evs.length) : isSw a (evs ++ [e]) x = isSw a evs x := by
  unfold isSw
  rw [List.getElem?_append_left (by omega)]
theorem isSw_new (a : Int) (evs : List Ev) (e : Ev) : isSw a (evs ++ [e]) (evs.length : Int) = decide (e.kind = 4 ∧ e.addr = a) := by
  unfold isSw
  rw [Int.toNat_natCast, List.getElem?_append_right (Nat.le_refl _), Nat.sub_self]; rfl
theorem find_congr {α : Type} {p q : α → Bool} : ∀ {l : List α}, (∀ x ∈ l, p x = q x) → l.find? p = l.find? q
  | [], _ => rfl
  | a :: l, h => by
    have h1 := h a (List.mem_cons_self ..)
    have h2 := find_congr (l := l) (fun x hx => h x (List.mem_cons_of_mem _ hx))
    rw [List.find?_cons, List.find?_cons, h1, h2]
def inB (n : Nat) (c : Cl) : Prop := ∀ x ∈ c.inner, 0 ≤ x ∧ x < (n : Int)
theorem doorP_snoc (a : Int) (evs : List Ev) (e : Ev) {c : Cl} (h : inB evs.length c) : doorP a (evs ++ [e]) c = doorP a evs c := by
  unfold doorP
  rw [find_congr (q := isSw a evs) (fun x hx => isSw_snoc a evs e (h x hx).1 (h x hx).2)]
theorem doorP_add (a : Int) (evs : List Ev) (e : Ev) {c : Cl} (h : inB evs.length c) : doorP a (evs ++ [e]) { c with inner := c.inner ++ [(evs.length : Int)] } = if doorP a evs c = -1 then (if e.kind = 4 ∧ e.addr = a then (evs.length : Int) else -1) else doorP a evs c := by
  have hk : ∀ x, c.inner.find? (isSw a evs) = some x → 0 ≤ x := fun x hx => (h x (List.mem_of_find?_eq_some hx)).1
  unfold doorP
  show (match (c.inner ++ [(evs.length : Int)]).find? (isSw a (evs ++ [e])) with | some x => x | none => -1) = _
  rw [List.find?_append, find_congr (q := isSw a evs) (fun x hx => isSw_snoc a evs e (h x hx).1 (h x hx).2)]
  cases hf : c.inner.find? (isSw a evs) with
  | some x =>
    have := hk x hf
    show x = if x = -1 then _ else x
    rw [if_neg (by omega)]
  | none =>
    show (match ([(evs.length : Int)]).find? (isSw a (evs ++ [e])) with | some x => x | none => -1) = if (-1 : Int) = -1 then _ else -1
    rw [if_pos rfl, List.find?_cons, isSw_new]
    by_cases he : e.kind = 4 ∧ e.addr = a
    · rw [if_pos he, decide_eq_true he]
    · rw [if_neg he, decide_eq_false he]; rfl
theorem fm_congr {α β : Type} {p q : α → Option β} : ∀ {l : List α}, (∀ x ∈ l, p x = q x) → l.filterMap p = l.filterMap q
  | [], _ => rfl
  | a :: l, h => by
    rw [List.filterMap_cons, List.filterMap_cons, h a (List.mem_cons_self ..), fm_congr (l := l) (fun x hx => h x (List.mem_cons_of_mem _ hx))]
theorem ofI_grow (evs : List Ev) (e : Ev) (t : Int) : ofI (evs ++ [e]) t (evs ++ [e]).length = ofI evs t evs.length ++ (if e.who = t then [(evs.length, e)] else []) := by
  rw [List.length_append, List.length_singleton, ofI_succ (evs ++ [e]) t evs.length e (by rw [List.getElem?_append_right (Nat.le_refl _), Nat.sub_self]; rfl)]
  congr 1
  unfold ofI
  refine fm_congr (fun j hj => ?_)
  rw [List.getElem?_append_left (List.mem_range.1 hj)]
def Gd (a : Int) (evs : List Ev) (dn : List (Int × Int)) (c : Cl) : Prop := c.site = 0 → (doorP a evs c, c.ended) ∈ dn
def Tf (a : Int) (evs : List Ev) (k : Nat) (dn : List (Int × Int)) (wt : List (Nat × Int)) (t : Nat) (s : List Cl × Bool) : Prop :=
  (∀ c ∈ s.1, inB evs.length c) ∧
  ((k = 0 ∧ (∀ c ∈ s.1, Gd a evs dn c) ∧ (s.2 = true → ∃ l c, s.1 = l ++ [c] ∧ c.site ≠ 0)) ∨
   (k = 1 ∧ s.2 = true ∧ ∃ l c, s.1 = l ++ [c] ∧ (∀ c ∈ l, Gd a evs dn c) ∧ c.site = 0 ∧ c.ended = -1 ∧ doorP a evs c = -1) ∨
   (k = 2 ∧ s.2 = true ∧ ∃ l c, s.1 = l ++ [c] ∧ (∀ c ∈ l, Gd a evs dn c) ∧ c.site = 0 ∧ c.ended = -1 ∧ (t, doorP a evs c) ∈ wt))
structure Fo (evs : List Ev) (W : List Nat) (st : Nat → Nat) (dn : List (Int × Int)) (wt : List (Nat × Int)) : Prop where
  wW : wt.map (·.1) = W
  nd : W.Nodup
  mem : ∀ t, t ∈ W ↔ st t = 2
  dp : dn.Pairwise fun a b => a.1 < b.1 ∧ a.2 < b.2
  wp : wt.Pairwise fun a b => a.2 < b.2
  dw : ∀ a ∈ dn, ∀ b ∈ wt, a.1 < b.2
  db : ∀ a ∈ dn, 0 ≤ a.2 ∧ a.2 < (evs.length : Int) ∧ a.1 < (evs.length : Int)
  wb : ∀ b ∈ wt, 0 ≤ b.2 ∧ b.2 < (evs.length : Int)
  th : ∀ t : Nat, Tf 16 evs (st t) dn wt t (callsF (t : Int) (ofI evs (t : Int) evs.length))
theorem Gd.snoc {a : Int} {evs : List Ev} {dn dn' : List (Int × Int)} {c : Cl} (h : Gd a evs dn c) (hb : inB evs.length c) (e : Ev) (hd : ∀ x ∈ dn, x ∈ dn') : Gd a (evs ++ [e]) dn' c := fun h0 => by
  rw [doorP_snoc a evs e hb]; exact hd _ (h h0)
theorem inB.snoc {n : Nat} {c : Cl} (h : inB n c) : inB (n + 1) c := fun x hx => ⟨(h x hx).1, by have := (h x hx).2; omega⟩
theorem inB.add {n : Nat} {c : Cl} (h : inB n c) : inB (n + 1) { c with inner := c.inner ++ [(n : Int)] } := fun x hx => by
  rcases List.mem_append.1 hx with hx | hx
  · exact h.snoc x hx
  · rw [List.mem_singleton.1 hx]; omega
theorem Tf.other {a : Int} {evs : List Ev} {k : Nat} {dn dn' : List (Int × Int)} {wt wt' : List (Nat × Int)} {t : Nat} {s : List Cl × Bool} (h : Tf a evs k dn wt t s) (e : Ev) (hd : ∀ x ∈ dn, x ∈ dn') (hw : ∀ d, (t, d) ∈ wt → (t, d) ∈ wt') : Tf a (evs ++ [e]) k dn' wt' t s := by
  obtain ⟨hb, h⟩ := h
  refine ⟨fun c hc => by rw [List.length_append]; exact (hb c hc).snoc, ?_⟩
  rcases h with ⟨h0, h1, h2⟩ | ⟨h0, h1, l, c, h2, h3, h4, h5, h6⟩ | ⟨h0, h1, l, c, h2, h3, h4, h5, h6⟩
  · exact .inl ⟨h0, fun c hc => (h1 c hc).snoc (hb c hc) e hd, h2⟩
  · exact .inr (.inl ⟨h0, h1, l, c, h2, fun d hd' => (h3 d hd').snoc (hb d (by rw [h2]; exact List.mem_append_left _ hd')) e hd, h4, h5, by rw [doorP_snoc a evs e (hb c (by rw [h2]; simp))]; exact h6⟩)
  · exact .inr (.inr ⟨h0, h1, l, c, h2, fun d hd' => (h3 d hd').snoc (hb d (by rw [h2]; exact List.mem_append_left _ hd')) e hd, h4, h5, by rw [doorP_snoc a evs e (hb c (by rw [h2]; simp))]; exact hw _ h6⟩)
theorem callS_else {t : Int} {s : List Cl × Bool} {x : Nat × Ev} (h7 : x.2.kind ≠ 7) : callS t s x = s ∨ (s.2 = true ∧ ∃ l c, s.1 = l ++ [c] ∧ callS t s x = (l ++ [{ c with inner := c.inner ++ [(x.1 : Int)] }], s.2)) := by
  unfold callS
  rw [if_pos h7]
  split
  · rename_i h
    cases hl : s.1.getLast? with
    | none => exact .inl rfl
    | some c =>
      have hne : s.1 ≠ [] := by intro e; rw [e] at hl; cases hl
      obtain ⟨l, d, hs⟩ := last_form hne
      have : d = c := by rw [hs] at hl; simpa using hl
      subst this
      exact .inr ⟨h.1, l, d, hs, by dsimp only; rw [hs, List.dropLast_concat]⟩
  · exact .inl rfl
theorem callS_swap {t : Int} {s : List Cl × Bool} {x : Nat × Ev} (h4 : x.2.kind = 4) (ho : s.2 = true) {l : List Cl} {c : Cl} (hs : s.1 = l ++ [c]) : callS t s x = (l ++ [{ c with inner := c.inner ++ [(x.1 : Int)] }], s.2) := by
  unfold callS
  rw [if_pos (by omega), if_pos ⟨ho, by omega⟩, hs, List.getLast?_concat, List.dropLast_concat]
theorem callS_begin {t : Int} {s : List Cl × Bool} {x : Nat × Ev} (h7 : x.2.kind = 7) (hk : x.2.k.tmod 2 = 0) : callS t s x = (s.1 ++ [⟨x.2.k.tdiv 2 % 4294967296, t, x.1, -1, 0, []⟩], true) := by
  unfold callS
  rw [if_neg (by omega), if_pos hk]
theorem callS_end {t : Int} {s : List Cl × Bool} {x : Nat × Ev} (h7 : x.2.kind = 7) (hk : x.2.k.tmod 2 ≠ 0) (ho : s.2 = true) {l : List Cl} {c : Cl} (hs : s.1 = l ++ [c]) : callS t s x = if c.site = x.2.k.tdiv 2 % 4294967296 then (l ++ [{ c with ended := (x.1 : Int), res := x.2.val }], false) else s := by
  unfold callS
  rw [if_neg (by omega), if_neg hk, if_pos ho, hs, List.getLast?_concat, List.dropLast_concat]
theorem callS_shut {t : Int} {s : List Cl × Bool} {x : Nat × Ev} (h7 : x.2.kind = 7) (hk : x.2.k.tmod 2 ≠ 0) (ho : s.2 = false) : callS t s x = s := by
  unfold callS
  rw [if_neg (by omega), if_neg hk, if_neg (by rw [ho]; decide)]
theorem calls_grow (l : List Ev) (e : Ev) (u : Nat) : callsF (u : Int) (ofI (l ++ [e]) (u : Int) (l ++ [e]).length) = if e.who = (u : Int) then callS (u : Int) (callsF (u : Int) (ofI l (u : Int) l.length)) (l.length, e) else callsF (u : Int) (ofI l (u : Int) l.length) := by
  rw [ofI_grow]
  by_cases h : e.who = (u : Int)
  · rw [if_pos h, if_pos h, callsF_snoc]
  · rw [if_neg h, if_neg h, List.append_nil]
theorem Fo.th_next {l : List Ev} {W : List Nat} {st : Nat → Nat} {dn dn' : List (Int × Int)} {wt wt' : List (Nat × Int)} (h : Fo l W st dn wt) (e : Ev) (t : Nat) (hw : e.who = (t : Int)) (k : Nat) (hd : ∀ x ∈ dn, x ∈ dn') (hwt : ∀ u, u ≠ t → ∀ d, (u, d) ∈ wt → (u, d) ∈ wt') (ht : Tf 16 l (st t) dn wt t (callsF (t : Int) (ofI l (t : Int) l.length)) → Tf 16 (l ++ [e]) k dn' wt' t (callS (t : Int) (callsF (t : Int) (ofI l (t : Int) l.length)) (l.length, e))) (u : Nat) : Tf 16 (l ++ [e]) (upF st t k u) dn' wt' u (callsF (u : Int) (ofI (l ++ [e]) (u : Int) (l ++ [e]).length)) := by
  rw [calls_grow]
  by_cases c : u = t
  · subst c
    rw [if_pos hw, upF_self]
    exact ht (h.th u)
  · rw [if_neg (by omega), upF_ne _ _ c]
    exact (h.th u).other e hd (hwt u c)
theorem Fo.bounds {l : List Ev} {W : List Nat} {st : Nat → Nat} {dn : List (Int × Int)} {wt : List (Nat × Int)} (h : Fo l W st dn wt) (e : Ev) : (∀ a ∈ dn, 0 ≤ a.2 ∧ a.2 < ((l ++ [e]).length : Int) ∧ a.1 < ((l ++ [e]).length : Int)) ∧ (∀ b ∈ wt, 0 ≤ b.2 ∧ b.2 < ((l ++ [e]).length : Int)) := by
  have hl : ((l ++ [e]).length : Int) = l.length + 1 := by simp
  rw [hl]
  exact ⟨fun a ha => ⟨(h.db a ha).1, by have := (h.db a ha).2.1; omega, by have := (h.db a ha).2.2; omega⟩, fun b hb => ⟨(h.wb b hb).1, by have := (h.wb b hb).2; omega⟩⟩
theorem Tf.keep {l : List Ev} {k : Nat} {dn : List (Int × Int)} {wt : List (Nat × Int)} {t : Nat} {s : List Cl × Bool} (h : Tf 16 l k dn wt t s) (hwt : ∀ b ∈ wt, 0 ≤ b.2) (e : Ev) (h7 : e.kind ≠ 7) (h4 : ¬ (e.kind = 4 ∧ e.addr = 16) ∨ k = 0) : Tf 16 (l ++ [e]) k dn wt t (callS (t : Int) s (l.length, e)) := by
  rcases callS_else (t := (t : Int)) (s := s) (x := (l.length, e)) h7 with c | ⟨ho, r, c, hs, hc⟩
  · rw [c]; exact h.other e (fun _ hx => hx) (fun _ hx => hx)
  rw [hc]
  obtain ⟨hb, h⟩ := h
  have hbc : inB l.length c := hb c (by rw [hs]; simp)
  have hbr : ∀ d ∈ r, inB l.length d := fun d hd => hb d (by rw [hs]; exact List.mem_append_left _ hd)
  have uniq : ∀ {r' : List Cl} {c' : Cl}, s.1 = r' ++ [c'] → r' = r ∧ c' = c := fun {r' c'} e2 => by
    have := e2.symm.trans hs
    have h1 := List.append_inj' this rfl
    exact ⟨h1.1, by simpa using h1.2⟩
  refine ⟨fun d hd => ?_, ?_⟩
  · rw [List.length_append]
    rcases List.mem_append.1 hd with hd | hd
    · exact (hbr d hd).snoc
    · rw [List.mem_singleton.1 hd]; exact hbc.add
  rcases h with ⟨h0, h1, h2⟩ | ⟨h0, h1, r', c', h2, h3, h4', h5, h6⟩ | ⟨h0, h1, r', c', h2, h3, h4', h5, h6⟩
  · obtain ⟨r', c', e2, e3⟩ := h2 ho
    obtain ⟨rfl, rfl⟩ := uniq e2
    refine .inl ⟨h0, fun d hd => ?_, fun _ => ⟨r', _, rfl, e3⟩⟩
    rcases List.mem_append.1 hd with hd | hd
    · exact (h1 d (by rw [hs]; exact List.mem_append_left _ hd)).snoc (hbr d hd) e (fun _ hx => hx)
    · rw [List.mem_singleton.1 hd]; exact fun e4 => absurd e4 e3
  · obtain ⟨rfl, rfl⟩ := uniq h2
    refine .inr (.inl ⟨h0, h1, r', _, rfl, fun d hd => (h3 d hd).snoc (hbr d hd) e (fun _ hx => hx), h4', h5, ?_⟩)
    rw [doorP_add 16 l e hbc, if_pos h6]
    rcases h4 with h4 | h4
    · rw [if_neg h4]
    · omega
  · obtain ⟨rfl, rfl⟩ := uniq h2
    refine .inr (.inr ⟨h0, h1, r', _, rfl, fun d hd => (h3 d hd).snoc (hbr d hd) e (fun _ hx => hx), h4', h5, ?_⟩)
    rw [doorP_add 16 l e hbc, if_neg (by have := hwt _ h6; dsimp only at this; omega)]
    exact h6
theorem fo_of (evs : List Ev) : ∀ W st, ffF evs = some (W, st) → ∃ dn wt, Fo evs W st dn wt := by
  refine snoc_ind (P := fun evs => ∀ W st, ffF evs = some (W, st) → ∃ dn wt, Fo evs W st dn wt) (fun W st h => ?_) (fun l e ih W' st' h => ?_) evs
  · have h : some (([] : List Nat), fun _ : Nat => 0) = some (W, st) := h
    injection h with h; injection h with h1 h2; subst h1; subst h2
    exact ⟨[], [], rfl, List.nodup_nil, fun t => ⟨fun h => by (cases h), fun h => by (cases h)⟩, List.Pairwise.nil, List.Pairwise.nil, fun _ h => by (cases h), fun _ h => by (cases h), fun _ h => by (cases h), fun t => ⟨fun c hc => by (cases hc), .inl ⟨rfl, fun c hc => by (cases hc), fun h => by (cases h)⟩⟩⟩
  rw [ffF_snoc] at h
  cases hf : ffF l with
  | none => rw [hf] at h; cases h
  | some p =>
    obtain ⟨W, st⟩ := p
    rw [hf] at h
    obtain ⟨dn, wt, H⟩ := ih W st hf
    obtain ⟨hdb, hwb⟩ := H.bounds e
    have hw0 : ∀ b ∈ wt, 0 ≤ b.2 := fun b hb => (H.wb b hb).1
    simp only [ffS] at h
    by_cases hneg : e.who < 0 ∨ e.k < 0 ∨ 4294967295 < e.k
    · rw [if_pos hneg] at h; cases h
    rw [if_neg hneg] at h
    obtain ⟨t, hw⟩ : ∃ t : Nat, e.who = (t : Int) := ⟨e.who.toNat, by omega⟩
    rw [hw, Int.toNat_natCast] at h
    have keepst : upF st t (st t) = st := upF_id _ _
    have same : ∀ k, k = st t → (∀ s, Tf 16 l (st t) dn wt t s → Tf 16 (l ++ [e]) k dn wt t (callS (t : Int) s (l.length, e))) → Fo (l ++ [e]) W st dn wt := fun k hk hs => by
      subst hk
      refine ⟨H.wW, H.nd, H.mem, H.dp, H.wp, H.dw, hdb, hwb, fun u => ?_⟩
      have := H.th_next e t hw (st t) (fun _ hx => hx) (fun _ _ _ hx => hx) (hs _) u
      rwa [keepst] at this
    by_cases h7 : e.kind = 7
    · rw [if_pos h7] at h
      by_cases k0 : e.k = 0
      · rw [if_pos k0] at h
        by_cases s0 : st t = 0
        · rw [if_pos s0] at h
          injection h with h; injection h with h1 h2; subst h1; subst h2
          refine ⟨dn, wt, H.wW, H.nd, fun u => ?_, H.dp, H.wp, H.dw, hdb, hwb, H.th_next e t hw 1 (fun _ hx => hx) (fun _ _ _ hx => hx) (fun hs => ?_)⟩
          · by_cases c : u = t
            · subst c; rw [upF_self]
              exact ⟨fun hm => by have := (H.mem u).1 hm; omega, fun h => by omega⟩
            · rw [upF_ne _ _ c]; exact H.mem u
          · rw [callS_begin (x := (l.length, e)) h7 (by show e.k.tmod 2 = 0; rw [k0]; rfl)]
            obtain ⟨hb, hs⟩ := hs.other e (dn' := dn) (wt' := wt) (fun _ hx => hx) (fun _ hx => hx)
            rw [s0] at hs
            rcases hs with ⟨_, h1, _⟩ | ⟨h0, _⟩ | ⟨h0, _⟩
            · refine ⟨fun c hc => ?_, .inr (.inl ⟨rfl, rfl, _, _, rfl, h1, by dsimp only; rw [k0]; rfl, rfl, rfl⟩)⟩
              rcases List.mem_append.1 hc with hc | hc
              · exact hb c hc
              · rw [List.mem_singleton.1 hc]; exact fun x hx => by cases hx
            · omega
            · omega
        · rw [if_neg s0] at h; cases h
      rw [if_neg k0] at h
      by_cases k1 : e.k = 1
      · rw [if_pos k1] at h
        by_cases s2 : st t = 2 ∧ W.head? = some t
        · rw [if_pos s2] at h
          injection h with h; injection h with h1 h2; subst h1; subst h2
          obtain ⟨s2, hhd⟩ := s2
          obtain ⟨⟨t', d0⟩, wr, rfl⟩ : ∃ b wr, wt = b :: wr := by
            cases wt with
            | nil => have := H.wW; rw [← this] at hhd; cases hhd
            | cons b wr => exact ⟨b, wr, rfl⟩
          have hW : W = t' :: wr.map (·.1) := H.wW.symm
          obtain rfl : t' = t := by rw [hW] at hhd; simpa using hhd
          have hnd := H.nd
          rw [hW] at hnd
          have hnd := List.nodup_cons.1 hnd
          have hwp := List.pairwise_cons.1 H.wp
          have hl : ((l ++ [e]).length : Int) = l.length + 1 := by simp
          refine ⟨dn ++ [(d0, (l.length : Int))], wr, by rw [hW]; rfl, by rw [hW]; exact hnd.2, fun u => ?_, ?_, hwp.2, ?_, ?_, fun b hb => hwb b (List.mem_cons_of_mem _ hb), H.th_next e t' hw 0 (fun _ hx => List.mem_append_left _ hx) (fun u hu d hd => ?_) (fun hs => ?_)⟩
          · rw [hW]
            show u ∈ wr.map (·.1) ↔ _
            by_cases c : u = t'
            · subst c; rw [upF_self]
              exact ⟨fun hm => absurd hm hnd.1, fun h => by omega⟩
            · rw [upF_ne _ _ c, ← H.mem u, hW, List.mem_cons]
              exact ⟨fun h => .inr h, fun h => h.resolve_left c⟩
          · refine List.pairwise_append.2 ⟨H.dp, List.pairwise_singleton _ _, fun a ha b hb => ?_⟩
            rw [List.mem_singleton.1 hb]
            exact ⟨H.dw a ha (t', d0) (List.mem_cons_self ..), (H.db a ha).2.1⟩
          · intro a ha b hb
            rcases List.mem_append.1 ha with ha | ha
            · exact H.dw a ha b (List.mem_cons_of_mem _ hb)
            · rw [List.mem_singleton.1 ha]; exact hwp.1 b hb
          · intro a ha
            rcases List.mem_append.1 ha with ha | ha
            · exact hdb a ha
            · rw [List.mem_singleton.1 ha, hl]
              have := (H.wb (t', d0) (List.mem_cons_self ..)).2
              dsimp only at this ⊢
              omega
          · rcases List.mem_cons.1 hd with hd | hd
            · injection hd with hd _; exact absurd hd hu
            · exact hd
          · rw [s2] at hs
            have hs' := hs.other e (dn' := dn ++ [(d0, (l.length : Int))]) (wt' := (t', d0) :: wr) (fun _ hx => List.mem_append_left _ hx) (fun _ hx => hx)
            obtain ⟨hb, hs'⟩ := hs'
            rcases hs' with ⟨h0, _⟩ | ⟨h0, _⟩ | ⟨_, ho, r, c, hr, hgd, hsite, hend, hdoor⟩
            · omega
            · omega
            · rw [callS_end (x := (l.length, e)) h7 (by show e.k.tmod 2 ≠ 0; rw [k1]; decide) ho hr, if_pos (by show c.site = e.k.tdiv 2 % 4294967296; rw [hsite, k1]; rfl)]
              have hd0 : doorP 16 (l ++ [e]) c = d0 := by
                rcases List.mem_cons.1 hdoor with hd | hd
                · injection hd
                · exact absurd (List.mem_map_of_mem (f := (·.1)) hd) hnd.1
              refine ⟨fun d hd => ?_, .inl ⟨rfl, fun d hd => ?_, fun h => by cases h⟩⟩
              · rcases List.mem_append.1 hd with hd | hd
                · exact hb d (by rw [hr]; exact List.mem_append_left _ hd)
                · rw [List.mem_singleton.1 hd]; exact hb c (by rw [hr]; simp)
              · rcases List.mem_append.1 hd with hd | hd
                · exact hgd d hd
                · rw [List.mem_singleton.1 hd]
                  intro _
                  show (doorP 16 (l ++ [e]) c, (l.length : Int)) ∈ _
                  rw [hd0]; simp
        · rw [if_neg s2] at h; cases h
      rw [if_neg k1] at h
      by_cases k23 : e.k = 2 ∨ e.k = 3
      · rw [if_pos k23] at h
        by_cases s0 : st t = 0
        · rw [if_pos s0] at h
          injection h with h; injection h with h1 h2; subst h1; subst h2
          refine ⟨dn, wt, same 0 s0.symm (fun s hs => ?_)⟩
          rw [s0] at hs
          obtain ⟨hb, hs⟩ := hs.other e (dn' := dn) (wt' := wt) (fun _ hx => hx) (fun _ hx => hx)
          rcases hs with ⟨_, h1, h2⟩ | ⟨h0, _⟩ | ⟨h0, _⟩
          · rcases k23 with k2 | k3
            · rw [callS_begin (x := (l.length, e)) h7 (by show e.k.tmod 2 = 0; rw [k2]; rfl)]
              have hsite : e.k.tdiv 2 % 4294967296 = 1 := by rw [k2]; rfl
              refine ⟨fun c hc => ?_, .inl ⟨rfl, fun c hc => ?_, fun _ => ⟨_, _, rfl, by show e.k.tdiv 2 % 4294967296 ≠ 0; rw [hsite]; decide⟩⟩⟩
              · rcases List.mem_append.1 hc with hc | hc
                · exact hb c hc
                · rw [List.mem_singleton.1 hc]; exact fun x hx => by cases hx
              · rcases List.mem_append.1 hc with hc | hc
                · exact h1 c hc
                · rw [List.mem_singleton.1 hc]
                  intro h0
                  have h0 : e.k.tdiv 2 % 4294967296 = 0 := h0
                  rw [hsite] at h0; cases h0
            · cases ho : s.2 with
              | false =>
                rw [callS_shut (x := (l.length, e)) h7 (by show e.k.tmod 2 ≠ 0; rw [k3]; decide) ho]
                exact ⟨hb, .inl ⟨rfl, h1, fun h => by rw [ho] at h; cases h⟩⟩
              | true =>
                obtain ⟨r, c, hr, hne⟩ := h2 ho
                rw [callS_end (x := (l.length, e)) h7 (by show e.k.tmod 2 ≠ 0; rw [k3]; decide) ho hr]
                split
                · refine ⟨fun d hd => ?_, .inl ⟨rfl, fun d hd => ?_, fun h => by cases h⟩⟩
                  · rcases List.mem_append.1 hd with hd | hd
                    · exact hb d (by rw [hr]; exact List.mem_append_left _ hd)
                    · rw [List.mem_singleton.1 hd]; exact hb c (by rw [hr]; simp)
                  · rcases List.mem_append.1 hd with hd | hd
                    · exact h1 d (by rw [hr]; exact List.mem_append_left _ hd)
                    · rw [List.mem_singleton.1 hd]; exact fun h0 => absurd h0 hne
                · exact ⟨hb, .inl ⟨rfl, h1, h2⟩⟩
          · omega
          · omega
        · rw [if_neg s0] at h; cases h
      · rw [if_neg k23] at h; cases h
    rw [if_neg h7] at h
    by_cases h4 : e.kind = 4 ∧ e.addr = 16
    · rw [if_pos h4] at h
      by_cases s1 : st t = 1
      · rw [if_pos s1] at h
        injection h with h; injection h with h1 h2; subst h1; subst h2
        have hnt : t ∉ W := fun hm => by have := (H.mem t).1 hm; omega
        have hl : ((l ++ [e]).length : Int) = l.length + 1 := by simp
        refine ⟨dn, wt ++ [(t, (l.length : Int))], by rw [List.map_append, H.wW]; rfl, ?_, fun u => ?_, H.dp, ?_, ?_, hdb, ?_, H.th_next e t hw 2 (fun _ hx => hx) (fun _ _ _ hx => List.mem_append_left _ hx) (fun hs => ?_)⟩
        · refine List.nodup_append.2 ⟨H.nd, List.pairwise_singleton _ _, fun a ha b hb => ?_⟩
          rw [List.mem_singleton.1 hb]
          intro e2; subst e2; exact hnt ha
        · by_cases c : u = t
          · subst c; rw [upF_self]; simp
          · rw [upF_ne _ _ c, ← H.mem u]; simp [c]
        · refine List.pairwise_append.2 ⟨H.wp, List.pairwise_singleton _ _, fun a ha b hb => ?_⟩
          rw [List.mem_singleton.1 hb]
          exact (H.wb a ha).2
        · intro a ha b hb
          rcases List.mem_append.1 hb with hb | hb
          · exact H.dw a ha b hb
          · rw [List.mem_singleton.1 hb]
            exact (H.db a ha).2.2
        · intro b hb
          rcases List.mem_append.1 hb with hb | hb
          · exact hwb b hb
          · rw [List.mem_singleton.1 hb, hl]; dsimp only; omega
        · rw [s1] at hs
          obtain ⟨hb, hs⟩ := hs
          rcases hs with ⟨h0, _⟩ | ⟨_, ho, r, c, hr, hgd, hsite, hend, hdoor⟩ | ⟨h0, _⟩
          · omega
          · rw [callS_swap (x := (l.length, e)) h4.1 ho hr]
            have hbc : inB l.length c := hb c (by rw [hr]; simp)
            have hbr : ∀ d ∈ r, inB l.length d := fun d hd => hb d (by rw [hr]; exact List.mem_append_left _ hd)
            refine ⟨fun d hd => ?_, .inr (.inr ⟨rfl, ho, r, _, rfl, fun d hd => (hgd d hd).snoc (hbr d hd) e (fun _ hx => hx), hsite, hend, ?_⟩)⟩
            · rw [List.length_append]
              rcases List.mem_append.1 hd with hd | hd
              · exact (hbr d hd).snoc
              · rw [List.mem_singleton.1 hd]; exact hbc.add
            · rw [doorP_add 16 l e hbc, if_pos hdoor, if_pos h4]; simp
          · omega
      · rw [if_neg s1] at h
        by_cases s0 : st t = 0
        · rw [if_pos s0] at h
          injection h with h; injection h with h1 h2; subst h1; subst h2
          exact ⟨dn, wt, same 0 s0.symm (fun s hs => by rw [s0] at hs; exact hs.keep hw0 e h7 (.inr rfl))⟩
        · rw [if_neg s0] at h; cases h
    · rw [if_neg h4] at h
      injection h with h; injection h with h1 h2; subst h1; subst h2
      exact ⟨dn, wt, same (st t) rfl (fun s hs => hs.keep hw0 e h7 (.inl h4))⟩
theorem turns_of (evs : List Ev) (W : List Nat) (st : Nat → Nat) (h : ffF evs = some (W, st)) : turnsP 16 evs (callsAll evs) = true := by
  obtain ⟨dn, wt, H⟩ := fo_of evs W st h
  have key : ∀ c ∈ callsAll evs, ∃ t : Nat, ∃ l o, callsF (t : Int) (ofI evs (t : Int) evs.length) = (l, o) ∧ c ∈ l := fun c hc => by
    have hm := (callsAll_perm evs).mem_iff.1 hc
    obtain ⟨l, hl, hcl⟩ := List.mem_flatten.1 hm
    unfold perT at hl
    obtain ⟨t, _, rfl⟩ := List.mem_map.1 hl
    exact ⟨t, _, _, rfl, hcl⟩
  have cls : ∀ c ∈ callsAll evs, c.site = 0 → (doorP 16 evs c, c.ended) ∈ dn ∨ (c.ended = -1 ∧ (doorP 16 evs c = -1 ∨ ∃ t, (t, doorP 16 evs c) ∈ wt)) := fun c hc h0 => by
    obtain ⟨t, l, o, he, hm⟩ := key c hc
    have ht := H.th t
    rw [he] at ht
    obtain ⟨_, ht⟩ := ht
    rcases ht with ⟨_, h1, _⟩ | ⟨_, _, r, d, hr, hg, _, h5, h6⟩ | ⟨_, _, r, d, hr, hg, _, h5, h6⟩
    · exact .inl (h1 c hm h0)
    · have hr : l = r ++ [d] := hr
      rw [hr] at hm
      rcases List.mem_append.1 hm with hm | hm
      · exact .inl (hg c hm h0)
      · rw [List.mem_singleton.1 hm]; exact .inr ⟨h5, .inl h6⟩
    · have hr : l = r ++ [d] := hr
      rw [hr] at hm
      rcases List.mem_append.1 hm with hm | hm
      · exact .inl (hg c hm h0)
      · rw [List.mem_singleton.1 hm]; exact .inr ⟨h5, .inr ⟨t, h6⟩⟩
  refine List.all_eq_true.2 (fun c hc => List.all_eq_true.2 (fun d hd => ?_))
  rw [Bool.not_eq_true']
  cases hb : badP 16 evs c d with
  | false => rfl
  | true =>
    exfalso
    unfold badP at hb
    simp only [Bool.and_eq_true, Bool.or_eq_true, Bool.not_eq_true', Bool.or_eq_false_iff, decide_eq_true_eq, decide_eq_false_iff_not] at hb
    obtain ⟨⟨⟨⟨h1, h2⟩, h3⟩, h4⟩, h5, h6⟩ := hb
    have c0 := cls c hc (by omega)
    have d0 := cls d hd (by omega)
    rcases d0 with d0 | ⟨d0, _⟩
    · rcases c0 with c0 | ⟨_, c1 | ⟨t, c1⟩⟩
      · have hord : ∀ {l : List (Int × Int)} {a b : Int × Int}, (l.Pairwise fun a b => a.1 < b.1 ∧ a.2 < b.2) → a ∈ l → b ∈ l → a.1 < b.1 → a.2 < b.2 := fun {l a b} hp ha hb hab => by
          induction l with
          | nil => cases ha
          | cons x r ih =>
            have hp := List.pairwise_cons.1 hp
            rcases List.mem_cons.1 ha with ha1 | ha1
            · subst ha1
              rcases List.mem_cons.1 hb with hb1 | hb1
              · subst hb1; omega
              · exact (hp.1 b hb1).2
            · rcases List.mem_cons.1 hb with hb1 | hb1
              · subst hb1; have := (hp.1 a ha1).1; omega
              · exact ih hp.2 ha1 hb1
        have := hord H.dp c0 d0 h5
        have hc2 := (H.db _ c0).1
        dsimp only at this hc2
        omega
      · omega
      · have := H.dw _ d0 _ c1
        dsimp only at this
        omega
    · omega
end Go.Proofs.YtckmkaeopnnbbaaGreatDoor.As
