/- Plain Lean: what nobody's being passed twice says of the calls. No program in sight. -/
import Derived.Test.YtckmkaeopnnbbaaGreatDoorTfB
import Derived.Test.YtckmkaeopnnbbaaGreatDoorTgA
set_option linter.unusedVariables false
set_option linter.unusedSimpArgs false
namespace Go.Proofs.YtckmkaeopnnbbaaGreatDoor.As

def isFe (evs : List Ev) (x : Int) : Bool := match evs[x.toNat]? with | some e => decide (e.kind = 5) | none => false
def fenL (evs : List Ev) (l : List Int) : Int := l.foldl (fun a x => if isFe evs x = true then x else a) (-1)
def fenP (evs : List Ev) (c : Cl) : Int := fenL evs c.inner
def passP (c : Cl) (a : Int) (d : Cl) : Bool := decide (d.site = 0) && decide (d.who ≠ c.who) && decide (d.ended > a) && (decide (c.ended < 0) || decide (d.ended < c.ended))
def bypP (evs : List Ev) (cs : List Cl) : Prop := ∀ c ∈ cs, c.site = 0 → 0 ≤ fenP evs c → cs.countP (passP c (fenP evs c)) ≤ 1
theorem isFe_snoc (evs : List Ev) (e : Ev) {x : Int} (h0 : 0 ≤ x) (h1 : x < evs.length) : isFe (evs ++ [e]) x = isFe evs x := by
  unfold isFe
  rw [List.getElem?_append_left (by omega)]
theorem isFe_new (evs : List Ev) (e : Ev) : isFe (evs ++ [e]) (evs.length : Int) = decide (e.kind = 5) := by
  unfold isFe
  rw [Int.toNat_natCast, List.getElem?_append_right (Nat.le_refl _), Nat.sub_self]; rfl
theorem fen_congr {p q : Int → Bool} : ∀ (l : List Int) (a : Int), (∀ x ∈ l, p x = q x) → l.foldl (fun a x => if p x = true then x else a) a = l.foldl (fun a x => if q x = true then x else a) a
  | [], _, _ => rfl
  | x :: l, a, h => by
    rw [List.foldl_cons, List.foldl_cons, h x (List.mem_cons_self ..)]
    exact fen_congr l _ (fun y hy => h y (List.mem_cons_of_mem _ hy))
theorem fenP_snoc (evs : List Ev) (e : Ev) {c : Cl} (h : inB evs.length c) : fenP (evs ++ [e]) c = fenP evs c := fen_congr c.inner _ (fun x hx => isFe_snoc evs e (h x hx).1 (h x hx).2)
theorem fenP_add (evs : List Ev) (e : Ev) {c : Cl} (h : inB evs.length c) : fenP (evs ++ [e]) { c with inner := c.inner ++ [(evs.length : Int)] } = if e.kind = 5 then (evs.length : Int) else fenP evs c := by
  show fenL (evs ++ [e]) (c.inner ++ [(evs.length : Int)]) = _
  unfold fenL
  rw [List.foldl_append, fen_congr c.inner (-1) (fun x hx => isFe_snoc evs e (h x hx).1 (h x hx).2)]
  show (if isFe (evs ++ [e]) (evs.length : Int) = true then _ else _) = _
  rw [isFe_new]
  by_cases h5 : e.kind = 5
  · rw [if_pos h5, if_pos (by simpa using h5)]
  · rw [if_neg h5, if_neg (by simpa using h5)]; rfl
def Gb (evs : List Ev) (E : List (Nat × Int)) (o : Nat) (c : Cl) : Prop := c.site = 0 → 0 ≤ c.ended ∧ c.ended < evs.length ∧ (0 ≤ fenP evs c → E.countP (fun e => e.1 == o && (decide (fenP evs c < e.2) && decide (e.2 < c.ended))) ≤ 1)
def Tb (evs : List Ev) (k : Nat) (p : Bool) (E : List (Nat × Int)) (t : Nat) (s : List Cl × Bool) : Prop :=
  (∀ c ∈ s.1, inB evs.length c ∧ c.who = (t : Int)) ∧
  (∀ P : Int → Bool, P (-1) = false → s.1.countP (fun c => decide (c.site = 0) && P c.ended) = E.countP (fun e => e.1 == t && P e.2)) ∧
  ((k = 0 ∧ (∀ c ∈ s.1, Gb evs E (1 - t) c) ∧ (s.2 = true → ∃ l c, s.1 = l ++ [c] ∧ c.site ≠ 0)) ∨
   (k = 1 ∧ s.2 = true ∧ ∃ l c, s.1 = l ++ [c] ∧ (∀ c ∈ l, Gb evs E (1 - t) c) ∧ c.site = 0 ∧ c.ended = -1 ∧ fenP evs c = -1) ∨
   (k = 2 ∧ s.2 = true ∧ ∃ l c, s.1 = l ++ [c] ∧ (∀ c ∈ l, Gb evs E (1 - t) c) ∧ c.site = 0 ∧ c.ended = -1 ∧ 0 ≤ fenP evs c ∧ fenP evs c < evs.length ∧ E.countP (fun e => e.1 == 1 - t && decide (fenP evs c < e.2)) = if p = true then 1 else 0))
structure Bo (evs : List Ev) (st : Nat → Nat) (p : Nat → Bool) (E : List (Nat × Int)) : Prop where
  eb : ∀ e ∈ E, 0 ≤ e.2 ∧ e.2 < (evs.length : Int)
  th : ∀ t : Nat, t < 2 → Tb evs (st t) (p t) E t (callsF (t : Int) (ofI evs (t : Int) evs.length))
  oth : ∀ t : Nat, 2 ≤ t → callsF (t : Int) (ofI evs (t : Int) evs.length) = ([], false)
theorem Gb.snoc {evs : List Ev} {E : List (Nat × Int)} {o : Nat} {c : Cl} (h : Gb evs E o c) (hb : inB evs.length c) (e : Ev) : Gb (evs ++ [e]) E o c := fun h0 => by
  obtain ⟨h1, h2, h3⟩ := h h0
  rw [fenP_snoc evs e hb, List.length_append]
  exact ⟨h1, by have : (([e] : List Ev).length : Int) = 1 := rfl; omega, h3⟩
theorem Gb.grow {evs : List Ev} {E : List (Nat × Int)} {o u : Nat} {c : Cl} (h : Gb evs E o c) : Gb evs (E ++ [(u, (evs.length : Int))]) o c := fun h0 => by
  obtain ⟨h1, h2, h3⟩ := h h0
  refine ⟨h1, h2, fun h4 => ?_⟩
  rw [List.countP_append, List.countP_singleton, if_neg (by
    have : ¬ ((evs.length : Int) < c.ended) := by omega
    simp [this])]
  exact h3 h4
theorem callS_in {t : Int} {s : List Cl × Bool} {x : Nat × Ev} (h7 : x.2.kind ≠ 7) (h3 : x.2.kind ≠ 3) (ho : s.2 = true) {l : List Cl} {c : Cl} (hs : s.1 = l ++ [c]) : callS t s x = (l ++ [{ c with inner := c.inner ++ [(x.1 : Int)] }], s.2) := by
  unfold callS
  rw [if_pos h7, if_pos ⟨ho, h3⟩, hs, List.getLast?_concat, List.dropLast_concat]
theorem Tb.other {evs : List Ev} {k : Nat} {p : Bool} {E : List (Nat × Int)} {t : Nat} {s : List Cl × Bool} (h : Tb evs k p E t s) (e : Ev) : Tb (evs ++ [e]) k p E t s := by
  obtain ⟨hb, hc, h⟩ := h
  have hl : ((evs ++ [e]).length : Int) = evs.length + 1 := by simp
  have hbb : ∀ c ∈ s.1, inB evs.length c := fun c hc => (hb c hc).1
  refine ⟨fun c hc => ⟨by rw [List.length_append]; exact (hb c hc).1.snoc, (hb c hc).2⟩, hc, ?_⟩
  rcases h with ⟨h0, h1, h2⟩ | ⟨h0, h1, l, c, h2, h3, h4, h5, h6⟩ | ⟨h0, h1, l, c, h2, h3, h4, h5, h6, h7, h8⟩
  · exact .inl ⟨h0, fun c hc => (h1 c hc).snoc (hbb c hc) e, h2⟩
  · exact .inr (.inl ⟨h0, h1, l, c, h2, fun d hd => (h3 d hd).snoc (hbb d (by rw [h2]; exact List.mem_append_left _ hd)) e, h4, h5, by rw [fenP_snoc evs e (hbb c (by rw [h2]; simp))]; exact h6⟩)
  · refine .inr (.inr ⟨h0, h1, l, c, h2, fun d hd => (h3 d hd).snoc (hbb d (by rw [h2]; exact List.mem_append_left _ hd)) e, h4, h5, ?_⟩)
    rw [fenP_snoc evs e (hbb c (by rw [h2]; simp)), hl]
    exact ⟨h6, by omega, h8⟩
theorem Tb.passed {evs : List Ev} {k : Nat} {p : Bool} {E : List (Nat × Int)} {t o : Nat} {s : List Cl × Bool} (h : Tb evs k p E t s) (ho : o = 1 - t) (hne : o ≠ t) (hp : ¬ (k = 2 ∧ p = true)) : Tb evs k (if k = 2 then true else p) (E ++ [(o, (evs.length : Int))]) t s := by
  obtain ⟨hb, hc, h⟩ := h
  refine ⟨hb, fun P hP => ?_, ?_⟩
  · rw [List.countP_append, List.countP_singleton, if_neg (by simp [hne]), hc P hP]; rfl
  · rcases h with ⟨h0, h1, h2⟩ | ⟨h0, h1, l, c, h2, h3, h4, h5, h6⟩ | ⟨h0, h1, l, c, h2, h3, h4, h5, h6, h7, h8⟩
    · exact .inl ⟨h0, fun c hc => (h1 c hc).grow, h2⟩
    · exact .inr (.inl ⟨h0, h1, l, c, h2, fun d hd => (h3 d hd).grow, h4, h5, h6⟩)
    · refine .inr (.inr ⟨h0, h1, l, c, h2, fun d hd => (h3 d hd).grow, h4, h5, h6, h7, ?_⟩)
      have hpf : ¬ p = true := fun e => hp ⟨h0, e⟩
      rw [if_neg hpf] at h8
      rw [if_pos h0, if_pos rfl, List.countP_append, h8, List.countP_singleton, if_pos (by simp [ho, h7])]
theorem Tb.keep {l : List Ev} {k : Nat} {p : Bool} {E : List (Nat × Int)} {t : Nat} {s : List Cl × Bool} (h : Tb l k p E t s) (e : Ev) (h7 : e.kind ≠ 7) (h5 : e.kind ≠ 5 ∨ k = 0) : Tb (l ++ [e]) k p E t (callS (t : Int) s (l.length, e)) := by
  rcases callS_else (t := (t : Int)) (s := s) (x := (l.length, e)) h7 with c | ⟨ho, r, c, hs, hc⟩
  · rw [c]; exact h.other e
  rw [hc]
  have hl : ((l ++ [e]).length : Int) = l.length + 1 := by simp
  obtain ⟨hb, hcn, h⟩ := h
  have hbc := hb c (by rw [hs]; simp)
  have hbr : ∀ d ∈ r, inB l.length d ∧ d.who = (t : Int) := fun d hd => hb d (by rw [hs]; exact List.mem_append_left _ hd)
  have uniq : ∀ {r' : List Cl} {c' : Cl}, s.1 = r' ++ [c'] → r' = r ∧ c' = c := fun {r' c'} e2 => by
    have h1 := List.append_inj' (e2.symm.trans hs) rfl
    exact ⟨h1.1, by simpa using h1.2⟩
  refine ⟨fun d hd => ?_, fun P hP => ?_, ?_⟩
  · rw [List.length_append]
    rcases List.mem_append.1 hd with hd | hd
    · exact ⟨(hbr d hd).1.snoc, (hbr d hd).2⟩
    · rw [List.mem_singleton.1 hd]; exact ⟨hbc.1.add, hbc.2⟩
  · rw [← hcn P hP, hs, List.countP_append, List.countP_append, List.countP_singleton, List.countP_singleton]
  rcases h with ⟨h0, h1, h2⟩ | ⟨h0, h1, r', c', h2, h3, h4', h5', h6⟩ | ⟨h0, h1, r', c', h2, h3, h4', h5', h6, h8, h9⟩
  · obtain ⟨r', c', e2, e3⟩ := h2 ho
    obtain ⟨rfl, rfl⟩ := uniq e2
    refine .inl ⟨h0, fun d hd => ?_, fun _ => ⟨r', _, rfl, e3⟩⟩
    rcases List.mem_append.1 hd with hd | hd
    · exact (h1 d (by rw [hs]; exact List.mem_append_left _ hd)).snoc (hbr d hd).1 e
    · rw [List.mem_singleton.1 hd]; exact fun e4 => absurd e4 e3
  · obtain ⟨rfl, rfl⟩ := uniq h2
    refine .inr (.inl ⟨h0, h1, r', _, rfl, fun d hd => (h3 d hd).snoc (hbr d hd).1 e, h4', h5', ?_⟩)
    rw [fenP_add l e hbc.1, if_neg (by omega)]; exact h6
  · obtain ⟨rfl, rfl⟩ := uniq h2
    refine .inr (.inr ⟨h0, h1, r', _, rfl, fun d hd => (h3 d hd).snoc (hbr d hd).1 e, h4', h5', ?_⟩)
    rw [fenP_add l e hbc.1, if_neg (by omega), hl]
    exact ⟨h6, by omega, h9⟩
end Go.Proofs.YtckmkaeopnnbbaaGreatDoor.As
