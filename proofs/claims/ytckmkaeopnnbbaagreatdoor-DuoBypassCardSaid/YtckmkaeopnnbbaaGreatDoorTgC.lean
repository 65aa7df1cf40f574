/- Plain Lean: nobody is passed twice: from the fold to the calls. No program in sight. -/
import Derived.Test.YtckmkaeopnnbbaaGreatDoorTgB
set_option linter.unusedVariables false
set_option linter.unusedSimpArgs false
namespace Go.Proofs.YtckmkaeopnnbbaaGreatDoor.As

theorem upB_self {f : Nat → Bool} {t : Nat} : upF f t (f t) = f := upF_id _ _
theorem bo_of (evs : List Ev) : ∀ st p, byF evs = some (st, p) → ∃ E, Bo evs st p E := by
  refine snoc_ind (P := fun evs => ∀ st p, byF evs = some (st, p) → ∃ E, Bo evs st p E) (fun st p h => ?_) (fun l e ih st' p' h => ?_) evs
  · have h : some (fun _ : Nat => 0, fun _ : Nat => false) = some (st, p) := h
    injection h with h; injection h with h1 h2; subst h1; subst h2
    exact ⟨[], fun _ h => (by cases h), fun t _ => ⟨fun c hc => (by cases hc), fun P _ => rfl, .inl ⟨rfl, fun c hc => (by cases hc), fun h => (by cases h)⟩⟩, fun t _ => rfl⟩
  rw [byF_snoc] at h
  cases hf : byF l with
  | none => rw [hf] at h; cases h
  | some q =>
    obtain ⟨st, p⟩ := q
    rw [hf] at h
    obtain ⟨E, H⟩ := ih st p hf
    have hl : ((l ++ [e]).length : Int) = l.length + 1 := by simp
    have heb : ∀ a ∈ E, 0 ≤ a.2 ∧ a.2 < ((l ++ [e]).length : Int) := fun a ha => ⟨(H.eb a ha).1, by have := (H.eb a ha).2; omega⟩
    simp only [byS] at h
    by_cases hneg : e.who < 0 ∨ 1 < e.who ∨ e.k < 0 ∨ 4294967295 < e.k
    · rw [if_pos hneg] at h; cases h
    rw [if_neg hneg] at h
    obtain ⟨t, hw⟩ : ∃ t : Nat, e.who = (t : Int) := ⟨e.who.toNat, by omega⟩
    have ht : t < 2 := by omega
    rw [hw, Int.toNat_natCast] at h
    have hoth : ∀ u : Nat, 2 ≤ u → callsF (u : Int) (ofI (l ++ [e]) (u : Int) (l ++ [e]).length) = ([], false) := fun u hu => by
      rw [calls_grow, if_neg (by omega)]; exact H.oth u hu
    -- one thread's turn, the other's stays
    have mk : ∀ k q, (Tb l (st t) (p t) E t (callsF (t : Int) (ofI l (t : Int) l.length)) → Tb (l ++ [e]) k q E t (callS (t : Int) (callsF (t : Int) (ofI l (t : Int) l.length)) (l.length, e))) → ∃ E', Bo (l ++ [e]) (upF st t k) (upF p t q) E' := fun k q hs => by
      refine ⟨E, heb, fun u hu => ?_, hoth⟩
      rw [calls_grow]
      by_cases c : u = t
      · subst c; rw [if_pos hw, upF_self, upF_self]; exact hs (H.th u hu)
      · rw [if_neg (by omega), upF_ne _ _ c, upF_ne _ _ c]; exact (H.th u hu).other e
    have same : ∀ k, k = st t → (∀ s, Tb l k (p t) E t s → Tb (l ++ [e]) k (p t) E t (callS (t : Int) s (l.length, e))) → ∃ E', Bo (l ++ [e]) st p E' := fun k hk hs => by
      have := mk k (p t) (fun hT => hs _ (by rw [hk]; exact hT))
      rw [hk, upF_id, upF_id] at this
      exact this
    by_cases h7 : e.kind = 7
    · rw [if_pos h7] at h
      by_cases k0 : e.k = 0
      · rw [if_pos k0] at h
        by_cases s0 : st t = 0
        · rw [if_pos s0] at h
          injection h with h; injection h with h1 h2; subst h1; subst h2
          have := mk 1 (p t) (fun hs => by
            rw [callS_begin (x := (l.length, e)) h7 (by show e.k.tmod 2 = 0; rw [k0]; rfl)]
            obtain ⟨hb, hcn, hs⟩ := hs.other e
            rw [s0] at hs
            rcases hs with ⟨_, h1, _⟩ | ⟨h0, _⟩ | ⟨h0, _⟩
            · refine ⟨fun c hc => ?_, fun P hP => ?_, .inr (.inl ⟨rfl, rfl, _, _, rfl, h1, by dsimp only; rw [k0]; rfl, rfl, rfl⟩)⟩
              · rcases List.mem_append.1 hc with hc | hc
                · exact hb c hc
                · rw [List.mem_singleton.1 hc]; exact ⟨fun x hx => (by cases hx), rfl⟩
              · rw [List.countP_append, hcn P hP, List.countP_singleton, if_neg (by simp [hP])]; rfl
            · omega
            · omega)
          rwa [upF_id p t] at this
        · rw [if_neg s0] at h; cases h
      rw [if_neg k0] at h
      by_cases k1 : e.k = 1
      · rw [if_pos k1] at h
        by_cases s2 : st t = 2 ∧ ¬ (st (1 - t) = 2 ∧ p (1 - t) = true)
        · rw [if_pos s2] at h
          injection h with h; injection h with h1 h2; subst h1; subst h2
          obtain ⟨s2, hok⟩ := s2
          have hne : t ≠ 1 - t := by omega
          refine ⟨E ++ [(t, (l.length : Int))], fun a ha => ?_, fun u hu => ?_, hoth⟩
          · rcases List.mem_append.1 ha with ha | ha
            · exact heb a ha
            · rw [List.mem_singleton.1 ha, hl]; dsimp only; omega
          rw [calls_grow]
          by_cases c : u = t
          · subst c
            rw [if_pos hw, upF_self]
            have hs := H.th u hu
            rw [s2] at hs
            obtain ⟨hb, hc, hs⟩ := hs
            rcases hs with ⟨h0, _⟩ | ⟨h0, _⟩ | ⟨_, ho, r, c, hr, hgd, hsite, hend, hf0, hf1, hcnt⟩
            · omega
            · omega
            have hbc := hb c (by rw [hr]; simp)
            have hbr : ∀ d ∈ r, inB l.length d := fun d hd => (hb d (by rw [hr]; exact List.mem_append_left _ hd)).1
            rw [callS_end (x := (l.length, e)) h7 (by show e.k.tmod 2 ≠ 0; rw [k1]; decide) ho hr]
            have hsk : c.site = e.k.tdiv 2 % 4294967296 := by rw [hsite, k1]; rfl
            rw [if_pos hsk]
            refine ⟨fun d hd => ?_, fun P hP => ?_, .inl ⟨rfl, fun d hd => ?_, fun h => by cases h⟩⟩
            · rw [List.length_append]
              rcases List.mem_append.1 hd with hd | hd
              · exact ⟨(hbr d hd).snoc, (hb d (by rw [hr]; exact List.mem_append_left _ hd)).2⟩
              · rw [List.mem_singleton.1 hd]; exact ⟨hbc.1.snoc, hbc.2⟩
            · have h1 := hc P hP
              rw [hr, List.countP_append, List.countP_singleton, if_neg (by rw [hend, hP]; simp)] at h1
              rw [List.countP_append, List.countP_append, ← h1, List.countP_singleton, List.countP_singleton]
              simp [hsite]
            · rcases List.mem_append.1 hd with hd | hd
              · exact ((hgd d hd).grow).snoc (hbr d hd) e
              · rw [List.mem_singleton.1 hd]
                intro _
                refine ⟨by show (0 : Int) ≤ (l.length : Int); omega, by rw [hl]; show (l.length : Int) < _; omega, fun _ => ?_⟩
                have e1 : fenP (l ++ [e]) { c with ended := (l.length : Int), res := e.val } = fenP l c := fenP_snoc l e hbc.1
                rw [e1, List.countP_append, List.countP_singleton, if_neg (by simp [hne])]
                refine Nat.le_trans (Nat.add_le_add_right (List.countP_mono_left (q := fun e => e.1 == 1 - u && decide (fenP l c < e.2)) (fun x _ hx => ?_)) 0) ?_
                · simp only [Bool.and_eq_true] at hx ⊢
                  exact ⟨hx.1, hx.2.1⟩
                · rw [hcnt]; split <;> omega
          · have eu : u = 1 - t := by omega
            subst eu
            rw [if_neg (show ¬ e.who = ((1 - t : Nat) : Int) by omega), upF_ne _ _ c]
            have hs := ((H.th (1 - t) hu).passed (o := t) (by omega) (by omega) hok).other e
            have ep : (if st (1 - t) = 2 then upF p (1 - t) true else p) (1 - t) = if st (1 - t) = 2 then true else p (1 - t) := by
              by_cases e2 : st (1 - t) = 2
              · rw [if_pos e2, if_pos e2, upF_self]
              · rw [if_neg e2, if_neg e2]
            rw [ep]
            exact hs
        · rw [if_neg s2] at h; cases h
      rw [if_neg k1] at h
      by_cases k23 : e.k = 2 ∨ e.k = 3
      · rw [if_pos k23] at h
        by_cases s0 : st t = 0
        · rw [if_pos s0] at h
          injection h with h; injection h with h1 h2; subst h1; subst h2
          refine same 0 s0.symm (fun s hs => ?_)
          obtain ⟨hb, hcn, hs⟩ := hs.other e
          rcases hs with ⟨_, h1, h2⟩ | ⟨h0, _⟩ | ⟨h0, _⟩
          · rcases k23 with k2 | k3
            · rw [callS_begin (x := (l.length, e)) h7 (by show e.k.tmod 2 = 0; rw [k2]; rfl)]
              have hsite : e.k.tdiv 2 % 4294967296 = 1 := by rw [k2]; rfl
              refine ⟨fun c hc => ?_, fun P hP => ?_, .inl ⟨rfl, fun c hc => ?_, fun _ => ⟨_, _, rfl, by show e.k.tdiv 2 % 4294967296 ≠ 0; rw [hsite]; decide⟩⟩⟩
              · rcases List.mem_append.1 hc with hc | hc
                · exact hb c hc
                · rw [List.mem_singleton.1 hc]; exact ⟨fun x hx => (by cases hx), rfl⟩
              · rw [List.countP_append, hcn P hP, List.countP_singleton, if_neg (by simp [hP])]; rfl
              · rcases List.mem_append.1 hc with hc | hc
                · exact h1 c hc
                · rw [List.mem_singleton.1 hc]
                  intro h0
                  have h0 : e.k.tdiv 2 % 4294967296 = 0 := h0
                  rw [hsite] at h0; cases h0
            · cases ho : s.2 with
              | false =>
                rw [callS_shut (x := (l.length, e)) h7 (by show e.k.tmod 2 ≠ 0; rw [k3]; decide) ho]
                exact ⟨hb, hcn, .inl ⟨rfl, h1, fun h => by rw [ho] at h; cases h⟩⟩
              | true =>
                obtain ⟨r, c, hr, hne⟩ := h2 ho
                rw [callS_end (x := (l.length, e)) h7 (by show e.k.tmod 2 ≠ 0; rw [k3]; decide) ho hr]
                split
                · refine ⟨fun d hd => ?_, fun P hP => ?_, .inl ⟨rfl, fun d hd => ?_, fun h => by cases h⟩⟩
                  · rcases List.mem_append.1 hd with hd | hd
                    · exact hb d (by rw [hr]; exact List.mem_append_left _ hd)
                    · rw [List.mem_singleton.1 hd]; exact hb c (by rw [hr]; simp)
                  · rw [← hcn P hP, hr, List.countP_append, List.countP_append, List.countP_singleton, List.countP_singleton]
                    simp [hne]
                  · rcases List.mem_append.1 hd with hd | hd
                    · exact h1 d (by rw [hr]; exact List.mem_append_left _ hd)
                    · rw [List.mem_singleton.1 hd]; exact fun h0 => absurd h0 hne
                · exact ⟨hb, hcn, .inl ⟨rfl, h1, h2⟩⟩
          · omega
          · omega
        · rw [if_neg s0] at h; cases h
      · rw [if_neg k23] at h; cases h
    rw [if_neg h7] at h
    by_cases h5 : e.kind = 5
    · rw [if_pos h5] at h
      by_cases s1 : st t = 1
      · rw [if_pos s1] at h
        injection h with h; injection h with h1 h2; subst h1; subst h2
        refine mk 2 false (fun hs => ?_)
        rw [s1] at hs
        obtain ⟨hb, hc, hs⟩ := hs
        rcases hs with ⟨h0, _⟩ | ⟨_, ho, r, c, hr, hgd, hsite, hend, hfen⟩ | ⟨h0, _⟩
        · omega
        · rw [callS_in (x := (l.length, e)) h7 (by show e.kind ≠ 3; omega) ho hr]
          have hbc := hb c (by rw [hr]; simp)
          have hbr : ∀ d ∈ r, inB l.length d ∧ d.who = (t : Int) := fun d hd => hb d (by rw [hr]; exact List.mem_append_left _ hd)
          refine ⟨fun d hd => ?_, fun P hP => ?_, .inr (.inr ⟨rfl, ho, r, _, rfl, fun d hd => (hgd d hd).snoc (hbr d hd).1 e, hsite, hend, ?_⟩)⟩
          · rw [List.length_append]
            rcases List.mem_append.1 hd with hd | hd
            · exact ⟨(hbr d hd).1.snoc, (hbr d hd).2⟩
            · rw [List.mem_singleton.1 hd]; exact ⟨hbc.1.add, hbc.2⟩
          · rw [← hc P hP, hr, List.countP_append, List.countP_append, List.countP_singleton, List.countP_singleton]
          · rw [fenP_add l e hbc.1, if_pos h5, hl]
            refine ⟨by omega, by omega, ?_⟩
            rw [if_neg (by decide), List.countP_eq_zero]
            intro a ha
            have := (H.eb a ha).2
            have : ¬ ((l.length : Int) < a.2) := by omega
            simp [this]
        · omega
      · rw [if_neg s1] at h
        by_cases s0 : st t = 0
        · rw [if_pos s0] at h
          injection h with h; injection h with h1 h2; subst h1; subst h2
          exact same 0 s0.symm (fun s hs => hs.keep e h7 (.inr rfl))
        · rw [if_neg s0] at h; cases h
    · rw [if_neg h5] at h
      injection h with h; injection h with h1 h2; subst h1; subst h2
      exact same (st t) rfl (fun s hs => hs.keep e h7 (.inl h5))
theorem byp_of (evs : List Ev) (st : Nat → Nat) (p : Nat → Bool) (h : byF evs = some (st, p)) : bypP evs (callsAll evs) ∧ ∀ c ∈ callsAll evs, inB evs.length c := by
  obtain ⟨E, H⟩ := bo_of evs st p h
  have hper : (perT evs).flatten = (callsF ((0 : Nat) : Int) (ofI evs ((0 : Nat) : Int) evs.length)).1 ++ (callsF ((1 : Nat) : Int) (ofI evs ((1 : Nat) : Int) evs.length)).1 := by
    have e : perT evs = [(callsF ((0 : Nat) : Int) (ofI evs ((0 : Nat) : Int) evs.length)).1, (callsF ((1 : Nat) : Int) (ofI evs ((1 : Nat) : Int) evs.length)).1, [], [], [], [], [], []] := by
      show [_, _, (callsF ((2 : Nat) : Int) (ofI evs ((2 : Nat) : Int) evs.length)).1, (callsF ((3 : Nat) : Int) (ofI evs ((3 : Nat) : Int) evs.length)).1, (callsF ((4 : Nat) : Int) (ofI evs ((4 : Nat) : Int) evs.length)).1, (callsF ((5 : Nat) : Int) (ofI evs ((5 : Nat) : Int) evs.length)).1, (callsF ((6 : Nat) : Int) (ofI evs ((6 : Nat) : Int) evs.length)).1, (callsF ((7 : Nat) : Int) (ofI evs ((7 : Nat) : Int) evs.length)).1] = _
      rw [H.oth 2 (by omega), H.oth 3 (by omega), H.oth 4 (by omega), H.oth 5 (by omega), H.oth 6 (by omega), H.oth 7 (by omega)]
    rw [e]; simp
  have hperm := callsAll_perm evs
  rw [hper] at hperm
  have key : ∀ c ∈ callsAll evs, ∃ t : Nat, t < 2 ∧ c ∈ (callsF (t : Int) (ofI evs (t : Int) evs.length)).1 := fun c hc => by
    rcases List.mem_append.1 (hperm.mem_iff.1 hc) with h | h
    · exact ⟨0, by omega, h⟩
    · exact ⟨1, by omega, h⟩
  -- how many of a thread's calls count
  have cnt : ∀ (c : Cl) (t u : Nat), t < 2 → u < 2 → c.who = (t : Int) → 0 ≤ fenP evs c → (callsF (u : Int) (ofI evs (u : Int) evs.length)).1.countP (passP c (fenP evs c)) = if u = t then 0 else E.countP (fun e => e.1 == u && (decide (e.2 > fenP evs c) && (decide (c.ended < 0) || decide (e.2 < c.ended)))) := fun c t u ht hu hw h0 => by
    obtain ⟨hb, hc, _⟩ := H.th u hu
    by_cases e : u = t
    · subst e
      rw [if_pos rfl, List.countP_eq_zero]
      intro d hd
      have := (hb d hd).2
      simp [passP, this, hw]
    · rw [if_neg e, ← hc (fun x => decide (x > fenP evs c) && (decide (c.ended < 0) || decide (x < c.ended))) (by
        have : ¬ ((-1 : Int) > fenP evs c) := by omega
        simp [this])]
      refine List.countP_congr (fun d hd => ?_)
      have h1 := (hb d hd).2
      have h2 : d.who ≠ c.who := by rw [h1, hw]; omega
      simp [passP, h2]
      try simp only [and_assoc]
  refine ⟨fun c hc hs hf => ?_, fun c hc => ?_⟩
  · obtain ⟨t, ht, hm⟩ := key c hc
    obtain ⟨hb, _, hst⟩ := H.th t ht
    have hw := (hb c hm).2
    rw [hperm.countP_eq, List.countP_append, cnt c t 0 ht (by omega) hw hf, cnt c t 1 ht (by omega) hw hf]
    have main : E.countP (fun e => e.1 == 1 - t && (decide (e.2 > fenP evs c) && (decide (c.ended < 0) || decide (e.2 < c.ended)))) ≤ 1 := by
      have over : Gb evs E (1 - t) c → E.countP (fun e => e.1 == 1 - t && (decide (e.2 > fenP evs c) && (decide (c.ended < 0) || decide (e.2 < c.ended)))) ≤ 1 := fun hg => by
        obtain ⟨g1, g2, g3⟩ := hg hs
        have hn : ¬ c.ended < 0 := by omega
        refine Nat.le_trans (List.countP_mono_left (fun x _ hx => ?_)) (g3 hf)
        simpa [hn] using hx
      rcases hst with ⟨_, h1, _⟩ | ⟨_, _, r, d, hr, hg, _, h5, h6⟩ | ⟨_, _, r, d, hr, hg, _, h5, h6, h7, h8⟩
      · exact over (h1 c hm)
      · rw [hr] at hm
        rcases List.mem_append.1 hm with hm | hm
        · exact over (hg c hm)
        · rw [List.mem_singleton.1 hm] at hf; omega
      · rw [hr] at hm
        rcases List.mem_append.1 hm with hm | hm
        · exact over (hg c hm)
        · have e := List.mem_singleton.1 hm
          subst e
          refine Nat.le_trans (List.countP_mono_left (q := fun e => e.1 == 1 - t && decide (fenP evs c < e.2)) (fun x _ hx => ?_)) (by rw [h8]; split <;> omega)
          simp only [Bool.and_eq_true] at hx ⊢
          exact ⟨hx.1, hx.2.1⟩
    have h2 : t = 0 ∨ t = 1 := by omega
    rcases h2 with rfl | rfl
    · rw [if_pos rfl, if_neg (by decide)]
      simpa using main
    · rw [if_neg (by decide), if_pos rfl]
      simpa using main
  · obtain ⟨t, ht, hm⟩ := key c hc
    exact ((H.th t ht).1 c hm).1
end Go.Proofs.YtckmkaeopnnbbaaGreatDoor.As
