/- Plain Lean: as Tp7, of two threads, and who was passed behind its fence. No program in sight. -/
import Derived.Test.YtckmkaeopnnbbaaGreatDoorTgA
set_option linter.unusedVariables false
set_option linter.unusedSimpArgs false
namespace Go.Proofs.YtckmkaeopnnbbaaGreatDoor.As.Wg

structure Lk where
  Lb : Nat → Nat
  R : Nat
  T : Nat
  M : Nat
  inR : Nat → Nat → Bool
  js : Nat → Nat
  ph : Nat → Nat
  I : (Nat → Bool) → List Int → (Nat → Loc) → (Nat → List (Nat × Int)) → Prop
structure Lk.Inv (X : Lk) (s : Ts) (f : Nat → Loc) (i : Int × (Nat → Bool)) : Prop where
  nths : s.ths.length = X.T
  nb : s.bufs.length = X.T
  nm : s.mem.length = X.M
  slp : s.slp = []
  hs : ∀ t, t < X.T → s.ths[t]? = some ((f t).th (X.Lb t))
  fr : ∀ t, t < X.T → (f t).fr X.R (X.Lb t)
  I : X.I i.2 s.mem f s.buf
  one : oneF s.evs = some i.1
  i1 : i.1 = -1 ∨ ∃ t : Nat, t < X.T ∧ i.1 = t
  who : ∀ t : Nat, t < X.T → (i.1 = t ↔ X.inR t (f t).j = true)
  fine : ∀ e ∈ s.evs, fineE e
  sum : s.mem.getD 0 0 = wr32 (sumT (fun t => (f t).cnt (X.js t) (s.buf t)) X.T)
  ff : ∃ st, byF s.evs = some (st, i.2) ∧ ∀ t, t < X.T → st t = X.ph (f t).j
section
variable {X : Lk} {s : Ts} {f : Nat → Loc} {i : Int × (Nat → Bool)} {t : Nat}
theorem Lk.Inv.nobody (h : X.Inv s f i) (hn : ∀ u, u < X.T → X.inR u (f u).j = false) : i.1 = -1 := by
  rcases h.i1 with e | ⟨u, hu, e⟩
  · exact e
  · have := (h.who u hu).1 e
    rw [hn u hu] at this
    cases this
theorem Lk.Inv.ffk (h : X.Inv s f i) (x : Loc) (hx : X.ph x.j = X.ph (f t).j) : ∃ st, byF s.evs = some (st, i.2) ∧ ∀ u, u < X.T → st u = X.ph (upF f t x u).j := by
  obtain ⟨st, h1, h2⟩ := h.ff
  refine ⟨st, h1, fun u hu => ?_⟩
  by_cases e : u = t
  · subst e; rw [upF_self, hx]; exact h2 u hu
  · rw [upF_ne _ _ e]; exact h2 u hu
theorem Lk.Inv.ffe (h : X.Inv s f i) (ht : t < 2) (x : Loc) (hx : X.ph x.j = X.ph (f t).j) (e : Ev) (hw : e.who = (t : Int)) (hk : e.k = 0) (h7 : e.kind ≠ 7) (h4 : e.kind ≠ 5) : ∃ st, byF (s.evs ++ [e]) = some (st, i.2) ∧ ∀ u, u < X.T → st u = X.ph (upF f t x u).j := by
  obtain ⟨st, h1, h2⟩ := h.ffk (t := t) x hx
  exact ⟨st, by rw [byF_snoc, h1]; exact byS_keep ht hw hk h7 h4, h2⟩
theorem Lk.Inv.ffx (h : X.Inv s f i) (h2t : t < 2) (hTT : X.T = 2) (x : Loc) (h2 : X.ph (f t).j = 2) (hx : X.ph x.j = 0) (pc : Int) (W : Nat → Bool) (hW : W = if X.ph (f (1 - t)).j = 2 then upF i.2 (1 - t) true else i.2) (hok : ¬ (X.ph (f (1 - t)).j = 2 ∧ i.2 (1 - t) = true)) : ∃ st, byF (s.evs ++ [⟨7, t, pc, 0, 0, 0, 1, false⟩]) = some (st, W) ∧ ∀ u, u < X.T → st u = X.ph (upF f t x u).j := by
  obtain ⟨st, h1, h3⟩ := h.ff
  have ho := h3 (1 - t) (by omega)
  refine ⟨upF st t 0, ?_, fun u hu => ?_⟩
  · rw [byF_snoc, h1, byS_enter (t := t) h2t rfl rfl rfl (by rw [h3 t (by omega), h2]) (by rw [ho]; exact hok), hW, ho]
  · by_cases e : u = t
    · subst e; rw [upF_self, upF_self, hx]
    · rw [upF_ne _ _ e, upF_ne _ _ e]; exact h3 u hu
theorem Lk.Inv.ffu (h : X.Inv s f i) (ht : t < X.T) (x : Loc) (k : Nat) (hk : X.ph (f t).j = k) (e : Ev) (W' : Nat → Bool) (hs : ∀ st : Nat → Nat, st t = k → byS (some (st, i.2)) e = some (upF st t (X.ph x.j), W')) : ∃ st, byF (s.evs ++ [e]) = some (st, W') ∧ ∀ u, u < X.T → st u = X.ph (upF f t x u).j := by
  obtain ⟨st, h1, h2⟩ := h.ff
  refine ⟨_, by rw [byF_snoc, h1]; exact hs st (by rw [h2 t ht, hk]), fun u hu => ?_⟩
  by_cases e : u = t
  · subst e; rw [upF_self, upF_self]
  · rw [upF_ne _ _ e, upF_ne _ _ e]; exact h2 u hu
theorem Lk.Inv.put (h : X.Inv s f i) (ht : t < X.T) (s' : Ts) (x : Loc) (q : List (Nat × Int)) (i' : Int × (Nat → Bool)) (hb : s'.buf = upF s.buf t q) (hths : s'.ths = s.ths.set t (x.th (X.Lb t))) (hnb : s'.bufs.length = X.T) (hnm : s'.mem.length = X.M) (hslp : s'.slp = []) (hfr : x.fr X.R (X.Lb t)) (hI : X.I i'.2 s'.mem (upF f t x) (upF s.buf t q)) (hone : oneF s'.evs = some i'.1) (hi1 : i'.1 = -1 ∨ ∃ t : Nat, t < X.T ∧ i'.1 = t) (hwt : i'.1 = t ↔ X.inR t x.j = true) (hwu : ∀ u : Nat, u < X.T → u ≠ t → (i'.1 = u ↔ X.inR u (f u).j = true)) (hfine : ∀ e ∈ s'.evs, fineE e)
    (hsum : s'.mem.getD 0 0 = wr32 (s.mem.getD 0 0 + (x.cnt (X.js t) q - (f t).cnt (X.js t) (s.buf t))))
    (hff : ∃ st, byF s'.evs = some (st, i'.2) ∧ ∀ u, u < X.T → st u = X.ph (upF f t x u).j) : X.Inv s' (upF f t x) i' := by
  refine ⟨by rw [hths, List.length_set]; exact h.nths, hnb, hnm, hslp, fun u hu => ?_, fun u hu => ?_, by rw [hb]; exact hI, hone, hi1, fun u hu => ?_, hfine, ?_, hff⟩
  · rw [hths]
    by_cases e : u = t
    · subst e
      rw [upF_self, List.getElem?_set_self (by rw [h.nths]; exact ht)]
    · rw [upF_ne _ _ e, List.getElem?_set_ne (fun e2 => e e2.symm)]
      exact h.hs u hu
  · by_cases e : u = t
    · subst e; rw [upF_self]; exact hfr
    · rw [upF_ne _ _ e]; exact h.fr u hu
  · by_cases e : u = t
    · subst e; rw [upF_self]; exact hwt
    · rw [upF_ne _ _ e]; exact hwu u hu e
  · rw [hsum, h.sum, wr32_wr, hb]
    refine congrArg wr32 ?_
    refine (sumT_one t _ ?_ X.T ht (fun u _ e => ?_)).symm
    · show (upF f t x t).cnt (X.js t) (upF s.buf t q t) = _
      rw [upF_self, upF_self]; omega
    · show (upF f t x u).cnt (X.js u) (upF s.buf t q u) = _
      rw [upF_ne _ _ e, upF_ne _ _ e]
theorem Lk.Inv.cnt_at (h : X.Inv s f i) (x : Loc) (hp : x.p = (f t).p) (hj : decide ((X.js t) < x.j) = decide ((X.js t) < (f t).j)) (q : List (Nat × Int)) (hq : c0 q = c0 (s.buf t)) : x.cnt (X.js t) q - (f t).cnt (X.js t) (s.buf t) = 0 := by
  unfold Loc.cnt
  rw [hp, hq]
  have : ((X.js t) < x.j) ↔ ((X.js t) < (f t).j) := by simpa using hj
  by_cases e : (X.js t) < x.j
  · rw [if_pos e, if_pos (this.1 e)]; omega
  · rw [if_neg e, if_neg (fun e2 => e (this.2 e2))]; omega
theorem wr_sum (h : X.Inv s f i) : s.mem.getD 0 0 = wr32 (s.mem.getD 0 0 + 0) := by
  rw [h.sum]; unfold wr32; omega
theorem Lk.Inv.loc (h : X.Inv s f i) (ht : t < X.T) (x : Loc) (hfr : x.fr X.R (X.Lb t)) (hI : X.I i.2 s.mem (upF f t x) s.buf) (hin : (X.inR t x.j, X.ph x.j) = (X.inR t (f t).j, X.ph (f t).j)) (hp : x.p = (f t).p) (hj : decide ((X.js t) < x.j) = decide ((X.js t) < (f t).j)) : X.Inv (s.upd t (x.th (X.Lb t))) (upF f t x) i := by
  have e : upF s.buf t (s.buf t) = s.buf := upF_id _ _
  refine h.put ht _ x (s.buf t) i (by rw [e]; rfl) rfl h.nb h.nm h.slp hfr (by rw [e]; exact hI) h.one h.i1 (by rw [(Prod.mk.inj hin).1]; exact h.who t ht) (fun u hu _ => h.who u hu) h.fine ?_ (h.ffk x (Prod.mk.inj hin).2)
  rw [h.cnt_at x hp hj _ rfl]
  exact (show s.mem.getD 0 0 = wr32 (s.mem.getD 0 0 + 0) from wr_sum h)
theorem Lk.Inv.again (h : X.Inv s f i) (ht : t < X.T) (x : Loc) (hfr : x.fr X.R (X.Lb t)) (hI : X.I i.2 s.mem (upF f t x) s.buf) (hin : (X.inR t x.j, X.ph x.j) = (X.inR t (f t).j, X.ph (f t).j)) (hp : x.p = (f t).p + 1) (hj : (X.js t) < (f t).j) (hj0 : x.j = 0) : X.Inv (s.upd t (x.th (X.Lb t))) (upF f t x) i := by
  have e : upF s.buf t (s.buf t) = s.buf := upF_id _ _
  refine h.put ht _ x (s.buf t) i (by rw [e]; rfl) rfl h.nb h.nm h.slp hfr (by rw [e]; exact hI) h.one h.i1 (by rw [(Prod.mk.inj hin).1]; exact h.who t ht) (fun u hu _ => h.who u hu) h.fine ?_ (h.ffk x (Prod.mk.inj hin).2)
  have e0 : x.cnt (X.js t) (s.buf t) - (f t).cnt (X.js t) (s.buf t) = 0 := by
    unfold Loc.cnt
    rw [hp, hj0, if_neg (by omega), if_pos hj]
    omega
  rw [e0]
  exact (show s.mem.getD 0 0 = wr32 (s.mem.getD 0 0 + 0) from wr_sum h)
theorem Lk.Inv.noted (h : X.Inv s f i) (h2t : t < 2) (e : Ev) (h7 : e.kind ≠ 7) (h13 : e.kind ≠ 13) (h4 : e.kind ≠ 5) (hk : e.k = 0) : X.Inv (s.note t e) f i := by
  refine ⟨h.nths, h.nb, h.nm, h.slp, h.hs, h.fr, h.I, ?_, h.i1, h.who, fine_snoc h.fine (fineE_kind (e := { e with who := t }) h13 h7), h.sum, by
    have := h.ffe (t := t) h2t (f t) rfl { e with who := (t : Int) } rfl hk h7 h4
    rwa [upF_id] at this⟩
  show oneF (s.evs ++ [{ e with who := (t : Int) }]) = _
  rw [oneF_snoc, oneS_other (show ({ e with who := (t : Int) } : Ev).kind ≠ 7 from h7)]
  exact h.one
theorem Lk.Inv.marked (h : X.Inv s f i) (h2t : t < 2) (ht : t < X.T) (h0 : X.ph (f t).j = 0) (e : Ev) (h7 : e.kind = 7) (hk : e.k = 3 ∧ e.val = 0) : X.Inv (s.note t e) f i := by
  refine ⟨h.nths, h.nb, h.nm, h.slp, h.hs, h.fr, h.I, ?_, h.i1, h.who, fine_snoc h.fine (fineE_mark (e := { e with who := t }) h7 (.inr ⟨.inr hk.1, hk.2⟩)), h.sum, ?_⟩
  · show oneF (s.evs ++ [{ e with who := (t : Int) }]) = _
    rw [oneF_snoc, h.one, oneS_mark (e := { e with who := (t : Int) }) h7 (by rintro ⟨a, _⟩; have : e.k = 1 := a; omega) (by intro a; have : e.k = 2 := a; omega)]
  · have := h.ffu ht (f t) 0 h0 { e with who := (t : Int) } i.2 (fun st hs => by
      rw [byS_mark (e := { e with who := (t : Int) }) (t := t) h2t rfl h7 (.inr hk.1) hs, h0]
      congr 1
      congr 1
      rw [← hs, upF_id])
    rwa [upF_id] at this
theorem Lk.Inv.begun (h : X.Inv s f i) (h2t : t < 2) (ht : t < X.T) (pc v : Int) (h0 : X.ph (f t).j = 0) (x : Loc) (hfr : x.fr X.R (X.Lb t)) (hI : X.I i.2 s.mem (upF f t x) s.buf) (hin : (X.inR t x.j, X.ph x.j) = (X.inR t (f t).j, 1)) (hp : x.p = (f t).p) (hj : decide ((X.js t) < x.j) = decide ((X.js t) < (f t).j)) : X.Inv ((s.note t ⟨7, 0, pc, 0, v, 0, 0, false⟩).upd t (x.th (X.Lb t))) (upF f t x) i := by
  have e : upF s.buf t (s.buf t) = s.buf := upF_id _ _
  refine h.put ht _ x (s.buf t) i (by rw [e]; rfl) rfl h.nb h.nm h.slp hfr (by rw [e]; exact hI) ?_ h.i1 (by rw [(Prod.mk.inj hin).1]; exact h.who t ht) (fun u hu _ => h.who u hu) (fine_snoc h.fine (fineE_mark (e := ⟨7, t, pc, 0, v, 0, 0, false⟩) rfl (.inl (.inl rfl)))) ?_ (h.ffu ht x 0 h0 ⟨7, t, pc, 0, v, 0, 0, false⟩ i.2 (fun st hs => by rw [byS_begin (t := t) h2t rfl rfl rfl hs, (Prod.mk.inj hin).2]))
  · show oneF (s.evs ++ [⟨7, t, pc, 0, v, 0, 0, false⟩]) = _
    rw [oneF_snoc, h.one, oneS_mark (e := ⟨7, t, pc, 0, v, 0, 0, false⟩) rfl (by rintro ⟨a, _⟩; have : (0 : Int) = 1 := a; omega) (by intro a; have : (0 : Int) = 2 := a; omega)]
  · rw [h.cnt_at x hp hj _ rfl]
    exact (show s.mem.getD 0 0 = wr32 (s.mem.getD 0 0 + 0) from wr_sum h)
theorem Lk.Inv.fenced (h : X.Inv s f i) (h2t : t < 2) (ht : t < X.T) (pc : Int) (h0 : X.ph (f t).j = 1) (x : Loc) (hfr : x.fr X.R (X.Lb t)) (hI : X.I (upF i.2 t false) s.mem (upF f t x) s.buf) (hin : (X.inR t x.j, X.ph x.j) = (X.inR t (f t).j, 2)) (hp : x.p = (f t).p) (hj : decide ((X.js t) < x.j) = decide ((X.js t) < (f t).j)) : X.Inv ((s.note t ⟨5, 0, pc, 0, 0, 0, 0, false⟩).upd t (x.th (X.Lb t))) (upF f t x) (i.1, upF i.2 t false) := by
  have e : upF s.buf t (s.buf t) = s.buf := upF_id _ _
  refine h.put ht _ x (s.buf t) (i.1, upF i.2 t false) (by rw [e]; rfl) rfl h.nb h.nm h.slp hfr (by rw [e]; exact hI) ?_ h.i1 (by rw [(Prod.mk.inj hin).1]; exact h.who t ht) (fun u hu _ => h.who u hu) (fine_snoc h.fine (fineE_kind (e := ⟨5, t, pc, 0, 0, 0, 0, false⟩) (show (5 : Int) ≠ 13 by decide) (show (5 : Int) ≠ 7 by decide))) ?_ (h.ffu ht x 1 h0 ⟨5, t, pc, 0, 0, 0, 0, false⟩ (upF i.2 t false) (fun st hs => by rw [byS_fence (t := t) h2t rfl rfl rfl hs, (Prod.mk.inj hin).2]))
  · show oneF (s.evs ++ [⟨5, t, pc, 0, 0, 0, 0, false⟩]) = _
    rw [oneF_snoc, oneS_other (e := ⟨5, t, pc, 0, 0, 0, 0, false⟩) (show (5 : Int) ≠ 7 by decide)]
    exact h.one
  · rw [h.cnt_at x hp hj _ rfl]
    exact (show s.mem.getD 0 0 = wr32 (s.mem.getD 0 0 + 0) from wr_sum h)
theorem Lk.Inv.enters (h : X.Inv s f i) (h2t : t < 2) (ht : t < X.T) (pc : Int) (x : Loc) (hfr : x.fr X.R (X.Lb t)) (W : Nat → Bool) (hTT : X.T = 2) (hW : W = if X.ph (f (1 - t)).j = 2 then upF i.2 (1 - t) true else i.2) (hok : ¬ (X.ph (f (1 - t)).j = 2 ∧ i.2 (1 - t) = true)) (h2 : X.ph (f t).j = 2) (hI : X.I W s.mem (upF f t x) s.buf) (hn : ∀ u, u < X.T → X.inR u (f u).j = false) (hin : (X.inR t x.j, X.ph x.j) = (true, 0)) (hp : x.p = (f t).p) (hj : decide ((X.js t) < x.j) = decide ((X.js t) < (f t).j)) : X.Inv ((s.note t ⟨7, 0, pc, 0, 0, 0, 1, false⟩).upd t (x.th (X.Lb t))) (upF f t x) ((t : Int), W) := by
  have e : upF s.buf t (s.buf t) = s.buf := upF_id _ _
  have hi : i.1 = -1 := h.nobody hn
  refine h.put ht _ x (s.buf t) ((t : Int), W) (by rw [e]; rfl) rfl h.nb h.nm h.slp hfr (by rw [e]; exact hI) ?_ (.inr ⟨t, ht, rfl⟩) (by rw [(Prod.mk.inj hin).1]; simp) (fun u hu hne => ?_) (fine_snoc h.fine (fineE_mark (e := ⟨7, t, pc, 0, 0, 0, 1, false⟩) rfl (.inr ⟨.inl rfl, rfl⟩))) ?_ (h.ffx h2t hTT x h2 (Prod.mk.inj hin).2 pc W hW hok)
  · show oneF (s.evs ++ [⟨7, t, pc, 0, 0, 0, 1, false⟩]) = _
    rw [oneF_snoc, h.one, oneS_in (e := ⟨7, t, pc, 0, 0, 0, 1, false⟩) rfl rfl rfl (by omega)]
  · rw [hn u hu]
    constructor
    · intro e2; exact absurd (by have : (t : Int) = u := e2; omega) hne
    · intro e2; cases e2
  · rw [h.cnt_at x hp hj _ rfl]
    exact (show s.mem.getD 0 0 = wr32 (s.mem.getD 0 0 + 0) from wr_sum h)
theorem Lk.Inv.leaves (h : X.Inv s f i) (h2t : t < 2) (ht : t < X.T) (pc v : Int) (x : Loc) (hfr : x.fr X.R (X.Lb t)) (hI : X.I i.2 s.mem (upF f t x) s.buf) (h1 : (X.inR t (f t).j, X.ph (f t).j) = (true, 0)) (hin : (X.inR t x.j, X.ph x.j) = (false, 0)) (hp : x.p = (f t).p) (hj : decide ((X.js t) < x.j) = decide ((X.js t) < (f t).j)) : X.Inv ((s.note t ⟨7, 0, pc, 0, v, 0, 2, false⟩).upd t (x.th (X.Lb t))) (upF f t x) ((-1 : Int), i.2) := by
  have e : upF s.buf t (s.buf t) = s.buf := upF_id _ _
  have hi : i.1 = t := (h.who t ht).2 (Prod.mk.inj h1).1
  refine h.put ht _ x (s.buf t) ((-1 : Int), i.2) (by rw [e]; rfl) rfl h.nb h.nm h.slp hfr (by rw [e]; exact hI) ?_ (.inl rfl) ?_ (fun u hu hne => ?_) (fine_snoc h.fine (fineE_mark (e := ⟨7, t, pc, 0, v, 0, 2, false⟩) rfl (.inl (.inr rfl)))) ?_ (h.ffu ht x 0 (Prod.mk.inj h1).2 ⟨7, t, pc, 0, v, 0, 2, false⟩ i.2 (fun st hs => by
      rw [byS_mark (t := t) h2t rfl rfl (.inl rfl) hs, (Prod.mk.inj hin).2]
      congr 1
      congr 1
      rw [← hs, upF_id]))
  · show oneF (s.evs ++ [⟨7, t, pc, 0, v, 0, 2, false⟩]) = _
    rw [oneF_snoc, h.one, oneS_out (e := ⟨7, t, pc, 0, v, 0, 2, false⟩) rfl rfl (by rw [hi])]
  · rw [(Prod.mk.inj hin).1]
    constructor
    · intro e2; have : (-1 : Int) = t := e2; omega
    · intro e2; cases e2
  · have := (h.who u hu)
    rw [hi] at this
    constructor
    · intro e2; have : (-1 : Int) = u := e2; omega
    · intro e2; have := this.2 e2; omega
  · rw [h.cnt_at x hp hj _ rfl]
    exact (show s.mem.getD 0 0 = wr32 (s.mem.getD 0 0 + 0) from wr_sum h)
theorem Lk.Inv.stored (h : X.Inv s f i) (h2t : t < 2) (ht : t < X.T) (pc : Int) (a : Nat) (v : Int) (x : Loc) (hfr : x.fr X.R (X.Lb t)) (hI : X.I i.2 s.mem (upF f t x) (upF s.buf t (s.buf t ++ [(a, v)]))) (hin : (X.inR t x.j, X.ph x.j) = (X.inR t (f t).j, X.ph (f t).j)) (hp : x.p = (f t).p) (hj : (a ≠ 0 ∧ decide ((X.js t) < x.j) = decide ((X.js t) < (f t).j)) ∨ (a = 0 ∧ (f t).j = (X.js t) ∧ x.j = (X.js t) + 1)) : X.Inv (((s.store t a v).note t ⟨2, 0, pc, a, v, 0, 0, false⟩).upd t (x.th (X.Lb t))) (upF f t x) i := by
  refine h.put ht _ x (s.buf t ++ [(a, v)]) i (by rw [buf_upd, buf_note, buf_storeF (by rw [h.nb]; exact ht)]) rfl ?_ h.nm h.slp hfr hI ?_ h.i1 (by rw [(Prod.mk.inj hin).1]; exact h.who t ht) (fun u hu _ => h.who u hu) (fine_snoc h.fine (fineE_kind (e := ⟨2, t, pc, a, v, 0, 0, false⟩) (show (2 : Int) ≠ 13 by decide) (show (2 : Int) ≠ 7 by decide))) ?_ (h.ffe h2t x (Prod.mk.inj hin).2 ⟨2, t, pc, a, v, 0, 0, false⟩ rfl rfl (show (2 : Int) ≠ 7 by decide) (show (2 : Int) ≠ 5 by decide))
  · show (s.bufs.set t _).length = _
    rw [List.length_set]; exact h.nb
  · show oneF (s.evs ++ [⟨2, t, pc, a, v, 0, 0, false⟩]) = _
    rw [oneF_snoc, oneS_other (e := ⟨2, t, pc, a, v, 0, 0, false⟩) (show (2 : Int) ≠ 7 by decide)]
    exact h.one
  · have e0 : x.cnt (X.js t) (s.buf t ++ [(a, v)]) - (f t).cnt (X.js t) (s.buf t) = 0 := by
      rcases hj with ⟨a0, hj⟩ | ⟨a0, j1, j2⟩
      · exact h.cnt_at x hp hj _ (by rw [c0_snoc, if_neg a0]; omega)
      · unfold Loc.cnt
        rw [hp, c0_snoc, if_pos a0, j1, j2, if_pos (by omega), if_neg (by omega)]; omega
    rw [e0]
    exact (show s.mem.getD 0 0 = wr32 (s.mem.getD 0 0 + 0) from wr_sum h)
theorem Lk.Inv.flushed (h : X.Inv s f i) (h2t : t < 2) (ht : t < X.T) (hI : ∀ e r, s.buf t = e :: r → X.I i.2 (s.mem.set e.1 e.2) f (upF s.buf t r) ∧ (e.1 ≠ 0 ∨ e.1 = 0 ∧ 0 < X.M ∧ e.2 = wr32 (s.mem.getD 0 0 + 1))) : X.Inv (s.flush t) f i := by
  have hb : t < s.bufs.length := by rw [h.nb]; exact ht
  have hs := Ts.flush_same s t hb
  cases hq : s.buf t with
  | nil =>
    have : s.flush t = s := by unfold Ts.flush; rw [hq]
    rw [this]; exact h
  | cons e r =>
    obtain ⟨h1, h2⟩ := hI e r hq
    have hf : s.flush t = Ts.note t { s with bufs := s.bufs.set t r, mem := s.mem.set e.1 e.2 } ⟨3, 0, 0, e.1, e.2, 0, 0, false⟩ := by unfold Ts.flush; rw [hq]
    have hm : (s.flush t).mem = s.mem.set e.1 e.2 := by rw [hf]; rfl
    have hbf : (s.flush t).buf = upF s.buf t r := by rw [buf_flushF hb, hq]; rfl
    have hev : (s.flush t).evs = s.evs ++ [⟨3, t, 0, e.1, e.2, 0, 0, false⟩] := by rw [hf]; rfl
    have key := h.put ht (s.flush t) (f t) r i hbf (by
      rw [hs.ths]
      have := h.hs t ht
      obtain ⟨hlt, he⟩ := List.getElem?_eq_some_iff.1 this
      rw [← he]; exact (List.set_getElem_self hlt).symm) (by rw [hs.nb]; exact h.nb) (by rw [hs.nm]; exact h.nm) (by rw [hs.slp]; exact h.slp) (h.fr t ht) (by rw [hm, upF_id]; exact h1) (by
      rw [hev, oneF_snoc, oneS_other (e := ⟨3, t, 0, e.1, e.2, 0, 0, false⟩) (show (3 : Int) ≠ 7 by decide)]
      exact h.one) h.i1 (h.who t ht) (fun u hu _ => h.who u hu) (by
      rw [hev]
      exact fine_snoc h.fine (fineE_kind (e := ⟨3, t, 0, e.1, e.2, 0, 0, false⟩) (show (3 : Int) ≠ 13 by decide) (show (3 : Int) ≠ 7 by decide))) (by
      rw [hm]
      unfold Loc.cnt
      rw [hq, c0_cons]
      rcases h2 with h2 | ⟨h2, h3, h4⟩
      · rw [if_neg h2, List.getD_eq_getElem?_getD, List.getElem?_set_ne h2, ← List.getD_eq_getElem?_getD]
        have e0 : ((f t).p : Int) + (if (X.js t) < (f t).j then 1 else 0) - c0 r - (((f t).p : Int) + (if (X.js t) < (f t).j then 1 else 0) - (c0 r + 0)) = 0 := by omega
        rw [e0]
        exact (show s.mem.getD 0 0 = wr32 (s.mem.getD 0 0 + 0) from wr_sum h)
      · rw [if_pos h2, h2, List.getD_eq_getElem?_getD, List.getElem?_set_self (by rw [h.nm]; exact h3)]
        have e0 : ((f t).p : Int) + (if (X.js t) < (f t).j then 1 else 0) - c0 r - (((f t).p : Int) + (if (X.js t) < (f t).j then 1 else 0) - (c0 r + 1)) = 1 := by omega
        rw [e0]
        exact h4) (by
      rw [hev]
      exact h.ffe h2t (f t) rfl ⟨3, t, 0, e.1, e.2, 0, 0, false⟩ rfl rfl (show (3 : Int) ≠ 7 by decide) (show (3 : Int) ≠ 5 by decide))
    rwa [upF_id] at key
theorem Lk.Inv.halted (h : X.Inv s f i) (h2t : t < 2) (ht : t < X.T) (pc : Int) (hp : (f t).p = X.R) (hj : (f t).j = 0) (hI : X.I i.2 s.mem (upF f t { f t with st := 2 }) s.buf) : X.Inv ((s.note t ⟨12, 0, pc, 0, 0, 0, 0, false⟩).upd t (({ f t with st := 2 } : Loc).th (X.Lb t))) (upF f t { f t with st := 2 }) i := by
  have e : upF s.buf t (s.buf t) = s.buf := upF_id _ _
  refine h.put ht _ _ (s.buf t) i (by rw [e]; rfl) rfl h.nb h.nm h.slp (.inr ⟨hp, hj, .inr rfl⟩) (by rw [e]; exact hI) ?_ h.i1 (h.who t ht) (fun u hu _ => h.who u hu) (fine_snoc h.fine (fineE_kind (e := ⟨12, t, pc, 0, 0, 0, 0, false⟩) (show (12 : Int) ≠ 13 by decide) (show (12 : Int) ≠ 7 by decide))) ?_ (h.ffe h2t { f t with st := 2 } rfl ⟨12, t, pc, 0, 0, 0, 0, false⟩ rfl rfl (show (12 : Int) ≠ 7 by decide) (show (12 : Int) ≠ 5 by decide))
  · show oneF (s.evs ++ [⟨12, t, pc, 0, 0, 0, 0, false⟩]) = _
    rw [oneF_snoc, oneS_other (e := ⟨12, t, pc, 0, 0, 0, 0, false⟩) (show (12 : Int) ≠ 7 by decide)]
    exact h.one
  · rw [show (({ f t with st := 2 } : Loc).cnt (X.js t) (s.buf t) - (f t).cnt (X.js t) (s.buf t)) = 0 from by show (f t).cnt (X.js t) (s.buf t) - (f t).cnt (X.js t) (s.buf t) = 0; omega]
    exact (show s.mem.getD 0 0 = wr32 (s.mem.getD 0 0 + 0) from wr_sum h)
theorem Lk.run (hTT : X.T = 2) (codes : List (List Ins)) (hlen : ∀ t, t < X.T → ∃ L, codes[t]? = some L ∧ L.length = X.R * (X.Lb t))
    (hst : ∀ s f i t, X.Inv s f i → t < X.T → X.I i.2 s.mem (upF f t { f t with st := 2 }) s.buf)
    (hstep : ∀ s f i t, X.Inv s f i → t < X.T → (f t).st = 0 → (f t).p < X.R → (f t).j < (X.Lb t) → ∃ s' f' i', s.stepT codes t = some s' ∧ X.Inv s' f' i')
    (hflush : ∀ s f i t, X.Inv s f i → t < X.T → X.Inv (s.flush t) f i) (l : List (Nat × Nat)) (s : Ts) (f : Nat → Loc) (i : Int × (Nat → Bool)) (h : X.Inv s f i) : ∃ s', Ts.run codes s l = some s' ∧ ∃ f' i', X.Inv s' f' i' := by
  refine Ts.run_inv (I := fun s => ∃ f i, X.Inv s f i) (fun _ => True) (fun s q _ hx => ?_) l s (fun _ _ => trivial) ⟨f, i, h⟩
  obtain ⟨f, i, h⟩ := hx
  unfold Ts.pick
  by_cases hq : s.ths.length ≤ q.2
  · rw [if_pos hq]; exact ⟨s, rfl, f, i, h⟩
  rw [if_neg hq]
  have ht : q.2 < X.T := by have := h.nths; omega
  split
  · rcases h.fr q.2 ht with ⟨h1, h2, h3⟩ | ⟨h1, h2, h3 | h3⟩
    · obtain ⟨s', f', i', e1, e2⟩ := hstep s f i q.2 h ht h1 h2 h3
      exact ⟨s', e1, f', i', e2⟩
    · obtain ⟨L, hL, hl⟩ := hlen q.2 ht
      refine ⟨_, stepT_end (h.hs q.2 ht) hL h3 ?_, _, i, h.halted (by omega) ht _ h1 h2 (hst s f i q.2 h ht)⟩
      rw [hl]
      show _ ≤ (((f q.2).p * (X.Lb q.2) + (f q.2).j : Nat) : Int)
      rw [h1, h2]; simp
    · obtain ⟨L, hL, hl⟩ := hlen q.2 ht
      exact ⟨s, stepT_stop (h.hs q.2 ht) hL (by show (f q.2).st ≠ 0; rw [h3]; decide), f, i, h⟩
  · split
    · exact ⟨_, rfl, f, i, hflush s f i q.2 h ht⟩
    · rw [if_pos h.slp]; exact ⟨s, rfl, f, i, h⟩
theorem Lk.Inv.done (h : X.Inv s f i) (hst : ∀ t, t < X.T → (f t).st = 2) (hb : ∀ t, t < X.T → s.buf t = []) : s.mem.getD 0 0 = wr32 ((X.T : Int) * X.R) := by
  rw [h.sum]
  refine congrArg wr32 ?_
  rw [← sumT_const]
  refine sumT_congr _ (fun t ht => ?_)
  unfold Loc.cnt
  rw [hb t ht]
  rcases h.fr t ht with ⟨h1, _⟩ | ⟨h1, h2, _⟩
  · rw [hst t ht] at h1; exact absurd h1 (by decide)
  · rw [h1, h2, if_neg (by omega)]
    show (X.R : Int) + 0 - c0 [] = X.R
    unfold c0; simp
end
end Go.Proofs.YtckmkaeopnnbbaaGreatDoor.As.Wg
