/- Plain Lean: a lock that is swapped again and again: all end. No program in sight. -/
import Derived.Test.YtckmkaeopnnbbaaGreatDoorEnC
import Derived.Test.YtckmkaeopnnbbaaGreatDoorTq1
set_option linter.unusedVariables false
set_option linter.unusedSimpArgs false
namespace Go.Proofs.YtckmkaeopnnbbaaGreatDoor.As.Tas

def lev (j : Nat) : Nat := if j ≤ 7 then j else if j ≤ 9 then 7 else min (j - 1) 26
def loop (j : Nat) : Bool := decide (7 ≤ j) && decide (j ≤ 9)
@[irreducible] def lvE (j : Nat) (th : Th) : Nat := if j = 9 ∧ th.reg 4 = 0 then 8 else lev j
@[irreducible] def locE (j : Nat) (mem : List Int) : Nat := if mem.getD 16 0 = 0 then (if j = 9 then 3 else if j = 7 then 2 else if j = 8 then 1 else 0) else 0
@[irreducible] def coldE (j : Nat) (th : Th) (mem : List Int) : Bool := decide (mem.getD 16 0 ≠ 0 ∧ (j = 7 ∨ j = 8 ∨ (j = 9 ∧ th.reg 4 ≠ 0)))
theorem coldE_iff {j : Nat} {th : Th} {mem : List Int} : coldE j th mem = true ↔ mem.getD 16 0 ≠ 0 ∧ (j = 7 ∨ j = 8 ∨ (j = 9 ∧ th.reg 4 ≠ 0)) := by unfold coldE; exact decide_eq_true_iff
theorem lv7 (th : Th) : lvE 7 th = 7 := by unfold lvE; rw [if_neg (by rintro ⟨h, _⟩; cases h)]; rfl
theorem lv8 (th : Th) : lvE 8 th = 7 := by unfold lvE; rw [if_neg (by rintro ⟨h, _⟩; cases h)]; rfl
theorem lv10 (th : Th) : lvE 10 th = 9 := by unfold lvE; rw [if_neg (by rintro ⟨h, _⟩; cases h)]; rfl
theorem lv9z (th : Th) (h : th.reg 4 = 0) : lvE 9 th = 8 := by unfold lvE; rw [if_pos ⟨rfl, h⟩]
theorem lv9n (th : Th) (h : th.reg 4 ≠ 0) : lvE 9 th = 7 := by unfold lvE; rw [if_neg (fun c => h c.2)]; rfl
def L (T R : Nat) : Lad := ⟨T, R, 3, fun _ => 27, fun _ => 27, fun _ j th => lvE j th, fun _ j _ mem => locE j mem, fun _ j th mem => coldE j th mem⟩
def J (T R : Nat) (s : Ts) : Prop := (∃ f i, (X T R).Inv s f i) ∧ 0 < s.room ∧ (s.mem.getD 16 0 = 0 ∨ ∃ u : Nat, u < T ∧ s.mem.getD 16 0 = ((u + 1 : Nat) : Int))
theorem hl (T R t : Nat) : ∀ j th, lev j ≤ (L T R).lv t j th ∧ (L T R).lv t j th < (L T R).Lm t := fun j th => by
 show lev j ≤ lvE j th ∧ lvE j th < 27
 unfold lvE lev
 by_cases c : j = 9 ∧ th.reg 4 = 0
 ·rw [if_pos c, c.1]; decide
 ·rw [if_neg c]
  refine ⟨Nat.le_refl _, ?_⟩
  split
  ·omega
  ·split <;> omega
theorem hflat (T R t : Nat) : ∀ j th, loop j = false → (L T R).lv t j th = lev j := fun j th h => by
 show lvE j th = lev j
 unfold lvE
 rw [if_neg]
 rintro ⟨e, _⟩
 subst e; cases h
theorem hst (me : Int) : chkL 27 lev loop (base me) = true := rfl
theorem hkeep (me : Int) : keepL 27 (fun j => j == 8) (base me) = true := rfl
section
variable {T R t : Nat} {codes : List (List Ins)} {s s' : Ts}
theorem stand {f : Nat → Loc} {i : Int} (h : (X T R).Inv s f i) (ht : t < T) (hc : codes[t]? = some (codeT R t)) : Stand codes 27 R (base ((t + 1 : Nat) : Int)) s t (Loc.th 27 (f t)) (f t).p (f t).j :=
 ⟨h.hs t ht, rfl, h.fr t ht, _, hc, code_len R t, fun p j hp hj => code_get R t p j hp hj⟩
theorem out (hJ : J T R s) (ht : t < T) (hR : R ≤ 100) (hc : codes[t]? = some (codeT R t)) (hgo : s.stepT codes t = some s') : (L T R).Out t s s' := by
 obtain ⟨⟨f, i, h⟩, hr, ho⟩ := hJ
 have S := stand h ht hc
 have hI := h.I t ht
 have hnm : s.mem.length = 17 := h.nm
 have hths : s.ths.length = T := h.nths
 have W := S.way (s' := s') (by rw [h.nb]; exact ht) hr (chk_op (hst _)) hgo
 generalize f t = x at S hI W
 obtain ⟨p, j, r0, r1, r2, r3, r4, r5, r6, r7, st⟩ := x
 refine Lad.out_of (X := L T R) (lev := lev) (loop := loop) (B := base ((t + 1 : Nat) : Int)) S W h.nths h.nb ht (by show R * 27 ≤ 1000000; omega) (by show 0 < 27; decide) (hl T R t) (hflat T R t) (chk_st (hst _)) ?_
 intro i2 th' hlp hp hj h0 hi hA hd hr2 Tn
 have hs := S.hs
 have h0 : st = 0 := h0
 subst h0
 have c : j = 7 ∨ j = 8 ∨ j = 9 := by
  unfold loop at hlp
  simp only [Bool.and_eq_true, decide_eq_true_eq] at hlp
  omega
 rcases c with rfl | rfl | rfl
 ·obtain rfl : (⟨1, 4, 0, 0, 0⟩ : Ins) = i2 := by simpa [base] using hi
  rw [movI_plain rfl] at hA
  have e := st_set hA
  rw [hgo] at e
  have e := Option.some.inj e
  refine Lad.out_keep (X := L T R) (j := 7) (k := 8) (th' := (⟨((p * 27 + 7 : Nat) : Int) + 1, [r0, r1, r2, r3, 0, r5, r6, r7], 0⟩ : Th)) (by rw [e]; rfl) (by rw [e]; rfl) (by rw [e]; rfl) hs rfl rfl hj hp rfl (by show ((p * 27 + 7 : Nat) : Int) + 1 = ((p * 27 + 8 : Nat) : Int); omega) (by show 8 < 27; decide) ((lv8 _).trans (lv7 _).symm) fun _ => ?_
  by_cases hz : s.mem.getD 16 0 = 0
  ·exact .inl (by show locE 8 s.mem < locE 7 s.mem; unfold locE; rw [if_pos hz, if_pos hz]; decide)
  ·exact .inr ⟨coldE_iff.2 ⟨hz, .inl rfl⟩, coldE_iff.2 ⟨hz, .inr (.inl rfl)⟩, by show locE 8 s.mem ≤ locE 7 s.mem; unfold locE; rw [if_neg hz, if_neg hz]; exact Nat.le_refl _⟩
 ·obtain rfl : (⟨21, 4, 8, 5, 16⟩ : Ins) = i2 := by simpa [base] using hi
  rw [movI_plain rfl] at hA
  have hq := empty_nil (hd (by decide))
  rw [hq] at hI
  have hl2 := load_nil hq 16
  have e := st_cas hA (ad := 16) (by rw [addr_abs]; rfl) (by omega) (hd (by decide))
  rw [hgo, hl2] at e
  have e := Option.some.inj e
  have hr4 : r4 = 0 := by cases hI <;> assumption
  have hreg : (Loc.th 27 ⟨p, 8, r0, r1, r2, r3, r4, r5, r6, r7, 0⟩).reg 4 = 0 := hr4
  rw [hreg] at e
  by_cases hz : s.mem.getD 16 0 = 0
  ·rw [if_pos hz] at e
   have hth := Tn.th_eq hs (th2 := (⟨((p * 27 + 8 : Nat) : Int) + 1, [r0, r1, r2, r3, s.mem.getD 16 0, r5, r6, r7], 0⟩ : Th)) (by rw [e]; rfl)
   exact Lad.out_lt (X := L T R) (hl T R t) ht hths Tn hs rfl rfl hj hp (j := 8) (k := 9) (by rw [hth]; exact (by show ((p * 27 + 8 : Nat) : Int) + 1 = ((p * 27 + 9 : Nat) : Int); omega)) (by show 9 < 27; decide) (by rw [hth]; exact (by have a := lv8 (Loc.th 27 ⟨p, 8, r0, r1, r2, r3, r4, r5, r6, r7, 0⟩); have b := lv9z (⟨((p * 27 + 8 : Nat) : Int) + 1, [r0, r1, r2, r3, s.mem.getD 16 0, r5, r6, r7], 0⟩ : Th) hz; show lvE 8 _ < lvE 9 _; rw [a, b]; decide))
  ·rw [if_neg hz] at e
   refine Lad.out_keep (X := L T R) (j := 8) (k := 9) (th' := (⟨((p * 27 + 8 : Nat) : Int) + 1, [r0, r1, r2, r3, s.mem.getD 16 0, r5, r6, r7], 0⟩ : Th)) (by rw [e]; rfl) (by rw [e]; rfl) (by rw [e]; rfl) hs rfl rfl hj hp rfl (by show ((p * 27 + 8 : Nat) : Int) + 1 = ((p * 27 + 9 : Nat) : Int); omega) (by show 9 < 27; decide) ((lv9n (⟨((p * 27 + 8 : Nat) : Int) + 1, [r0, r1, r2, r3, s.mem.getD 16 0, r5, r6, r7], 0⟩ : Th) hz).trans (lv8 _).symm) fun _ => ?_
   exact .inr ⟨coldE_iff.2 ⟨hz, .inr (.inl rfl)⟩, coldE_iff.2 ⟨hz, .inr (.inr ⟨rfl, hz⟩)⟩, by show locE 9 s.mem ≤ locE 8 s.mem; unfold locE; rw [if_neg hz, if_neg hz]; exact Nat.le_refl _⟩
 ·obtain rfl : (⟨15, 4, 0, 0, 7⟩ : Ins) = i2 := by simpa [base] using hi
  rw [movI_jump rfl] at hA
  have e := st_some hA
  rw [hgo] at e
  have e := Option.some.inj e
  have hreg : (Loc.th 27 ⟨p, 9, r0, r1, r2, r3, r4, r5, r6, r7, 0⟩).reg 4 = r4 := rfl
  rw [hreg] at e
  by_cases hz4 : r4 = 0
  ·rw [if_neg (by intro c; exact c hz4)] at e
   have hth := Tn.th_eq hs (th2 := (⟨((p * 27 + 9 : Nat) : Int) + 1, [r0, r1, r2, r3, r4, r5, r6, r7], 0⟩ : Th)) (by rw [e]; rfl)
   exact Lad.out_lt (X := L T R) (hl T R t) ht hths Tn hs rfl rfl hj hp (j := 9) (k := 10) (by rw [hth]; exact (by show ((p * 27 + 9 : Nat) : Int) + 1 = ((p * 27 + 10 : Nat) : Int); omega)) (by show 10 < 27; decide) (by rw [hth]; exact (by have a := lv9z (Loc.th 27 ⟨p, 9, r0, r1, r2, r3, r4, r5, r6, r7, 0⟩) hz4; have b := lv10 (⟨((p * 27 + 9 : Nat) : Int) + 1, [r0, r1, r2, r3, r4, r5, r6, r7], 0⟩ : Th); show lvE 9 _ < lvE 10 _; rw [a, b]; decide))
  ·rw [if_pos hz4] at e
   refine Lad.out_keep (X := L T R) (j := 9) (k := 7) (th' := (⟨wr32 ((7 : Int) + ((p * 27 : Nat) : Int)), [r0, r1, r2, r3, r4, r5, r6, r7], 0⟩ : Th)) (by rw [e]; rfl) (by rw [e]; rfl) (by rw [e]; rfl) hs rfl rfl hj hp rfl (by show wr32 ((7 : Int) + ((p * 27 : Nat) : Int)) = ((p * 27 + 7 : Nat) : Int); have : p < R := hp; unfold wr32; omega) (by show 7 < 27; decide) ((lv7 _).trans (lv9n (Loc.th 27 ⟨p, 9, r0, r1, r2, r3, r4, r5, r6, r7, 0⟩) hz4).symm) fun _ => ?_
   by_cases hz : s.mem.getD 16 0 = 0
   ·exact .inl (by show locE 7 s.mem < locE 9 s.mem; unfold locE; rw [if_pos hz, if_pos hz]; decide)
   ·exact .inr ⟨coldE_iff.2 ⟨hz, .inr (.inr ⟨rfl, hz4⟩)⟩, coldE_iff.2 ⟨hz, .inl rfl⟩, by show locE 7 s.mem ≤ locE 9 s.mem; unfold locE; rw [if_neg hz, if_neg hz]; exact Nat.le_refl _⟩
theorem own_mem {f : Nat → Loc} {i : Int} (h : (X T R).Inv s f i) (hr : 0 < s.room) (hc : ∀ t, t < T → codes[t]? = some (codeT R t)) (ho : s.mem.getD 16 0 = 0 ∨ ∃ u : Nat, u < T ∧ s.mem.getD 16 0 = ((u + 1 : Nat) : Int)) {q : Nat × Nat} (hp : s.pick codes q = some s') : s'.room = s.room ∧ (s'.mem.getD 16 0 = 0 ∨ ∃ u : Nat, u < T ∧ s'.mem.getD 16 0 = ((u + 1 : Nat) : Int)) := by
 have hnm : s.mem.length = 17 := h.nm
 have hfl : ∀ t, t < T → (s.flush t).mem.getD 16 0 = 0 ∨ ∃ u : Nat, u < T ∧ (s.flush t).mem.getD 16 0 = ((u + 1 : Nat) : Int) := fun t ht => by
  rcases mem_flush s t with e | ⟨e, r, hq, hm⟩
  ·rw [e]; exact ho
  ·have hat := h.I t ht
   rw [hq] at hat
   obtain ⟨how, hb⟩ := own_buf hat (by omega)
   rw [hm, get_set (by omega)]
   rcases hb with ⟨e0, _, _⟩ | ⟨e0, e1, _⟩
   ·rw [if_neg (by omega)]; exact ho
   ·rw [if_pos e0, e1]; exact .inl rfl
 rcases pick_cases hp h.slp with e | ⟨ht, e⟩ | ⟨ht, e⟩
 ·rw [e]; exact ⟨rfl, ho⟩
 ·have ht : q.2 < T := by have e2 : s.ths.length = T := h.nths; omega
  have S := stand h ht (hc _ ht)
  have W := S.way (s' := s') (by rw [h.nb]; exact ht) hr (chk_op (hst _)) e
  refine ⟨W.room (by rw [h.nb]; exact ht), ?_⟩
  have hI := h.I _ ht
  cases W with
  | flush e _ => rw [e]; exact hfl _ ht
  | ended _ _ _ e => rw [e]; exact ho
  | still _ e => rw [e]; exact ho
  | turn i th' h0 hp hj hi hA hd hr2 Tn =>
   by_cases c : (f q.2).j = 8
   ·generalize f q.2 = x at c hI hi hA
    obtain ⟨p, j, r0, r1, r2, r3, r4, r5, r6, r7, st⟩ := x
    have c : j = 8 := c
    subst c
    obtain rfl : (⟨21, 4, 8, 5, 16⟩ : Ins) = i := by simpa [base] using hi
    rw [movI_plain rfl] at hA
    rw [empty_nil (hd (by decide))] at hI
    have e2 := st_cas hA (ad := 16) (by rw [addr_abs]; rfl) (by omega) (hd (by decide))
    rw [e] at e2
    have e2 := Option.some.inj e2
    rw [e2]
    split
    ·refine .inr ⟨q.2, ht, ?_⟩
     show (s.mem.set 16 _).getD 16 0 = _
     rw [get_set (by omega), if_pos rfl]
     show r5 = _
     cases hI <;> assumption
    ·exact ho
   ·have hm := Tn.mem
    have hno := keep_op (hkeep _) hj (beq_eq_false_iff_ne.2 c) hi
    rw [movI_op] at hm
    rw [hm hno.1 hno.2.1 hno.2.2.1 hno.2.2.2]; exact ho
 ·have ht : q.2 < T := by have e2 : s.ths.length = T := h.nths; omega
  rw [e]
  exact ⟨(s.flush_same q.2 (by rw [h.nb]; exact ht)).room, hfl _ ht⟩
theorem at_mine {me c r1 r2 r4 r5 r6 r7 : Int} {j : Nat} (h : At me me c j r1 r2 r4 r5 r6 r7 []) : j ≠ 0 ∧ j ≠ 7 ∧ j ≠ 8 ∧ (j = 9 → r4 = 0) := by
 cases h <;> first | (exact absurd rfl (by assumption)) | (refine ⟨by decide, by decide, by decide, fun e => ?_⟩ <;> first | assumption | (cases e))
theorem fit (hR0 : 0 < R) (hR : R ≤ 100) (hc : ∀ t, t < T → codes[t]? = some (codeT R t)) : (L T R).Fit codes (J T R) where
 len := fun s ⟨⟨f, i, h⟩, _⟩ => ⟨h.nths, h.nb, h.slp⟩
 go := fun s p ⟨⟨f, i, h⟩, hr, ho⟩ => by
  obtain ⟨s', h1, f', i', h2⟩ := run hR0 hR hc [p] h
  have hp := run_one h1
  have hk := own_mem h hr hc ho hp
  exact ⟨s', hp, ⟨f', i', h2⟩, by rw [hk.1]; exact hr, hk.2⟩
 step := fun s t s' hJ ht hgo => out hJ ht hR (hc t ht) hgo
 lo := fun t th mem q => by
  unfold Lad.lo
  split
  ·exact Nat.zero_le _
  ·show locE _ mem ≤ 3
   unfold locE
   split
   ·split
    ·exact Nat.le_refl _
    ·split
     ·decide
     ·split <;> decide
   ·decide
 gone := fun s ⟨⟨f, i, h⟩, hr, ho⟩ hall t ht => by
  have hth : ∀ u, u < T → s.th u = Loc.th 27 (f u) := fun u hu => by unfold Ts.th; rw [h.hs u hu]; rfl
  have key : ∀ u, u < T → (f u).st = 0 → (f u).p < R ∧ (f u).j < 27 → coldE (f u).j (Loc.th 27 (f u)) s.mem = true := fun u hu h0 ⟨hp, hj⟩ => by
   have := (hall u hu).2
   rw [(hall u hu).1, hth u hu] at this
   exact (Lad.stuck_at (X := L T R) (t := u) h0 rfl hj hp _).1 this
  have h0 : s.mem.getD 16 0 = 0 := by
   rcases ho with e | ⟨u, hu, e⟩
   ·exact e
   ·exfalso
    have hI := h.I u hu
    rw [(hall u hu).1, e] at hI
    obtain ⟨m1, m2, m3, m4⟩ := at_mine hI
    rcases h.fr u hu with ⟨k0, kp, kj⟩ | ⟨_, kj, _⟩
    ·have := key u hu k0 ⟨kp, kj⟩
     rw [coldE_iff] at this
     rcases this.2 with c | c | c
     ·exact m2 c
     ·exact m3 c
     ·exact c.2 (m4 c.1)
    ·exact m1 kj
  intro hst
  rw [hth t ht] at hst
  rcases h.fr t ht with ⟨k0, kp, kj⟩ | ⟨kp, kj, k0⟩
  ·have := key t ht k0 ⟨kp, kj⟩
   rw [coldE_iff] at this
   exact this.1 h0
  ·have hs := (hall t ht).2
   rw [(hall t ht).1, hth t ht] at hs
   exact Lad.stuck_end hs (by show (((f t).p * 27 + (f t).j : Nat) : Int) = ((R * 27 : Nat) : Int); have kp : (f t).p = R := kp; rw [kp, kj]; rfl) (by show 0 < 27; decide) hst
end
end Go.Proofs.YtckmkaeopnnbbaaGreatDoor.As.Tas
