/- Plain Lean: dekker's lock: both end. No program in sight. -/
import Derived.Test.YtckmkaeopnnbbaaGreatDoorEnX
import Derived.Test.YtckmkaeopnnbbaaGreatDoorTq6
set_option linter.unusedVariables false
set_option linter.unusedSimpArgs false
namespace Go.Proofs.YtckmkaeopnnbbaaGreatDoor.As.Dek
open Wd

def levF (j : Nat) : Nat := if j ≤ 6 then j else if j ≤ 15 then 7 else min (j + 2) 37
def loopF (j : Nat) : Bool := decide (7 ≤ j) && decide (j ≤ 15)
def tabF (b z : Bool) : List Nat := if b then (if z then [7, 8, 9, 10, 1, 2, 4, 5, 6] else [7, 8, 9, 0, 1, 2, 4, 3, 6]) else (if z then [2, 3, 4, 8, 6, 7, 8, 0, 1] else [2, 3, 4, 5, 6, 7, 8, 8, 1])
def lvFB (j : Nat) (b z : Bool) : Nat := if 7 ≤ j ∧ j ≤ 15 then 7 + (tabF b z).getD (j - 7) 0 else levF j
@[irreducible] def lvF (j : Nat) (th : Th) (mem : List Int) : Nat := lvFB j (decide (mem.getD 17 0 = 0)) (decide (th.reg 4 = 0))
def levS (j : Nat) : Nat := if j ≤ 10 then j else if j = 11 then 10 else min j 31
def loopS (j : Nat) : Bool := decide (9 ≤ j) && decide (j ≤ 11)
def lvSB (j : Nat) (z : Bool) : Nat := if (j == 11) && z then 11 else levS j
@[irreducible] def lvS (j : Nat) (th : Th) (_ : List Int) : Nat := lvSB j (decide (th.reg 4 = 0))
def locF (_ : Nat) (_ : Th) (_ : List Int) : Nat := 0
@[irreducible] def locS (j : Nat) (_ : Th) (mem : List Int) : Nat := if mem.getD 16 0 = 0 ∧ j = 11 then 1 else 0
@[irreducible] def coldF (j : Nat) (th : Th) (mem : List Int) : Bool := decide (mem.getD 17 0 ≠ 0 ∧ (j = 13 ∨ (j = 14 ∧ th.reg 4 ≠ 0)))
@[irreducible] def coldS (j : Nat) (th : Th) (mem : List Int) : Bool := decide (mem.getD 16 0 ≠ 0 ∧ (j = 10 ∨ (j = 11 ∧ th.reg 4 ≠ 0)))
def L (A R : Nat) : Lad := ⟨2, R, 1, fun t => if t = A then 36 else 32, fun t => if t = A then 38 else 32, fun t => if t = A then lvF else lvS, fun t => if t = A then locF else locS, fun t => if t = A then coldF else coldS, fun t => if t = A then 1 else 23⟩
def J (A R : Nat) (s : Ts) : Prop := (∃ f i, (X A R).Inv s f i) ∧ 0 < s.room
theorem lvF_eq (j : Nat) (th : Th) (mem : List Int) : lvF j th mem = lvFB j (decide (mem.getD 17 0 = 0)) (decide (th.reg 4 = 0)) := by unfold lvF; rfl
theorem lvS_eq (j : Nat) (th : Th) (mem : List Int) : lvS j th mem = lvSB j (decide (th.reg 4 = 0)) := by unfold lvS; rfl
theorem coldF_iff {j : Nat} {th : Th} {mem : List Int} : coldF j th mem = true ↔ mem.getD 17 0 ≠ 0 ∧ (j = 13 ∨ (j = 14 ∧ th.reg 4 ≠ 0)) := by unfold coldF; exact decide_eq_true_iff
theorem coldS_iff {j : Nat} {th : Th} {mem : List Int} : coldS j th mem = true ↔ mem.getD 16 0 ≠ 0 ∧ (j = 10 ∨ (j = 11 ∧ th.reg 4 ≠ 0)) := by unfold coldS; exact decide_eq_true_iff
theorem locS_z {j : Nat} {th : Th} {mem : List Int} (h : mem.getD 16 0 ≠ 0) : locS j th mem = 0 := by unfold locS; rw [if_neg (fun c => h c.1)]
theorem locS10 {th : Th} {mem : List Int} : locS 10 th mem = 0 := by unfold locS; rw [if_neg (fun c => by cases c.2)]
theorem locS11 {th : Th} {mem : List Int} (h : mem.getD 16 0 = 0) : locS 11 th mem = 1 := by unfold locS; rw [if_pos ⟨h, rfl⟩]
theorem loop_cases {j : Nat} (h : 7 ≤ j ∧ j ≤ 15) : j = 7 ∨ j = 8 ∨ j = 9 ∨ j = 10 ∨ j = 11 ∨ j = 12 ∨ j = 13 ∨ j = 14 ∨ j = 15 := by omega
theorem lvFB_rng {j : Nat} (b z : Bool) (h : 7 ≤ j ∧ j ≤ 15) : 7 ≤ lvFB j b z ∧ lvFB j b z ≤ 17 := by
  rcases loop_cases h with rfl | rfl | rfl | rfl | rfl | rfl | rfl | rfl | rfl <;> (revert b z; decide)
theorem lvFB_out {j : Nat} (b z : Bool) (h : ¬(7 ≤ j ∧ j ≤ 15)) : lvFB j b z = levF j := by unfold lvFB; rw [if_neg h]
theorem lvF_near (j : Nat) (th : Th) (m m' : List Int) : lvF j th m ≤ lvF j th m' + 10 := by
  rw [lvF_eq, lvF_eq]
  by_cases h : 7 ≤ j ∧ j ≤ 15
  · have h1 := lvFB_rng (decide (m.getD 17 0 = 0)) (decide (th.reg 4 = 0)) h
    have h2 := lvFB_rng (decide (m'.getD 17 0 = 0)) (decide (th.reg 4 = 0)) h
    omega
  · rw [lvFB_out _ _ h, lvFB_out _ _ h]; omega
theorem hlF : ∀ (j : Nat) (th : Th) (m : List Int), levF j ≤ lvF j th m ∧ lvF j th m < 38 := fun j th m => by
  rw [lvF_eq]
  by_cases h : 7 ≤ j ∧ j ≤ 15
  · have h1 := lvFB_rng (decide (m.getD 17 0 = 0)) (decide (th.reg 4 = 0)) h
    have h2 : levF j = 7 := by unfold levF; rw [if_neg (by omega), if_pos h.2]
    omega
  · rw [lvFB_out _ _ h]
    refine ⟨Nat.le_refl _, ?_⟩
    unfold levF
    (repeat' split) <;> omega
theorem hlS : ∀ (j : Nat) (th : Th) (m : List Int), levS j ≤ lvS j th m ∧ lvS j th m < 32 := fun j th m => by
  rw [lvS_eq]
  unfold lvSB
  split
  · next c =>
    simp only [Bool.and_eq_true, beq_iff_eq] at c
    rw [c.1]; decide
  · refine ⟨Nat.le_refl _, ?_⟩
    unfold levS
    (repeat' split) <;> omega
theorem hflatF : ∀ (j : Nat) (th : Th) (m : List Int), loopF j = false → lvF j th m = levF j := fun j th m h => by
  rw [lvF_eq]
  refine lvFB_out _ _ fun c => ?_
  unfold loopF at h
  rw [decide_eq_true c.1, decide_eq_true c.2] at h
  cases h
theorem lvS_n (j : Nat) (th : Th) (m : List Int) (h : j = 11 → th.reg 4 ≠ 0) : lvS j th m = levS j := by
  rw [lvS_eq]
  unfold lvSB
  rw [if_neg]
  simp only [Bool.and_eq_true, beq_iff_eq, decide_eq_true_eq]
  exact fun c => h c.1 c.2
theorem lvS_z (th : Th) (m : List Int) (h : th.reg 4 = 0) : lvS 11 th m = 11 := by rw [lvS_eq, decide_eq_true h]; rfl
theorem hflatS : ∀ (j : Nat) (th : Th) (m : List Int), loopS j = false → lvS j th m = levS j := fun j th m h => lvS_n j th m (fun e => by subst e; cases h)
theorem hstF (me : Int) : chkL 36 levF loopF (baseF me) = true := rfl
theorem hstS (me : Int) : chkL 32 levS loopS (baseS me) = true := rfl
theorem hkeepF (me : Int) : keepL 36 loopF (baseF me) = true := rfl
theorem hkeepS (me : Int) : keepL 32 loopS (baseS me) = true := rfl
section
variable {th th' : Th} {m : List Int}
theorem F7 : lvF 7 th m < lvF 8 th' m := by
  rw [lvF_eq, lvF_eq]
  generalize decide (m.getD 17 0 = 0) = x0
  generalize decide (th.reg 4 = 0) = x1
  generalize decide (th'.reg 4 = 0) = x2
  revert x0 x1 x2
  decide
theorem F8 : lvF 8 th m < lvF 9 th' m := by
  rw [lvF_eq, lvF_eq]
  generalize decide (m.getD 17 0 = 0) = x0
  generalize decide (th.reg 4 = 0) = x1
  generalize decide (th'.reg 4 = 0) = x2
  revert x0 x1 x2
  decide
theorem F9 (h : th'.reg 4 = m.getD 17 0) : lvF 9 th m < lvF 10 th' m := by
  rw [lvF_eq, lvF_eq, show decide (th'.reg 4 = 0) = decide (m.getD 17 0 = 0) by rw [h]]
  generalize decide (m.getD 17 0 = 0) = x0
  generalize decide (th.reg 4 = 0) = x1
  revert x0 x1
  decide
theorem F10z (h : th.reg 4 = 0) : lvF 10 th m < lvF 16 th' m := by
  rw [lvF_eq, lvF_eq, decide_eq_true h]
  generalize decide (m.getD 17 0 = 0) = x0
  generalize decide (th'.reg 4 = 0) = x1
  revert x0 x1
  decide
theorem F10n (h : th.reg 4 ≠ 0) : lvF 10 th m < lvF 11 th' m := by
  rw [lvF_eq, lvF_eq, decide_eq_false h]
  generalize decide (m.getD 17 0 = 0) = x0
  generalize decide (th'.reg 4 = 0) = x1
  revert x0 x1
  decide
theorem F11 : lvF 11 th m < lvF 12 th' m := by
  rw [lvF_eq, lvF_eq]
  generalize decide (m.getD 17 0 = 0) = x0
  generalize decide (th.reg 4 = 0) = x1
  generalize decide (th'.reg 4 = 0) = x2
  revert x0 x1 x2
  decide
theorem F12 : lvF 12 th m < lvF 13 th' m := by
  rw [lvF_eq, lvF_eq]
  generalize decide (m.getD 17 0 = 0) = x0
  generalize decide (th.reg 4 = 0) = x1
  generalize decide (th'.reg 4 = 0) = x2
  revert x0 x1 x2
  decide
theorem F13 (h : th'.reg 4 = m.getD 17 0) (hb : m.getD 17 0 = 0) : lvF 13 th m < lvF 14 th' m := by
  rw [lvF_eq, lvF_eq, show decide (th'.reg 4 = 0) = decide (m.getD 17 0 = 0) by rw [h], decide_eq_true hb]
  generalize decide (th.reg 4 = 0) = x0
  revert x0
  decide
theorem F13e (h : th'.reg 4 = m.getD 17 0) (hb : m.getD 17 0 ≠ 0) : lvF 14 th' m = lvF 13 th m := by
  rw [lvF_eq, lvF_eq, show decide (th'.reg 4 = 0) = decide (m.getD 17 0 = 0) by rw [h], decide_eq_false hb]
  generalize decide (th.reg 4 = 0) = x0
  revert x0
  decide
theorem F14z (h : th.reg 4 = 0) : lvF 14 th m < lvF 15 th' m := by
  rw [lvF_eq, lvF_eq, decide_eq_true h]
  generalize decide (m.getD 17 0 = 0) = x0
  generalize decide (th'.reg 4 = 0) = x1
  revert x0 x1
  decide
theorem F14n (h : th.reg 4 ≠ 0) (hb : m.getD 17 0 = 0) : lvF 14 th m < lvF 13 th' m := by
  rw [lvF_eq, lvF_eq, decide_eq_false h, decide_eq_true hb]
  generalize decide (th'.reg 4 = 0) = x0
  revert x0
  decide
theorem F14e (h : th.reg 4 ≠ 0) (hb : m.getD 17 0 ≠ 0) : lvF 13 th' m = lvF 14 th m := by
  rw [lvF_eq, lvF_eq, decide_eq_false h, decide_eq_false hb]
  generalize decide (th'.reg 4 = 0) = x0
  revert x0
  decide
theorem F15 : lvF 15 th m < lvF 7 th' m := by
  rw [lvF_eq, lvF_eq]
  generalize decide (m.getD 17 0 = 0) = x0
  generalize decide (th.reg 4 = 0) = x1
  generalize decide (th'.reg 4 = 0) = x2
  revert x0 x1 x2
  decide
end
section
variable {A R t : Nat} {codes : List (List Ins)} {s s' : Ts} {f : Nat → Loc} {i : Int} {th th' : Th} {m m' : List Int}
theorem eLF : (L A R).Lb A = 36 := if_pos rfl
theorem eMF : (L A R).Lm A = 38 := if_pos rfl
theorem eVF : (L A R).lv A = lvF := if_pos rfl
theorem eOF : (L A R).loc A = locF := if_pos rfl
theorem eDF : (L A R).cold A = coldF := if_pos rfl
theorem eWF : (L A R).wt A = 1 := if_pos rfl
theorem eLS (hA : A < 2) : (L A R).Lb (1 - A) = 32 := if_neg (by omega)
theorem eMS (hA : A < 2) : (L A R).Lm (1 - A) = 32 := if_neg (by omega)
theorem eVS (hA : A < 2) : (L A R).lv (1 - A) = lvS := if_neg (by omega)
theorem eOS (hA : A < 2) : (L A R).loc (1 - A) = locS := if_neg (by omega)
theorem eDS (hA : A < 2) : (L A R).cold (1 - A) = coldS := if_neg (by omega)
theorem eWS (hA : A < 2) : (L A R).wt (1 - A) = 23 := if_neg (by omega)
theorem wF : 0 < (L A R).wt A := by rw [eWF]; decide
theorem wS (hA : A < 2) : 0 < (L A R).wt (1 - A) := by rw [eWS hA]; decide
theorem rkF_le : (L A R).rk A th m' ≤ (L A R).rk A th m + 10 := by
  unfold Lad.rk
  rw [eVF]
  have := lvF_near (th.pc.toNat % (L A R).Lb A) th m m'
  split
  · omega
  · split
    · omega
    · omega
theorem rkF_eq (h : m'.getD 17 0 = m.getD 17 0) : (L A R).rk A th m' = (L A R).rk A th m := by
  unfold Lad.rk
  rw [eVF, lvF_eq, lvF_eq, h]
theorem rkS_eq (hA : A < 2) : (L A R).rk (1 - A) th m' = (L A R).rk (1 - A) th m := by
  unfold Lad.rk
  rw [eVS hA, lvS_eq, lvS_eq]
theorem sum2 {g h : Nat → Nat} (hA : A < 2) (e : g A + g (1 - A) < h A + h (1 - A)) : sumN g 2 < sumN h 2 := by
  have : A = 0 ∨ A = 1 := by omega
  rcases this with rfl | rfl
  · have e : g 0 + g 1 < h 0 + h 1 := e
    show 0 + g 0 + g 1 < 0 + h 0 + h 1
    omega
  · have e : g 1 + g 0 < h 1 + h 0 := e
    show 0 + g 0 + g 1 < 0 + h 0 + h 1
    omega
theorem mem17_set {mem : List Int} {a : Nat} {v : Int} (h : a ≠ 17) : (mem.set a v).getD 17 0 = mem.getD 17 0 := by
  rw [List.getD_eq_getElem?_getD, List.getElem?_set_ne h, ← List.getD_eq_getElem?_getD]
theorem pth_ne {me c c' : Int} {σ σ' : Nat} {e : Nat × Int} {r : List (Nat × Int)} (h : Pth me 18 σ c (e :: r) σ' c') : e.1 ≠ 17 := by
  cases h <;> simp
theorem bigF (h : (X A R).Inv s f i) (hA : A < 2) (hq : s.buf A ≠ []) : (L A R).big (s.flush A) < (L A R).big s := by
  obtain ⟨σ, σ', c', pt, gg, hW⟩ := h.I
  refine Lad.flush_lt (X := L A R) wF hA (by rw [h.nb]; exact hA) hq fun u hu => ?_
  have hm : (s.flush A).mem.getD 17 0 = s.mem.getD 17 0 := by
    rcases mem_flush s A with e | ⟨e, r, e1, e2⟩
    · rw [e]
    · have hp := hW.pth
      rw [e1] at hp
      rw [e2]; exact mem17_set (pth_ne hp)
  have hu : u < 2 := hu
  by_cases c : u = A
  · subst c; rw [rkF_eq hm]; exact Nat.le_refl _
  · obtain rfl : u = 1 - A := by omega
    rw [rkS_eq hA (m := s.mem)]; exact Nat.le_refl _
theorem bigS (h : (X A R).Inv s f i) (hA : A < 2) (hq : s.buf (1 - A) ≠ []) : (L A R).big (s.flush (1 - A)) < (L A R).big s := by
  have hb : 1 - A < s.bufs.length := by rw [h.nb]; show 1 - A < 2; omega
  have e : (s.flush (1 - A)).ths = s.ths := (s.flush_same (1 - A) hb).ths
  have e2 : ∀ u, (s.flush (1 - A)).th u = s.th u := fun u => by unfold Ts.th; rw [e]
  have e3 := buf_flushF hb
  refine sum2 hA ?_
  have h1 := rkF_le (A := A) (R := R) (th := s.th A) (m := s.mem) (m' := (s.flush (1 - A)).mem)
  rw [eWF, eWS hA, e2, e2, rkS_eq hA (m := s.mem), e3, upF_self, upF_ne _ _ (show A ≠ 1 - A by omega)]
  cases hc : s.buf (1 - A) with
  | nil => exact absurd hc hq
  | cons x r => rw [List.tail_cons, List.length_cons]; omega
theorem standF (h : (X A R).Inv s f i) (hA : A < 2) (hc : codes[A]? = some (codeF R A)) : Stand codes 36 R (baseF ((A + 1 : Nat) : Int)) s A (Loc.th 36 (f A)) (f A).p (f A).j :=
  ⟨by have := h.hs A hA; rwa [X_F.1] at this, rfl, by have := h.fr A hA; rwa [X_F.1] at this, _, hc, codeF_len R A, fun p j hp hj => codeF_get R A p j hp hj⟩
theorem standS (h : (X A R).Inv s f i) (hA : A < 2) (hc : codes[1 - A]? = some (codeS R (1 - A))) : Stand codes 32 R (baseS ((1 - A + 1 : Nat) : Int)) s (1 - A) (Loc.th 32 (f (1 - A))) (f (1 - A)).p (f (1 - A)).j :=
  ⟨by have := h.hs (1 - A) (show 1 - A < 2 by omega); rwa [(X_S hA).1] at this, rfl, by have := h.fr (1 - A) (show 1 - A < 2 by omega); rwa [(X_S hA).1] at this, _, hc, codeS_len R (1 - A), fun p j hp hj => codeS_get R (1 - A) p j hp hj⟩
theorem outF (hJ : J A R s) (ht : A < 2) (hR : R ≤ 100) (hc : codes[A]? = some (codeF R A)) (hgo : s.stepT codes A = some s') : (L A R).Out A s s' := by
  obtain ⟨⟨f, i, h⟩, hr⟩ := hJ
  have S := standF h ht hc
  obtain ⟨σ, σ', c', pt, gg, hW⟩ := h.I
  have hl : s.load A 17 = s.mem.getD 17 0 := by unfold Ts.load; exact hW.pth.none_at (by decide) _
  have hnm : s.mem.length = 19 := h.nm
  have hths : s.ths.length = 2 := h.nths
  have W := S.way (s' := s') (by rw [h.nb]; exact ht) hr (chk_op (hstF _)) hgo
  have hfl := bigF h ht
  generalize f A = x at S W
  obtain ⟨p, j, r0, r1, r2, r3, r4, r5, r6, r7, st⟩ := x
  refine Lad.out_of2 (X := L A R) (lev := levF) (loop := loopF) (B := baseF ((A + 1 : Nat) : Int)) eLF eMF eVF S W h.nths h.nb ht (by show R * 36 ≤ 1000000; omega) (by decide) wF hfl hlF hflatF (hkeepF _) (chk_st (hstF _)) ?_
  intro i2 th' hlp hp hj h0 hi hA2 hd hr2 Tn
  have hs := S.hs
  have h0 : st = 0 := h0
  subst h0
  have c : 7 ≤ j ∧ j ≤ 15 := by
    unfold loopF at hlp
    simp only [Bool.and_eq_true, decide_eq_true_eq] at hlp
    exact hlp
  rcases loop_cases c with rfl | rfl | rfl | rfl | rfl | rfl | rfl | rfl | rfl
  · obtain rfl : (⟨1, 4, 0, 0, 1⟩ : Ins) = i2 := Option.some.inj hi
    rw [movI_plain rfl] at hA2
    have e := st_set hA2
    rw [hgo] at e
    have e := Option.some.inj e
    have hth := Tn.th_eq hs (th2 := (⟨((p * 36 + 7 : Nat) : Int) + 1, [r0, r1, r2, r3, 1, r5, r6, r7], 0⟩ : Th)) (by rw [e]; rfl)
    exact Lad.out_lt2 (X := L A R) (eLF) (eMF) (eVF) (wF) hlF ht hths Tn (by rw [e]; rfl) hs rfl rfl hj hp (j := 7) (k := 8) (by rw [hth]; exact (by show ((p * 36 + 7 : Nat) : Int) + 1 = ((p * 36 + 8 : Nat) : Int); omega)) (by decide) (by rw [hth]; exact F7)
  · obtain rfl : (⟨17, 4, 8, 0, 16⟩ : Ins) = i2 := Option.some.inj hi
    rw [movI_plain rfl] at hA2
    have e := st_store hA2 (ad := 16) (addr_abs _ _ _ _ _) (by have hnm : s.mem.length = 19 := hnm; omega)
    rw [hgo] at e
    have e := Option.some.inj e
    rw [if_pos (hr2 rfl)] at e
    have hth := Tn.th_eq hs (th2 := (⟨((p * 36 + 8 : Nat) : Int) + 1, [r0, r1, r2, r3, r4, r5, r6, r7], 0⟩ : Th)) (by rw [e]; rfl)
    exact Lad.out_lt2 (X := L A R) (eLF) (eMF) (eVF) (wF) hlF ht hths Tn (by rw [e]; rfl) hs rfl rfl hj hp (j := 8) (k := 9) (by rw [hth]; exact (by show ((p * 36 + 8 : Nat) : Int) + 1 = ((p * 36 + 9 : Nat) : Int); omega)) (by decide) (by rw [hth]; exact F8)
  · obtain rfl : (⟨16, 4, 8, 0, 17⟩ : Ins) = i2 := Option.some.inj hi
    rw [movI_plain rfl] at hA2
    have e := st_load hA2 (ad := 17) (addr_abs _ _ _ _ _) (by have hnm : s.mem.length = 19 := hnm; omega)
    rw [hgo] at e
    have e := Option.some.inj e
    have hth := Tn.th_eq hs (th2 := (⟨((p * 36 + 9 : Nat) : Int) + 1, [r0, r1, r2, r3, s.load A 17, r5, r6, r7], 0⟩ : Th)) (by rw [e]; rfl)
    exact Lad.out_lt2 (X := L A R) (eLF) (eMF) (eVF) (wF) hlF ht hths Tn (by rw [e]; rfl) hs rfl rfl hj hp (j := 9) (k := 10) (by rw [hth]; exact (by show ((p * 36 + 9 : Nat) : Int) + 1 = ((p * 36 + 10 : Nat) : Int); omega)) (by decide) (by rw [hth]; exact F9 hl)
  · obtain rfl : (⟨14, 4, 0, 0, 16⟩ : Ins) = i2 := Option.some.inj hi
    rw [movI_jump rfl] at hA2
    have e := st_zero hA2
    rw [hgo] at e
    have e := Option.some.inj e
    have hreg4 : (Loc.th 36 ⟨p, 10, r0, r1, r2, r3, r4, r5, r6, r7, 0⟩).reg 4 = r4 := rfl
    rw [hreg4] at e
    by_cases hz : r4 = 0
    · rw [if_pos hz] at e
      have hth := Tn.th_eq hs (th2 := (⟨wr32 ((16 : Int) + ((p * 36 : Nat) : Int)), [r0, r1, r2, r3, r4, r5, r6, r7], 0⟩ : Th)) (by rw [e]; rfl)
      exact Lad.out_lt2 (X := L A R) (eLF) (eMF) (eVF) (wF) hlF ht hths Tn (by rw [e]; rfl) hs rfl rfl hj hp (j := 10) (k := 16) (by rw [hth]; exact (by show wr32 ((16 : Int) + ((p * 36 : Nat) : Int)) = ((p * 36 + 16 : Nat) : Int); have : p < R := hp; unfold wr32; omega)) (by decide) (by rw [hth]; exact F10z hz)
    · rw [if_neg hz] at e
      have hth := Tn.th_eq hs (th2 := (⟨((p * 36 + 10 : Nat) : Int) + 1, [r0, r1, r2, r3, r4, r5, r6, r7], 0⟩ : Th)) (by rw [e]; rfl)
      exact Lad.out_lt2 (X := L A R) (eLF) (eMF) (eVF) (wF) hlF ht hths Tn (by rw [e]; rfl) hs rfl rfl hj hp (j := 10) (k := 11) (by rw [hth]; exact (by show ((p * 36 + 10 : Nat) : Int) + 1 = ((p * 36 + 11 : Nat) : Int); omega)) (by decide) (by rw [hth]; exact F10n hz)
  · obtain rfl : (⟨1, 4, 0, 0, 0⟩ : Ins) = i2 := Option.some.inj hi
    rw [movI_plain rfl] at hA2
    have e := st_set hA2
    rw [hgo] at e
    have e := Option.some.inj e
    have hth := Tn.th_eq hs (th2 := (⟨((p * 36 + 11 : Nat) : Int) + 1, [r0, r1, r2, r3, 0, r5, r6, r7], 0⟩ : Th)) (by rw [e]; rfl)
    exact Lad.out_lt2 (X := L A R) (eLF) (eMF) (eVF) (wF) hlF ht hths Tn (by rw [e]; rfl) hs rfl rfl hj hp (j := 11) (k := 12) (by rw [hth]; exact (by show ((p * 36 + 11 : Nat) : Int) + 1 = ((p * 36 + 12 : Nat) : Int); omega)) (by decide) (by rw [hth]; exact F11)
  · obtain rfl : (⟨17, 4, 8, 0, 16⟩ : Ins) = i2 := Option.some.inj hi
    rw [movI_plain rfl] at hA2
    have e := st_store hA2 (ad := 16) (addr_abs _ _ _ _ _) (by have hnm : s.mem.length = 19 := hnm; omega)
    rw [hgo] at e
    have e := Option.some.inj e
    rw [if_pos (hr2 rfl)] at e
    have hth := Tn.th_eq hs (th2 := (⟨((p * 36 + 12 : Nat) : Int) + 1, [r0, r1, r2, r3, r4, r5, r6, r7], 0⟩ : Th)) (by rw [e]; rfl)
    exact Lad.out_lt2 (X := L A R) (eLF) (eMF) (eVF) (wF) hlF ht hths Tn (by rw [e]; rfl) hs rfl rfl hj hp (j := 12) (k := 13) (by rw [hth]; exact (by show ((p * 36 + 12 : Nat) : Int) + 1 = ((p * 36 + 13 : Nat) : Int); omega)) (by decide) (by rw [hth]; exact F12)
  · obtain rfl : (⟨16, 4, 8, 0, 17⟩ : Ins) = i2 := Option.some.inj hi
    rw [movI_plain rfl] at hA2
    have e := st_load hA2 (ad := 17) (addr_abs _ _ _ _ _) (by have hnm : s.mem.length = 19 := hnm; omega)
    rw [hgo] at e
    have e := Option.some.inj e
    by_cases hz : s.mem.getD 17 0 = 0
    · have hth := Tn.th_eq hs (th2 := (⟨((p * 36 + 13 : Nat) : Int) + 1, [r0, r1, r2, r3, s.load A 17, r5, r6, r7], 0⟩ : Th)) (by rw [e]; rfl)
      exact Lad.out_lt2 (X := L A R) (eLF) (eMF) (eVF) (wF) hlF ht hths Tn (by rw [e]; rfl) hs rfl rfl hj hp (j := 13) (k := 14) (by rw [hth]; exact (by show ((p * 36 + 13 : Nat) : Int) + 1 = ((p * 36 + 14 : Nat) : Int); omega)) (by decide) (by rw [hth]; exact F13 hl hz)
    · refine Lad.out_keep2 (X := L A R) (k := 14) (j := 13) (th' := (⟨((p * 36 + 13 : Nat) : Int) + 1, [r0, r1, r2, r3, s.load A 17, r5, r6, r7], 0⟩ : Th)) eLF eVF eOF eDF (by rw [e]; rfl) (by rw [e]; rfl) (by rw [e]; rfl) hs rfl rfl hj hp rfl (by show ((p * 36 + 13 : Nat) : Int) + 1 = ((p * 36 + 14 : Nat) : Int); omega) (by decide) (F13e hl hz) fun _ => ?_
      exact .inr ⟨coldF_iff.2 ⟨hz, .inl rfl⟩, coldF_iff.2 ⟨hz, .inr ⟨rfl, fun e => hz (hl.symm.trans e)⟩⟩, Nat.le_refl _⟩
  · obtain rfl : (⟨15, 4, 0, 0, 13⟩ : Ins) = i2 := Option.some.inj hi
    rw [movI_jump rfl] at hA2
    have e := st_some hA2
    rw [hgo] at e
    have e := Option.some.inj e
    have hreg4 : (Loc.th 36 ⟨p, 14, r0, r1, r2, r3, r4, r5, r6, r7, 0⟩).reg 4 = r4 := rfl
    rw [hreg4] at e
    by_cases hz : r4 = 0
    · rw [if_neg (by intro c; exact c hz)] at e
      have hth := Tn.th_eq hs (th2 := (⟨((p * 36 + 14 : Nat) : Int) + 1, [r0, r1, r2, r3, r4, r5, r6, r7], 0⟩ : Th)) (by rw [e]; rfl)
      exact Lad.out_lt2 (X := L A R) (eLF) (eMF) (eVF) (wF) hlF ht hths Tn (by rw [e]; rfl) hs rfl rfl hj hp (j := 14) (k := 15) (by rw [hth]; exact (by show ((p * 36 + 14 : Nat) : Int) + 1 = ((p * 36 + 15 : Nat) : Int); omega)) (by decide) (by rw [hth]; exact F14z hz)
    · rw [if_pos hz] at e
      by_cases hb : s.mem.getD 17 0 = 0
      · have hth := Tn.th_eq hs (th2 := (⟨wr32 ((13 : Int) + ((p * 36 : Nat) : Int)), [r0, r1, r2, r3, r4, r5, r6, r7], 0⟩ : Th)) (by rw [e]; rfl)
        exact Lad.out_lt2 (X := L A R) (eLF) (eMF) (eVF) (wF) hlF ht hths Tn (by rw [e]; rfl) hs rfl rfl hj hp (j := 14) (k := 13) (by rw [hth]; exact (by show wr32 ((13 : Int) + ((p * 36 : Nat) : Int)) = ((p * 36 + 13 : Nat) : Int); have : p < R := hp; unfold wr32; omega)) (by decide) (by rw [hth]; exact F14n hz hb)
      · refine Lad.out_keep2 (X := L A R) (k := 13) (j := 14) (th' := (⟨wr32 ((13 : Int) + ((p * 36 : Nat) : Int)), [r0, r1, r2, r3, r4, r5, r6, r7], 0⟩ : Th)) eLF eVF eOF eDF (by rw [e]; rfl) (by rw [e]; rfl) (by rw [e]; rfl) hs rfl rfl hj hp rfl (by show wr32 ((13 : Int) + ((p * 36 : Nat) : Int)) = ((p * 36 + 13 : Nat) : Int); have : p < R := hp; unfold wr32; omega) (by decide) (F14e hz hb) fun _ => ?_
        exact .inr ⟨coldF_iff.2 ⟨hb, .inr ⟨rfl, hz⟩⟩, coldF_iff.2 ⟨hb, .inl rfl⟩, Nat.le_refl _⟩
  · obtain rfl : (⟨13, 0, 0, 0, 7⟩ : Ins) = i2 := Option.some.inj hi
    rw [movI_jump rfl] at hA2
    have e := st_jump hA2
    rw [hgo] at e
    have e := Option.some.inj e
    have hth := Tn.th_eq hs (th2 := (⟨wr32 ((7 : Int) + ((p * 36 : Nat) : Int)), [r0, r1, r2, r3, r4, r5, r6, r7], 0⟩ : Th)) (by rw [e]; rfl)
    exact Lad.out_lt2 (X := L A R) (eLF) (eMF) (eVF) (wF) hlF ht hths Tn (by rw [e]; rfl) hs rfl rfl hj hp (j := 15) (k := 7) (by rw [hth]; exact (by show wr32 ((7 : Int) + ((p * 36 : Nat) : Int)) = ((p * 36 + 7 : Nat) : Int); have : p < R := hp; unfold wr32; omega)) (by decide) (by rw [hth]; exact F15)
theorem atS10 {me ow c : Int} {g : Nat} {r1 r2 r4 r5 r6 r7 : Int} {q : List (Nat × Int)} (h : AtS me ow c g 10 r1 r2 r4 r5 r6 r7 q) : q = [] := by
  cases h; rfl
theorem Lad.rk_lt2 {X : Lad} {m m' : List Int} {lev : Nat → Nat} {Lb Lm p j k : Nat} {lv : Nat → Th → List Int → Nat} (eL : X.Lb t = Lb) (eM : X.Lm t = Lm) (eV : X.lv t = lv) (hl : ∀ j th m, lev j ≤ lv j th m ∧ lv j th m < Lm) (h0 : th.st = 0) (hpc : th.pc = ((p * Lb + j : Nat) : Int)) (hj : j < Lb) (hp : p < X.R) (h0' : th'.st = 0) (hpc' : th'.pc = ((p * Lb + k : Nat) : Int)) (hk : k < Lb) (hlv : lv j th m < lv k th' m') : X.rk t th' m' < X.rk t th m := by
  subst eL; subst eM; subst eV
  exact As.Lad.rk_lt hl h0 hpc hj hp h0' (.inr ⟨k, hpc', hk, hlv⟩)
theorem outS (hJ : J A R s) (hA : A < 2) (hR : R ≤ 100) (hc : codes[1 - A]? = some (codeS R (1 - A))) (hgo : s.stepT codes (1 - A) = some s') : (L A R).Out (1 - A) s s' := by
  obtain ⟨⟨f, i, h⟩, hr⟩ := hJ
  have ht : 1 - A < 2 := by omega
  have S := standS h hA hc
  obtain ⟨σ, σ', c', pt, gg, hW⟩ := h.I
  have hI := hW.hs
  have hnm : s.mem.length = 19 := h.nm
  have hths : s.ths.length = 2 := h.nths
  have W := S.way (s' := s') (by rw [h.nb]; exact ht) hr (chk_op (hstS _)) hgo
  have hfl := bigS h hA
  generalize f (1 - A) = x at S hI W
  obtain ⟨p, j, r0, r1, r2, r3, r4, r5, r6, r7, st⟩ := x
  refine Lad.out_of2 (X := L A R) (lev := levS) (loop := loopS) (B := baseS ((1 - A + 1 : Nat) : Int)) (eLS hA) (eMS hA) (eVS hA) S W h.nths h.nb ht (by show R * 32 ≤ 1000000; omega) (by decide) (wS hA) hfl hlS hflatS (hkeepS _) (chk_st (hstS _)) ?_
  intro i2 th' hlp hp hj h0 hi hA2 hd hr2 Tn
  have hs := S.hs
  have h0 : st = 0 := h0
  subst h0
  have c : j = 9 ∨ j = 10 ∨ j = 11 := by
    unfold loopS at hlp
    simp only [Bool.and_eq_true, decide_eq_true_eq] at hlp
    omega
  rcases c with rfl | rfl | rfl
  · obtain rfl : (⟨25, 0, 0, 0, 0⟩ : Ins) = i2 := Option.some.inj hi
    rw [movI_plain rfl] at hA2
    have e := st_remote hA2 (hd (by decide))
    rw [hgo] at e
    have e := Option.some.inj e
    have hth0 : s.th (1 - A) = (Loc.th 32 ⟨p, 9, r0, r1, r2, r3, r4, r5, r6, r7, 0⟩) := by unfold Ts.th; rw [hs]; rfl
    have hlt : 1 - A < s.ths.length := by omega
    have e1 := th_set (s := s) (t := 1 - A) (th' := (⟨((p * 32 + 9 : Nat) : Int) + 1, [r0, r1, r2, r3, r4, r5, r6, r7], 0⟩ : Th)) (by rw [e]; show s.remote.ths.set _ _ = _; rw [(Ts.remote_same s).ths]; rfl) hlt s' rfl
    have e2 : ∀ u, s'.buf u = s.remote.buf u := fun u => by rw [e]; rfl
    have h1 := rkF_le (A := A) (R := R) (th := s.th A) (m := s.mem) (m' := s'.mem)
    have h2 := Lad.rk_lt2 (X := L A R) (m := s.mem) (m' := s'.mem) (p := p) (j := 9) (k := 10) (th := (Loc.th 32 ⟨p, 9, r0, r1, r2, r3, r4, r5, r6, r7, 0⟩)) (th' := (⟨((p * 32 + 9 : Nat) : Int) + 1, [r0, r1, r2, r3, r4, r5, r6, r7], 0⟩ : Th)) (eLS hA) (eMS hA) (eVS hA) hlS rfl rfl (by decide) hp rfl (by show ((p * 32 + 9 : Nat) : Int) + 1 = ((p * 32 + 10 : Nat) : Int); omega) (by decide) (by rw [lvS_n _ _ _ (fun e => by cases e), lvS_n _ _ _ (fun e => by cases e)]; decide)
    have h3 := remote_shr s A
    have h4 := remote_shr s (1 - A)
    refine .inl (sum2 hA ?_)
    rw [eWF, eWS hA, e1, e1, if_pos rfl, if_neg (show A ≠ 1 - A by omega), hth0, e2, e2]
    omega
  · have hq0 := atS10 hI
    obtain rfl : (⟨16, 4, 8, 0, 16⟩ : Ins) = i2 := Option.some.inj hi
    rw [movI_plain rfl] at hA2
    have e := st_load hA2 (ad := 16) (addr_abs _ _ _ _ _) (by have hnm : s.mem.length = 19 := hnm; omega)
    rw [hgo] at e
    have e := Option.some.inj e
    have hl2 : s.load (1 - A) 16 = s.mem.getD 16 0 := load_nil hq0 16
    by_cases hz : s.mem.getD 16 0 = 0
    · have hth := Tn.th_eq hs (th2 := (⟨((p * 32 + 10 : Nat) : Int) + 1, [r0, r1, r2, r3, s.load (1 - A) 16, r5, r6, r7], 0⟩ : Th)) (by rw [e]; rfl)
      exact Lad.out_lt2 (X := L A R) (eLS hA) (eMS hA) (eVS hA) (wS hA) hlS ht hths Tn (by rw [e]; rfl) hs rfl rfl hj hp (j := 10) (k := 11) (by rw [hth]; exact (by show ((p * 32 + 10 : Nat) : Int) + 1 = ((p * 32 + 11 : Nat) : Int); omega)) (by decide) (by rw [hth]; exact (by rw [lvS_n 10 _ _ (fun e => by cases e), lvS_z (⟨((p * 32 + 10 : Nat) : Int) + 1, [r0, r1, r2, r3, s.load (1 - A) 16, r5, r6, r7], 0⟩ : Th) _ (hl2.trans hz)]; decide))
    · refine Lad.out_keep2 (X := L A R) (k := 11) (j := 10) (th' := (⟨((p * 32 + 10 : Nat) : Int) + 1, [r0, r1, r2, r3, s.load (1 - A) 16, r5, r6, r7], 0⟩ : Th)) (eLS hA) (eVS hA) (eOS hA) (eDS hA) (by rw [e]; rfl) (by rw [e]; rfl) (by rw [e]; rfl) hs rfl rfl hj hp rfl (by show ((p * 32 + 10 : Nat) : Int) + 1 = ((p * 32 + 11 : Nat) : Int); omega) (by decide) ((lvS_n 11 (⟨((p * 32 + 10 : Nat) : Int) + 1, [r0, r1, r2, r3, s.load (1 - A) 16, r5, r6, r7], 0⟩ : Th) _ (fun _ e => hz (hl2.symm.trans e))).trans ((rfl : levS 11 = levS 10).trans (lvS_n 10 _ _ (fun e => by cases e)).symm)) fun _ => ?_
      exact .inr ⟨coldS_iff.2 ⟨hz, .inl rfl⟩, coldS_iff.2 ⟨hz, .inr ⟨rfl, fun e => hz (hl2.symm.trans e)⟩⟩, by rw [locS_z hz, locS_z hz]; exact Nat.le_refl _⟩
  · obtain rfl : (⟨15, 4, 0, 0, 10⟩ : Ins) = i2 := Option.some.inj hi
    rw [movI_jump rfl] at hA2
    have e := st_some hA2
    rw [hgo] at e
    have e := Option.some.inj e
    have hreg4 : (Loc.th 32 ⟨p, 11, r0, r1, r2, r3, r4, r5, r6, r7, 0⟩).reg 4 = r4 := rfl
    rw [hreg4] at e
    by_cases hz : r4 = 0
    · rw [if_neg (by intro c; exact c hz)] at e
      have hth := Tn.th_eq hs (th2 := (⟨((p * 32 + 11 : Nat) : Int) + 1, [r0, r1, r2, r3, r4, r5, r6, r7], 0⟩ : Th)) (by rw [e]; rfl)
      exact Lad.out_lt2 (X := L A R) (eLS hA) (eMS hA) (eVS hA) (wS hA) hlS ht hths Tn (by rw [e]; rfl) hs rfl rfl hj hp (j := 11) (k := 12) (by rw [hth]; exact (by show ((p * 32 + 11 : Nat) : Int) + 1 = ((p * 32 + 12 : Nat) : Int); omega)) (by decide) (by rw [hth]; exact (by rw [lvS_z (Loc.th 32 ⟨p, 11, r0, r1, r2, r3, r4, r5, r6, r7, 0⟩) _ hz, lvS_n 12 _ _ (fun e => by cases e)]; decide))
    · rw [if_pos hz] at e
      refine Lad.out_keep2 (X := L A R) (k := 10) (j := 11) (th' := (⟨wr32 ((10 : Int) + ((p * 32 : Nat) : Int)), [r0, r1, r2, r3, r4, r5, r6, r7], 0⟩ : Th)) (eLS hA) (eVS hA) (eOS hA) (eDS hA) (by rw [e]; rfl) (by rw [e]; rfl) (by rw [e]; rfl) hs rfl rfl hj hp rfl (by show wr32 ((10 : Int) + ((p * 32 : Nat) : Int)) = ((p * 32 + 10 : Nat) : Int); have : p < R := hp; unfold wr32; omega) (by decide) ((lvS_n 10 _ _ (fun e => by cases e)).trans ((rfl : levS 10 = levS 11).trans (lvS_n 11 (Loc.th 32 ⟨p, 11, r0, r1, r2, r3, r4, r5, r6, r7, 0⟩) _ (fun _ => hz)).symm)) fun _ => ?_
      by_cases hb : s.mem.getD 16 0 = 0
      · exact .inl (by rw [locS10, locS11 hb]; decide)
      · exact .inr ⟨coldS_iff.2 ⟨hb, .inr ⟨rfl, hz⟩⟩, coldS_iff.2 ⟨hb, .inl rfl⟩, by rw [locS_z hb, locS_z hb]; exact Nat.le_refl _⟩
theorem room_keep (hA : A < 2) (h : (X A R).Inv s f i) (hr : 0 < s.room) (hc : codes[A]? = some (codeF R A)) (hc2 : codes[1 - A]? = some (codeS R (1 - A))) {q : Nat × Nat} (hp : s.pick codes q = some s') : s'.room = s.room := by
  have e2 : s.ths.length = 2 := h.nths
  rcases pick_cases hp h.slp with e | ⟨ht, e⟩ | ⟨ht, e⟩
  · rw [e]
  · by_cases c : q.2 = A
    · rw [c] at e
      exact ((standF h hA hc).way (s' := s') (by rw [h.nb]; exact hA) hr (chk_op (hstF _)) e).room (by rw [h.nb]; exact hA)
    · have c2 : q.2 = 1 - A := by omega
      have hu : 1 - A < 2 := by omega
      rw [c2] at e
      exact ((standS h hA hc2).way (s' := s') (by rw [h.nb]; exact hu) hr (chk_op (hstS _)) e).room (by rw [h.nb]; exact hu)
  · have ht : q.2 < 2 := by omega
    rw [e]; exact (s.flush_same q.2 (by rw [h.nb]; exact ht)).room
theorem pth_nil {me c c' : Int} {d σ σ' : Nat} (h : Pth me d σ c [] σ' c') : σ' = σ := by cases h; rfl
theorem atF0 {me c : Int} {σ : Nat} {pt : Bool} {j : Nat} {r1 r2 r4 r5 r6 r7 : Int} (h : AtF me c σ pt j r1 r2 r4 r5 r6 r7) (hj : j = 0 ∨ j = 13 ∨ j = 14) : σ = 0 := by
  cases h <;> first | rfl | (exfalso; omega)
theorem atS0 {me ow c : Int} {g : Nat} {r1 r2 r4 r5 r6 r7 : Int} (h : AtS me ow c g 0 r1 r2 r4 r5 r6 r7 []) : g = 0 := by
  cases h; assumption
theorem fit (hA : A < 2) (hR0 : 0 < R) (hR : R ≤ 100) (hc : codes[A]? = some (codeF R A)) (hc2 : codes[1 - A]? = some (codeS R (1 - A))) : (L A R).Fit codes (J A R) where
  len := fun s ⟨⟨f, i, h⟩, _⟩ => ⟨h.nths, h.nb, h.slp⟩
  go := fun s p ⟨⟨f, i, h⟩, hr⟩ => by
    obtain ⟨s', h1, f', i', h2⟩ := run hA hR hc hc2 [p] h
    have hp := run_one h1
    exact ⟨s', hp, ⟨f', i', h2⟩, by rw [room_keep hA h hr hc hc2 hp]; exact hr⟩
  step := fun s t s' hJ ht hgo => by
    have ht : t < 2 := ht
    by_cases e : t = A
    · subst e; exact outF hJ hA hR hc hgo
    · obtain rfl : t = 1 - A := by omega
      exact outS hJ hA hR hc2 hgo
  flush := fun s t ⟨⟨f, i, h⟩, _⟩ ht hq => by
    have ht : t < 2 := ht
    by_cases e : t = A
    · subst e; exact bigF h hA hq
    · obtain rfl : t = 1 - A := by omega
      exact bigS h hA hq
  lo := fun t th mem q => by
    unfold Lad.lo
    split
    · exact Nat.zero_le _
    · show (if t = A then locF else locS) _ _ _ ≤ 1
      split
      · exact Nat.zero_le _
      · unfold locS
        split
        · exact Nat.le_refl _
        · exact Nat.zero_le _
  gone := fun s ⟨⟨f, i, h⟩, hr⟩ hall t ht => by
    obtain ⟨σ, σ', c', pt, gg, hW⟩ := h.I
    have hB : 1 - A < 2 := by omega
    have hpt := hW.pth
    rw [(hall A hA).1] at hpt
    have hσ := pth_nil hpt
    have thF : s.th A = Loc.th 36 (f A) := by unfold Ts.th; rw [h.hs A hA, X_F.1]; rfl
    have thS : s.th (1 - A) = Loc.th 32 (f (1 - A)) := by unfold Ts.th; rw [h.hs (1 - A) hB, (X_S hA).1]; rfl
    have frF : (f A).fr R 36 := by have := h.fr A hA; rwa [X_F.1] at this
    have frS : (f (1 - A)).fr R 32 := by have := h.fr (1 - A) hB; rwa [(X_S hA).1] at this
    have aF := (hall A hA).2
    rw [(hall A hA).1, thF] at aF
    have aS := (hall (1 - A) hB).2
    rw [(hall (1 - A) hB).1, thS] at aS
    have cF : (f A).st = 0 ∧ (f A).p < R ∧ (f A).j < 36 → s.mem.getD 17 0 ≠ 0 ∧ ((f A).j = 13 ∨ (f A).j = 14) := fun ⟨k0, kp, kj⟩ => by
      have := coldF_iff.1 ((Lad.stuck_at2 (X := L A R) eLF eDF k0 rfl kj kp _).1 aF)
      exact ⟨this.1, this.2.imp id (fun c => c.1)⟩
    have z0 : σ = 0 := by
      rw [← hσ]
      rcases frF with k | ⟨_, kj, _⟩
      · exact atF0 hW.hf (.inr (cF k).2)
      · exact atF0 hW.hf (.inl kj)
    have m16 : s.mem.getD 16 0 = 0 := by rw [hW.fa, if_pos z0]
    have endS : (f (1 - A)).p = R ∧ (f (1 - A)).j = 0 := by
      rcases frS with ⟨k0, kp, kj⟩ | ⟨kp, kj, _⟩
      · exact absurd m16 (coldS_iff.1 ((Lad.stuck_at2 (X := L A R) (eLS hA) (eDS hA) k0 rfl kj kp _).1 aS)).1
      · exact ⟨kp, kj⟩
    have g0 : gg = 0 := by
      have := hW.hs
      rw [(hall (1 - A) hB).1, endS.2] at this
      exact atS0 this
    have m17 : s.mem.getD 17 0 = 0 := by rw [hW.fb, if_pos g0]
    have ht : t < 2 := ht
    by_cases e : t = A
    · subst e
      rw [thF]
      rcases frF with k | ⟨kp, kj, _⟩
      · exact absurd m17 (cF k).1
      · exact Lad.stuck_end2 (X := L t R) eLF aF (by show (((f t).p * 36 + (f t).j : Nat) : Int) = ((R * 36 : Nat) : Int); rw [kp, kj]; rfl) (by decide)
    · obtain rfl : t = 1 - A := by omega
      rw [thS]
      exact Lad.stuck_end2 (X := L A R) (eLS hA) aS (by show (((f (1 - A)).p * 32 + (f (1 - A)).j : Nat) : Int) = ((R * 32 : Nat) : Int); rw [endS.1, endS.2]; rfl) (by decide)
end
end Go.Proofs.YtckmkaeopnnbbaaGreatDoor.As.Dek
