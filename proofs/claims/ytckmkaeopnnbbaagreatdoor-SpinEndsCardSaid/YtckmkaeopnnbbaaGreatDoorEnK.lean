/- Plain Lean: a lock of tickets: all end. No program in sight. -/
import Derived.Test.YtckmkaeopnnbbaaGreatDoorEnC
import Derived.Test.YtckmkaeopnnbbaaGreatDoorTq3
set_option linter.unusedVariables false
set_option linter.unusedSimpArgs false
namespace Go.Proofs.YtckmkaeopnnbbaaGreatDoor.As.Tick

def lev (j : Nat) : Nat := if j ≤ 9 then j else if j ≤ 11 then 9 else min (j - 1) 33
def loop (j : Nat) : Bool := decide (9 ≤ j) && decide (j ≤ 11)
@[irreducible] def lvE (j : Nat) (th : Th) : Nat := if j = 11 ∧ th.reg 6 ≠ 0 then 10 else lev j
@[irreducible] def locE (j : Nat) (th : Th) (mem : List Int) : Nat := if mem.getD 17 0 = th.reg 4 then (if j = 9 then 2 else if j = 10 then (if th.reg 6 = th.reg 4 then 1 else 4) else if j = 11 then 3 else 0) else 0
@[irreducible] def coldE (j : Nat) (th : Th) (mem : List Int) : Bool := decide (mem.getD 17 0 ≠ th.reg 4 ∧ (j = 9 ∨ (j = 10 ∧ th.reg 6 ≠ th.reg 4) ∨ (j = 11 ∧ th.reg 6 = 0)))
def L (T R : Nat) : Lad := ⟨T, R, 4, fun _ => 34, fun _ => 34, fun _ j th => lvE j th, fun _ j th mem => locE j th mem, fun _ j th mem => coldE j th mem⟩
theorem coldE_iff {j : Nat} {th : Th} {mem : List Int} : coldE j th mem = true ↔ mem.getD 17 0 ≠ th.reg 4 ∧ (j = 9 ∨ (j = 10 ∧ th.reg 6 ≠ th.reg 4) ∨ (j = 11 ∧ th.reg 6 = 0)) := by unfold coldE; exact decide_eq_true_iff
theorem locE_z {j : Nat} {th : Th} {mem : List Int} (h : mem.getD 17 0 ≠ th.reg 4) : locE j th mem = 0 := by unfold locE; rw [if_neg h]
theorem loc9 {th : Th} {mem : List Int} (h : mem.getD 17 0 = th.reg 4) : locE 9 th mem = 2 := by unfold locE; rw [if_pos h]; rfl
theorem loc10z {th : Th} {mem : List Int} (h : mem.getD 17 0 = th.reg 4) (h6 : th.reg 6 = th.reg 4) : locE 10 th mem = 1 := by unfold locE; rw [if_pos h, if_neg (by decide), if_pos rfl, if_pos h6]
theorem loc10n {th : Th} {mem : List Int} (h : mem.getD 17 0 = th.reg 4) (h6 : th.reg 6 ≠ th.reg 4) : locE 10 th mem = 4 := by unfold locE; rw [if_pos h, if_neg (by decide), if_pos rfl, if_neg h6]
theorem loc11 {th : Th} {mem : List Int} (h : mem.getD 17 0 = th.reg 4) : locE 11 th mem = 3 := by unfold locE; rw [if_pos h]; rfl
theorem lv9 (th : Th) : lvE 9 th = 9 := by unfold lvE; rw [if_neg (by rintro ⟨h, _⟩; cases h)]; rfl
theorem lv10 (th : Th) : lvE 10 th = 9 := by unfold lvE; rw [if_neg (by rintro ⟨h, _⟩; cases h)]; rfl
theorem lv12 (th : Th) : lvE 12 th = 11 := by unfold lvE; rw [if_neg (by rintro ⟨h, _⟩; cases h)]; rfl
theorem lv11n (th : Th) (h : th.reg 6 ≠ 0) : lvE 11 th = 10 := by unfold lvE; rw [if_pos ⟨rfl, h⟩]
theorem lv11z (th : Th) (h : th.reg 6 = 0) : lvE 11 th = 9 := by unfold lvE; rw [if_neg (fun c => c.2 h)]; rfl
theorem hl (T R t : Nat) : ∀ j th, lev j ≤ (L T R).lv t j th ∧ (L T R).lv t j th < (L T R).Lm t := fun j th => by
 show lev j ≤ lvE j th ∧ lvE j th < 34
 unfold lvE lev
 by_cases c : j = 11 ∧ th.reg 6 ≠ 0
 ·rw [if_pos c, c.1]; decide
 ·rw [if_neg c]
  refine ⟨Nat.le_refl _, ?_⟩
  split
  ·omega
  ·split <;> omega
theorem hflat (T R t : Nat) : ∀ j th, loop j = false → (L T R).lv t j th = lev j := fun j th h => by
 show lvE j th = lev j
 unfold lvE
 rw [if_neg]
 rintro ⟨e, _⟩
 subst e; cases h
theorem hst (me : Int) : chkL 34 lev loop (base me) = true := rfl
theorem hkeep (me : Int) : keepL 34 (fun j => j == 8) (base me) = true := rfl
def c17 (q : List (Nat × Int)) : Int := ((q.filter fun e => e.1 == 17).length : Nat)
theorem c17_snoc (q : List (Nat × Int)) (a : Nat) (v : Int) : c17 (q ++ [(a, v)]) = c17 q + if a = 17 then 1 else 0 := by
 unfold c17
 rw [List.filter_append, List.length_append]
 by_cases h : a = 17
 ·subst h; simp
 ·have : ((a, v).1 == 17) = false := by rw [beq_eq_false_iff_ne]; exact h
  simp [this, h]
theorem c17_cons (e : Nat × Int) (q : List (Nat × Int)) : c17 (e :: q) = c17 q + if e.1 = 17 then 1 else 0 := by
 unfold c17
 rw [List.filter_cons]
 by_cases h : e.1 = 17
 ·have : (e.1 == 17) = true := by rw [h]; rfl
  rw [if_pos this, if_pos h]; simp
 ·have : (e.1 == 17) = false := by rw [beq_eq_false_iff_ne]; exact h
  rw [this, if_neg h]; simp
def past (s : Ts) (t : Nat) : Int := (((s.th t).pc.toNat + 2) / 34 : Nat) - c17 (s.buf t)
def J (T R : Nat) (s : Ts) : Prop := (∃ f i, (X T R).Inv s f i) ∧ 0 < s.room ∧ s.mem.getD 17 0 = sumT (past s) T
theorem toNat_succ (n : Nat) : (((n : Nat) : Int) + 1).toNat = n + 1 := by omega
theorem wr_small {k : Int} {p : Nat} (h0 : 0 ≤ k) (hk : k.toNat < 34) (hp : p < 100) : (wr32 (k + ((p * 34 : Nat) : Int))).toNat = p * 34 + k.toNat := by
 have e : wr32 (k + ((p * 34 : Nat) : Int)) = k + ((p * 34 : Nat) : Int) := Int.emod_eq_of_lt (by omega) (by omega)
 rw [e]; omega
theorem ar1 {p j : Nat} {c : Int} (hj : j < 34) : (((p * 34 + j + 1 + 2) / 34 : Nat) : Int) - (c + if j = 31 then 1 else 0) = (((p * 34 + j + 2) / 34 : Nat) : Int) - c := by
 split <;> omega
theorem ar2 {p j k : Nat} (h : (k + 2) / 34 = (j + 2) / 34) : (p * 34 + k + 2) / 34 = (p * 34 + j + 2) / 34 := by omega
theorem sumT_add {F H : Nat → Int} : ∀ n : Nat, sumT (fun t => F t + H t) n = sumT F n + sumT H n
 | 0 => rfl
 | n + 1 => by
  show sumT (fun t => F t + H t) n + (F n + H n) = sumT F n + F n + (sumT H n + H n)
  rw [sumT_add n]; omega
def chk17 (me : Int) : Bool := (List.range 34).all fun j => match (base me)[j]? with
 | some i => (if i.op = 17 then decide (i.b = 8) && decide (0 ≤ i.k) && decide ((i.k = 17) ↔ j = 31) else decide (j ≠ 31)) && (!(jumps i.op) || decide (j = 25) || (decide (0 ≤ i.k) && decide (i.k.toNat < 34) && decide ((i.k.toNat + 2) / 34 = (j + 2) / 34) && decide (j ≠ 31)))
 | none => false
theorem chk17_all (me : Int) : chk17 me = true := rfl
theorem chk17_at {me : Int} {j : Nat} {i : Ins} (hj : j < 34) (hi : (base me)[j]? = some i) : (if i.op = 17 then decide (i.b = 8) && decide (0 ≤ i.k) && decide ((i.k = 17) ↔ j = 31) else decide (j ≠ 31)) = true ∧ (!(jumps i.op) || decide (j = 25) || (decide (0 ≤ i.k) && decide (i.k.toNat < 34) && decide ((i.k.toNat + 2) / 34 = (j + 2) / 34) && decide (j ≠ 31))) = true := by
 have := List.all_eq_true.1 (chk17_all me) j (List.mem_range.2 hj)
 simp only [hi, Bool.and_eq_true] at this
 exact this
theorem st17 {me : Int} {j p : Nat} {i : Ins} {th : Th} (hj : j < 34) (hi : (base me)[j]? = some i) (ho : i.op = 17) : (if (addrI th (movI (p * 34) i)).toNat = 17 then (1 : Int) else 0) = if j = 31 then 1 else 0 := by
 have h := (chk17_at hj hi).1
 rw [if_pos ho] at h
 simp only [Bool.and_eq_true, decide_eq_true_eq] at h
 have hm : movI (p * 34) i = i := movI_plain (by rw [ho]; rfl) _
 have ha : addrI th i = i.k := by unfold addrI; rw [if_pos (by omega)]
 rw [hm, ha]
 by_cases c : j = 31
 ·rw [if_pos c, if_pos (by have := h.2.2 c; omega)]
 ·rw [if_neg c, if_neg (fun e => c (h.2.1 (by omega)))]
theorem no17 {me : Int} {j : Nat} {i : Ins} (hj : j < 34) (hi : (base me)[j]? = some i) (ho : i.op ≠ 17) : j ≠ 31 := by
 have h := (chk17_at hj hi).1
 rw [if_neg ho] at h
 exact decide_eq_true_iff.1 h
theorem jump17 {me : Int} {j : Nat} {i : Ins} (hj : j < 34) (h25 : j ≠ 25) (hi : (base me)[j]? = some i) (ho : jumpsI i.op) : jumps i.op = true ∧ (0 ≤ i.k ∧ i.k.toNat < 34 ∧ (i.k.toNat + 2) / 34 = (j + 2) / 34) ∧ j ≠ 31 := by
 have hj2 : jumps i.op = true := by
  unfold jumps
  rcases ho with e | e | e <;> rw [e] <;> rfl
 have h := (chk17_at hj hi).2
 rw [hj2] at h
 simp only [Bool.not_true, Bool.false_or, Bool.or_eq_true, Bool.and_eq_true, decide_eq_true_eq] at h
 rcases h with h | h
 ·exact absurd h h25
 ·exact ⟨hj2, ⟨h.1.1.1, h.1.1.2, h.1.2⟩, h.2⟩
theorem ent_lt {me n v ow c r1 r2 r4 r5 r6 r7 : Int} {gg : Option Int} {j : Nat} {e : Nat × Int} {r : List (Nat × Int)} (h : At me n v ow c gg j r1 r2 r4 r5 r6 r7 (e :: r)) : e.1 < 19 := by
 cases h <;> first | exact (show (0 : Nat) < 19 by decide) | exact (show (17 : Nat) < 19 by decide) | exact (show (18 : Nat) < 19 by decide)
section
variable {T R t : Nat} {codes : List (List Ins)} {s s' : Ts}
theorem stand {f : Nat → Loc} {i : Int} (h : (X T R).Inv s f i) (ht : t < T) (hc : codes[t]? = some (codeT R t)) : Stand codes 34 R (base ((t + 1 : Nat) : Int)) s t (Loc.th 34 (f t)) (f t).p (f t).j :=
 ⟨h.hs t ht, rfl, h.fr t ht, _, hc, code_len R t, fun p j hp hj => code_get R t p j hp hj⟩
theorem out (hJ : J T R s) (ht : t < T) (hR : R ≤ 100) (hc : codes[t]? = some (codeT R t)) (hgo : s.stepT codes t = some s') : (L T R).Out t s s' := by
 obtain ⟨⟨f, i, h⟩, hr, ho⟩ := hJ
 have S := stand h ht hc
 obtain ⟨gg, hW⟩ := h.I
 have hI := hW.hat t ht
 have hnm : s.mem.length = 19 := h.nm
 have hths : s.ths.length = T := h.nths
 have W := S.way (s' := s') (by rw [h.nb]; exact ht) hr (chk_op (hst _)) hgo
 generalize f t = x at S hI W
 obtain ⟨p, j, r0, r1, r2, r3, r4, r5, r6, r7, st⟩ := x
 refine Lad.out_of (X := L T R) (lev := lev) (loop := loop) (B := base ((t + 1 : Nat) : Int)) S W h.nths h.nb ht (by show R * 34 ≤ 1000000; omega) (by show 0 < 34; decide) (hl T R t) (hflat T R t) (chk_st (hst _)) ?_
 intro i2 th' hlp hp hj h0 hi hA hd hr2 Tn
 have hs := S.hs
 have h0 : st = 0 := h0
 subst h0
 have c : j = 9 ∨ j = 10 ∨ j = 11 := by
  unfold loop at hlp
  simp only [Bool.and_eq_true, decide_eq_true_eq] at hlp
  omega
 rcases c with rfl | rfl | rfl
 ·obtain rfl : (⟨16, 6, 8, 0, 17⟩ : Ins) = i2 := by simpa [base] using hi
  rw [movI_plain rfl] at hA
  have e := st_load hA (ad := 17) (by rw [addr_abs]; rfl) (by omega)
  rw [hgo] at e
  have e := Option.some.inj e
  refine Lad.out_keep (X := L T R) (j := 9) (k := 10) (th' := (⟨((p * 34 + 9 : Nat) : Int) + 1, [r0, r1, r2, r3, r4, r5, s.load t 17, r7], 0⟩ : Th)) (by rw [e]; rfl) (by rw [e]; rfl) (by rw [e]; rfl) hs rfl rfl hj hp rfl (by show ((p * 34 + 9 : Nat) : Int) + 1 = ((p * 34 + 10 : Nat) : Int); omega) (by show 10 < 34; decide) ((lv10 _).trans (lv9 _).symm) fun hq0 => ?_
  have hl2 := load_nil hq0 17
  by_cases hz : s.mem.getD 17 0 = r4
  ·exact .inl (by show locE 10 _ s.mem < locE 9 _ s.mem; rw [loc9 (th := (Loc.th 34 ⟨p, 9, r0, r1, r2, r3, r4, r5, r6, r7, 0⟩)) hz, loc10z (th := (⟨((p * 34 + 9 : Nat) : Int) + 1, [r0, r1, r2, r3, r4, r5, s.load t 17, r7], 0⟩ : Th)) hz (hl2.trans hz)]; decide)
  ·exact .inr ⟨coldE_iff.2 ⟨hz, .inl rfl⟩, coldE_iff.2 ⟨hz, .inr (.inl ⟨rfl, fun e => hz (hl2.symm.trans e)⟩)⟩, by show locE 10 _ s.mem ≤ locE 9 _ s.mem; rw [locE_z (th := (⟨((p * 34 + 9 : Nat) : Int) + 1, [r0, r1, r2, r3, r4, r5, s.load t 17, r7], 0⟩ : Th)) hz, locE_z (th := (Loc.th 34 ⟨p, 9, r0, r1, r2, r3, r4, r5, r6, r7, 0⟩)) hz]; exact Nat.le_refl _⟩
 ·obtain rfl : (⟨12, 6, 6, 4, 0⟩ : Ins) = i2 := by simpa [base] using hi
  rw [movI_plain rfl] at hA
  have e := st_same hA
  rw [hgo] at e
  have e := Option.some.inj e
  have hreg4 : (Loc.th 34 ⟨p, 10, r0, r1, r2, r3, r4, r5, r6, r7, 0⟩).reg 4 = r4 := rfl
  have hreg6 : (Loc.th 34 ⟨p, 10, r0, r1, r2, r3, r4, r5, r6, r7, 0⟩).reg 6 = r6 := rfl
  rw [hreg4, hreg6] at e
  by_cases hz6 : r6 = r4
  ·rw [if_pos hz6] at e
   have hth := Tn.th_eq hs (th2 := (⟨((p * 34 + 10 : Nat) : Int) + 1, [r0, r1, r2, r3, r4, r5, 1, r7], 0⟩ : Th)) (by rw [e]; rfl)
   exact Lad.out_lt (X := L T R) (hl T R t) ht hths Tn hs rfl rfl hj hp (j := 10) (k := 11) (by rw [hth]; exact (by show ((p * 34 + 10 : Nat) : Int) + 1 = ((p * 34 + 11 : Nat) : Int); omega)) (by show 11 < 34; decide) (by rw [hth]; have a := lv10 (Loc.th 34 ⟨p, 10, r0, r1, r2, r3, r4, r5, r6, r7, 0⟩); have b := lv11n (⟨((p * 34 + 10 : Nat) : Int) + 1, [r0, r1, r2, r3, r4, r5, 1, r7], 0⟩ : Th) (by show (1 : Int) ≠ 0; decide); show lvE 10 _ < lvE 11 _; rw [a, b]; decide)
  ·rw [if_neg hz6] at e
   refine Lad.out_keep (X := L T R) (j := 10) (k := 11) (th' := (⟨((p * 34 + 10 : Nat) : Int) + 1, [r0, r1, r2, r3, r4, r5, 0, r7], 0⟩ : Th)) (by rw [e]; rfl) (by rw [e]; rfl) (by rw [e]; rfl) hs rfl rfl hj hp rfl (by show ((p * 34 + 10 : Nat) : Int) + 1 = ((p * 34 + 11 : Nat) : Int); omega) (by show 11 < 34; decide) ((lv11z (⟨((p * 34 + 10 : Nat) : Int) + 1, [r0, r1, r2, r3, r4, r5, 0, r7], 0⟩ : Th) rfl).trans (lv10 _).symm) fun _ => ?_
   by_cases hz : s.mem.getD 17 0 = r4
   ·exact .inl (by show locE 11 _ s.mem < locE 10 _ s.mem; rw [loc10n (th := (Loc.th 34 ⟨p, 10, r0, r1, r2, r3, r4, r5, r6, r7, 0⟩)) hz hz6, loc11 (th := (⟨((p * 34 + 10 : Nat) : Int) + 1, [r0, r1, r2, r3, r4, r5, 0, r7], 0⟩ : Th)) hz]; decide)
   ·exact .inr ⟨coldE_iff.2 ⟨hz, .inr (.inl ⟨rfl, hz6⟩)⟩, coldE_iff.2 ⟨hz, .inr (.inr ⟨rfl, rfl⟩)⟩, by show locE 11 _ s.mem ≤ locE 10 _ s.mem; rw [locE_z (th := (⟨((p * 34 + 10 : Nat) : Int) + 1, [r0, r1, r2, r3, r4, r5, 0, r7], 0⟩ : Th)) hz, locE_z (th := (Loc.th 34 ⟨p, 10, r0, r1, r2, r3, r4, r5, r6, r7, 0⟩)) hz]; exact Nat.le_refl _⟩
 ·obtain rfl : (⟨14, 6, 0, 0, 9⟩ : Ins) = i2 := by simpa [base] using hi
  rw [movI_jump rfl] at hA
  have e := st_zero hA
  rw [hgo] at e
  have e := Option.some.inj e
  have hreg6 : (Loc.th 34 ⟨p, 11, r0, r1, r2, r3, r4, r5, r6, r7, 0⟩).reg 6 = r6 := rfl
  rw [hreg6] at e
  by_cases hz6 : r6 = 0
  ·rw [if_pos hz6] at e
   refine Lad.out_keep (X := L T R) (j := 11) (k := 9) (th' := (⟨wr32 ((9 : Int) + ((p * 34 : Nat) : Int)), [r0, r1, r2, r3, r4, r5, r6, r7], 0⟩ : Th)) (by rw [e]; rfl) (by rw [e]; rfl) (by rw [e]; rfl) hs rfl rfl hj hp rfl (by show wr32 ((9 : Int) + ((p * 34 : Nat) : Int)) = ((p * 34 + 9 : Nat) : Int); have : p < R := hp; unfold wr32; omega) (by show 9 < 34; decide) ((lv9 _).trans (lv11z (Loc.th 34 ⟨p, 11, r0, r1, r2, r3, r4, r5, r6, r7, 0⟩) hz6).symm) fun _ => ?_
   by_cases hz : s.mem.getD 17 0 = r4
   ·exact .inl (by show locE 9 _ s.mem < locE 11 _ s.mem; rw [loc11 (th := (Loc.th 34 ⟨p, 11, r0, r1, r2, r3, r4, r5, r6, r7, 0⟩)) hz, loc9 (th := (⟨wr32 ((9 : Int) + ((p * 34 : Nat) : Int)), [r0, r1, r2, r3, r4, r5, r6, r7], 0⟩ : Th)) hz]; decide)
   ·exact .inr ⟨coldE_iff.2 ⟨hz, .inr (.inr ⟨rfl, hz6⟩)⟩, coldE_iff.2 ⟨hz, .inl rfl⟩, by show locE 9 _ s.mem ≤ locE 11 _ s.mem; rw [locE_z (th := (⟨wr32 ((9 : Int) + ((p * 34 : Nat) : Int)), [r0, r1, r2, r3, r4, r5, r6, r7], 0⟩ : Th)) hz, locE_z (th := (Loc.th 34 ⟨p, 11, r0, r1, r2, r3, r4, r5, r6, r7, 0⟩)) hz]; exact Nat.le_refl _⟩
  ·rw [if_neg hz6] at e
   have hth := Tn.th_eq hs (th2 := (⟨((p * 34 + 11 : Nat) : Int) + 1, [r0, r1, r2, r3, r4, r5, r6, r7], 0⟩ : Th)) (by rw [e]; rfl)
   exact Lad.out_lt (X := L T R) (hl T R t) ht hths Tn hs rfl rfl hj hp (j := 11) (k := 12) (by rw [hth]; exact (by show ((p * 34 + 11 : Nat) : Int) + 1 = ((p * 34 + 12 : Nat) : Int); omega)) (by show 12 < 34; decide) (by rw [hth]; have a := lv11n (Loc.th 34 ⟨p, 11, r0, r1, r2, r3, r4, r5, r6, r7, 0⟩) hz6; have b := lv12 (⟨((p * 34 + 11 : Nat) : Int) + 1, [r0, r1, r2, r3, r4, r5, r6, r7], 0⟩ : Th); show lvE 11 _ < lvE 12 _; rw [a, b]; decide)
theorem ent17 {me n v ow c r1 r2 r4 r5 r6 r7 : Int} {gg : Option Int} {j : Nat} {e : Nat × Int} {r : List (Nat × Int)} (h : At me n v ow c gg j r1 r2 r4 r5 r6 r7 (e :: r)) (he : e.1 = 17) : e.2 = wr32 (v + 1) ∧ v < n := by
 cases h <;> first | exact ⟨rfl, by assumption⟩ | exact absurd he (show ¬ ((18 : Nat) = 17) by decide) | exact absurd he (show ¬ ((0 : Nat) = 17) by decide)
theorem no25 {me n v ow c r1 r2 r4 r5 r6 r7 : Int} {gg : Option Int} {j : Nat} {q : List (Nat × Int)} (h : At me n v ow c gg j r1 r2 r4 r5 r6 r7 q) : j ≠ 25 := by
 cases h <;> decide
theorem past_eq {s s' : Ts} {u : Nat} (h1 : s'.th u = s.th u) (h2 : s'.buf u = s.buf u) : past s' u = past s u := by unfold past; rw [h1, h2]
theorem sum_past (ht : t < T) (h : ∀ u, u ≠ t → s'.th u = s.th u ∧ s'.buf u = s.buf u) : sumT (past s') T = sumT (past s) T + (past s' t - past s t) :=
 sumT_one t _ (by omega) T ht fun u _ e => past_eq (h u e).1 (h u e).2
theorem keep17 {f : Nat → Loc} {i : Int} (h : (X T R).Inv s f i) (hr : 0 < s.room) (hT : T ≤ 8) (hR : R ≤ 100) (hc : ∀ t, t < T → codes[t]? = some (codeT R t)) (ho : s.mem.getD 17 0 = sumT (past s) T) {q : Nat × Nat} (hp : s.pick codes q = some s') : s'.room = s.room ∧ s'.mem.getD 17 0 = sumT (past s') T := by
 obtain ⟨gg, hW⟩ := h.I
 have hnm : s.mem.length = 19 := h.nm
 have hfew := few h hW hT hR
 have hnb : s.bufs.length = T := h.nb
 have hfl : ∀ t, t < T → (s.flush t).mem.getD 17 0 = sumT (past (s.flush t)) T := fun t ht => by
  have hth : ∀ u, (s.flush t).th u = s.th u := fun u => by unfold Ts.th; rw [(s.flush_same t (by omega)).ths]
  have hb := buf_flushF (s := s) (t := t) (by omega)
  rw [sum_past (s := s) ht (fun u e => ⟨hth u, by rw [hb, upF_ne _ _ e]⟩), ← ho]
  have e0 : past (s.flush t) t = (((s.th t).pc.toNat + 2) / 34 : Nat) - c17 (s.buf t).tail := by unfold past; rw [hth, hb, upF_self]
  have e1 : past s t = (((s.th t).pc.toNat + 2) / 34 : Nat) - c17 (s.buf t) := rfl
  rw [e0, e1]
  unfold Ts.flush
  cases hq : s.buf t with
  | nil => simp
  | cons e r =>
   show (s.mem.set e.1 e.2).getD 17 0 = _
   have hat := hW.hat t ht
   rw [hq] at hat
   rw [c17_cons, List.tail_cons, get_set (by have := ent_lt hat; omega)]
   by_cases e17 : e.1 = 17
   ·obtain ⟨k1, k2⟩ := ent17 hat e17
    rw [if_pos e17, if_pos e17, k1]
    have := hW.v0
    unfold wr32
    omega
   ·rw [if_neg e17, if_neg e17]; omega
 rcases pick_cases hp h.slp with e | ⟨ht, e⟩ | ⟨ht, e⟩
 ·rw [e]; exact ⟨rfl, ho⟩
 ·have ht : q.2 < T := by have e2 : s.ths.length = T := h.nths; omega
  have S := stand h ht (hc _ ht)
  have W := S.way (s' := s') (by rw [h.nb]; exact ht) hr (chk_op (hst _)) e
  refine ⟨W.room (by rw [h.nb]; exact ht), ?_⟩
  have hI := hW.hat _ ht
  have hlt : q.2 < s.ths.length := by have e2 : s.ths.length = T := h.nths; omega
  have hth0 : s.th q.2 = Loc.th 34 (f q.2) := by unfold Ts.th; rw [h.hs _ ht]; rfl
  cases W with
  | flush e _ => rw [e]; exact hfl _ ht
  | still _ e => rw [e]; exact ho
  | ended h0 hp hj e2 =>
   have hm : s'.mem = s.mem := by rw [e2]; rfl
   have hb : ∀ u, s'.buf u = s.buf u := fun u => by rw [e2]; rfl
   have e3 := th_set (s := s) (t := q.2) (th' := { Loc.th 34 (f q.2) with st := 2 }) rfl hlt s' (by rw [e2]; rfl)
   rw [hm, sum_past (s := s) ht (fun u c => ⟨by rw [e3, if_neg c], hb u⟩), ← ho]
   have : past s' q.2 = past s q.2 := by unfold past; rw [e3, if_pos rfl, hth0, hb]
   omega
  | turn i th' h0 hp hj hi hA hd hr2 Tn =>
   have e3 := th_set (s := s) (t := q.2) Tn.ths hlt s' rfl
   have n25 := no25 hI
   have hm : s'.mem.getD 17 0 = s.mem.getD 17 0 := by
    by_cases c : (f q.2).j = 8
    ·generalize f q.2 = x at c hI hi hA
     obtain ⟨p, j, r0, r1, r2, r3, r4, r5, r6, r7, st⟩ := x
     have c : j = 8 := c
     subst c
     obtain rfl : (⟨20, 4, 8, 0, 16⟩ : Ins) = i := by simpa [base] using hi
     rw [movI_plain rfl] at hA
     have e2 := st_fetch hA (ad := 16) (by rw [addr_abs]; rfl) (by omega) (hd (by decide))
     rw [e] at e2
     rw [Option.some.inj e2]
     show (s.mem.set 16 _).getD 17 0 = _
     rw [get_set (by omega), if_neg (by decide)]
    ·have hno := keep_op (hkeep _) hj (beq_eq_false_iff_ne.2 c) hi
     have hm := Tn.mem
     rw [movI_op] at hm
     rw [hm hno.1 hno.2.1 hno.2.2.1 hno.2.2.2]
   have hno25 : i.op ≠ 25 := by
    by_cases c : (f q.2).j = 8
    ·rw [c] at hi
     obtain rfl : (⟨20, 4, 8, 0, 16⟩ : Ins) = i := by simpa [base] using hi
     decide
    ·exact (keep_op (hkeep _) hj (beq_eq_false_iff_ne.2 c) hi).2.2.2
   have hbu : ∀ u, u ≠ q.2 → s'.buf u = s.buf u := fun u c => by
    by_cases o : i.op = 17
    ·obtain ⟨v, hv⟩ := Tn.stor (by rw [movI_op]; exact o)
     unfold Ts.buf
     rw [hv, List.getD_eq_getElem?_getD, List.getElem?_set_ne (fun e2 => c e2.symm), ← List.getD_eq_getElem?_getD]
    ·unfold Ts.buf; rw [Tn.bufs (by rw [movI_op]; exact o) (by rw [movI_op]; exact hno25)]
   have hpp : past s q.2 = (((f q.2).p * 34 + (f q.2).j + 2) / 34 : Nat) - c17 (s.buf q.2) := by
    unfold past
    rw [hth0]
    exact congrArg (fun x : Nat => (((x + 2) / 34 : Nat) : Int) - c17 (s.buf q.2)) (Int.toNat_natCast ((f q.2).p * 34 + (f q.2).j))
   have hpx : past s' q.2 = ((th'.pc.toNat + 2) / 34 : Nat) - c17 (s'.buf q.2) := by unfold past; rw [e3, if_pos rfl]
   have hp9 : (f q.2).p < R := hp
   have hpc := Tn.pc
   rw [movI_op] at hpc
   have hbq : c17 (s'.buf q.2) = c17 (s.buf q.2) + if (f q.2).j = 31 then 1 else 0 := by
    by_cases o : i.op = 17
    ·obtain ⟨v, hv⟩ := Tn.stor (by rw [movI_op]; exact o)
     have e4 : s'.buf q.2 = s.buf q.2 ++ [((addrI (Loc.th 34 (f q.2)) (movI ((f q.2).p * 34) i)).toNat, v)] := by
      unfold Ts.buf
      rw [hv, List.getD_eq_getElem?_getD, List.getElem?_set_self (by omega)]; rfl
     rw [e4, c17_snoc]
     rw [st17 (me := ((q.2 + 1 : Nat) : Int)) hj hi o]
    ·have e4 : s'.buf q.2 = s.buf q.2 := by unfold Ts.buf; rw [Tn.bufs (by rw [movI_op]; exact o) (by rw [movI_op]; exact hno25)]
     rw [e4]
     have hk := no17 (me := ((q.2 + 1 : Nat) : Int)) hj hi o
     rw [if_neg hk]; exact (Int.add_zero _).symm
   have hpe : past s' q.2 = past s q.2 := by
    rw [hpp, hpx, hbq]
    rcases hpc with ⟨c1, c2⟩ | ⟨c1, c2⟩
    ·have e5 : th'.pc.toNat = (f q.2).p * 34 + (f q.2).j + 1 := by
      rw [c2]
      exact toNat_succ ((f q.2).p * 34 + (f q.2).j)
     rw [e5]
     exact ar1 hj
    ·obtain ⟨k1, ⟨k2, k4, k5⟩, k3⟩ := jump17 (me := ((q.2 + 1 : Nat) : Int)) hj n25 hi c1
     have e5 : th'.pc.toNat = (f q.2).p * 34 + i.k.toNat := by
      rw [c2, movI_jump k1]
      exact wr_small k2 k4 (Nat.lt_of_lt_of_le hp9 hR)
     rw [e5, if_neg k3, ar2 k5, Int.add_zero]
   rw [hm, sum_past (s := s) ht (fun u c => ⟨by rw [e3, if_neg c], hbu u c⟩), ← ho, hpe, Int.sub_self, Int.add_zero]
 ·have ht : q.2 < T := by have e2 : s.ths.length = T := h.nths; omega
  rw [e]
  exact ⟨(s.flush_same q.2 (by rw [h.nb]; exact ht)).room, hfl _ ht⟩
theorem one_of {P : Nat → Prop} [∀ t, Decidable (P t)] (hP : ∀ t u, t < T → u < T → P t → P u → t = u) : sumT (fun t => if P t then 1 else 0) T ≤ 1 := by
 have key : ∀ n, n ≤ T → (sumT (fun t => if P t then 1 else 0) n = 0 ∧ ∀ t, t < n → ¬ P t) ∨ (sumT (fun t => if P t then 1 else 0) n = 1 ∧ ∃ t, t < n ∧ P t) := fun n => by
  induction n with
  | zero => exact fun _ => .inl ⟨rfl, fun t h => absurd h (by omega)⟩
  | succ n ih =>
   intro hn
   rcases ih (by omega) with ⟨h1, h2⟩ | ⟨h1, u, hu, hpu⟩
   ·by_cases c : P n
    ·exact .inr ⟨by show sumT _ n + (if P n then 1 else 0) = 1; rw [h1, if_pos c]; rfl, n, by omega, c⟩
    ·refine .inl ⟨by show sumT _ n + (if P n then 1 else 0) = 0; rw [h1, if_neg c]; rfl, fun t ht hp => ?_⟩
     by_cases e : t = n
     ·subst e; exact c hp
     ·exact h2 t (by omega) hp
   ·refine .inr ⟨?_, u, by omega, hpu⟩
    show sumT _ n + (if P n then 1 else 0) = 1
    rw [h1, if_neg (fun c => by have := hP u n (by omega) (by omega) hpu c; omega)]; rfl
 rcases key T (Nat.le_refl _) with ⟨h, _⟩ | ⟨h, _⟩ <;> omega
theorem tickets {k : Nat → Int} {P : Nat → Prop} [∀ t, Decidable (P t)] (v : Int) (hd : ∀ t u, t < T → u < T → P t → P u → k t = k u → t = u) (hv : ∀ t, t < T → P t → v < k t) : ∀ m : Nat, sumT (fun t => if P t ∧ k t ≤ v + m then 1 else 0) T ≤ m
 | 0 => by
  have : ∀ t, t < T → (if P t ∧ k t ≤ v + ((0 : Nat) : Int) then (1 : Int) else 0) = 0 := fun t ht => by
   rw [if_neg]
   rintro ⟨a, b⟩
   have := hv t ht a
   omega
  rw [sumT_congr T this, sumT_const]; omega
 | m + 1 => by
  have ih := tickets v hd hv m
  have h1 := one_of (T := T) (P := fun t => P t ∧ k t = v + m + 1) (fun t u ht hu a b => hd t u ht hu a.1 b.1 (by omega))
  have h2 : sumT (fun t => if P t ∧ k t ≤ v + ((m + 1 : Nat) : Int) then (1 : Int) else 0) T = sumT (fun t => if P t ∧ k t ≤ v + m then 1 else 0) T + sumT (fun t => if P t ∧ k t = v + m + 1 then 1 else 0) T := by
   rw [← sumT_add]
   refine sumT_congr T fun t ht => ?_
   by_cases a : P t
   ·by_cases b : k t ≤ v + m
    ·rw [if_pos ⟨a, by omega⟩, if_pos ⟨a, b⟩, if_neg (fun c => by omega)]; rfl
    ·by_cases c : k t = v + m + 1
     ·rw [if_pos ⟨a, by omega⟩, if_neg (fun c => b c.2), if_pos ⟨a, c⟩]; rfl
     ·rw [if_neg (fun d => by omega), if_neg (fun c => b c.2), if_neg (fun d => c d.2)]; rfl
   ·rw [if_neg (fun c => a c.1), if_neg (fun c => a c.1), if_neg (fun c => a c.1)]; rfl
  rw [h2]
  omega
theorem at_wait {me n v ow c r1 r2 r4 r5 r6 r7 : Int} {gg : Option Int} {j : Nat} {q : List (Nat × Int)} (h : At me n v ow c gg j r1 r2 r4 r5 r6 r7 q) (hj : j = 9 ∨ j = 10 ∨ j = 11) : gg = some r4 ∧ v ≤ r4 ∧ r4 < n := by
 cases h <;> first | exact ⟨by assumption, by assumption, by assumption⟩ | (exfalso; omega)
theorem fit (hT : T ≤ 8) (hR0 : 0 < R) (hR : R ≤ 100) (hc : ∀ t, t < T → codes[t]? = some (codeT R t)) : (L T R).Fit codes (J T R) where
 len := fun s ⟨⟨f, i, h⟩, _⟩ => ⟨h.nths, h.nb, h.slp⟩
 go := fun s p ⟨⟨f, i, h⟩, hr, ho⟩ => by
  obtain ⟨s', h1, f', i', h2⟩ := run hT hR hc [p] h
  have hp := run_one h1
  have hk := keep17 h hr hT hR hc ho hp
  exact ⟨s', hp, ⟨f', i', h2⟩, by rw [hk.1]; exact hr, hk.2⟩
 step := fun s t s' hJ ht hgo => out hJ ht hR (hc t ht) hgo
 lo := fun t th mem q => by
  unfold Lad.lo
  split
  ·exact Nat.zero_le _
  ·show locE _ _ mem ≤ 4
   unfold locE
   split
   ·split
    ·decide
    ·split
     ·split <;> decide
     ·split <;> decide
   ·decide
 gone := fun s ⟨⟨f, i, h⟩, hr, ho⟩ hall t ht => by
  obtain ⟨gg, hW⟩ := h.I
  have hth : ∀ u, u < T → s.th u = Loc.th 34 (f u) := fun u hu => by unfold Ts.th; rw [h.hs u hu]; rfl
  have key : ∀ u, u < T → (f u).st = 0 → (f u).p < R ∧ (f u).j < 34 → ((f u).j = 9 ∨ (f u).j = 10 ∨ (f u).j = 11) ∧ s.mem.getD 17 0 ≠ (f u).r4 := fun u hu h0 ⟨hp, hj⟩ => by
   have := (hall u hu).2
   rw [(hall u hu).1, hth u hu] at this
   have := (Lad.stuck_at (X := L T R) (t := u) h0 rfl hj hp _).1 this
   have := coldE_iff.1 this
   refine ⟨?_, this.1⟩
   rcases this.2 with c | c | c
   ·exact .inl c
   ·exact .inr (.inl c.1)
   ·exact .inr (.inr c.1)
  -- who waits
  let P : Nat → Prop := fun u => (f u).j = 9 ∨ (f u).j = 10 ∨ (f u).j = 11
  have hend : ∀ u, u < T → P u ∨ ((f u).p = R ∧ (f u).j = 0) := fun u hu => by
   rcases h.fr u hu with ⟨k0, kp, kj⟩ | ⟨kp, kj, _⟩
   ·exact .inl (key u hu k0 ⟨kp, kj⟩).1
   ·exact .inr ⟨kp, kj⟩
  have hPr : ∀ u, u < T → P u → s.mem.getD 17 0 ≠ (f u).r4 := fun u hu hP => by
   rcases h.fr u hu with ⟨k0, kp, kj⟩ | ⟨kp, kj, _⟩
   ·exact (key u hu k0 ⟨kp, kj⟩).2
   ·exfalso
    have hP : (f u).j = 9 ∨ (f u).j = 10 ∨ (f u).j = 11 := hP
    omega
  have hPd : ∀ u, Decidable (P u) := fun u => inferInstanceAs (Decidable ((f u).j = 9 ∨ (f u).j = 10 ∨ (f u).j = 11))
  have hsum : s.mem.getD 16 0 - s.mem.getD 17 0 = sumT (fun u => if P u then 1 else 0) T := by
   have e : sumT (fun u => drew (f u)) T = sumT (past s) T + sumT (fun u => if P u then 1 else 0) T := by
    rw [← sumT_add]
    refine sumT_congr T fun u hu => ?_
    have e1 : past s u = (((f u).p * 34 + (f u).j + 2) / 34 : Nat) := by
     unfold past
     rw [hth u hu, (hall u hu).1]
     show (((((f u).p * 34 + (f u).j : Nat) : Int).toNat + 2) / 34 : Nat) - c17 [] = _
     rw [Int.toNat_natCast]
     show _ - (0 : Int) = _
     omega
    rw [e1]
    unfold drew
    rcases hend u hu with c | ⟨c1, c2⟩
    ·rw [if_pos c]
     have c : (f u).j = 9 ∨ (f u).j = 10 ∨ (f u).j = 11 := c
     rw [if_pos (by omega)]
     omega
    ·rw [if_neg (fun c : P u => by have c : (f u).j = 9 ∨ (f u).j = 10 ∨ (f u).j = 11 := c; omega), if_neg (by omega)]
     omega
   rw [hW.sum, ho]
   have e2 : sumT (fun t => drew (f t)) T = sumT (fun u => drew (f u)) T := rfl
   omega
  have hno : ∀ u, u < T → ¬ P u := fun u hu hP => by
   have hk : ∀ u, u < T → P u → gg u = some (f u).r4 ∧ s.mem.getD 17 0 < (f u).r4 ∧ (f u).r4 < s.mem.getD 16 0 := fun u hu hP => by
    obtain ⟨a, b, c⟩ := at_wait (hW.hat u hu) hP
    have := hPr u hu hP
    exact ⟨a, by omega, c⟩
   have hu1 := hk u hu hP
   obtain ⟨m, hm⟩ : ∃ m : Nat, s.mem.getD 16 0 - s.mem.getD 17 0 - 1 = m := ⟨(s.mem.getD 16 0 - s.mem.getD 17 0 - 1).toNat, by omega⟩
   have ht := tickets (T := T) (k := fun u => (f u).r4) (P := P) (s.mem.getD 17 0) (fun a b ha hb pa pb e => by
    by_cases c : a = b
    ·exact c
    ·have ka := hk a ha pa
     have kb := hk b hb pb
     have := hW.un a b ha hb c (by rw [ka.1, kb.1]; exact congrArg some e)
     rw [ka.1] at this; cases this) (fun a ha pa => (hk a ha pa).2.1) m
   have e3 : sumT (fun t => if P t ∧ (f t).r4 ≤ s.mem.getD 17 0 + (m : Int) then (1 : Int) else 0) T = sumT (fun u => if P u then 1 else 0) T := sumT_congr T fun a ha => by
    by_cases pa : P a
    ·have := hk a ha pa
     rw [if_pos ⟨pa, by omega⟩, if_pos pa]
    ·rw [if_neg (fun c => pa c.1), if_neg pa]
   rw [e3, ← hsum] at ht
   omega
  intro hst
  rw [hth t ht] at hst
  rcases h.fr t ht with ⟨k0, kp, kj⟩ | ⟨kp, kj, k0⟩
  ·exact hno t ht (key t ht k0 ⟨kp, kj⟩).1
  ·have hs := (hall t ht).2
   rw [(hall t ht).1, hth t ht] at hs
   exact Lad.stuck_end hs (by show (((f t).p * 34 + (f t).j : Nat) : Int) = ((R * 34 : Nat) : Int); have kp : (f t).p = R := kp; rw [kp, kj]; rfl) (by show 0 < 34; decide) hst
end
end Go.Proofs.YtckmkaeopnnbbaaGreatDoor.As.Tick
