/- Plain Lean: a ladder that a round's code goes down; only loops are left to a lock. No program in sight. -/
import Derived.Test.YtckmkaeopnnbbaaGreatDoorEnB
import Derived.Test.YtckmkaeopnnbbaaGreatDoorGe
set_option linter.unusedVariables false
set_option linter.unusedSimpArgs false
namespace Go.Proofs.YtckmkaeopnnbbaaGreatDoor.As

def stepOk (Lb : Nat) (lev : Nat → Nat) (j : Nat) (i : Ins) : Bool :=
 decide (i.op ≠ 0) && (decide (i.op = 13) || decide (j + 1 = Lb) || decide (lev j < lev (j + 1))) && (!(jumps i.op) || (decide (0 ≤ i.k) && decide (i.k.toNat < Lb) && decide (lev j < lev i.k.toNat)))
def chkL (Lb : Nat) (lev : Nat → Nat) (loop : Nat → Bool) (B : List Ins) : Bool := (List.range Lb).all fun j => match B[j]? with
 | some i => (loop j && decide (i.op ≠ 0)) || stepOk Lb lev j i
 | none => false
theorem chk_st {Lb : Nat} {lev : Nat → Nat} {loop : Nat → Bool} {B : List Ins} (h : chkL Lb lev loop B = true) : ∀ j, j < Lb → ∃ i, B[j]? = some i ∧ (loop j = true ∧ i.op ≠ 0 ∨ stepOk Lb lev j i = true) := fun j hj => by
 have := List.all_eq_true.1 h j (List.mem_range.2 hj)
 cases hi : B[j]? with
 | none => simp [hi] at this
 | some i =>
  simp only [hi, Bool.or_eq_true, Bool.and_eq_true, decide_eq_true_eq] at this
  exact ⟨i, rfl, this⟩
theorem chk_op {Lb : Nat} {lev : Nat → Nat} {loop : Nat → Bool} {B : List Ins} (h : chkL Lb lev loop B = true) : ∀ j, j < Lb → ∃ i, B[j]? = some i ∧ i.op ≠ 0 := fun j hj => by
 obtain ⟨i, h1, h2⟩ := chk_st h j hj
 refine ⟨i, h1, ?_⟩
 rcases h2 with ⟨_, h⟩ | h
 ·exact h
 ·unfold stepOk at h
  simp only [Bool.and_eq_true, decide_eq_true_eq] at h
  exact h.1.1
def keepL (Lb : Nat) (sw : Nat → Bool) (B : List Ins) : Bool := (List.range Lb).all fun j => sw j || match B[j]? with
 | some i => decide (i.op ≠ 19) && decide (i.op ≠ 20) && decide (i.op ≠ 21) && decide (i.op ≠ 25)
 | none => false
theorem keep_op {Lb : Nat} {sw : Nat → Bool} {B : List Ins} (h : keepL Lb sw B = true) {j : Nat} (hj : j < Lb) (hs : sw j = false) {i : Ins} (hi : B[j]? = some i) : i.op ≠ 19 ∧ i.op ≠ 20 ∧ i.op ≠ 21 ∧ i.op ≠ 25 := by
 have := List.all_eq_true.1 h j (List.mem_range.2 hj)
 simp only [hs, hi, Bool.false_or, Bool.and_eq_true, decide_eq_true_eq] at this
 exact ⟨this.1.1.1, this.1.1.2, this.1.2, this.2⟩
section
variable {X : Lad} {t : Nat} {s s' : Ts} {th th' : Th} {p j : Nat}
theorem place_of {Lb : Nat} (hj : j < Lb) : (p * Lb + j) % Lb = j ∧ (p * Lb + j) / Lb = p := by
 have h0 : 0 < Lb := by omega
 constructor
 ·rw [Nat.mul_comm, Nat.mul_add_mod, Nat.mod_eq_of_lt hj]
 ·rw [Nat.mul_comm, Nat.mul_add_div h0, Nat.div_eq_of_lt hj]; omega
theorem Lad.rk_at (h0 : th.st = 0) (hpc : th.pc = ((p * X.Lb t + j : Nat) : Int)) (hj : j < X.Lb t) (hp : p < X.R) : X.rk t th = 1 + (X.R - p) * X.Lm t - X.lv t j th := by
 obtain ⟨e1, e2⟩ := place_of (p := p) hj
 unfold Lad.rk
 rw [if_neg (by omega), hpc, Int.toNat_natCast, e1, e2, if_neg (by omega)]
theorem Lad.lo_at (h0 : th.st = 0) (hpc : th.pc = ((p * X.Lb t + j : Nat) : Int)) (hj : j < X.Lb t) (hp : p < X.R) (mem : List Int) : X.lo t th mem [] = X.loc t j th mem := by
 obtain ⟨e1, e2⟩ := place_of (p := p) hj
 unfold Lad.lo
 rw [hpc, Int.toNat_natCast, e1, e2, if_neg (by rintro (h | h | h); exact h h0; omega; exact h rfl)]
theorem Lad.stuck_at (h0 : th.st = 0) (hpc : th.pc = ((p * X.Lb t + j : Nat) : Int)) (hj : j < X.Lb t) (hp : p < X.R) (mem : List Int) : X.stuck t th mem [] ↔ X.cold t j th mem = true := by
 obtain ⟨e1, e2⟩ := place_of (p := p) hj
 unfold Lad.stuck
 rw [hpc, Int.toNat_natCast, e1, e2]
 constructor
 ·rintro (h | h | ⟨_, h⟩)
  ·exact absurd h0 h
  ·exact absurd rfl h
  ·exact h
 ·exact fun h => .inr (.inr ⟨hp, h⟩)
theorem Lad.rk_end (h0 : th.st = 0) (hpc : th.pc = ((X.R * X.Lb t : Nat) : Int)) (hL : 0 < X.Lb t) : X.rk t th = 1 := by
 unfold Lad.rk
 rw [if_neg (by omega), hpc, Int.toNat_natCast, Nat.mul_div_cancel _ hL, if_pos (Nat.le_refl _)]
theorem Lad.stuck_end {mem : List Int} (h : X.stuck t th mem []) (hpc : th.pc = ((X.R * X.Lb t : Nat) : Int)) (hL : 0 < X.Lb t) : th.st ≠ 0 := by
 rcases h with c | c | ⟨c, _⟩
 ·exact c
 ·exact absurd rfl c
 ·rw [hpc, Int.toNat_natCast, Nat.mul_div_cancel _ hL] at c; omega
theorem Lad.rk_lt {lev : Nat → Nat} (hl : ∀ j th, lev j ≤ X.lv t j th ∧ X.lv t j th < X.Lm t) (h0 : th.st = 0) (hpc : th.pc = ((p * X.Lb t + j : Nat) : Int)) (hj : j < X.Lb t) (hp : p < X.R)
  (h0' : th'.st = 0) (hn : (th'.pc = th.pc + 1 ∧ (j + 1 = X.Lb t ∨ X.lv t j th < X.lv t (j + 1) th')) ∨ ∃ k, th'.pc = ((p * X.Lb t + k : Nat) : Int) ∧ k < X.Lb t ∧ X.lv t j th < X.lv t k th') : X.rk t th' < X.rk t th := by
 have hL : 0 < X.Lb t := by omega
 rw [Lad.rk_at h0 hpc hj hp]
 have hlt := (hl j th).2
 have hm : X.Lm t ≤ (X.R - p) * X.Lm t := Nat.le_mul_of_pos_left _ (by omega)
 rcases hn with ⟨hn, hc⟩ | ⟨k, hn, hk, hc⟩
 ·by_cases e : j + 1 = X.Lb t
  ·have hpc' : th'.pc = (((p + 1) * X.Lb t + 0 : Nat) : Int) := by
    rw [hn, hpc, Nat.succ_mul]; omega
   by_cases hp' : p + 1 = X.R
   ·rw [hp', Nat.add_zero] at hpc'
    rw [Lad.rk_end h0' hpc' hL]
    omega
   ·rw [Lad.rk_at h0' hpc' hL (by omega)]
    have e2 : (X.R - p) * X.Lm t = (X.R - (p + 1)) * X.Lm t + X.Lm t := by
     rw [← Nat.succ_mul]; congr 1; omega
    omega
  ·have hpc' : th'.pc = ((p * X.Lb t + (j + 1) : Nat) : Int) := by rw [hn, hpc]; omega
   rw [Lad.rk_at h0' hpc' (by omega) hp]
   have h2 := (hl (j + 1) th').2
   rcases hc with hc | hc
   ·exact absurd hc e
   ·omega
 ·rw [Lad.rk_at h0' hn hk hp]
  have h2 := (hl k th').2
  omega
theorem Lad.falls {lev : Nat → Nat} (hl : ∀ j th, lev j ≤ X.lv t j th ∧ X.lv t j th < X.Lm t) (h0 : th.st = 0) (hpc : th.pc = ((p * X.Lb t + j : Nat) : Int)) (hj : j < X.Lb t) (hp : p < X.R) (hR : X.R * X.Lb t ≤ 1000000)
  (hlv : X.lv t j th = lev j) {i0 : Ins} (hok : stepOk (X.Lb t) lev j i0 = true) (T : Ts.Turn t (movI (p * X.Lb t) i0) th th' s s') : X.rk t th' < X.rk t th := by
 unfold stepOk at hok
 simp only [Bool.and_eq_true, Bool.or_eq_true, decide_eq_true_eq, Bool.not_eq_true'] at hok
 obtain ⟨⟨o1, o2⟩, o3⟩ := hok
 have hb : (p + 1) * X.Lb t ≤ X.R * X.Lb t := Nat.mul_le_mul_right _ hp
 rw [Nat.succ_mul] at hb
 refine Lad.rk_lt hl h0 hpc hj hp (by rw [T.st]; exact h0) ?_
 rcases T.pc with ⟨c1, c2⟩ | ⟨c1, c2⟩
 ·refine .inl ⟨c2, ?_⟩
  rw [movI_op] at c1
  rcases o2 with (o2 | o2) | o2
  ·exact absurd o2 c1
  ·exact .inl o2
  ·exact .inr (by rw [hlv]; exact Nat.lt_of_lt_of_le o2 (hl _ _).1)
 ·rw [movI_op] at c1
  have hj2 : jumps i0.op = true := by
   unfold jumps
   rcases c1 with e | e | e <;> rw [e] <;> rfl
  rcases o3 with o3 | ⟨⟨k1, k2⟩, k3⟩
  ·rw [hj2] at o3; cases o3
  ·refine .inr ⟨i0.k.toNat, ?_, k2, by rw [hlv]; exact Nat.lt_of_lt_of_le k3 (hl _ _).1⟩
   rw [c2, movI_jump hj2]
   show wr32 (i0.k + ((p * X.Lb t : Nat) : Int)) = _
   unfold wr32
   omega
theorem Lad.big_lt (ht : t < X.T) (hths : t < s.ths.length) (hth : s.th t = th) (i : Ins) (T : Ts.Turn t i th th' s s') (h : X.rk t th' < X.rk t th) : X.big s' < X.big s := by
 have e := th_set T.ths hths s' rfl
 refine sumN_lt X.T ht (fun u _ => ?_) ?_
 ·show 2 * X.rk u (s'.th u) + (s'.buf u).length ≤ 2 * X.rk u (s.th u) + (s.buf u).length
  have := T.bl u
  rw [e]
  by_cases c : u = t
  ·subst c; rw [if_pos rfl] at this ⊢; rw [hth]; omega
  ·rw [if_neg c] at this ⊢; omega
 ·show 2 * X.rk t (s'.th t) + (s'.buf t).length < 2 * X.rk t (s.th t) + (s.buf t).length
  have := T.bl t
  rw [if_pos rfl] at this
  rw [e, if_pos rfl, hth]; omega
theorem Lad.flush_lt (ht : t < X.T) (hb : t < s.bufs.length) (hq : s.buf t ≠ []) : X.big (s.flush t) < X.big s := by
 have e : (s.flush t).ths = s.ths := (s.flush_same t hb).ths
 have e2 : ∀ u, (s.flush t).th u = s.th u := fun u => by unfold Ts.th; rw [e]
 have e3 := buf_flushF hb
 refine sumN_lt X.T ht (fun u _ => ?_) ?_
 ·show 2 * X.rk u ((s.flush t).th u) + ((s.flush t).buf u).length ≤ 2 * X.rk u (s.th u) + (s.buf u).length
  rw [e2]
  have := flush_shr s t u
  omega
 ·show 2 * X.rk t ((s.flush t).th t) + ((s.flush t).buf t).length < 2 * X.rk t (s.th t) + (s.buf t).length
  rw [e2, e3, upF_self]
  cases hc : s.buf t with
  | nil => exact absurd hc hq
  | cons x r => simp
def Lad.Out (X : Lad) (t : Nat) (s s' : Ts) : Prop := X.big s' < X.big s ∨ (s'.mem = s.mem ∧ s'.bufs = s.bufs ∧ ∃ th', s'.ths = s.ths.set t th' ∧ X.rk t th' ≤ X.rk t (s.th t) ∧ (X.lo t th' s.mem (s.buf t) < X.lo t (s.th t) s.mem (s.buf t) ∨ (X.stuck t (s.th t) s.mem (s.buf t) ∧ X.stuck t th' s.mem (s.buf t) ∧ X.lo t th' s.mem (s.buf t) ≤ X.lo t (s.th t) s.mem (s.buf t))))
structure Stand (codes : List (List Ins)) (Lb R : Nat) (B : List Ins) (s : Ts) (t : Nat) (th : Th) (p j : Nat) : Prop where
 hs : s.ths[t]? = some th
 pc : th.pc = ((p * Lb + j : Nat) : Int)
 fr : th.st = 0 ∧ p < R ∧ j < Lb ∨ p = R ∧ j = 0 ∧ (th.st = 0 ∨ th.st = 2)
 code : ∃ L, codes[t]? = some L ∧ L.length = R * Lb ∧ ∀ p j, p < R → j < Lb → L[p * Lb + j]? = (B[j]?).map (movI (p * Lb))
inductive Stand.Way (codes : List (List Ins)) (Lb R : Nat) (B : List Ins) (s s' : Ts) (t : Nat) (th : Th) (p j : Nat) : Prop where
 | flush (h : s' = s.flush t) (hne : s.buf t ≠ [])
 | turn (i : Ins) (th' : Th) (h0 : th.st = 0) (hp : p < R) (hj : j < Lb) (hi : B[j]? = some i) (hA : AtI codes s t th (movI (p * Lb) i)) (hd : drainsI i.op → s.empty t = true) (hr : i.op = 17 → s.roomy t = true) (T : Ts.Turn t (movI (p * Lb) i) th th' s s')
 | ended (h0 : th.st = 0) (hp : p = R) (hj : j = 0) (h : s' = (s.note t ⟨12, 0, th.pc, 0, 0, 0, 0, false⟩).upd t { th with st := 2 })
 | still (h0 : th.st = 2) (h : s' = s)
theorem Stand.way {codes : List (List Ins)} {Lb R : Nat} {B : List Ins} (S : Stand codes Lb R B s t th p j) (hB : t < s.bufs.length) (hr : 0 < s.room) (hop : ∀ j, j < Lb → ∃ i, B[j]? = some i ∧ i.op ≠ 0) (hgo : s.stepT codes t = some s') : Stand.Way codes Lb R B s s' t th p j := by
 obtain ⟨L, hc, hLl, hget⟩ := S.code
 rcases S.fr with ⟨h0, hp, hj⟩ | ⟨hp, hj, h0⟩
 ·obtain ⟨i, hi, hk⟩ := hop j hj
  have hA : AtI codes s t th (movI (p * Lb) i) := ⟨S.hs, ⟨L, hc, by rw [S.pc, Int.toNat_natCast, hget p j hp hj, hi]; rfl⟩, h0, by rw [S.pc]; omega⟩
  rcases turn_of hA (by rw [movI_op]; exact hk) hr hB hgo with ⟨e, hne⟩ | ⟨th', T⟩
  ·exact .flush e hne
  ·by_cases hd : drainsI i.op ∧ s.empty t = false ∨ i.op = 17 ∧ s.roomy t = false
   ·have hq : s.buf t ≠ [] := by
     intro e
     rcases hd with ⟨_, c⟩ | ⟨_, c⟩
     ·unfold Ts.empty at c; rw [e] at c; cases c
     ·unfold Ts.roomy at c; rw [e, decide_eq_false_iff_not] at c; exact c hr
    have : s' = s.flush t := by
     rw [stepT_at hA] at hgo
     by_cases c1 : asksI (movI (p * Lb) i).op ∧ (s.mem.length : Int) ≤ addrI th (movI (p * Lb) i)
     ·rw [if_pos c1] at hgo; cases hgo
     ·rw [if_neg c1, movI_op, if_pos hd] at hgo
      rw [← Option.some.inj hgo]; exact upd_flush S.hs
    exact .flush this hq
   ·refine .turn i th' h0 hp hj hi hA (fun c => ?_) (fun c => ?_) T
    ·cases he : s.empty t with
     | true => rfl
     | false => exact absurd (.inl ⟨c, he⟩) hd
    ·cases he : s.roomy t with
     | true => rfl
     | false => exact absurd (.inr ⟨c, he⟩) hd
 ·have hpc2 : th.pc = ((R * Lb : Nat) : Int) := by rw [S.pc, hp, hj]; rfl
  rcases h0 with h0 | h0
  ·have := stepT_end S.hs hc h0 (by rw [hpc2, hLl]; exact Int.le_refl _)
   rw [this] at hgo
   exact .ended h0 hp hj (Option.some.inj hgo).symm
  ·have e := stepT_stop S.hs hc (by omega) (s := s)
   rw [e] at hgo
   exact .still h0 (Option.some.inj hgo).symm
theorem Stand.Way.room {codes : List (List Ins)} {Lb R : Nat} {B : List Ins} (h : Stand.Way codes Lb R B s s' t th p j) (hB : t < s.bufs.length) : s'.room = s.room := by
 cases h with
 | flush e _ => rw [e]; exact (s.flush_same t hB).room
 | turn _ _ _ _ _ _ _ _ _ T => exact T.room
 | ended _ _ _ e => rw [e]; rfl
 | still _ e => rw [e]
theorem Lad.out_of {codes : List (List Ins)} {lev : Nat → Nat} {loop : Nat → Bool} {B : List Ins} (S : Stand codes (X.Lb t) X.R B s t th p j) (W : Stand.Way codes (X.Lb t) X.R B s s' t th p j) (hT : s.ths.length = X.T) (hB : s.bufs.length = X.T) (ht : t < X.T) (hR : X.R * X.Lb t ≤ 1000000) (hL0 : 0 < X.Lb t)
  (hl : ∀ j th, lev j ≤ X.lv t j th ∧ X.lv t j th < X.Lm t) (hflat : ∀ j th, loop j = false → X.lv t j th = lev j)
  (hst : ∀ j, j < X.Lb t → ∃ i, B[j]? = some i ∧ (loop j = true ∧ i.op ≠ 0 ∨ stepOk (X.Lb t) lev j i = true))
  (hloop : ∀ i th', loop j = true → p < X.R → j < X.Lb t → th.st = 0 → B[j]? = some i → AtI codes s t th (movI (p * X.Lb t) i) → (drainsI i.op → s.empty t = true) → (i.op = 17 → s.roomy t = true) → Ts.Turn t (movI (p * X.Lb t) i) th th' s s' → X.Out t s s')
  : X.Out t s s' := by
 have hs := S.hs
 have hth : s.th t = th := by unfold Ts.th; rw [hs]; rfl
 have hlt : t < s.ths.length := by omega
 cases W with
 | flush e hne => rw [e]; exact .inl (Lad.flush_lt ht (by omega) hne)
 | turn i th' h0 hp hj hi hA hd hr T =>
  cases hlp : loop j with
  | false =>
   obtain ⟨i', hi', hk⟩ := hst j hj
   rw [hi] at hi'
   obtain rfl := Option.some.inj hi'
   rcases hk with ⟨k, _⟩ | k
   ·rw [hlp] at k; cases k
   ·exact .inl (Lad.big_lt ht hlt hth _ T (Lad.falls hl h0 S.pc hj hp hR (hflat j th hlp) k T))
  | true => exact hloop i th' hlp hp hj h0 hi hA hd hr T
 | ended h0 hp hj e =>
  have hpc2 : th.pc = ((X.R * X.Lb t : Nat) : Int) := by rw [S.pc, hp, hj]; rfl
  refine .inl ?_
  have e2 := th_set (s := s) (t := t) (th' := { th with st := 2 }) rfl hlt s' (by rw [e]; rfl)
  have eb : ∀ u, s'.buf u = s.buf u := fun u => by rw [e]; rfl
  have ez : X.rk t { th with st := 2 } = 0 := by unfold Lad.rk; rw [if_pos (by show (2 : Int) ≠ 0; decide)]
  refine sumN_lt X.T ht (fun u _ => ?_) ?_
  ·show 2 * X.rk u (s'.th u) + (s'.buf u).length ≤ 2 * X.rk u (s.th u) + (s.buf u).length
   rw [eb, e2]
   by_cases c : u = t
   ·subst c
    rw [if_pos rfl, ez]; omega
   ·rw [if_neg c]; omega
  ·show 2 * X.rk t (s'.th t) + (s'.buf t).length < 2 * X.rk t (s.th t) + (s.buf t).length
   rw [eb, e2, if_pos rfl, hth, Lad.rk_end h0 hpc2 hL0, ez]
   omega
 | still h0 e =>
  subst e
  refine .inr ⟨rfl, rfl, th, ?_, by rw [hth]; exact Nat.le_refl _, .inr ⟨?_, ?_, by rw [hth]; exact Nat.le_refl _⟩⟩
  ·obtain ⟨hlt, he⟩ := List.getElem?_eq_some_iff.1 hs
   rw [← he]; exact (List.set_getElem_self hlt).symm
  ·rw [hth]; exact .inl (by omega)
  ·exact .inl (by omega)
theorem Ts.Turn.th_eq {i : Ins} {th2 : Th} (T : Ts.Turn t i th th' s s') (hs : s.ths[t]? = some th) (h : s'.ths = s.ths.set t th2) : th' = th2 := by
 have hlt := (List.getElem?_eq_some_iff.1 hs).1
 have h2 := T.ths
 rw [h] at h2
 have := congrArg (fun l : List Th => l[t]?) h2
 simp only [List.getElem?_set_self hlt] at this
 exact (Option.some.inj this).symm
theorem Lad.out_keep {k : Nat} (hths : s'.ths = s.ths.set t th') (hm : s'.mem = s.mem) (hb : s'.bufs = s.bufs) (hs : s.ths[t]? = some th) (h0 : th.st = 0) (hpc : th.pc = ((p * X.Lb t + j : Nat) : Int)) (hj : j < X.Lb t) (hp : p < X.R)
  (h0' : th'.st = 0) (hpc' : th'.pc = ((p * X.Lb t + k : Nat) : Int)) (hk : k < X.Lb t) (hlv : X.lv t k th' = X.lv t j th) (h : s.buf t = [] → X.loc t k th' s.mem < X.loc t j th s.mem ∨ (X.cold t j th s.mem = true ∧ X.cold t k th' s.mem = true ∧ X.loc t k th' s.mem ≤ X.loc t j th s.mem)) : X.Out t s s' := by
 have hth : s.th t = th := by unfold Ts.th; rw [hs]; rfl
 refine .inr ⟨hm, hb, th', hths, by rw [hth, Lad.rk_at h0 hpc hj hp, Lad.rk_at h0' hpc' hk hp, hlv]; exact Nat.le_refl _, ?_⟩
 rw [hth]
 by_cases e : s.buf t = []
 ·have h := h e
  rw [e, Lad.lo_at h0 hpc hj hp, Lad.lo_at h0' hpc' hk hp, Lad.stuck_at h0 hpc hj hp, Lad.stuck_at h0' hpc' hk hp]
  exact h
 ·refine .inr ⟨.inr (.inl e), .inr (.inl e), ?_⟩
  have : X.lo t th' s.mem (s.buf t) = 0 := by unfold Lad.lo; rw [if_pos (.inr (.inr e))]
  rw [this]; exact Nat.zero_le _
theorem Lad.out_lt {lev : Nat → Nat} (hl : ∀ j th, lev j ≤ X.lv t j th ∧ X.lv t j th < X.Lm t) (ht : t < X.T) (hT : s.ths.length = X.T) {i : Ins} (T : Ts.Turn t i th th' s s') (hs : s.ths[t]? = some th) (h0 : th.st = 0) (hpc : th.pc = ((p * X.Lb t + j : Nat) : Int)) (hj : j < X.Lb t) (hp : p < X.R)
  {k : Nat} (hpc' : th'.pc = ((p * X.Lb t + k : Nat) : Int)) (hk : k < X.Lb t) (hlv : X.lv t j th < X.lv t k th') : X.Out t s s' := by
 have hth : s.th t = th := by unfold Ts.th; rw [hs]; rfl
 exact .inl (Lad.big_lt ht (by omega) hth i T (Lad.rk_lt hl h0 hpc hj hp (by rw [T.st]; exact h0) (.inr ⟨k, hpc', hk, hlv⟩)))
theorem pick_cases {codes : List (List Ins)} {q : Nat × Nat} (h : s.pick codes q = some s') (hs : s.slp = []) : s' = s ∨ (q.2 < s.ths.length ∧ s.stepT codes q.2 = some s') ∨ (q.2 < s.ths.length ∧ s' = s.flush q.2) := by
 unfold Ts.pick at h
 by_cases c1 : s.ths.length ≤ q.2
 ·rw [if_pos c1] at h; exact .inl (Option.some.inj h).symm
 rw [if_neg c1] at h
 by_cases c2 : q.1 = 0
 ·rw [if_pos c2] at h; exact .inr (.inl ⟨by omega, h⟩)
 rw [if_neg c2] at h
 by_cases c3 : q.1 = 1
 ·rw [if_pos c3] at h; exact .inr (.inr ⟨by omega, (Option.some.inj h).symm⟩)
 rw [if_neg c3, if_pos hs] at h
 exact .inl (Option.some.inj h).symm
theorem run_one {codes : List (List Ins)} {q : Nat × Nat} (h : Ts.run codes s [q] = some s') : s.pick codes q = some s' := by
 rw [Ts.run] at h
 cases hp : s.pick codes q with
 | none => rw [hp] at h; cases h
 | some s2 => rw [hp] at h; exact h
theorem mem_flush (s : Ts) (t : Nat) : (s.flush t).mem = s.mem ∨ ∃ e r, s.buf t = e :: r ∧ (s.flush t).mem = s.mem.set e.1 e.2 := by
 unfold Ts.flush
 cases h : s.buf t with
 | nil => exact .inl rfl
 | cons e r => exact .inr ⟨e, r, rfl, rfl⟩
theorem empty_nil {s : Ts} {t : Nat} (h : s.empty t = true) : s.buf t = [] := by
 unfold Ts.empty at h
 exact List.eq_nil_of_length_eq_zero (by simpa using h)
theorem load_nil {s : Ts} {t : Nat} (h : s.buf t = []) (a : Nat) : s.load t a = s.mem.getD a 0 := by
 unfold Ts.load; rw [h]; rfl
end
end Go.Proofs.YtckmkaeopnnbbaaGreatDoor.As
