/- Plain Lean: a measure of a machine tso that no pick makes greater; each window of picks that names all makes it less, until all have ended. No program in sight. -/
import Derived.Test.YtckmkaeopnnbbaaGreatDoorEnA
set_option linter.unusedVariables false
set_option linter.unusedSimpArgs false
namespace Go.Proofs.YtckmkaeopnnbbaaGreatDoor.As

def sumN (g : Nat → Nat) : Nat → Nat
 | 0 => 0
 | n + 1 => sumN g n + g n
theorem sumN_le {g h : Nat → Nat} : ∀ n : Nat, (∀ t, t < n → g t ≤ h t) → sumN g n ≤ sumN h n
 | 0, _ => Nat.le_refl _
 | n + 1, H => Nat.add_le_add (sumN_le n fun t ht => H t (by omega)) (H n (by omega))
theorem sumN_lt {g h : Nat → Nat} {t : Nat} : ∀ n : Nat, t < n → (∀ u, u < n → g u ≤ h u) → g t < h t → sumN g n < sumN h n
 | 0, ht, _, _ => by omega
 | n + 1, ht, H, hl => by
  rw [sumN, sumN]
  have h1 := sumN_le (g := g) (h := h) n fun u hu => H u (by omega)
  have h2 := H n (by omega)
  by_cases e : t = n
  ·subst e; omega
  ·have := sumN_lt (g := g) (h := h) n (by omega) (fun u hu => H u (by omega)) hl
   omega
theorem sumN_bd {g : Nat → Nat} {K : Nat} : ∀ n : Nat, (∀ t, t < n → g t ≤ K) → sumN g n ≤ n * K
 | 0, _ => by simp [sumN]
 | n + 1, H => by
  have h1 := sumN_bd (g := g) (K := K) n fun t ht => H t (by omega)
  have h2 := H n (by omega)
  rw [sumN, Nat.succ_mul]; omega
structure Lad where
 T : Nat
 R : Nat
 K : Nat
 Lb : Nat → Nat
 Lm : Nat → Nat
 lv : Nat → Nat → Th → Nat
 loc : Nat → Nat → Th → List Int → Nat
 cold : Nat → Nat → Th → List Int → Bool
def Lad.rk (X : Lad) (t : Nat) (th : Th) : Nat := if th.st ≠ 0 then 0 else if X.R ≤ th.pc.toNat / X.Lb t then 1 else 1 + (X.R - th.pc.toNat / X.Lb t) * X.Lm t - X.lv t (th.pc.toNat % X.Lb t) th
def Lad.lo (X : Lad) (t : Nat) (th : Th) (mem : List Int) (q : List (Nat × Int)) : Nat := if th.st ≠ 0 ∨ X.R ≤ th.pc.toNat / X.Lb t ∨ q ≠ [] then 0 else X.loc t (th.pc.toNat % X.Lb t) th mem
def Lad.stuck (X : Lad) (t : Nat) (th : Th) (mem : List Int) (q : List (Nat × Int)) : Prop := th.st ≠ 0 ∨ q ≠ [] ∨ (th.pc.toNat / X.Lb t < X.R ∧ X.cold t (th.pc.toNat % X.Lb t) th mem = true)
def Lad.big (X : Lad) (s : Ts) : Nat := sumN (fun t => 2 * X.rk t (s.th t) + (s.buf t).length) X.T
def Lad.small (X : Lad) (s : Ts) : Nat := sumN (fun t => X.lo t (s.th t) s.mem (s.buf t)) X.T
def Lad.M (X : Lad) (s : Ts) : Nat := (X.T * X.K + 1) * X.big s + X.small s
def Lad.Done (X : Lad) (s : Ts) : Prop := ∀ t, t < X.T → (s.th t).st ≠ 0 ∧ s.buf t = []
structure Lad.Fit (X : Lad) (codes : List (List Ins)) (J : Ts → Prop) : Prop where
 len : ∀ s, J s → s.ths.length = X.T ∧ s.bufs.length = X.T ∧ s.slp = []
 go : ∀ s p, J s → ∃ s', s.pick codes p = some s' ∧ J s'
 step : ∀ s t s', J s → t < X.T → s.stepT codes t = some s' → X.big s' < X.big s ∨ (s'.mem = s.mem ∧ s'.bufs = s.bufs ∧ ∃ th', s'.ths = s.ths.set t th' ∧ X.rk t th' ≤ X.rk t (s.th t) ∧ (X.lo t th' s.mem (s.buf t) < X.lo t (s.th t) s.mem (s.buf t) ∨ (X.stuck t (s.th t) s.mem (s.buf t) ∧ X.stuck t th' s.mem (s.buf t) ∧ X.lo t th' s.mem (s.buf t) ≤ X.lo t (s.th t) s.mem (s.buf t))))
 lo : ∀ t th mem q, X.lo t th mem q ≤ X.K
 gone : ∀ s, J s → (∀ t, t < X.T → s.buf t = [] ∧ X.stuck t (s.th t) s.mem (s.buf t)) → ∀ t, t < X.T → (s.th t).st ≠ 0
section
variable {X : Lad} {codes : List (List Ins)} {J : Ts → Prop} {s s' : Ts}
theorem th_set {s : Ts} {t : Nat} {th' : Th} {l : List Th} (h : l = s.ths.set t th') (ht : t < s.ths.length) (s' : Ts) (e : s'.ths = l) (u : Nat) : s'.th u = if u = t then th' else s.th u := by
 unfold Ts.th
 rw [e, h]
 by_cases c : u = t
 ·subst c; rw [if_pos rfl, List.getElem?_set_self ht]; rfl
 ·rw [if_neg c, List.getElem?_set_ne (fun e2 => c e2.symm)]
theorem Lad.M_lt (hlo : ∀ t th mem q, X.lo t th mem q ≤ X.K) (h : X.big s' < X.big s) : X.M s' < X.M s := by
 unfold Lad.M
 have h1 : X.small s' ≤ X.T * X.K := sumN_bd X.T fun t _ => hlo _ _ _ _
 have h2 : (X.T * X.K + 1) * (X.big s' + 1) ≤ (X.T * X.K + 1) * X.big s := Nat.mul_le_mul_left _ h
 rw [Nat.mul_succ] at h2
 omega
theorem stepT_idle {t : Nat} (ht : t < s.ths.length) (h : (s.th t).st ≠ 0) (hs : s.stepT codes t = some s') : s' = s := by
 have e : s.ths[t]? = some (s.th t) := by unfold Ts.th; rw [List.getElem?_eq_getElem ht]; rfl
 unfold Ts.stepT at hs
 rw [e] at hs
 cases hc : codes[t]? with
 | none => rw [hc] at hs; cases hs
 | some L =>
  have := stepT_stop (s := s) e hc h
  unfold Ts.stepT at this
  rw [e] at this
  rw [this] at hs
  exact (Option.some.inj hs).symm
structure Lad.Idle (X : Lad) (s s' : Ts) : Prop where
 mem : s'.mem = s.mem
 bufs : s'.bufs = s.bufs
 M : X.M s' ≤ X.M s
 ths : ∀ u, u < X.T → s'.th u = s.th u ∨ (X.stuck u (s.th u) s.mem (s.buf u) ∧ X.stuck u (s'.th u) s.mem (s.buf u))
theorem Lad.Idle.refl (X : Lad) (s : Ts) : X.Idle s s := ⟨rfl, rfl, Nat.le_refl _, fun _ _ => .inl rfl⟩
theorem Lad.Fit.pick (H : X.Fit codes J) (hJ : J s) {p : Nat × Nat} (hp : s.pick codes p = some s') :
  X.M s' < X.M s ∨ (X.Idle s s' ∧ (p.1 = 1 → p.2 < X.T → s.buf p.2 = []) ∧ (p.1 = 0 → p.2 < X.T → X.stuck p.2 (s.th p.2) s.mem (s.buf p.2))) := by
 obtain ⟨l1, l2, l3⟩ := H.len s hJ
 unfold Ts.pick at hp
 by_cases c1 : s.ths.length ≤ p.2
 ·rw [if_pos c1] at hp
  have := Option.some.inj hp
  subst this
  exact .inr ⟨.refl X s, fun _ h => by omega, fun _ h => by omega⟩
 rw [if_neg c1] at hp
 have hT : p.2 < X.T := by omega
 by_cases c2 : p.1 = 0
 ·rw [if_pos c2] at hp
  rcases H.step s p.2 s' hJ hT hp with h | ⟨hm, hb, th', hths, hrk, hk⟩
  ·exact .inl (Lad.M_lt H.lo h)
  ·have hth := th_set hths (by omega) s' rfl
   have hbuf : ∀ u, s'.buf u = s.buf u := fun u => by unfold Ts.buf; rw [hb]
   have hbig : X.big s' ≤ X.big s := sumN_le X.T fun u _ => by
    show 2 * X.rk u (s'.th u) + (s'.buf u).length ≤ 2 * X.rk u (s.th u) + (s.buf u).length
    rw [hbuf, hth]
    split
    ·rename_i e; subst e; omega
    ·exact Nat.le_refl _
   rcases hk with hk | ⟨k1, k2, k3⟩
   ·refine .inl ?_
    have hs : X.small s' < X.small s := sumN_lt X.T hT (fun u _ => by
     show X.lo u (s'.th u) s'.mem (s'.buf u) ≤ X.lo u (s.th u) s.mem (s.buf u)
     rw [hm, hth, hbuf]
     split
     ·rename_i e; subst e; omega
     ·exact Nat.le_refl _) (by
     show X.lo p.2 (s'.th p.2) s'.mem (s'.buf p.2) < X.lo p.2 (s.th p.2) s.mem (s.buf p.2)
     rw [hm, hth, hbuf, if_pos rfl]; exact hk)
    unfold Lad.M
    have := Nat.mul_le_mul_left (X.T * X.K + 1) hbig
    omega
   ·refine .inr ⟨⟨hm, hb, ?_, fun u hu => ?_⟩, fun e => by omega, fun _ _ => k1⟩
    ·have hs : X.small s' ≤ X.small s := sumN_le X.T (fun u _ => by
      show X.lo u (s'.th u) s'.mem (s'.buf u) ≤ X.lo u (s.th u) s.mem (s.buf u)
      rw [hm, hth, hbuf]
      split
      ·rename_i e; subst e; exact k3
      ·exact Nat.le_refl _)
     unfold Lad.M
     have := Nat.mul_le_mul_left (X.T * X.K + 1) hbig
     omega
    ·rw [hth]
     by_cases e : u = p.2
     ·subst e; rw [if_pos rfl]; exact .inr ⟨k1, k2⟩
     ·rw [if_neg e]; exact .inl rfl
 rw [if_neg c2] at hp
 by_cases c3 : p.1 = 1
 ·rw [if_pos c3] at hp
  have := Option.some.inj hp
  subst this
  cases hq : s.buf p.2 with
  | nil =>
   have e : s.flush p.2 = s := by unfold Ts.flush; rw [hq]
   rw [e]
   exact .inr ⟨.refl X s, fun _ _ => rfl, fun h => absurd h c2⟩
  | cons x r =>
   refine .inl (Lad.M_lt H.lo ?_)
   have e : (s.flush p.2).ths = s.ths := (s.flush_same p.2 (by omega)).ths
   have e2 : ∀ u, (s.flush p.2).th u = s.th u := fun u => by unfold Ts.th; rw [e]
   have e3 := buf_flushF (s := s) (t := p.2) (by omega)
   refine sumN_lt X.T hT (fun u _ => ?_) ?_
   ·show 2 * X.rk u ((s.flush p.2).th u) + ((s.flush p.2).buf u).length ≤ 2 * X.rk u (s.th u) + (s.buf u).length
    rw [e2]
    have := flush_shr s p.2 u
    omega
   ·show 2 * X.rk p.2 ((s.flush p.2).th p.2) + ((s.flush p.2).buf p.2).length < 2 * X.rk p.2 (s.th p.2) + (s.buf p.2).length
    rw [e2, e3, upF_self, hq]
    simp
 rw [if_neg c3, if_pos l3] at hp
 have := Option.some.inj hp
 subst this
 exact .inr ⟨.refl X s, fun h => absurd h c3, fun h => absurd h c2⟩
theorem Lad.Fit.run (H : X.Fit codes J) : ∀ (l : List (Nat × Nat)) (s : Ts), J s → ∃ s', Ts.run codes s l = some s' ∧ J s' ∧ (X.M s' < X.M s ∨ (X.Idle s s' ∧ (∀ t, t < X.T → (1, t) ∈ l → s.buf t = []) ∧ (∀ t, t < X.T → (0, t) ∈ l → X.stuck t (s.th t) s.mem (s.buf t))))
 | [], s, hJ => ⟨s, rfl, hJ, .inr ⟨.refl X s, fun _ _ h => (by cases h), fun _ _ h => (by cases h)⟩⟩
 | p :: l, s, hJ => by
  obtain ⟨s1, h1, j1⟩ := H.go s p hJ
  obtain ⟨s2, h2, j2, k2⟩ := Lad.Fit.run H l s1 j1
  refine ⟨s2, by rw [Ts.run, h1]; exact h2, j2, ?_⟩
  rcases H.pick hJ h1 with a | ⟨a, a1, a2⟩
  ·refine .inl ?_
   rcases k2 with b | ⟨b, -, -⟩
   ·exact Nat.lt_trans b a
   ·exact Nat.lt_of_le_of_lt b.M a
  ·rcases k2 with b | ⟨b, b1, b2⟩
   ·exact .inl (Nat.lt_of_lt_of_le b a.M)
   ·have hbu : ∀ u, s1.buf u = s.buf u := fun u => by unfold Ts.buf; rw [a.bufs]
    refine .inr ⟨⟨b.mem.trans a.mem, b.bufs.trans a.bufs, Nat.le_trans b.M a.M, fun u hu => ?_⟩, fun t ht hm => ?_, fun t ht hm => ?_⟩
    ·have hb := b.ths u hu
     rw [a.mem, hbu u] at hb
     rcases a.ths u hu with ea | ⟨ea, ea2⟩ <;> rcases hb with eb | ⟨eb, eb2⟩
     ·exact .inl (eb.trans ea)
     ·rw [ea] at eb; exact .inr ⟨eb, eb2⟩
     ·rw [eb]; exact .inr ⟨ea, ea2⟩
     ·exact .inr ⟨ea, eb2⟩
    ·rcases List.mem_cons.1 hm with e | e
     ·have := a1 (by rw [← e]) (by rw [← e]; exact ht)
      rw [← e] at this; exact this
     ·have := b1 t ht e
      unfold Ts.buf at this ⊢
      rw [← a.bufs]; exact this
    ·rcases List.mem_cons.1 hm with e | e
     ·have := a2 (by rw [← e]) (by rw [← e]; exact ht)
      rw [← e] at this; exact this
     ·have := b2 t ht e
      rw [a.mem, hbu t] at this
      rcases a.ths t ht with ea | ⟨ea, ea2⟩
      ·rw [ea] at this; exact this
      ·exact ea
def Full (T : Nat) (l : List (Nat × Nat)) : Prop := ∀ t, t < T → (0, t) ∈ l ∧ (1, t) ∈ l
theorem Lad.Done.pick (hd : X.Done s) (H : X.Fit codes J) (hJ : J s) {p : Nat × Nat} (hp : s.pick codes p = some s') : s' = s := by
 obtain ⟨l1, l2, l3⟩ := H.len s hJ
 unfold Ts.pick at hp
 by_cases c1 : s.ths.length ≤ p.2
 ·rw [if_pos c1] at hp; exact (Option.some.inj hp).symm
 rw [if_neg c1] at hp
 obtain ⟨d1, d2⟩ := hd p.2 (by omega)
 by_cases c2 : p.1 = 0
 ·rw [if_pos c2] at hp
  exact stepT_idle (by omega) d1 hp
 rw [if_neg c2] at hp
 by_cases c3 : p.1 = 1
 ·rw [if_pos c3] at hp
  have e : s.flush p.2 = s := by unfold Ts.flush; rw [d2]
  rw [e] at hp
  exact (Option.some.inj hp).symm
 rw [if_neg c3, if_pos l3] at hp
 exact (Option.some.inj hp).symm
theorem Lad.Done.run (hd : X.Done s) (H : X.Fit codes J) (hJ : J s) (l : List (Nat × Nat)) : Ts.run codes s l = some s := by
 induction l with
 | nil => rfl
 | cons p l ih =>
  obtain ⟨s1, h1, j1⟩ := H.go s p hJ
  have e := hd.pick H hJ h1
  rw [Ts.run, h1, e]
  exact ih
theorem Lad.Fit.window (H : X.Fit codes J) (l : List (Nat × Nat)) (hl : Full X.T l) (hJ : J s) : ∃ s', Ts.run codes s l = some s' ∧ J s' ∧ (X.Done s' ∨ X.M s' < X.M s) := by
 obtain ⟨s', h1, h2, h3⟩ := H.run l s hJ
 refine ⟨s', h1, h2, ?_⟩
 rcases h3 with h | ⟨h, a, b⟩
 ·exact .inr h
 ·refine .inl ?_
  have hg := H.gone s hJ fun t ht => ⟨a t ht (hl t ht).2, b t ht (hl t ht).1⟩
  have hd : X.Done s := fun t ht => ⟨hg t ht, a t ht (hl t ht).2⟩
  have := hd.run H hJ l
  rw [this] at h1
  rw [← Option.some.inj h1]; exact hd
theorem Lad.Fit.windows (H : X.Fit codes J) : ∀ (ls : List (List (Nat × Nat))) (s : Ts), (∀ l ∈ ls, Full X.T l) → J s → ∃ s', Ts.run codes s ls.flatten = some s' ∧ J s' ∧ (X.Done s' ∨ X.M s' + ls.length ≤ X.M s)
 | [], s, _, hJ => ⟨s, rfl, hJ, .inr (Nat.le_refl _)⟩
 | l :: ls, s, hl, hJ => by
  obtain ⟨s1, h1, j1, k1⟩ := H.window l (hl l (by simp)) hJ
  obtain ⟨s2, h2, j2, k2⟩ := Lad.Fit.windows H ls s1 (fun x hx => hl x (by simp [hx])) j1
  refine ⟨s2, by rw [List.flatten_cons, Ts.run_app, h1]; exact h2, j2, ?_⟩
  rcases k1 with k1 | k1
  ·have := k1.run H j1 ls.flatten
   rw [this] at h2
   rw [← Option.some.inj h2]; exact .inl k1
  ·rcases k2 with k2 | k2
   ·exact .inl k2
   ·refine .inr ?_
    rw [List.length_cons]; omega
theorem Lad.M_start (h0 : ∀ t, t < X.T → (s.buf t) = []) (hlo : ∀ t th mem q, X.lo t th mem q ≤ X.K) (hL : ∀ t, t < X.T → X.Lm t ≤ X.Lb t) : X.M s ≤ (X.T * X.K + 1) * (2 * X.T + 2 * sumN (fun t => X.R * X.Lb t) X.T) + X.T * X.K := by
 have h1 : X.small s ≤ X.T * X.K := sumN_bd X.T fun t _ => hlo _ _ _ _
 have h2 : ∀ n, n ≤ X.T → sumN (fun t => 2 * X.rk t (s.th t) + (s.buf t).length) n ≤ 2 * n + 2 * sumN (fun t => X.R * X.Lb t) n := by
  intro n
  induction n with
  | zero => intro _; simp [sumN]
  | succ n ih =>
   intro hn
   have := ih (by omega)
   rw [sumN, sumN, h0 n (by omega)]
   have hr : X.rk n (s.th n) ≤ 1 + X.R * X.Lb n := by
    unfold Lad.rk
    split
    ·omega
    ·split
     ·omega
     ·have a1 : (X.R - (s.th n).pc.toNat / X.Lb n) * X.Lm n ≤ X.R * X.Lb n := Nat.mul_le_mul (Nat.sub_le _ _) (hL n (by omega))
      omega
   simp only [List.length_nil]
   omega
 unfold Lad.M
 have h3 := Nat.mul_le_mul_left (X.T * X.K + 1) (h2 X.T (Nat.le_refl _))
 have h4 : X.big s = sumN (fun t => 2 * X.rk t (s.th t) + (s.buf t).length) X.T := rfl
 rw [← h4] at h3
 omega
theorem start_le {T K size : Nat} (hT : T ≤ 9) (hK : K ≤ 25) : (T * K + 1) * (2 * T + 2 * size) + T * K ≤ 50 * (T + 1) * (size + 10) := by
 have h1 : T * K + 1 ≤ 25 * (T + 1) := by
  have := Nat.mul_le_mul_left T hK
  omega
 have h2 := Nat.mul_le_mul_right (2 * T + 2 * size) h1
 have h3 : 25 * (T + 1) * (2 * T + 2 * size) = 50 * (T + 1) * (T + size) := by
  rw [← Nat.mul_add, ← Nat.mul_assoc, Nat.mul_right_comm 25 (T + 1) 2]
 have h4 : 50 * (T + 1) * (size + 10) = 50 * (T + 1) * (T + size) + 50 * (T + 1) * (10 - T) := by
  rw [← Nat.mul_add]; congr 1; omega
 have h5 : 50 * (T + 1) * 1 ≤ 50 * (T + 1) * (10 - T) := Nat.mul_le_mul_left _ (by omega)
 omega
end
end Go.Proofs.YtckmkaeopnnbbaaGreatDoor.As
