/- What the walk of trace.Calls holds. -/
import Derived.Test.YtckmkaeopnnbbaaGreatDoorTcA
import Derived.Test.YtckmkaeopnnbbaaGreatDoorTcC
import Derived.Maps.AppendAt
set_option linter.unusedVariables false
set_option linter.unusedSimpArgs false
namespace Go.Proofs.YtckmkaeopnnbbaaGreatDoor.As
open Go.RowKit

theorem tcalls_any (v : Value) (len : Nat) (evs : List Ev) (t : Int) (hreach : len ≤ 1000000) (hk : ∀ e ∈ evs, 0 ≤ e.k ∧ e.k ≤ 4294967295) (w : World) (hR : Rd w 8 v len (flatE evs)) (hle : evs.length = len) :
    Calls Tryz.prog 53 #[v, .int .i64 t] w fun e W' => ∃ v' vs, e = .returned v' ∧ OutC w.heap.size W' v' (callsF t (ofI evs t len)).1 vs ∧ Below w.heap.size w W' :=
  (callsIn_wide (n := 3)).1 (calls_in Fence.wide 3 trivial trivial trivial rfl (Nat.le_refl _) v len evs t hreach hk w hR hle)
theorem row_below {B e s n : Nat} {W W' : World} {v : Value} {xs : List Value} (h : W.ownsRow B e s v n xs) (hb : Below W.heap.size W W') : W'.ownsRow B e s v n xs := by
  refine ⟨h.1, ?_⟩
  rcases h.2 with h | ⟨g, cap, cur, rfl, h1, h2, h3⟩
  · exact .inl h
  · exact .inr ⟨g, cap, cur, rfl, h1, (hb.block g (Array.getElem?_eq_some_iff.1 h2).1).trans h2, h3⟩
theorem OutC.below {B : Nat} {W W' : World} {v : Value} {l : List Cl} {vs : List Value} (h : OutC B W v l vs) (hb : Below W.heap.size W W') : OutC B W' v l vs :=
  ⟨h.len, row_below h.row hb, fun i c u h1 h2 => row_below (h.inn i c u h1 h2) hb, h.dis⟩
theorem OutC.form {B : Nat} {W : World} {v : Value} {l : List Cl} {vs : List Value} (h : OutC B W v l vs) : ∃ A cap, v = .slice A l.length cap := by
  rcases h.row.2 with ⟨h1, h2⟩ | ⟨g, cap, cur, h1, _⟩
  · exact ⟨none, 0, by rw [h1, h2]⟩
  · exact ⟨_, _, h1⟩
/-- A row of its own below U. -/
def InU (B U : Nat) (W : World) (u : Value) (l : List Int) : Prop := W.ownsRow B 3 1 u l.length (l.map (Value.int .i64)) ∧ ∀ b, u.ownBlock = some b → b < U
/-- A row of calls that can be read from its first one left on; its blocks lie at or beyond B, below U. -/
def SufC (B U : Nat) (W : World) (v : Value) (l : List Cl) : Prop := ∃ (vs : List Value) (A : Option Addr) (cap : Nat), vs.length = l.length ∧ v = .slice A l.length cap ∧ l.length ≤ cap ∧
  (l ≠ [] → ∃ g off, A = some ⟨g, off, none⟩ ∧ B ≤ g ∧ g < U ∧ ∀ (j : Nat) (x : Value), (flatC l vs)[j]? = some x → W.cell? ⟨g, off + j, none⟩ = some x) ∧ ∀ (i : Nat) (c : Cl) (u : Value), l[i]? = some c → vs[i]? = some u → InU B U W u c.inner
theorem SufC.of {B : Nat} {W : World} {v : Value} {l : List Cl} {vs : List Value} (h : OutC B W v l vs) : SufC B W.heap.size W v l := by
  have hin : ∀ (i : Nat) (c : Cl) (u : Value), l[i]? = some c → vs[i]? = some u → InU B W.heap.size W u c.inner := fun i c u h1 h2 => ⟨by rw [show c.inner.length = c.inner.length from rfl]; exact h.inn i c u h1 h2, fun b hb => ((h.inn i c u h1 h2).lt b hb).2⟩
  rcases h.row.2 with ⟨h1, h2⟩ | ⟨g, cap, cur, h1, hB, hg, hn, _, hcs, ht⟩
  · have hl : l = [] := List.eq_nil_of_length_eq_zero h2
    subst hl
    exact ⟨vs, none, 0, h.len, h1, Nat.le_refl _, fun e => absurd rfl e, hin⟩
  · refine ⟨vs, _, cap, h.len, h1, hn, fun _ => ⟨g, 0, rfl, hB, (Array.getElem?_eq_some_iff.1 hg).1, fun j x hj => ?_⟩, hin⟩
    have hr := h.row
    rw [h1] at hr
    have hjl := (List.getElem?_eq_some_iff.1 hj).1
    rw [flatC_len _ _ h.len] at hjl
    rw [Nat.zero_add, hr.cellAt j hjl]
    exact hj
theorem SufC.tail {B U : Nat} {W : World} {v : Value} {c : Cl} {r : List Cl} (h : SufC B U W v (c :: r)) : ∃ g off cap, v = .slice (some ⟨g, off, none⟩) (r.length + 1) cap ∧ r.length + 1 ≤ cap ∧ B ≤ g ∧ g < U ∧ SufC B U W (.slice (some ⟨g, off + 6, none⟩) r.length (cap - 1)) r ∧
    ∃ u, (∀ (j : Nat) (x : Value), (c.cells u)[j]? = some x → W.cell? ⟨g, off + j, none⟩ = some x) ∧ InU B U W u c.inner := by
  obtain ⟨vs, A, cap, h1, h2, h3, h4, h5⟩ := h
  obtain ⟨g, off, rfl, hB, hg, hc⟩ := h4 (by simp)
  cases vs with
  | nil => simp at h1
  | cons u vs =>
    have hl : vs.length = r.length := by simpa using h1
    have e : flatC (c :: r) (u :: vs) = c.cells u ++ flatC r vs := rfl
    rw [e] at hc
    refine ⟨g, off, cap, h2, by simpa using h3, hB, hg, ⟨vs, _, cap - 1, hl, rfl, (by have h3' : r.length + 1 ≤ cap := (by simpa using h3); omega), fun _ => ⟨g, off + 6, rfl, hB, hg, fun j x hj => ?_⟩, fun i d z h6 h7 => h5 (i + 1) d z (by simpa using h6) (by simpa using h7)⟩, u, fun j x hj => ?_, h5 0 c u rfl rfl⟩
    · have := hc (6 + j) x (by rw [List.getElem?_append_right (by show 6 ≤ 6 + j; omega)]; show (flatC r vs)[6 + j - 6]? = _; rw [show 6 + j - 6 = j by omega]; exact hj)
      rw [Nat.add_assoc]; exact this
    · exact hc j x (by rw [List.getElem?_append_left (List.getElem?_eq_some_iff.1 hj).1]; exact hj)
theorem InU.grown {B U : Nat} {W W' : World} {u : Value} {l : List Int} {row : Option Nat} (h : InU B U W u l) (hg : W.grownBy W' row) (hrow : ∀ b, row = some b → U ≤ b ∨ b < B) : InU B U W' u l :=
  ⟨h.1.kept hg (by
    cases e : u.ownBlock with
    | none => exact .inl rfl
    | some b => exact .inr (fun e2 => by have h1 := h.2 b e; have h2 := (h.1.lt b e).1; have := hrow b e2.symm; omega)), h.2⟩
theorem SufC.grown {B U : Nat} {W W' : World} {v : Value} {l : List Cl} {row : Option Nat} (h : SufC B U W v l) (hg : W.grownBy W' row) (hU : U ≤ W.heap.size) (hrow : ∀ b, row = some b → U ≤ b ∨ b < B) : SufC B U W' v l := by
  obtain ⟨vs, A, cap, h1, h2, h3, h4, h5⟩ := h
  refine ⟨vs, A, cap, h1, h2, h3, fun e => ?_, fun i c u p q => (h5 i c u p q).grown hg hrow⟩
  obtain ⟨g, off, ha, hB, hg2, hc⟩ := h4 e
  refine ⟨g, off, ha, hB, hg2, fun j y hj => ?_⟩
  exact (World.cell?_of_block (a := ⟨g, off + j, none⟩) (hg.block g (by omega) (fun e2 => by have := hrow g e2.symm; omega))).trans (hc j y hj)
/-- A row of calls that can be read. -/
def RdC (W : World) (v : Value) (l : List Cl) : Prop := ∃ vs : List Value, vs.length = l.length ∧ Rd W 6 v l.length (flatC l vs) ∧ ∀ (i : Nat) (c : Cl) (u : Value), l[i]? = some c → vs[i]? = some u → Rd W 1 u c.inner.length (c.inner.map (Value.int .i64))
theorem perT_get (evs : List Ev) {t : Nat} (h : t < 8) : (perT evs).getD t [] = (callsF (t : Int) (ofI evs (t : Int) evs.length)).1 := by
  unfold perT
  rw [List.getD_eq_getElem?_getD, List.getElem?_map, List.getElem?_range h]; rfl
theorem flatC_le {n : Nat} : ∀ ls : List (List Cl), (∀ l ∈ ls, l.length ≤ n) → ls.flatten.length ≤ ls.length * n
  | [], _ => Nat.zero_le _
  | a :: ls, h => by
    have h1 := h a (List.mem_cons_self ..)
    have h2 := flatC_le ls (fun l hl => h l (List.mem_cons_of_mem _ hl))
    rw [List.flatten_cons, List.length_append, List.length_cons, Nat.succ_mul]
    omega
theorem perT_len (evs : List Ev) : (perT evs).flatten.length ≤ 8 * evs.length := by
  refine flatC_le (perT evs) (fun l hl => ?_)
  unfold perT at hl
  obtain ⟨t, _, rfl⟩ := List.mem_map.1 hl
  exact Nat.le_trans (callsF_len _ _) (ofI_len _ _ _)
def bestV (ls : List (List Cl)) (t : Nat) : Int := match bestP ls t with
  | none => -1
  | some j => (j : Int)
theorem bestV_succ (ls : List (List Cl)) (t : Nat) : bestV ls (t + 1) = match ls.getD t [] with
    | [] => bestV ls t
    | c :: _ => if bestV ls t < 0 then (t : Int) else if c.began < headB (ls.getD (bestV ls t).toNat []) then (t : Int) else bestV ls t := by
  unfold bestV
  rw [bestP_succ]
  unfold bestS
  cases ls.getD t [] with
  | nil => rfl
  | cons c r =>
    cases bestP ls t with
    | none => rfl
    | some j =>
      dsimp only
      have hj : ¬ ((j : Int) < 0) := by omega
      have hn : ((j : Nat) : Int).toNat = j := rfl
      by_cases h : c.began < headB (ls.getD j [])
      · simp only [h, hj, hn, if_true, if_false]
      · simp only [h, hj, hn, if_true, if_false]
theorem bestV_spec (ls : List (List Cl)) (t : Nat) : -1 ≤ bestV ls t ∧ bestV ls t < t ∧ (0 ≤ bestV ls t → ls.getD (bestV ls t).toNat [] ≠ []) := by
  have h := bestP_spec ls t
  unfold bestV
  cases hb : bestP ls t with
  | none => exact ⟨by decide, (by show (-1 : Int) < t; omega), fun e => absurd e (by decide)⟩
  | some j =>
    have := h.1 j hb
    exact ⟨(by show (-1 : Int) ≤ (j : Int); omega), by simpa using this.1, fun _ => by simpa using this.2⟩
/-- What the merging loop holds. -/
def MgC (w : World) (U : Nat) (evs : List Ev) (ls : List (List Cl)) (o : List Cl) (ar : Array Value) (ov : Value) (W : World) : Prop :=
  ls.length = 8 ∧ ar.size = 8 ∧ W.heap[w.heap.size]? = some (.cells ar 58 (0, 0)) ∧ (∀ t, t < 8 → ∃ u, ar[t]? = some u ∧ SufC (w.heap.size + 1) U W u (ls.getD t [])) ∧ Below w.heap.size w W ∧ mergeP ls.flatten.length ls o = callsAll evs ∧
  (∃ vso : List Value, vso.length = o.length ∧ W.ownsRow U 63 6 ov o.length (flatC o vso) ∧ ∀ (i : Nat) (c : Cl) (u : Value), o[i]? = some c → vso[i]? = some u → InU (w.heap.size + 1) U W u c.inner) ∧ o.length + ls.flatten.length ≤ 8000000 ∧ w.heap.size + 1 ≤ U ∧ U ≤ W.heap.size
theorem MgC.drewN {w W : World} {U : Nat} {evs : List Ev} {ls : List (List Cl)} {o : List Cl} {ar : Array Value} {ov : Value} (h : MgC w U evs ls o ar ov W) (n : Nat) : MgC w U evs ls o ar ov (W.drewN n) := by
  obtain ⟨h1, h2, h3, h4, h5, h6, h7, h8⟩ := h
  exact ⟨h1, h2, h3, h4, ⟨h5.os, h5.tape, h5.output, h5.size, h5.block⟩, h6, h7, h8⟩
theorem MgC.step {w W w1 : World} {U j : Nat} {evs : List Ev} {ls : List (List Cl)} {o : List Cl} {ar : Array Value} {ov nv v' uu : Value} {c : Cl} {r : List Cl} {tmp : Obj}
    (h : MgC w U evs ls o ar ov W) (hb : bestP ls 8 = some j) (hlj : ls.getD j [] = c :: r) (hnv : SufC (w.heap.size + 1) U W nv r) (hin : InU (w.heap.size + 1) U W uu c.inner)
    (hgrow : (W.alloc tmp).grownBy w1 ov.ownBlock) (hov : ∀ b, ov.ownBlock = some b → U ≤ b) (vso : List Value) (hvl : vso.length = o.length) (hvi : ∀ (i : Nat) (c : Cl) (u : Value), o[i]? = some c → vso[i]? = some u → InU (w.heap.size + 1) U W u c.inner)
    (hown : w1.ownsRow U 63 6 v' (o.length + 1) (flatC o vso ++ c.cells uu)) :
    MgC w U evs (ls.set j r) (o ++ [c]) (ar.setIfInBounds j nv) v' (w1.setCell ⟨w.heap.size, j, none⟩ nv) ∧ (ls.set j r).flatten.length + 1 = ls.flatten.length := by
  obtain ⟨h1, h2, h3, h4, h5, h6, _, h8, h9, h10⟩ := h
  obtain ⟨f1, f2⟩ := flat_set ls j c r hlj
  have hj8 := ((bestP_spec ls 8).1 j hb).1
  have hgl : w.heap.size < W.heap.size := (Array.getElem?_eq_some_iff.1 h3).1
  have hbx : W.grownBy (W.alloc tmp) none := ⟨rfl, rfl, rfl, by simp, fun k hk _ => heap_alloc_old W tmp k hk⟩
  have hst := grown_set w1 ⟨w.heap.size, j, none⟩ nv
  have hsz : W.heap.size ≤ w1.heap.size := by have := hgrow.size; simp at this; omega
  have hsz2 : (w1.setCell ⟨w.heap.size, j, none⟩ nv).heap.size = w1.heap.size := by simp
  have hr1 : w1.heap[w.heap.size]? = some (.cells ar 58 (0, 0)) := (hgrow.block w.heap.size (by simp; omega) (fun e => by have := hov _ e.symm; omega)).trans ((Below.heap_alloc _ _ _ hgl).trans h3)
  have hS : ∀ {v : Value} {l : List Cl}, SufC (w.heap.size + 1) U W v l → SufC (w.heap.size + 1) U (w1.setCell ⟨w.heap.size, j, none⟩ nv) v l := fun hs =>
    ((hs.grown hbx h10 (fun b e => by cases e)).grown hgrow (by simp; omega) (fun b e => .inl (hov b e))).grown hst (by omega) (fun b e => .inr (by cases e; exact Nat.lt_succ_self _))
  have hI : ∀ {u : Value} {l : List Int}, InU (w.heap.size + 1) U W u l → InU (w.heap.size + 1) U (w1.setCell ⟨w.heap.size, j, none⟩ nv) u l := fun hs =>
    ((hs.grown hbx (fun b e => by cases e)).grown hgrow (fun b e => .inl (hov b e))).grown hst (fun b e => .inr (by cases e; exact Nat.lt_succ_self _))
  refine ⟨⟨by simp [h1], by simp [h2], heap_setCell_same _ _ _ _ _ _ hr1, fun t ht => ?_, ?_, ?_, ⟨vso ++ [uu], by simp [hvl], ?_, ?_⟩, (by rw [List.length_append]; show o.length + 1 + _ ≤ _; omega), h9, by omega⟩, f2⟩
  · by_cases e : t = j
    · subst e
      exact ⟨nv, by rw [Array.getElem?_setIfInBounds_self_of_lt (by omega)], by rw [List.getD_eq_getElem?_getD, List.getElem?_set_self (by omega)]; exact hS hnv⟩
    · obtain ⟨u, p, q⟩ := h4 t ht
      exact ⟨u, by rw [Array.getElem?_setIfInBounds_ne (fun e2 => e e2.symm)]; exact p, by rw [List.getD_eq_getElem?_getD, List.getElem?_set_ne (fun e2 => e e2.symm), ← List.getD_eq_getElem?_getD]; exact hS q⟩
  · exact ⟨hgrow.os.trans h5.os, hgrow.tape.trans h5.tape, hgrow.output.trans h5.output, by have := h5.size; omega, fun k hk => ((hst.block k (by omega) (by intro e; simp at e; omega)).trans (hgrow.block k (by simp; omega) (fun e => by have := hov _ e.symm; omega))).trans ((Below.heap_alloc _ _ _ (by omega)).trans (h5.block k hk))⟩
  · have e : mergeP ((ls.set j r).flatten.length + 1) ls o = mergeP (ls.set j r).flatten.length (ls.set j r) (o ++ [c]) := by
      rw [mergeP, h1, hb]; dsimp only; rw [hlj]
    rw [← h6, ← f2, e]
  · rw [flatC_snoc c uu o vso hvl, List.length_append]
    exact hown.kept hst (by
      cases e : v'.ownBlock with
      | none => exact .inl rfl
      | some b => exact .inr (fun e2 => by have := (hown.lt b e).1; simp at e2; omega))
  · intro i c' u p q
    by_cases hi : i < o.length
    · rw [List.getElem?_append_left hi] at p
      rw [List.getElem?_append_left (by omega)] at q
      exact hI (hvi i c' u p q)
    · have hi2 : i = o.length := by
        have := (List.getElem?_eq_some_iff.1 p).1
        simp at this; omega
      subst hi2
      have p' : c = c' := by simpa using p
      have q' : uu = u := by rw [← hvl] at q; simpa using q
      subst p' q'
      exact hI hin
end Go.Proofs.YtckmkaeopnnbbaaGreatDoor.As
