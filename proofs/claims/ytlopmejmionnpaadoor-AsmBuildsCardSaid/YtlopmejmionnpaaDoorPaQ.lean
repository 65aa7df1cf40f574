/- The walks of the package deadlatchlaw04: are two codes the same? -/
import Derived.Test.YtlopmejmionnpaaDoorPaO
import Derived.Deep.RegionWith
set_option linter.unusedVariables false
namespace Go.Proofs.YtlopmejmionnpaaDoor.As
open Go.RowKit

theorem ins_cells {w : World} {A : Option Addr} {n cap i : Nat} {l : List Ins} {x : Ins} (h : Rd w 5 (.slice A n cap) n (flat l)) (hx : l[i]? = some x) (hn : 0 < n) :
    ∃ b off, A = some ⟨b, off, none⟩ ∧ b < w.heap.size ∧ w.cell? ⟨b, off + i * 5, none⟩ = some (.int .i64 x.op) ∧ w.cell? ⟨b, off + i * 5 + 1, none⟩ = some (.int .i64 x.a) ∧ w.cell? ⟨b, off + i * 5 + 2, none⟩ = some (.int .i64 x.b) ∧ w.cell? ⟨b, off + i * 5 + 3, none⟩ = some (.int .i64 x.c) ∧ w.cell? ⟨b, off + i * 5 + 4, none⟩ = some (.int .u32 x.k) := by
  obtain ⟨b, off, e, hb, hc⟩ := h.cells hn
  have g := fun j hj => flat_get l i x hx j hj
  exact ⟨b, off, e, hb, hc _ _ (g 0 (by decide)), hc _ _ (g 1 (by decide)), hc _ _ (g 2 (by decide)), hc _ _ (g 3 (by decide)), hc _ _ (g 4 (by decide))⟩
theorem same04_any (w : World) (v u : Value) (l : List Ins) (n : Nat) (hn : l.length = n) (hv : Rd w 5 v n (flat l)) (hu : Rd w 5 u n (flat l)) (hs : n ≤ 1000000) :
    Calls Tryd.prog 13 #[v, u] w fun e w' => e = .returned (.bool true) ∧ ∃ m, w' = w.drewN m := by
  obtain ⟨A, cap, rfl⟩ := hv.form
  obtain ⟨B, cbp, rfl⟩ := hu.form
  have HV := Lib.hid hv
  have HU := Lib.hid hu
  clear hv hu
  go_enter Tryd.func13, Tryd.ntmps13
  go_wp2_with fail
  go_loopw [5] (fun iv wr => ∃ i : Nat, i ≤ n ∧ iv = .int .i64 i ∧ ∃ m, wr = w.drewN m) (fun i _ => n - (intOf i).toNat)
  case atStart => exact ⟨0, by omega, rfl, 0, rfl⟩
  case round =>
    obtain ⟨i, hin, rfl, m, rfl⟩ := hrel
    by_cases hlt : i < n
    · obtain ⟨x, hx⟩ : ∃ x, l[i]? = some x := ⟨_, List.getElem?_eq_getElem (by omega)⟩
      obtain ⟨b1, o1, rfl, hb1, c0, c1, c2, c3, c4⟩ := ins_cells HV.out hx (by omega)
      obtain ⟨b2, o2, rfl, hb2, d0, d1, d2, d3, d4⟩ := ins_cells HU.out hx (by omega)
      have f1 : (0 : Int) ≤ (i : Int) := by omega
      have f2 : (i : Int) < (n : Int) := by omega
      have cq0 : (w.drewN m).drew.cell? ⟨b1, o1 + i * 5, none⟩ = some (.int .i64 x.op) := c0
      have cp0 : (w.drewN m).cell? ⟨b1, o1 + i * 5, none⟩ = some (.int .i64 x.op) := c0
      have cq1 : (w.drewN m).drew.cell? ⟨b1, o1 + i * 5 + 1, none⟩ = some (.int .i64 x.a) := c1
      have cp1 : (w.drewN m).cell? ⟨b1, o1 + i * 5 + 1, none⟩ = some (.int .i64 x.a) := c1
      have cq2 : (w.drewN m).drew.cell? ⟨b1, o1 + i * 5 + 2, none⟩ = some (.int .i64 x.b) := c2
      have cp2 : (w.drewN m).cell? ⟨b1, o1 + i * 5 + 2, none⟩ = some (.int .i64 x.b) := c2
      have cq3 : (w.drewN m).drew.cell? ⟨b1, o1 + i * 5 + 3, none⟩ = some (.int .i64 x.c) := c3
      have cp3 : (w.drewN m).cell? ⟨b1, o1 + i * 5 + 3, none⟩ = some (.int .i64 x.c) := c3
      have cq4 : (w.drewN m).drew.cell? ⟨b1, o1 + i * 5 + 4, none⟩ = some (.int .u32 x.k) := c4
      have cp4 : (w.drewN m).cell? ⟨b1, o1 + i * 5 + 4, none⟩ = some (.int .u32 x.k) := c4
      have dq0 : (w.drewN m).drew.cell? ⟨b2, o2 + i * 5, none⟩ = some (.int .i64 x.op) := d0
      have dp0 : (w.drewN m).cell? ⟨b2, o2 + i * 5, none⟩ = some (.int .i64 x.op) := d0
      have dq1 : (w.drewN m).drew.cell? ⟨b2, o2 + i * 5 + 1, none⟩ = some (.int .i64 x.a) := d1
      have dp1 : (w.drewN m).cell? ⟨b2, o2 + i * 5 + 1, none⟩ = some (.int .i64 x.a) := d1
      have dq2 : (w.drewN m).drew.cell? ⟨b2, o2 + i * 5 + 2, none⟩ = some (.int .i64 x.b) := d2
      have dp2 : (w.drewN m).cell? ⟨b2, o2 + i * 5 + 2, none⟩ = some (.int .i64 x.b) := d2
      have dq3 : (w.drewN m).drew.cell? ⟨b2, o2 + i * 5 + 3, none⟩ = some (.int .i64 x.c) := d3
      have dp3 : (w.drewN m).cell? ⟨b2, o2 + i * 5 + 3, none⟩ = some (.int .i64 x.c) := d3
      have dq4 : (w.drewN m).drew.cell? ⟨b2, o2 + i * 5 + 4, none⟩ = some (.int .u32 x.k) := d4
      have dp4 : (w.drewN m).cell? ⟨b2, o2 + i * 5 + 4, none⟩ = some (.int .u32 x.k) := d4
      go_wp2_with fail
      go_region_with (fail)
      all_goals go_wp2_with fail
      all_goals exact ⟨⟨i + 1, by omega, by simp, m + 1, rfl⟩, by simp [intOf]; omega⟩
    · go_wp2_with fail
      go_ret
      exact ⟨rfl, m, rfl⟩

theorem runJ1_len {ws : List B8} {j : Jmp} {o o' : List Ins} (h : runJ1 ws j o = .ok o') : o'.length = o.length := by
  unfold runJ1 at h
  by_cases h1 : j.to ≠ [] ∧ placeB ws j.to < 0
  · rw [if_pos h1] at h; cases h
  · rw [if_neg h1] at h
    by_cases h2 : j.to = []
    · simp only [if_pos h2] at h
      by_cases h3 : (o.length : Int) < (o.getD j.at_ ⟨0, 0, 0, 0, 0⟩).k
      · rw [if_pos h3] at h; cases h
      · rw [if_neg h3] at h; injection h with h; rw [h]
    · simp only [if_neg h2] at h
      by_cases h3 : (o.length : Int) < ((o.modify j.at_ fun x => { x with k := placeB ws j.to }).getD j.at_ ⟨0, 0, 0, 0, 0⟩).k
      · rw [if_pos h3] at h; cases h
      · rw [if_neg h3] at h; injection h with h; rw [← h, List.length_modify]
theorem runJ_len {ws : List B8} : ∀ {js : List Jmp} {o o' : List Ins}, runJ ws js o = .ok o' → o'.length = o.length
  | [], o, o', h => by injection h with h; rw [h]
  | j :: js, o, o', h => by
    rw [runJ] at h
    cases h1 : runJ1 ws j o with
    | error e => rw [h1] at h; cases h
    | ok o1 =>
      rw [h1] at h
      rw [runJ_len (show runJ ws js o1 = .ok o' from h), runJ1_len h1]
/-- A text's code is not too long. -/
theorem parse_len (s : B8) : (parseB s).1.length ≤ 4000 := by
  unfold parseB
  split
  · simp
  · simp only []
    cases h1 : pass1 (splitB 10 s) (splitB 10 s).length with
    | error e => simp
    | ok o =>
      simp only []
      have hm := pass1_most h1
      rw [pass2_run]
      cases h2 : runJ (splitB 10 s) (jmps (splitB 10 s) (splitB 10 s).length) o with
      | error e => simp [Except.map]
      | ok o' =>
        show o'.length ≤ 4000
        rw [runJ_len h2]; exact hm

/-! ### The document's example -/
def exText : B8 := [115, 112, 105, 110, 58, 10, 108, 111, 97, 100, 32, 114, 52, 32, 91, 50, 48, 93, 10, 115, 111, 109, 101, 32, 114, 52, 32, 64, 115, 112, 105, 110, 10]
theorem ex_parse : parseB exText = ([⟨16, 4, 8, 0, 20⟩, ⟨15, 4, 0, 0, 0⟩], 0, 0) := by kernel_rfl
theorem awake_any (w : World) (T : TabA w) (N : NamesA w) :
    Calls Tryd.prog 10 #[] w fun e w' => e = .returned (.bool true) ∧ Below w.heap.size w w' := by
  have HT := Lib.hid T
  have HN := Lib.hid N
  clear T N
  go_enter Tryd.func10, Tryd.ntmps10
  go_wp2_with fail
  refine (pparse_any _ ⟨exText.toArray⟩ (by decide) HT.out HN.out).mono ?_
  rintro e w1 hp
  rw [show (ByteArray.mk exText.toArray).data.toList = exText from rfl, ex_parse] at hp
  obtain ⟨v, rfl, ho, hb⟩ := hp
  obtain ⟨A, cap, rfl⟩ := (Rd.of_own ho).form
  obtain ⟨b, off, rfl, hlt, c0, c1, c2, c3, c4⟩ := ins_cells (Rd.of_own ho) (i := 0) (x := ⟨16, 4, 8, 0, 20⟩) rfl (by decide)
  obtain ⟨b', off', hA, hlt', d0, d1, d2, d3, d4⟩ := ins_cells (Rd.of_own ho) (i := 1) (x := ⟨15, 4, 0, 0, 0⟩) rfl (by decide)
  injection hA with hA
  injection hA with hA1 hA2
  subst hA1; subst hA2
  have HB := Lib.hid hb
  simp at c0 c1 c2 c3 c4 d0 d1 d2 d3 d4
  clear ho hb
  go_wp2_with fail
  go_ret
  exact ⟨rfl, HB.out⟩
end Go.Proofs.YtlopmejmionnpaaDoor.As
