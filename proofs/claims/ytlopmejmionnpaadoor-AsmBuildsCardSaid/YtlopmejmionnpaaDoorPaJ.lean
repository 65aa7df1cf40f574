/- The walks of the package isa: an instruction of a name. -/
import Derived.Test.YtlopmejmionnpaaDoorPaI
import Derived.Laws.Rows
set_option linter.unusedVariables false
namespace Go.Proofs.YtlopmejmionnpaaDoor.As
open Go.RowKit

theorem names_named : Tryd.prog.globalNamed "deadlatch/isa.names" = some 1 := by kernel_rfl
/-- The names' array, as it is loaded whole. -/
def NamesA (w : World) : Prop := w.var? Tryd.prog "deadlatch/isa.names" = some (opNames.map str).toArray
theorem NamesA.blk {w : World} (h : NamesA w) : ∃ t fr, w.heap[1]? = some (.cells (opNames.map str).toArray t fr) := by
  unfold NamesA World.var? at h
  rw [names_named] at h
  simp only [Option.bind_some] at h
  split at h
  · rename_i cs t fr hq
    injection h with h
    exact ⟨t, fr, by rw [hq, h]⟩
  · cases h
theorem NamesA.lt {w : World} (h : NamesA w) : 1 < w.heap.size := by
  obtain ⟨t, fr, h⟩ := h.blk
  exact (Array.getElem?_eq_some_iff.1 h).1
theorem NamesA.of_blk {w w' : World} (h : NamesA w) (e : w'.heap[1]? = w.heap[1]?) : NamesA w' := by
  unfold NamesA World.var? at *
  rw [names_named] at h ⊢
  simp only [Option.bind_some] at h ⊢
  rw [e]; exact h
theorem idx_at8 (l : List B8) (b : B8) (i : Nat) (h : l[i]? = some b) (hn : ∀ j, j < i → l[j]? ≠ some b) : l.contains b = true ∧ l.idxOf b = i := by
  refine ⟨List.contains_iff_mem.2 (List.mem_of_getElem? h), ?_⟩
  induction l generalizing i with
  | nil => simp at h
  | cons y l ih =>
    cases i with
    | zero =>
      have : y = b := by simpa using h
      rw [this]; simp
    | succ i =>
      have h0 : y ≠ b := fun e => hn 0 (by omega) (by rw [e]; rfl)
      have := ih i (by simpa using h) (fun j hj => hn (j + 1) (by omega))
      have hb : (y == b) = false := beq_eq_false_iff_ne.2 h0
      simp [List.idxOf_cons, hb, this]
def opV (l : B8) : Int := if 0 ≤ opB l then opB l else 0
def NumOpP (l : B8) (w : World) (e : Ending) (w' : World) : Prop := e = .returned (.tuple #[.int .i64 (opV l), .bool (decide (0 ≤ opB l))]) ∧ w = w'
set_option maxRecDepth 100000 in
set_option maxHeartbeats 1000000 in
theorem opn_any (w : World) (s : ByteArray) (h : NamesA w) :
    Calls Tryd.prog 46 #[.string s] w (NumOpP s.data.toList w) := by
  obtain ⟨t, fr, hblk⟩ := h.blk
  clear h
  obtain ⟨NM, hNM⟩ : ∃ NM, (opNames.map str).toArray = NM := ⟨_, rfl⟩
  rw [hNM] at hblk
  have hsz : (Tryd.prog.info? 109).map (·.size) = some NM.size := by rw [← hNM]; kernel_rfl
  have hidx : ∀ (i : Nat), i < 28 → ∀ W, (Instr.index 109 (.agg NM) (.int .i64 i)).run Tryd.prog W = .ok (str (opNames.getD i [])) W := by
    intro i hi W
    have e : NM[i]? = some (str (opNames.getD i [])) := by
      rw [← hNM]
      have hl : i < opNames.length := hi
      simp [hl]
    have h2 : 0 ≤ (i : Int) ∧ (i : Int) < ((28 : Nat) : Int) := by omega
    simp [Instr.index, run_underlying Tryd.underlying109, asIntOf, go_sem, e, hi]
  have HIDX := Lib.hid hidx
  have HB := Lib.hid hblk
  clear hNM hidx hblk
  obtain ⟨l, hl⟩ : ∃ l, s.data.toList = l := ⟨_, rfl⟩
  rw [hl]
  have hst : s.toList = l := by rw [Lib.toList_data, hl]
  have HST := Lib.hid hst
  clear hl hst
  go_enter Tryd.func46, Tryd.ntmps46
  go_wp2_with (refine wpList_load_row rfl 109 _ rfl 1 rfl t NM fr _ HB.out Tryd.underlying109 rfl hsz ?_)
  go_loop [7] (fun iv => ∃ i : Nat, i ≤ 28 ∧ iv = .int .i64 i ∧ Hid (∀ j, j < i → opNames[j]? ≠ some l)) (fun iv => 28 - (intOf iv).toNat)
  case atStart => exact ⟨0, by omega, rfl, Lib.hid (fun j hj => by omega)⟩
  case round =>
    obtain ⟨i, hi, rfl, HD⟩ := hrel
    by_cases hlt : i < 28
    · have hd := HIDX.out i hlt
      obtain ⟨nm, hnm⟩ : ∃ nm, opNames.getD i [] = nm := ⟨_, rfl⟩
      have hnm' : opNames[i]? = some nm := by
        have hl : i < opNames.length := hlt
        rw [← hnm]; simp [hl]
      rw [hnm] at hd
      have HNM := Lib.hid hnm'
      clear hnm hnm'
      unfold str at hd
      by_cases he : nm = l
      · have d0 : (nm == s.toList) = true := by rw [HST.out, he]; simp
        have HE := Lib.hid he
        clear he
        go_wp2
        go_ret2
        have hx := idx_at8 opNames l i (by rw [HNM.out, HE.out]) HD.out
        have ho : opB l = i := by unfold opB; rw [if_pos hx.1, hx.2]
        refine ⟨?_, rfl⟩
        unfold opV
        rw [ho, if_pos (by omega), show decide (0 ≤ (i : Int)) = true from decide_eq_true (by omega)]; rfl
      · have d0 : (nm == s.toList) = false := by rw [HST.out]; simpa using he
        have HE := Lib.hid he
        clear he
        go_wp2
        go_round
        case rel => exact ⟨i + 1, by omega, by go_num, Lib.hid (fun j hj => by
          by_cases e : j = i
          · rw [e, HNM.out]; intro e2; injection e2 with e2; exact HE.out e2
          · exact HD.out j (by omega))⟩
        case measure => simp [intOf]; omega
    · obtain rfl : i = 28 := by omega
      go_wp2
      go_ret2
      have hno : opB l = -1 := by
        unfold opB
        rw [if_neg]
        intro hc
        obtain ⟨j, hj, e⟩ := List.getElem_of_mem (List.contains_iff_mem.1 hc)
        exact HD.out j hj (by rw [List.getElem?_eq_getElem hj, e])
      refine ⟨?_, rfl⟩
      unfold opV
      rw [hno]; rfl
end Go.Proofs.YtlopmejmionnpaaDoor.As
