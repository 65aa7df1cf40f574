/- The walks of the package deadlatchref25: what is read of a sequence lock. -/
import Derived.Test.YtfemeiopfpblaaaDoorHjR1
set_option linter.unusedVariables false
set_option linter.unusedSimpArgs false
set_option maxRecDepth 20000
namespace Go.Proofs.YtfemeiopfpblaaaDoor.As
open Go.RowKit

theorem infoU : (Tryd.prog.info? 30).map (fun i => (i.zero, i.size, i.bytes)) = some (some (.int .u32 0), 1, 4) := by kernel_rfl
def ints32 (d : List Int) : List Value := d.map (.int .u32)
theorem take_one {α : Type} (l : List α) (L i : Nat) (x : α) (h : l[i]? = some x) (hi : i < L) : (l.take L).drop i = x :: (l.take L).drop (i + 1) :=
  drop_one _ _ _ (by rw [List.getElem?_take, if_pos hi]; exact h)
set_option maxHeartbeats 8000000 in
theorem data25_any (w : World) (v : Value) (n : Nat) (H : List Stp) (hl : H.length = n) (h : Rd w 7 v n (flatS H)) (hn : n ≤ 1000000) (j : Int) (k : Nat) (hk : k ≤ 3) (hput : ∀ s ∈ H, s.x.obj = j → s.x.call = 4 → 0 ≤ s.x.arg ∧ s.x.arg < k) :
    Calls Tryd.prog 30 #[v, .int .i64 j, .int .i64 k] w fun e w' => ∃ u, e = .returned u ∧ (dataH H j k).length = k ∧ w'.ownsRow w.heap.size 30 1 u k (ints32 (dataH H j k)) ∧ Below w.heap.size w w' := by
  obtain ⟨A, cap, rfl⟩ := h.form
  have HV := Lib.hid h
  obtain ⟨L, hL⟩ : ∃ L, L = lastH H j := ⟨_, rfl⟩
  have hLn : L.toNat ≤ n := by rw [hL, ← hl]; exact lastH_le H j
  obtain ⟨r, hr⟩ : ∃ r, r = dataH H j k := ⟨_, rfl⟩
  have HD : Hid (r = ((H.take L.toNat).drop 0).foldl (putStep j) (List.replicate k 0)) := by
    show r = _
    rw [hr, hL]; rfl
  have HR : Hid (L = lastN j (H.drop 0) 0 (-1)) := hL
  have HP := Lib.hid hput
  rw [← hr]
  obtain ⟨i0, hi, hz0, hz1, hz2⟩ := info_parts infoU
  clear hL h hr hput
  go_enter Tryd.func30, Tryd.ntmps30
  go_wp2_with fail
  go_loopw [7, 8] (fun ov iv wr => ∃ (i : Nat) (m : Int), i ≤ n ∧ ov = .int .i64 m ∧ iv = .int .i64 i ∧ w = wr ∧ Hid (L = lastN j (H.drop i) i m)) (fun _ i _ => n - (intOf i).toNat)
  case atStart => exact ⟨0, -1, by omega, rfl, rfl, rfl, HR⟩
  case round =>
    clear HR
    obtain ⟨i, m, hin, rfl, rfl, rfl, HE⟩ := hrel
    by_cases hlt : i < n
    · obtain ⟨x, hx⟩ : ∃ x, H[i]? = some x := ⟨_, List.getElem?_eq_getElem (by omega)⟩
      obtain ⟨b1, o1, rfl, hb1, c0, c1, c2, c3, c4, c5, c6⟩ := stp_cells HV.out hx (by omega)
      have hE := HE.out
      rw [drop_one _ _ _ hx, lastN] at hE
      have HE1 := Lib.hid hE
      clear hE HE hx
      go_wp2_with fail
      all_goals refine ⟨⟨i + 1, _, by omega, rfl, by simp, (by first | rfl | trivial), ?_⟩, by simp [intOf]; omega⟩
      all_goals have hE := HE1.out
      all_goals clear HE1 HV HD HP c0 c1 c2 c3 c4 c5 c6
      all_goals show L = _
      all_goals rw [hE]
      all_goals congr 1
      all_goals clear hE
      all_goals (try simp only [beq_iff_eq, beq_eq_false_iff_ne, bne_iff_ne, bne_eq_false_iff_eq, ne_eq, decide_eq_true_eq, decide_eq_false_iff_not, isRel] at *)
      all_goals (repeat' split)
      all_goals first | omega | rfl | (exfalso; omega)
    · have hie : i = n := by omega
      have hE := HE.out
      rw [List.drop_eq_nil_of_le (by omega), lastN] at hE
      subst hE
      clear HE
      go_wp2_with (at_make; refine wpList_make_full w rfl (.tmp 43) (.tmp 43) 33 rfl w.heap.size 30 i0 _ 1 Tryd.underlying33 hi hz0 hz1 .i64 .i64 k k k rfl rfl rfl rfl (by rw [hz2]; omega) (by unfold maxLen; omega) (Nat.le_refl _) ?_; intro w1 ho hgr)
      have hb1 : Below w.heap.size w w1 := (Below.refl w.heap.size w).grown hgr (Nat.le_refl _) (fun k hk => by cases hk)
      rw [Nat.mul_one, show (Value.int IntKind.u32 0).cells = #[.int .u32 0] from rfl, toList_madeCells_one] at ho
      have HO := Lib.hid ho
      have HB := Lib.hid hb1
      clear ho hgr hb1
      go_wp2_with fail
      go_loopw [10] (fun iv wr => ∃ (i : Nat) (d : List Int), (i : Int) ≤ max L 0 ∧ iv = .int .i64 i ∧ d.length = k ∧ Hid (r = ((H.take L.toNat).drop i).foldl (putStep j) d) ∧ Hid (wr.ownsRow w.heap.size 30 1 (.slice (some ⟨w.heap.size, 0, none⟩) k k) k (ints32 d)) ∧ Hid (Below w.heap.size w wr)) (fun i _ => L.toNat - (intOf i).toNat)
      case atStart => exact ⟨0, List.replicate k 0, by omega, rfl, by simp, HD, by (show World.ownsRow _ _ _ _ _ _ _); simpa [ints32] using HO.out, HB⟩
      case round =>
        clear HD HO HB
        obtain ⟨i, d, hiL, rfl, hdl, HE, HO, HB⟩ := hrel
        by_cases hlt2 : (i : Int) < L
        · obtain ⟨x, hx⟩ : ∃ x, H[i]? = some x := ⟨_, List.getElem?_eq_getElem (by omega)⟩
          obtain ⟨b1, o1, rfl, hb1, c0, c1, c2, c3, c4, c5, c6⟩ := stp_cells (HV.out.below HB.out (Nat.le_refl _)) hx (by omega)
          have hE := HE.out
          rw [take_one _ _ _ _ hx (by omega), List.foldl_cons] at hE
          have HE1 := Lib.hid hE
          have dlt : decide ((i : Int) < L) = true := decide_eq_true hlt2
          have hxm : x ∈ H := List.mem_of_getElem? hx
          clear hE HE hx
          by_cases hq : x.x.obj = j ∧ x.x.call = 4 ∧ x.r = 0
          · obtain ⟨q1, q2, q3⟩ := hq
            have g1 : (x.x.obj == j) = true := by simp [q1]
            have g2 : (x.x.call == 4) = true := by simp [q2]
            have g3 : (x.r == 0) = true := by simp [q3]
            have hp := HP.out x hxm q1 q2
            obtain ⟨a, ha⟩ : ∃ a : Nat, x.x.arg = a := ⟨x.x.arg.toNat, by omega⟩
            have hak : a < k := by omega
            rw [ha] at c4
            obtain ⟨u0, o0⟩ : ∃ u, wr.cell? ⟨w.heap.size, a, none⟩ = some u := by
              rw [HO.out.cellAt a (by omega)]
              exact ⟨_, List.getElem?_eq_getElem (by simp [ints32, hdl]; exact hak)⟩
            have z0 : wr.frozen? ⟨w.heap.size, a, none⟩ = false := HO.out.frozenAt a
            have e1 : (0 : Int) ≤ (a : Int) := by omega
            have e2 : (a : Int) < (k : Int) := by omega
            go_wp2_with fail
            go_region_with (fail)
            all_goals go_wp2_with fail
            all_goals refine ⟨⟨i + 1, d.set a x.x.val, by omega, by simp, by simpa using hdl, ?_, ?_, ?_⟩, by simp [intOf]; omega⟩
            all_goals first
              | (show r = _; rw [HE1.out, putStep, if_pos ⟨q1, q2, q3⟩, ha]; rfl)
              | (show World.ownsRow _ _ _ _ _ _ _; have hst := (HO.out.stored a (.int .u32 x.x.val)).1; rw [show (ints32 d).set a (.int .u32 x.x.val) = ints32 (d.set a x.x.val) from (List.map_set).symm] at hst; exact hst)
              | exact (bl_drew HB.out).setCell (p := ⟨w.heap.size, a, none⟩) (Nat.le_refl _) _
              | exact HB.out.setCell (p := ⟨w.heap.size, a, none⟩) (Nat.le_refl _) _
          · have HE2 : Hid (r = ((H.take L.toNat).drop (i + 1)).foldl (putStep j) d) := by
              show r = _
              rw [HE1.out, putStep, if_neg hq]
            clear HE1
            go_wp2_with fail
            all_goals first
              | exact ⟨⟨i + 1, d, by omega, by simp, hdl, HE2, HO, HB⟩, by simp [intOf]; omega⟩
              | (exfalso; simp only [beq_iff_eq, beq_eq_false_iff_ne, ne_eq] at *; omega)
        · have dlt : decide ((i : Int) < L) = false := decide_eq_false hlt2
          have hE := HE.out
          rw [List.drop_eq_nil_of_le (by rw [List.length_take]; omega), List.foldl_nil] at hE
          subst hE
          clear HE
          go_wp2_with fail
          go_ret
          first | exact ⟨_, rfl, hdl, HO.out, HB.out⟩ | exact ⟨_, rfl, HO.out, HB.out⟩
end Go.Proofs.YtfemeiopfpblaaaDoor.As
