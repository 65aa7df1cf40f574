/- slices.Clone of words and of events; what a machine sc tells of itself. -/
import Derived.Test.YtackbadmcgjncaaGreatDoorAlP
set_option linter.unusedVariables false
set_option linter.unusedSimpArgs false
set_option maxRecDepth 20000
namespace Go.Proofs.YtackbadmcgjncaaGreatDoor.As
open Go.RowKit

theorem infoW : (Tryz.prog.info? 41).map (fun i => (i.zero, i.size, i.bytes)) = some (some (.int .u32 0), 1, 4) := by kernel_rfl
set_option maxRecDepth 100000 in
set_option maxHeartbeats 400000 in
/-- slices.Clone of cloneW_any. -/
theorem cloneW_any (w : World) (v : Value) (n : Nat) (xs : List Value) (h : Rd w 1 v n xs) (hn : n < 2000000) (h1 : ∀ u ∈ xs, u.oneCell' = true) :
    Calls Tryz.prog 35 #[v] w fun e w' => ∃ v', e = .returned v' ∧ w'.ownsRow w.heap.size 41 1 v' n xs ∧ Below w.heap.size w w' := by
  obtain ⟨A, cap, rfl, hc, hl, h⟩ := h
  obtain ⟨i0, hi, hz0, hz1, hz2⟩ := info_parts infoW
  rcases h with ⟨rfl, rfl⟩ | ⟨b, off, rfl, hb, hcell⟩
  · have hx : xs = [] := List.eq_nil_of_length_eq_zero (by simpa using hl)
    subst hx
    have hnil : ∀ W, (binOp .eql 44 (.slice none 0 cap) (.slice none 0 0)).run Tryz.prog W = .ok (.bool true) W := fun W => Lib.run_eql_slice_nil W _ _ _ _ _ _ _ Tryz.underlying44
    go_enter Tryz.func35, Tryz.ntmps35
    go_wp2_with fail
    go_ret
    exact ⟨_, rfl, World.ownsRow_nil _ _ _ _, Below.refl _ _⟩
  · have hnil : ∀ W, (binOp .eql 44 (.slice (some ⟨b, off, none⟩) n cap) (.slice none 0 0)).run Tryz.prog W = .ok (.bool false) W := fun W => Lib.run_eql_slice_nil W _ _ _ _ _ _ _ Tryz.underlying44
    have hne : (World.ownsRow (w.alloc (.cells #[] 41)) w.heap.size 41 1 (.slice (some ⟨w.heap.size, 0, none⟩) 0 0) 0 []) := ⟨rfl, .inr ⟨w.heap.size, 0, #[], rfl, Nat.le_refl _, heap_alloc_new _ _, Nat.le_refl _, Nat.zero_le _, rfl, rfl⟩⟩
    go_enter Tryz.func35, Tryz.ntmps35
    go_wp2_with (at_builtin; refine wpList_append_own _ rfl (.tmp 5) (.tmp 6) 44 rfl w.heap.size 41 i0 _ 1 4 Tryz.underlying44 hi hz0 hz1 hz2 rfl (by decide) _ 0 [] rfl hne ⟨b, off, none⟩ n cap xs rfl hl (fun j u hu => by rw [add_at]; exact (Below.cell ((Below.refl w.heap.size w).alloc (Nat.le_refl _) _) (p := ⟨b, off + j, none⟩) hb).trans (hcell j u hu)) h1 (by unfold maxLen; omega) (by omega) (by simp) ?_; intro v' w1 ho hgr hat)
    go_wp2_with fail
    go_ret
    have hgr2 : (w.alloc (.cells #[] 41)).grownBy w1 (some w.heap.size) := hgr
    exact ⟨_, rfl, by simpa using ho, ((Below.refl w.heap.size w).alloc (Nat.le_refl _) _).grown hgr2 (by simp) (fun k hk => by injection hk with hk; omega)⟩
set_option maxRecDepth 100000 in
set_option maxHeartbeats 400000 in
/-- slices.Clone of cloneE_any. -/
theorem cloneE_any (w : World) (v : Value) (n : Nat) (xs : List Value) (h : Rd w 8 v n xs) (hn : n < 2000000) (h1 : ∀ u ∈ xs, u.oneCell' = true) :
    Calls Tryz.prog 42 #[v] w fun e w' => ∃ v', e = .returned v' ∧ w'.ownsRow w.heap.size 59 8 v' n xs ∧ Below w.heap.size w w' := by
  obtain ⟨A, cap, rfl, hc, hl, h⟩ := h
  obtain ⟨i0, hi, hz0, hz1, hz2⟩ := info_parts infoEv
  rcases h with ⟨rfl, rfl⟩ | ⟨b, off, rfl, hb, hcell⟩
  · have hx : xs = [] := List.eq_nil_of_length_eq_zero (by simpa using hl)
    subst hx
    have hnil : ∀ W, (binOp .eql 56 (.slice none 0 cap) (.slice none 0 0)).run Tryz.prog W = .ok (.bool true) W := fun W => Lib.run_eql_slice_nil W _ _ _ _ _ _ _ Tryz.underlying56
    go_enter Tryz.func42, Tryz.ntmps42
    go_wp2_with fail
    go_ret
    exact ⟨_, rfl, World.ownsRow_nil _ _ _ _, Below.refl _ _⟩
  · have hnil : ∀ W, (binOp .eql 56 (.slice (some ⟨b, off, none⟩) n cap) (.slice none 0 0)).run Tryz.prog W = .ok (.bool false) W := fun W => Lib.run_eql_slice_nil W _ _ _ _ _ _ _ Tryz.underlying56
    have hne : (World.ownsRow (w.alloc (.cells #[] 59)) w.heap.size 59 8 (.slice (some ⟨w.heap.size, 0, none⟩) 0 0) 0 []) := ⟨rfl, .inr ⟨w.heap.size, 0, #[], rfl, Nat.le_refl _, heap_alloc_new _ _, Nat.le_refl _, Nat.zero_le _, rfl, rfl⟩⟩
    go_enter Tryz.func42, Tryz.ntmps42
    go_wp2_with (at_builtin; refine wpList_append_own _ rfl (.tmp 5) (.tmp 6) 56 rfl w.heap.size 59 i0 _ 8 48 Tryz.underlying56 hi hz0 hz1 hz2 rfl (by decide) _ 0 [] rfl hne ⟨b, off, none⟩ n cap xs rfl hl (fun j u hu => by rw [add_at]; exact (Below.cell ((Below.refl w.heap.size w).alloc (Nat.le_refl _) _) (p := ⟨b, off + j, none⟩) hb).trans (hcell j u hu)) h1 (by unfold maxLen; omega) (by omega) (by simp) ?_; intro v' w1 ho hgr hat)
    go_wp2_with fail
    go_ret
    have hgr2 : (w.alloc (.cells #[] 59)).grownBy w1 (some w.heap.size) := hgr
    exact ⟨_, rfl, by simpa using ho, ((Below.refl w.heap.size w).alloc (Nat.le_refl _) _).grown hgr2 (by simp) (fun k hk => by injection hk with hk; omega)⟩
end Go.Proofs.YtackbadmcgjncaaGreatDoor.As
