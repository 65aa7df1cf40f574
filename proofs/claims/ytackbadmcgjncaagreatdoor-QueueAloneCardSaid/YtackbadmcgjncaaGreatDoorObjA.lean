/- The walks of the package obj: which objects there are. -/
import Derived.Test.YtackbadmcgjncaaGreatDoorIsa
import Derived.BigQuiet
import Derived.Deep.QuietTactic
set_option linter.unusedVariables false
namespace Go.Proofs.YtackbadmcgjncaaGreatDoor.As
open Go.RowKit

/-- Which word tells who has an object. -/
def ownerI (k : Int) : Int := if k = 1 ∨ k = 2 then 0 else if k = 4 ∨ k = 5 ∨ k = 9 ∨ k = 10 ∨ k = 15 then 1 else if k = 3 ∨ k = 7 then 2 else if k = 6 ∨ k = 8 then 3 else -1
/-- The kinds' names. -/
def kindNames : List B8 := [[], [116, 97, 115], [116, 116, 97, 115], [116, 105, 99, 107, 101, 116], [109, 99, 115], [99, 108, 104], [112, 101, 116, 101, 114, 115, 111, 110], [100, 101, 107, 107, 101, 114], [98, 105, 97, 115], [115, 101, 113], [109, 117, 116, 101, 120], [115, 101, 109], [99, 111, 110, 100], [98, 97, 114, 114, 105, 101, 114], [114, 119], [111, 110, 99, 101]]
def kindName (k : Int) : B8 := if 1 ≤ k ∧ k < 16 then kindNames.getD k.toNat [] else []
structure TabO (w : World) : Prop where
  names : ∀ i : Nat, i < 16 → w.cell? ⟨1, i, none⟩ = some (.string ⟨(kindNames.getD i []).toArray⟩)
theorem TabO.lt {w : World} (h : TabO w) : 1 < w.heap.size := block_lt_of_cell (h.names 0 (by decide))
theorem TabO.only {w w' : World} {F : Nat → Prop} (h : TabO w) (ho : Only F w w') (hF : ∀ k, F k → k ≠ 1) : TabO w' :=
  ⟨fun i hi => (World.cell?_of_block (w := w) (a := ⟨1, i, none⟩) (ho.block _ h.lt (fun e => hF _ e rfl))).trans (h.names i hi)⟩
theorem TabO.below {B : Nat} {w w' : World} (h : TabO w) (hb : Below B w w') (hB : w.heap.size ≤ B) : TabO w' := h.only (Only.of_below (F := fun _ => False) hb hB) (fun _ e => e.elim)
/-- May there be such an object? -/
def RightP (k n a b th : Int) : Prop := 1 ≤ th ∧ th ≤ 8 ∧ (((k = 6 ∨ k = 7) ∧ n = 0 ∧ 0 ≤ a ∧ a < th ∧ 0 ≤ b ∧ b < th ∧ a ≠ b) ∨ (k = 8 ∧ n = 0 ∧ 0 ≤ a ∧ a < th ∧ b = 0) ∨ (k = 9 ∧ 1 ≤ n ∧ n ≤ 3 ∧ a = 0 ∧ b = 0) ∨
  (k = 11 ∧ 1 ≤ a ∧ a ≤ 1000 ∧ 0 ≤ n ∧ n ≤ a ∧ b = 0) ∨ (k = 13 ∧ 1 ≤ n ∧ n ≤ th ∧ a = 0 ∧ b = 0) ∨ (((1 ≤ k ∧ k ≤ 5) ∨ k = 10 ∨ k = 12 ∨ k = 14 ∨ k = 15) ∧ n = 0 ∧ a = 0 ∧ b = 0))
instance (k n a b th : Int) : Decidable (RightP k n a b th) := by unfold RightP; infer_instance

theorem kindName_ne : ∀ k : Nat, k < 16 → 1 ≤ k → kindNames.getD k [] ≠ [] := by decide
theorem kname_any (w : World) (T : TabO w) (k : Int) : Calls Tryz.prog 98 #[.int .i64 k] w fun e w' => (∃ s : ByteArray, e = .returned (.string s) ∧ s.data.toList = kindName k) ∧ w' = w := by
  by_cases h1 : k < 1
  · go_enter Tryz.func98, Tryz.ntmps98
    go_wp2_with fail
    go_ret
    exact ⟨⟨_, rfl, by unfold kindName; rw [if_neg (by omega)]⟩, rfl⟩
  · by_cases h2 : 16 ≤ k
    · go_enter Tryz.func98, Tryz.ntmps98
      go_wp2_with fail
      go_ret
      exact ⟨⟨_, rfl, by unfold kindName; rw [if_neg (by omega)]⟩, rfl⟩
    · obtain ⟨m, rfl⟩ : ∃ m : Nat, k = m := ⟨k.toNat, by omega⟩
      have hc := T.names m (by omega)
      have hm : m < 16 := by omega
      go_enter Tryz.func98, Tryz.ntmps98
      go_wp2_with fail
      go_ret
      exact ⟨⟨_, rfl, by unfold kindName; rw [if_pos (by omega)]; rfl⟩, rfl⟩
theorem kname_yes {k : Int} {s : ByteArray} (h : 1 ≤ k ∧ k < 16) (hs : s.data.toList = kindName k) : s.toList.isEmpty = false := by
  rw [ByteArray.toList_eq, hs]
  unfold kindName
  rw [if_pos h]
  exact List.isEmpty_eq_false_iff.2 (kindName_ne k.toNat (by omega) (by omega))
theorem kname_no {k : Int} {s : ByteArray} (h : ¬ (1 ≤ k ∧ k < 16)) (hs : s.data.toList = kindName k) : s.toList.isEmpty = true := by
  rw [ByteArray.toList_eq, hs]
  unfold kindName
  rw [if_neg h]; rfl
theorem in_any (w : World) (n lo hi : Int) : Calls Tryz.prog 97 #[.int .i64 n, .int .i64 lo, .int .i64 hi] w fun e w' => e = .returned (.bool (decide (lo ≤ n ∧ n ≤ hi))) ∧ w' = w := by
  by_cases h1 : n ≥ lo
  · by_cases h2 : n ≤ hi
    · have e : decide (lo ≤ n ∧ n ≤ hi) = true := decide_eq_true ⟨h1, h2⟩
      rw [e]
      go_enter Tryz.func97, Tryz.ntmps97
      go_wp2_with fail
      go_ret
      exact ⟨rfl, rfl⟩
    · have e : decide (lo ≤ n ∧ n ≤ hi) = false := decide_eq_false (by omega)
      rw [e]
      go_enter Tryz.func97, Tryz.ntmps97
      go_wp2_with fail
      go_ret
      exact ⟨rfl, rfl⟩
  · have e : decide (lo ≤ n ∧ n ≤ hi) = false := decide_eq_false (by omega)
    rw [e]
    go_enter Tryz.func97, Tryz.ntmps97
    go_wp2_with fail
    go_ret
    exact ⟨rfl, rfl⟩

theorem kname_iff {k : Int} {s : ByteArray} (hs : s.data.toList = kindName k) : s.toList.isEmpty = !decide (1 ≤ k ∧ k < 16) := by
  by_cases h : 1 ≤ k ∧ k < 16
  · rw [kname_yes h hs, decide_eq_true h]; rfl
  · rw [kname_no h hs, decide_eq_false h]; rfl
end Go.Proofs.YtackbadmcgjncaaGreatDoor.As
