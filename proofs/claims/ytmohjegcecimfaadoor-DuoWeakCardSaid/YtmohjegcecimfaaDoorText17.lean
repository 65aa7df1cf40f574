/- The walks of the package deadlatchref17: the lines of its calls. -/
import Derived.Test.YtmohjegcecimfaaDoorText15
import Derived.Test.YtmohjegcecimfaaDoorLocks2
set_option linter.unusedVariables false
set_option linter.unusedSimpArgs false
set_option maxRecDepth 20000
namespace Go.Proofs.YtmohjegcecimfaaDoor.As
open Go.RowKit

set_option maxHeartbeats 4000000 in
theorem text17_PetInA (w : World) (n b : Int) (t : Int) : Calls Tryd.prog 30 #[.agg #[.int .i64 6, .int .i64 n, .int .i64 t, .int .i64 b], .int .i64 1, .int .i64 t] w (TextPost w (unl srcPetInA)) := by
  have ha : ∀ o, Below w.heap.size w (w.alloc o) := fun o => (Below.refl _ w).alloc (Nat.le_refl _) o
  go_enter Tryd.func30, Tryd.ntmps30
  go_wp2_with fail
  refine (claim15_any _ _ (by decide)).mono ?_; rintro e w1 ⟨⟨o1, rfl, ho1⟩, hb1⟩
  have z1 : o1.size ≤ 2000 := by (rw [size_toList, ho1]; decide)
  have hk := keepB hb1 (Nat.le_refl _)
  go_wp2_with fail
  refine (end15_any _).mono ?_; rintro e w2 ⟨⟨o2, rfl, ho2⟩, hb2⟩
  have z2 : o2.size ≤ 2000 := by (rw [size_toList, ho2]; decide)
  clear hk
  go_wp2_with fail
  go_ret
  exact ⟨⟨_, rfl, by (simp only [app_toList, ho1, ho2]; rfl)⟩, (ha _).trans ((hb1.trans (hb2.mono hb1.size)).mono (by simp))⟩
set_option maxHeartbeats 4000000 in
theorem text17_PetOutA (w : World) (n b : Int) (t : Int) : Calls Tryd.prog 30 #[.agg #[.int .i64 6, .int .i64 n, .int .i64 t, .int .i64 b], .int .i64 2, .int .i64 t] w (TextPost w (unl srcPetOutA)) := by
  have ha : ∀ o, Below w.heap.size w (w.alloc o) := fun o => (Below.refl _ w).alloc (Nat.le_refl _) o
  go_enter Tryd.func30, Tryd.ntmps30
  go_wp2_with fail
  refine (prove15_any _ _ (by decide)).mono ?_; rintro e w1 ⟨⟨o1, rfl, ho1⟩, hb1⟩
  have z1 : o1.size ≤ 2000 := by (rw [size_toList, ho1]; decide)
  have hk := keepB hb1 (Nat.le_refl _)
  go_wp2_with fail
  refine (end15_any _).mono ?_; rintro e w2 ⟨⟨o2, rfl, ho2⟩, hb2⟩
  have z2 : o2.size ≤ 2000 := by (rw [size_toList, ho2]; decide)
  clear hk
  go_wp2_with fail
  go_ret
  exact ⟨⟨_, rfl, by (simp only [app_toList, ho1, ho2]; rfl)⟩, (ha _).trans ((hb1.trans (hb2.mono hb1.size)).mono (by simp))⟩
set_option maxHeartbeats 4000000 in
theorem text17_PetInB (w : World) (n a : Int) (t : Int) (he : (t == a) = false) (hm : (t != a) = true) : Calls Tryd.prog 30 #[.agg #[.int .i64 6, .int .i64 n, .int .i64 a, .int .i64 t], .int .i64 1, .int .i64 t] w (TextPost w (unl srcPetInB)) := by
  have ha : ∀ o, Below w.heap.size w (w.alloc o) := fun o => (Below.refl _ w).alloc (Nat.le_refl _) o
  go_enter Tryd.func30, Tryd.ntmps30
  go_wp2_with fail
  refine (claim15_any _ _ (by decide)).mono ?_; rintro e w1 ⟨⟨o1, rfl, ho1⟩, hb1⟩
  have z1 : o1.size ≤ 2000 := by (rw [size_toList, ho1]; decide)
  have hk := keepB hb1 (Nat.le_refl _)
  go_wp2_with fail
  refine (end15_any _).mono ?_; rintro e w2 ⟨⟨o2, rfl, ho2⟩, hb2⟩
  have z2 : o2.size ≤ 2000 := by (rw [size_toList, ho2]; decide)
  clear hk
  go_wp2_with fail
  go_ret
  exact ⟨⟨_, rfl, by (simp only [app_toList, ho1, ho2]; rfl)⟩, (ha _).trans ((hb1.trans (hb2.mono hb1.size)).mono (by simp))⟩
set_option maxHeartbeats 4000000 in
theorem text17_PetOutB (w : World) (n a : Int) (t : Int) (he : (t == a) = false) (hm : (t != a) = true) : Calls Tryd.prog 30 #[.agg #[.int .i64 6, .int .i64 n, .int .i64 a, .int .i64 t], .int .i64 2, .int .i64 t] w (TextPost w (unl srcPetOutB)) := by
  have ha : ∀ o, Below w.heap.size w (w.alloc o) := fun o => (Below.refl _ w).alloc (Nat.le_refl _) o
  go_enter Tryd.func30, Tryd.ntmps30
  go_wp2_with fail
  refine (prove15_any _ _ (by decide)).mono ?_; rintro e w1 ⟨⟨o1, rfl, ho1⟩, hb1⟩
  have z1 : o1.size ≤ 2000 := by (rw [size_toList, ho1]; decide)
  have hk := keepB hb1 (Nat.le_refl _)
  go_wp2_with fail
  refine (end15_any _).mono ?_; rintro e w2 ⟨⟨o2, rfl, ho2⟩, hb2⟩
  have z2 : o2.size ≤ 2000 := by (rw [size_toList, ho2]; decide)
  clear hk
  go_wp2_with fail
  go_ret
  exact ⟨⟨_, rfl, by (simp only [app_toList, ho1, ho2]; rfl)⟩, (ha _).trans ((hb1.trans (hb2.mono hb1.size)).mono (by simp))⟩
set_option maxHeartbeats 4000000 in
theorem text17_DekFast (w : World) (n b : Int) (t : Int) : Calls Tryd.prog 30 #[.agg #[.int .i64 7, .int .i64 n, .int .i64 t, .int .i64 b], .int .i64 1, .int .i64 t] w (TextPost w (unl srcDekFast)) := by
  have ha : ∀ o, Below w.heap.size w (w.alloc o) := fun o => (Below.refl _ w).alloc (Nat.le_refl _) o
  go_enter Tryd.func30, Tryd.ntmps30
  go_wp2_with fail
  refine (claim15_any _ _ (by decide)).mono ?_; rintro e w1 ⟨⟨o1, rfl, ho1⟩, hb1⟩
  have z1 : o1.size ≤ 2000 := by (rw [size_toList, ho1]; decide)
  have hk := keepB hb1 (Nat.le_refl _)
  go_wp2_with fail
  refine (end15_any _).mono ?_; rintro e w2 ⟨⟨o2, rfl, ho2⟩, hb2⟩
  have z2 : o2.size ≤ 2000 := by (rw [size_toList, ho2]; decide)
  clear hk
  go_wp2_with fail
  go_ret
  exact ⟨⟨_, rfl, by (simp only [app_toList, ho1, ho2]; rfl)⟩, (ha _).trans ((hb1.trans (hb2.mono hb1.size)).mono (by simp))⟩
set_option maxHeartbeats 4000000 in
theorem text17_DekOutA (w : World) (n b : Int) (t : Int) : Calls Tryd.prog 30 #[.agg #[.int .i64 7, .int .i64 n, .int .i64 t, .int .i64 b], .int .i64 2, .int .i64 t] w (TextPost w (unl srcDekOutA)) := by
  have ha : ∀ o, Below w.heap.size w (w.alloc o) := fun o => (Below.refl _ w).alloc (Nat.le_refl _) o
  go_enter Tryd.func30, Tryd.ntmps30
  go_wp2_with fail
  refine (prove15_any _ _ (by decide)).mono ?_; rintro e w1 ⟨⟨o1, rfl, ho1⟩, hb1⟩
  have z1 : o1.size ≤ 2000 := by (rw [size_toList, ho1]; decide)
  have hk := keepB hb1 (Nat.le_refl _)
  go_wp2_with fail
  refine (end15_any _).mono ?_; rintro e w2 ⟨⟨o2, rfl, ho2⟩, hb2⟩
  have z2 : o2.size ≤ 2000 := by (rw [size_toList, ho2]; decide)
  clear hk
  go_wp2_with fail
  go_ret
  exact ⟨⟨_, rfl, by (simp only [app_toList, ho1, ho2]; rfl)⟩, (ha _).trans ((hb1.trans (hb2.mono hb1.size)).mono (by simp))⟩
set_option maxHeartbeats 4000000 in
theorem text17_DekSlow (w : World) (n a : Int) (t : Int) (he : (t == a) = false) (hm : (t != a) = true) : Calls Tryd.prog 30 #[.agg #[.int .i64 7, .int .i64 n, .int .i64 a, .int .i64 t], .int .i64 1, .int .i64 t] w (TextPost w (unl srcDekSlow)) := by
  have ha : ∀ o, Below w.heap.size w (w.alloc o) := fun o => (Below.refl _ w).alloc (Nat.le_refl _) o
  go_enter Tryd.func30, Tryd.ntmps30
  go_wp2_with fail
  refine (claim15_any _ _ (by decide)).mono ?_; rintro e w1 ⟨⟨o1, rfl, ho1⟩, hb1⟩
  have z1 : o1.size ≤ 2000 := by (rw [size_toList, ho1]; decide)
  have hk := keepB hb1 (Nat.le_refl _)
  go_wp2_with fail
  refine (end15_any _).mono ?_; rintro e w2 ⟨⟨o2, rfl, ho2⟩, hb2⟩
  have z2 : o2.size ≤ 2000 := by (rw [size_toList, ho2]; decide)
  clear hk
  go_wp2_with fail
  go_ret
  exact ⟨⟨_, rfl, by (simp only [app_toList, ho1, ho2]; rfl)⟩, (ha _).trans ((hb1.trans (hb2.mono hb1.size)).mono (by simp))⟩
set_option maxHeartbeats 4000000 in
theorem text17_DekOutB (w : World) (n a : Int) (t : Int) (he : (t == a) = false) (hm : (t != a) = true) : Calls Tryd.prog 30 #[.agg #[.int .i64 7, .int .i64 n, .int .i64 a, .int .i64 t], .int .i64 2, .int .i64 t] w (TextPost w (unl srcDekOutB)) := by
  have ha : ∀ o, Below w.heap.size w (w.alloc o) := fun o => (Below.refl _ w).alloc (Nat.le_refl _) o
  go_enter Tryd.func30, Tryd.ntmps30
  go_wp2_with fail
  refine (prove15_any _ _ (by decide)).mono ?_; rintro e w1 ⟨⟨o1, rfl, ho1⟩, hb1⟩
  have z1 : o1.size ≤ 2000 := by (rw [size_toList, ho1]; decide)
  have hk := keepB hb1 (Nat.le_refl _)
  go_wp2_with fail
  refine (end15_any _).mono ?_; rintro e w2 ⟨⟨o2, rfl, ho2⟩, hb2⟩
  have z2 : o2.size ≤ 2000 := by (rw [size_toList, ho2]; decide)
  clear hk
  go_wp2_with fail
  go_ret
  exact ⟨⟨_, rfl, by (simp only [app_toList, ho1, ho2]; rfl)⟩, (ha _).trans ((hb1.trans (hb2.mono hb1.size)).mono (by simp))⟩
set_option maxHeartbeats 4000000 in
theorem text17_Stranger (w : World) (k n a b c : Int) (t : Int) (hm : (t != a) = true) (hq : (t != b) = true) : Calls Tryd.prog 30 #[.agg #[.int .i64 k, .int .i64 n, .int .i64 a, .int .i64 b], .int .i64 c, .int .i64 t] w (TextPost w (unl srcStranger)) := by
  have ha : ∀ o, Below w.heap.size w (w.alloc o) := fun o => (Below.refl _ w).alloc (Nat.le_refl _) o
  go_enter Tryd.func30, Tryd.ntmps30
  go_wp2_with fail
  go_ret
  exact ⟨⟨_, rfl, rfl⟩, ha _⟩
end Go.Proofs.YtmohjegcecimfaaDoor.As
