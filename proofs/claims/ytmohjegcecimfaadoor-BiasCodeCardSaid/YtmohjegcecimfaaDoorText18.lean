/- The walks of the package deadlatchref18: the lines of its calls. -/
import Derived.Test.YtmohjegcecimfaaDoorText15
import Derived.Test.YtmohjegcecimfaaDoorLocks3
set_option linter.unusedVariables false
set_option maxRecDepth 20000
namespace Go.Proofs.YtmohjegcecimfaaDoor.As
open Go.RowKit

theorem text18_own (w : World) : Calls Tryd.prog 26 #[.int .i64 1, .bool true] w (TextPost w (unl srcBiasOwn)) := by
  go_enter Tryd.func26, Tryd.ntmps26
  go_wp2_with (first
    | (go_at_call 21; refine (claim15_any _ _ (by decide)).mono ?_; rintro e w1 ⟨⟨o1, rfl, ho1⟩, hb1⟩; have z1 : o1.size ≤ 2000 := by (rw [size_toList, ho1]; decide))
    | (go_at_call 23; refine (prove15_any _ _ (by decide)).mono ?_; rintro e w1 ⟨⟨o1, rfl, ho1⟩, hb1⟩; have z1 : o1.size ≤ 2000 := by (rw [size_toList, ho1]; decide))
    | (go_at_call 22; refine (end15_any _).mono ?_; rintro e w2 ⟨⟨o2, rfl, ho2⟩, hb2⟩; have z2 : o2.size ≤ 2000 := by (rw [size_toList, ho2]; decide)))
  go_ret
  exact ⟨⟨_, rfl, by (simp only [app_toList, ho1, ho2]; rfl)⟩, hb1.trans (hb2.mono hb1.size)⟩
theorem text18_other (w : World) : Calls Tryd.prog 26 #[.int .i64 1, .bool false] w (TextPost w (unl srcBiasOther)) := by
  go_enter Tryd.func26, Tryd.ntmps26
  go_wp2_with (first
    | (go_at_call 21; refine (claim15_any _ _ (by decide)).mono ?_; rintro e w1 ⟨⟨o1, rfl, ho1⟩, hb1⟩; have z1 : o1.size ≤ 2000 := by (rw [size_toList, ho1]; decide))
    | (go_at_call 23; refine (prove15_any _ _ (by decide)).mono ?_; rintro e w1 ⟨⟨o1, rfl, ho1⟩, hb1⟩; have z1 : o1.size ≤ 2000 := by (rw [size_toList, ho1]; decide))
    | (go_at_call 22; refine (end15_any _).mono ?_; rintro e w2 ⟨⟨o2, rfl, ho2⟩, hb2⟩; have z2 : o2.size ≤ 2000 := by (rw [size_toList, ho2]; decide)))
  go_ret
  exact ⟨⟨_, rfl, by (simp only [app_toList, ho1, ho2]; rfl)⟩, hb1.trans (hb2.mono hb1.size)⟩
theorem text18_leave (w : World) : Calls Tryd.prog 26 #[.int .i64 2, .bool true] w (TextPost w (unl srcBiasLeave)) := by
  go_enter Tryd.func26, Tryd.ntmps26
  go_wp2_with (first
    | (go_at_call 21; refine (claim15_any _ _ (by decide)).mono ?_; rintro e w1 ⟨⟨o1, rfl, ho1⟩, hb1⟩; have z1 : o1.size ≤ 2000 := by (rw [size_toList, ho1]; decide))
    | (go_at_call 23; refine (prove15_any _ _ (by decide)).mono ?_; rintro e w1 ⟨⟨o1, rfl, ho1⟩, hb1⟩; have z1 : o1.size ≤ 2000 := by (rw [size_toList, ho1]; decide))
    | (go_at_call 22; refine (end15_any _).mono ?_; rintro e w2 ⟨⟨o2, rfl, ho2⟩, hb2⟩; have z2 : o2.size ≤ 2000 := by (rw [size_toList, ho2]; decide)))
  go_ret
  exact ⟨⟨_, rfl, by (simp only [app_toList, ho1, ho2]; rfl)⟩, hb1.trans (hb2.mono hb1.size)⟩
theorem text18_out (w : World) : Calls Tryd.prog 26 #[.int .i64 2, .bool false] w (TextPost w (unl srcBiasOut)) := by
  go_enter Tryd.func26, Tryd.ntmps26
  go_wp2_with (first
    | (go_at_call 21; refine (claim15_any _ _ (by decide)).mono ?_; rintro e w1 ⟨⟨o1, rfl, ho1⟩, hb1⟩; have z1 : o1.size ≤ 2000 := by (rw [size_toList, ho1]; decide))
    | (go_at_call 23; refine (prove15_any _ _ (by decide)).mono ?_; rintro e w1 ⟨⟨o1, rfl, ho1⟩, hb1⟩; have z1 : o1.size ≤ 2000 := by (rw [size_toList, ho1]; decide))
    | (go_at_call 22; refine (end15_any _).mono ?_; rintro e w2 ⟨⟨o2, rfl, ho2⟩, hb2⟩; have z2 : o2.size ≤ 2000 := by (rw [size_toList, ho2]; decide)))
  go_ret
  exact ⟨⟨_, rfl, by (simp only [app_toList, ho1, ho2]; rfl)⟩, hb1.trans (hb2.mono hb1.size)⟩
end Go.Proofs.YtmohjegcecimfaaDoor.As
