/- The walks of the package deadlatchref15: the lines of its calls. -/
import Derived.Test.YtmohjegcecimfaaDoorFill15
import Derived.Test.YtmohjegcecimfaaDoorLocks
set_option linter.unusedVariables false
namespace Go.Proofs.YtmohjegcecimfaaDoor.As
open Go.RowKit

def claimT (o : B8) : B8 := [108, 111, 97, 100, 32, 114, 52, 32, 91] ++ o ++ [93, 10, 115, 101, 116, 32, 114, 53, 32, 36, 10, 115, 97, 109, 101, 32, 114, 54, 32, 114, 52, 32, 114, 53, 10, 122, 101, 114, 111, 32, 114, 54, 32, 64, 102, 114, 101, 101, 10, 115, 101, 116, 32, 114, 55, 32, 49, 10, 106, 117, 109, 112, 32, 64, 101, 110, 100, 10, 102, 114, 101, 101, 58, 10]
def proveT (o : B8) : B8 := [108, 111, 97, 100, 32, 114, 52, 32, 91] ++ o ++ [93, 10, 115, 101, 116, 32, 114, 53, 32, 36, 10, 115, 97, 109, 101, 32, 114, 54, 32, 114, 52, 32, 114, 53, 10, 115, 111, 109, 101, 32, 114, 54, 32, 64, 109, 105, 110, 101, 10, 115, 101, 116, 32, 114, 55, 32, 50, 10, 106, 117, 109, 112, 32, 64, 101, 110, 100, 10, 109, 105, 110, 101, 58, 10]
def endT : B8 := [115, 101, 116, 32, 114, 55, 32, 48, 10, 101, 110, 100, 58, 10]
/-- A text that a function returns. -/
def TextPost (w : World) (t : B8) (e : Ending) (w' : World) : Prop := (∃ o : ByteArray, e = .returned (.string o) ∧ o.data.toList = t) ∧ Below w.heap.size w w'

theorem claim15_any (w : World) (s : ByteArray) (hs : s.size ≤ 1000) : Calls Tryd.prog 21 #[.string s] w (TextPost w (claimT s.data.toList)) := by
  go_enter Tryd.func21, Tryd.ntmps21
  go_wp2_with fail
  go_ret
  exact ⟨⟨_, rfl, by rw [app_toList, app_toList]; rfl⟩, Below.refl _ _⟩
theorem prove15_any (w : World) (s : ByteArray) (hs : s.size ≤ 1000) : Calls Tryd.prog 23 #[.string s] w (TextPost w (proveT s.data.toList)) := by
  go_enter Tryd.func23, Tryd.ntmps23
  go_wp2_with fail
  go_ret
  exact ⟨⟨_, rfl, by rw [app_toList, app_toList]; rfl⟩, Below.refl _ _⟩
theorem end15_any (w : World) : Calls Tryd.prog 22 #[] w (TextPost w endT) := by
  go_enter Tryd.func22, Tryd.ntmps22
  go_wp2_with fail
  go_ret
  exact ⟨⟨_, rfl, rfl⟩, Below.refl _ _⟩

theorem text15_tas (w : World) : Calls Tryd.prog 14 #[.int .i64 1, .int .i64 1] w (TextPost w (unl srcTas)) := by
  go_enter Tryd.func14, Tryd.ntmps14
  go_wp2_with (first
    | (go_at_call 21; refine (claim15_any _ _ (by decide)).mono ?_; rintro e w1 ⟨⟨o1, rfl, ho1⟩, hb1⟩; have z1 : o1.size ≤ 2000 := by (rw [size_toList, ho1]; decide))
    | (go_at_call 23; refine (prove15_any _ _ (by decide)).mono ?_; rintro e w1 ⟨⟨o1, rfl, ho1⟩, hb1⟩; have z1 : o1.size ≤ 2000 := by (rw [size_toList, ho1]; decide))
    | (go_at_call 22; refine (end15_any _).mono ?_; rintro e w2 ⟨⟨o2, rfl, ho2⟩, hb2⟩; have z2 : o2.size ≤ 2000 := by (rw [size_toList, ho2]; decide)))
  go_ret
  exact ⟨⟨_, rfl, by (simp only [app_toList, ho1, ho2]; rfl)⟩, hb1.trans (hb2.mono hb1.size)⟩
theorem text15_ttas (w : World) : Calls Tryd.prog 14 #[.int .i64 2, .int .i64 1] w (TextPost w (unl srcTtas)) := by
  go_enter Tryd.func14, Tryd.ntmps14
  go_wp2_with (first
    | (go_at_call 21; refine (claim15_any _ _ (by decide)).mono ?_; rintro e w1 ⟨⟨o1, rfl, ho1⟩, hb1⟩; have z1 : o1.size ≤ 2000 := by (rw [size_toList, ho1]; decide))
    | (go_at_call 23; refine (prove15_any _ _ (by decide)).mono ?_; rintro e w1 ⟨⟨o1, rfl, ho1⟩, hb1⟩; have z1 : o1.size ≤ 2000 := by (rw [size_toList, ho1]; decide))
    | (go_at_call 22; refine (end15_any _).mono ?_; rintro e w2 ⟨⟨o2, rfl, ho2⟩, hb2⟩; have z2 : o2.size ≤ 2000 := by (rw [size_toList, ho2]; decide)))
  go_ret
  exact ⟨⟨_, rfl, by (simp only [app_toList, ho1, ho2]; rfl)⟩, hb1.trans (hb2.mono hb1.size)⟩
theorem text15_tick (w : World) : Calls Tryd.prog 14 #[.int .i64 3, .int .i64 1] w (TextPost w (unl srcTick)) := by
  go_enter Tryd.func14, Tryd.ntmps14
  go_wp2_with (first
    | (go_at_call 21; refine (claim15_any _ _ (by decide)).mono ?_; rintro e w1 ⟨⟨o1, rfl, ho1⟩, hb1⟩; have z1 : o1.size ≤ 2000 := by (rw [size_toList, ho1]; decide))
    | (go_at_call 23; refine (prove15_any _ _ (by decide)).mono ?_; rintro e w1 ⟨⟨o1, rfl, ho1⟩, hb1⟩; have z1 : o1.size ≤ 2000 := by (rw [size_toList, ho1]; decide))
    | (go_at_call 22; refine (end15_any _).mono ?_; rintro e w2 ⟨⟨o2, rfl, ho2⟩, hb2⟩; have z2 : o2.size ≤ 2000 := by (rw [size_toList, ho2]; decide)))
  go_ret
  exact ⟨⟨_, rfl, by (simp only [app_toList, ho1, ho2]; rfl)⟩, hb1.trans (hb2.mono hb1.size)⟩
theorem text15_rel1 (w : World) : Calls Tryd.prog 14 #[.int .i64 1, .int .i64 2] w (TextPost w (unl srcRel)) := by
  go_enter Tryd.func14, Tryd.ntmps14
  go_wp2_with (first
    | (go_at_call 21; refine (claim15_any _ _ (by decide)).mono ?_; rintro e w1 ⟨⟨o1, rfl, ho1⟩, hb1⟩; have z1 : o1.size ≤ 2000 := by (rw [size_toList, ho1]; decide))
    | (go_at_call 23; refine (prove15_any _ _ (by decide)).mono ?_; rintro e w1 ⟨⟨o1, rfl, ho1⟩, hb1⟩; have z1 : o1.size ≤ 2000 := by (rw [size_toList, ho1]; decide))
    | (go_at_call 22; refine (end15_any _).mono ?_; rintro e w2 ⟨⟨o2, rfl, ho2⟩, hb2⟩; have z2 : o2.size ≤ 2000 := by (rw [size_toList, ho2]; decide)))
  go_ret
  exact ⟨⟨_, rfl, by (simp only [app_toList, ho1, ho2]; rfl)⟩, hb1.trans (hb2.mono hb1.size)⟩
theorem text15_rel2 (w : World) : Calls Tryd.prog 14 #[.int .i64 2, .int .i64 2] w (TextPost w (unl srcRel)) := by
  go_enter Tryd.func14, Tryd.ntmps14
  go_wp2_with (first
    | (go_at_call 21; refine (claim15_any _ _ (by decide)).mono ?_; rintro e w1 ⟨⟨o1, rfl, ho1⟩, hb1⟩; have z1 : o1.size ≤ 2000 := by (rw [size_toList, ho1]; decide))
    | (go_at_call 23; refine (prove15_any _ _ (by decide)).mono ?_; rintro e w1 ⟨⟨o1, rfl, ho1⟩, hb1⟩; have z1 : o1.size ≤ 2000 := by (rw [size_toList, ho1]; decide))
    | (go_at_call 22; refine (end15_any _).mono ?_; rintro e w2 ⟨⟨o2, rfl, ho2⟩, hb2⟩; have z2 : o2.size ≤ 2000 := by (rw [size_toList, ho2]; decide)))
  go_ret
  exact ⟨⟨_, rfl, by (simp only [app_toList, ho1, ho2]; rfl)⟩, hb1.trans (hb2.mono hb1.size)⟩
theorem text15_pass (w : World) : Calls Tryd.prog 14 #[.int .i64 3, .int .i64 2] w (TextPost w (unl srcPass)) := by
  go_enter Tryd.func14, Tryd.ntmps14
  go_wp2_with (first
    | (go_at_call 21; refine (claim15_any _ _ (by decide)).mono ?_; rintro e w1 ⟨⟨o1, rfl, ho1⟩, hb1⟩; have z1 : o1.size ≤ 2000 := by (rw [size_toList, ho1]; decide))
    | (go_at_call 23; refine (prove15_any _ _ (by decide)).mono ?_; rintro e w1 ⟨⟨o1, rfl, ho1⟩, hb1⟩; have z1 : o1.size ≤ 2000 := by (rw [size_toList, ho1]; decide))
    | (go_at_call 22; refine (end15_any _).mono ?_; rintro e w2 ⟨⟨o2, rfl, ho2⟩, hb2⟩; have z2 : o2.size ≤ 2000 := by (rw [size_toList, ho2]; decide)))
  go_ret
  exact ⟨⟨_, rfl, by (simp only [app_toList, ho1, ho2]; rfl)⟩, hb1.trans (hb2.mono hb1.size)⟩
end Go.Proofs.YtmohjegcecimfaaDoor.As
