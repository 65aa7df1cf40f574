/- The walks of the package spin: the parts of its calls. -/
import Derived.Test.YtackbadmcgjncaaGreatDoorSpinA
set_option linter.unusedVariables false
namespace Go.Proofs.YtackbadmcgjncaaGreatDoor.As
open Go.RowKit

def claimL' (o t : Nat) : List Ln := [.ins ⟨16, 4, 8, 0, ((o : Nat) : Int)⟩ [], .ins ⟨1, 5, 0, 0, ((t + 1 : Nat) : Int)⟩ [], .ins ⟨12, 6, 4, 5, 0⟩ [], .ins ⟨14, 6, 0, 0, 0⟩ [102, 114, 101, 101], .ins ⟨1, 7, 0, 0, 1⟩ [], .ins ⟨13, 0, 0, 0, 0⟩ [101, 110, 100], .lab [102, 114, 101, 101]]
theorem claim_at {w0 w : World} {F0 : Nat → Prop} {g N : Nat} {s : BS} (h : Bat w0 F0 g N s w) (hN : N < 400000) (o t : Nat) (ht : t ≤ 1000000) :
    Calls Tryz.prog 27 #[.pointer (some ⟨g, 0, none⟩), .int .u32 o, .int .i64 t] w (BatPost w0 F0 g (N + 1 + 1 + 1 + 1 + 1 + 1 + 1) (s.run (claimL o t))) := by
  go_enter Tryz.func27, Tryz.ntmps27
  go_wp2_with fail
  refine (mine_at h (by omega) o t ht).mono ?_; rintro e w1 ⟨rfl, h1⟩
  go_wp2_with fail
  refine (go_at h1 (by omega) _ _ _).mono ?_; rintro e w2 ⟨rfl, h2⟩
  go_wp2_with fail
  refine (set_at h2 (by omega) _ _).mono ?_; rintro e w3 ⟨rfl, h3⟩
  go_wp2_with fail
  refine (go_at h3 (by omega) _ _ _).mono ?_; rintro e w4 ⟨rfl, h4⟩
  go_wp2_with fail
  refine (at_at h4 (by omega) _ (by decide)).mono ?_; rintro e w5 ⟨rfl, h5⟩
  go_wp2_with fail
  go_end0
  exact ⟨rfl, h5⟩
def proveL' (o t : Nat) : List Ln := [.ins ⟨16, 4, 8, 0, ((o : Nat) : Int)⟩ [], .ins ⟨1, 5, 0, 0, ((t + 1 : Nat) : Int)⟩ [], .ins ⟨12, 6, 4, 5, 0⟩ [], .ins ⟨15, 6, 0, 0, 0⟩ [109, 105, 110, 101], .ins ⟨1, 7, 0, 0, 2⟩ [], .ins ⟨13, 0, 0, 0, 0⟩ [101, 110, 100], .lab [109, 105, 110, 101]]
theorem prove_at {w0 w : World} {F0 : Nat → Prop} {g N : Nat} {s : BS} (h : Bat w0 F0 g N s w) (hN : N < 400000) (o t : Nat) (ht : t ≤ 1000000) :
    Calls Tryz.prog 28 #[.pointer (some ⟨g, 0, none⟩), .int .u32 o, .int .i64 t] w (BatPost w0 F0 g (N + 1 + 1 + 1 + 1 + 1 + 1 + 1) (s.run (proveL o t))) := by
  go_enter Tryz.func28, Tryz.ntmps28
  go_wp2_with fail
  refine (mine_at h (by omega) o t ht).mono ?_; rintro e w1 ⟨rfl, h1⟩
  go_wp2_with fail
  refine (go_at h1 (by omega) _ _ _).mono ?_; rintro e w2 ⟨rfl, h2⟩
  go_wp2_with fail
  refine (set_at h2 (by omega) _ _).mono ?_; rintro e w3 ⟨rfl, h3⟩
  go_wp2_with fail
  refine (go_at h3 (by omega) _ _ _).mono ?_; rintro e w4 ⟨rfl, h4⟩
  go_wp2_with fail
  refine (at_at h4 (by omega) _ (by decide)).mono ?_; rintro e w5 ⟨rfl, h5⟩
  go_wp2_with fail
  go_end0
  exact ⟨rfl, h5⟩
def closeL'  : List Ln := [.ins ⟨1, 7, 0, 0, 0⟩ [], .lab [101, 110, 100]]
theorem close_at {w0 w : World} {F0 : Nat → Prop} {g N : Nat} {s : BS} (h : Bat w0 F0 g N s w) (hN : N < 400000)  :
    Calls Tryz.prog 30 #[.pointer (some ⟨g, 0, none⟩)] w (BatPost w0 F0 g (N + 1 + 1) (s.run closeL)) := by
  go_enter Tryz.func30, Tryz.ntmps30
  go_wp2_with fail
  refine (set_at h (by omega) _ _).mono ?_; rintro e w1 ⟨rfl, h1⟩
  go_wp2_with fail
  refine (at_at h1 (by omega) _ (by decide)).mono ?_; rintro e w2 ⟨rfl, h2⟩
  go_wp2_with fail
  go_end0
  exact ⟨rfl, h2⟩
def zeroL' (o : Nat) : List Ln := [.ins ⟨1, 4, 0, 0, 0⟩ [], .ins ⟨17, 4, 8, 0, ((o : Nat) : Int)⟩ []]
theorem zero_at {w0 w : World} {F0 : Nat → Prop} {g N : Nat} {s : BS} (h : Bat w0 F0 g N s w) (hN : N < 400000) (o : Nat) :
    Calls Tryz.prog 65 #[.pointer (some ⟨g, 0, none⟩), .int .u32 o] w (BatPost w0 F0 g (N + 1 + 1) (s.run (zeroL o))) := by
  go_enter Tryz.func65, Tryz.ntmps65
  go_wp2_with fail
  refine (set_at h (by omega) _ _).mono ?_; rintro e w1 ⟨rfl, h1⟩
  go_wp2_with fail
  refine (ask_at h1 (by omega) _ _ _).mono ?_; rintro e w2 ⟨rfl, h2⟩
  go_wp2_with fail
  go_end0
  exact ⟨rfl, h2⟩
def tasL (base : Nat) : List Ln := [.lab [115, 112, 105, 110], .ins ⟨1, 4, 0, 0, 0⟩ [], .ins ⟨21, 4, 8, 5, ((base + 0 : Nat) : Int)⟩ [], .ins ⟨15, 4, 0, 0, 0⟩ [115, 112, 105, 110]]
end Go.Proofs.YtackbadmcgjncaaGreatDoor.As
