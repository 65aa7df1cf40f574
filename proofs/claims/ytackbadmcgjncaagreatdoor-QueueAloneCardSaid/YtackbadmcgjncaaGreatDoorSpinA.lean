/- The walks of the package spin: what calls begin and end with. -/
import Derived.Test.YtackbadmcgjncaaGreatDoorBat
import Derived.Test.YtackbadmcgjncaaGreatDoorFill
set_option linter.unusedVariables false
namespace Go.Proofs.YtackbadmcgjncaaGreatDoor.As
open Go.RowKit

def loadL (r : Int) (k : Nat) : Ln := .ins ⟨16, r, 8, 0, (k : Int)⟩ []
def storeL (r : Int) (k : Nat) : Ln := .ins ⟨17, r, 8, 0, (k : Int)⟩ []
def setL (r : Int) (k : Nat) : Ln := .ins ⟨1, r, 0, 0, (k : Int)⟩ []
def mineL (o t : Nat) : List Ln := [loadL 4 o, setL 5 (t + 1), .ins ⟨12, 6, 4, 5, 0⟩ []]
def claimL (o t : Nat) : List Ln := [loadL 4 o, setL 5 (t + 1), .ins ⟨12, 6, 4, 5, 0⟩ [], .ins ⟨14, 6, 0, 0, 0⟩ [102, 114, 101, 101], setL 7 1, .ins ⟨13, 0, 0, 0, 0⟩ [101, 110, 100], .lab [102, 114, 101, 101]]
def proveL (o t : Nat) : List Ln := [loadL 4 o, setL 5 (t + 1), .ins ⟨12, 6, 4, 5, 0⟩ [], .ins ⟨15, 6, 0, 0, 0⟩ [109, 105, 110, 101], setL 7 2, .ins ⟨13, 0, 0, 0, 0⟩ [101, 110, 100], .lab [109, 105, 110, 101]]
def closeL : List Ln := [setL 7 0, .lab [101, 110, 100]]
def zeroL (o : Nat) : List Ln := [setL 4 0, storeL 4 o]

theorem mine_at {w0 w : World} {F0 : Nat → Prop} {g N : Nat} {s : BS} (h : Bat w0 F0 g N s w) (hN : N < 400000) (o t : Nat) (ht : t ≤ 1000000) :
    Calls Tryz.prog 62 #[.pointer (some ⟨g, 0, none⟩), .int .u32 o, .int .i64 t] w (BatPost w0 F0 g (N + 1 + 1 + 1) (s.run (mineL o t))) := by
  have e1 : IntKind.u32.wrap (t : Int) = t := by rw [IntKind.wrap_u32]; omega
  have e2 : IntKind.u32.wrap ((t : Int) + 1) = ((t + 1 : Nat) : Int) := by rw [IntKind.wrap_u32]; omega
  go_enter Tryz.func62, Tryz.ntmps62
  go_wp2_with fail
  refine (ask_at h (by omega) _ _ _).mono ?_; rintro e w1 ⟨rfl, h1⟩
  go_wp2_with fail
  refine (set_at h1 (by omega) _ _).mono ?_; rintro e w2 ⟨rfl, h2⟩
  go_wp2_with fail
  refine (alu_at h2 (by omega) _ _ _ _).mono ?_; rintro e w3 ⟨rfl, h3⟩
  go_wp2_with fail
  go_end0
  exact ⟨rfl, h3⟩
end Go.Proofs.YtackbadmcgjncaaGreatDoor.As
