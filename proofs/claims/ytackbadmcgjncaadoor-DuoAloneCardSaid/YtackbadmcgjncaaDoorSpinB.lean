/- The walks of the package spin: the parts of its calls. -/
import Derived.Test.YtackbadmcgjncaaDoorSpinA
set_option linter.unusedVariables false
namespace Go.Proofs.YtackbadmcgjncaaDoor.As
open Go.RowKit

def claimL' (o t : Nat) : List Ln := [.ins ⟨16, 4, 8, 0, ((o : Nat) : Int)⟩ [], .ins ⟨1, 5, 0, 0, ((t + 1 : Nat) : Int)⟩ [], .ins ⟨12, 6, 4, 5, 0⟩ [], .ins ⟨14, 6, 0, 0, 0⟩ [102, 114, 101, 101], .ins ⟨1, 7, 0, 0, 1⟩ [], .ins ⟨13, 0, 0, 0, 0⟩ [101, 110, 100], .lab [102, 114, 101, 101]]
theorem claim_at {w0 w : World} {F0 : Nat → Prop} {g N : Nat} {s : BS} (h : Bat w0 F0 g N s w) (hN : N < 400000) (o t : Nat) (ht : t ≤ 1000000) :
    Calls Tryd.prog 34 #[.pointer (some ⟨g, 0, none⟩), .int .u32 o, .int .i64 t] w (BatPost w0 F0 g (N + 1 + 1 + 1 + 1 + 1 + 1 + 1) (s.run (claimL o t))) := by
  go_enter Tryd.func34, Tryd.ntmps34
  go_wp2_with fail
  refine (mine_at h (by omega) o t ht).mono ?_; rintro e w1 ⟨rfl, h1⟩
  go_wp2_with fail
  refine (go_at h1 (by omega) _ _ _).mono ?_; rintro e w2 ⟨rfl, h2⟩
  go_wp2_with fail
  refine (set_at h2 (by omega) _ _).mono ?_; rintro e w3 ⟨rfl, h3⟩
  go_wp2_with fail
  refine (go_at h3 (by omega) _ _ _).mono ?_; rintro e w4 ⟨rfl, h4⟩
  go_wp2_with fail
  refine (at_at h4 (by omega) _ (by decide)).mono ?_; rintro e w5 ⟨rfl, h5⟩
  go_wp2_with fail
  go_end0
  exact ⟨rfl, h5⟩
def proveL' (o t : Nat) : List Ln := [.ins ⟨16, 4, 8, 0, ((o : Nat) : Int)⟩ [], .ins ⟨1, 5, 0, 0, ((t + 1 : Nat) : Int)⟩ [], .ins ⟨12, 6, 4, 5, 0⟩ [], .ins ⟨15, 6, 0, 0, 0⟩ [109, 105, 110, 101], .ins ⟨1, 7, 0, 0, 2⟩ [], .ins ⟨13, 0, 0, 0, 0⟩ [101, 110, 100], .lab [109, 105, 110, 101]]
theorem prove_at {w0 w : World} {F0 : Nat → Prop} {g N : Nat} {s : BS} (h : Bat w0 F0 g N s w) (hN : N < 400000) (o t : Nat) (ht : t ≤ 1000000) :
    Calls Tryd.prog 38 #[.pointer (some ⟨g, 0, none⟩), .int .u32 o, .int .i64 t] w (BatPost w0 F0 g (N + 1 + 1 + 1 + 1 + 1 + 1 + 1) (s.run (proveL o t))) := by
  go_enter Tryd.func38, Tryd.ntmps38
  go_wp2_with fail
  refine (mine_at h (by omega) o t ht).mono ?_; rintro e w1 ⟨rfl, h1⟩
  go_wp2_with fail
  refine (go_at h1 (by omega) _ _ _).mono ?_; rintro e w2 ⟨rfl, h2⟩
  go_wp2_with fail
  refine (set_at h2 (by omega) _ _).mono ?_; rintro e w3 ⟨rfl, h3⟩
  go_wp2_with fail
  refine (go_at h3 (by omega) _ _ _).mono ?_; rintro e w4 ⟨rfl, h4⟩
  go_wp2_with fail
  refine (at_at h4 (by omega) _ (by decide)).mono ?_; rintro e w5 ⟨rfl, h5⟩
  go_wp2_with fail
  go_end0
  exact ⟨rfl, h5⟩
def closeL'  : List Ln := [.ins ⟨1, 7, 0, 0, 0⟩ [], .lab [101, 110, 100]]
theorem close_at {w0 w : World} {F0 : Nat → Prop} {g N : Nat} {s : BS} (h : Bat w0 F0 g N s w) (hN : N < 400000)  :
    Calls Tryd.prog 41 #[.pointer (some ⟨g, 0, none⟩)] w (BatPost w0 F0 g (N + 1 + 1) (s.run closeL)) := by
  go_enter Tryd.func41, Tryd.ntmps41
  go_wp2_with fail
  refine (set_at h (by omega) _ _).mono ?_; rintro e w1 ⟨rfl, h1⟩
  go_wp2_with fail
  refine (at_at h1 (by omega) _ (by decide)).mono ?_; rintro e w2 ⟨rfl, h2⟩
  go_wp2_with fail
  go_end0
  exact ⟨rfl, h2⟩
def zeroL' (o : Nat) : List Ln := [.ins ⟨1, 4, 0, 0, 0⟩ [], .ins ⟨17, 4, 8, 0, ((o : Nat) : Int)⟩ []]
theorem zero_at {w0 w : World} {F0 : Nat → Prop} {g N : Nat} {s : BS} (h : Bat w0 F0 g N s w) (hN : N < 400000) (o : Nat) :
    Calls Tryd.prog 40 #[.pointer (some ⟨g, 0, none⟩), .int .u32 o] w (BatPost w0 F0 g (N + 1 + 1) (s.run (zeroL o))) := by
  go_enter Tryd.func40, Tryd.ntmps40
  go_wp2_with fail
  refine (set_at h (by omega) _ _).mono ?_; rintro e w1 ⟨rfl, h1⟩
  go_wp2_with fail
  refine (ask_at h1 (by omega) _ _ _).mono ?_; rintro e w2 ⟨rfl, h2⟩
  go_wp2_with fail
  go_end0
  exact ⟨rfl, h2⟩
def tasL (base : Nat) : List Ln := [.lab [115, 112, 105, 110], .ins ⟨1, 4, 0, 0, 0⟩ [], .ins ⟨21, 4, 8, 5, ((base + 0 : Nat) : Int)⟩ [], .ins ⟨15, 4, 0, 0, 0⟩ [115, 112, 105, 110]]
theorem tas_at {w0 w : World} {F0 : Nat → Prop} {g N : Nat} {s : BS} (h : Bat w0 F0 g N s w) (hN : N < 400000) (base : Nat) (hb : base ≤ 1000000) :
    Calls Tryd.prog 35 #[.pointer (some ⟨g, 0, none⟩), .int .u32 base] w (BatPost w0 F0 g (N + 1 + 1 + 1 + 1) (s.run (tasL base))) := by
  go_enter Tryd.func35, Tryd.ntmps35
  go_wp2_with fail
  refine (at_at h (by omega) _ (by decide)).mono ?_; rintro e w1 ⟨rfl, h1⟩
  go_wp2_with fail
  refine (set_at h1 (by omega) _ _).mono ?_; rintro e w2 ⟨rfl, h2⟩
  go_wp2_with fail
  refine (cas_at h2 (by omega) _ _ _).mono ?_; rintro e w3 ⟨rfl, h3⟩
  go_wp2_with fail
  refine (go_at h3 (by omega) _ _ _).mono ?_; rintro e w4 ⟨rfl, h4⟩
  go_wp2_with fail
  go_end0
  exact ⟨rfl, h4⟩
def ttasL (base : Nat) : List Ln := [.lab [115, 112, 105, 110], .ins ⟨16, 4, 8, 0, ((base + 0 : Nat) : Int)⟩ [], .ins ⟨15, 4, 0, 0, 0⟩ [115, 112, 105, 110], .ins ⟨21, 4, 8, 5, ((base + 0 : Nat) : Int)⟩ [], .ins ⟨15, 4, 0, 0, 0⟩ [115, 112, 105, 110]]
theorem ttas_at {w0 w : World} {F0 : Nat → Prop} {g N : Nat} {s : BS} (h : Bat w0 F0 g N s w) (hN : N < 400000) (base : Nat) (hb : base ≤ 1000000) :
    Calls Tryd.prog 36 #[.pointer (some ⟨g, 0, none⟩), .int .u32 base] w (BatPost w0 F0 g (N + 1 + 1 + 1 + 1 + 1) (s.run (ttasL base))) := by
  go_enter Tryd.func36, Tryd.ntmps36
  go_wp2_with fail
  refine (at_at h (by omega) _ (by decide)).mono ?_; rintro e w1 ⟨rfl, h1⟩
  go_wp2_with fail
  refine (ask_at h1 (by omega) _ _ _).mono ?_; rintro e w2 ⟨rfl, h2⟩
  go_wp2_with fail
  refine (go_at h2 (by omega) _ _ _).mono ?_; rintro e w3 ⟨rfl, h3⟩
  go_wp2_with fail
  refine (cas_at h3 (by omega) _ _ _).mono ?_; rintro e w4 ⟨rfl, h4⟩
  go_wp2_with fail
  refine (go_at h4 (by omega) _ _ _).mono ?_; rintro e w5 ⟨rfl, h5⟩
  go_wp2_with fail
  go_end0
  exact ⟨rfl, h5⟩
def ticketL (base : Nat) : List Ln := [.ins ⟨1, 4, 0, 0, 1⟩ [], .ins ⟨20, 4, 8, 0, ((base + 0 : Nat) : Int)⟩ [], .lab [115, 112, 105, 110], .ins ⟨16, 6, 8, 0, ((base + 1 : Nat) : Int)⟩ [], .ins ⟨12, 6, 6, 4, 0⟩ [], .ins ⟨14, 6, 0, 0, 0⟩ [115, 112, 105, 110], .ins ⟨17, 5, 8, 0, ((base + 2 : Nat) : Int)⟩ []]
theorem ticket_at {w0 w : World} {F0 : Nat → Prop} {g N : Nat} {s : BS} (h : Bat w0 F0 g N s w) (hN : N < 400000) (base : Nat) (hb : base ≤ 1000000) :
    Calls Tryd.prog 37 #[.pointer (some ⟨g, 0, none⟩), .int .u32 base] w (BatPost w0 F0 g (N + 1 + 1 + 1 + 1 + 1 + 1 + 1) (s.run (ticketL base))) := by
  have e0 : IntKind.u32.wrap ((base : Int) + 0) = ((base + 0 : Nat) : Int) := by rw [IntKind.wrap_u32]; omega
  have e1 : IntKind.u32.wrap ((base : Int) + 1) = ((base + 1 : Nat) : Int) := by rw [IntKind.wrap_u32]; omega
  have e2 : IntKind.u32.wrap ((base : Int) + 2) = ((base + 2 : Nat) : Int) := by rw [IntKind.wrap_u32]; omega
  go_enter Tryd.func37, Tryd.ntmps37
  go_wp2_with fail
  refine (set_at h (by omega) _ _).mono ?_; rintro e w1 ⟨rfl, h1⟩
  go_wp2_with fail
  refine (ask_at h1 (by omega) _ _ _).mono ?_; rintro e w2 ⟨rfl, h2⟩
  go_wp2_with fail
  refine (at_at h2 (by omega) _ (by decide)).mono ?_; rintro e w3 ⟨rfl, h3⟩
  go_wp2_with fail
  refine (ask_at h3 (by omega) _ _ _).mono ?_; rintro e w4 ⟨rfl, h4⟩
  go_wp2_with fail
  refine (alu_at h4 (by omega) _ _ _ _).mono ?_; rintro e w5 ⟨rfl, h5⟩
  go_wp2_with fail
  refine (go_at h5 (by omega) _ _ _).mono ?_; rintro e w6 ⟨rfl, h6⟩
  go_wp2_with fail
  refine (ask_at h6 (by omega) _ _ _).mono ?_; rintro e w7 ⟨rfl, h7⟩
  go_wp2_with fail
  go_end0
  exact ⟨rfl, h7⟩
def passL (base : Nat) : List Ln := [.ins ⟨1, 4, 0, 0, 0⟩ [], .ins ⟨17, 4, 8, 0, ((base + 2 : Nat) : Int)⟩ [], .ins ⟨16, 4, 8, 0, ((base + 1 : Nat) : Int)⟩ [], .ins ⟨1, 6, 0, 0, 1⟩ [], .ins ⟨3, 4, 4, 6, 0⟩ [], .ins ⟨17, 4, 8, 0, ((base + 1 : Nat) : Int)⟩ []]
theorem pass_at {w0 w : World} {F0 : Nat → Prop} {g N : Nat} {s : BS} (h : Bat w0 F0 g N s w) (hN : N < 400000) (base : Nat) (hb : base ≤ 1000000) :
    Calls Tryd.prog 39 #[.pointer (some ⟨g, 0, none⟩), .int .u32 base] w (BatPost w0 F0 g (N + 1 + 1 + 1 + 1 + 1 + 1) (s.run (passL base))) := by
  have e0 : IntKind.u32.wrap ((base : Int) + 1) = ((base + 1 : Nat) : Int) := by rw [IntKind.wrap_u32]; omega
  have e1 : IntKind.u32.wrap ((base : Int) + 2) = ((base + 2 : Nat) : Int) := by rw [IntKind.wrap_u32]; omega
  go_enter Tryd.func39, Tryd.ntmps39
  go_wp2_with fail
  refine (zero_at h (by omega) _).mono ?_; rintro e w1 ⟨rfl, h1⟩
  go_wp2_with fail
  refine (ask_at h1 (by omega) _ _ _).mono ?_; rintro e w2 ⟨rfl, h2⟩
  go_wp2_with fail
  refine (set_at h2 (by omega) _ _).mono ?_; rintro e w3 ⟨rfl, h3⟩
  go_wp2_with fail
  refine (alu_at h3 (by omega) _ _ _ _).mono ?_; rintro e w4 ⟨rfl, h4⟩
  go_wp2_with fail
  refine (ask_at h4 (by omega) _ _ _).mono ?_; rintro e w5 ⟨rfl, h5⟩
  go_wp2_with fail
  go_end0
  exact ⟨rfl, h5⟩
end Go.Proofs.YtackbadmcgjncaaDoor.As
