/- A builder's calls, one behind the other: what is kept from call to call. -/
import Derived.Test.YtackbadmcgjncaaGreatDoorCode
set_option linter.unusedVariables false
namespace Go.Proofs.YtackbadmcgjncaaGreatDoor.As
open Go.RowKit

/-- A builder behind some calls, since a world. -/
def Bat (w0 : World) (F0 : Nat → Prop) (g N : Nat) (s : BS) (w : World) : Prop :=
  ∃ F, Bld w g s F ∧ Step F0 w0 F w ∧ s.code.length ≤ N ∧ s.places.length ≤ N
/-- What such a call leaves. -/
def BatPost (w0 : World) (F0 : Nat → Prop) (g N : Nat) (s : BS) (e : Ending) (w : World) : Prop := e = .returned (.tuple #[]) ∧ Bat w0 F0 g N s w

theorem Bat.start {w : World} {F : Nat → Prop} {g N : Nat} {s : BS} (h : Bld w g s F) (h1 : s.code.length ≤ N) (h2 : s.places.length ≤ N) : Bat w F g N s w :=
  ⟨F, h, ⟨Only.refl F w, fun _ e => .inl e⟩, h1, h2⟩
theorem Bat.of_post {w0 w w' : World} {F0 F : Nat → Prop} {g N : Nat} {s' : BS} {e : Ending} (hs : Step F0 w0 F w) (h : BPost w g F s' e w') (h1 : s'.code.length ≤ N) (h2 : s'.places.length ≤ N) : BatPost w0 F0 g N s' e w' := by
  obtain ⟨rfl, F', hb, hs'⟩ := h
  exact ⟨rfl, F', hb, hs.trans hs', h1, h2⟩
theorem do_at {w0 w : World} {F0 : Nat → Prop} {g N : Nat} {s : BS} (h : Bat w0 F0 g N s w) (hN : N < 500000) (o a b c k : Int) :
    Calls Tryz.prog 57 #[.pointer (some ⟨g, 0, none⟩), .agg #[.int .i64 o, .int .i64 a, .int .i64 b, .int .i64 c, .int .u32 k]] w (BatPost w0 F0 g (N + 1) (s.do_ ⟨o, a, b, c, k⟩)) := by
  obtain ⟨F, hb, hs, h1, h2⟩ := h
  exact (do_any w g s F hb (by omega) o a b c k).mono (fun e w' h => Bat.of_post hs h (by simp [BS.do_]; omega) (by simp [BS.do_]; omega))
theorem set_at {w0 w : World} {F0 : Nat → Prop} {g N : Nat} {s : BS} (h : Bat w0 F0 g N s w) (hN : N < 500000) (a k : Int) :
    Calls Tryz.prog 24 #[.pointer (some ⟨g, 0, none⟩), .int .i64 a, .int .u32 k] w (BatPost w0 F0 g (N + 1) (s.set_ a k)) := by
  obtain ⟨F, hb, hs, h1, h2⟩ := h
  exact (set_any w g s F hb (by omega) a k).mono (fun e w' h => Bat.of_post hs h (by simp [BS.set_, BS.do_]; omega) (by simp [BS.set_, BS.do_]; omega))
theorem alu_at {w0 w : World} {F0 : Nat → Prop} {g N : Nat} {s : BS} (h : Bat w0 F0 g N s w) (hN : N < 500000) (o a x y : Int) :
    Calls Tryz.prog 82 #[.pointer (some ⟨g, 0, none⟩), .int .i64 o, .int .i64 a, .int .i64 x, .int .i64 y] w (BatPost w0 F0 g (N + 1) (s.alu_ o a x y)) := by
  obtain ⟨F, hb, hs, h1, h2⟩ := h
  exact (alu_any w g s F hb (by omega) o a x y).mono (fun e w' h => Bat.of_post hs h (by simp [BS.alu_, BS.do_]; omega) (by simp [BS.alu_, BS.do_]; omega))
theorem ask_at {w0 w : World} {F0 : Nat → Prop} {g N : Nat} {s : BS} (h : Bat w0 F0 g N s w) (hN : N < 500000) (o a k : Int) :
    Calls Tryz.prog 76 #[.pointer (some ⟨g, 0, none⟩), .int .i64 o, .int .i64 a, .int .u32 k] w (BatPost w0 F0 g (N + 1) (s.ask_ o a k)) := by
  obtain ⟨F, hb, hs, h1, h2⟩ := h
  exact (ask_any w g s F hb (by omega) o a k).mono (fun e w' h => Bat.of_post hs h (by simp [BS.ask_, BS.do_]; omega) (by simp [BS.ask_, BS.do_]; omega))
theorem cas_at {w0 w : World} {F0 : Nat → Prop} {g N : Nat} {s : BS} (h : Bat w0 F0 g N s w) (hN : N < 500000) (a c k : Int) :
    Calls Tryz.prog 81 #[.pointer (some ⟨g, 0, none⟩), .int .i64 a, .int .i64 c, .int .u32 k] w (BatPost w0 F0 g (N + 1) (s.cas_ a c k)) := by
  obtain ⟨F, hb, hs, h1, h2⟩ := h
  exact (cas_any w g s F hb (by omega) a c k).mono (fun e w' h => Bat.of_post hs h (by simp [BS.cas_, BS.do_]; omega) (by simp [BS.cas_, BS.do_]; omega))
theorem go_at {w0 w : World} {F0 : Nat → Prop} {g N : Nat} {s : BS} (h : Bat w0 F0 g N s w) (hN : N < 500000) (o a : Int) (nm : ByteArray) :
    Calls Tryz.prog 63 #[.pointer (some ⟨g, 0, none⟩), .int .i64 o, .int .i64 a, .string nm] w (BatPost w0 F0 g (N + 1) (s.go_ o a nm.data.toList)) := by
  obtain ⟨F, hb, hs, h1, h2⟩ := h
  exact (go_any w g s F hb (by omega) o a nm).mono (fun e w' h => Bat.of_post hs h (by simp [BS.go_]; omega) (by simp [BS.go_]; omega))
theorem at_at {w0 w : World} {F0 : Nat → Prop} {g N : Nat} {s : BS} (h : Bat w0 F0 g N s w) (hN : N < 500000) (nm : ByteArray) (hnm : nm.size ≤ maxLen) :
    Calls Tryz.prog 64 #[.pointer (some ⟨g, 0, none⟩), .string nm] w (BatPost w0 F0 g (N + 1) (s.at_ nm.data.toList)) := by
  obtain ⟨F, hb, hs, h1, h2⟩ := h
  exact (at_any w g s F hb (by omega) (by omega) nm hnm).mono (fun e w' h => Bat.of_post hs h (by unfold BS.at_; split <;> simp <;> omega) (by unfold BS.at_; split <;> simp <;> omega))
end Go.Proofs.YtackbadmcgjncaaGreatDoor.As
