/- The walks of the package deadlatchref15: numbers. -/
import Derived.Test.YtmohjegcecimfaaDoorTxt
import Derived.Test.YtmohjegcecimfaaDoorRefA
import Derived.Test.YtmohjegcecimfaaDoorCode
import Derived.BigQuiet
import Derived.Deep.QuietTactic
import Derived.Deep.RegionWith
import Derived.Laws.BytesString
import Derived.Laws.IdiomStrings
set_option linter.unusedVariables false
set_option maxRecDepth 2000
namespace Go.Proofs.YtmohjegcecimfaaDoor.As
open Go.RowKit

theorem conv1 (W : World) (b : Nat) (d : Nat) (hd : d < 256) (hc : W.cell? ⟨b, 0, none⟩ = some (.int .u8 (d : Int))) : (convert 100 9 (.slice (some ⟨b, 0, none⟩) 1 1)).run Tryd.prog W = .ok (.string ⟨#[UInt8.ofNat d]⟩) W := by
  have h1 := run_convert_bytes_back (P := Tryd.prog) W 100 9 5 ⟨b, 0, none⟩ 1 [UInt8.ofNat d] (by kernel_rfl) (by kernel_rfl) (by kernel_rfl) (fun j hj => by
    have : j = 0 := by simp at hj; omega
    subst this
    have e : (UInt8.ofNat d).toNat = d := by rw [UInt8.toNat_ofNat']; omega
    show W.cell? ⟨b, 0 + 0, none⟩ = some (.int .u8 (((UInt8.ofNat d).toNat : Nat) : Int))
    rw [e]; exact hc)
  exact h1
theorem keepB {W w' : World} {B : Nat} (hb : Below B W w') (hB : W.heap.size ≤ B) : ∀ b, b < W.heap.size → w'.cell? ⟨b, 0, none⟩ = W.cell? ⟨b, 0, none⟩ := fun b h => World.cell?_of_block (w := W) (a := ⟨b, 0, none⟩) (hb.block b (by omega))
theorem bl_drew {B : Nat} {a w : World} (h : Below B a w) : Below B a w.drew := ⟨h.os, h.tape, h.output, h.size, h.block⟩
theorem num15_small (n : Nat) (w : World) (h : n < 10) : Calls Tryd.prog 64 #[.int .i64 n] w fun e w' => e = .returned (.string ⟨(decB n).toArray⟩) ∧ Below w.heap.size w w' := by
  have e1 : IntKind.i64.wrap (48 + (n : Int)) = ((48 + n : Nat) : Int) := by rw [IntKind.wrap_i64]; omega
  have e2 : IntKind.u8.wrap ((48 + n : Nat) : Int) = ((48 + n : Nat) : Int) := by rw [IntKind.wrap_u8]; omega
  have hC : ∀ W b, W.cell? ⟨b, 0, none⟩ = some (.int .u8 ((48 + n : Nat) : Int)) → (convert 100 9 (.slice (some ⟨b, 0, none⟩) 1 1)).run Tryd.prog W = .ok (.string ⟨(decB n).toArray⟩) W := fun W b hc => by rw [conv1 W b _ (by omega) hc, decB_small h]
  generalize ((48 + n : Nat) : Int) = x at *
  go_enter Tryd.func64, Tryd.ntmps64
  go_wp2_with fail
  go_ret
  exact ⟨rfl, (Below.refl _ w).alloc (Nat.le_refl _) _⟩
set_option maxHeartbeats 4000000 in
theorem num15_big (n : Nat) (w : World) (h : ¬ n < 10) (hb : n ≤ 1000000000) (ih : ∀ w : World, Calls Tryd.prog 64 #[.int .i64 ((n / 10 : Nat) : Int)] w fun e w' => e = .returned (.string ⟨(decB (n / 10)).toArray⟩) ∧ Below w.heap.size w w') : Calls Tryd.prog 64 #[.int .i64 n] w fun e w' => e = .returned (.string ⟨(decB n).toArray⟩) ∧ Below w.heap.size w w' := by
  obtain ⟨r, hr⟩ : ∃ r : ByteArray, r = ⟨(decB n).toArray⟩ := ⟨_, rfl⟩
  obtain ⟨d, hd⟩ : ∃ d : ByteArray, d = ⟨#[UInt8.ofNat (48 + n % 10)]⟩ := ⟨_, rfl⟩
  obtain ⟨p, hp⟩ : ∃ p : ByteArray, p = ⟨(decB (n / 10)).toArray⟩ := ⟨_, rfl⟩
  have hrd : p ++ d = r := by
    rw [hr, hd, hp, decB_big h]
    apply ByteArray.ext
    rw [ByteArray.data_append]
    simp
  have hps : p.size ≤ 1000000 := by
    have h1 := decB_len 9 (n / 10) (by omega)
    have h2 : p.size = (decB (n / 10)).length := by rw [hp]; rfl
    omega
  have hds : d.size ≤ 1000000 := by
    have h2 : d.size = 1 := by rw [hd]; rfl
    omega
  have q1 : (n : Int).tdiv 10 = ((n / 10 : Nat) : Int) := rfl
  have q2 : (n : Int).tmod 10 = ((n % 10 : Nat) : Int) := rfl
  have q3 : IntKind.i64.wrap ((n / 10 : Nat) : Int) = ((n / 10 : Nat) : Int) := by rw [IntKind.wrap_i64]; omega
  have q4 : IntKind.i64.wrap ((n % 10 : Nat) : Int) = ((n % 10 : Nat) : Int) := by rw [IntKind.wrap_i64]; omega
  have e1 : IntKind.i64.wrap (48 + ((n % 10 : Nat) : Int)) = ((48 + n % 10 : Nat) : Int) := by rw [IntKind.wrap_i64]; omega
  have e2 : IntKind.u8.wrap ((48 + n % 10 : Nat) : Int) = ((48 + n % 10 : Nat) : Int) := by rw [IntKind.wrap_u8]; omega
  have hC : ∀ W b, W.cell? ⟨b, 0, none⟩ = some (.int .u8 ((48 + n % 10 : Nat) : Int)) → (convert 100 9 (.slice (some ⟨b, 0, none⟩) 1 1)).run Tryd.prog W = .ok (.string d) W := fun W b hc => by rw [conv1 W b _ (by omega) hc, hd]
  have hn : (10 : Int) ≤ (n : Int) := by omega
  rw [← hp] at ih
  rw [← hr]
  clear hr hd hp h hb
  generalize ((48 + n % 10 : Nat) : Int) = x at *
  generalize ((n % 10 : Nat) : Int) = y at *
  generalize ((n / 10 : Nat) : Int) = z at *
  generalize (n : Int) = m at *
  go_enter Tryd.func64, Tryd.ntmps64
  go_wp2_with fail
  go_region_with (go_at_call 64; refine (ih _).mono ?_; rintro e w' ⟨rfl, hb'⟩; have hk := keepB hb' (Nat.le_refl _))
  all_goals go_wp2_with fail
  all_goals go_ret
  all_goals refine ⟨rfl, ?_⟩
  all_goals first
    | exact ((bl_drew (Below.refl _ w)).trans (hb'.mono (Nat.le_refl _))).alloc (show w.heap.size ≤ w'.heap.size from hb'.size) _
    | exact (bl_drew ((Below.refl _ w).alloc (Nat.le_refl _) _)).trans (hb'.mono (by simp))
theorem num15_go (m : Nat) : ∀ (n : Nat) (w : World), n ≤ m → n ≤ 1000000000 → Calls Tryd.prog 64 #[.int .i64 n] w fun e w' => e = .returned (.string ⟨(decB n).toArray⟩) ∧ Below w.heap.size w w' := by
  induction m with
  | zero => intro n w hn _; exact num15_small n w (by omega)
  | succ m ih =>
    intro n w hn hb
    by_cases h : n < 10
    · exact num15_small n w h
    · exact num15_big n w h hb (fun w => ih (n / 10) w (by omega) (by omega))
theorem num15_any (n : Nat) (w : World) (h : n ≤ 1000000000) : Calls Tryd.prog 64 #[.int .i64 n] w fun e w' => e = .returned (.string ⟨(decB n).toArray⟩) ∧ Below w.heap.size w w' := num15_go n n w (Nat.le_refl _) h
end Go.Proofs.YtmohjegcecimfaaDoor.As
