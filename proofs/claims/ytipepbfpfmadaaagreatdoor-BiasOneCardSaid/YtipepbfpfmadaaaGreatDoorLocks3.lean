/- Plain Lean: the document's lines of the locks of layer 18, and the code that they make. No program in sight. -/
import Derived.Test.YtipepbfpfmadaaaGreatDoorGo
set_option linter.unusedVariables false
set_option maxRecDepth 4000
namespace Go.Proofs.YtipepbfpfmadaaaGreatDoor.As

/-! ### BiasOwn -/
def srcBiasOwn : List B8 := [[108, 111, 97, 100, 32, 114, 52, 32, 91, 100, 93], [115, 101, 116, 32, 114, 53, 32, 36], [115, 97, 109, 101, 32, 114, 54, 32, 114, 52, 32, 114, 53], [122, 101, 114, 111, 32, 114, 54, 32, 64, 102, 114, 101, 101], [115, 101, 116, 32, 114, 55, 32, 49], [106, 117, 109, 112, 32, 64, 101, 110, 100], [102, 114, 101, 101, 58], [115, 101, 116, 32, 114, 52, 32, 49], [115, 116, 111, 114, 101, 32, 114, 52, 32, 91, 97, 93], [108, 111, 97, 100, 32, 114, 52, 32, 91, 98, 93], [122, 101, 114, 111, 32, 114, 52, 32, 64, 103, 111, 116], [115, 101, 116, 32, 114, 52, 32, 48], [115, 116, 111, 114, 101, 32, 114, 52, 32, 91, 97, 93], [115, 112, 105, 110, 58], [115, 101, 116, 32, 114, 52, 32, 48], [99, 97, 115, 32, 114, 52, 32, 114, 53, 32, 91, 99, 93], [115, 111, 109, 101, 32, 114, 52, 32, 64, 115, 112, 105, 110], [103, 111, 116, 58], [115, 116, 111, 114, 101, 32, 114, 53, 32, 91, 100, 93], [115, 101, 116, 32, 114, 55, 32, 48], [101, 110, 100, 58]]
def linBiasOwn (base t : Nat) : List Ln := [.ins ⟨16, 4, 8, 0, ((base + 3 : Nat) : Int)⟩ [], .ins ⟨1, 5, 0, 0, ((t + 1 : Nat) : Int)⟩ [], .ins ⟨12, 6, 4, 5, 0⟩ [], .ins ⟨14, 6, 0, 0, 0⟩ [102, 114, 101, 101], .ins ⟨1, 7, 0, 0, 1⟩ [], .ins ⟨13, 0, 0, 0, 0⟩ [101, 110, 100], .lab [102, 114, 101, 101], .ins ⟨1, 4, 0, 0, 1⟩ [], .ins ⟨17, 4, 8, 0, ((base + 0 : Nat) : Int)⟩ [], .ins ⟨16, 4, 8, 0, ((base + 1 : Nat) : Int)⟩ [], .ins ⟨14, 4, 0, 0, 0⟩ [103, 111, 116], .ins ⟨1, 4, 0, 0, 0⟩ [], .ins ⟨17, 4, 8, 0, ((base + 0 : Nat) : Int)⟩ [], .lab [115, 112, 105, 110], .ins ⟨1, 4, 0, 0, 0⟩ [], .ins ⟨21, 4, 8, 5, ((base + 2 : Nat) : Int)⟩ [], .ins ⟨15, 4, 0, 0, 0⟩ [115, 112, 105, 110], .lab [103, 111, 116], .ins ⟨17, 5, 8, 0, ((base + 3 : Nat) : Int)⟩ [], .ins ⟨1, 7, 0, 0, 0⟩ [], .lab [101, 110, 100]]
theorem fillBiasOwn (base t : Nat) : (srcBiasOwn).map (fillB base t) = (linBiasOwn base t).map Ln.text := by
  unfold srcBiasOwn linBiasOwn
  simp only [List.map_cons, List.map_nil]
  exact cons2 rfl (cons2 (congrArg (fun x => 115 :: 101 :: 116 :: 32 :: 114 :: 53 :: 32 :: x) (List.append_nil (decB (t + 1)))) (cons2 rfl (cons2 rfl (cons2 (congrArg (fun x => joinB 32 [[115, 101, 116], [114, 55], x]) dec_1).symm (cons2 rfl (cons2 rfl (cons2 (congrArg (fun x => joinB 32 [[115, 101, 116], [114, 52], x]) dec_1).symm (cons2 rfl (cons2 rfl (cons2 rfl (cons2 (congrArg (fun x => joinB 32 [[115, 101, 116], [114, 52], x]) dec_0).symm (cons2 rfl (cons2 rfl (cons2 (congrArg (fun x => joinB 32 [[115, 101, 116], [114, 52], x]) dec_0).symm (cons2 rfl (cons2 rfl (cons2 rfl (cons2 rfl (cons2 (congrArg (fun x => joinB 32 [[115, 101, 116], [114, 55], x]) dec_0).symm (cons2 rfl (rfl)))))))))))))))))))))
theorem okBiasOwn {base t : Nat} (hb : base ≤ 1000000) (ht : t ≤ 1000000) : OkL (linBiasOwn base t) := by
  refine ⟨?_, rfl, ?_, Nat.le_of_ble_eq_true rfl⟩
  · unfold linBiasOwn
    simp only [List.mem_cons, List.not_mem_nil, or_false, forall_eq_or_imp, forall_eq]
    exact ⟨(fit_k (by decide) rfl (by omega)), (fit_k (by decide) rfl (by omega)), (fit_0 (by decide)), (fit_0 (by decide)), (fit_k (by decide) rfl (by omega)), (fit_0 (by decide)), show nameOk _ = true from rfl, (fit_k (by decide) rfl (by omega)), (fit_k (by decide) rfl (by omega)), (fit_k (by decide) rfl (by omega)), (fit_0 (by decide)), (fit_k (by decide) rfl (by omega)), (fit_k (by decide) rfl (by omega)), show nameOk _ = true from rfl, (fit_k (by decide) rfl (by omega)), (fit_k (by decide) rfl (by omega)), (fit_0 (by decide)), show nameOk _ = true from rfl, (fit_k (by decide) rfl (by omega)), (fit_k (by decide) rfl (by omega)), show nameOk _ = true from rfl⟩
  · unfold linBiasOwn
    simp only [List.mem_cons, List.not_mem_nil, or_false, forall_eq_or_imp, forall_eq]
    exact ⟨rfl, rfl, rfl, rfl, rfl, rfl, rfl, rfl, rfl, rfl, rfl, rfl, rfl, rfl, rfl, rfl, rfl, rfl, rfl, rfl, rfl⟩
theorem parseBiasOwn {base t : Nat} (hb : base ≤ 1000000) (ht : t ≤ 1000000) : parseB (fillB base t (unl srcBiasOwn)) = (resL (linBiasOwn base t), 0, 0) := by
  rw [fillB_unl _ _ _ (by decide), fillBiasOwn, ← textL_unl]
  exact parse_text (okBiasOwn hb ht)
theorem outBiasOwn {base t : Nat} (hb : base ≤ 1000000) (ht : t ≤ 1000000) : (BS.zero.run (linBiasOwn base t)).out = some (resL (linBiasOwn base t)) := out_run (okBiasOwn hb ht)

/-! ### BiasOther -/
def srcBiasOther : List B8 := [[108, 111, 97, 100, 32, 114, 52, 32, 91, 100, 93], [115, 101, 116, 32, 114, 53, 32, 36], [115, 97, 109, 101, 32, 114, 54, 32, 114, 52, 32, 114, 53], [122, 101, 114, 111, 32, 114, 54, 32, 64, 102, 114, 101, 101], [115, 101, 116, 32, 114, 55, 32, 49], [106, 117, 109, 112, 32, 64, 101, 110, 100], [102, 114, 101, 101, 58], [115, 112, 105, 110, 58], [115, 101, 116, 32, 114, 52, 32, 48], [99, 97, 115, 32, 114, 52, 32, 114, 53, 32, 91, 99, 93], [115, 111, 109, 101, 32, 114, 52, 32, 64, 115, 112, 105, 110], [108, 111, 97, 100, 32, 114, 52, 32, 91, 98, 93], [115, 111, 109, 101, 32, 114, 52, 32, 64, 103, 111, 116], [115, 101, 116, 32, 114, 52, 32, 49], [115, 116, 111, 114, 101, 32, 114, 52, 32, 91, 98, 93], [114, 101, 109, 111, 116, 101], [119, 97, 105, 116, 58], [108, 111, 97, 100, 32, 114, 52, 32, 91, 97, 93], [115, 111, 109, 101, 32, 114, 52, 32, 64, 119, 97, 105, 116], [103, 111, 116, 58], [115, 116, 111, 114, 101, 32, 114, 53, 32, 91, 100, 93], [115, 101, 116, 32, 114, 55, 32, 48], [101, 110, 100, 58]]
def linBiasOther (base t : Nat) : List Ln := [.ins ⟨16, 4, 8, 0, ((base + 3 : Nat) : Int)⟩ [], .ins ⟨1, 5, 0, 0, ((t + 1 : Nat) : Int)⟩ [], .ins ⟨12, 6, 4, 5, 0⟩ [], .ins ⟨14, 6, 0, 0, 0⟩ [102, 114, 101, 101], .ins ⟨1, 7, 0, 0, 1⟩ [], .ins ⟨13, 0, 0, 0, 0⟩ [101, 110, 100], .lab [102, 114, 101, 101], .lab [115, 112, 105, 110], .ins ⟨1, 4, 0, 0, 0⟩ [], .ins ⟨21, 4, 8, 5, ((base + 2 : Nat) : Int)⟩ [], .ins ⟨15, 4, 0, 0, 0⟩ [115, 112, 105, 110], .ins ⟨16, 4, 8, 0, ((base + 1 : Nat) : Int)⟩ [], .ins ⟨15, 4, 0, 0, 0⟩ [103, 111, 116], .ins ⟨1, 4, 0, 0, 1⟩ [], .ins ⟨17, 4, 8, 0, ((base + 1 : Nat) : Int)⟩ [], .ins ⟨25, 0, 0, 0, 0⟩ [], .lab [119, 97, 105, 116], .ins ⟨16, 4, 8, 0, ((base + 0 : Nat) : Int)⟩ [], .ins ⟨15, 4, 0, 0, 0⟩ [119, 97, 105, 116], .lab [103, 111, 116], .ins ⟨17, 5, 8, 0, ((base + 3 : Nat) : Int)⟩ [], .ins ⟨1, 7, 0, 0, 0⟩ [], .lab [101, 110, 100]]
theorem fillBiasOther (base t : Nat) : (srcBiasOther).map (fillB base t) = (linBiasOther base t).map Ln.text := by
  unfold srcBiasOther linBiasOther
  simp only [List.map_cons, List.map_nil]
  exact cons2 rfl (cons2 (congrArg (fun x => 115 :: 101 :: 116 :: 32 :: 114 :: 53 :: 32 :: x) (List.append_nil (decB (t + 1)))) (cons2 rfl (cons2 rfl (cons2 (congrArg (fun x => joinB 32 [[115, 101, 116], [114, 55], x]) dec_1).symm (cons2 rfl (cons2 rfl (cons2 rfl (cons2 (congrArg (fun x => joinB 32 [[115, 101, 116], [114, 52], x]) dec_0).symm (cons2 rfl (cons2 rfl (cons2 rfl (cons2 rfl (cons2 (congrArg (fun x => joinB 32 [[115, 101, 116], [114, 52], x]) dec_1).symm (cons2 rfl (cons2 rfl (cons2 rfl (cons2 rfl (cons2 rfl (cons2 rfl (cons2 rfl (cons2 (congrArg (fun x => joinB 32 [[115, 101, 116], [114, 55], x]) dec_0).symm (cons2 rfl (rfl)))))))))))))))))))))))
theorem okBiasOther {base t : Nat} (hb : base ≤ 1000000) (ht : t ≤ 1000000) : OkL (linBiasOther base t) := by
  refine ⟨?_, rfl, ?_, Nat.le_of_ble_eq_true rfl⟩
  · unfold linBiasOther
    simp only [List.mem_cons, List.not_mem_nil, or_false, forall_eq_or_imp, forall_eq]
    exact ⟨(fit_k (by decide) rfl (by omega)), (fit_k (by decide) rfl (by omega)), (fit_0 (by decide)), (fit_0 (by decide)), (fit_k (by decide) rfl (by omega)), (fit_0 (by decide)), show nameOk _ = true from rfl, show nameOk _ = true from rfl, (fit_k (by decide) rfl (by omega)), (fit_k (by decide) rfl (by omega)), (fit_0 (by decide)), (fit_k (by decide) rfl (by omega)), (fit_0 (by decide)), (fit_k (by decide) rfl (by omega)), (fit_k (by decide) rfl (by omega)), (fit_0 (by decide)), show nameOk _ = true from rfl, (fit_k (by decide) rfl (by omega)), (fit_0 (by decide)), show nameOk _ = true from rfl, (fit_k (by decide) rfl (by omega)), (fit_k (by decide) rfl (by omega)), show nameOk _ = true from rfl⟩
  · unfold linBiasOther
    simp only [List.mem_cons, List.not_mem_nil, or_false, forall_eq_or_imp, forall_eq]
    exact ⟨rfl, rfl, rfl, rfl, rfl, rfl, rfl, rfl, rfl, rfl, rfl, rfl, rfl, rfl, rfl, rfl, rfl, rfl, rfl, rfl, rfl, rfl, rfl⟩
theorem parseBiasOther {base t : Nat} (hb : base ≤ 1000000) (ht : t ≤ 1000000) : parseB (fillB base t (unl srcBiasOther)) = (resL (linBiasOther base t), 0, 0) := by
  rw [fillB_unl _ _ _ (by decide), fillBiasOther, ← textL_unl]
  exact parse_text (okBiasOther hb ht)
theorem outBiasOther {base t : Nat} (hb : base ≤ 1000000) (ht : t ≤ 1000000) : (BS.zero.run (linBiasOther base t)).out = some (resL (linBiasOther base t)) := out_run (okBiasOther hb ht)

/-! ### BiasLeave -/
def srcBiasLeave : List B8 := [[108, 111, 97, 100, 32, 114, 52, 32, 91, 100, 93], [115, 101, 116, 32, 114, 53, 32, 36], [115, 97, 109, 101, 32, 114, 54, 32, 114, 52, 32, 114, 53], [115, 111, 109, 101, 32, 114, 54, 32, 64, 109, 105, 110, 101], [115, 101, 116, 32, 114, 55, 32, 50], [106, 117, 109, 112, 32, 64, 101, 110, 100], [109, 105, 110, 101, 58], [115, 101, 116, 32, 114, 52, 32, 48], [115, 116, 111, 114, 101, 32, 114, 52, 32, 91, 100, 93], [108, 111, 97, 100, 32, 114, 52, 32, 91, 99, 93], [115, 97, 109, 101, 32, 114, 54, 32, 114, 52, 32, 114, 53], [115, 111, 109, 101, 32, 114, 54, 32, 64, 115, 108, 111, 119], [115, 101, 116, 32, 114, 52, 32, 48], [115, 116, 111, 114, 101, 32, 114, 52, 32, 91, 97, 93], [106, 117, 109, 112, 32, 64, 100, 111, 110, 101], [115, 108, 111, 119, 58], [115, 101, 116, 32, 114, 52, 32, 48], [115, 116, 111, 114, 101, 32, 114, 52, 32, 91, 99, 93], [100, 111, 110, 101, 58], [115, 101, 116, 32, 114, 55, 32, 48], [101, 110, 100, 58]]
def linBiasLeave (base t : Nat) : List Ln := [.ins ⟨16, 4, 8, 0, ((base + 3 : Nat) : Int)⟩ [], .ins ⟨1, 5, 0, 0, ((t + 1 : Nat) : Int)⟩ [], .ins ⟨12, 6, 4, 5, 0⟩ [], .ins ⟨15, 6, 0, 0, 0⟩ [109, 105, 110, 101], .ins ⟨1, 7, 0, 0, 2⟩ [], .ins ⟨13, 0, 0, 0, 0⟩ [101, 110, 100], .lab [109, 105, 110, 101], .ins ⟨1, 4, 0, 0, 0⟩ [], .ins ⟨17, 4, 8, 0, ((base + 3 : Nat) : Int)⟩ [], .ins ⟨16, 4, 8, 0, ((base + 2 : Nat) : Int)⟩ [], .ins ⟨12, 6, 4, 5, 0⟩ [], .ins ⟨15, 6, 0, 0, 0⟩ [115, 108, 111, 119], .ins ⟨1, 4, 0, 0, 0⟩ [], .ins ⟨17, 4, 8, 0, ((base + 0 : Nat) : Int)⟩ [], .ins ⟨13, 0, 0, 0, 0⟩ [100, 111, 110, 101], .lab [115, 108, 111, 119], .ins ⟨1, 4, 0, 0, 0⟩ [], .ins ⟨17, 4, 8, 0, ((base + 2 : Nat) : Int)⟩ [], .lab [100, 111, 110, 101], .ins ⟨1, 7, 0, 0, 0⟩ [], .lab [101, 110, 100]]
theorem fillBiasLeave (base t : Nat) : (srcBiasLeave).map (fillB base t) = (linBiasLeave base t).map Ln.text := by
  unfold srcBiasLeave linBiasLeave
  simp only [List.map_cons, List.map_nil]
  exact cons2 rfl (cons2 (congrArg (fun x => 115 :: 101 :: 116 :: 32 :: 114 :: 53 :: 32 :: x) (List.append_nil (decB (t + 1)))) (cons2 rfl (cons2 rfl (cons2 (congrArg (fun x => joinB 32 [[115, 101, 116], [114, 55], x]) dec_2).symm (cons2 rfl (cons2 rfl (cons2 (congrArg (fun x => joinB 32 [[115, 101, 116], [114, 52], x]) dec_0).symm (cons2 rfl (cons2 rfl (cons2 rfl (cons2 rfl (cons2 (congrArg (fun x => joinB 32 [[115, 101, 116], [114, 52], x]) dec_0).symm (cons2 rfl (cons2 rfl (cons2 rfl (cons2 (congrArg (fun x => joinB 32 [[115, 101, 116], [114, 52], x]) dec_0).symm (cons2 rfl (cons2 rfl (cons2 (congrArg (fun x => joinB 32 [[115, 101, 116], [114, 55], x]) dec_0).symm (cons2 rfl (rfl)))))))))))))))))))))
theorem okBiasLeave {base t : Nat} (hb : base ≤ 1000000) (ht : t ≤ 1000000) : OkL (linBiasLeave base t) := by
  refine ⟨?_, rfl, ?_, Nat.le_of_ble_eq_true rfl⟩
  · unfold linBiasLeave
    simp only [List.mem_cons, List.not_mem_nil, or_false, forall_eq_or_imp, forall_eq]
    exact ⟨(fit_k (by decide) rfl (by omega)), (fit_k (by decide) rfl (by omega)), (fit_0 (by decide)), (fit_0 (by decide)), (fit_k (by decide) rfl (by omega)), (fit_0 (by decide)), show nameOk _ = true from rfl, (fit_k (by decide) rfl (by omega)), (fit_k (by decide) rfl (by omega)), (fit_k (by decide) rfl (by omega)), (fit_0 (by decide)), (fit_0 (by decide)), (fit_k (by decide) rfl (by omega)), (fit_k (by decide) rfl (by omega)), (fit_0 (by decide)), show nameOk _ = true from rfl, (fit_k (by decide) rfl (by omega)), (fit_k (by decide) rfl (by omega)), show nameOk _ = true from rfl, (fit_k (by decide) rfl (by omega)), show nameOk _ = true from rfl⟩
  · unfold linBiasLeave
    simp only [List.mem_cons, List.not_mem_nil, or_false, forall_eq_or_imp, forall_eq]
    exact ⟨rfl, rfl, rfl, rfl, rfl, rfl, rfl, rfl, rfl, rfl, rfl, rfl, rfl, rfl, rfl, rfl, rfl, rfl, rfl, rfl, rfl⟩
theorem parseBiasLeave {base t : Nat} (hb : base ≤ 1000000) (ht : t ≤ 1000000) : parseB (fillB base t (unl srcBiasLeave)) = (resL (linBiasLeave base t), 0, 0) := by
  rw [fillB_unl _ _ _ (by decide), fillBiasLeave, ← textL_unl]
  exact parse_text (okBiasLeave hb ht)
theorem outBiasLeave {base t : Nat} (hb : base ≤ 1000000) (ht : t ≤ 1000000) : (BS.zero.run (linBiasLeave base t)).out = some (resL (linBiasLeave base t)) := out_run (okBiasLeave hb ht)

/-! ### BiasOut -/
def srcBiasOut : List B8 := [[108, 111, 97, 100, 32, 114, 52, 32, 91, 100, 93], [115, 101, 116, 32, 114, 53, 32, 36], [115, 97, 109, 101, 32, 114, 54, 32, 114, 52, 32, 114, 53], [115, 111, 109, 101, 32, 114, 54, 32, 64, 109, 105, 110, 101], [115, 101, 116, 32, 114, 55, 32, 50], [106, 117, 109, 112, 32, 64, 101, 110, 100], [109, 105, 110, 101, 58], [115, 101, 116, 32, 114, 52, 32, 48], [115, 116, 111, 114, 101, 32, 114, 52, 32, 91, 100, 93], [115, 101, 116, 32, 114, 52, 32, 48], [115, 116, 111, 114, 101, 32, 114, 52, 32, 91, 99, 93], [115, 101, 116, 32, 114, 55, 32, 48], [101, 110, 100, 58]]
def linBiasOut (base t : Nat) : List Ln := [.ins ⟨16, 4, 8, 0, ((base + 3 : Nat) : Int)⟩ [], .ins ⟨1, 5, 0, 0, ((t + 1 : Nat) : Int)⟩ [], .ins ⟨12, 6, 4, 5, 0⟩ [], .ins ⟨15, 6, 0, 0, 0⟩ [109, 105, 110, 101], .ins ⟨1, 7, 0, 0, 2⟩ [], .ins ⟨13, 0, 0, 0, 0⟩ [101, 110, 100], .lab [109, 105, 110, 101], .ins ⟨1, 4, 0, 0, 0⟩ [], .ins ⟨17, 4, 8, 0, ((base + 3 : Nat) : Int)⟩ [], .ins ⟨1, 4, 0, 0, 0⟩ [], .ins ⟨17, 4, 8, 0, ((base + 2 : Nat) : Int)⟩ [], .ins ⟨1, 7, 0, 0, 0⟩ [], .lab [101, 110, 100]]
theorem fillBiasOut (base t : Nat) : (srcBiasOut).map (fillB base t) = (linBiasOut base t).map Ln.text := by
  unfold srcBiasOut linBiasOut
  simp only [List.map_cons, List.map_nil]
  exact cons2 rfl (cons2 (congrArg (fun x => 115 :: 101 :: 116 :: 32 :: 114 :: 53 :: 32 :: x) (List.append_nil (decB (t + 1)))) (cons2 rfl (cons2 rfl (cons2 (congrArg (fun x => joinB 32 [[115, 101, 116], [114, 55], x]) dec_2).symm (cons2 rfl (cons2 rfl (cons2 (congrArg (fun x => joinB 32 [[115, 101, 116], [114, 52], x]) dec_0).symm (cons2 rfl (cons2 (congrArg (fun x => joinB 32 [[115, 101, 116], [114, 52], x]) dec_0).symm (cons2 rfl (cons2 (congrArg (fun x => joinB 32 [[115, 101, 116], [114, 55], x]) dec_0).symm (cons2 rfl (rfl)))))))))))))
theorem okBiasOut {base t : Nat} (hb : base ≤ 1000000) (ht : t ≤ 1000000) : OkL (linBiasOut base t) := by
  refine ⟨?_, rfl, ?_, Nat.le_of_ble_eq_true rfl⟩
  · unfold linBiasOut
    simp only [List.mem_cons, List.not_mem_nil, or_false, forall_eq_or_imp, forall_eq]
    exact ⟨(fit_k (by decide) rfl (by omega)), (fit_k (by decide) rfl (by omega)), (fit_0 (by decide)), (fit_0 (by decide)), (fit_k (by decide) rfl (by omega)), (fit_0 (by decide)), show nameOk _ = true from rfl, (fit_k (by decide) rfl (by omega)), (fit_k (by decide) rfl (by omega)), (fit_k (by decide) rfl (by omega)), (fit_k (by decide) rfl (by omega)), (fit_k (by decide) rfl (by omega)), show nameOk _ = true from rfl⟩
  · unfold linBiasOut
    simp only [List.mem_cons, List.not_mem_nil, or_false, forall_eq_or_imp, forall_eq]
    exact ⟨rfl, rfl, rfl, rfl, rfl, rfl, rfl, rfl, rfl, rfl, rfl, rfl, rfl⟩
theorem parseBiasOut {base t : Nat} (hb : base ≤ 1000000) (ht : t ≤ 1000000) : parseB (fillB base t (unl srcBiasOut)) = (resL (linBiasOut base t), 0, 0) := by
  rw [fillB_unl _ _ _ (by decide), fillBiasOut, ← textL_unl]
  exact parse_text (okBiasOut hb ht)
theorem outBiasOut {base t : Nat} (hb : base ≤ 1000000) (ht : t ≤ 1000000) : (BS.zero.run (linBiasOut base t)).out = some (resL (linBiasOut base t)) := out_run (okBiasOut hb ht)

end Go.Proofs.YtipepbfpfmadaaaGreatDoor.As
