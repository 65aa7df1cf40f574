/- Plain Lean: the document's lines of the locks of layer 15, and the code that they make. No program in sight. -/
import Derived.Test.YtackbadmcgjncaaDoorFill2
set_option linter.unusedVariables false
set_option maxRecDepth 4000
namespace Go.Proofs.YtackbadmcgjncaaDoor.As

/-! ### Tas -/
def srcTas : List B8 := [[108, 111, 97, 100, 32, 114, 52, 32, 91, 97, 93], [115, 101, 116, 32, 114, 53, 32, 36], [115, 97, 109, 101, 32, 114, 54, 32, 114, 52, 32, 114, 53], [122, 101, 114, 111, 32, 114, 54, 32, 64, 102, 114, 101, 101], [115, 101, 116, 32, 114, 55, 32, 49], [106, 117, 109, 112, 32, 64, 101, 110, 100], [102, 114, 101, 101, 58], [115, 112, 105, 110, 58], [115, 101, 116, 32, 114, 52, 32, 48], [99, 97, 115, 32, 114, 52, 32, 114, 53, 32, 91, 97, 93], [115, 111, 109, 101, 32, 114, 52, 32, 64, 115, 112, 105, 110], [115, 101, 116, 32, 114, 55, 32, 48], [101, 110, 100, 58]]
def linTas (base t : Nat) : List Ln := [.ins ⟨16, 4, 8, 0, ((base + 0 : Nat) : Int)⟩ [], .ins ⟨1, 5, 0, 0, ((t + 1 : Nat) : Int)⟩ [], .ins ⟨12, 6, 4, 5, 0⟩ [], .ins ⟨14, 6, 0, 0, 0⟩ [102, 114, 101, 101], .ins ⟨1, 7, 0, 0, 1⟩ [], .ins ⟨13, 0, 0, 0, 0⟩ [101, 110, 100], .lab [102, 114, 101, 101], .lab [115, 112, 105, 110], .ins ⟨1, 4, 0, 0, 0⟩ [], .ins ⟨21, 4, 8, 5, ((base + 0 : Nat) : Int)⟩ [], .ins ⟨15, 4, 0, 0, 0⟩ [115, 112, 105, 110], .ins ⟨1, 7, 0, 0, 0⟩ [], .lab [101, 110, 100]]
theorem fillTas (base t : Nat) : (srcTas).map (fillB base t) = (linTas base t).map Ln.text := by
  unfold srcTas linTas
  simp only [List.map_cons, List.map_nil]
  exact cons2 rfl (cons2 (congrArg (fun x => 115 :: 101 :: 116 :: 32 :: 114 :: 53 :: 32 :: x) (List.append_nil (decB (t + 1)))) (cons2 rfl (cons2 rfl (cons2 (congrArg (fun x => joinB 32 [[115, 101, 116], [114, 55], x]) dec_1).symm (cons2 rfl (cons2 rfl (cons2 rfl (cons2 (congrArg (fun x => joinB 32 [[115, 101, 116], [114, 52], x]) dec_0).symm (cons2 rfl (cons2 rfl (cons2 (congrArg (fun x => joinB 32 [[115, 101, 116], [114, 55], x]) dec_0).symm (cons2 rfl (rfl)))))))))))))
theorem okTas {base t : Nat} (hb : base ≤ 1000000) (ht : t ≤ 1000000) : OkL (linTas base t) := by
  refine ⟨?_, rfl, ?_, Nat.le_of_ble_eq_true rfl⟩
  · unfold linTas
    simp only [List.mem_cons, List.not_mem_nil, or_false, forall_eq_or_imp, forall_eq]
    exact ⟨(fit_k (by decide) rfl (by omega)), (fit_k (by decide) rfl (by omega)), (fit_0 (by decide)), (fit_0 (by decide)), (fit_k (by decide) rfl (by omega)), (fit_0 (by decide)), show nameOk _ = true from rfl, show nameOk _ = true from rfl, (fit_k (by decide) rfl (by omega)), (fit_k (by decide) rfl (by omega)), (fit_0 (by decide)), (fit_k (by decide) rfl (by omega)), show nameOk _ = true from rfl⟩
  · unfold linTas
    simp only [List.mem_cons, List.not_mem_nil, or_false, forall_eq_or_imp, forall_eq]
    exact ⟨rfl, rfl, rfl, rfl, rfl, rfl, rfl, rfl, rfl, rfl, rfl, rfl, rfl⟩
theorem parseTas {base t : Nat} (hb : base ≤ 1000000) (ht : t ≤ 1000000) : parseB (fillB base t (unl srcTas)) = (resL (linTas base t), 0, 0) := by
  rw [fillB_unl _ _ _ (by decide), fillTas, ← textL_unl]
  exact parse_text (okTas hb ht)
theorem outTas {base t : Nat} (hb : base ≤ 1000000) (ht : t ≤ 1000000) : (BS.zero.run (linTas base t)).out = some (resL (linTas base t)) := out_run (okTas hb ht)

/-! ### Ttas -/
def srcTtas : List B8 := [[108, 111, 97, 100, 32, 114, 52, 32, 91, 97, 93], [115, 101, 116, 32, 114, 53, 32, 36], [115, 97, 109, 101, 32, 114, 54, 32, 114, 52, 32, 114, 53], [122, 101, 114, 111, 32, 114, 54, 32, 64, 102, 114, 101, 101], [115, 101, 116, 32, 114, 55, 32, 49], [106, 117, 109, 112, 32, 64, 101, 110, 100], [102, 114, 101, 101, 58], [115, 112, 105, 110, 58], [108, 111, 97, 100, 32, 114, 52, 32, 91, 97, 93], [115, 111, 109, 101, 32, 114, 52, 32, 64, 115, 112, 105, 110], [99, 97, 115, 32, 114, 52, 32, 114, 53, 32, 91, 97, 93], [115, 111, 109, 101, 32, 114, 52, 32, 64, 115, 112, 105, 110], [115, 101, 116, 32, 114, 55, 32, 48], [101, 110, 100, 58]]
def linTtas (base t : Nat) : List Ln := [.ins ⟨16, 4, 8, 0, ((base + 0 : Nat) : Int)⟩ [], .ins ⟨1, 5, 0, 0, ((t + 1 : Nat) : Int)⟩ [], .ins ⟨12, 6, 4, 5, 0⟩ [], .ins ⟨14, 6, 0, 0, 0⟩ [102, 114, 101, 101], .ins ⟨1, 7, 0, 0, 1⟩ [], .ins ⟨13, 0, 0, 0, 0⟩ [101, 110, 100], .lab [102, 114, 101, 101], .lab [115, 112, 105, 110], .ins ⟨16, 4, 8, 0, ((base + 0 : Nat) : Int)⟩ [], .ins ⟨15, 4, 0, 0, 0⟩ [115, 112, 105, 110], .ins ⟨21, 4, 8, 5, ((base + 0 : Nat) : Int)⟩ [], .ins ⟨15, 4, 0, 0, 0⟩ [115, 112, 105, 110], .ins ⟨1, 7, 0, 0, 0⟩ [], .lab [101, 110, 100]]
theorem fillTtas (base t : Nat) : (srcTtas).map (fillB base t) = (linTtas base t).map Ln.text := by
  unfold srcTtas linTtas
  simp only [List.map_cons, List.map_nil]
  exact cons2 rfl (cons2 (congrArg (fun x => 115 :: 101 :: 116 :: 32 :: 114 :: 53 :: 32 :: x) (List.append_nil (decB (t + 1)))) (cons2 rfl (cons2 rfl (cons2 (congrArg (fun x => joinB 32 [[115, 101, 116], [114, 55], x]) dec_1).symm (cons2 rfl (cons2 rfl (cons2 rfl (cons2 rfl (cons2 rfl (cons2 rfl (cons2 rfl (cons2 (congrArg (fun x => joinB 32 [[115, 101, 116], [114, 55], x]) dec_0).symm (cons2 rfl (rfl))))))))))))))
theorem okTtas {base t : Nat} (hb : base ≤ 1000000) (ht : t ≤ 1000000) : OkL (linTtas base t) := by
  refine ⟨?_, rfl, ?_, Nat.le_of_ble_eq_true rfl⟩
  · unfold linTtas
    simp only [List.mem_cons, List.not_mem_nil, or_false, forall_eq_or_imp, forall_eq]
    exact ⟨(fit_k (by decide) rfl (by omega)), (fit_k (by decide) rfl (by omega)), (fit_0 (by decide)), (fit_0 (by decide)), (fit_k (by decide) rfl (by omega)), (fit_0 (by decide)), show nameOk _ = true from rfl, show nameOk _ = true from rfl, (fit_k (by decide) rfl (by omega)), (fit_0 (by decide)), (fit_k (by decide) rfl (by omega)), (fit_0 (by decide)), (fit_k (by decide) rfl (by omega)), show nameOk _ = true from rfl⟩
  · unfold linTtas
    simp only [List.mem_cons, List.not_mem_nil, or_false, forall_eq_or_imp, forall_eq]
    exact ⟨rfl, rfl, rfl, rfl, rfl, rfl, rfl, rfl, rfl, rfl, rfl, rfl, rfl, rfl⟩
theorem parseTtas {base t : Nat} (hb : base ≤ 1000000) (ht : t ≤ 1000000) : parseB (fillB base t (unl srcTtas)) = (resL (linTtas base t), 0, 0) := by
  rw [fillB_unl _ _ _ (by decide), fillTtas, ← textL_unl]
  exact parse_text (okTtas hb ht)
theorem outTtas {base t : Nat} (hb : base ≤ 1000000) (ht : t ≤ 1000000) : (BS.zero.run (linTtas base t)).out = some (resL (linTtas base t)) := out_run (okTtas hb ht)

/-! ### Tick -/
def srcTick : List B8 := [[108, 111, 97, 100, 32, 114, 52, 32, 91, 99, 93], [115, 101, 116, 32, 114, 53, 32, 36], [115, 97, 109, 101, 32, 114, 54, 32, 114, 52, 32, 114, 53], [122, 101, 114, 111, 32, 114, 54, 32, 64, 102, 114, 101, 101], [115, 101, 116, 32, 114, 55, 32, 49], [106, 117, 109, 112, 32, 64, 101, 110, 100], [102, 114, 101, 101, 58], [115, 101, 116, 32, 114, 52, 32, 49], [102, 101, 116, 99, 104, 32, 114, 52, 32, 91, 97, 93], [115, 112, 105, 110, 58], [108, 111, 97, 100, 32, 114, 54, 32, 91, 98, 93], [115, 97, 109, 101, 32, 114, 54, 32, 114, 54, 32, 114, 52], [122, 101, 114, 111, 32, 114, 54, 32, 64, 115, 112, 105, 110], [115, 116, 111, 114, 101, 32, 114, 53, 32, 91, 99, 93], [115, 101, 116, 32, 114, 55, 32, 48], [101, 110, 100, 58]]
def linTick (base t : Nat) : List Ln := [.ins ⟨16, 4, 8, 0, ((base + 2 : Nat) : Int)⟩ [], .ins ⟨1, 5, 0, 0, ((t + 1 : Nat) : Int)⟩ [], .ins ⟨12, 6, 4, 5, 0⟩ [], .ins ⟨14, 6, 0, 0, 0⟩ [102, 114, 101, 101], .ins ⟨1, 7, 0, 0, 1⟩ [], .ins ⟨13, 0, 0, 0, 0⟩ [101, 110, 100], .lab [102, 114, 101, 101], .ins ⟨1, 4, 0, 0, 1⟩ [], .ins ⟨20, 4, 8, 0, ((base + 0 : Nat) : Int)⟩ [], .lab [115, 112, 105, 110], .ins ⟨16, 6, 8, 0, ((base + 1 : Nat) : Int)⟩ [], .ins ⟨12, 6, 6, 4, 0⟩ [], .ins ⟨14, 6, 0, 0, 0⟩ [115, 112, 105, 110], .ins ⟨17, 5, 8, 0, ((base + 2 : Nat) : Int)⟩ [], .ins ⟨1, 7, 0, 0, 0⟩ [], .lab [101, 110, 100]]
theorem fillTick (base t : Nat) : (srcTick).map (fillB base t) = (linTick base t).map Ln.text := by
  unfold srcTick linTick
  simp only [List.map_cons, List.map_nil]
  exact cons2 rfl (cons2 (congrArg (fun x => 115 :: 101 :: 116 :: 32 :: 114 :: 53 :: 32 :: x) (List.append_nil (decB (t + 1)))) (cons2 rfl (cons2 rfl (cons2 (congrArg (fun x => joinB 32 [[115, 101, 116], [114, 55], x]) dec_1).symm (cons2 rfl (cons2 rfl (cons2 (congrArg (fun x => joinB 32 [[115, 101, 116], [114, 52], x]) dec_1).symm (cons2 rfl (cons2 rfl (cons2 rfl (cons2 rfl (cons2 rfl (cons2 rfl (cons2 (congrArg (fun x => joinB 32 [[115, 101, 116], [114, 55], x]) dec_0).symm (cons2 rfl (rfl))))))))))))))))
theorem okTick {base t : Nat} (hb : base ≤ 1000000) (ht : t ≤ 1000000) : OkL (linTick base t) := by
  refine ⟨?_, rfl, ?_, Nat.le_of_ble_eq_true rfl⟩
  · unfold linTick
    simp only [List.mem_cons, List.not_mem_nil, or_false, forall_eq_or_imp, forall_eq]
    exact ⟨(fit_k (by decide) rfl (by omega)), (fit_k (by decide) rfl (by omega)), (fit_0 (by decide)), (fit_0 (by decide)), (fit_k (by decide) rfl (by omega)), (fit_0 (by decide)), show nameOk _ = true from rfl, (fit_k (by decide) rfl (by omega)), (fit_k (by decide) rfl (by omega)), show nameOk _ = true from rfl, (fit_k (by decide) rfl (by omega)), (fit_0 (by decide)), (fit_0 (by decide)), (fit_k (by decide) rfl (by omega)), (fit_k (by decide) rfl (by omega)), show nameOk _ = true from rfl⟩
  · unfold linTick
    simp only [List.mem_cons, List.not_mem_nil, or_false, forall_eq_or_imp, forall_eq]
    exact ⟨rfl, rfl, rfl, rfl, rfl, rfl, rfl, rfl, rfl, rfl, rfl, rfl, rfl, rfl, rfl, rfl⟩
theorem parseTick {base t : Nat} (hb : base ≤ 1000000) (ht : t ≤ 1000000) : parseB (fillB base t (unl srcTick)) = (resL (linTick base t), 0, 0) := by
  rw [fillB_unl _ _ _ (by decide), fillTick, ← textL_unl]
  exact parse_text (okTick hb ht)
theorem outTick {base t : Nat} (hb : base ≤ 1000000) (ht : t ≤ 1000000) : (BS.zero.run (linTick base t)).out = some (resL (linTick base t)) := out_run (okTick hb ht)

/-! ### Rel -/
def srcRel : List B8 := [[108, 111, 97, 100, 32, 114, 52, 32, 91, 97, 93], [115, 101, 116, 32, 114, 53, 32, 36], [115, 97, 109, 101, 32, 114, 54, 32, 114, 52, 32, 114, 53], [115, 111, 109, 101, 32, 114, 54, 32, 64, 109, 105, 110, 101], [115, 101, 116, 32, 114, 55, 32, 50], [106, 117, 109, 112, 32, 64, 101, 110, 100], [109, 105, 110, 101, 58], [115, 101, 116, 32, 114, 52, 32, 48], [115, 116, 111, 114, 101, 32, 114, 52, 32, 91, 97, 93], [115, 101, 116, 32, 114, 55, 32, 48], [101, 110, 100, 58]]
def linRel (base t : Nat) : List Ln := [.ins ⟨16, 4, 8, 0, ((base + 0 : Nat) : Int)⟩ [], .ins ⟨1, 5, 0, 0, ((t + 1 : Nat) : Int)⟩ [], .ins ⟨12, 6, 4, 5, 0⟩ [], .ins ⟨15, 6, 0, 0, 0⟩ [109, 105, 110, 101], .ins ⟨1, 7, 0, 0, 2⟩ [], .ins ⟨13, 0, 0, 0, 0⟩ [101, 110, 100], .lab [109, 105, 110, 101], .ins ⟨1, 4, 0, 0, 0⟩ [], .ins ⟨17, 4, 8, 0, ((base + 0 : Nat) : Int)⟩ [], .ins ⟨1, 7, 0, 0, 0⟩ [], .lab [101, 110, 100]]
theorem fillRel (base t : Nat) : (srcRel).map (fillB base t) = (linRel base t).map Ln.text := by
  unfold srcRel linRel
  simp only [List.map_cons, List.map_nil]
  exact cons2 rfl (cons2 (congrArg (fun x => 115 :: 101 :: 116 :: 32 :: 114 :: 53 :: 32 :: x) (List.append_nil (decB (t + 1)))) (cons2 rfl (cons2 rfl (cons2 (congrArg (fun x => joinB 32 [[115, 101, 116], [114, 55], x]) dec_2).symm (cons2 rfl (cons2 rfl (cons2 (congrArg (fun x => joinB 32 [[115, 101, 116], [114, 52], x]) dec_0).symm (cons2 rfl (cons2 (congrArg (fun x => joinB 32 [[115, 101, 116], [114, 55], x]) dec_0).symm (cons2 rfl (rfl)))))))))))
theorem okRel {base t : Nat} (hb : base ≤ 1000000) (ht : t ≤ 1000000) : OkL (linRel base t) := by
  refine ⟨?_, rfl, ?_, Nat.le_of_ble_eq_true rfl⟩
  · unfold linRel
    simp only [List.mem_cons, List.not_mem_nil, or_false, forall_eq_or_imp, forall_eq]
    exact ⟨(fit_k (by decide) rfl (by omega)), (fit_k (by decide) rfl (by omega)), (fit_0 (by decide)), (fit_0 (by decide)), (fit_k (by decide) rfl (by omega)), (fit_0 (by decide)), show nameOk _ = true from rfl, (fit_k (by decide) rfl (by omega)), (fit_k (by decide) rfl (by omega)), (fit_k (by decide) rfl (by omega)), show nameOk _ = true from rfl⟩
  · unfold linRel
    simp only [List.mem_cons, List.not_mem_nil, or_false, forall_eq_or_imp, forall_eq]
    exact ⟨rfl, rfl, rfl, rfl, rfl, rfl, rfl, rfl, rfl, rfl, rfl⟩
theorem parseRel {base t : Nat} (hb : base ≤ 1000000) (ht : t ≤ 1000000) : parseB (fillB base t (unl srcRel)) = (resL (linRel base t), 0, 0) := by
  rw [fillB_unl _ _ _ (by decide), fillRel, ← textL_unl]
  exact parse_text (okRel hb ht)
theorem outRel {base t : Nat} (hb : base ≤ 1000000) (ht : t ≤ 1000000) : (BS.zero.run (linRel base t)).out = some (resL (linRel base t)) := out_run (okRel hb ht)

/-! ### Pass -/
def srcPass : List B8 := [[108, 111, 97, 100, 32, 114, 52, 32, 91, 99, 93], [115, 101, 116, 32, 114, 53, 32, 36], [115, 97, 109, 101, 32, 114, 54, 32, 114, 52, 32, 114, 53], [115, 111, 109, 101, 32, 114, 54, 32, 64, 109, 105, 110, 101], [115, 101, 116, 32, 114, 55, 32, 50], [106, 117, 109, 112, 32, 64, 101, 110, 100], [109, 105, 110, 101, 58], [115, 101, 116, 32, 114, 52, 32, 48], [115, 116, 111, 114, 101, 32, 114, 52, 32, 91, 99, 93], [108, 111, 97, 100, 32, 114, 52, 32, 91, 98, 93], [115, 101, 116, 32, 114, 54, 32, 49], [97, 100, 100, 32, 114, 52, 32, 114, 52, 32, 114, 54], [115, 116, 111, 114, 101, 32, 114, 52, 32, 91, 98, 93], [115, 101, 116, 32, 114, 55, 32, 48], [101, 110, 100, 58]]
def linPass (base t : Nat) : List Ln := [.ins ⟨16, 4, 8, 0, ((base + 2 : Nat) : Int)⟩ [], .ins ⟨1, 5, 0, 0, ((t + 1 : Nat) : Int)⟩ [], .ins ⟨12, 6, 4, 5, 0⟩ [], .ins ⟨15, 6, 0, 0, 0⟩ [109, 105, 110, 101], .ins ⟨1, 7, 0, 0, 2⟩ [], .ins ⟨13, 0, 0, 0, 0⟩ [101, 110, 100], .lab [109, 105, 110, 101], .ins ⟨1, 4, 0, 0, 0⟩ [], .ins ⟨17, 4, 8, 0, ((base + 2 : Nat) : Int)⟩ [], .ins ⟨16, 4, 8, 0, ((base + 1 : Nat) : Int)⟩ [], .ins ⟨1, 6, 0, 0, 1⟩ [], .ins ⟨3, 4, 4, 6, 0⟩ [], .ins ⟨17, 4, 8, 0, ((base + 1 : Nat) : Int)⟩ [], .ins ⟨1, 7, 0, 0, 0⟩ [], .lab [101, 110, 100]]
theorem fillPass (base t : Nat) : (srcPass).map (fillB base t) = (linPass base t).map Ln.text := by
  unfold srcPass linPass
  simp only [List.map_cons, List.map_nil]
  exact cons2 rfl (cons2 (congrArg (fun x => 115 :: 101 :: 116 :: 32 :: 114 :: 53 :: 32 :: x) (List.append_nil (decB (t + 1)))) (cons2 rfl (cons2 rfl (cons2 (congrArg (fun x => joinB 32 [[115, 101, 116], [114, 55], x]) dec_2).symm (cons2 rfl (cons2 rfl (cons2 (congrArg (fun x => joinB 32 [[115, 101, 116], [114, 52], x]) dec_0).symm (cons2 rfl (cons2 rfl (cons2 (congrArg (fun x => joinB 32 [[115, 101, 116], [114, 54], x]) dec_1).symm (cons2 rfl (cons2 rfl (cons2 (congrArg (fun x => joinB 32 [[115, 101, 116], [114, 55], x]) dec_0).symm (cons2 rfl (rfl)))))))))))))))
theorem okPass {base t : Nat} (hb : base ≤ 1000000) (ht : t ≤ 1000000) : OkL (linPass base t) := by
  refine ⟨?_, rfl, ?_, Nat.le_of_ble_eq_true rfl⟩
  · unfold linPass
    simp only [List.mem_cons, List.not_mem_nil, or_false, forall_eq_or_imp, forall_eq]
    exact ⟨(fit_k (by decide) rfl (by omega)), (fit_k (by decide) rfl (by omega)), (fit_0 (by decide)), (fit_0 (by decide)), (fit_k (by decide) rfl (by omega)), (fit_0 (by decide)), show nameOk _ = true from rfl, (fit_k (by decide) rfl (by omega)), (fit_k (by decide) rfl (by omega)), (fit_k (by decide) rfl (by omega)), (fit_k (by decide) rfl (by omega)), (fit_0 (by decide)), (fit_k (by decide) rfl (by omega)), (fit_k (by decide) rfl (by omega)), show nameOk _ = true from rfl⟩
  · unfold linPass
    simp only [List.mem_cons, List.not_mem_nil, or_false, forall_eq_or_imp, forall_eq]
    exact ⟨rfl, rfl, rfl, rfl, rfl, rfl, rfl, rfl, rfl, rfl, rfl, rfl, rfl, rfl, rfl⟩
theorem parsePass {base t : Nat} (hb : base ≤ 1000000) (ht : t ≤ 1000000) : parseB (fillB base t (unl srcPass)) = (resL (linPass base t), 0, 0) := by
  rw [fillB_unl _ _ _ (by decide), fillPass, ← textL_unl]
  exact parse_text (okPass hb ht)
theorem outPass {base t : Nat} (hb : base ≤ 1000000) (ht : t ≤ 1000000) : (BS.zero.run (linPass base t)).out = some (resL (linPass base t)) := out_run (okPass hb ht)

/-! ### ClaimZ -/
def srcClaimZ : List B8 := [[108, 111, 97, 100, 32, 114, 52, 32, 91, 97, 93], [115, 101, 116, 32, 114, 53, 32, 36], [115, 97, 109, 101, 32, 114, 54, 32, 114, 52, 32, 114, 53], [122, 101, 114, 111, 32, 114, 54, 32, 64, 102, 114, 101, 101], [115, 101, 116, 32, 114, 55, 32, 49], [106, 117, 109, 112, 32, 64, 101, 110, 100], [102, 114, 101, 101, 58], [115, 101, 116, 32, 114, 52, 32, 48], [115, 116, 111, 114, 101, 32, 114, 52, 32, 91, 97, 93], [115, 101, 116, 32, 114, 55, 32, 48], [101, 110, 100, 58]]
def linClaimZ (base t : Nat) : List Ln := [.ins ⟨16, 4, 8, 0, ((base + 0 : Nat) : Int)⟩ [], .ins ⟨1, 5, 0, 0, ((t + 1 : Nat) : Int)⟩ [], .ins ⟨12, 6, 4, 5, 0⟩ [], .ins ⟨14, 6, 0, 0, 0⟩ [102, 114, 101, 101], .ins ⟨1, 7, 0, 0, 1⟩ [], .ins ⟨13, 0, 0, 0, 0⟩ [101, 110, 100], .lab [102, 114, 101, 101], .ins ⟨1, 4, 0, 0, 0⟩ [], .ins ⟨17, 4, 8, 0, ((base + 0 : Nat) : Int)⟩ [], .ins ⟨1, 7, 0, 0, 0⟩ [], .lab [101, 110, 100]]
theorem fillClaimZ (base t : Nat) : (srcClaimZ).map (fillB base t) = (linClaimZ base t).map Ln.text := by
  unfold srcClaimZ linClaimZ
  simp only [List.map_cons, List.map_nil]
  exact cons2 rfl (cons2 (congrArg (fun x => 115 :: 101 :: 116 :: 32 :: 114 :: 53 :: 32 :: x) (List.append_nil (decB (t + 1)))) (cons2 rfl (cons2 rfl (cons2 (congrArg (fun x => joinB 32 [[115, 101, 116], [114, 55], x]) dec_1).symm (cons2 rfl (cons2 rfl (cons2 (congrArg (fun x => joinB 32 [[115, 101, 116], [114, 52], x]) dec_0).symm (cons2 rfl (cons2 (congrArg (fun x => joinB 32 [[115, 101, 116], [114, 55], x]) dec_0).symm (cons2 rfl (rfl)))))))))))
theorem okClaimZ {base t : Nat} (hb : base ≤ 1000000) (ht : t ≤ 1000000) : OkL (linClaimZ base t) := by
  refine ⟨?_, rfl, ?_, Nat.le_of_ble_eq_true rfl⟩
  · unfold linClaimZ
    simp only [List.mem_cons, List.not_mem_nil, or_false, forall_eq_or_imp, forall_eq]
    exact ⟨(fit_k (by decide) rfl (by omega)), (fit_k (by decide) rfl (by omega)), (fit_0 (by decide)), (fit_0 (by decide)), (fit_k (by decide) rfl (by omega)), (fit_0 (by decide)), show nameOk _ = true from rfl, (fit_k (by decide) rfl (by omega)), (fit_k (by decide) rfl (by omega)), (fit_k (by decide) rfl (by omega)), show nameOk _ = true from rfl⟩
  · unfold linClaimZ
    simp only [List.mem_cons, List.not_mem_nil, or_false, forall_eq_or_imp, forall_eq]
    exact ⟨rfl, rfl, rfl, rfl, rfl, rfl, rfl, rfl, rfl, rfl, rfl⟩
theorem parseClaimZ {base t : Nat} (hb : base ≤ 1000000) (ht : t ≤ 1000000) : parseB (fillB base t (unl srcClaimZ)) = (resL (linClaimZ base t), 0, 0) := by
  rw [fillB_unl _ _ _ (by decide), fillClaimZ, ← textL_unl]
  exact parse_text (okClaimZ hb ht)
theorem outClaimZ {base t : Nat} (hb : base ≤ 1000000) (ht : t ≤ 1000000) : (BS.zero.run (linClaimZ base t)).out = some (resL (linClaimZ base t)) := out_run (okClaimZ hb ht)

/-! ### ProveE -/
def srcProveE : List B8 := [[108, 111, 97, 100, 32, 114, 52, 32, 91, 97, 93], [115, 101, 116, 32, 114, 53, 32, 36], [115, 97, 109, 101, 32, 114, 54, 32, 114, 52, 32, 114, 53], [115, 111, 109, 101, 32, 114, 54, 32, 64, 109, 105, 110, 101], [115, 101, 116, 32, 114, 55, 32, 50], [106, 117, 109, 112, 32, 64, 101, 110, 100], [109, 105, 110, 101, 58], [115, 101, 116, 32, 114, 55, 32, 48], [101, 110, 100, 58]]
def linProveE (base t : Nat) : List Ln := [.ins ⟨16, 4, 8, 0, ((base + 0 : Nat) : Int)⟩ [], .ins ⟨1, 5, 0, 0, ((t + 1 : Nat) : Int)⟩ [], .ins ⟨12, 6, 4, 5, 0⟩ [], .ins ⟨15, 6, 0, 0, 0⟩ [109, 105, 110, 101], .ins ⟨1, 7, 0, 0, 2⟩ [], .ins ⟨13, 0, 0, 0, 0⟩ [101, 110, 100], .lab [109, 105, 110, 101], .ins ⟨1, 7, 0, 0, 0⟩ [], .lab [101, 110, 100]]
theorem fillProveE (base t : Nat) : (srcProveE).map (fillB base t) = (linProveE base t).map Ln.text := by
  unfold srcProveE linProveE
  simp only [List.map_cons, List.map_nil]
  exact cons2 rfl (cons2 (congrArg (fun x => 115 :: 101 :: 116 :: 32 :: 114 :: 53 :: 32 :: x) (List.append_nil (decB (t + 1)))) (cons2 rfl (cons2 rfl (cons2 (congrArg (fun x => joinB 32 [[115, 101, 116], [114, 55], x]) dec_2).symm (cons2 rfl (cons2 rfl (cons2 (congrArg (fun x => joinB 32 [[115, 101, 116], [114, 55], x]) dec_0).symm (cons2 rfl (rfl)))))))))
theorem okProveE {base t : Nat} (hb : base ≤ 1000000) (ht : t ≤ 1000000) : OkL (linProveE base t) := by
  refine ⟨?_, rfl, ?_, Nat.le_of_ble_eq_true rfl⟩
  · unfold linProveE
    simp only [List.mem_cons, List.not_mem_nil, or_false, forall_eq_or_imp, forall_eq]
    exact ⟨(fit_k (by decide) rfl (by omega)), (fit_k (by decide) rfl (by omega)), (fit_0 (by decide)), (fit_0 (by decide)), (fit_k (by decide) rfl (by omega)), (fit_0 (by decide)), show nameOk _ = true from rfl, (fit_k (by decide) rfl (by omega)), show nameOk _ = true from rfl⟩
  · unfold linProveE
    simp only [List.mem_cons, List.not_mem_nil, or_false, forall_eq_or_imp, forall_eq]
    exact ⟨rfl, rfl, rfl, rfl, rfl, rfl, rfl, rfl, rfl⟩
theorem parseProveE {base t : Nat} (hb : base ≤ 1000000) (ht : t ≤ 1000000) : parseB (fillB base t (unl srcProveE)) = (resL (linProveE base t), 0, 0) := by
  rw [fillB_unl _ _ _ (by decide), fillProveE, ← textL_unl]
  exact parse_text (okProveE hb ht)
theorem outProveE {base t : Nat} (hb : base ≤ 1000000) (ht : t ≤ 1000000) : (BS.zero.run (linProveE base t)).out = some (resL (linProveE base t)) := out_run (okProveE hb ht)

end Go.Proofs.YtackbadmcgjncaaDoor.As
