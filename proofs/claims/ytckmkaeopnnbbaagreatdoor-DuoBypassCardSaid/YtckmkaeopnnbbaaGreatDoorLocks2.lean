/- Plain Lean: the document's lines of the locks of layer 17, and the code that they make. No program in sight. -/
import Derived.Test.YtckmkaeopnnbbaaGreatDoorGo
set_option linter.unusedVariables false
set_option maxRecDepth 4000
namespace Go.Proofs.YtckmkaeopnnbbaaGreatDoor.As

/-! ### PetInA -/
def srcPetInA : List B8 := [[108, 111, 97, 100, 32, 114, 52, 32, 91, 100, 93], [115, 101, 116, 32, 114, 53, 32, 36], [115, 97, 109, 101, 32, 114, 54, 32, 114, 52, 32, 114, 53], [122, 101, 114, 111, 32, 114, 54, 32, 64, 102, 114, 101, 101], [115, 101, 116, 32, 114, 55, 32, 49], [106, 117, 109, 112, 32, 64, 101, 110, 100], [102, 114, 101, 101, 58], [115, 101, 116, 32, 114, 52, 32, 49], [115, 116, 111, 114, 101, 32, 114, 52, 32, 91, 97, 93], [115, 101, 116, 32, 114, 52, 32, 49], [115, 116, 111, 114, 101, 32, 114, 52, 32, 91, 99, 93], [102, 101, 110, 99, 101], [115, 112, 105, 110, 58], [108, 111, 97, 100, 32, 114, 52, 32, 91, 98, 93], [122, 101, 114, 111, 32, 114, 52, 32, 64, 103, 111, 116], [108, 111, 97, 100, 32, 114, 52, 32, 91, 99, 93], [115, 101, 116, 32, 114, 54, 32, 49], [115, 97, 109, 101, 32, 114, 54, 32, 114, 52, 32, 114, 54], [115, 111, 109, 101, 32, 114, 54, 32, 64, 115, 112, 105, 110], [103, 111, 116, 58], [115, 116, 111, 114, 101, 32, 114, 53, 32, 91, 100, 93], [115, 101, 116, 32, 114, 55, 32, 48], [101, 110, 100, 58]]
def linPetInA (base t : Nat) : List Ln := [.ins ⟨16, 4, 8, 0, ((base + 3 : Nat) : Int)⟩ [], .ins ⟨1, 5, 0, 0, ((t + 1 : Nat) : Int)⟩ [], .ins ⟨12, 6, 4, 5, 0⟩ [], .ins ⟨14, 6, 0, 0, 0⟩ [102, 114, 101, 101], .ins ⟨1, 7, 0, 0, 1⟩ [], .ins ⟨13, 0, 0, 0, 0⟩ [101, 110, 100], .lab [102, 114, 101, 101], .ins ⟨1, 4, 0, 0, 1⟩ [], .ins ⟨17, 4, 8, 0, ((base + 0 : Nat) : Int)⟩ [], .ins ⟨1, 4, 0, 0, 1⟩ [], .ins ⟨17, 4, 8, 0, ((base + 2 : Nat) : Int)⟩ [], .ins ⟨18, 0, 0, 0, 0⟩ [], .lab [115, 112, 105, 110], .ins ⟨16, 4, 8, 0, ((base + 1 : Nat) : Int)⟩ [], .ins ⟨14, 4, 0, 0, 0⟩ [103, 111, 116], .ins ⟨16, 4, 8, 0, ((base + 2 : Nat) : Int)⟩ [], .ins ⟨1, 6, 0, 0, 1⟩ [], .ins ⟨12, 6, 4, 6, 0⟩ [], .ins ⟨15, 6, 0, 0, 0⟩ [115, 112, 105, 110], .lab [103, 111, 116], .ins ⟨17, 5, 8, 0, ((base + 3 : Nat) : Int)⟩ [], .ins ⟨1, 7, 0, 0, 0⟩ [], .lab [101, 110, 100]]
theorem fillPetInA (base t : Nat) : (srcPetInA).map (fillB base t) = (linPetInA base t).map Ln.text := by
  unfold srcPetInA linPetInA
  simp only [List.map_cons, List.map_nil]
  exact cons2 rfl (cons2 (congrArg (fun x => 115 :: 101 :: 116 :: 32 :: 114 :: 53 :: 32 :: x) (List.append_nil (decB (t + 1)))) (cons2 rfl (cons2 rfl (cons2 (congrArg (fun x => joinB 32 [[115, 101, 116], [114, 55], x]) dec_1).symm (cons2 rfl (cons2 rfl (cons2 (congrArg (fun x => joinB 32 [[115, 101, 116], [114, 52], x]) dec_1).symm (cons2 rfl (cons2 (congrArg (fun x => joinB 32 [[115, 101, 116], [114, 52], x]) dec_1).symm (cons2 rfl (cons2 rfl (cons2 rfl (cons2 rfl (cons2 rfl (cons2 rfl (cons2 (congrArg (fun x => joinB 32 [[115, 101, 116], [114, 54], x]) dec_1).symm (cons2 rfl (cons2 rfl (cons2 rfl (cons2 rfl (cons2 (congrArg (fun x => joinB 32 [[115, 101, 116], [114, 55], x]) dec_0).symm (cons2 rfl (rfl)))))))))))))))))))))))
theorem okPetInA {base t : Nat} (hb : base ≤ 1000000) (ht : t ≤ 1000000) : OkL (linPetInA base t) := by
  refine ⟨?_, rfl, ?_, Nat.le_of_ble_eq_true rfl⟩
  · unfold linPetInA
    simp only [List.mem_cons, List.not_mem_nil, or_false, forall_eq_or_imp, forall_eq]
    exact ⟨(fit_k (by decide) rfl (by omega)), (fit_k (by decide) rfl (by omega)), (fit_0 (by decide)), (fit_0 (by decide)), (fit_k (by decide) rfl (by omega)), (fit_0 (by decide)), show nameOk _ = true from rfl, (fit_k (by decide) rfl (by omega)), (fit_k (by decide) rfl (by omega)), (fit_k (by decide) rfl (by omega)), (fit_k (by decide) rfl (by omega)), (fit_0 (by decide)), show nameOk _ = true from rfl, (fit_k (by decide) rfl (by omega)), (fit_0 (by decide)), (fit_k (by decide) rfl (by omega)), (fit_k (by decide) rfl (by omega)), (fit_0 (by decide)), (fit_0 (by decide)), show nameOk _ = true from rfl, (fit_k (by decide) rfl (by omega)), (fit_k (by decide) rfl (by omega)), show nameOk _ = true from rfl⟩
  · unfold linPetInA
    simp only [List.mem_cons, List.not_mem_nil, or_false, forall_eq_or_imp, forall_eq]
    exact ⟨rfl, rfl, rfl, rfl, rfl, rfl, rfl, rfl, rfl, rfl, rfl, rfl, rfl, rfl, rfl, rfl, rfl, rfl, rfl, rfl, rfl, rfl, rfl⟩
theorem parsePetInA {base t : Nat} (hb : base ≤ 1000000) (ht : t ≤ 1000000) : parseB (fillB base t (unl srcPetInA)) = (resL (linPetInA base t), 0, 0) := by
  rw [fillB_unl _ _ _ (by decide), fillPetInA, ← textL_unl]
  exact parse_text (okPetInA hb ht)
theorem outPetInA {base t : Nat} (hb : base ≤ 1000000) (ht : t ≤ 1000000) : (BS.zero.run (linPetInA base t)).out = some (resL (linPetInA base t)) := out_run (okPetInA hb ht)

/-! ### PetOutA -/
def srcPetOutA : List B8 := [[108, 111, 97, 100, 32, 114, 52, 32, 91, 100, 93], [115, 101, 116, 32, 114, 53, 32, 36], [115, 97, 109, 101, 32, 114, 54, 32, 114, 52, 32, 114, 53], [115, 111, 109, 101, 32, 114, 54, 32, 64, 109, 105, 110, 101], [115, 101, 116, 32, 114, 55, 32, 50], [106, 117, 109, 112, 32, 64, 101, 110, 100], [109, 105, 110, 101, 58], [115, 101, 116, 32, 114, 52, 32, 48], [115, 116, 111, 114, 101, 32, 114, 52, 32, 91, 100, 93], [115, 101, 116, 32, 114, 52, 32, 48], [115, 116, 111, 114, 101, 32, 114, 52, 32, 91, 97, 93], [115, 101, 116, 32, 114, 55, 32, 48], [101, 110, 100, 58]]
def linPetOutA (base t : Nat) : List Ln := [.ins ⟨16, 4, 8, 0, ((base + 3 : Nat) : Int)⟩ [], .ins ⟨1, 5, 0, 0, ((t + 1 : Nat) : Int)⟩ [], .ins ⟨12, 6, 4, 5, 0⟩ [], .ins ⟨15, 6, 0, 0, 0⟩ [109, 105, 110, 101], .ins ⟨1, 7, 0, 0, 2⟩ [], .ins ⟨13, 0, 0, 0, 0⟩ [101, 110, 100], .lab [109, 105, 110, 101], .ins ⟨1, 4, 0, 0, 0⟩ [], .ins ⟨17, 4, 8, 0, ((base + 3 : Nat) : Int)⟩ [], .ins ⟨1, 4, 0, 0, 0⟩ [], .ins ⟨17, 4, 8, 0, ((base + 0 : Nat) : Int)⟩ [], .ins ⟨1, 7, 0, 0, 0⟩ [], .lab [101, 110, 100]]
theorem fillPetOutA (base t : Nat) : (srcPetOutA).map (fillB base t) = (linPetOutA base t).map Ln.text := by
  unfold srcPetOutA linPetOutA
  simp only [List.map_cons, List.map_nil]
  exact cons2 rfl (cons2 (congrArg (fun x => 115 :: 101 :: 116 :: 32 :: 114 :: 53 :: 32 :: x) (List.append_nil (decB (t + 1)))) (cons2 rfl (cons2 rfl (cons2 (congrArg (fun x => joinB 32 [[115, 101, 116], [114, 55], x]) dec_2).symm (cons2 rfl (cons2 rfl (cons2 (congrArg (fun x => joinB 32 [[115, 101, 116], [114, 52], x]) dec_0).symm (cons2 rfl (cons2 (congrArg (fun x => joinB 32 [[115, 101, 116], [114, 52], x]) dec_0).symm (cons2 rfl (cons2 (congrArg (fun x => joinB 32 [[115, 101, 116], [114, 55], x]) dec_0).symm (cons2 rfl (rfl)))))))))))))
theorem okPetOutA {base t : Nat} (hb : base ≤ 1000000) (ht : t ≤ 1000000) : OkL (linPetOutA base t) := by
  refine ⟨?_, rfl, ?_, Nat.le_of_ble_eq_true rfl⟩
  · unfold linPetOutA
    simp only [List.mem_cons, List.not_mem_nil, or_false, forall_eq_or_imp, forall_eq]
    exact ⟨(fit_k (by decide) rfl (by omega)), (fit_k (by decide) rfl (by omega)), (fit_0 (by decide)), (fit_0 (by decide)), (fit_k (by decide) rfl (by omega)), (fit_0 (by decide)), show nameOk _ = true from rfl, (fit_k (by decide) rfl (by omega)), (fit_k (by decide) rfl (by omega)), (fit_k (by decide) rfl (by omega)), (fit_k (by decide) rfl (by omega)), (fit_k (by decide) rfl (by omega)), show nameOk _ = true from rfl⟩
  · unfold linPetOutA
    simp only [List.mem_cons, List.not_mem_nil, or_false, forall_eq_or_imp, forall_eq]
    exact ⟨rfl, rfl, rfl, rfl, rfl, rfl, rfl, rfl, rfl, rfl, rfl, rfl, rfl⟩
theorem parsePetOutA {base t : Nat} (hb : base ≤ 1000000) (ht : t ≤ 1000000) : parseB (fillB base t (unl srcPetOutA)) = (resL (linPetOutA base t), 0, 0) := by
  rw [fillB_unl _ _ _ (by decide), fillPetOutA, ← textL_unl]
  exact parse_text (okPetOutA hb ht)
theorem outPetOutA {base t : Nat} (hb : base ≤ 1000000) (ht : t ≤ 1000000) : (BS.zero.run (linPetOutA base t)).out = some (resL (linPetOutA base t)) := out_run (okPetOutA hb ht)

/-! ### PetInB -/
def srcPetInB : List B8 := [[108, 111, 97, 100, 32, 114, 52, 32, 91, 100, 93], [115, 101, 116, 32, 114, 53, 32, 36], [115, 97, 109, 101, 32, 114, 54, 32, 114, 52, 32, 114, 53], [122, 101, 114, 111, 32, 114, 54, 32, 64, 102, 114, 101, 101], [115, 101, 116, 32, 114, 55, 32, 49], [106, 117, 109, 112, 32, 64, 101, 110, 100], [102, 114, 101, 101, 58], [115, 101, 116, 32, 114, 52, 32, 49], [115, 116, 111, 114, 101, 32, 114, 52, 32, 91, 98, 93], [115, 101, 116, 32, 114, 52, 32, 48], [115, 116, 111, 114, 101, 32, 114, 52, 32, 91, 99, 93], [102, 101, 110, 99, 101], [115, 112, 105, 110, 58], [108, 111, 97, 100, 32, 114, 52, 32, 91, 97, 93], [122, 101, 114, 111, 32, 114, 52, 32, 64, 103, 111, 116], [108, 111, 97, 100, 32, 114, 52, 32, 91, 99, 93], [115, 101, 116, 32, 114, 54, 32, 48], [115, 97, 109, 101, 32, 114, 54, 32, 114, 52, 32, 114, 54], [115, 111, 109, 101, 32, 114, 54, 32, 64, 115, 112, 105, 110], [103, 111, 116, 58], [115, 116, 111, 114, 101, 32, 114, 53, 32, 91, 100, 93], [115, 101, 116, 32, 114, 55, 32, 48], [101, 110, 100, 58]]
def linPetInB (base t : Nat) : List Ln := [.ins ⟨16, 4, 8, 0, ((base + 3 : Nat) : Int)⟩ [], .ins ⟨1, 5, 0, 0, ((t + 1 : Nat) : Int)⟩ [], .ins ⟨12, 6, 4, 5, 0⟩ [], .ins ⟨14, 6, 0, 0, 0⟩ [102, 114, 101, 101], .ins ⟨1, 7, 0, 0, 1⟩ [], .ins ⟨13, 0, 0, 0, 0⟩ [101, 110, 100], .lab [102, 114, 101, 101], .ins ⟨1, 4, 0, 0, 1⟩ [], .ins ⟨17, 4, 8, 0, ((base + 1 : Nat) : Int)⟩ [], .ins ⟨1, 4, 0, 0, 0⟩ [], .ins ⟨17, 4, 8, 0, ((base + 2 : Nat) : Int)⟩ [], .ins ⟨18, 0, 0, 0, 0⟩ [], .lab [115, 112, 105, 110], .ins ⟨16, 4, 8, 0, ((base + 0 : Nat) : Int)⟩ [], .ins ⟨14, 4, 0, 0, 0⟩ [103, 111, 116], .ins ⟨16, 4, 8, 0, ((base + 2 : Nat) : Int)⟩ [], .ins ⟨1, 6, 0, 0, 0⟩ [], .ins ⟨12, 6, 4, 6, 0⟩ [], .ins ⟨15, 6, 0, 0, 0⟩ [115, 112, 105, 110], .lab [103, 111, 116], .ins ⟨17, 5, 8, 0, ((base + 3 : Nat) : Int)⟩ [], .ins ⟨1, 7, 0, 0, 0⟩ [], .lab [101, 110, 100]]
theorem fillPetInB (base t : Nat) : (srcPetInB).map (fillB base t) = (linPetInB base t).map Ln.text := by
  unfold srcPetInB linPetInB
  simp only [List.map_cons, List.map_nil]
  exact cons2 rfl (cons2 (congrArg (fun x => 115 :: 101 :: 116 :: 32 :: 114 :: 53 :: 32 :: x) (List.append_nil (decB (t + 1)))) (cons2 rfl (cons2 rfl (cons2 (congrArg (fun x => joinB 32 [[115, 101, 116], [114, 55], x]) dec_1).symm (cons2 rfl (cons2 rfl (cons2 (congrArg (fun x => joinB 32 [[115, 101, 116], [114, 52], x]) dec_1).symm (cons2 rfl (cons2 (congrArg (fun x => joinB 32 [[115, 101, 116], [114, 52], x]) dec_0).symm (cons2 rfl (cons2 rfl (cons2 rfl (cons2 rfl (cons2 rfl (cons2 rfl (cons2 (congrArg (fun x => joinB 32 [[115, 101, 116], [114, 54], x]) dec_0).symm (cons2 rfl (cons2 rfl (cons2 rfl (cons2 rfl (cons2 (congrArg (fun x => joinB 32 [[115, 101, 116], [114, 55], x]) dec_0).symm (cons2 rfl (rfl)))))))))))))))))))))))
theorem okPetInB {base t : Nat} (hb : base ≤ 1000000) (ht : t ≤ 1000000) : OkL (linPetInB base t) := by
  refine ⟨?_, rfl, ?_, Nat.le_of_ble_eq_true rfl⟩
  · unfold linPetInB
    simp only [List.mem_cons, List.not_mem_nil, or_false, forall_eq_or_imp, forall_eq]
    exact ⟨(fit_k (by decide) rfl (by omega)), (fit_k (by decide) rfl (by omega)), (fit_0 (by decide)), (fit_0 (by decide)), (fit_k (by decide) rfl (by omega)), (fit_0 (by decide)), show nameOk _ = true from rfl, (fit_k (by decide) rfl (by omega)), (fit_k (by decide) rfl (by omega)), (fit_k (by decide) rfl (by omega)), (fit_k (by decide) rfl (by omega)), (fit_0 (by decide)), show nameOk _ = true from rfl, (fit_k (by decide) rfl (by omega)), (fit_0 (by decide)), (fit_k (by decide) rfl (by omega)), (fit_k (by decide) rfl (by omega)), (fit_0 (by decide)), (fit_0 (by decide)), show nameOk _ = true from rfl, (fit_k (by decide) rfl (by omega)), (fit_k (by decide) rfl (by omega)), show nameOk _ = true from rfl⟩
  · unfold linPetInB
    simp only [List.mem_cons, List.not_mem_nil, or_false, forall_eq_or_imp, forall_eq]
    exact ⟨rfl, rfl, rfl, rfl, rfl, rfl, rfl, rfl, rfl, rfl, rfl, rfl, rfl, rfl, rfl, rfl, rfl, rfl, rfl, rfl, rfl, rfl, rfl⟩
theorem parsePetInB {base t : Nat} (hb : base ≤ 1000000) (ht : t ≤ 1000000) : parseB (fillB base t (unl srcPetInB)) = (resL (linPetInB base t), 0, 0) := by
  rw [fillB_unl _ _ _ (by decide), fillPetInB, ← textL_unl]
  exact parse_text (okPetInB hb ht)
theorem outPetInB {base t : Nat} (hb : base ≤ 1000000) (ht : t ≤ 1000000) : (BS.zero.run (linPetInB base t)).out = some (resL (linPetInB base t)) := out_run (okPetInB hb ht)

/-! ### PetOutB -/
def srcPetOutB : List B8 := [[108, 111, 97, 100, 32, 114, 52, 32, 91, 100, 93], [115, 101, 116, 32, 114, 53, 32, 36], [115, 97, 109, 101, 32, 114, 54, 32, 114, 52, 32, 114, 53], [115, 111, 109, 101, 32, 114, 54, 32, 64, 109, 105, 110, 101], [115, 101, 116, 32, 114, 55, 32, 50], [106, 117, 109, 112, 32, 64, 101, 110, 100], [109, 105, 110, 101, 58], [115, 101, 116, 32, 114, 52, 32, 48], [115, 116, 111, 114, 101, 32, 114, 52, 32, 91, 100, 93], [115, 101, 116, 32, 114, 52, 32, 48], [115, 116, 111, 114, 101, 32, 114, 52, 32, 91, 98, 93], [115, 101, 116, 32, 114, 55, 32, 48], [101, 110, 100, 58]]
def linPetOutB (base t : Nat) : List Ln := [.ins ⟨16, 4, 8, 0, ((base + 3 : Nat) : Int)⟩ [], .ins ⟨1, 5, 0, 0, ((t + 1 : Nat) : Int)⟩ [], .ins ⟨12, 6, 4, 5, 0⟩ [], .ins ⟨15, 6, 0, 0, 0⟩ [109, 105, 110, 101], .ins ⟨1, 7, 0, 0, 2⟩ [], .ins ⟨13, 0, 0, 0, 0⟩ [101, 110, 100], .lab [109, 105, 110, 101], .ins ⟨1, 4, 0, 0, 0⟩ [], .ins ⟨17, 4, 8, 0, ((base + 3 : Nat) : Int)⟩ [], .ins ⟨1, 4, 0, 0, 0⟩ [], .ins ⟨17, 4, 8, 0, ((base + 1 : Nat) : Int)⟩ [], .ins ⟨1, 7, 0, 0, 0⟩ [], .lab [101, 110, 100]]
theorem fillPetOutB (base t : Nat) : (srcPetOutB).map (fillB base t) = (linPetOutB base t).map Ln.text := by
  unfold srcPetOutB linPetOutB
  simp only [List.map_cons, List.map_nil]
  exact cons2 rfl (cons2 (congrArg (fun x => 115 :: 101 :: 116 :: 32 :: 114 :: 53 :: 32 :: x) (List.append_nil (decB (t + 1)))) (cons2 rfl (cons2 rfl (cons2 (congrArg (fun x => joinB 32 [[115, 101, 116], [114, 55], x]) dec_2).symm (cons2 rfl (cons2 rfl (cons2 (congrArg (fun x => joinB 32 [[115, 101, 116], [114, 52], x]) dec_0).symm (cons2 rfl (cons2 (congrArg (fun x => joinB 32 [[115, 101, 116], [114, 52], x]) dec_0).symm (cons2 rfl (cons2 (congrArg (fun x => joinB 32 [[115, 101, 116], [114, 55], x]) dec_0).symm (cons2 rfl (rfl)))))))))))))
theorem okPetOutB {base t : Nat} (hb : base ≤ 1000000) (ht : t ≤ 1000000) : OkL (linPetOutB base t) := by
  refine ⟨?_, rfl, ?_, Nat.le_of_ble_eq_true rfl⟩
  · unfold linPetOutB
    simp only [List.mem_cons, List.not_mem_nil, or_false, forall_eq_or_imp, forall_eq]
    exact ⟨(fit_k (by decide) rfl (by omega)), (fit_k (by decide) rfl (by omega)), (fit_0 (by decide)), (fit_0 (by decide)), (fit_k (by decide) rfl (by omega)), (fit_0 (by decide)), show nameOk _ = true from rfl, (fit_k (by decide) rfl (by omega)), (fit_k (by decide) rfl (by omega)), (fit_k (by decide) rfl (by omega)), (fit_k (by decide) rfl (by omega)), (fit_k (by decide) rfl (by omega)), show nameOk _ = true from rfl⟩
  · unfold linPetOutB
    simp only [List.mem_cons, List.not_mem_nil, or_false, forall_eq_or_imp, forall_eq]
    exact ⟨rfl, rfl, rfl, rfl, rfl, rfl, rfl, rfl, rfl, rfl, rfl, rfl, rfl⟩
theorem parsePetOutB {base t : Nat} (hb : base ≤ 1000000) (ht : t ≤ 1000000) : parseB (fillB base t (unl srcPetOutB)) = (resL (linPetOutB base t), 0, 0) := by
  rw [fillB_unl _ _ _ (by decide), fillPetOutB, ← textL_unl]
  exact parse_text (okPetOutB hb ht)
theorem outPetOutB {base t : Nat} (hb : base ≤ 1000000) (ht : t ≤ 1000000) : (BS.zero.run (linPetOutB base t)).out = some (resL (linPetOutB base t)) := out_run (okPetOutB hb ht)

/-! ### DekFast -/
def srcDekFast : List B8 := [[108, 111, 97, 100, 32, 114, 52, 32, 91, 99, 93], [115, 101, 116, 32, 114, 53, 32, 36], [115, 97, 109, 101, 32, 114, 54, 32, 114, 52, 32, 114, 53], [122, 101, 114, 111, 32, 114, 54, 32, 64, 102, 114, 101, 101], [115, 101, 116, 32, 114, 55, 32, 49], [106, 117, 109, 112, 32, 64, 101, 110, 100], [102, 114, 101, 101, 58], [97, 103, 97, 105, 110, 58], [115, 101, 116, 32, 114, 52, 32, 49], [115, 116, 111, 114, 101, 32, 114, 52, 32, 91, 97, 93], [108, 111, 97, 100, 32, 114, 52, 32, 91, 98, 93], [122, 101, 114, 111, 32, 114, 52, 32, 64, 103, 111, 116], [115, 101, 116, 32, 114, 52, 32, 48], [115, 116, 111, 114, 101, 32, 114, 52, 32, 91, 97, 93], [119, 97, 105, 116, 58], [108, 111, 97, 100, 32, 114, 52, 32, 91, 98, 93], [115, 111, 109, 101, 32, 114, 52, 32, 64, 119, 97, 105, 116], [106, 117, 109, 112, 32, 64, 97, 103, 97, 105, 110], [103, 111, 116, 58], [115, 116, 111, 114, 101, 32, 114, 53, 32, 91, 99, 93], [115, 101, 116, 32, 114, 55, 32, 48], [101, 110, 100, 58]]
def linDekFast (base t : Nat) : List Ln := [.ins ⟨16, 4, 8, 0, ((base + 2 : Nat) : Int)⟩ [], .ins ⟨1, 5, 0, 0, ((t + 1 : Nat) : Int)⟩ [], .ins ⟨12, 6, 4, 5, 0⟩ [], .ins ⟨14, 6, 0, 0, 0⟩ [102, 114, 101, 101], .ins ⟨1, 7, 0, 0, 1⟩ [], .ins ⟨13, 0, 0, 0, 0⟩ [101, 110, 100], .lab [102, 114, 101, 101], .lab [97, 103, 97, 105, 110], .ins ⟨1, 4, 0, 0, 1⟩ [], .ins ⟨17, 4, 8, 0, ((base + 0 : Nat) : Int)⟩ [], .ins ⟨16, 4, 8, 0, ((base + 1 : Nat) : Int)⟩ [], .ins ⟨14, 4, 0, 0, 0⟩ [103, 111, 116], .ins ⟨1, 4, 0, 0, 0⟩ [], .ins ⟨17, 4, 8, 0, ((base + 0 : Nat) : Int)⟩ [], .lab [119, 97, 105, 116], .ins ⟨16, 4, 8, 0, ((base + 1 : Nat) : Int)⟩ [], .ins ⟨15, 4, 0, 0, 0⟩ [119, 97, 105, 116], .ins ⟨13, 0, 0, 0, 0⟩ [97, 103, 97, 105, 110], .lab [103, 111, 116], .ins ⟨17, 5, 8, 0, ((base + 2 : Nat) : Int)⟩ [], .ins ⟨1, 7, 0, 0, 0⟩ [], .lab [101, 110, 100]]
theorem fillDekFast (base t : Nat) : (srcDekFast).map (fillB base t) = (linDekFast base t).map Ln.text := by
  unfold srcDekFast linDekFast
  simp only [List.map_cons, List.map_nil]
  exact cons2 rfl (cons2 (congrArg (fun x => 115 :: 101 :: 116 :: 32 :: 114 :: 53 :: 32 :: x) (List.append_nil (decB (t + 1)))) (cons2 rfl (cons2 rfl (cons2 (congrArg (fun x => joinB 32 [[115, 101, 116], [114, 55], x]) dec_1).symm (cons2 rfl (cons2 rfl (cons2 rfl (cons2 (congrArg (fun x => joinB 32 [[115, 101, 116], [114, 52], x]) dec_1).symm (cons2 rfl (cons2 rfl (cons2 rfl (cons2 (congrArg (fun x => joinB 32 [[115, 101, 116], [114, 52], x]) dec_0).symm (cons2 rfl (cons2 rfl (cons2 rfl (cons2 rfl (cons2 rfl (cons2 rfl (cons2 rfl (cons2 (congrArg (fun x => joinB 32 [[115, 101, 116], [114, 55], x]) dec_0).symm (cons2 rfl (rfl))))))))))))))))))))))
theorem okDekFast {base t : Nat} (hb : base ≤ 1000000) (ht : t ≤ 1000000) : OkL (linDekFast base t) := by
  refine ⟨?_, rfl, ?_, Nat.le_of_ble_eq_true rfl⟩
  · unfold linDekFast
    simp only [List.mem_cons, List.not_mem_nil, or_false, forall_eq_or_imp, forall_eq]
    exact ⟨(fit_k (by decide) rfl (by omega)), (fit_k (by decide) rfl (by omega)), (fit_0 (by decide)), (fit_0 (by decide)), (fit_k (by decide) rfl (by omega)), (fit_0 (by decide)), show nameOk _ = true from rfl, show nameOk _ = true from rfl, (fit_k (by decide) rfl (by omega)), (fit_k (by decide) rfl (by omega)), (fit_k (by decide) rfl (by omega)), (fit_0 (by decide)), (fit_k (by decide) rfl (by omega)), (fit_k (by decide) rfl (by omega)), show nameOk _ = true from rfl, (fit_k (by decide) rfl (by omega)), (fit_0 (by decide)), (fit_0 (by decide)), show nameOk _ = true from rfl, (fit_k (by decide) rfl (by omega)), (fit_k (by decide) rfl (by omega)), show nameOk _ = true from rfl⟩
  · unfold linDekFast
    simp only [List.mem_cons, List.not_mem_nil, or_false, forall_eq_or_imp, forall_eq]
    exact ⟨rfl, rfl, rfl, rfl, rfl, rfl, rfl, rfl, rfl, rfl, rfl, rfl, rfl, rfl, rfl, rfl, rfl, rfl, rfl, rfl, rfl, rfl⟩
theorem parseDekFast {base t : Nat} (hb : base ≤ 1000000) (ht : t ≤ 1000000) : parseB (fillB base t (unl srcDekFast)) = (resL (linDekFast base t), 0, 0) := by
  rw [fillB_unl _ _ _ (by decide), fillDekFast, ← textL_unl]
  exact parse_text (okDekFast hb ht)
theorem outDekFast {base t : Nat} (hb : base ≤ 1000000) (ht : t ≤ 1000000) : (BS.zero.run (linDekFast base t)).out = some (resL (linDekFast base t)) := out_run (okDekFast hb ht)

/-! ### DekSlow -/
def srcDekSlow : List B8 := [[108, 111, 97, 100, 32, 114, 52, 32, 91, 99, 93], [115, 101, 116, 32, 114, 53, 32, 36], [115, 97, 109, 101, 32, 114, 54, 32, 114, 52, 32, 114, 53], [122, 101, 114, 111, 32, 114, 54, 32, 64, 102, 114, 101, 101], [115, 101, 116, 32, 114, 55, 32, 49], [106, 117, 109, 112, 32, 64, 101, 110, 100], [102, 114, 101, 101, 58], [115, 101, 116, 32, 114, 52, 32, 49], [115, 116, 111, 114, 101, 32, 114, 52, 32, 91, 98, 93], [114, 101, 109, 111, 116, 101], [119, 97, 105, 116, 58], [108, 111, 97, 100, 32, 114, 52, 32, 91, 97, 93], [115, 111, 109, 101, 32, 114, 52, 32, 64, 119, 97, 105, 116], [115, 116, 111, 114, 101, 32, 114, 53, 32, 91, 99, 93], [115, 101, 116, 32, 114, 55, 32, 48], [101, 110, 100, 58]]
def linDekSlow (base t : Nat) : List Ln := [.ins ⟨16, 4, 8, 0, ((base + 2 : Nat) : Int)⟩ [], .ins ⟨1, 5, 0, 0, ((t + 1 : Nat) : Int)⟩ [], .ins ⟨12, 6, 4, 5, 0⟩ [], .ins ⟨14, 6, 0, 0, 0⟩ [102, 114, 101, 101], .ins ⟨1, 7, 0, 0, 1⟩ [], .ins ⟨13, 0, 0, 0, 0⟩ [101, 110, 100], .lab [102, 114, 101, 101], .ins ⟨1, 4, 0, 0, 1⟩ [], .ins ⟨17, 4, 8, 0, ((base + 1 : Nat) : Int)⟩ [], .ins ⟨25, 0, 0, 0, 0⟩ [], .lab [119, 97, 105, 116], .ins ⟨16, 4, 8, 0, ((base + 0 : Nat) : Int)⟩ [], .ins ⟨15, 4, 0, 0, 0⟩ [119, 97, 105, 116], .ins ⟨17, 5, 8, 0, ((base + 2 : Nat) : Int)⟩ [], .ins ⟨1, 7, 0, 0, 0⟩ [], .lab [101, 110, 100]]
theorem fillDekSlow (base t : Nat) : (srcDekSlow).map (fillB base t) = (linDekSlow base t).map Ln.text := by
  unfold srcDekSlow linDekSlow
  simp only [List.map_cons, List.map_nil]
  exact cons2 rfl (cons2 (congrArg (fun x => 115 :: 101 :: 116 :: 32 :: 114 :: 53 :: 32 :: x) (List.append_nil (decB (t + 1)))) (cons2 rfl (cons2 rfl (cons2 (congrArg (fun x => joinB 32 [[115, 101, 116], [114, 55], x]) dec_1).symm (cons2 rfl (cons2 rfl (cons2 (congrArg (fun x => joinB 32 [[115, 101, 116], [114, 52], x]) dec_1).symm (cons2 rfl (cons2 rfl (cons2 rfl (cons2 rfl (cons2 rfl (cons2 rfl (cons2 (congrArg (fun x => joinB 32 [[115, 101, 116], [114, 55], x]) dec_0).symm (cons2 rfl (rfl))))))))))))))))
theorem okDekSlow {base t : Nat} (hb : base ≤ 1000000) (ht : t ≤ 1000000) : OkL (linDekSlow base t) := by
  refine ⟨?_, rfl, ?_, Nat.le_of_ble_eq_true rfl⟩
  · unfold linDekSlow
    simp only [List.mem_cons, List.not_mem_nil, or_false, forall_eq_or_imp, forall_eq]
    exact ⟨(fit_k (by decide) rfl (by omega)), (fit_k (by decide) rfl (by omega)), (fit_0 (by decide)), (fit_0 (by decide)), (fit_k (by decide) rfl (by omega)), (fit_0 (by decide)), show nameOk _ = true from rfl, (fit_k (by decide) rfl (by omega)), (fit_k (by decide) rfl (by omega)), (fit_0 (by decide)), show nameOk _ = true from rfl, (fit_k (by decide) rfl (by omega)), (fit_0 (by decide)), (fit_k (by decide) rfl (by omega)), (fit_k (by decide) rfl (by omega)), show nameOk _ = true from rfl⟩
  · unfold linDekSlow
    simp only [List.mem_cons, List.not_mem_nil, or_false, forall_eq_or_imp, forall_eq]
    exact ⟨rfl, rfl, rfl, rfl, rfl, rfl, rfl, rfl, rfl, rfl, rfl, rfl, rfl, rfl, rfl, rfl⟩
theorem parseDekSlow {base t : Nat} (hb : base ≤ 1000000) (ht : t ≤ 1000000) : parseB (fillB base t (unl srcDekSlow)) = (resL (linDekSlow base t), 0, 0) := by
  rw [fillB_unl _ _ _ (by decide), fillDekSlow, ← textL_unl]
  exact parse_text (okDekSlow hb ht)
theorem outDekSlow {base t : Nat} (hb : base ≤ 1000000) (ht : t ≤ 1000000) : (BS.zero.run (linDekSlow base t)).out = some (resL (linDekSlow base t)) := out_run (okDekSlow hb ht)

/-! ### DekOutA -/
def srcDekOutA : List B8 := [[108, 111, 97, 100, 32, 114, 52, 32, 91, 99, 93], [115, 101, 116, 32, 114, 53, 32, 36], [115, 97, 109, 101, 32, 114, 54, 32, 114, 52, 32, 114, 53], [115, 111, 109, 101, 32, 114, 54, 32, 64, 109, 105, 110, 101], [115, 101, 116, 32, 114, 55, 32, 50], [106, 117, 109, 112, 32, 64, 101, 110, 100], [109, 105, 110, 101, 58], [115, 101, 116, 32, 114, 52, 32, 48], [115, 116, 111, 114, 101, 32, 114, 52, 32, 91, 99, 93], [115, 101, 116, 32, 114, 52, 32, 48], [115, 116, 111, 114, 101, 32, 114, 52, 32, 91, 97, 93], [115, 101, 116, 32, 114, 55, 32, 48], [101, 110, 100, 58]]
def linDekOutA (base t : Nat) : List Ln := [.ins ⟨16, 4, 8, 0, ((base + 2 : Nat) : Int)⟩ [], .ins ⟨1, 5, 0, 0, ((t + 1 : Nat) : Int)⟩ [], .ins ⟨12, 6, 4, 5, 0⟩ [], .ins ⟨15, 6, 0, 0, 0⟩ [109, 105, 110, 101], .ins ⟨1, 7, 0, 0, 2⟩ [], .ins ⟨13, 0, 0, 0, 0⟩ [101, 110, 100], .lab [109, 105, 110, 101], .ins ⟨1, 4, 0, 0, 0⟩ [], .ins ⟨17, 4, 8, 0, ((base + 2 : Nat) : Int)⟩ [], .ins ⟨1, 4, 0, 0, 0⟩ [], .ins ⟨17, 4, 8, 0, ((base + 0 : Nat) : Int)⟩ [], .ins ⟨1, 7, 0, 0, 0⟩ [], .lab [101, 110, 100]]
theorem fillDekOutA (base t : Nat) : (srcDekOutA).map (fillB base t) = (linDekOutA base t).map Ln.text := by
  unfold srcDekOutA linDekOutA
  simp only [List.map_cons, List.map_nil]
  exact cons2 rfl (cons2 (congrArg (fun x => 115 :: 101 :: 116 :: 32 :: 114 :: 53 :: 32 :: x) (List.append_nil (decB (t + 1)))) (cons2 rfl (cons2 rfl (cons2 (congrArg (fun x => joinB 32 [[115, 101, 116], [114, 55], x]) dec_2).symm (cons2 rfl (cons2 rfl (cons2 (congrArg (fun x => joinB 32 [[115, 101, 116], [114, 52], x]) dec_0).symm (cons2 rfl (cons2 (congrArg (fun x => joinB 32 [[115, 101, 116], [114, 52], x]) dec_0).symm (cons2 rfl (cons2 (congrArg (fun x => joinB 32 [[115, 101, 116], [114, 55], x]) dec_0).symm (cons2 rfl (rfl)))))))))))))
theorem okDekOutA {base t : Nat} (hb : base ≤ 1000000) (ht : t ≤ 1000000) : OkL (linDekOutA base t) := by
  refine ⟨?_, rfl, ?_, Nat.le_of_ble_eq_true rfl⟩
  · unfold linDekOutA
    simp only [List.mem_cons, List.not_mem_nil, or_false, forall_eq_or_imp, forall_eq]
    exact ⟨(fit_k (by decide) rfl (by omega)), (fit_k (by decide) rfl (by omega)), (fit_0 (by decide)), (fit_0 (by decide)), (fit_k (by decide) rfl (by omega)), (fit_0 (by decide)), show nameOk _ = true from rfl, (fit_k (by decide) rfl (by omega)), (fit_k (by decide) rfl (by omega)), (fit_k (by decide) rfl (by omega)), (fit_k (by decide) rfl (by omega)), (fit_k (by decide) rfl (by omega)), show nameOk _ = true from rfl⟩
  · unfold linDekOutA
    simp only [List.mem_cons, List.not_mem_nil, or_false, forall_eq_or_imp, forall_eq]
    exact ⟨rfl, rfl, rfl, rfl, rfl, rfl, rfl, rfl, rfl, rfl, rfl, rfl, rfl⟩
theorem parseDekOutA {base t : Nat} (hb : base ≤ 1000000) (ht : t ≤ 1000000) : parseB (fillB base t (unl srcDekOutA)) = (resL (linDekOutA base t), 0, 0) := by
  rw [fillB_unl _ _ _ (by decide), fillDekOutA, ← textL_unl]
  exact parse_text (okDekOutA hb ht)
theorem outDekOutA {base t : Nat} (hb : base ≤ 1000000) (ht : t ≤ 1000000) : (BS.zero.run (linDekOutA base t)).out = some (resL (linDekOutA base t)) := out_run (okDekOutA hb ht)

/-! ### DekOutB -/
def srcDekOutB : List B8 := [[108, 111, 97, 100, 32, 114, 52, 32, 91, 99, 93], [115, 101, 116, 32, 114, 53, 32, 36], [115, 97, 109, 101, 32, 114, 54, 32, 114, 52, 32, 114, 53], [115, 111, 109, 101, 32, 114, 54, 32, 64, 109, 105, 110, 101], [115, 101, 116, 32, 114, 55, 32, 50], [106, 117, 109, 112, 32, 64, 101, 110, 100], [109, 105, 110, 101, 58], [115, 101, 116, 32, 114, 52, 32, 48], [115, 116, 111, 114, 101, 32, 114, 52, 32, 91, 99, 93], [115, 101, 116, 32, 114, 52, 32, 48], [115, 116, 111, 114, 101, 32, 114, 52, 32, 91, 98, 93], [115, 101, 116, 32, 114, 55, 32, 48], [101, 110, 100, 58]]
def linDekOutB (base t : Nat) : List Ln := [.ins ⟨16, 4, 8, 0, ((base + 2 : Nat) : Int)⟩ [], .ins ⟨1, 5, 0, 0, ((t + 1 : Nat) : Int)⟩ [], .ins ⟨12, 6, 4, 5, 0⟩ [], .ins ⟨15, 6, 0, 0, 0⟩ [109, 105, 110, 101], .ins ⟨1, 7, 0, 0, 2⟩ [], .ins ⟨13, 0, 0, 0, 0⟩ [101, 110, 100], .lab [109, 105, 110, 101], .ins ⟨1, 4, 0, 0, 0⟩ [], .ins ⟨17, 4, 8, 0, ((base + 2 : Nat) : Int)⟩ [], .ins ⟨1, 4, 0, 0, 0⟩ [], .ins ⟨17, 4, 8, 0, ((base + 1 : Nat) : Int)⟩ [], .ins ⟨1, 7, 0, 0, 0⟩ [], .lab [101, 110, 100]]
theorem fillDekOutB (base t : Nat) : (srcDekOutB).map (fillB base t) = (linDekOutB base t).map Ln.text := by
  unfold srcDekOutB linDekOutB
  simp only [List.map_cons, List.map_nil]
  exact cons2 rfl (cons2 (congrArg (fun x => 115 :: 101 :: 116 :: 32 :: 114 :: 53 :: 32 :: x) (List.append_nil (decB (t + 1)))) (cons2 rfl (cons2 rfl (cons2 (congrArg (fun x => joinB 32 [[115, 101, 116], [114, 55], x]) dec_2).symm (cons2 rfl (cons2 rfl (cons2 (congrArg (fun x => joinB 32 [[115, 101, 116], [114, 52], x]) dec_0).symm (cons2 rfl (cons2 (congrArg (fun x => joinB 32 [[115, 101, 116], [114, 52], x]) dec_0).symm (cons2 rfl (cons2 (congrArg (fun x => joinB 32 [[115, 101, 116], [114, 55], x]) dec_0).symm (cons2 rfl (rfl)))))))))))))
theorem okDekOutB {base t : Nat} (hb : base ≤ 1000000) (ht : t ≤ 1000000) : OkL (linDekOutB base t) := by
  refine ⟨?_, rfl, ?_, Nat.le_of_ble_eq_true rfl⟩
  · unfold linDekOutB
    simp only [List.mem_cons, List.not_mem_nil, or_false, forall_eq_or_imp, forall_eq]
    exact ⟨(fit_k (by decide) rfl (by omega)), (fit_k (by decide) rfl (by omega)), (fit_0 (by decide)), (fit_0 (by decide)), (fit_k (by decide) rfl (by omega)), (fit_0 (by decide)), show nameOk _ = true from rfl, (fit_k (by decide) rfl (by omega)), (fit_k (by decide) rfl (by omega)), (fit_k (by decide) rfl (by omega)), (fit_k (by decide) rfl (by omega)), (fit_k (by decide) rfl (by omega)), show nameOk _ = true from rfl⟩
  · unfold linDekOutB
    simp only [List.mem_cons, List.not_mem_nil, or_false, forall_eq_or_imp, forall_eq]
    exact ⟨rfl, rfl, rfl, rfl, rfl, rfl, rfl, rfl, rfl, rfl, rfl, rfl, rfl⟩
theorem parseDekOutB {base t : Nat} (hb : base ≤ 1000000) (ht : t ≤ 1000000) : parseB (fillB base t (unl srcDekOutB)) = (resL (linDekOutB base t), 0, 0) := by
  rw [fillB_unl _ _ _ (by decide), fillDekOutB, ← textL_unl]
  exact parse_text (okDekOutB hb ht)
theorem outDekOutB {base t : Nat} (hb : base ≤ 1000000) (ht : t ≤ 1000000) : (BS.zero.run (linDekOutB base t)).out = some (resL (linDekOutB base t)) := out_run (okDekOutB hb ht)

/-! ### Stranger -/
def srcStranger : List B8 := [[115, 101, 116, 32, 114, 55, 32, 52]]
def linStranger (base t : Nat) : List Ln := [.ins ⟨1, 7, 0, 0, 4⟩ []]
theorem fillStranger (base t : Nat) : (srcStranger).map (fillB base t) = (linStranger base t).map Ln.text := by
  unfold srcStranger linStranger
  simp only [List.map_cons, List.map_nil]
  exact cons2 (congrArg (fun x => joinB 32 [[115, 101, 116], [114, 55], x]) dec_4).symm (rfl)
theorem okStranger {base t : Nat} (hb : base ≤ 1000000) (ht : t ≤ 1000000) : OkL (linStranger base t) := by
  refine ⟨?_, rfl, ?_, Nat.le_of_ble_eq_true rfl⟩
  · unfold linStranger
    simp only [List.mem_cons, List.not_mem_nil, or_false, forall_eq]
    exact (fit_k (by decide) rfl (by omega))
  · unfold linStranger
    simp only [List.mem_cons, List.not_mem_nil, or_false, forall_eq]
    exact rfl
theorem parseStranger {base t : Nat} (hb : base ≤ 1000000) (ht : t ≤ 1000000) : parseB (fillB base t (unl srcStranger)) = (resL (linStranger base t), 0, 0) := by
  rw [fillB_unl _ _ _ (by decide), fillStranger, ← textL_unl]
  exact parse_text (okStranger hb ht)
theorem outStranger {base t : Nat} (hb : base ≤ 1000000) (ht : t ≤ 1000000) : (BS.zero.run (linStranger base t)).out = some (resL (linStranger base t)) := out_run (okStranger hb ht)

end Go.Proofs.YtckmkaeopnnbbaaGreatDoor.As
