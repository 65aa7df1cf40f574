/- The walks of the package deadlatchref04: texts parted, numbers, registers. -/
import Derived.Test.YtlopmejmionnpaaDoorRd
import Derived.Test.YtlopmejmionnpaaDoorRefSpec
import Derived.Test.YtlopmejmionnpaaDoorAsmName
import Derived.Lib.Strings
set_option linter.unusedVariables false
namespace Go.Proofs.YtlopmejmionnpaaDoor.As
open Go.RowKit

def str (l : B8) : Value := .string ⟨l.toArray⟩
theorem infoS : (Tryd.prog.info? 9).map (fun i => (i.zero, i.size, i.bytes)) = some (some (.string ByteArray.empty), 1, 16) := by kernel_rfl

/-! ### split -/
def glue (p : B8) : List B8 → List B8
  | h :: t => (p ++ h) :: t
  | [] => [p]
theorem splitB_ne (b : UInt8) : ∀ l : B8, splitB b l ≠ []
  | [] => by simp [splitB]
  | c :: r => by
    unfold splitB
    split
    · simp
    · cases h : splitB b r with
      | nil => simp
      | cons x y => simp
theorem glue_nil (b : UInt8) (l : B8) : glue [] (splitB b l) = splitB b l := by
  cases h : splitB b l with
  | nil => exact absurd h (splitB_ne b l)
  | cons x y => rfl
theorem split_hit (b : UInt8) (p r : B8) : glue p (splitB b (b :: r)) = p :: splitB b r := by
  rw [splitB, if_pos rfl]; simp [glue]
theorem split_miss (b c : UInt8) (p r : B8) (h : c ≠ b) : glue p (splitB b (c :: r)) = glue (p ++ [c]) (splitB b r) := by
  rw [splitB, if_neg h]
  cases hs : splitB b r with
  | nil => exact absurd hs (splitB_ne b r)
  | cons x y => simp [glue]
theorem take_next (l : B8) (a i : Nat) (c : UInt8) (h : l[i]? = some c) (ha : a ≤ i) : (l.drop a).take (i + 1 - a) = (l.drop a).take (i - a) ++ [c] := by
  have hl : i < l.length := (List.getElem?_eq_some_iff.1 h).1
  rw [show i + 1 - a = (i - a) + 1 from by omega, List.take_succ_eq_append_getElem (by rw [List.length_drop]; omega)]
  congr 2
  rw [List.getElem_drop]
  have e : l[i] = c := (List.getElem?_eq_some_iff.1 h).2
  rw [← e]
  congr 1
  omega
theorem drop_at (l : B8) (i : Nat) (c : UInt8) (h : l[i]? = some c) : l.drop i = c :: l.drop (i + 1) := by
  have hl : i < l.length := (List.getElem?_eq_some_iff.1 h).1
  rw [List.drop_eq_getElem_cons hl, (List.getElem?_eq_some_iff.1 h).2]

set_option maxRecDepth 100000 in
set_option maxHeartbeats 1000000 in
theorem split_any (s : ByteArray) (b : UInt8) (w : World) (hl : s.size ≤ 1000000) :
    Calls Tryd.prog 33 #[.string s, .int .u8 b.toNat] w fun e w' => ∃ v, e = .returned v ∧ w'.ownsRow w.heap.size 9 1 v (splitB b s.data.toList).length ((splitB b s.data.toList).map str) ∧ Below w.heap.size w w' := by
  obtain ⟨i0, hi, hz0, hz1, hz2⟩ := info_parts infoS
  have hsz : s.data.toList.length = s.size := Array.length_toList
  go_enter Tryd.func33, Tryd.ntmps33
  go_wp2_with fail
  go_loopw [5, 6, 7] (fun ov fv iv wr => ∃ (i a : Nat) (os : List B8), i ≤ s.size ∧ a ≤ i ∧ os.length ≤ i ∧ iv = .int .i64 i ∧ fv = .int .i64 a ∧ Hid (splitB b s.data.toList = os ++ glue ((s.data.toList.drop a).take (i - a)) (splitB b (s.data.toList.drop i))) ∧ Hid (wr.ownsRow w.heap.size 9 1 ov os.length (os.map str)) ∧ Hid (Below w.heap.size w wr)) (fun _ _ i _ => s.size - (intOf i).toNat)
  case atStart => exact ⟨0, 0, [], by omega, by omega, by simp, rfl, rfl, by show splitB b s.data.toList = _; simp [glue_nil], World.ownsRow_nil _ _ _ _, Below.refl _ _⟩
  case round =>
    obtain ⟨i, a, os, hil, hai, hos, rfl, rfl, HEQ, HOW, HB⟩ := hrel
    by_cases hlt : i < s.size
    · obtain ⟨c, hc⟩ : ∃ c, s.data.toList[i]? = some c := ⟨_, List.getElem?_eq_getElem (by omega)⟩
      have hcc : s[i] = c := by
        have := (List.getElem?_eq_some_iff.1 hc).2
        rw [← this]; rfl
      have HC := Lib.hid hc
      clear hc
      have hos' : os.length < 2000000 := by omega
      have hHB := HB.out.size
      by_cases hcb : c = b
      · have hcb' : ((c.toNat : Int) == (b.toNat : Int)) = true := by simp [hcb]
        have hext : (.string (s.extract a i) : Value) = str ((s.data.toList.drop a).take (i - a)) := by
          unfold str
          rw [← Lib.extract_data]
        have HX := Lib.hid hext
        clear hext
        go_wp2_with (at_builtin; refine wpList_append_own _ rfl (.tmp 19) (.tmp 24) 39 rfl w.heap.size 9 i0 _ 1 16 Tryd.underlying39 hi hz0 hz1 hz2 rfl (by decide) _ _ _ rfl (HOW.out.alloc _) ⟨wr.heap.size, 0, none⟩ 1 1 [.string (s.extract a i)] rfl rfl (cell_one_new _ _ _) (by simp [Value.oneCell']) (by unfold maxLen; omega) (by omega) (by simp; omega) ?_; intro v' w1 ho hgr hat)
        refine ⟨⟨i + 1, i + 1, os ++ [(s.data.toList.drop a).take (i - a)], by omega, by omega, by simp; omega, by simp, by simp, ?_, ?_, ?_⟩, by simp [intOf]; omega⟩
        · show _ = _
          rw [HEQ.out, drop_at _ i c HC.out, hcb, split_hit]
          simp [glue_nil]
        · show World.ownsRow _ _ _ _ _ _ _
          rw [List.map_append, List.map_singleton, ← HX.out]
          simpa using ho
        · exact (HB.out.alloc hHB _).grown hgr (by simp; omega) (fun k hk => (HOW.out.lt k hk).1)
      · have hcb' : ((c.toNat : Int) == (b.toNat : Int)) = false := by
          have : c.toNat ≠ b.toNat := fun h => hcb (UInt8.toNat_inj.1 h)
          simp; omega
        go_wp2_with fail
        refine ⟨⟨i + 1, a, os, by omega, by omega, by omega, by simp, by simp, ?_, HOW, HB⟩, by simp [intOf]; omega⟩
        show _ = _
        rw [HEQ.out, drop_at _ i c HC.out, split_miss _ _ _ _ hcb, take_next _ a i c HC.out hai]
    · have hie : i = s.size := by omega
      have hHB := HB.out.size
      have hext : (.string (s.extract a s.size) : Value) = str (s.data.toList.drop a) := by
        unfold str
        rw [← List.take_of_length_le (show (s.data.toList.drop a).length ≤ s.size - a from by rw [List.length_drop]; omega), ← Lib.extract_data]
      have HX := Lib.hid hext
      clear hext
      have hos' : os.length < 2000000 := by omega
      go_wp2_with (at_builtin; refine wpList_append_own _ rfl (.tmp 28) (.tmp 32) 39 rfl w.heap.size 9 i0 _ 1 16 Tryd.underlying39 hi hz0 hz1 hz2 rfl (by decide) _ _ _ rfl (HOW.out.alloc _) ⟨wr.heap.size, 0, none⟩ 1 1 [.string (s.extract a s.size)] rfl rfl (cell_one_new _ _ _) (by simp [Value.oneCell']) (by unfold maxLen; omega) (by omega) (by simp; omega) ?_; intro v' w1 ho hgr hat)
      go_ret
      refine ⟨_, rfl, ?_, (HB.out.alloc hHB _).grown hgr (by simp; omega) (fun k hk => (HOW.out.lt k hk).1)⟩
      have e : splitB b s.data.toList = os ++ [s.data.toList.drop a] := by
        rw [HEQ.out, List.drop_eq_nil_of_le (show s.data.toList.length ≤ i from by omega), List.take_of_length_le (by rw [List.length_drop]; omega)]
        simp [splitB, glue]
      rw [e, List.map_append, List.map_singleton, ← HX.out]
      simpa using ho
end Go.Proofs.YtlopmejmionnpaaDoor.As
