/- The walks of the package deadlatchref02: a kind's name and fields. -/
import Derived.Test.YtlopmejmionnpaaDoorRefC
import Derived.BigQuiet
import Derived.Deep.QuietTactic
set_option linter.unusedVariables false
namespace Go.Proofs.YtlopmejmionnpaaDoor.As
open Go.RowKit

theorem rows_all : ∀ i, i < 28 → opName (i : Nat) = (opRows.getD i []).takeWhile (· != 32) ∧ opField (i : Nat) = ((opRows.getD i []).dropWhile (· != 32)).drop 1 ∧ (opRows.getD i []).length ≤ 20 := by decide +kernel
theorem takeWhile_hit (l : B8) (i : Nat) (b : UInt8) (h : l[i]? = some b) (hn : ∀ c ∈ l.take i, c ≠ b) : l.takeWhile (· != b) = l.take i ∧ l.dropWhile (· != b) = l.drop i := by
  induction l generalizing i with
  | nil => simp at h
  | cons c l ih =>
    cases i with
    | zero =>
      have : c = b := by simpa using h
      simp [this]
    | succ i =>
      have hc : c ≠ b := hn c (by simp)
      have := ih i (by simpa using h) (fun x hx => hn x (by simp [hx]))
      have hb : (c != b) = true := by simp [hc]
      rw [List.takeWhile_cons, List.dropWhile_cons, hb]
      simp [this]
theorem takeWhile_miss (l : B8) (b : UInt8) (hn : ∀ c ∈ l, c ≠ b) : l.takeWhile (· != b) = l ∧ l.dropWhile (· != b) = [] := by
  induction l with
  | nil => simp
  | cons c l ih =>
    have hc : c ≠ b := hn c (by simp)
    have := ih (fun x hx => hn x (by simp [hx]))
    have hb : (c != b) = true := by simp [hc]
    rw [List.takeWhile_cons, List.dropWhile_cons, hb]
    simp [this]
theorem cell_new_at {w : World} {cs : Array Value} {t : TypeId} {k : Nat} {v : Value} (h : cs[k]? = some v) : (w.alloc (.cells cs t)).cell? ⟨w.heap.size, k, none⟩ = some v := by
  unfold World.cell?
  rw [heap_alloc_new]
  simp [h]
theorem rowsArr : (#[.string ⟨#[104, 97, 108, 116]⟩, .string ⟨#[115, 101, 116, 32, 65, 75]⟩, .string ⟨#[109, 111, 118, 101, 32, 65, 66]⟩, .string ⟨#[97, 100, 100, 32, 65, 66, 67]⟩, .string ⟨#[115, 117, 98, 32, 65, 66, 67]⟩, .string ⟨#[109, 117, 108, 32, 65, 66, 67]⟩, .string ⟨#[97, 110, 100, 32, 65, 66, 67]⟩, .string ⟨#[111, 114, 32, 65, 66, 67]⟩, .string ⟨#[120, 111, 114, 32, 65, 66, 67]⟩, .string ⟨#[115, 104, 108, 32, 65, 66, 67]⟩, .string ⟨#[115, 104, 114, 32, 65, 66, 67]⟩, .string ⟨#[108, 101, 115, 115, 32, 65, 66, 67]⟩, .string ⟨#[115, 97, 109, 101, 32, 65, 66, 67]⟩, .string ⟨#[106, 117, 109, 112, 32, 84]⟩, .string ⟨#[122, 101, 114, 111, 32, 65, 84]⟩, .string ⟨#[115, 111, 109, 101, 32, 65, 84]⟩, .string ⟨#[108, 111, 97, 100, 32, 65, 77, 75]⟩, .string ⟨#[115, 116, 111, 114, 101, 32, 65, 77, 75]⟩, .string ⟨#[102, 101, 110, 99, 101]⟩, .string ⟨#[115, 119, 97, 112, 32, 65, 77, 75]⟩, .string ⟨#[102, 101, 116, 99, 104, 32, 65, 77, 75]⟩, .string ⟨#[99, 97, 115, 32, 65, 67, 77, 75]⟩, .string ⟨#[111, 117, 116, 32, 65]⟩, .string ⟨#[119, 97, 105, 116, 32, 65, 77, 75]⟩, .string ⟨#[119, 97, 107, 101, 32, 65, 77, 75]⟩, .string ⟨#[114, 101, 109, 111, 116, 101]⟩, .string ⟨#[121, 105, 101, 108, 100]⟩, .string ⟨#[109, 97, 114, 107, 32, 65, 75]⟩] : Array Value).toList = opRows.map str := rfl

theorem name2_out (w : World) (op : Int) (h : op < 0 ∨ 28 ≤ op) :
    Calls Tryd.prog 36 #[.int .i64 op] w fun e w' => e = .returned (.tuple #[str (opName op), str (opField op)]) ∧ Below w.heap.size w w' := by
  have e1 : opName op = [] := by unfold opName; rw [if_neg (by omega)]
  have e2 : opField op = [] := by unfold opField; rw [if_neg (by omega)]
  rw [e1, e2]
  rcases h with h | h
  · go_enter Tryd.func36, Tryd.ntmps36
    go_wp2_with fail
    go_ret2
    exact ⟨rfl, (Below.refl _ _).alloc (Nat.le_refl _) _⟩
  · have d : decide (op < 0) = false := by simp; omega
    have d2 : decide (28 ≤ op) = true := by simp; omega
    go_enter Tryd.func36, Tryd.ntmps36
    go_wp2_with fail
    go_ret2
    exact ⟨rfl, (Below.refl _ _).alloc (Nat.le_refl _) _⟩
set_option maxHeartbeats 800000 in
theorem name2_in (w : World) (k : Nat) (h : k < 28) :
    Calls Tryd.prog 36 #[.int .i64 k] w fun e w' => e = .returned (.tuple #[str (opName k), str (opField k)]) ∧ Below w.heap.size w w' := by
  obtain ⟨s, hs, hcell⟩ : ∃ s : ByteArray, s.data.toList = opRows.getD k [] ∧ (w.alloc (.cells #[.string ⟨#[104, 97, 108, 116]⟩, .string ⟨#[115, 101, 116, 32, 65, 75]⟩, .string ⟨#[109, 111, 118, 101, 32, 65, 66]⟩, .string ⟨#[97, 100, 100, 32, 65, 66, 67]⟩, .string ⟨#[115, 117, 98, 32, 65, 66, 67]⟩, .string ⟨#[109, 117, 108, 32, 65, 66, 67]⟩, .string ⟨#[97, 110, 100, 32, 65, 66, 67]⟩, .string ⟨#[111, 114, 32, 65, 66, 67]⟩, .string ⟨#[120, 111, 114, 32, 65, 66, 67]⟩, .string ⟨#[115, 104, 108, 32, 65, 66, 67]⟩, .string ⟨#[115, 104, 114, 32, 65, 66, 67]⟩, .string ⟨#[108, 101, 115, 115, 32, 65, 66, 67]⟩, .string ⟨#[115, 97, 109, 101, 32, 65, 66, 67]⟩, .string ⟨#[106, 117, 109, 112, 32, 84]⟩, .string ⟨#[122, 101, 114, 111, 32, 65, 84]⟩, .string ⟨#[115, 111, 109, 101, 32, 65, 84]⟩, .string ⟨#[108, 111, 97, 100, 32, 65, 77, 75]⟩, .string ⟨#[115, 116, 111, 114, 101, 32, 65, 77, 75]⟩, .string ⟨#[102, 101, 110, 99, 101]⟩, .string ⟨#[115, 119, 97, 112, 32, 65, 77, 75]⟩, .string ⟨#[102, 101, 116, 99, 104, 32, 65, 77, 75]⟩, .string ⟨#[99, 97, 115, 32, 65, 67, 77, 75]⟩, .string ⟨#[111, 117, 116, 32, 65]⟩, .string ⟨#[119, 97, 105, 116, 32, 65, 77, 75]⟩, .string ⟨#[119, 97, 107, 101, 32, 65, 77, 75]⟩, .string ⟨#[114, 101, 109, 111, 116, 101]⟩, .string ⟨#[121, 105, 101, 108, 100]⟩, .string ⟨#[109, 97, 114, 107, 32, 65, 75]⟩] 9)).cell? ⟨w.heap.size, k, none⟩ = some (.string s) := by
    refine ⟨⟨(opRows.getD k []).toArray⟩, rfl, ?_⟩
    have e : (#[.string ⟨#[104, 97, 108, 116]⟩, .string ⟨#[115, 101, 116, 32, 65, 75]⟩, .string ⟨#[109, 111, 118, 101, 32, 65, 66]⟩, .string ⟨#[97, 100, 100, 32, 65, 66, 67]⟩, .string ⟨#[115, 117, 98, 32, 65, 66, 67]⟩, .string ⟨#[109, 117, 108, 32, 65, 66, 67]⟩, .string ⟨#[97, 110, 100, 32, 65, 66, 67]⟩, .string ⟨#[111, 114, 32, 65, 66, 67]⟩, .string ⟨#[120, 111, 114, 32, 65, 66, 67]⟩, .string ⟨#[115, 104, 108, 32, 65, 66, 67]⟩, .string ⟨#[115, 104, 114, 32, 65, 66, 67]⟩, .string ⟨#[108, 101, 115, 115, 32, 65, 66, 67]⟩, .string ⟨#[115, 97, 109, 101, 32, 65, 66, 67]⟩, .string ⟨#[106, 117, 109, 112, 32, 84]⟩, .string ⟨#[122, 101, 114, 111, 32, 65, 84]⟩, .string ⟨#[115, 111, 109, 101, 32, 65, 84]⟩, .string ⟨#[108, 111, 97, 100, 32, 65, 77, 75]⟩, .string ⟨#[115, 116, 111, 114, 101, 32, 65, 77, 75]⟩, .string ⟨#[102, 101, 110, 99, 101]⟩, .string ⟨#[115, 119, 97, 112, 32, 65, 77, 75]⟩, .string ⟨#[102, 101, 116, 99, 104, 32, 65, 77, 75]⟩, .string ⟨#[99, 97, 115, 32, 65, 67, 77, 75]⟩, .string ⟨#[111, 117, 116, 32, 65]⟩, .string ⟨#[119, 97, 105, 116, 32, 65, 77, 75]⟩, .string ⟨#[119, 97, 107, 101, 32, 65, 77, 75]⟩, .string ⟨#[114, 101, 109, 111, 116, 101]⟩, .string ⟨#[121, 105, 101, 108, 100]⟩, .string ⟨#[109, 97, 114, 107, 32, 65, 75]⟩] : Array Value)[k]? = some (str (opRows.getD k [])) := by
      rw [← Array.getElem?_toList, rowsArr, List.getElem?_map, List.getD_eq_getElem?_getD]
      have : k < opRows.length := h
      rw [List.getElem?_eq_getElem this]
      rfl
    generalize (#[.string ⟨#[104, 97, 108, 116]⟩, .string ⟨#[115, 101, 116, 32, 65, 75]⟩, .string ⟨#[109, 111, 118, 101, 32, 65, 66]⟩, .string ⟨#[97, 100, 100, 32, 65, 66, 67]⟩, .string ⟨#[115, 117, 98, 32, 65, 66, 67]⟩, .string ⟨#[109, 117, 108, 32, 65, 66, 67]⟩, .string ⟨#[97, 110, 100, 32, 65, 66, 67]⟩, .string ⟨#[111, 114, 32, 65, 66, 67]⟩, .string ⟨#[120, 111, 114, 32, 65, 66, 67]⟩, .string ⟨#[115, 104, 108, 32, 65, 66, 67]⟩, .string ⟨#[115, 104, 114, 32, 65, 66, 67]⟩, .string ⟨#[108, 101, 115, 115, 32, 65, 66, 67]⟩, .string ⟨#[115, 97, 109, 101, 32, 65, 66, 67]⟩, .string ⟨#[106, 117, 109, 112, 32, 84]⟩, .string ⟨#[122, 101, 114, 111, 32, 65, 84]⟩, .string ⟨#[115, 111, 109, 101, 32, 65, 84]⟩, .string ⟨#[108, 111, 97, 100, 32, 65, 77, 75]⟩, .string ⟨#[115, 116, 111, 114, 101, 32, 65, 77, 75]⟩, .string ⟨#[102, 101, 110, 99, 101]⟩, .string ⟨#[115, 119, 97, 112, 32, 65, 77, 75]⟩, .string ⟨#[102, 101, 116, 99, 104, 32, 65, 77, 75]⟩, .string ⟨#[99, 97, 115, 32, 65, 67, 77, 75]⟩, .string ⟨#[111, 117, 116, 32, 65]⟩, .string ⟨#[119, 97, 105, 116, 32, 65, 77, 75]⟩, .string ⟨#[119, 97, 107, 101, 32, 65, 77, 75]⟩, .string ⟨#[114, 101, 109, 111, 116, 101]⟩, .string ⟨#[121, 105, 101, 108, 100]⟩, .string ⟨#[109, 97, 114, 107, 32, 65, 75]⟩] : Array Value) = arr at e ⊢
    exact cell_new_at e
  obtain ⟨h1, h2, h3⟩ := rows_all k h
  rw [← hs] at h1 h2 h3
  clear hs
  have hlen := toList_len s
  rw [hlen] at h3
  generalize opName k = nm at h1 ⊢
  generalize opField k = fd at h2 ⊢
  have H1 := Lib.hid h1
  have H2 := Lib.hid h2
  clear h1 h2
  have d : decide ((k : Int) < 0) = false := by simp
  have d2 : decide (28 ≤ (k : Int)) = false := by simp; omega
  go_enter Tryd.func36, Tryd.ntmps36
  go_wp2_with fail
  have HB : Hid (Below w.heap.size w (w.alloc (.cells #[.string ⟨#[104, 97, 108, 116]⟩, .string ⟨#[115, 101, 116, 32, 65, 75]⟩, .string ⟨#[109, 111, 118, 101, 32, 65, 66]⟩, .string ⟨#[97, 100, 100, 32, 65, 66, 67]⟩, .string ⟨#[115, 117, 98, 32, 65, 66, 67]⟩, .string ⟨#[109, 117, 108, 32, 65, 66, 67]⟩, .string ⟨#[97, 110, 100, 32, 65, 66, 67]⟩, .string ⟨#[111, 114, 32, 65, 66, 67]⟩, .string ⟨#[120, 111, 114, 32, 65, 66, 67]⟩, .string ⟨#[115, 104, 108, 32, 65, 66, 67]⟩, .string ⟨#[115, 104, 114, 32, 65, 66, 67]⟩, .string ⟨#[108, 101, 115, 115, 32, 65, 66, 67]⟩, .string ⟨#[115, 97, 109, 101, 32, 65, 66, 67]⟩, .string ⟨#[106, 117, 109, 112, 32, 84]⟩, .string ⟨#[122, 101, 114, 111, 32, 65, 84]⟩, .string ⟨#[115, 111, 109, 101, 32, 65, 84]⟩, .string ⟨#[108, 111, 97, 100, 32, 65, 77, 75]⟩, .string ⟨#[115, 116, 111, 114, 101, 32, 65, 77, 75]⟩, .string ⟨#[102, 101, 110, 99, 101]⟩, .string ⟨#[115, 119, 97, 112, 32, 65, 77, 75]⟩, .string ⟨#[102, 101, 116, 99, 104, 32, 65, 77, 75]⟩, .string ⟨#[99, 97, 115, 32, 65, 67, 77, 75]⟩, .string ⟨#[111, 117, 116, 32, 65]⟩, .string ⟨#[119, 97, 105, 116, 32, 65, 77, 75]⟩, .string ⟨#[119, 97, 107, 101, 32, 65, 77, 75]⟩, .string ⟨#[114, 101, 109, 111, 116, 101]⟩, .string ⟨#[121, 105, 101, 108, 100]⟩, .string ⟨#[109, 97, 114, 107, 32, 65, 75]⟩] 9))) := (Below.refl _ _).alloc (Nat.le_refl _) _
  generalize w.alloc (.cells #[.string ⟨#[104, 97, 108, 116]⟩, .string ⟨#[115, 101, 116, 32, 65, 75]⟩, .string ⟨#[109, 111, 118, 101, 32, 65, 66]⟩, .string ⟨#[97, 100, 100, 32, 65, 66, 67]⟩, .string ⟨#[115, 117, 98, 32, 65, 66, 67]⟩, .string ⟨#[109, 117, 108, 32, 65, 66, 67]⟩, .string ⟨#[97, 110, 100, 32, 65, 66, 67]⟩, .string ⟨#[111, 114, 32, 65, 66, 67]⟩, .string ⟨#[120, 111, 114, 32, 65, 66, 67]⟩, .string ⟨#[115, 104, 108, 32, 65, 66, 67]⟩, .string ⟨#[115, 104, 114, 32, 65, 66, 67]⟩, .string ⟨#[108, 101, 115, 115, 32, 65, 66, 67]⟩, .string ⟨#[115, 97, 109, 101, 32, 65, 66, 67]⟩, .string ⟨#[106, 117, 109, 112, 32, 84]⟩, .string ⟨#[122, 101, 114, 111, 32, 65, 84]⟩, .string ⟨#[115, 111, 109, 101, 32, 65, 84]⟩, .string ⟨#[108, 111, 97, 100, 32, 65, 77, 75]⟩, .string ⟨#[115, 116, 111, 114, 101, 32, 65, 77, 75]⟩, .string ⟨#[102, 101, 110, 99, 101]⟩, .string ⟨#[115, 119, 97, 112, 32, 65, 77, 75]⟩, .string ⟨#[102, 101, 116, 99, 104, 32, 65, 77, 75]⟩, .string ⟨#[99, 97, 115, 32, 65, 67, 77, 75]⟩, .string ⟨#[111, 117, 116, 32, 65]⟩, .string ⟨#[119, 97, 105, 116, 32, 65, 77, 75]⟩, .string ⟨#[119, 97, 107, 101, 32, 65, 77, 75]⟩, .string ⟨#[114, 101, 109, 111, 116, 101]⟩, .string ⟨#[121, 105, 101, 108, 100]⟩, .string ⟨#[109, 97, 114, 107, 32, 65, 75]⟩] 9) = W at HB hcell ⊢
  clear hcell
  go_loopw [6] (fun iv wr => ∃ (i : Nat), wr = W ∧ i ≤ s.size ∧ iv = .int .i64 i ∧ Hid (∀ c ∈ s.data.toList.take i, c ≠ 32)) (fun i _ => s.size - (intOf i).toNat)
  case atStart => exact ⟨0, rfl, by omega, rfl, fun c hc => by simp at hc⟩
  case round =>
    obtain ⟨i, rfl, hil, rfl, HD⟩ := hrel
    by_cases hlt : i < s.size
    · obtain ⟨c, hc⟩ : ∃ c, s.data.toList[i]? = some c := ⟨_, List.getElem?_eq_getElem (by omega)⟩
      obtain ⟨hi, hcc⟩ := at_byte hc
      have HC := Lib.hid hc
      clear hc
      by_cases hd : c = 32
      · have d0 : ((c.toNat : Int) == 32) = true := by rw [hd]; rfl
        have hh := takeWhile_hit s.data.toList i 32 (by rw [HC.out, hd]) HD.out
        have HH := Lib.hid hh
        clear hh
        go_wp2_with fail
        go_quiet (fail)
        go_wp2_with fail
        go_ret2
        refine ⟨?_, below_drewN nq HB.out⟩
        rw [H1.out, H2.out, HH.out.1, HH.out.2, List.drop_drop, ← ext_take, ← ext_drop]
        rfl
      · have d0 : ((c.toNat : Int) == 32) = false := by
          rw [beq_eq_false_iff_ne]; intro h; exact hd (UInt8.toNat_inj.1 (by have : (32 : UInt8).toNat = 32 := rfl; omega))
        go_wp2_with fail
        have ht := take_succ_at HC.out
        refine ⟨⟨i + 1, True.intro, by omega, by simp, ?_⟩, by simp [intOf]; omega⟩
        rw [ht]
        intro x hx
        rcases List.mem_append.1 hx with hx | hx
        · exact HD.out x hx
        · have : x = c := by simpa using hx
          rw [this]; exact hd
    · have hta : s.data.toList.take i = s.data.toList := List.take_of_length_le (by omega)
      have hh := takeWhile_miss s.data.toList 32 (by rw [← hta]; exact HD.out)
      have HH := Lib.hid hh
      clear hh hta
      go_wp2_with fail
      go_ret2
      refine ⟨?_, HB.out⟩
      rw [H1.out, H2.out, HH.out.1, HH.out.2]
      rfl
theorem name2_any (w : World) (op : Int) :
    Calls Tryd.prog 36 #[.int .i64 op] w fun e w' => ∃ sn sf : ByteArray, sn.data.toList = opName op ∧ sf.data.toList = opField op ∧ e = .returned (.tuple #[.string sn, .string sf]) ∧ Below w.heap.size w w' := by
  by_cases h : op < 0 ∨ 28 ≤ op
  · exact (name2_out w op h).mono fun e w' h => ⟨⟨(opName op).toArray⟩, ⟨(opField op).toArray⟩, rfl, rfl, h⟩
  · obtain ⟨k, rfl⟩ := Int.eq_ofNat_of_zero_le (show 0 ≤ op by omega)
    exact (name2_in w k (by omega)).mono fun e w' h => ⟨⟨(opName k).toArray⟩, ⟨(opField k).toArray⟩, rfl, rfl, h⟩
theorem field_len (op : Int) : (opField op).length ≤ 20 := by
  unfold opField
  split
  · next h =>
    obtain ⟨k, rfl⟩ := Int.eq_ofNat_of_zero_le h.1
    have : ∀ k, k < 28 → (opFields.getD k []).length ≤ 20 := by decide
    exact this k (by omega)
  · simp
theorem has_any (w : World) (op : Int) (b : UInt8) :
    Calls Tryd.prog 19 #[.int .i64 op, .int .u8 b.toNat] w fun e w' => e = .returned (.bool (hasB op b)) ∧ Below w.heap.size w w' := by
  obtain ⟨r, hr0⟩ : ∃ r, r = hasB op b := ⟨_, rfl⟩
  rw [← hr0]
  have HR0 := Lib.hid hr0
  clear hr0
  go_enter Tryd.func19, Tryd.ntmps19
  go_wp2_with fail
  refine (name2_any _ _).mono ?_; rintro e w' ⟨sn, s, -, hs, rfl, HB⟩
  have hm := field_len op
  have hr : r = s.data.toList.contains b := by rw [HR0.out]; unfold hasB; rw [hs]
  have hlen := toList_len s
  rw [← hs, hlen] at hm
  clear hs
  have HR := Lib.hid hr
  clear HR0
  have HB := Lib.hid HB
  clear hr
  go_wp2_with fail
  go_loopw [7] (fun iv wr => ∃ (i : Nat), wr = w' ∧ i ≤ s.size ∧ iv = .int .i64 i ∧ Hid (∀ c ∈ s.data.toList.take i, c ≠ b)) (fun i _ => s.size - (intOf i).toNat)
  case atStart => exact ⟨0, rfl, by omega, rfl, fun c hc => by simp at hc⟩
  case round =>
    obtain ⟨i, rfl, hil, rfl, HD⟩ := hrel
    by_cases hlt : i < s.size
    · obtain ⟨c, hc⟩ : ∃ c, s.data.toList[i]? = some c := ⟨_, List.getElem?_eq_getElem (by omega)⟩
      obtain ⟨hi, hcc⟩ := at_byte hc
      have HC := Lib.hid hc
      clear hc
      by_cases hd : c = b
      · have d0 : ((c.toNat : Int) == (b.toNat : Int)) = true := by rw [hd]; simp
        have hall : s.data.toList.contains b = true := by
          rw [List.contains_iff_mem, ← hd]; exact List.mem_of_getElem? HC.out
        have HV := Lib.hid hall
        clear hall hd
        go_wp2_with fail
        go_ret
        exact ⟨by rw [HR.out, HV.out] <;> rfl, HB.out⟩
      · have d0 := byte_ne hd
        go_wp2_with fail
        have ht := take_succ_at HC.out
        refine ⟨⟨i + 1, True.intro, by omega, by simp, ?_⟩, by simp [intOf]; omega⟩
        rw [ht]
        intro x hx
        rcases List.mem_append.1 hx with hx | hx
        · exact HD.out x hx
        · have : x = c := by simpa using hx
          rw [this]; exact hd
    · have hta : s.data.toList.take i = s.data.toList := List.take_of_length_le (by omega)
      have hall : s.data.toList.contains b = false := by
        cases e : s.data.toList.contains b with
        | false => rfl
        | true => exact absurd rfl (HD.out b (by rw [hta]; exact List.contains_iff_mem.1 e))
      have HV := Lib.hid hall
      clear hall hta
      go_wp2_with fail
      go_ret
      exact ⟨by rw [HR.out, HV.out] <;> rfl, HB.out⟩
theorem idx_first (l : List B8) (x : B8) (i : Nat) (h : l[i]? = some x) (hn : ∀ j, j < i → l.getD j [] ≠ x) : l.contains x = true ∧ l.idxOf x = i := by
  refine ⟨List.contains_iff_mem.2 (List.mem_of_getElem? h), ?_⟩
  induction l generalizing i with
  | nil => simp at h
  | cons y l ih =>
    cases i with
    | zero =>
      have : y = x := by simpa using h
      rw [this]; simp
    | succ i =>
      have h0 : y ≠ x := hn 0 (by omega)
      have := ih i (by simpa using h) (fun j hj => hn (j + 1) (by omega))
      have hb : (y == x) = false := beq_eq_false_iff_ne.2 h0
      simp [List.idxOf_cons, hb, this]
theorem op_any (w : World) (s : ByteArray) (hm : s.size ≤ 1000000) :
    Calls Tryd.prog 51 #[.string s] w fun e w' => e = .returned (.int .i64 (opB s.data.toList)) ∧ Below w.heap.size w w' := by
  go_enter Tryd.func51, Tryd.ntmps51
  go_wp2_with fail
  go_loopw [3] (fun iv wr => ∃ (i : Nat), Hid (Below w.heap.size w wr) ∧ i ≤ 28 ∧ iv = .int .i64 i ∧ Hid (∀ j, j < i → opNames.getD j [] ≠ s.data.toList)) (fun i _ => 28 - (intOf i).toNat)
  case atStart => exact ⟨0, Below.refl _ _, by omega, rfl, fun c hc => absurd hc (by omega)⟩
  case round =>
    obtain ⟨i, HB, hil, rfl, HD⟩ := hrel
    by_cases hlt : i < 28
    · go_wp2_with fail
      refine (name2_any _ _).mono ?_; rintro e w' ⟨t, sf, ht, -, rfl, HB2⟩
      have en : opName (i : Int) = opNames.getD i [] := by unfold opName; rw [if_pos ⟨by omega, by omega⟩]; rfl
      have eg : opNames[i]? = some (opNames.getD i []) := by
        rw [List.getD_eq_getElem?_getD, List.getElem?_eq_getElem (show i < opNames.length from hlt)]; rfl
      rw [en] at ht
      by_cases heq : opNames.getD i [] = s.data.toList
      · have hb : (t.toList == s.toList) = true := by rw [ByteArray.toList_eq, ByteArray.toList_eq, ht, heq]; simp
        rw [heq] at eg
        obtain ⟨g1, g2⟩ := idx_first _ _ _ eg HD.out
        have hv : opB s.data.toList = i := by unfold opB; rw [if_pos g1, g2]
        have HV := Lib.hid hv
        clear heq eg g1 g2 hv ht en
        go_wp2_with fail
        go_ret
        exact ⟨by rw [HV.out] <;> rfl, HB.out.trans (HB2.mono HB.out.size)⟩
      · have hb : (t.toList == s.toList) = false := by rw [ByteArray.toList_eq, ByteArray.toList_eq, ht]; exact beq_eq_false_iff_ne.2 heq
        have HE := Lib.hid heq
        clear heq eg ht en
        go_wp2_with fail
        refine ⟨⟨i + 1, HB.out.trans (HB2.mono HB.out.size), by omega, by simp, ?_⟩, by simp [intOf]; omega⟩
        intro j hj
        by_cases e : j = i
        · rw [e]; exact HE.out
        · exact HD.out j (by omega)
    · have hi : i = 28 := by omega
      subst hi
      have hv : opB s.data.toList = -1 := by
        unfold opB
        rw [if_neg]
        intro h
        obtain ⟨j, hj⟩ := List.getElem?_of_mem (List.contains_iff_mem.1 h)
        have hl : j < 28 := (List.getElem?_eq_some_iff.1 hj).1
        apply HD.out j hl
        rw [List.getD_eq_getElem?_getD, hj]; rfl
      have HV := Lib.hid hv
      clear hv
      go_wp2_with fail
      go_ret
      exact ⟨by rw [HV.out] <;> rfl, HB.out⟩
end Go.Proofs.YtlopmejmionnpaaDoor.As
