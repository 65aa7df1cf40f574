/- The codes of the package duo, weakened, as DuoNeeds asks for them. -/
import Derived.Test.YtipepbfpfmadaaaGreatDoorDuK
import Derived.Test.YtipepbfpfmadaaaGreatDoorDnP
set_option linter.unusedVariables false
set_option linter.unusedSimpArgs false
set_option maxRecDepth 20000
namespace Go.Proofs.YtipepbfpfmadaaaGreatDoor.As.T
open Go.RowKit

theorem du1 (W : World) (TI : TabI W) (TO : TabO W) (k A t : Nat) (hk : k = 6 ∨ k = 7) (hA : A < 2) (ht : t < 2) :
    Calls Tryz.prog 19 #[.agg #[.int .i64 (k : Int), .int .i64 0, .int .i64 (A : Int), .int .i64 ((1 - A : Nat) : Int)], .int .i64 1, .int .i64 2, .int .i64 (t : Int), .int .u32 16, .int .u32 0] W (CodeIs W (resL (duF k A t))) := by
  by_cases e : t = A
  · subst e
    rcases hk with rfl | rfl
    · have hA1 : AskP 6 0 t ((1 - t : Nat) : Int) 1 2 t := ⟨by unfold RightP; omega, by omega, by omega, by decide⟩
      have h := codePetInA_any W TI TO 0 ((1 - t : Nat) : Int) 2 0 t 16 hA1 (by omega) (by omega)
      unfold duF
      first | rw [if_pos rfl, if_pos rfl] | rw [if_neg (by decide), if_pos rfl]
      exact h
    · have hA1 : AskP 7 0 t ((1 - t : Nat) : Int) 1 2 t := ⟨by unfold RightP; omega, by omega, by omega, by decide⟩
      have h := codeDekFast_any W TI TO 0 ((1 - t : Nat) : Int) 2 0 t 16 hA1 (by omega) (by omega)
      unfold duF
      first | rw [if_pos rfl, if_pos rfl] | rw [if_neg (by decide), if_pos rfl]
      exact h
  · have he : ((t : Int) == (A : Int)) = false := by simp; omega
    have hm : ((t : Int) != (A : Int)) = true := by simp; omega
    obtain rfl : t = 1 - A := by omega
    rcases hk with rfl | rfl
    · have hA1 : AskP 6 0 A ((1 - A : Nat) : Int) 1 2 ((1 - A : Nat) : Int) := ⟨by unfold RightP; omega, by omega, by omega, by decide⟩
      have h := codePetInB_any W TI TO 0 A 2 0 (1 - A) 16 hA1 (by omega) (by omega) he hm
      unfold duF
      first | rw [if_pos rfl, if_neg e] | rw [if_neg (by decide), if_neg e]
      exact h
    · have hA1 : AskP 7 0 A ((1 - A : Nat) : Int) 1 2 ((1 - A : Nat) : Int) := ⟨by unfold RightP; omega, by omega, by omega, by decide⟩
      have h := codeDekSlow_any W TI TO 0 A 2 0 (1 - A) 16 hA1 (by omega) (by omega) he hm
      unfold duF
      first | rw [if_pos rfl, if_neg e] | rw [if_neg (by decide), if_neg e]
      exact h
theorem du2 (W : World) (TI : TabI W) (TO : TabO W) (k A t : Nat) (hk : k = 6 ∨ k = 7) (hA : A < 2) (ht : t < 2) :
    Calls Tryz.prog 19 #[.agg #[.int .i64 (k : Int), .int .i64 0, .int .i64 (A : Int), .int .i64 ((1 - A : Nat) : Int)], .int .i64 2, .int .i64 2, .int .i64 (t : Int), .int .u32 16, .int .u32 0] W (CodeIs W (resL (duG k A t))) := by
  by_cases e : t = A
  · subst e
    rcases hk with rfl | rfl
    · have hA1 : AskP 6 0 t ((1 - t : Nat) : Int) 2 2 t := ⟨by unfold RightP; omega, by omega, by omega, by decide⟩
      have h := codePetOutA_any W TI TO 0 ((1 - t : Nat) : Int) 2 0 t 16 hA1 (by omega) (by omega)
      unfold duG
      first | rw [if_pos rfl, if_pos rfl] | rw [if_neg (by decide), if_pos rfl]
      exact h
    · have hA1 : AskP 7 0 t ((1 - t : Nat) : Int) 2 2 t := ⟨by unfold RightP; omega, by omega, by omega, by decide⟩
      have h := codeDekOutA_any W TI TO 0 ((1 - t : Nat) : Int) 2 0 t 16 hA1 (by omega) (by omega)
      unfold duG
      first | rw [if_pos rfl, if_pos rfl] | rw [if_neg (by decide), if_pos rfl]
      exact h
  · have he : ((t : Int) == (A : Int)) = false := by simp; omega
    have hm : ((t : Int) != (A : Int)) = true := by simp; omega
    obtain rfl : t = 1 - A := by omega
    rcases hk with rfl | rfl
    · have hA1 : AskP 6 0 A ((1 - A : Nat) : Int) 2 2 ((1 - A : Nat) : Int) := ⟨by unfold RightP; omega, by omega, by omega, by decide⟩
      have h := codePetOutB_any W TI TO 0 A 2 0 (1 - A) 16 hA1 (by omega) (by omega) he hm
      unfold duG
      first | rw [if_pos rfl, if_neg e] | rw [if_neg (by decide), if_neg e]
      exact h
    · have hA1 : AskP 7 0 A ((1 - A : Nat) : Int) 2 2 ((1 - A : Nat) : Int) := ⟨by unfold RightP; omega, by omega, by omega, by decide⟩
      have h := codeDekOutB_any W TI TO 0 A 2 0 (1 - A) 16 hA1 (by omega) (by omega) he hm
      unfold duG
      first | rw [if_pos rfl, if_neg e] | rw [if_neg (by decide), if_neg e]
      exact h
theorem ins_of {W : World} {b : Nat} {e : TypeId} {v : Value} {l : List Ins} (h : W.ownsRow b e 5 v l.length (flat l)) : InS W v l.length l := by
  have hr := Rd.of_own h
  obtain ⟨A, cap, rfl⟩ := hr.form
  exact ⟨rfl, A, cap, rfl, fun hn => hr.cells hn⟩
theorem dn_1 (W : World) (k a b c t : Int) (bo : Nat) (l : List Ins) (hl : l.length ≤ 3000) (ho : W.heap[bo]? = some (.cells #[.int .i64 k, .int .i64 0, .int .i64 a, .int .i64 b] 27 (0, 0)))
    (hc : Calls Tryz.prog 19 #[.agg #[.int .i64 k, .int .i64 0, .int .i64 a, .int .i64 b], .int .i64 c, .int .i64 2, .int .i64 t, .int .u32 16, .int .u32 0] W (CodeIs W l)) :
    Calls Tryz.prog 18 #[.int .i64 c, .int .i64 t, .pointer (some ⟨bo, 0, none⟩)] W (CodeIs W (l.map weak1)) := by
  obtain ⟨a0, a1, a2, a3⟩ := cellsQ4 ho
  clear ho
  go_enter Tryz.func18, Tryz.ntmps18
  go_wp2_with (first
    | (go_at_call 19; refine hc.mono ?_; rintro r w1 ⟨⟨v, rfl, hv⟩, hb⟩)
    | (go_at_call 20; refine (weak_any w1 v l.length l (ins_of hv) hl).mono ?_; rintro r w2 ⟨u, rfl, hu, hb2⟩))
  go_ret2
  exact ⟨⟨_, rfl, by rw [List.length_map]; exact own_mono hu hb.size⟩, hb.trans (hb2.mono hb.size)⟩
end Go.Proofs.YtipepbfpfmadaaaGreatDoor.As.T
