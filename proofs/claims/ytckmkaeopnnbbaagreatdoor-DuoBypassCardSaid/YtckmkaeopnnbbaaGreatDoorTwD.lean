/- Plain Lean: how the loops of DuoBypass go on. No program in sight. -/
import Derived.Test.YtckmkaeopnnbbaaGreatDoorTwB
import Derived.Test.YtckmkaeopnnbbaaGreatDoorTgC
set_option linter.unusedVariables false
set_option linter.unusedSimpArgs false
namespace Go.Proofs.YtckmkaeopnnbbaaGreatDoor.As
open Go.RowKit

theorem isFe_at {evs : List Ev} {m : Nat} {e : Ev} (h : evs[m]? = some e) : isFe evs (m : Int) = decide (e.kind = 5) := by
  unfold isFe
  rw [Int.toNat_natCast, h]
theorem fen_next {evs : List Ev} {l : List Int} {i : Nat} {x : Int} (hx : l[i]? = some x) : fenL evs (l.take (i + 1)) = if isFe evs x = true then x else fenL evs (l.take i) := by
  unfold fenL
  rw [List.take_add_one, hx, List.foldl_append]
  rfl
theorem fen_all {evs : List Ev} {c : Cl} {n : Nat} (hn : c.inner.length = n) : fenL evs (c.inner.take n) = fenP evs c := by
  unfold fenP
  rw [← hn, List.take_length]
theorem cnt_next {L : List Cl} {p : Cl → Bool} {k : Nat} {d : Cl} (hd : L[k]? = some d) : (L.take (k + 1)).countP p = (L.take k).countP p + if p d = true then 1 else 0 := by
  rw [List.take_add_one, hd, List.countP_append]
  show _ + [d].countP p = _
  rw [List.countP_singleton]
theorem cnt_le {L : List Cl} {p : Cl → Bool} {k : Nat} : (L.take k).countP p ≤ k := Nat.le_trans (List.countP_le_length) (by rw [List.length_take]; omega)
theorem RdC.form {W : World} {v : Value} {l : List Cl} (h : RdC W v l) : ∃ A cap, v = .slice A l.length cap := by
  obtain ⟨vs, hvl, hr, _⟩ := h; exact hr.form
theorem calls_small {evs : List Ev} {n : Nat} (h : evs.length ≤ n) : (callsAll evs).length ≤ 8 * n := by
  have h1 := (callsAll_perm evs).length_eq
  have h2 := perT_len evs
  omega
theorem inner_small {evs : List Ev} {n : Nat} (h : evs.length ≤ n) {c : Cl} (hc : c ∈ callsAll evs) : c.inner.length ≤ n := by
  have hm := (callsAll_perm evs).mem_iff.1 hc
  obtain ⟨l, hl, hcl⟩ := List.mem_flatten.1 hm
  unfold perT at hl
  obtain ⟨t, _, rfl⟩ := List.mem_map.1 hl
  exact Nat.le_trans (Nat.le_trans (callsF_inner _ _ c hcl) (ofI_len _ _ _)) h
end Go.Proofs.YtckmkaeopnnbbaaGreatDoor.As
