/- What befell, where much did. -/
import Derived.Test.YtckmkaeopnnbbaaGreatDoorGn
set_option linter.unusedVariables false
set_option linter.unusedSimpArgs false
set_option maxRecDepth 20000
namespace Go.Proofs.YtckmkaeopnnbbaaGreatDoor.As.T
open Go.RowKit

set_option maxRecDepth 100000 in
set_option maxHeartbeats 400000 in
/-- slices.Clone of cloneB_any. -/
theorem cloneB_any (w : World) (v : Value) (n : Nat) (xs : List Value) (h : Rd w 8 v n xs) (hn : n ≤ 99999999999) (h1 : ∀ u ∈ xs, u.oneCell' = true) :
  Calls Tryz.prog 52 #[v] w fun e w' => ∃ v', e = .returned v' ∧ w'.ownsRow w.heap.size 65 8 v' n xs ∧ Below w.heap.size w w' := by
 obtain ⟨A, cap, rfl, hc, hl, h⟩ := h
 obtain ⟨i0, hi, hz0, hz1, hz2⟩ := info_parts infoEv
 rcases h with ⟨rfl, rfl⟩ | ⟨b, off, rfl, hb, hcell⟩
 ·have hx : xs = [] := List.eq_nil_of_length_eq_zero (by simpa using hl)
  subst hx
  have hnil : ∀ W, (binOp .eql 56 (.slice none 0 cap) (.slice none 0 0)).run Tryz.prog W = .ok (.bool true) W := fun W => Lib.run_eql_slice_nil W _ _ _ _ _ _ _ Tryz.underlying56
  go_enter Tryz.func52, Tryz.ntmps52
  go_wp2_with fail
  go_ret
  exact ⟨_, rfl, World.ownsRow_nil _ _ _ _, Below.refl _ _⟩
 ·have hnil : ∀ W, (binOp .eql 56 (.slice (some ⟨b, off, none⟩) n cap) (.slice none 0 0)).run Tryz.prog W = .ok (.bool false) W := fun W => Lib.run_eql_slice_nil W _ _ _ _ _ _ _ Tryz.underlying56
  have hne : (World.ownsRow (w.alloc (.cells #[] 65)) w.heap.size 65 8 (.slice (some ⟨w.heap.size, 0, none⟩) 0 0) 0 []) := ⟨rfl, .inr ⟨w.heap.size, 0, #[], rfl, Nat.le_refl _, heap_alloc_new _ _, Nat.le_refl _, Nat.zero_le _, rfl, rfl⟩⟩
  go_enter Tryz.func52, Tryz.ntmps52
  go_wp2_with (at_builtin; refine wpList_append_own _ rfl (.tmp 5) (.tmp 6) 56 rfl w.heap.size 65 i0 _ 8 48 Tryz.underlying56 hi hz0 hz1 hz2 rfl (by decide) _ 0 [] rfl hne ⟨b, off, none⟩ n cap xs rfl hl (fun j u hu => by rw [add_at]; exact (Below.cell ((Below.refl w.heap.size w).alloc (Nat.le_refl _) _) (p := ⟨b, off + j, none⟩) hb).trans (hcell j u hu)) h1 (by unfold maxLen; omega) (by omega) (by simp) ?_; intro v' w1 ho hgr hat)
  go_wp2_with fail
  go_ret
  have hgr2 : (w.alloc (.cells #[] 65)).grownBy w1 (some w.heap.size) := hgr
  exact ⟨_, rfl, by simpa using ho, ((Below.refl w.heap.size w).alloc (Nat.le_refl _) _).grown hgr2 (by simp) (fun k hk => by injection hk with hk; omega)⟩
theorem eventsb_ts {Z : Nat → Prop} {w : World} {K : TsK} {s : Ts} (h : TsM Z w K s) (hn : s.evs.length ≤ 99999999999) :
  Calls Tryz.prog 26 #[.pointer (some ⟨K.mb, 0, none⟩)] w fun e w' => ∃ v, e = .returned v ∧ w'.ownsRow w.heap.size 65 8 v s.evs.length (flatE s.evs) ∧ Below w.heap.size w w' := by
 obtain ⟨_, _, _, _, _, ev, kv, ma, ta, ba, A, _⟩ := h
 have c0 : w.cell? ⟨K.mb, 5, none⟩ = some ev := cell_of_row _ _ 5 _ _ _ A.hb
 obtain ⟨e1, e2, e3, rfl⟩ : ∃ a b c, ev = .slice a b c := by
  rcases A.oe.2 with ⟨e, _⟩ | ⟨g, cap, cur, e, _⟩
  ·exact ⟨_, _, _, e⟩
  ·exact ⟨_, _, _, e⟩
 have hcl := cloneB_any w _ _ _ (Rd.of_own A.oe) hn (one_ev _)
 have HCL := Lib.hid hcl
 clear hcl A
 go_enter Tryz.func26, Tryz.ntmps26
 go_wp2_with (go_at_call 52; refine HCL.out.mono ?_; rintro r w2 ⟨v, rfl, ho, hb⟩)
 go_ret
 exact ⟨v, rfl, ho, hb⟩
end Go.Proofs.YtckmkaeopnnbbaaGreatDoor.As.T
