/- The walks of pick.right and of the methods of a row of dues. -/
import Derived.Test.YtckmkaeopnnbbaaGreatDoorGn
import Derived.Test.YtckmkaeopnnbbaaGreatDoorEvA
import Derived.Test.YtckmkaeopnnbbaaGreatDoorEvP
set_option linter.unusedVariables false
set_option linter.unusedSimpArgs false
set_option maxRecDepth 20000
namespace Go.Proofs.YtckmkaeopnnbbaaGreatDoor.As.T
open Go.RowKit

def DuIs (W : World) (gs cap : Nat) (l : List It) : Prop := ∃ arr, W.heap[gs]? = some (.cells arr 159 (0, 0)) ∧ arr.size = cap * 3 ∧ l.length ≤ cap ∧ ∀ (j : Nat) x, l[j]? = some x → arr[j * 3]? = some (.int .i64 (x.k : Nat)) ∧ arr[j * 3 + 1]? = some (.int .i64 (x.t : Nat)) ∧ arr[j * 3 + 2]? = some (.int .i64 x.due)
def duV (gs n cap : Nat) : Value := .slice (some ⟨gs, 0, none⟩) n cap
theorem DuIs.below {W W' : World} {gs cap B : Nat} {l : List It} (h : DuIs W gs cap l) (hb : Below B W W') (hg : gs < B) : DuIs W' gs cap l := by
 obtain ⟨arr, h1, h2⟩ := h
 exact ⟨arr, (hb.block _ hg).trans h1, h2⟩
theorem right_any (w : World) (a b : Nat) (ha : 1 ≤ a) (ha8 : a ≤ 8) (hb : 4 * a ≤ b) (hb2 : b ≤ 100000) : Calls Tryz.prog 89 #[.int .i64 (a : Nat), .int .i64 (b : Nat)] w fun e w' => e = .returned (.bool true) ∧ w' = w := by
 have h1 : (1 : Int) ≤ (a : Int) := by omega
 have h2 : (a : Int) ≤ 8 := by omega
 have h3 : IntKind.i64.wrap (4 * (a : Int)) = 4 * (a : Int) := by rw [IntKind.wrap_i64]; omega
 have h4 : 4 * (a : Int) ≤ (b : Int) := by omega
 go_enter Tryz.func89, Tryz.ntmps89
 go_wp2_with fail
 go_ret
 simp
theorem len_any (w : World) (gs n cap : Nat) : Calls Tryz.prog 189 #[duV gs n cap] w fun e w' => e = .returned (.int .i64 (n : Nat)) ∧ w' = w := by
 unfold duV
 go_enter Tryz.func189, Tryz.ntmps189
 go_wp2_with fail
 go_ret
 simp
theorem dueP_get {l : List It} {i : Nat} {x : It} (h : l[i]? = some x) : dueP l i = x.due := by unfold dueP; rw [h]
theorem less_any (w : World) (gs cap : Nat) (l : List It) (i k : Nat) (h : DuIs w gs cap l) (hi : i < l.length) (hk : k < l.length) (hn : l.length ≤ 100) : Calls Tryz.prog 190 #[duV gs l.length cap, .int .i64 (i : Nat), .int .i64 (k : Nat)] w fun e w' => e = .returned (.bool (decide (dueP l i < dueP l k))) ∧ Below w.heap.size w w' := by
 obtain ⟨arr, h1, h2, h3, h4⟩ := h
 obtain ⟨x, hx⟩ : ∃ x, l[i]? = some x := ⟨_, List.getElem?_eq_getElem hi⟩
 obtain ⟨y, hy⟩ : ∃ x, l[k]? = some x := ⟨_, List.getElem?_eq_getElem hk⟩
 have f1 := (cell_of_row _ _ _ _ _ _ h1).trans (h4 i x hx).2.2
 have f2 := (cell_of_row _ _ _ _ _ _ h1).trans (h4 k y hy).2.2
 rw [dueP_get hx, dueP_get hy]
 obtain ⟨n, hN⟩ : ∃ n, l.length = n := ⟨_, rfl⟩
 rw [hN] at hi hk ⊢
 have hi2 : (i : Int) < (n : Int) := by omega
 have hk2 : (k : Int) < (n : Int) := by omega
 clear h4 h3 h2 h1 hx hy hN hn
 unfold duV
 go_enter Tryz.func190, Tryz.ntmps190
 go_wp2_with fail
 go_quiet (fail)
 go_wp2_with fail
 go_ret
 exact ⟨by simp, bl_drewN (Below.refl _ w) nq⟩
theorem set3_get (arr : Array Value) (i j : Nat) (v0 v1 v2 : Value) (h : i + 3 ≤ arr.size) : (((arr.setIfInBounds i v0).setIfInBounds (i + 1) v1).setIfInBounds (i + 2) v2)[j]? = if j = i then some v0 else if j = i + 1 then some v1 else if j = i + 2 then some v2 else arr[j]? := by
 rw [Array.getElem?_setIfInBounds]
 by_cases e1 : i + 2 = j
 ·rw [if_pos e1, if_pos (by simp; omega), if_neg (by omega), if_neg (by omega), if_pos (by omega)]
 ·rw [if_neg e1, set2_get _ _ _ _ _ (by omega)]
  by_cases e2 : j = i
  ·rw [if_pos e2, if_pos e2]
  ·rw [if_neg e2, if_neg e2]
   by_cases e3 : j = i + 1
   ·rw [if_pos e3, if_pos e3]
   ·rw [if_neg e3, if_neg e3, if_neg (by omega)]
def set3W (W : World) (gs i : Nat) (x : It) : World := ((W.setCell ⟨gs, i * 3, none⟩ (.int .i64 (x.k : Nat))).setCell ⟨gs, i * 3 + 1, none⟩ (.int .i64 (x.t : Nat))).setCell ⟨gs, i * 3 + 2, none⟩ (.int .i64 x.due)
theorem DuIs.set {W : World} {gs cap : Nat} {l : List It} (h : DuIs W gs cap l) {i : Nat} (hi : i < l.length) (x : It) : DuIs (set3W W gs i x) gs cap (l.set i x) := by
 obtain ⟨arr, h1, h2, h3, h4⟩ := h
 refine ⟨_, heap_setCell_same _ gs (i * 3 + 2) _ _ _ (heap_setCell_same _ gs (i * 3 + 1) _ _ _ (heap_setCell_same _ gs (i * 3) _ _ _ h1)), by simp; exact h2, by rw [List.length_set]; exact h3, fun j y hj => ?_⟩
 rw [set3_get _ _ _ _ _ _ (by omega), set3_get _ _ _ _ _ _ (by omega), set3_get _ _ _ _ _ _ (by omega)]
 by_cases e : j = i
 ·subst e
  rw [List.getElem?_set_self hi] at hj
  obtain rfl := Option.some.inj hj
  rw [if_pos rfl, if_neg (by omega), if_pos rfl, if_neg (by omega), if_neg (by omega), if_pos rfl]
  exact ⟨rfl, rfl, rfl⟩
 ·rw [List.getElem?_set_ne (fun e2 => e e2.symm)] at hj
  rw [if_neg (by omega), if_neg (by omega), if_neg (by omega), if_neg (by omega), if_neg (by omega), if_neg (by omega), if_neg (by omega), if_neg (by omega), if_neg (by omega)]
  exact h4 j y hj
theorem only_set3 {W0 W : World} {gs : Nat} (h : Only (fun b => b = gs) W0 W) (i : Nat) (x : It) : Only (fun b => b = gs) W0 (set3W W gs i x) :=
 ((h.set1 (p := ⟨gs, i * 3, none⟩) rfl _).set1 (p := ⟨gs, i * 3 + 1, none⟩) rfl _).set1 (p := ⟨gs, i * 3 + 2, none⟩) rfl _
theorem DuIs.drew {W : World} {gs cap : Nat} {l : List It} (h : DuIs W gs cap l) : DuIs W.drew gs cap l := h
theorem only_drew {F : Nat → Prop} {a w : World} (h : Only F a w) : Only F a w.drew := ⟨h.os, h.tape, h.output, h.size, h.block⟩
theorem swap_any (w : World) (gs cap : Nat) (l : List It) (i k : Nat) (h : DuIs w gs cap l) (hi : i < l.length) (hk : k < l.length) (hn : l.length ≤ 100) (hne : i ≠ k) : Calls Tryz.prog 192 #[duV gs l.length cap, .int .i64 (i : Nat), .int .i64 (k : Nat)] w fun e w' => e = .returned (.tuple #[]) ∧ DuIs w' gs cap (swapP l i k) ∧ Only (fun b => b = gs) w w' := by
 obtain ⟨arr, h1, h2, h3, h4⟩ := h
 obtain ⟨x, hx⟩ : ∃ x, l[i]? = some x := ⟨_, List.getElem?_eq_getElem hi⟩
 obtain ⟨y, hy⟩ : ∃ x, l[k]? = some x := ⟨_, List.getElem?_eq_getElem hk⟩
 have a0 := (cell_of_row _ _ _ _ _ _ h1).trans (h4 i x hx).1
 have a1 := (cell_of_row _ _ _ _ _ _ h1).trans (h4 i x hx).2.1
 have a2 := (cell_of_row _ _ _ _ _ _ h1).trans (h4 i x hx).2.2
 have b0 := (cell_of_row _ _ _ _ _ _ h1).trans (h4 k y hy).1
 have b1 := (cell_of_row _ _ _ _ _ _ h1).trans (h4 k y hy).2.1
 have b2 := (cell_of_row _ _ _ _ _ _ h1).trans (h4 k y hy).2.2
 have z0 := frozen_of_row w gs (i * 3) _ _ h1
 have z1 := frozen_of_row w gs (i * 3 + 1) _ _ h1
 have z2 := frozen_of_row w gs (i * 3 + 2) _ _ h1
 have y0 := frozen_of_row w gs (k * 3) _ _ h1
 have y1 := frozen_of_row w gs (k * 3 + 1) _ _ h1
 have y2 := frozen_of_row w gs (k * 3 + 2) _ _ h1
 obtain ⟨n, hN⟩ : ∃ n, l.length = n := ⟨_, rfl⟩
 have hi2 : (i : Int) < (n : Int) := by omega
 have hk2 : (k : Int) < (n : Int) := by omega
 have HX := Lib.hid (And.intro h1 (And.intro h2 (And.intro h3 h4)))
 have HY := Lib.hid (And.intro hx hy)
 have HN := Lib.hid hN
 rw [hN]
 clear h4 h3 h2 h1 hx hy hN hn
 unfold duV
 go_enter Tryz.func192, Tryz.ntmps192
 go_wp2_with fail
 go_region
 go_wp2_with fail
 go_end0
 have hd : DuIs w gs cap l := ⟨arr, HX.out⟩
 have hw : swapP l i k = (l.set i y).set k x := by unfold swapP; rw [HY.out.1, HY.out.2]
 have e := (hd.set hi y).set (i := k) (by rw [List.length_set]; exact hk) x
 rw [← hw] at e
 exact ⟨rfl, e.drew, only_drew (only_set3 (only_set3 (Only.refl _ w) i y) k x)⟩
end Go.Proofs.YtckmkaeopnnbbaaGreatDoor.As.T
