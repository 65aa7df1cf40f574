/- The walks of the package asm: a number. -/
import Derived.Test.YtlopmejmionnpaaDoorPaB
import Derived.Test.YtlopmejmionnpaaDoorPaN
import Derived.Test.YtlopmejmionnpaaDoorIsa
import Derived.BigQuiet
import Derived.Deep.RegionHeld
set_option linter.unusedVariables false
namespace Go.Proofs.YtlopmejmionnpaaDoor.As
open Go.RowKit

/-- What the reading needs of the package-level variables. -/
structure TabA (w : World) : Prop where
  isa : TabI w
  pow : Pow w
  syn : ∃ te pe, w.cell? ⟨8, 0, none⟩ = some (.iface te pe)
  ran : ∃ te pe, w.cell? ⟨9, 0, none⟩ = some (.iface te pe)
  powlt : 3 < w.heap.size
def NoA (k : Nat) : Prop := NoI k ∧ k ≠ 3 ∧ k ≠ 8 ∧ k ≠ 9
theorem pow_named : Tryd.prog.globalNamed "internal/strconv.uint64pow10" = some 3 := by kernel_rfl
theorem Pow.block {w w' : World} (h : Pow w) (e : w'.heap[3]? = w.heap[3]?) : Pow w' := by
  unfold Pow Lib.TabIs World.var? at *
  rw [pow_named] at h ⊢
  simp only [Option.bind_some] at h ⊢
  rw [e]; exact h
theorem TabA.lt {w : World} (h : TabA w) : 8 < w.heap.size ∧ 9 < w.heap.size := by
  obtain ⟨te, pe, h1⟩ := h.syn
  obtain ⟨te2, pe2, h2⟩ := h.ran
  exact ⟨block_lt_of_cell h1, block_lt_of_cell h2⟩
theorem TabA.only {w w' : World} {F : Nat → Prop} (h : TabA w) (ho : Only F w w') (hF : ∀ k, F k → NoA k) : TabA w' := by
  have hl := h.lt
  obtain ⟨te, pe, h1⟩ := h.syn
  obtain ⟨te2, pe2, h2⟩ := h.ran
  exact ⟨h.isa.only ho (fun k hk => (hF k hk).1), h.pow.block (ho.block _ h.powlt (fun e => (hF _ e).2.1 rfl)),
    ⟨te, pe, (World.cell?_of_block (w := w) (a := ⟨8, 0, none⟩) (ho.block _ hl.1 (fun e => (hF _ e).2.2.1 rfl))).trans h1⟩,
    ⟨te2, pe2, (World.cell?_of_block (w := w) (a := ⟨9, 0, none⟩) (ho.block _ hl.2 (fun e => (hF _ e).2.2.2 rfl))).trans h2⟩,
    Nat.lt_of_lt_of_le h.powlt ho.size⟩
theorem TabA.below {B : Nat} {w w' : World} (h : TabA w) (hb : Below B w w') (hB : w.heap.size ≤ B) : TabA w' := h.only (Only.of_below (F := fun _ => False) hb hB) (fun _ e => e.elim)
theorem TabA.new {w : World} (h : TabA w) {k : Nat} (hk : w.heap.size ≤ k) : NoA k := by
  have := h.lt; have := h.powlt
  exact ⟨h.isa.new hk, by omega, by omega, by omega⟩
theorem bytes_below (w : World) (t : TypeId) (s : ByteArray) : Below w.heap.size w (Lib.bytesWorld w t s) := Lib.bytesWorld_below _ _ _

/-- A number: its value, where it is one. -/
def numP (l : B8) (w : World) (e : Ending) (w' : World) : Prop := ∃ v : Int, e = .returned (.tuple #[.int .u32 v, .bool (decide (0 ≤ numB l))]) ∧ (0 ≤ numB l → v = numB l) ∧ Below w.heap.size w w'
theorem num_ok (w : World) (s : ByteArray) (u : Nat) (b : Bool) (hu : u ≤ 4294967295) (hs : s.size ≤ 1000000) (hp : Lib.parseUintB 32 s.data.toList = .ok u) (hb : (Lib.decDigits u == s.toList) = b) (T : TabA w) :
    Calls Tryd.prog 82 #[.string s] w fun e w' => e = .returned (.tuple #[.int .u32 u, .bool b]) ∧ Below w.heap.size w w' := by
  have HT := Lib.hid T
  clear T
  have hcv : ∀ W, (convert 101 32 (.int .u64 u)).run Tryd.prog W = .ok (.int .u32 u) W := fun W => by go_simp; rw [IntKind.wrap_u32]; omega
  go_enter Tryd.func82, Tryd.ntmps82
  go_wp2_with fail
  refine (Tryd.strconv_ParseUint_10_at32_ok s (by omega) u hp _).mono ?_
  rintro e w1 ⟨rfl, hw⟩
  have hb1 : Below w.heap.size w w1 := by
    rcases hw with rfl | rfl
    · exact Below.refl _ _
    · exact bytes_below _ _ _
  have T1 := Lib.hid (HT.out.below hb1 (Nat.le_refl _))
  have HB1 := Lib.hid hb1
  clear hw hb1
  go_wp2_with fail
  refine (fmtu_any u (by omega) _ T1.out.pow).mono ?_
  rintro e w2 ⟨rfl, hb2⟩
  have HB2 := Lib.hid (HB1.out.trans (hb2.mono HB1.out.size))
  clear hb2
  go_wp2_with fail
  go_ret2
  exact ⟨rfl, HB2.out⟩
theorem ends3 (x : Lib.NumEnd Nat) : (∃ u, x = .ok u) ∨ x = Lib.parseUintB 32 [] ∨ x = .range := by
  cases x
  · exact .inl ⟨_, rfl⟩
  · exact .inr (.inl rfl)
  · exact .inr (.inr rfl)
theorem num_err (w : World) (s : ByteArray) (hs : s.size ≤ 1000000) (hp : ∀ u, Lib.parseUintB 32 s.data.toList ≠ .ok u) (T : TabA w) :
    Calls Tryd.prog 82 #[.string s] w fun e w' => ∃ v, e = .returned (.tuple #[.int .u32 v, .bool false]) ∧ Below w.heap.size w w' := by
  obtain ⟨te, pe, h1⟩ := T.syn
  obtain ⟨te2, pe2, h2⟩ := T.ran
  clear T
  have hcv0 : ∀ W, (convert 101 32 (.int .u64 0)).run Tryd.prog W = .ok (.int .u32 0) W := fun W => by go_simp; rfl
  have hcv1 : ∀ W, (convert 101 32 (.int .u64 4294967295)).run Tryd.prog W = .ok (.int .u32 4294967295) W := fun W => by go_simp; rfl
  rcases ends3 (Lib.parseUintB 32 s.data.toList) with ⟨u, hq⟩ | hq | hq
  · exact absurd hq (hp u)
  · clear hp
    go_enter Tryd.func82, Tryd.ntmps82
    go_wp2_with fail
    refine (Tryd.strconv_ParseUint_10_at32_syntax s (by omega) hq _ _ h1 (.inr ⟨_, _, rfl⟩)).mono ?_
    rintro e w1 ⟨N, rfl, hN, hblk, hb1⟩
    have HB := Lib.hid hb1
    clear hblk hN hb1 h1 h2
    go_wp2_with fail
    go_ret2
    exact ⟨_, rfl, HB.out⟩
  · clear hp
    go_enter Tryd.func82, Tryd.ntmps82
    go_wp2_with fail
    refine (Tryd.strconv_ParseUint_10_at32_range s (by omega) hq _ _ h2 (.inr ⟨_, _, rfl⟩)).mono ?_
    rintro e w1 ⟨N, rfl, hN, hblk, hb1⟩
    have HB := Lib.hid hb1
    clear hblk hN hb1 h1 h2
    go_wp2_with fail
    go_ret2
    exact ⟨_, rfl, HB.out⟩
theorem str_beq (l : B8) (s : ByteArray) : ((l == s.toList) = true) ↔ l = s.data.toList := by
  rw [beq_iff_eq, Lib.toList_data]
theorem num_any (w : World) (s : ByteArray) (hs : s.size ≤ 1000000) (T : TabA w) :
    Calls Tryd.prog 82 #[.string s] w (numP s.data.toList w) := by
  by_cases h : 0 ≤ numB s.data.toList
  · obtain ⟨h1, h2, h3, h4⟩ := num_yes _ h
    refine (num_ok w s _ true h4 hs h1 ((str_beq _ _).2 h2) T).mono ?_
    rintro e w' ⟨rfl, hb⟩
    exact ⟨_, by rw [decide_eq_true h], fun _ => h3.symm, hb⟩
  · by_cases hu : ∃ u, Lib.parseUintB 32 s.data.toList = .ok u
    · obtain ⟨u, hu⟩ := hu
      obtain ⟨h1, h2⟩ := num_no _ h u hu
      refine (num_ok w s u false h2 hs hu ?_ T).mono ?_
      · cases hq : (Lib.decDigits u == s.toList) with
        | false => rfl
        | true => exact absurd ((str_beq _ _).1 hq) h1
      rintro e w' ⟨rfl, hb⟩
      exact ⟨_, by rw [decide_eq_false h], fun e => absurd e h, hb⟩
    · refine (num_err w s hs (fun u e => hu ⟨u, e⟩) T).mono ?_
      rintro e w' ⟨v, rfl, hb⟩
      exact ⟨v, by rw [decide_eq_false h], fun e => absurd e h, hb⟩
end Go.Proofs.YtlopmejmionnpaaDoor.As
