/- The walks of the package asm: a line's words, taken one by one. -/
import Derived.Test.YtlopmejmionnpaaDoorPaC
import Derived.Deep.RegionHeld3
set_option linter.unusedVariables false
namespace Go.Proofs.YtlopmejmionnpaaDoor.As
open Go.RowKit

/-- A line's reading in memory, at block R. -/
structure LineM (w : World) (R : Nat) (s : LS) (A : Option Addr) (cap : Nat) : Prop where
  blk : w.heap[R]? = some (.cells #[.slice A s.ws.length cap, .int .i64 s.i.op, .int .i64 s.i.a, .int .i64 s.i.b, .int .i64 s.i.c, .int .u32 s.i.k, .string ⟨s.to.toArray⟩] 90 (0, 0))
  rd : Rd w 1 (.slice A s.ws.length cap) s.ws.length (s.ws.map str)
  lt : ∀ b o, A = some ⟨b, o, none⟩ → b < R
  len : s.ws.length ≤ 1000000 ∧ cap ≤ 2000000 ∧ ∀ x ∈ s.ws, x.length ≤ 1000000
def LineA (w : World) (R : Nat) (s : LS) : Prop := ∃ A cap, LineM w R s A cap
def AtR (R : Nat) (k : Nat) : Prop := k = R
def NextP (R : Nat) (s : LS) (w0 : B8) (r : List B8) (w : World) (e : Ending) (w' : World) : Prop := e = .returned (.string ⟨w0.toArray⟩) ∧ LineA w' R { s with ws := r } ∧ Only (AtR R) w w'
theorem line_lt {w : World} {R : Nat} {s : LS} {A : Option Addr} {cap : Nat} (h : LineM w R s A cap) : R < w.heap.size := (Array.getElem?_eq_some_iff.1 h.blk).1
theorem LineA.lt {w : World} {R : Nat} {s : LS} (h : LineA w R s) : R < w.heap.size := by obtain ⟨A, cap, h⟩ := h; exact line_lt h
theorem only_set (w : World) (R o : Nat) (v : Value) : Only (AtR R) w (w.setCell ⟨R, o, none⟩ v) :=
  ⟨rfl, rfl, rfl, by simp [World.setCell], fun k _ hk => heap_setCell_other _ _ _ _ (fun e => hk e)⟩
theorem only_tr {R : Nat} {a b c : World} (h : Only (AtR R) a b) (k : Only (AtR R) b c) : Only (AtR R) a c := h.trans k fun i e => .inl e
theorem only_bl {R : Nat} {a b : World} (h : Below a.heap.size a b) : Only (AtR R) a b := Only.of_below h (Nat.le_refl _)
/-- The cells of the line but for the words. -/
theorem LineA.below {w w' : World} {R : Nat} {s : LS} (h : LineA w R s) (hb : Below w.heap.size w w') : LineA w' R s := by
  obtain ⟨A, cap, h⟩ := h
  exact ⟨A, cap, (hb.block R (line_lt h)).trans h.blk, h.rd.below hb (Nat.le_refl _), h.lt, h.len⟩
theorem line_next {w : World} {R : Nat} {s : LS} {b off cap : Nat} {w0 : B8} {r : List B8} (h : LineM w R s (some ⟨b, off, none⟩) cap) (hs : s.ws = w0 :: r) (off' cap' : Nat) (hc : r.length ≤ cap' ∧ cap' ≤ cap ∧ (r = [] ∨ off' = off + 1)) :
    LineM (w.setCell ⟨R, 0, none⟩ (.slice (some ⟨b, off', none⟩) r.length cap')) R { s with ws := r } (some ⟨b, off', none⟩) cap' := by
  obtain ⟨hblk, hrd, hlt, hl1, hl2, hl3⟩ := h
  have hbR : b ≠ R := by have := hlt b off rfl; omega
  obtain ⟨b', off1, e, hbw, hcell⟩ := hrd.cells (by rw [hs]; simp)
  injection e with e
  injection e with e1 e2
  subst e1; subst e2
  refine ⟨?_, ?_, fun b2 o2 e => ?_, ?_, by omega, fun x hx => hl3 x (by rw [hs]; exact List.mem_cons_of_mem _ hx)⟩
  · rw [heap_setCell_same _ _ _ _ _ _ hblk]; rfl
  · refine ⟨_, _, rfl, hc.1, by simp, .inr ⟨b, off', rfl, ?_, fun j u hu => ?_⟩⟩
    · simpa [World.setCell] using hbw
    · rw [World.cell?_of_block (w := w) (a := ⟨b, off' + j, none⟩) (heap_setCell_other _ _ _ _ hbR)]
      rcases hc.2.2 with e | e
      · subst e; cases hu
      · subst e
        have := hcell (j + 1) u (by rw [hs]; exact hu)
        rw [Nat.add_assoc, Nat.add_comm 1 j]; exact this
  · injection e with e; injection e with e1 _; subst e1; exact hlt b off rfl
  · rw [hs] at hl1; simp at hl1; show r.length ≤ 1000000; omega
set_option maxHeartbeats 1000000 in
theorem next_yes (w : World) (R : Nat) (s : LS) (w0 : B8) (r : List B8) (hs : s.ws = w0 :: r) (h : LineA w R s) :
    Calls Tryd.prog 47 #[.pointer (some ⟨R, 0, none⟩)] w (NextP R s w0 r w) := by
  obtain ⟨A, cap, hm⟩ := h
  obtain ⟨hblk, hrd, hlt, hl1, hl2, hl3⟩ := hm
  obtain ⟨b, off, rfl, hbw, hcell⟩ := hrd.cells (by rw [hs]; simp)
  have hm : LineM w R s (some ⟨b, off, none⟩) cap := ⟨hblk, hrd, hlt, hl1, hl2, hl3⟩
  have c0 := cell_of_row w R 0 _ _ _ hblk
  have f0 := frozen_of_row w R 0 _ _ hblk
  simp at c0
  have cw : w.cell? ⟨b, off, none⟩ = some (.string ⟨w0.toArray⟩) := hcell 0 (str w0) (by rw [hs]; rfl)
  have hcap : s.ws.length ≤ cap := by obtain ⟨_, _, e, hc, _⟩ := hrd; injection e with _ _ e; omega
  obtain ⟨n, hn⟩ : ∃ n, r.length = n := ⟨r.length, rfl⟩
  have hn' : s.ws.length = n + 1 := by rw [hs, ← hn]; rfl
  rw [hn'] at c0 hl1 hcap
  have HM := Lib.hid hm
  have HN := Lib.hid hn
  have HS := Lib.hid hs
  clear hblk hcell hn hs hrd hlt hl3 hn' hm
  go_enter Tryd.func47, Tryd.ntmps47
  go_wp2_with (go_at_call 48; refine (must_yes _).mono ?_; rintro e w' ⟨rfl, rfl⟩)
  · go_ret
    have hn0 : n = 0 := by omega
    have hr0 : r = [] := List.eq_nil_of_length_eq_zero (by rw [HN.out, hn0])
    have h := line_next HM.out HS.out off 0 ⟨by rw [HN.out]; omega, by omega, .inl hr0⟩
    rw [HN.out] at h
    exact ⟨rfl, ⟨_, _, h⟩, only_set _ _ _ _⟩
  · go_ret
    have h := line_next HM.out HS.out (off + 1) (cap - 1) (by have := HN.out; omega)
    rw [HN.out] at h
    exact ⟨rfl, ⟨_, _, h⟩, only_set _ _ _ _⟩
theorem next_no (w : World) (R : Nat) (s : LS) (hs : s.ws = []) (h : LineA w R s) :
    Calls Tryd.prog 47 #[.pointer (some ⟨R, 0, none⟩)] w fun e w' => e = gaveUp ∧ w = w' := by
  obtain ⟨A, cap, hm⟩ := h
  have hblk := hm.blk
  rw [hs] at hblk
  have c0 := cell_of_row w R 0 _ _ _ hblk
  simp at c0
  clear hblk hm hs
  go_enter Tryd.func47, Tryd.ntmps47
  go_wp2_with fail
  refine (must_no _).mono ?_
  rintro e w' ⟨rfl, rfl⟩
  exact ⟨rfl, rfl, rfl⟩
/-! ### A register -/
def RegmP (R : Nat) (s : LS) (w0 : B8) (r : List B8) (w : World) (e : Ending) (w' : World) : Prop := e = .returned (.int .i64 (regB w0)) ∧ LineA w' R { s with ws := r } ∧ Only (AtR R) w w'
theorem regm_yes (w : World) (R : Nat) (s : LS) (w0 : B8) (r : List B8) (hs : s.ws = w0 :: r) (h : LineA w R s) (hr : 0 ≤ regB w0) :
    Calls Tryd.prog 81 #[.pointer (some ⟨R, 0, none⟩)] w (RegmP R s w0 r w) := by
  have hw : w0.length ≤ maxLen := by obtain ⟨A, cap, hm⟩ := h; have := hm.len.2.2 w0 (by rw [hs]; simp); unfold maxLen; omega
  have hv : regV w0 = regB w0 := by unfold regV; rw [if_pos hr]
  have hd : decide (0 ≤ regB w0) = true := decide_eq_true hr
  have H := Lib.hid h
  have HS := Lib.hid hs
  have HV := Lib.hid hv
  have HD := Lib.hid hd
  clear h hs hv hd hr
  go_enter Tryd.func81, Tryd.ntmps81
  go_wp2_with fail
  refine (next_yes _ R s w0 r HS.out H.out).mono ?_
  rintro e w1 ⟨rfl, h1, o1⟩
  have H1 := Lib.hid h1
  have O1 := Lib.hid o1
  clear h1 o1
  go_wp2_with fail
  refine (reg_any _ _ (by simpa [ByteArray.size] using hw)).mono ?_
  rintro e w2 ⟨he, hw2⟩
  rw [show (ByteArray.mk w0.toArray).data.toList = w0 from rfl, HV.out, HD.out] at he
  subst he hw2
  go_wp2_with fail
  refine (must_yes _).mono ?_
  rintro e w3 ⟨rfl, rfl⟩
  go_wp2_with fail
  go_ret
  exact ⟨rfl, H1.out, O1.out⟩
theorem regm_no (w : World) (R : Nat) (s : LS) (w0 : B8) (r : List B8) (hs : s.ws = w0 :: r) (h : LineA w R s) (hr : regB w0 < 0) :
    Calls Tryd.prog 81 #[.pointer (some ⟨R, 0, none⟩)] w fun e w' => e = gaveUp ∧ Only (AtR R) w w' := by
  have hw : w0.length ≤ maxLen := by obtain ⟨A, cap, hm⟩ := h; have := hm.len.2.2 w0 (by rw [hs]; simp); unfold maxLen; omega
  have hv : regV w0 = 0 := by unfold regV; rw [if_neg (by omega)]
  have hd : decide (0 ≤ regB w0) = false := decide_eq_false (by omega)
  have H := Lib.hid h
  have HS := Lib.hid hs
  have HV := Lib.hid hv
  have HD := Lib.hid hd
  clear h hs hv hd hr
  go_enter Tryd.func81, Tryd.ntmps81
  go_wp2_with fail
  refine (next_yes _ R s w0 r HS.out H.out).mono ?_
  rintro e w1 ⟨rfl, h1, o1⟩
  have O1 := Lib.hid o1
  clear h1 o1
  go_wp2_with fail
  refine (reg_any _ _ (by simpa [ByteArray.size] using hw)).mono ?_
  rintro e w2 ⟨he, hw2⟩
  rw [show (ByteArray.mk w0.toArray).data.toList = w0 from rfl, HV.out, HD.out] at he
  subst he hw2
  go_wp2_with fail
  refine (must_no _).mono ?_
  rintro e w3 ⟨rfl, rfl⟩
  exact ⟨rfl, rfl, O1.out⟩
theorem regm_nil (w : World) (R : Nat) (s : LS) (hs : s.ws = []) (h : LineA w R s) :
    Calls Tryd.prog 81 #[.pointer (some ⟨R, 0, none⟩)] w fun e w' => e = gaveUp ∧ Only (AtR R) w w' := by
  have H := Lib.hid h
  have HS := Lib.hid hs
  clear h hs
  go_enter Tryd.func81, Tryd.ntmps81
  go_wp2_with fail
  refine (next_no _ R s HS.out H.out).mono ?_
  rintro e w1 ⟨rfl, rfl⟩
  exact ⟨rfl, rfl, Only.refl _ _⟩
end Go.Proofs.YtlopmejmionnpaaDoor.As
