/- The walk of deadlatchlaw15.turns. -/
import Derived.Test.YtckmkaeopnnbbaaGreatDoorTcD
import Derived.Test.YtckmkaeopnnbbaaGreatDoorTfB
set_option linter.unusedVariables false
set_option linter.unusedSimpArgs false
namespace Go.Proofs.YtckmkaeopnnbbaaGreatDoor.As
open Go.RowKit

theorem door_none {a : Int} {evs : List Ev} {c : Cl} (h : (c.inner.take c.inner.length).find? (isSw a evs) = none) : doorP a evs c = -1 := by
  rw [List.take_length] at h
  unfold doorP
  rw [h]
theorem door_some {a : Int} {evs : List Ev} {c : Cl} {i : Nat} {x : Int} (h : (c.inner.take i).find? (isSw a evs) = none) (hx : c.inner[i]? = some x) (hp : isSw a evs x = true) : doorP a evs c = x := by
  obtain ⟨hlt, he⟩ := List.getElem?_eq_some_iff.1 hx
  have e : c.inner = c.inner.take i ++ x :: c.inner.drop (i + 1) := by
    rw [← he, ← List.drop_eq_getElem_cons hlt, List.take_append_drop]
  unfold doorP
  rw [e, List.find?_append, h, List.find?_cons, hp]
  rfl
theorem door_next {a : Int} {evs : List Ev} {l : List Int} {i : Nat} {x : Int} (h : (l.take i).find? (isSw a evs) = none) (hx : l[i]? = some x) (hp : isSw a evs x = false) : (l.take (i + 1)).find? (isSw a evs) = none := by
  rw [List.take_add_one, hx, List.find?_append, h]
  show (Option.none).or ([x].find? (isSw a evs)) = none
  rw [List.find?_cons, hp]; rfl
theorem isSw_at {a : Int} {evs : List Ev} {m : Nat} {e : Ev} (h : evs[m]? = some e) : isSw a evs (m : Int) = decide (e.kind = 4 ∧ e.addr = a) := by
  unfold isSw
  rw [Int.toNat_natCast, h]
set_option maxRecDepth 100000 in
set_option maxHeartbeats 4000000 in
theorem door_any (evs : List Ev) (a : Int) (c : Cl) (A Au : Option Addr) (cap cu gl ga : Nat) (w : World) (hR : Rd w 8 (.slice A evs.length cap) evs.length (flatE evs)) (hreach : evs.length ≤ 1000000) (hin : Rd w 1 (.slice Au c.inner.length cu) c.inner.length (c.inner.map (Value.int .i64))) (hil : c.inner.length ≤ 1000000) (hB : inB evs.length c)
    (hgl : w.heap[gl]? = some (.cells #[.slice A evs.length cap] 56 (0, 0))) (hga : w.heap[ga]? = some (.cells #[.int .i64 a] 3 (0, 0))) :
    Calls Tryz.prog 75 #[.agg #[.int .i64 c.site, .int .i64 c.who, .int .i64 c.began, .int .i64 c.ended, .int .u32 c.res, .slice Au c.inner.length cu], .pointer (some ⟨gl, 0, none⟩), .pointer (some ⟨ga, 0, none⟩)] w fun e W' => e = .returned (.int .i64 (doorP a evs c)) ∧ Below w.heap.size w W' := by
  obtain ⟨N, hN⟩ : ∃ N, evs.length = N := ⟨_, rfl⟩
  obtain ⟨n, hn⟩ : ∃ n, c.inner.length = n := ⟨_, rfl⟩
  rw [hN] at hR hreach hB hgl
  rw [hn] at hin hil ⊢
  have h1 : Hid (∀ W, Below w.heap.size w W → Rd W 8 (.slice A N cap) N (flatE evs) ∧ Rd W 1 (.slice Au n cu) n (c.inner.map (Value.int .i64)) ∧ W.cell? ⟨gl, 0, none⟩ = some (.slice A N cap) ∧ W.cell? ⟨ga, 0, none⟩ = some (.int .i64 a)) := Lib.hid fun W hW =>
    ⟨hR.below hW (Nat.le_refl _), hin.below hW (Nat.le_refl _), cell_of_row W gl 0 _ _ _ ((hW.block gl (Array.getElem?_eq_some_iff.1 hgl).1).trans hgl), cell_of_row W ga 0 _ _ _ ((hW.block ga (Array.getElem?_eq_some_iff.1 hga).1).trans hga)⟩
  have HB := Lib.hid hB
  have HN := Lib.hid hN
  have Hn := Lib.hid hn
  have HNL := Lib.hid (And.intro hreach hil)
  clear hR hin hgl hga hB hN hn hreach hil
  go_enter Tryz.func75, Tryz.ntmps75
  go_wp2_with fail
  go_loopg [5] (n + 1) (fun g iv wr => ∃ (i : Nat), i + g = n + 1 ∧ i ≤ n ∧ iv = .int .i64 i ∧ (c.inner.take i).find? (isSw a evs) = none ∧ Hid (Below w.heap.size w wr ∧ wr.heap[w.heap.size]? = some (.cells #[.int .i64 c.site, .int .i64 c.who, .int .i64 c.began, .int .i64 c.ended, .int .u32 c.res, .slice Au n cu] 63 (0, 0))))
  case atStart => exact ⟨0, by omega, by omega, rfl, rfl, Lib.hid ⟨(Below.refl _ w).alloc (Nat.le_refl _) _, heap_alloc_new _ _⟩⟩
  case round =>
    obtain ⟨i, hi, hin, rfl, hfd, HR⟩ := hrel
    obtain ⟨wo, hwo⟩ : ∃ x, x = wr := ⟨_, rfl⟩
    subst hwo
    obtain ⟨g', rfl⟩ : ∃ g', gk = g' + 1 := ⟨gk - 1, by omega⟩
    have k5 : wo.cell? ⟨w.heap.size, 5, none⟩ = some (.slice Au n cu) := cell_of_row wo w.heap.size 5 _ _ _ HR.out.2
    obtain ⟨r1, r2, kl, ka⟩ := h1.out wo HR.out.1
    have R1 := Lib.hid (And.intro r1 r2)
    clear r1 r2
    by_cases hlt : i < n
    · have hil : (i : Int) < (n : Int) := by omega
      obtain ⟨hwk, hwk2⟩ := wrap_small (k := i) (by have := HNL.out.2; omega)
      have hwi : wrap64 ((i : Int) + 1) = (i : Int) + 1 := by have := HNL.out.2; unfold wrap64; omega
      obtain ⟨x, hx⟩ : ∃ x, c.inner[i]? = some x := ⟨_, List.getElem?_eq_getElem (by rw [Hn.out]; exact hlt)⟩
      obtain ⟨x0, x1⟩ := HB.out x (List.mem_of_getElem? hx)
      obtain ⟨m, rfl⟩ := Int.eq_ofNat_of_zero_le x0
      have hm : m < N := by omega
      obtain ⟨e, he⟩ : ∃ e, evs[m]? = some e := ⟨_, List.getElem?_eq_getElem (by rw [HN.out]; exact hm)⟩
      obtain ⟨b0, off, rfl, _, hce⟩ := R1.out.1.cells (by omega)
      obtain ⟨bu, ofu, rfl, _, hcu⟩ := R1.out.2.cells (by omega)
      have q := fun j (hj : j < 8) => flatMap_get Ev.cells 8 (fun _ => rfl) evs m e he j hj
      have y0 : wo.cell? ⟨b0, off + m * 8, none⟩ = some (.int .i64 e.kind) := hce _ _ (q 0 (by decide))
      have y3 : wo.cell? ⟨b0, off + m * 8 + 3, none⟩ = some (.int .i64 e.addr) := hce _ _ (q 3 (by decide))
      have z0 : wo.cell? ⟨bu, ofu + i, none⟩ = some (.int .i64 (m : Int)) := hcu i _ (by rw [List.getElem?_map, hx]; rfl)
      have hmi : (m : Int) < (N : Int) := by omega
      obtain ⟨hwm, hwm2⟩ := wrap_small (k := m) (by have := HNL.out.1; omega)
      have hsw := isSw_at (a := a) he
      clear q hce hcu x0 x1
      by_cases k4 : e.kind = 4
      · by_cases kA : e.addr = a
        · rw [decide_eq_true ⟨k4, kA⟩] at hsw
          have hd := door_some hfd hx hsw
          rw [k4] at y0
          rw [kA] at y3
          clear hsw hfd hx he k4 kA
          go_wp2_with fail
          go_quiet (fail)
          go_wp2_with fail
          go_ret
          exact ⟨by show Ending.returned (.int .i64 (m : Int)) = _; rw [hd], bl_drewN HR.out.1 _⟩
        · rw [decide_eq_false (fun e => kA e.2)] at hsw
          have hd := door_next hfd hx hsw
          have dA : (e.addr == a) = false := by simpa using kA
          rw [k4] at y0
          clear hsw hfd hx he k4 kA
          go_wp2_with fail
          go_quiet (fail)
          go_wp2_with fail
          go_roundg g'
          case rel => exact ⟨i + 1, by omega, by omega, by first | (simp; done) | (simp; exact hwi), hd, Lib.hid ⟨bl_drewN HR.out.1 nq, HR.out.2⟩⟩
          case measure => omega
      · rw [decide_eq_false (fun e => k4 e.1)] at hsw
        have hd := door_next hfd hx hsw
        have dk : (e.kind == 4) = false := by simpa using k4
        clear hsw hfd hx he k4
        go_wp2_with fail
        go_quiet (fail)
        go_wp2_with fail
        go_roundg g'
        case rel => exact ⟨i + 1, by omega, by omega, by first | (simp; done) | (simp; exact hwi), hd, Lib.hid ⟨bl_drewN HR.out.1 nq, HR.out.2⟩⟩
        case measure => omega
    · obtain rfl : i = n := by omega
      have hd : doorP a evs c = -1 := door_none (by rw [Hn.out]; exact hfd)
      have hil : ¬ ((i : Int) < (i : Int)) := by omega
      go_wp2_with fail
      go_ret
      exact ⟨by first | rfl | (show Ending.returned (.int .i64 (-1)) = _; rw [hd]), HR.out.1⟩
end Go.Proofs.YtckmkaeopnnbbaaGreatDoor.As
