/- AluFolds: an operation with one word behind the other is the document’s. No condition.
-/
import Derived.Test.YtokokhkjhlechaaAluPack
import Derived.WalkKit
import Derived.ProofKit
import Derived.OpenShut
import Derived.ChangeOld
import Derived.Below
import Derived.Carry
set_option linter.unusedVariables false
namespace Go.Proofs.Ytokokhkjhlechaa.aluFolds
open Go.ChangeShapes Go.WideShapes Go.ChangeAt Go.RowKit Go.Proofs.Ytokokhkjhlechaa.Al
open Go.ChangeMaps (open_string shut_string)

/-- The words of a slice that came in: they lie below block B. -/
def Wds (w : World) (B : Nat) (A : Option Addr) (zs : List Nat) : Prop :=
  (∀ z ∈ zs, z < 4294967296) ∧ ∀ (k z : Nat), zs[k]? = some z → ∃ b off, A = some ⟨b, off, none⟩ ∧ b < B ∧ w.cell? ⟨b, off + k, none⟩ = some (.int .u32 z)
theorem Wds.below {w w' : World} {B : Nat} {A : Option Addr} {zs : List Nat} (h : Wds w B A zs) (hb : Below B w w') : Wds w' B A zs :=
  ⟨h.1, fun k z hz => let ⟨b, off, e, hlt, hc⟩ := h.2 k z hz; ⟨b, off, e, hlt, (hb.cell (p := ⟨b, off + k, none⟩) hlt).trans hc⟩⟩
theorem Wds.more {w : World} {B B' : Nat} {A : Option Addr} {zs : List Nat} (h : Wds w B A zs) (hB : B ≤ B') : Wds w B' A zs :=
  ⟨h.1, fun k z hz => let ⟨b, off, e, hlt, hc⟩ := h.2 k z hz; ⟨b, off, e, Nat.lt_of_lt_of_le hlt hB, hc⟩⟩
/-- One word behind the other. -/
def foldN (op : Int) (first : Nat) (zs : List Nat) : Nat := zs.foldl (doN op) first
theorem foldN_snoc (op : Int) (first k z : Nat) (zs : List Nat) (h : zs[k]? = some z) : foldN op first (zs.take (k + 1)) = doN op (foldN op first (zs.take k)) z := by
  have hk : k < zs.length := by
    rcases Nat.lt_or_ge k zs.length with h' | h'
    · exact h'
    · rw [List.getElem?_eq_none h'] at h; cases h
  have e : zs[k] = z := by rw [List.getElem?_eq_getElem hk] at h; injection h
  unfold foldN
  rw [List.take_succ_eq_append_getElem hk, List.foldl_append, e]; rfl
set_option maxHeartbeats 800000 in
theorem fold_yes (op : Int) (a cap : Nat) (A : Option Addr) (zs : List Nat) (w : World) (h3 : 3 ≤ op) (h12 : op ≤ 12) (ha : a < 4294967296) (hl : zs.length ≤ 200) (hr : Wds w w.heap.size A zs) :
    Calls Try.prog 15 #[.int .i64 op, .int .u32 a, .slice A zs.length cap] w fun e w' => e = .returned (.tuple #[.int .u32 (foldN op a zs : Nat), .bool true]) ∧ Below w.heap.size w w' := by
  have hi : isB op = true := by simp [isB, h3, h12]
  have HI := Lib.hid hi
  clear hi
  obtain ⟨n, hn⟩ : ∃ n, n = zs.length := ⟨_, rfl⟩
  rw [← hn] at hl ⊢
  have HN := Lib.hid hn
  clear hn
  have HR := Lib.hid hr
  clear hr
  go_enter Try.func15, Try.ntmps15
  go_wp2_with fail
  refine (is_yes op h3 h12 _).mono ?_; rintro e w' ⟨rfl, rfl⟩
  go_wp2_with fail
  go_loopw [1, 15] (fun u i wr => ∃ k x : Nat, k ≤ n ∧ i = .int .i64 k ∧ u = .int .u32 x ∧ x < 4294967296 ∧ Hid (x = foldN op a (zs.take k)) ∧ Below w.heap.size w wr) (fun _ i _ => n - (intOf i).toNat)
  case atStart => exact ⟨0, a, by omega, rfl, rfl, ha, rfl, Below.refl _ _⟩
  case round =>
    obtain ⟨k, x, hk, rfl, rfl, hx, HX, hb⟩ := hrel
    by_cases hlt : k < n
    · obtain ⟨z, hz⟩ : ∃ z, zs[k]? = some z := ⟨_, List.getElem?_eq_getElem (by have := HN.out; omega)⟩
      have HZ := Lib.hid hz
      have hz2 : z < 4294967296 := HR.out.1 z (List.mem_of_getElem? hz)
      obtain ⟨bb, off, rfl, hB, hc⟩ := (HR.out.below hb).2 k z hz
      clear hz
      go_wp2_with fail
      refine (do_nat op x z hx hz2 _).mono ?_; rintro e w1 ⟨rfl, h1⟩
      go_wp2
      exact ⟨⟨k + 1, _, by omega, rfl, rfl, doN_lt _ _ _ hx hz2, by show doN op x z = _; rw [foldN_snoc op a k z zs HZ.out, ← HX.out], hb.trans (h1.mono hb.size)⟩, by simp [intOf]; omega⟩
    · have hkk : k = n := by omega
      have HK := Lib.hid hkk
      clear hkk
      go_wp2
      go_ret2
      exact ⟨ret2b (by rw [HX.out, HK.out, HN.out, List.take_length]), hb⟩
theorem fold_no (op : Int) (a n cap : Nat) (A : Option Addr) (w : World) (h : op < 3 ∨ 12 < op) :
    Calls Try.prog 15 #[.int .i64 op, .int .u32 a, .slice A n cap] w fun e w' => e = .returned (.tuple #[.int .u32 0, .bool false]) ∧ w = w' := by
  have hi : isB op = false := by
    simp only [isB, Bool.and_eq_false_iff, decide_eq_false_iff_not]; omega
  go_enter Try.func15, Try.ntmps15
  go_wp2_with fail
  refine (is_any op _).mono ?_; rintro e w' ⟨rfl, rfl⟩
  rw [hi]
  go_wp2
  go_ret2
  exact ⟨rfl, rfl⟩
theorem long (a0 : Int) (a1 : Int) (A : Option Addr) (n cap : Nat) (w : World) (hl : 200 < n) :
    Calls Try.prog 7 #[.int .i64 a0, .int .u32 a1, .slice A n cap] w fun e w' => e = .returned (.bool true) ∧ Below w.heap.size w w' := by
  go_enter Try.func7, Try.ntmps7
  go_wp2_with fail
  refine (awake_any _).mono ?_; rintro e wa ⟨rfl, ha⟩
  go_wp2_with fail
  refine (awake_any _).mono ?_; rintro e wb ⟨rfl, hb⟩
  go_wp2
  go_ret
  exact ⟨rfl, ha.trans (hb.mono ha.size)⟩
set_option maxHeartbeats 800000 in
theorem yes (op : Int) (a cap : Nat) (A : Option Addr) (zs : List Nat) (w : World) (h3 : 3 ≤ op) (h12 : op ≤ 12) (ha : a < 4294967296) (hl : zs.length ≤ 200) (hr : Wds w w.heap.size A zs) :
    Calls Try.prog 7 #[.int .i64 op, .int .u32 a, .slice A zs.length cap] w fun e w' => e = .returned (.bool true) ∧ Below w.heap.size w w' := by
  have hi : isB op = true := by simp [isB, h3, h12]
  have HI := Lib.hid hi
  clear hi
  have HR := Lib.hid hr
  clear hr
  go_enter Try.func7, Try.ntmps7
  go_wp2_with fail
  refine (awake_any _).mono ?_; rintro e wa ⟨rfl, hwa⟩
  go_wp2_with fail
  refine (fold_yes op a cap A zs _ h3 h12 ha hl ((HR.out.below hwa).more hwa.size)).mono ?_; rintro e w1 ⟨rfl, h1⟩
  have hb1 : Below w.heap.size w w1 := hwa.trans (h1.mono hwa.size)
  go_wp2_with fail
  refine (ref_any op 0 0 (by omega) (by omega) _).mono ?_; rintro e w2 ⟨rfl, h2⟩
  rw [HI.out]
  have hb2 : Below w.heap.size w w2 := hb1.trans (h2.mono hb1.size)
  obtain ⟨n, hn⟩ : ∃ n, n = zs.length := ⟨_, rfl⟩
  rw [← hn] at hl ⊢
  have HN := Lib.hid hn
  clear hn
  clear hwa h1 hb1 h2
  generalize hF : foldN op a zs = F0 at *
  have HF := Lib.hid hF
  clear hF
  go_wp2_with fail
  go_loopw [1, 11] (fun u i wr => ∃ k x : Nat, k ≤ n ∧ i = .int .i64 k ∧ u = .int .u32 x ∧ x < 4294967296 ∧ Hid (x = foldN op a (zs.take k)) ∧ Below w.heap.size w wr) (fun _ i _ => n - (intOf i).toNat)
  case atStart => exact ⟨0, a, by omega, rfl, rfl, ha, rfl, hb2⟩
  case round =>
    obtain ⟨k, x, hk, rfl, rfl, hx, HX, hb⟩ := hrel
    by_cases hlt : k < n
    · obtain ⟨z, hz⟩ : ∃ z, zs[k]? = some z := ⟨_, List.getElem?_eq_getElem (by have := HN.out; omega)⟩
      have HZ := Lib.hid hz
      have hz2 : z < 4294967296 := HR.out.1 z (List.mem_of_getElem? hz)
      obtain ⟨bb, off, rfl, hB, hc⟩ := (HR.out.below hb).2 k z hz
      clear hz
      go_wp2_with fail
      refine (ref_any op x z hx hz2 _).mono ?_; rintro e w1 ⟨rfl, h1⟩
      go_wp2
      exact ⟨⟨k + 1, _, by omega, rfl, rfl, doN_lt _ _ _ hx hz2, by show doN op x z = _; rw [foldN_snoc op a k z zs HZ.out, ← HX.out], hb.trans (h1.mono hb.size)⟩, by simp [intOf]; omega⟩
    · have hkk : k = n := by omega
      have hxF : x = F0 := by rw [HX.out, hkk, HN.out, List.take_length, HF.out]
      have t1 : ((F0 : Int) == (x : Int)) = true := by rw [hxF]; exact beq_self_eq_true _
      clear hkk hxF
      go_wp2
      go_ret
      exact ⟨rfl, hb⟩
theorem no (op : Int) (a n cap : Nat) (A : Option Addr) (w : World) (h : op < 3 ∨ 12 < op) (hl : n ≤ 200) :
    Calls Try.prog 7 #[.int .i64 op, .int .u32 a, .slice A n cap] w fun e w' => e = .returned (.bool true) ∧ Below w.heap.size w w' := by
  have hi : isB op = false := by
    simp only [isB, Bool.and_eq_false_iff, decide_eq_false_iff_not]; omega
  have HI := Lib.hid hi
  clear hi
  go_enter Try.func7, Try.ntmps7
  go_wp2_with fail
  refine (awake_any _).mono ?_; rintro e wa ⟨rfl, hwa⟩
  go_wp2_with fail
  refine (fold_no op a n cap A _ h).mono ?_; rintro e w' ⟨rfl, rfl⟩
  go_wp2_with fail
  refine (ref_any op 0 0 (by omega) (by omega) _).mono ?_; rintro e w2 ⟨rfl, h2⟩
  rw [HI.out]
  go_wp2
  go_ret
  exact ⟨rfl, hwa.trans (h2.mono hwa.size)⟩
theorem open_words {H : Type} {enc : TypeId × Value → H} {W : World} {base : Nat} {v : Value} {d : DataW H} {p : List MemPlace} (ho : Value.okWide Try.prog W .any base 36 v) (h : DataW.Trod enc Try.prog W 0 (fun _ => true) true 36 v d p)
    (lt : ∀ x ∈ p, x.block < W.heap.size) : ∃ A cap zs, v = .slice A (List.length zs) cap ∧ Wds W W.heap.size A zs := by
  obtain ⟨A, len, cap, rfl⟩ := okWide_slice Try.underlying36 ho
  obtain ⟨fuel, hf⟩ := h
  rcases open_ints Try.underlying36 Try.underlying22 (by kernel_rfl) hf with ⟨hcs, _⟩ | ⟨x, l, c, zs, hcs, _, hl, hm, hz, _, hcell, hwz⟩
  · simp [Value.cells] at hcs
    obtain ⟨rfl, rfl, rfl⟩ := hcs
    exact ⟨none, 0, [], rfl, by simp, by simp⟩
  · simp [Value.cells] at hcs
    obtain ⟨rfl, rfl, rfl⟩ := hcs
    have hzz : zs.length = cap := by simpa using hz
    have hlen : (zs.take len).length = len := by simp; omega
    refine ⟨some x, cap, (zs.take len).map Int.toNat, by rw [List.length_map, hlen], ?_, ?_⟩
    · intro z hz'
      obtain ⟨n, hn, rfl⟩ := List.mem_map.1 hz'
      have := bounds_u32 (hwz n (List.mem_of_mem_take hn))
      omega
    · intro k z hk
      rw [List.getElem?_map, Option.map_eq_some_iff] at hk
      obtain ⟨n, hn, rfl⟩ := hk
      have hn1 := List.mem_of_getElem? hn
      have hb := bounds_u32 (hwz n (List.mem_of_mem_take hn1))
      have hkl : k < len := by
        rcases Nat.lt_or_ge k len with h' | h'
        · exact h'
        · rw [List.getElem?_eq_none (by omega)] at hn; cases hn
      obtain ⟨b, off, rfl, hc'⟩ := ints_at hcell (by omega : 0 < zs.length)
      have hck := hc' k (by omega)
      refine ⟨b, off, rfl, block_lt_of_cell hck, hck.trans ?_⟩
      have hn2 : zs[k]? = some n := by rw [List.getElem?_take, if_pos hkl] at hn; exact hn
      rw [List.getD_eq_getElem?_getD, hn2]
      show some (Value.int .u32 n) = some (Value.int .u32 ((n.toNat : Nat) : Int))
      rw [show ((n.toNat : Nat) : Int) = n from by omega]
theorem walk (a0 : Int) (w0 : (Lit.int .i64 a0).wf = true) (a1 : Int) (w1 : (Lit.int .u32 a1).wf = true) {H : Type} {enc : TypeId × Value → H} {base : Nat} (w : World) (v : Value) (d : DataW H) (p : List MemPlace) (ho : Value.okWide Try.prog w .any base 36 v) (h : DataW.Trod enc Try.prog w 0 (fun _ => true) true 36 v d p)
    (lt : ∀ x ∈ p, x.block < w.heap.size) :
    Calls Try.prog 7 #[.int .i64 a0, .int .u32 a1, v] w fun e w' => e = .returned (.bool true) ∧ Below w.heap.size w w' := by
  obtain ⟨A, cap, zs, rfl, hr⟩ := open_words ho h lt
  have b1 := bounds_u32 w1
  obtain ⟨a, rfl⟩ := Int.eq_ofNat_of_zero_le b1.1
  by_cases hl : 200 < zs.length
  · exact long a0 a A _ cap w hl
  · by_cases hop : 3 ≤ a0 ∧ a0 ≤ 12
    · exact yes a0 a cap A zs w hop.1 hop.2 (by omega) (by omega) hr
    · exact no a0 a _ cap A w (by omega) (by omega)

theorem own : ownKnob Try.prog.godebug = none := by kernel_rfl
theorem laidOut : laidOutB Try.prog = true := by kernel_rfl

set_option maxRecDepth 100000 in
theorem lifted (os : Os) (started : os.Started) (H : Type) (enc : TypeId × Value → H) :
    ReturnsInHanded {} Try.checked os 7 .any (Rows.aluFoldsSpec.pre6 enc Try.prog Try.f7 Rows.aluFoldsRow.domain false) (Rows.aluFoldsSpec.post enc Try.prog Try.f7 false true false false) := by
  refine returnsInHanded_of_change (C := Try.checked) own started (by kernel_rfl) Try.func7
    (ChangeSpec.witness6 (enc := enc) (C := Try.checked) false ⟨#[], #[.int .i64 0, .int .u32 0, .slice none 0 0], []⟩ 8 (by kernel_rfl) (by kernel_rfl) (by kernel_rfl) (by kernel_rfl)) ?_
  intro W base args ds gs before hval0 hW hcnd _
  have hval : ∀ (j : Nat) t v, Try.f7.params[j]? = some t → args[j]? = some v → Value.okWide Try.prog W .any base t v := hval0
  have hW' := hW
  obtain ⟨p, q, hA0, hV, rfl, hfz, hnd⟩ := hW
  have hA : DataW.TrodAll enc Try.prog W 0 (fun _ => true) true Try.f7.params.toList args.toList ds p := hA0
  rw [Try.params7] at hA hval
  obtain ⟨v0, vs0, d0, ds0, p0, q0, hargs, rfl, rfl, h0, r0⟩ := trodAll_cons hA
  obtain ⟨v1, vs1, d1, ds1, p1, q1, rfl, rfl, rfl, h1, r1⟩ := trodAll_cons r0
  obtain ⟨v2, vs2, d2, ds2, p2, q2, rfl, rfl, rfl, h2, r2⟩ := trodAll_cons r1
  obtain ⟨rfl, rfl, rfl⟩ := trodAll_nil r2
  obtain rfl : args = #[v0, v1, v2] := by cases args; simp_all
  obtain ⟨rfl, rfl⟩ := trodVars_none hV
  obtain ⟨a0, rfl, rfl, rfl, w0⟩ := open_int Try.underlying3 (hval 0 3 v0 rfl rfl) h0
  obtain ⟨a1, rfl, rfl, rfl, w1⟩ := open_int Try.underlying22 (hval 1 22 v1 rfl rfl) h1
  have k2 := h2
  have lt2 : ∀ x ∈ p2, x.block < W.heap.size := by obtain ⟨m, hm⟩ := k2; exact DataW.trod_lt m _ _ _ hm
  have o2 := hval 2 36 v2 rfl rfl
  clear hA0 hval0
  refine (walk (w := W) a0 w0 a1 w1 v2 d2 p2 o2 h2 lt2).mono fun e W' ⟨he, bel⟩ => ?_
  subst he
  exact ⟨_, rfl, _, _, _, [], _, [], hW', trodAll_mk1 (shut_bool Try.underlying4 _), (trodAll_cons_mk (shut_int Try.underlying3 w0) (trodAll_cons_mk (shut_int Try.underlying22 w1) (trodAll_cons_mk (Below.trod laidOut (by kernel_rfl) (of_decide_eq_true (by kernel_rfl)) k2 bel lt2) trodAll_mk0))), rfl, bel.frame _, fun h => by cases h⟩

theorem over : Rows.aluFoldsRow.holds Try.pinned (OpenSpec.ofChange Rows.aluFoldsSpec) :=
  OpenClaim.holds_of_wide 7 Try.f7 rfl rfl rfl rfl rfl rfl rfl ⟨rfl, rfl, rfl, rfl, rfl⟩ rfl rfl rfl rfl rfl (by kernel_rfl) Try.func7 (by kernel_rfl)
    (of_decide_eq_true (by kernel_rfl)) (by unfold Func.isWrapper; first | (rw [if_pos (by decide +kernel)]; kernel_rfl) | (rw [if_neg (by decide +kernel)]; exact ⟨rfl, rfl⟩))
    (fun os started H enc _ => lifted os started H enc)

/-- The statement. -/
theorem proved : Rows.AluFoldsSaid := over
#print axioms proved
end Go.Proofs.Ytokokhkjhlechaa.aluFolds
