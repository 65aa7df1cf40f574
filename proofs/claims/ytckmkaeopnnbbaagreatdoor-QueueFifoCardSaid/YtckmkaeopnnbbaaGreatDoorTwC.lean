/- The walk of deadlatchlaw15.fifo. -/
import Derived.Test.YtckmkaeopnnbbaaGreatDoorGn
import Derived.Test.YtckmkaeopnnbbaaGreatDoorTwB
set_option linter.unusedVariables false
set_option linter.unusedSimpArgs false
set_option maxRecDepth 20000
namespace Go.Proofs.YtckmkaeopnnbbaaGreatDoor.As.T
open Go.RowKit

set_option maxHeartbeats 16000000 in
theorem fifo_any (w : World) (TI : TabI w) (k n a b : Int) (T rounds room : Nat) (N : Nat) (caps : Array Value) (ca cb : Nat → List Ins) (mem : List Int) (sv : Value) (bs : List Nat)
    (hA : ∀ t, t < T → ∀ W, Below w.heap.size w W → Calls Tryz.prog N (#[.int .i64 1, .int .i64 (t : Int)] ++ caps) W (CodeIs W (ca t)))
    (hB : ∀ t, t < T → ∀ W, Below w.heap.size w W → Calls Tryz.prog N (#[.int .i64 2, .int .i64 (t : Int)] ++ caps) W (CodeIs W (cb t)))
    (hF : ∀ W, Below w.heap.size w W → Calls Tryz.prog 42 #[.agg #[.int .i64 k, .int .i64 n, .int .i64 a, .int .i64 b], .int .i64 (T : Int)] W (FirstOk W mem))
    (eN : ∀ args w, (callFunc N args).run Tryz.prog w = .ok (.enter N args) w) (hm0 : 0 < mem.length) (hm1 : mem.length ≤ 500) (hmw : ∀ v ∈ mem, wd v = true) (hT0 : 0 < T) (hT : T ≤ 8) (hR0 : 0 < rounds) (hR : rounds ≤ 10) (hr0 : 0 < room) (hr : room ≤ 16)
    (hla : ∀ t, (ca t).length ≤ 200 ∧ 0 < (ca t).length ∧ ∀ x ∈ ca t, 0 ≤ x.k ∧ x.k ≤ 4294967295) (hlb : ∀ t, (cb t).length ≤ 200 ∧ 0 < (cb t).length ∧ ∀ x ∈ cb t, 0 ≤ x.k ∧ x.k ≤ 4294967295)
    (hco : CodesOk (codesR ca cb T rounds)) (hs : Rd w 1 sv bs.length (u8s bs)) (hb : ∀ b ∈ bs, b ≤ 255) (hn : bs.length ≤ 40000)
    (s' : Ts) (hrun : Ts.run (codesR ca cb T rounds) (ts0 (mem0 mem) room T) (bs.map pickB) = some s') (Wq : List Nat) (stq : Nat → Nat) (hff : ffF s'.evs = some (Wq, stq)) :
    Calls Tryz.prog 17 #[.agg #[.int .i64 k, .int .i64 n, .int .i64 a, .int .i64 b], .int .i64 T, .int .i64 rounds, .int .i64 room, .func (.func N) #[] caps, sv] w fun e w' => e = .returned (.bool true) ∧ Below w.heap.size w w' := by
  have hb1 : ∀ X, Below w.heap.size w (w.alloc X) := fun X => (Below.refl _ w).alloc (Nat.le_refl _) X
  have hrd := fun X => rounds_any (w.alloc X) (TI.below (hb1 X) (Nat.le_refl _)) k n a b T rounds room N caps ca cb mem (fun t ht W hW => hA t ht W ((hb1 X).trans (hW.mono (hb1 X).size))) (fun t ht W hW => hB t ht W ((hb1 X).trans (hW.mono (hb1 X).size))) (fun W hW => hF W ((hb1 X).trans (hW.mono (hb1 X).size))) eN hm0 (by omega) hT0 hT hR0 hR hla hlb
  have HRD := Lib.hid hrd
  have HB1 := Lib.hid hb1
  have HTI := Lib.hid TI
  have HCO := Lib.hid hco
  have HS := Lib.hid (And.intro hs (And.intro hb hn))
  have HRUN := Lib.hid (And.intro hrun hff)
  have HM := Lib.hid (And.intro hm0 (And.intro hm1 hmw))
  have HT := Lib.hid (And.intro hT0 (And.intro hT (And.intro hR0 hR)))
  have HRO := Lib.hid (And.intro hr0 hr)
  clear hA hB hF hrd hb1 TI hco hs hb hn hrun hff hm0 hm1 hmw hT0 hT hR0 hR hr0 hr hla hlb
  go_enter Tryz.func17, Tryz.ntmps17
  go_wp2_with fail
  with_reducible refine (HRD.out _).mono ?_
  rintro r w2 ⟨cv, mv, rfl, hmv, hcs, hb2⟩
  obtain ⟨ggx, cpx, hcox, _⟩ := hcs.ex
  obtain ⟨gv, pv, rfl⟩ := own_form hcox HT.out.1
  obtain ⟨gm5, pm5, rfl⟩ := own_form hmv (by omega)
  have HMV := Lib.hid hmv
  have HCS := Lib.hid (cdp_of hcs)
  have HB2 : Hid (Below w.heap.size w w2) := Lib.hid ((HB1.out _).trans (hb2.mono (HB1.out _).size))
  clear hmv hcs hb2 hcox
  go_wp2_with fail
  have hl0 : (mem0 mem).length = 16 + mem.length := by unfold mem0; rw [List.length_append, List.length_replicate]
  have hbw3 : ∀ X, Below w.heap.size w (w2.alloc X) := fun X => HB2.out.alloc HB2.out.size X
  have hnew : ∀ X, Calls Tryz.prog 23 #[.agg #[.slice (some ⟨gv, 0, none⟩) T pv, .slice (some ⟨gm5, 0, none⟩) (16 + mem.length) pm5, .int .i64 room]] (w2.alloc X) fun e w' => ∃ (Z : Nat → Prop) (K : TsK), e = .returned (.tuple #[.pointer (some ⟨K.mb, 0, none⟩), .int .i64 0]) ∧ Mch Z w' K (codesR ca cb T rounds) (ts0 (mem0 mem) room T) ∧ (∀ k, k < (w2.alloc X).heap.size → Z k) ∧ Below (w2.alloc X).heap.size (w2.alloc X) w' ∧ (mem0 mem).length ≤ K.mc := fun X => by
    have h := new_ts (w2.alloc X) (HTI.out.below (hbw3 X) (Nat.le_refl _)) gv pv room pm5 (some ⟨gm5, 0, none⟩) (mem0 mem) (codesR ca cb T rounds) (HCS.out.below ((Below.refl _ _).alloc (Nat.le_refl _) _)) (by rw [hl0]; exact Rd.of_own (own_only HMV.out (on_al (F := fun _ => False) _ _) (fun _ _ f => f))) (by rw [codesR_len]; exact HT.out.1) (by rw [codesR_len]; exact HT.out.2.1) (by rw [hl0]; omega) (by rw [hl0]; have := HM.out.2.1; omega) HRO.out.1 HRO.out.2 (fun L hL => ⟨(HCO.out L hL).2.1, fun x hx => by
      have := (HCO.out L hL).2.2 x hx
      simp only [okI, Bool.and_eq_true] at this
      exact this.1.1⟩) (fun L hL => (HCO.out L hL).1)
    rw [codesR_len, hl0] at h
    rw [hl0]
    exact h
  refine (hnew _).mono ?_
  rintro r w4 ⟨Z, K, rfl, hm4, hz4, hb4, hmc⟩
  have HB4 : Hid (Below w.heap.size w w4) := Lib.hid ((hbw3 _).trans (hb4.mono (hbw3 _).size))
  have HM4 := Lib.hid hm4
  have HMC : Hid ((mem0 mem).length ≤ K.mc) := Lib.hid hmc
  have HZ : Hid (∀ k, k < w.heap.size → Z k) := Lib.hid (fun k hk => hz4 k (by have := (hbw3 (.cells #[] 45)).size; simp at this ⊢; omega))
  have HL0 := Lib.hid hl0
  clear hnew hbw3 hm4 hz4 hb4 hmc hl0 HMV HCS HRD HB1 HB2
  have hread := read_any w4 sv bs (HS.out.1.below HB4.out (Nat.le_refl _)) HS.out.2.1 (by have := HS.out.2.2; omega)
  go_wp2_with (go_at_call 25; refine hread.mono ?_; rintro r w5 ⟨gp, rfl, hpk, hg5, hg6, hb5⟩)
  have hrunc : Calls Tryz.prog 24 #[.pointer (some ⟨K.mb, 0, none⟩), .slice (some ⟨gp, 0, none⟩) bs.length bs.length] w5 fun e w' => e = .returned (.tuple #[]) ∧ TsM (fun k => Z k ∨ k = gp) w' K s' ∧ Only (fun k => ¬ (Z k ∨ k = gp)) w5 w' ∧ s'.mem.length = (mem0 mem).length ∧ s'.ths.length = T ∧ s'.evs.length ≤ 2 * bs.length := by
    have hk0 := ok0 HCO.out (mem := mem0 mem) (room := room) (fun v hv => by
      unfold mem0 at hv
      rcases List.mem_append.1 hv with hv | hv
      · rw [(List.mem_replicate.1 hv).2]; rfl
      · exact HM.out.2.2 v hv)
    rw [codesR_len] at hk0
    have h := run_ts (cap := bs.length) (HM4.out.more (TsM.add HM4.out.m hb5 hg5 hg6) (Only.of_below (F := fun _ => False) hb5 (Nat.le_refl _)) (fun k e => Or.inl e)) hk0 (by have := HT.out.2.1; simp [ts0]; omega) (by
      have h1 : (ts0 (mem0 mem) room T).evs.length = 0 := rfl
      have h2 : (ts0 (mem0 mem) room T).pend = 0 := by simp [ts0, Ts.pend]
      rw [h1, h2, List.length_map]
      have := HS.out.2.2
      omega) (by show (mem0 mem).length ≤ 2000; rw [HL0.out]; have := HM.out.2.1; omega) (Or.inr rfl) hpk HRUN.out.1
    rw [List.length_map] at h
    refine h.mono ?_
    rintro e w' ⟨a1, a2, a3, a4, a5, a6, a7⟩
    refine ⟨a1, a2, a3, a6, by rw [a5]; simp [ts0], ?_⟩
    have h2 : (ts0 (mem0 mem) room T).pend = 0 := by simp [ts0, Ts.pend]
    have h1 : (ts0 (mem0 mem) room T).evs.length = 0 := rfl
    omega
  refine hrunc.mono ?_
  rintro r w6 ⟨rfl, hm6, ho6, hl6, ht6, hev6⟩
  have HB6 : Hid (Below w.heap.size w w6) := Lib.hid ((HB4.out.trans (hb5.mono HB4.out.size)).trans (ho6.below (Nat.le_trans HB4.out.size hb5.size) (fun k e => by
    rcases Nat.lt_or_ge k w.heap.size with h | h
    · exact absurd (.inl (HZ.out k h)) e
    · exact h)))
  have HM6 := Lib.hid hm6
  have HE6 := Lib.hid (And.intro hl6 (And.intro ht6 hev6))
  clear hrunc hread hm6 ho6 hl6 ht6 hev6 hpk hg5 hg6 hb5 HB4 HM4 HZ
  have hevs := events_ts HM6.out (by have := HE6.out.2.2; have := HS.out.2.2; omega)
  go_wp2_with (go_at_call 26; refine hevs.mono ?_; rintro r w7 ⟨ve, rfl, hve, hb7⟩)
  have hre := Rd.of_own hve
  have htu := turns_any s'.evs ve w7 hre (by have := HE6.out.2.2; have := HS.out.2.2; omega) Wq stq HRUN.out.2
  have HB7 : Hid (Below w.heap.size w w7) := Lib.hid (HB6.out.trans (hb7.mono HB6.out.size))
  clear hevs hve hre hb7
  go_wp2_with (go_at_call 39; refine htu.mono ?_; rintro r w8 ⟨rfl, hb8⟩)
  go_ret
  exact ⟨rfl, HB7.out.trans (hb8.mono HB7.out.size)⟩
end Go.Proofs.YtckmkaeopnnbbaaGreatDoor.As.T
