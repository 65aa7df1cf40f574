/- core.Step, whatever instruction. -/
import Derived.Test.YtackbadmcgjncaaGreatDoorCoG
import Derived.Test.YtackbadmcgjncaaGreatDoorCoD
import Derived.Test.YtackbadmcgjncaaGreatDoorCoH
import Derived.Test.YtackbadmcgjncaaGreatDoorAlP
import Derived.Test.YtackbadmcgjncaaGreatDoorAlM
set_option linter.unusedVariables false
set_option linter.unusedSimpArgs false
set_option maxRecDepth 20000
namespace Go.Proofs.YtackbadmcgjncaaGreatDoor.As
open Go.RowKit

theorem th8 {t : Th} (h : t.regs.length = 8) : ∃ a b c d e f g h, t = ⟨t.pc, [a, b, c, d, e, f, g, h], t.st⟩ := by
  obtain ⟨pc, regs, st⟩ := t
  obtain ⟨a, b, c, d, e, f, g, k, rfl⟩ := list8 h
  exact ⟨a, b, c, d, e, f, g, k, rfl⟩
theorem wd_iff {x : Int} : wd x = true ↔ 0 ≤ x ∧ x ≤ 4294967295 := by simp [wd]
theorem reg_wd {t : Th} (h : t.regs.all wd = true) (j : Int) : 0 ≤ t.reg j ∧ t.reg j ≤ 4294967295 := by
  unfold Th.reg
  rw [List.getD_eq_getElem?_getD]
  cases e : t.regs[j.toNat]? with
  | none => exact ⟨by decide, by decide⟩
  | some v => exact wd_iff.1 (List.all_eq_true.1 h v (List.mem_of_getElem? e))
theorem put_len (t : Th) (a v : Int) : (t.put a v).regs.length = t.regs.length := by simp [Th.put]
theorem rightI_b {i : Ins} {n : Int} (h : rightI i n = true) (ho : i.op = 2 ∨ i.op = 3 ∨ i.op = 12) : i.b < 8 := by
  have e8 : bitI (opUses.getD i.op.toNat 0) 8 = false := by rcases ho with e | e | e <;> rw [e] <;> decide
  have e10 : bitI (opUses.getD i.op.toNat 0) 10 = true := by rcases ho with e | e | e <;> rw [e] <;> decide
  unfold rightI at h
  simp only [e8, e10, Bool.and_eq_true, decide_eq_true_eq] at h
  have hB := h.2.1.1.2
  unfold fieldI at hB
  simp at hB
  omega
theorem addrI_wd {t : Th} {i : Ins} (hk : wd i.k = true) : 0 ≤ addrI t i := by
  unfold addrI
  split
  · exact (wd_iff.1 hk).1
  · unfold wr32; omega
/-- What a step does, its instruction at hand. -/
theorem stepI_at {L : List Ins} {th : Th} {i : Ins} {s : Sc} (h0 : th.st = 0) (hp : 0 ≤ th.pc) (hi : L[th.pc.toNat]? = some i) :
    stepI scP L th s = if asksI i.op then (if (s.mem.length : Int) ≤ addrI th i then none else (asks scP i (addrI th i).toNat th s).map fun q => (q.1.next, q.2)) else if i.op = 0 then some ({ th with st := 2 }, s.note ⟨12, 0, th.pc, 0, 0, 0, 0, false⟩) else if jumpsI i.op then some (if goesI i th = true then { th with pc := i.k } else th.next, s) else (plainI scP i th s).map fun q => (q.1.next, q.2) := by
  have hlt := (List.getElem?_eq_some_iff.1 hi).1
  unfold stepI
  rw [if_neg (fun h => h h0), if_neg (by omega)]
  rw [hi]
  have hf : ¬ ((drainsI i.op ∧ scP.empty s = false) ∨ (i.op = 17 ∧ scP.room s = false)) := by
    rintro (h | h)
    · exact Bool.noConfusion h.2
    · exact Bool.noConfusion h.2
  by_cases ha : asksI i.op
  · have hz : ¬ i.op = 0 := by intro e; rw [e] at ha; revert ha; decide
    have hj : ¬ jumpsI i.op := by intro e; rcases ha with e1 | e1 | e1 | e1 | e1 | e1 | e1 <;> (rw [e1] at e; revert e; decide)
    rw [if_pos ha]
    simp only [if_pos ha]
    by_cases hs : (s.mem.length : Int) ≤ addrI th i
    · rw [if_pos ⟨ha, hs⟩, if_pos hs]
    · rw [if_neg (fun h => hs h.2), if_neg hs, if_neg hf, if_neg hz, if_neg hj]
  · rw [if_neg ha]
    simp only [if_neg ha]
    rw [if_neg (fun h => ha h.1), if_neg hf]
    rfl
theorem stepI_end {L : List Ins} {th : Th} {s : Sc} (h0 : th.st = 0) (hp : (L.length : Int) ≤ th.pc) : stepI scP L th s = some ({ th with st := 2 }, s.note ⟨12, 0, th.pc, 0, 0, 0, 0, false⟩) := by
  unfold stepI
  rw [if_neg (fun h => h h0), if_pos (.inr hp)]
  rfl
theorem stepP {Z : Nat → Prop} {w : World} {n : Int} {mb mm mc b0 : Nat} {cv tv kv : Value} {s : Sc} (th : Th) (pc : Nat) (hpv : th.pc = pc) (h8 : th.regs.length = 8) (h0 : th.st = 0) {g : Nat} {len cap : Nat} {i : Ins} (hM : ScM Z w mb mm mc b0 cv tv kv s) (T : TabI w) (hg : ∀ j u, [Value.int .i64 i.op, .int .i64 i.a, .int .i64 i.b, .int .i64 i.c, .int .u32 i.k][j]? = some u → w.cell? ⟨g, pc * 5 + j, none⟩ = some u) (hn : s.evs.length ≤ 999999) (hpc : pc < len) (hlen : len ≤ 1000000) (hr : rightI i len = true) (T2 : Th) (h82 : T2.regs.length = 8) (hp2 : T2.pc = pc) (h02 : T2.st = 0) (s' : Sc) (ha : ¬ asksI i.op) (hj : jumps i.op = false) (d17 : (i.op == 17) = false) (d0 : (i.op == 0) = false)
    (hplain : ∀ W, RunB W (w.heap.size + 1 + 1 + 1) n mb th i 0 → ScM (Z4 Z w.heap.size) W mb mm mc b0 cv tv kv s → Calls Tryz.prog 120 #[.pointer (some ⟨w.heap.size + 1 + 1 + 1, 0, none⟩)] W (RPost (Z4 Z w.heap.size) W (w.heap.size + 1 + 1 + 1) n mb mm mc b0 cv tv kv i 0 T2 s')) :
    Calls Tryz.prog 69 #[.agg th.cells.toArray, .slice (some ⟨g, 0, none⟩) len cap, .agg (portV n mb).toArray] w (StepPost Z w mb mm mc b0 cv tv kv T2.next s') := by
  obtain ⟨pc', regs, st⟩ := th
  dsimp only at hpv h8 h0
  subst hpv; subst h0
  obtain ⟨r0, r1, r2, r3, r4, r5, r6, r7, rfl⟩ := list8 h8
  obtain ⟨pc2, regs2, st2⟩ := T2
  dsimp only at hp2 h82 h02
  subst hp2; subst h02
  obtain ⟨q0, q1, q2, q3, q4, q5, q6, q7, rfl⟩ := list8 h82
  cases hd : decide (drainsI i.op) with
  | false => exact step_plainF Z w n mb mm mc b0 cv tv kv s pc r0 r1 r2 r3 r4 r5 r6 r7 g len cap i hM T hg hn hpc hlen hr q0 q1 q2 q3 q4 q5 q6 q7 s' ha hj hd d17 d0 hplain
  | true => exact step_plainT Z w n mb mm mc b0 cv tv kv s pc r0 r1 r2 r3 r4 r5 r6 r7 g len cap i hM T hg hn hpc hlen hr q0 q1 q2 q3 q4 q5 q6 q7 s' ha hj hd d17 d0 hplain
theorem stepA {Z : Nat → Prop} {w : World} {n : Int} {mb mm mc b0 : Nat} {cv tv kv : Value} {s : Sc} (th : Th) (pc : Nat) (hpv : th.pc = pc) (h8 : th.regs.length = 8) (h0 : th.st = 0) {g : Nat} {len cap : Nat} {i : Ins} (hM : ScM Z w mb mm mc b0 cv tv kv s) (T : TabI w) (hg : ∀ j u, [Value.int .i64 i.op, .int .i64 i.a, .int .i64 i.b, .int .i64 i.c, .int .u32 i.k][j]? = some u → w.cell? ⟨g, pc * 5 + j, none⟩ = some u) (hn : s.evs.length ≤ 999999) (hpc : pc < len) (hlen : len ≤ 1000000) (hr : rightI i len = true) (T2 : Th) (h82 : T2.regs.length = 8) (hp2 : T2.pc = pc) (h02 : T2.st = 0) (s' : Sc) (adn : Nat) (had : addrI th i = adn) (hadn : (adn : Int) < n) (hn2 : n ≤ 100000) (hk : i.k ≤ 4294967295) (hrr : ∀ j, 0 ≤ th.reg j ∧ th.reg j ≤ 4294967295) (ha : asksI i.op) (hj : jumps i.op = false) (d0 : (i.op == 0) = false) (hde : decide (drainsI i.op) = true → (i.op == 17) = false)
    (hasks : ∀ W, RunB W (w.heap.size + 1 + 1 + 1) n mb th i adn → ScM (Z4 Z w.heap.size) W mb mm mc b0 cv tv kv s → Calls Tryz.prog 119 #[.pointer (some ⟨w.heap.size + 1 + 1 + 1, 0, none⟩)] W (RPost (Z4 Z w.heap.size) W (w.heap.size + 1 + 1 + 1) n mb mm mc b0 cv tv kv i adn T2 s')) :
    Calls Tryz.prog 69 #[.agg th.cells.toArray, .slice (some ⟨g, 0, none⟩) len cap, .agg (portV n mb).toArray] w (StepPost Z w mb mm mc b0 cv tv kv T2.next s') := by
  obtain ⟨pc', regs, st⟩ := th
  dsimp only at hpv h8 h0
  subst hpv; subst h0
  obtain ⟨r0, r1, r2, r3, r4, r5, r6, r7, rfl⟩ := list8 h8
  obtain ⟨pc2, regs2, st2⟩ := T2
  dsimp only at hp2 h82 h02
  subst hp2; subst h02
  obtain ⟨q0, q1, q2, q3, q4, q5, q6, q7, rfl⟩ := list8 h82
  cases hd : decide (drainsI i.op) with
  | true => exact step_asksW Z w n mb mm mc b0 cv tv kv s pc r0 r1 r2 r3 r4 r5 r6 r7 g len cap i hM T hg hn hpc hlen hr q0 q1 q2 q3 q4 q5 q6 q7 s' adn had hadn hn2 hk hrr ha hj hd (hde hd) d0 hasks
  | false =>
    cases h17 : (i.op == 17) with
    | true => exact step_asksS Z w n mb mm mc b0 cv tv kv s pc r0 r1 r2 r3 r4 r5 r6 r7 g len cap i hM T hg hn hpc hlen hr q0 q1 q2 q3 q4 q5 q6 q7 s' adn had hadn hn2 hk hrr ha hj hd h17 d0 hasks
    | false => exact step_asksL Z w n mb mm mc b0 cv tv kv s pc r0 r1 r2 r3 r4 r5 r6 r7 g len cap i hM T hg hn hpc hlen hr q0 q1 q2 q3 q4 q5 q6 q7 s' adn had hadn hn2 hk hrr ha hj hd h17 d0 hasks
theorem stepJ {Z : Nat → Prop} {w : World} {n : Int} {mb mm mc b0 : Nat} {cv tv kv : Value} {s : Sc} (th : Th) (pc : Nat) (hpv : th.pc = pc) (h8 : th.regs.length = 8) (h0 : th.st = 0) {g : Nat} {len cap : Nat} {i : Ins} (hM : ScM Z w mb mm mc b0 cv tv kv s) (T : TabI w) (hg : ∀ j u, [Value.int .i64 i.op, .int .i64 i.a, .int .i64 i.b, .int .i64 i.c, .int .u32 i.k][j]? = some u → w.cell? ⟨g, pc * 5 + j, none⟩ = some u) (hn : s.evs.length ≤ 999999) (hpc : pc < len) (hlen : len ≤ 1000000) (hr : rightI i len = true) (hk : i.k ≤ 4294967295) (hj : jumpsI i.op) :
    Calls Tryz.prog 69 #[.agg th.cells.toArray, .slice (some ⟨g, 0, none⟩) len cap, .agg (portV n mb).toArray] w (StepPost Z w mb mm mc b0 cv tv kv (if goesI i th = true then { th with pc := i.k } else th.next) s) := by
  obtain ⟨pc', regs, st⟩ := th
  dsimp only at hpv h8 h0
  subst hpv; subst h0
  obtain ⟨r0, r1, r2, r3, r4, r5, r6, r7, rfl⟩ := list8 h8
  cases hgo : goesI i ⟨(pc : Int), [r0, r1, r2, r3, r4, r5, r6, r7], 0⟩ with
  | true => exact step_jumpY Z w n mb mm mc b0 cv tv kv s pc r0 r1 r2 r3 r4 r5 r6 r7 g len cap i hM T hg hn hpc hlen hr hk hj hgo
  | false => exact step_jumpN Z w n mb mm mc b0 cv tv kv s pc r0 r1 r2 r3 r4 r5 r6 r7 g len cap i hM T hg hn hpc hlen hr hk hj hgo
theorem stepE {Z : Nat → Prop} {w : World} {n : Int} {mb mm mc b0 : Nat} {cv tv kv : Value} {s : Sc} (th : Th) (pc : Nat) (hpv : th.pc = pc) (h8 : th.regs.length = 8) (h0 : th.st = 0) {g : Nat} {cap : Nat} (hM : ScM Z w mb mm mc b0 cv tv kv s) (T : TabI w) (hn : s.evs.length ≤ 999999) :
    Calls Tryz.prog 69 #[.agg th.cells.toArray, .slice (some ⟨g, 0, none⟩) pc cap, .agg (portV n mb).toArray] w (StepPost Z w mb mm mc b0 cv tv kv { th with st := 2 } (s.note ⟨12, 0, th.pc, 0, 0, 0, 0, false⟩)) := by
  obtain ⟨pc', regs, st⟩ := th
  dsimp only at hpv h8 h0
  subst hpv; subst h0
  obtain ⟨r0, r1, r2, r3, r4, r5, r6, r7, rfl⟩ := list8 h8
  exact step_end Z w n mb mm mc b0 cv tv kv s pc r0 r1 r2 r3 r4 r5 r6 r7 g cap hM T hn
set_option maxHeartbeats 2000000 in
theorem step_any {Z : Nat → Prop} {w : World} {mb mm mc b0 : Nat} {cv tv kv : Value} {s : Sc} {th : Th} {q : Th × Sc} {L : List Ins} {g cap : Nat} (hM : ScM Z w mb mm mc b0 cv tv kv s) (T : TabI w) (hL : InS w (.slice (some ⟨g, 0, none⟩) L.length cap) L.length L) (hlen : L.length ≤ 4000) (hok : ∀ x ∈ L, okI L.length x = true) (ht : okT L.length th = true) (hs : okS s = true) (hml : s.mem.length ≤ 2000) (h0 : th.st = 0) (hstep : stepI scP L th s = some q) :
    Calls Tryz.prog 69 #[.agg th.cells.toArray, .slice (some ⟨g, 0, none⟩) L.length cap, .agg (portV (s.mem.length : Int) mb).toArray] w (StepPost Z w mb mm mc b0 cv tv kv q.1 q.2) := by
  simp only [okT, Bool.and_eq_true, decide_eq_true_eq] at ht
  obtain ⟨⟨⟨p0, p1⟩, h8⟩, hw⟩ := ht
  simp only [okS, Bool.and_eq_true, decide_eq_true_eq] at hs
  have hn : s.evs.length ≤ 999999 := by have := hs.1.1; omega
  obtain ⟨pc, hpc⟩ := Int.eq_ofNat_of_zero_le p0
  by_cases hend : (L.length : Int) ≤ th.pc
  · rw [stepI_end h0 hend] at hstep
    obtain rfl : q = _ := (Option.some.inj hstep).symm
    have e : L.length = pc := by omega
    rw [e]
    exact stepE th pc hpc h8 h0 hM T hn
  · have hlt : pc < L.length := by omega
    obtain ⟨i, hi⟩ : ∃ i, L[pc]? = some i := ⟨_, List.getElem?_eq_getElem hlt⟩
    have hoki := hok i (List.mem_of_getElem? hi)
    simp only [okI, Bool.and_eq_true] at hoki
    obtain ⟨⟨hr, hk⟩, hu⟩ := hoki
    have hkk := wd_iff.1 hk
    have hop := rightI_op hr
    have hg : ∀ j u, [Value.int .i64 i.op, .int .i64 i.a, .int .i64 i.b, .int .i64 i.c, .int .u32 i.k][j]? = some u → w.cell? ⟨g, pc * 5 + j, none⟩ = some u := by
      obtain ⟨b, off, e, hb, k0, k1, k2, k3, k4⟩ := hL.at hi
      injection e with e
      injection e with e1 e2
      subst e1; subst e2
      rw [Nat.zero_add] at k0 k1 k2 k3 k4
      intro j u hu
      match j, hu with
      | 0, hu => exact k0.trans hu
      | 1, hu => exact k1.trans hu
      | 2, hu => exact k2.trans hu
      | 3, hu => exact k3.trans hu
      | 4, hu => exact k4.trans hu
    rw [stepI_at h0 p0 (by rw [hpc]; exact hi)] at hstep
    have hlen' : L.length ≤ 1000000 := by omega
    obtain ⟨a, hia⟩ := Int.eq_ofNat_of_zero_le hop.2.2.1.1
    have ha8 : a < 8 := by have := hop.2.2.1.2; omega
    obtain ⟨c, hic⟩ := Int.eq_ofNat_of_zero_le hop.2.2.2.2.1
    have hc8 : c < 8 := by have := hop.2.2.2.2.2; omega
    obtain ⟨b, hib⟩ := Int.eq_ofNat_of_zero_le hop.2.2.2.1.1
    have zz : Z4 Z w.heap.size (w.heap.size + 1 + 1 + 1) := .inr (.inr (.inr (.inr rfl)))
    have hrr := reg_wd hw
    have hev : usesI i.op = true := hu
    simp only [usesI, Bool.or_eq_true, beq_iff_eq] at hev
    by_cases hj : jumpsI i.op
    · have hna : ¬ asksI i.op := by rcases hj with e | e | e <;> rw [e] <;> decide
      have hnz : ¬ i.op = 0 := by rcases hj with e | e | e <;> rw [e] <;> decide
      rw [if_neg hna, if_neg hnz, if_pos hj] at hstep
      obtain rfl : q = _ := (Option.some.inj hstep).symm
      exact stepJ th pc hpc h8 h0 hM T hg hn hlt hlen' hr hkk.2 hj
    have hjf : jumps i.op = false := by cases e : jumps i.op with | false => rfl | true => exact absurd ((jumps_iff _).1 e) hj
    by_cases ha : asksI i.op
    · have hsz : ¬ ((s.mem.length : Int) ≤ addrI th i) := by
        intro h
        rw [if_pos ha, if_pos h] at hstep
        cases hstep
      rw [if_pos ha, if_neg hsz] at hstep
      obtain ⟨adn, had⟩ := Int.eq_ofNat_of_zero_le (addrI_wd (t := th) hk)
      have hadn : adn < s.mem.length := by omega
      have e1 : (addrI th i).toNat = adn := by rw [had]; rfl
      rw [e1] at hstep
      have d0 : (i.op == 0) = false := by rcases ha with e | e | e | e | e | e | e <;> rw [e] <;> rfl
      have hde : decide (drainsI i.op) = true → (i.op == 17) = false := by rcases ha with e | e | e | e | e | e | e <;> rw [e] <;> decide
      have goA := fun (T2 : Th) h82 hp2 h02 s' => stepA (n := (s.mem.length : Int)) (cap := cap) th pc hpc h8 h0 hM T hg hn hlt hlen' hr T2 h82 hp2 h02 s' adn had (by omega) (by omega) hkk.2 hrr ha hjf d0 hde
      unfold asks at hstep
      rcases ha with e | e | e | e | e | e | e
      · rw [if_pos e] at hstep
        obtain rfl : q = _ := (Option.some.inj hstep).symm
        exact goA (th.put i.a (s.mem.getD adn 0)) ((put_len _ _ _).trans h8) hpc h0 (s.note ⟨1, 0, th.pc, adn, s.mem.getD adn 0, 0, 0, false⟩) (fun W hR hW => by rw [hia]; exact asks_load _ W _ _ mb mm mc b0 cv tv kv s th i _ hR hW zz hn a ha8 hia adn rfl hadn e)
      · rw [if_neg (by omega), if_pos e] at hstep
        obtain rfl : q = _ := (Option.some.inj hstep).symm
        exact goA th h8 hpc h0 ((s.store adn (th.reg i.a)).note ⟨2, 0, th.pc, adn, th.reg i.a, 0, 0, false⟩) (fun W hR hW => by rw [hia]; exact asks_store _ W _ _ mb mm mc b0 cv tv kv s th i _ hR hW zz hn a ha8 hia adn rfl hadn e)
      · rw [if_neg (by omega), if_neg (by omega), if_pos e] at hstep
        obtain rfl : q = _ := (Option.some.inj hstep).symm
        exact goA (th.put i.a (s.mem.getD adn 0)) ((put_len _ _ _).trans h8) hpc h0 ((s.store adn (th.reg i.a)).note ⟨4, 0, th.pc, adn, th.reg i.a, s.mem.getD adn 0, 0, true⟩) (fun W hR hW => by rw [hia]; exact asks_swap _ W _ _ mb mm mc b0 cv tv kv s th i _ hR hW zz hn a ha8 hia adn rfl hadn e)
      · rw [if_neg (by omega), if_neg (by omega), if_neg (by omega), if_pos e] at hstep
        obtain rfl : q = _ := (Option.some.inj hstep).symm
        exact goA (th.put i.a (s.mem.getD adn 0)) ((put_len _ _ _).trans h8) hpc h0 ((s.store adn (wr32 (s.mem.getD adn 0 + th.reg i.a))).note ⟨4, 0, th.pc, adn, wr32 (s.mem.getD adn 0 + th.reg i.a), s.mem.getD adn 0, 0, true⟩) (fun W hR hW => by rw [hia]; exact asks_fetch _ W _ _ mb mm mc b0 cv tv kv s th i _ hR hW zz hn a ha8 hia adn rfl hadn e)
      · rw [if_neg (by omega), if_neg (by omega), if_neg (by omega), if_neg (by omega), if_pos e] at hstep
        dsimp only at hstep
        by_cases hq : s.mem.getD adn 0 = th.reg i.a
        · rw [if_pos (show scP.load s adn = th.reg i.a from hq)] at hstep
          obtain rfl : q = _ := (Option.some.inj hstep).symm
          rw [hia] at hq
          exact goA (th.put i.a (s.mem.getD adn 0)) ((put_len _ _ _).trans h8) hpc h0 ((s.store adn (th.reg i.c)).note ⟨4, 0, th.pc, adn, th.reg i.c, s.mem.getD adn 0, 0, true⟩) (fun W hR hW => by rw [hia, hic]; exact asks_casy _ W _ _ mb mm mc b0 cv tv kv s th i _ hR hW zz hn a ha8 hia adn rfl hadn e c hc8 hic hq)
        · rw [if_neg (show ¬ scP.load s adn = th.reg i.a from hq)] at hstep
          obtain rfl : q = _ := (Option.some.inj hstep).symm
          rw [hia] at hq
          exact goA (th.put i.a (s.mem.getD adn 0)) ((put_len _ _ _).trans h8) hpc h0 (s.note ⟨4, 0, th.pc, adn, s.mem.getD adn 0, s.mem.getD adn 0, 0, false⟩) (fun W hR hW => by rw [hia]; exact asks_casn _ W _ _ mb mm mc b0 cv tv kv s th i _ hR hW zz hn a ha8 hia adn rfl hadn e c hc8 hic hq)
      · rw [e] at hu; exact absurd hu (by decide)
      · rw [e] at hu; exact absurd hu (by decide)
    · have hnz : ¬ i.op = 0 := by intro e; rw [e] at hu; exact absurd hu (by decide)
      have h17 : (i.op == 17) = false := by cases e : (i.op == 17) with | false => rfl | true => exact absurd (.inr (.inl (by simpa using e))) ha
      have d0 : (i.op == 0) = false := by simpa using hnz
      rw [if_neg ha, if_neg hnz, if_neg hj] at hstep
      have goP := fun (T2 : Th) h82 hp2 h02 s' => stepP (n := (s.mem.length : Int)) (cap := cap) th pc hpc h8 h0 hM T hg hn hlt hlen' hr T2 h82 hp2 h02 s' ha hjf h17 d0
      have hcase : i.op = 1 ∨ i.op = 2 ∨ i.op = 3 ∨ i.op = 12 ∨ i.op = 18 ∨ i.op = 22 ∨ i.op = 25 := by
        simp only [asksI] at ha
        simp only [jumpsI] at hj
        omega
      unfold plainI at hstep
      rcases hcase with e | e | e | e | e | e | e
      · rw [if_pos e] at hstep
        obtain rfl : q = _ := (Option.some.inj hstep).symm
        exact goP (th.put i.a i.k) ((put_len _ _ _).trans h8) hpc h0 s (fun W hR hW => by rw [hia]; exact plain_set _ W _ _ mb mm mc b0 cv tv kv s th i 0 hR hW zz hn e a ha8 hia)
      · have hb8 : b < 8 := by have := rightI_b hr (.inl e); omega
        rw [if_neg (by omega), if_pos e] at hstep
        obtain rfl : q = _ := (Option.some.inj hstep).symm
        exact goP (th.put i.a (th.reg i.b)) ((put_len _ _ _).trans h8) hpc h0 s (fun W hR hW => by rw [hia, hib]; exact plain_move _ W _ _ mb mm mc b0 cv tv kv s th i 0 hR hW zz hn e a ha8 hia b hb8 hib)
      · have hb8 : b < 8 := by have := rightI_b hr (.inr (.inl e)); omega
        rw [if_neg (by omega), if_neg (by omega), if_neg (by omega), if_neg (by omega), if_neg (by omega), if_neg (by omega), if_neg (by omega)] at hstep
        unfold aluI at hstep
        rw [if_pos e] at hstep
        obtain rfl : q = _ := (Option.some.inj hstep).symm
        exact goP (th.put i.a (wr32 (th.reg i.b + th.reg i.c))) ((put_len _ _ _).trans h8) hpc h0 s (fun W hR hW => by rw [hia, hib, hic]; exact plain_add _ W _ _ mb mm mc b0 cv tv kv s th i 0 hR hW zz hn e a ha8 hia b hb8 hib c hc8 hic (hrr b) (hrr c))
      · have hb8 : b < 8 := by have := rightI_b hr (.inr (.inr e)); omega
        rw [if_neg (by omega), if_neg (by omega), if_neg (by omega), if_neg (by omega), if_neg (by omega), if_neg (by omega), if_neg (by omega)] at hstep
        unfold aluI at hstep
        rw [if_neg (by omega), if_neg (by omega), if_neg (by omega), if_pos e] at hstep
        obtain rfl : q = _ := (Option.some.inj hstep).symm
        exact goP (th.put i.a (if th.reg i.b = th.reg i.c then 1 else 0)) ((put_len _ _ _).trans h8) hpc h0 s (fun W hR hW => by rw [hia, hib, hic]; exact plain_same _ W _ _ mb mm mc b0 cv tv kv s th i 0 hR hW zz hn e a ha8 hia b hb8 hib c hc8 hic)
      · rw [if_neg (by omega), if_neg (by omega), if_pos e] at hstep
        obtain rfl : q = _ := (Option.some.inj hstep).symm
        exact goP th h8 hpc h0 (s.note ⟨5, 0, th.pc, 0, 0, 0, 0, false⟩) (fun W hR hW => plain_fence _ W _ _ mb mm mc b0 cv tv kv s th i 0 hR hW zz hn e)
      · rw [if_neg (by omega), if_neg (by omega), if_neg (by omega), if_pos e] at hstep
        obtain rfl : q = _ := (Option.some.inj hstep).symm
        exact goP th h8 hpc h0 (s.note ⟨6, 0, th.pc, 0, th.reg i.a, 0, 0, false⟩) (fun W hR hW => by rw [hia]; exact plain_out _ W _ _ mb mm mc b0 cv tv kv s th i 0 hR hW zz hn e a ha8 hia)
      · rw [if_neg (by omega), if_neg (by omega), if_neg (by omega), if_neg (by omega), if_neg (by omega), if_pos e] at hstep
        obtain rfl : q = _ := (Option.some.inj hstep).symm
        exact goP th h8 hpc h0 (s.note ⟨10, 0, th.pc, 0, 0, 0, 0, false⟩) (fun W hR hW => plain_remote _ W _ _ mb mm mc b0 cv tv kv s th i 0 hR hW zz hn e)
end Go.Proofs.YtackbadmcgjncaaGreatDoor.As
