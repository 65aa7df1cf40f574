/- Plain Lean: a line of an instruction is read as that instruction. No program in sight. -/
import Derived.Test.YtlopmejmionnpaaDoorTxt
set_option linter.unusedVariables false
namespace Go.Proofs.YtlopmejmionnpaaDoor.As

theorem fA {a : Int} (h : 0 ≤ a ∧ a ≤ 7) (r : B8) (ws : List B8) (i : Ins) (to : B8) : fieldsB (65 :: r) (regW a :: ws) i to = fieldsB r ws { i with a := a } to := by
  rw [fieldsB, if_pos (.inl rfl), regB_regW h, if_neg (by omega), if_pos rfl]
theorem fB {a : Int} (h : 0 ≤ a ∧ a ≤ 7) (r : B8) (ws : List B8) (i : Ins) (to : B8) : fieldsB (66 :: r) (regW a :: ws) i to = fieldsB r ws { i with b := a } to := by
  rw [fieldsB, if_pos (.inr (.inl rfl)), regB_regW h, if_neg (by omega), if_neg (by decide), if_pos rfl]
theorem fC {a : Int} (h : 0 ≤ a ∧ a ≤ 7) (r : B8) (ws : List B8) (i : Ins) (to : B8) : fieldsB (67 :: r) (regW a :: ws) i to = fieldsB r ws { i with c := a } to := by
  rw [fieldsB, if_pos (.inr (.inr rfl)), regB_regW h, if_neg (by omega), if_neg (by decide), if_neg (by decide)]
theorem fM {b k : Int} (hb : 0 ≤ b ∧ b ≤ 8) (hk : 0 ≤ k ∧ k ≤ 4294967295) (r : B8) (ws : List B8) (i : Ins) (to : B8) : fieldsB (77 :: r) (addrW b k :: ws) i to = some ({ i with b := b, k := k }, []) := by
  rw [fieldsB, if_neg (by decide), if_pos rfl, addrB_addrW hb hk, if_neg (by simp only []; omega)]
theorem fK {k : Int} (hk : 0 ≤ k ∧ k ≤ 4294967295) (r : B8) (ws : List B8) (i : Ins) (to : B8) : fieldsB (75 :: r) (decB k.toNat :: ws) i to = fieldsB r ws { i with k := k } to := by
  have hn : numB (decB k.toNat) = k := by rw [numB_dec (by omega)]; omega
  rw [fieldsB, if_neg (by decide), if_neg (by decide), if_pos rfl, hn, if_neg (by omega)]
theorem fT {k : Int} (hk : 0 ≤ k ∧ k ≤ 4294967295) (r : B8) (ws : List B8) (i : Ins) (to t : B8) (ht : t ≠ [] → nameOk t = true) : fieldsB (84 :: r) ((64 :: (if t = [] then decB k.toNat else t)) :: ws) i to = if t = [] then fieldsB r ws { i with k := k } to else fieldsB r ws i t := by
  have hn : numB (decB k.toNat) = k := by rw [numB_dec (by omega)]; omega
  rw [fieldsB, if_neg (by decide), if_neg (by decide), if_neg (by decide), if_pos rfl]
  by_cases h : t = []
  · rw [if_pos h, if_pos h]
    have := decB_pos k.toNat
    rw [if_neg (by simp; omega)]
    simp only [List.drop_one, List.tail_cons]
    rw [hn, if_pos hk.1]
  · rw [if_neg h, if_neg h]
    have h1 := nameOk_len (ht h)
    rw [if_neg (by simp; omega)]
    simp only [List.drop_one, List.tail_cons]
    rw [nameOk_num (ht h), if_neg (by omega), if_pos (ht h)]
theorem op_cases {P : Int → Prop} {op : Int} (h : 0 ≤ op ∧ op < 28) (H : ∀ n : Fin 28, P (n.val : Int)) : P op := by
  have := H ⟨op.toNat, by omega⟩
  have e : (op.toNat : Int) = op := by omega
  rw [e] at this
  exact this
theorem opB_opName {op : Int} (h : 0 ≤ op ∧ op < 28) : opB (opName op) = op :=
  op_cases (P := fun op => opB (opName op) = op) h (by decide)
theorem opName_mem {op : Int} (h : 0 ≤ op ∧ op < 28) : (opName op).all (fun c => isLet c) = true ∧ opName op ≠ [] ∧ (opName op).length ≤ 6 :=
  op_cases (P := fun op => (opName op).all (fun c => isLet c) = true ∧ opName op ≠ [] ∧ (opName op).length ≤ 6) h (by decide)

set_option maxHeartbeats 4000000 in
theorem fields_words {i : Ins} {to : B8} (h : Fits i to) : fieldsB (opField i.op) (wordsB i to (opField i.op)) ⟨i.op, 0, 0, 0, 0⟩ [] = some (i, to) ∧ ((wordsB i to (opField i.op)).length : Int) = (opField i.op).length - ifMemB (opField i.op) := by
  obtain ⟨op, a, b, c, k⟩ := i
  obtain ⟨h0, ha, hb, hc, hk, ht⟩ := h
  simp only [] at h0 ha hb hc hk ht ⊢
  have hto : jumps op = false → to = [] := by
    intro hj
    by_cases e : to = []
    · exact e
    · have := (ht e).1; rw [hj] at this; cases this
  have htn : to ≠ [] → nameOk to = true := fun e => (ht e).2.2
  have htk : to ≠ [] → k = 0 := fun e => (ht e).2.1
  clear ht
  have hop : op = 0 ∨ op = 1 ∨ op = 2 ∨ op = 3 ∨ op = 4 ∨ op = 5 ∨ op = 6 ∨ op = 7 ∨ op = 8 ∨ op = 9 ∨ op = 10 ∨ op = 11 ∨ op = 12 ∨ op = 13 ∨ op = 14 ∨ op = 15 ∨ op = 16 ∨ op = 17 ∨ op = 18 ∨ op = 19 ∨ op = 20 ∨ op = 21 ∨ op = 22 ∨ op = 23 ∨ op = 24 ∨ op = 25 ∨ op = 26 ∨ op = 27 := by omega
  clear h0
  rcases hop with rfl | rfl | rfl | rfl | rfl | rfl | rfl | rfl | rfl | rfl | rfl | rfl | rfl | rfl | rfl | rfl | rfl | rfl | rfl | rfl | rfl | rfl | rfl | rfl | rfl | rfl | rfl | rfl
  · have ea : a = 0 := by have : a ≤ 0 := ha.2; omega
    have eb : b = 0 := by have : b ≤ 0 := hb.2; omega
    have ec : c = 0 := by have : c ≤ 0 := hc.2; omega
    have ek : k = 0 := by have : k ≤ 0 := hk.2; omega
    rw [hto rfl, ea, eb, ec, ek]
    exact ⟨rfl, rfl⟩
  · have eb : b = 0 := by have : b ≤ 0 := hb.2; omega
    have ec : c = 0 := by have : c ≤ 0 := hc.2; omega
    have ek : 0 ≤ k ∧ k ≤ 4294967295 := hk
    have ea : 0 ≤ a ∧ a ≤ 7 := ha
    rw [hto rfl, eb, ec]
    refine ⟨?_, rfl⟩
    show fieldsB (65 :: [75]) (regW a :: [decB k.toNat]) _ _ = _
    rw [fA ea, fK ek]; rfl
  · have ec : c = 0 := by have : c ≤ 0 := hc.2; omega
    have ek : k = 0 := by have : k ≤ 0 := hk.2; omega
    have ea : 0 ≤ a ∧ a ≤ 7 := ha
    have eb : 0 ≤ b ∧ b ≤ 7 := hb
    rw [hto rfl, ec, ek]
    refine ⟨?_, rfl⟩
    show fieldsB (65 :: [66]) (regW a :: [regW b]) _ _ = _
    rw [fA ea, fB eb]; rfl
  · have ek : k = 0 := by have : k ≤ 0 := hk.2; omega
    have ea : 0 ≤ a ∧ a ≤ 7 := ha
    have eb : 0 ≤ b ∧ b ≤ 7 := hb
    have ec : 0 ≤ c ∧ c ≤ 7 := hc
    rw [hto rfl, ek]
    refine ⟨?_, rfl⟩
    show fieldsB (65 :: [66, 67]) (regW a :: [regW b, regW c]) _ _ = _
    rw [fA ea, fB eb, fC ec]; rfl
  · have ek : k = 0 := by have : k ≤ 0 := hk.2; omega
    have ea : 0 ≤ a ∧ a ≤ 7 := ha
    have eb : 0 ≤ b ∧ b ≤ 7 := hb
    have ec : 0 ≤ c ∧ c ≤ 7 := hc
    rw [hto rfl, ek]
    refine ⟨?_, rfl⟩
    show fieldsB (65 :: [66, 67]) (regW a :: [regW b, regW c]) _ _ = _
    rw [fA ea, fB eb, fC ec]; rfl
  · have ek : k = 0 := by have : k ≤ 0 := hk.2; omega
    have ea : 0 ≤ a ∧ a ≤ 7 := ha
    have eb : 0 ≤ b ∧ b ≤ 7 := hb
    have ec : 0 ≤ c ∧ c ≤ 7 := hc
    rw [hto rfl, ek]
    refine ⟨?_, rfl⟩
    show fieldsB (65 :: [66, 67]) (regW a :: [regW b, regW c]) _ _ = _
    rw [fA ea, fB eb, fC ec]; rfl
  · have ek : k = 0 := by have : k ≤ 0 := hk.2; omega
    have ea : 0 ≤ a ∧ a ≤ 7 := ha
    have eb : 0 ≤ b ∧ b ≤ 7 := hb
    have ec : 0 ≤ c ∧ c ≤ 7 := hc
    rw [hto rfl, ek]
    refine ⟨?_, rfl⟩
    show fieldsB (65 :: [66, 67]) (regW a :: [regW b, regW c]) _ _ = _
    rw [fA ea, fB eb, fC ec]; rfl
  · have ek : k = 0 := by have : k ≤ 0 := hk.2; omega
    have ea : 0 ≤ a ∧ a ≤ 7 := ha
    have eb : 0 ≤ b ∧ b ≤ 7 := hb
    have ec : 0 ≤ c ∧ c ≤ 7 := hc
    rw [hto rfl, ek]
    refine ⟨?_, rfl⟩
    show fieldsB (65 :: [66, 67]) (regW a :: [regW b, regW c]) _ _ = _
    rw [fA ea, fB eb, fC ec]; rfl
  · have ek : k = 0 := by have : k ≤ 0 := hk.2; omega
    have ea : 0 ≤ a ∧ a ≤ 7 := ha
    have eb : 0 ≤ b ∧ b ≤ 7 := hb
    have ec : 0 ≤ c ∧ c ≤ 7 := hc
    rw [hto rfl, ek]
    refine ⟨?_, rfl⟩
    show fieldsB (65 :: [66, 67]) (regW a :: [regW b, regW c]) _ _ = _
    rw [fA ea, fB eb, fC ec]; rfl
  · have ek : k = 0 := by have : k ≤ 0 := hk.2; omega
    have ea : 0 ≤ a ∧ a ≤ 7 := ha
    have eb : 0 ≤ b ∧ b ≤ 7 := hb
    have ec : 0 ≤ c ∧ c ≤ 7 := hc
    rw [hto rfl, ek]
    refine ⟨?_, rfl⟩
    show fieldsB (65 :: [66, 67]) (regW a :: [regW b, regW c]) _ _ = _
    rw [fA ea, fB eb, fC ec]; rfl
  · have ek : k = 0 := by have : k ≤ 0 := hk.2; omega
    have ea : 0 ≤ a ∧ a ≤ 7 := ha
    have eb : 0 ≤ b ∧ b ≤ 7 := hb
    have ec : 0 ≤ c ∧ c ≤ 7 := hc
    rw [hto rfl, ek]
    refine ⟨?_, rfl⟩
    show fieldsB (65 :: [66, 67]) (regW a :: [regW b, regW c]) _ _ = _
    rw [fA ea, fB eb, fC ec]; rfl
  · have ek : k = 0 := by have : k ≤ 0 := hk.2; omega
    have ea : 0 ≤ a ∧ a ≤ 7 := ha
    have eb : 0 ≤ b ∧ b ≤ 7 := hb
    have ec : 0 ≤ c ∧ c ≤ 7 := hc
    rw [hto rfl, ek]
    refine ⟨?_, rfl⟩
    show fieldsB (65 :: [66, 67]) (regW a :: [regW b, regW c]) _ _ = _
    rw [fA ea, fB eb, fC ec]; rfl
  · have ek : k = 0 := by have : k ≤ 0 := hk.2; omega
    have ea : 0 ≤ a ∧ a ≤ 7 := ha
    have eb : 0 ≤ b ∧ b ≤ 7 := hb
    have ec : 0 ≤ c ∧ c ≤ 7 := hc
    rw [hto rfl, ek]
    refine ⟨?_, rfl⟩
    show fieldsB (65 :: [66, 67]) (regW a :: [regW b, regW c]) _ _ = _
    rw [fA ea, fB eb, fC ec]; rfl
  · have ea : a = 0 := by have : a ≤ 0 := ha.2; omega
    have eb : b = 0 := by have : b ≤ 0 := hb.2; omega
    have ec : c = 0 := by have : c ≤ 0 := hc.2; omega
    have ek : 0 ≤ k ∧ k ≤ 4294967295 := hk
    rw [ea, eb, ec]
    refine ⟨?_, rfl⟩
    show fieldsB (84 :: []) ((64 :: (if to = [] then decB k.toNat else to)) :: []) _ _ = _
    rw [fT ek _ _ _ _ _ htn]
    by_cases e : to = []
    · rw [if_pos e, e]; rfl
    · rw [if_neg e, htk e]; rfl
  · have eb : b = 0 := by have : b ≤ 0 := hb.2; omega
    have ec : c = 0 := by have : c ≤ 0 := hc.2; omega
    have ek : 0 ≤ k ∧ k ≤ 4294967295 := hk
    have ea : 0 ≤ a ∧ a ≤ 7 := ha
    rw [eb, ec]
    refine ⟨?_, rfl⟩
    show fieldsB (65 :: [84]) (regW a :: [64 :: (if to = [] then decB k.toNat else to)]) _ _ = _
    rw [fA ea, fT ek _ _ _ _ _ htn]
    by_cases e : to = []
    · rw [if_pos e, e]; rfl
    · rw [if_neg e, htk e]; rfl
  · have eb : b = 0 := by have : b ≤ 0 := hb.2; omega
    have ec : c = 0 := by have : c ≤ 0 := hc.2; omega
    have ek : 0 ≤ k ∧ k ≤ 4294967295 := hk
    have ea : 0 ≤ a ∧ a ≤ 7 := ha
    rw [eb, ec]
    refine ⟨?_, rfl⟩
    show fieldsB (65 :: [84]) (regW a :: [64 :: (if to = [] then decB k.toNat else to)]) _ _ = _
    rw [fA ea, fT ek _ _ _ _ _ htn]
    by_cases e : to = []
    · rw [if_pos e, e]; rfl
    · rw [if_neg e, htk e]; rfl
  · have ec : c = 0 := by have : c ≤ 0 := hc.2; omega
    have ek : 0 ≤ k ∧ k ≤ 4294967295 := hk
    have ea : 0 ≤ a ∧ a ≤ 7 := ha
    have eb : 0 ≤ b ∧ b ≤ 8 := hb
    rw [hto rfl, ec]
    refine ⟨?_, rfl⟩
    show fieldsB (65 :: [77, 75]) (regW a :: [addrW b k]) _ _ = _
    rw [fA ea, fM eb ek]
  · have ec : c = 0 := by have : c ≤ 0 := hc.2; omega
    have ek : 0 ≤ k ∧ k ≤ 4294967295 := hk
    have ea : 0 ≤ a ∧ a ≤ 7 := ha
    have eb : 0 ≤ b ∧ b ≤ 8 := hb
    rw [hto rfl, ec]
    refine ⟨?_, rfl⟩
    show fieldsB (65 :: [77, 75]) (regW a :: [addrW b k]) _ _ = _
    rw [fA ea, fM eb ek]
  · have ea : a = 0 := by have : a ≤ 0 := ha.2; omega
    have eb : b = 0 := by have : b ≤ 0 := hb.2; omega
    have ec : c = 0 := by have : c ≤ 0 := hc.2; omega
    have ek : k = 0 := by have : k ≤ 0 := hk.2; omega
    rw [hto rfl, ea, eb, ec, ek]
    exact ⟨rfl, rfl⟩
  · have ec : c = 0 := by have : c ≤ 0 := hc.2; omega
    have ek : 0 ≤ k ∧ k ≤ 4294967295 := hk
    have ea : 0 ≤ a ∧ a ≤ 7 := ha
    have eb : 0 ≤ b ∧ b ≤ 8 := hb
    rw [hto rfl, ec]
    refine ⟨?_, rfl⟩
    show fieldsB (65 :: [77, 75]) (regW a :: [addrW b k]) _ _ = _
    rw [fA ea, fM eb ek]
  · have ec : c = 0 := by have : c ≤ 0 := hc.2; omega
    have ek : 0 ≤ k ∧ k ≤ 4294967295 := hk
    have ea : 0 ≤ a ∧ a ≤ 7 := ha
    have eb : 0 ≤ b ∧ b ≤ 8 := hb
    rw [hto rfl, ec]
    refine ⟨?_, rfl⟩
    show fieldsB (65 :: [77, 75]) (regW a :: [addrW b k]) _ _ = _
    rw [fA ea, fM eb ek]
  · have ek : 0 ≤ k ∧ k ≤ 4294967295 := hk
    have ea : 0 ≤ a ∧ a ≤ 7 := ha
    have eb : 0 ≤ b ∧ b ≤ 8 := hb
    have ec : 0 ≤ c ∧ c ≤ 7 := hc
    rw [hto rfl]
    refine ⟨?_, rfl⟩
    show fieldsB (65 :: [67, 77, 75]) (regW a :: [regW c, addrW b k]) _ _ = _
    rw [fA ea, fC ec, fM eb ek]
  · have eb : b = 0 := by have : b ≤ 0 := hb.2; omega
    have ec : c = 0 := by have : c ≤ 0 := hc.2; omega
    have ek : k = 0 := by have : k ≤ 0 := hk.2; omega
    have ea : 0 ≤ a ∧ a ≤ 7 := ha
    rw [hto rfl, eb, ec, ek]
    refine ⟨?_, rfl⟩
    show fieldsB (65 :: []) (regW a :: []) _ _ = _
    rw [fA ea]; rfl
  · have ec : c = 0 := by have : c ≤ 0 := hc.2; omega
    have ek : 0 ≤ k ∧ k ≤ 4294967295 := hk
    have ea : 0 ≤ a ∧ a ≤ 7 := ha
    have eb : 0 ≤ b ∧ b ≤ 8 := hb
    rw [hto rfl, ec]
    refine ⟨?_, rfl⟩
    show fieldsB (65 :: [77, 75]) (regW a :: [addrW b k]) _ _ = _
    rw [fA ea, fM eb ek]
  · have ec : c = 0 := by have : c ≤ 0 := hc.2; omega
    have ek : 0 ≤ k ∧ k ≤ 4294967295 := hk
    have ea : 0 ≤ a ∧ a ≤ 7 := ha
    have eb : 0 ≤ b ∧ b ≤ 8 := hb
    rw [hto rfl, ec]
    refine ⟨?_, rfl⟩
    show fieldsB (65 :: [77, 75]) (regW a :: [addrW b k]) _ _ = _
    rw [fA ea, fM eb ek]
  · have ea : a = 0 := by have : a ≤ 0 := ha.2; omega
    have eb : b = 0 := by have : b ≤ 0 := hb.2; omega
    have ec : c = 0 := by have : c ≤ 0 := hc.2; omega
    have ek : k = 0 := by have : k ≤ 0 := hk.2; omega
    rw [hto rfl, ea, eb, ec, ek]
    exact ⟨rfl, rfl⟩
  · have ea : a = 0 := by have : a ≤ 0 := ha.2; omega
    have eb : b = 0 := by have : b ≤ 0 := hb.2; omega
    have ec : c = 0 := by have : c ≤ 0 := hc.2; omega
    have ek : k = 0 := by have : k ≤ 0 := hk.2; omega
    rw [hto rfl, ea, eb, ec, ek]
    exact ⟨rfl, rfl⟩
  · have eb : b = 0 := by have : b ≤ 0 := hb.2; omega
    have ec : c = 0 := by have : c ≤ 0 := hc.2; omega
    have ek : 0 ≤ k ∧ k ≤ 4294967295 := hk
    have ea : 0 ≤ a ∧ a ≤ 7 := ha
    rw [hto rfl, eb, ec]
    refine ⟨?_, rfl⟩
    show fieldsB (65 :: [75]) (regW a :: [decB k.toNat]) _ _ = _
    rw [fA ea, fK ek]; rfl

theorem addrW_mem {b k : Int} (hb : 0 ≤ b ∧ b ≤ 8) {c : UInt8} (hc : c ∈ addrW b k) : 43 ≤ c.toNat ∧ c.toNat ≠ 58 := by
  have hd : ∀ c ∈ decB k.toNat ++ [93], 43 ≤ c.toNat ∧ c.toNat ≠ 58 := by
    intro c hc
    rcases List.mem_append.1 hc with h | h
    · have := decB_mem h; omega
    · rw [List.mem_singleton] at h; rw [h]; decide
  unfold addrW at hc
  split at hc
  · rcases List.mem_cons.1 hc with e | hc
    · rw [e]; decide
    · exact hd c hc
  · rcases List.mem_cons.1 hc with e | hc
    · rw [e]; decide
    · rcases List.mem_append.1 hc with h | hc
      · have := regW_mem (a := b) ⟨hb.1, by omega⟩ h; omega
      · rcases List.mem_cons.1 hc with e | hc
        · rw [e]; decide
        · exact hd c hc
theorem addrW_len {b k : Int} (hk : 0 ≤ k ∧ k ≤ 4294967295) : (addrW b k).length ≤ 15 := by
  have := decB_len 9 k.toNat (by omega)
  unfold addrW
  split
  · simp; omega
  · simp [regW]; omega
theorem regW_len (a : Int) : (regW a).length = 2 := rfl
theorem words_mem (i : Ins) (to : B8) (ha : 0 ≤ i.a ∧ i.a ≤ 7) (hb : 0 ≤ i.b ∧ i.b ≤ 8) (hc : 0 ≤ i.c ∧ i.c ≤ 7) (hk : 0 ≤ i.k ∧ i.k ≤ 4294967295) (ht : to ≠ [] → nameOk to = true) : ∀ (f : B8), 66 ∉ f ∨ i.b ≤ 7 → ∀ w ∈ wordsB i to f, w.length ≤ 21 ∧ ∀ c ∈ w, 43 ≤ c.toNat ∧ c.toNat ≠ 58
  | [], _, w, hw => by cases hw
  | f :: r, hf, w, hw => by
    have ih := words_mem i to ha hb hc hk ht r (hf.imp (fun h h' => h (by simp [h'])) id)
    have hr : ∀ {a : Int}, 0 ≤ a ∧ a ≤ 7 → (regW a).length ≤ 21 ∧ ∀ c ∈ regW a, 43 ≤ c.toNat ∧ c.toNat ≠ 58 := fun h => ⟨by rw [regW_len]; omega, fun c hc => by have := regW_mem h hc; omega⟩
    have hd : (decB i.k.toNat).length ≤ 10 := decB_len 9 _ (by omega)
    rw [wordsB] at hw
    split at hw
    · rcases List.mem_cons.1 hw with e | hw
      · rw [e]; exact hr ha
      · exact ih w hw
    · split at hw
      · next h66 =>
        rcases List.mem_cons.1 hw with e | hw
        · rw [e]; exact hr ⟨hb.1, by rcases hf with h | h; exact absurd (by simp [h66]) h; exact h⟩
        · exact ih w hw
      · split at hw
        · rcases List.mem_cons.1 hw with e | hw
          · rw [e]; exact hr hc
          · exact ih w hw
        · split at hw
          · rw [List.mem_singleton] at hw
            rw [hw]
            exact ⟨by have := addrW_len (b := i.b) hk; omega, fun c hc => addrW_mem hb hc⟩
          · split at hw
            · rcases List.mem_cons.1 hw with e | hw
              · rw [e]; exact ⟨by omega, fun c hc => by have := decB_mem hc; omega⟩
              · exact ih w hw
            · split at hw
              · rcases List.mem_cons.1 hw with e | hw
                · rw [e]
                  by_cases ht0 : to = []
                  · rw [if_pos ht0]
                    refine ⟨by simp; omega, fun c hc => ?_⟩
                    rcases List.mem_cons.1 hc with e | hc
                    · rw [e]; decide
                    · have := decB_mem hc; omega
                  · rw [if_neg ht0]
                    have h1 := nameOk_len (ht ht0)
                    refine ⟨by simp; omega, fun c hc => ?_⟩
                    rcases List.mem_cons.1 hc with e | hc
                    · rw [e]; decide
                    · have := nameOk_mem (ht ht0) hc; omega
                · exact ih w hw
              · rcases List.mem_cons.1 hw with e | hw
                · rw [e]; exact ⟨by simp, fun c hc => by cases hc⟩
                · exact ih w hw
theorem Fits.all {i : Ins} {to : B8} (h : Fits i to) : (0 ≤ i.a ∧ i.a ≤ 7) ∧ (0 ≤ i.b ∧ i.b ≤ 8) ∧ (0 ≤ i.c ∧ i.c ≤ 7) ∧ (0 ≤ i.k ∧ i.k ≤ 4294967295) ∧ (to ≠ [] → nameOk to = true) ∧ (66 ∉ opField i.op ∨ i.b ≤ 7) := by
  have ha := h.a
  have hb := h.b
  have hc := h.c
  have hk := h.k
  refine ⟨?_, ?_, ?_, ?_, fun e => (h.to e).2.2, ?_⟩
  · split at ha <;> omega
  · split at hb
    · omega
    · split at hb <;> omega
  · split at hc <;> omega
  · split at hk <;> omega
  · by_cases h66 : 66 ∈ opField i.op
    · right
      have h77 : hasB i.op 77 = false := by
        have := op_cases (P := fun op => 66 ∈ opField op → hasB op 77 = false) h.op (by decide)
        exact this h66
      rw [h77] at hb
      simp only [Bool.false_eq_true, if_false] at hb
      split at hb <;> omega
    · exact .inl h66
theorem words_all {i : Ins} {to : B8} (h : Fits i to) : ∀ w ∈ wordsOf i to, w.length ≤ 21 ∧ ∀ c ∈ w, 43 ≤ c.toNat ∧ c.toNat ≠ 58 := by
  obtain ⟨ha, hb, hc, hk, ht, h66⟩ := h.all
  intro w hw
  rcases List.mem_cons.1 hw with e | hw
  · rw [e]
    have h1 := opName_mem h.op
    refine ⟨by omega, fun c hc => ?_⟩
    have := isLet_ne (List.all_eq_true.1 h1.1 c hc); omega
  · exact words_mem i to ha hb hc hk ht _ h66 w hw
/-- A line is read as it was written. -/
theorem read_line {i : Ins} {to : B8} (h : Fits i to) : readB (lineOf i to) = some (i, to) := by
  have hs : splitB 32 (lineOf i to) = wordsOf i to := splitB_join 32 _ (by simp [wordsOf]) (fun w hw hm => by
    have := (words_all h w hw).2 _ hm
    have : (32 : UInt8).toNat = 32 := rfl
    omega)
  obtain ⟨hf, hl⟩ := fields_words h
  unfold readB
  simp only []
  rw [hs]
  show (if opB (opName i.op) < 0 then none else _) = _
  have ho := opB_opName h.op
  have hop := h.op
  rw [show (wordsOf i to).headD [] = opName i.op from rfl, ho, if_neg (by omega), if_neg, show (wordsOf i to).tail = wordsB i to (opField i.op) from rfl, hf]
  intro e
  apply e
  show (((wordsB i to (opField i.op)).length + 1 : Nat) : Int) = _
  omega
theorem line_mem {i : Ins} {to : B8} (h : Fits i to) {c : UInt8} (hc : c ∈ lineOf i to) : c.toNat ≠ 10 ∧ c.toNat ≠ 58 := by
  rcases joinB_mem hc with e | ⟨w, hw, e⟩
  · rw [e]; decide
  · have := (words_all h w hw).2 c e; omega
theorem line_ne {i : Ins} {to : B8} (h : Fits i to) : lineOf i to ≠ [] := joinB_ne 32 _ _ (opName_mem h.op).2.1
theorem words_count {i : Ins} {to : B8} (h : Fits i to) : (wordsOf i to).length ≤ 5 := by
  have h1 := (fields_words h).2
  have h2 := op_cases (P := fun op => (opField op).length ≤ 4 ∧ 0 ≤ ifMemB (opField op)) h.op (by decide)
  show (wordsB i to (opField i.op)).length + 1 ≤ 5
  omega
theorem line_len {i : Ins} {to : B8} (h : Fits i to) : (lineOf i to).length ≤ 110 := by
  have h1 := joinB_len 32 (wordsOf i to)
  have h2 := words_count h
  have h3 : ∀ ws : List B8, (∀ w ∈ ws, w.length ≤ 21) → (ws.map (fun w => w.length + 1)).sum ≤ 22 * ws.length := by
    intro ws
    induction ws with
    | nil => intro _; simp
    | cons x r ih =>
      intro hx
      have a1 := hx x (by simp)
      have a2 := ih (fun w hw => hx w (by simp [hw]))
      simp only [List.map_cons, List.sum_cons, List.length_cons]
      omega
  have h4 := h3 _ (fun w hw => (words_all h w hw).1)
  unfold lineOf
  omega
end Go.Proofs.YtlopmejmionnpaaDoor.As
