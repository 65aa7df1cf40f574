/- The walks of the package deadlatchref25: what a call answers behind all that was done, whatever it is. -/
import Derived.Test.YtfemeiopfpblaaaDoorHjR5
import Derived.Test.YtfemeiopfpblaaaDoorHjL1
import Derived.Test.YtfemeiopfpblaaaDoorHjL2
import Derived.Test.YtfemeiopfpblaaaDoorHjL3
import Derived.Test.YtfemeiopfpblaaaDoorHjL4
import Derived.Test.YtfemeiopfpblaaaDoorHjR7
import Derived.Test.YtfemeiopfpblaaaDoorHjR10
import Derived.Test.YtfemeiopfpblaaaDoorHjR9
import Derived.Test.YtfemeiopfpblaaaDoorHjR11
set_option linter.unusedVariables false
set_option linter.unusedSimpArgs false
set_option maxRecDepth 20000
namespace Go.Proofs.YtfemeiopfpblaaaDoor.As
open Go.RowKit

theorem d25_ask (w : World) (vl : Value) (m : Nat) (obs : List Ob) (hI : InO w vl m obs) (hm : m ≤ 1000000) (th : Int) (v : Value) (n : Nat) (H : List Stp) (hl : H.length = n) (h : Rd w 7 v n (flatS H)) (hn : n ≤ 1000000) (o : Ob) (j : Nat) (who call part arg val : Int) (ho : obs[j]? = some o) (hx0 : 0 ≤ arg) (hx1 : arg ≤ 4294967295) (hput : ∀ s ∈ H, s.x.obj = ((j : Nat) : Int) → s.x.call = 4 → 0 ≤ s.x.arg ∧ s.x.arg < o.n) :
    Calls Tryd.prog 12 #[vl, .int .i64 th, v, .agg #[.int .i64 who, .int .i64 ((j : Nat) : Int), .int .i64 call, .int .i64 part, .int .u32 arg, .int .u32 val]] w (AnsPost w (refOb th o H ⟨who, ((j : Nat) : Int), call, part, arg, val⟩)) := by
  by_cases hP : AskP o.k o.n o.a o.b call th who
  · have hm2 := hP.2.2.2
    have hR := hP.1
    unfold MayP at hm2
    by_cases k13 : o.k = 13
    · exact d25_bar w vl m obs hI hm th v n H hl h hn o j who call part arg val ho hx0 hx1 hP k13
    by_cases hp' : part ≠ 0
    · exact d25_part w vl m obs hI hm th v n H hl h hn o j who call part arg val ho hx0 hx1 hP hp' k13
    have hp : part = 0 := by omega
    by_cases k12 : o.k = 12
    · exact d25_k12 w vl m obs hI hm th v n H hl h hn o j who call part arg val ho hx0 hx1 hP hp k12 (by omega)
    by_cases k11 : o.k = 11
    · by_cases c2 : call = 2
      · by_cases e : o.n + manyH H ((j : Nat) : Int) 2 0 (-1) - manyH H ((j : Nat) : Int) 1 0 (-1) = o.a
        · exact d25_s2o w vl m obs hI hm th v n H hl h hn o j who call part arg val ho hx0 hx1 hP hp k11 c2 e
        · exact d25_s2y w vl m obs hI hm th v n H hl h hn o j who call part arg val ho hx0 hx1 hP hp k11 c2 e
      · by_cases e : o.n + manyH H ((j : Nat) : Int) 2 0 (-1) - manyH H ((j : Nat) : Int) 1 0 (-1) = 0
        · exact d25_s1n w vl m obs hI hm th v n H hl h hn o j who call part arg val ho hx0 hx1 hP hp k11 (by omega) e
        · exact d25_s1y w vl m obs hI hm th v n H hl h hn o j who call part arg val ho hx0 hx1 hP hp k11 (by omega) e
    by_cases k15 : o.k = 15
    · by_cases ow : ownH H ((j : Nat) : Int) = who
      · by_cases c10 : call = 10
        · exact d25_o10own w vl m obs hI hm th v n H hl h hn o j who call part arg val ho hx0 hx1 hP hp k15 c10 ow
        · exact d25_o9own w vl m obs hI hm th v n H hl h hn o j who call part arg val ho hx0 hx1 hP hp k15 (by omega) ow
      · by_cases c10 : call = 10
        · exact d25_o10not w vl m obs hI hm th v n H hl h hn o j who call part arg val ho hx0 hx1 hP hp k15 c10 ow
        · by_cases d : 0 < manyH H ((j : Nat) : Int) 10 0 (-1)
          · exact d25_o9done w vl m obs hI hm th v n H hl h hn o j who call part arg val ho hx0 hx1 hP hp k15 (by omega) ow d
          · by_cases o0 : 0 ≤ ownH H ((j : Nat) : Int)
            · exact d25_o9bus w vl m obs hI hm th v n H hl h hn o j who call part arg val ho hx0 hx1 hP hp k15 (by omega) ow d o0
            · exact d25_o9fre w vl m obs hI hm th v n H hl h hn o j who call part arg val ho hx0 hx1 hP hp k15 (by omega) ow d (by omega)
    by_cases k14 : o.k = 14
    · by_cases c2 : call = 2
      · by_cases ow : ownH H ((j : Nat) : Int) = who
        · exact d25_r2a w vl m obs hI hm th v n H hl h hn o j who call part arg val ho hx0 hx1 hP hp k14 c2 ow
        · cases hb : readH H ((j : Nat) : Int) who with
          | true => exact d25_r2b w vl m obs hI hm th v n H hl h hn o j who call part arg val ho hx0 hx1 hP hp k14 c2 ow hb
          | false => exact d25_r2c w vl m obs hI hm th v n H hl h hn o j who call part arg val ho hx0 hx1 hP hp k14 c2 ow hb
      · by_cases ow : ownH H ((j : Nat) : Int) = who
        · exact d25_rma w vl m obs hI hm th v n H hl h hn o j who call part arg val ho hx0 hx1 hP hp k14 c2 (by omega) ow
        · cases hb : readH H ((j : Nat) : Int) who with
          | true => exact d25_rmb w vl m obs hI hm th v n H hl h hn o j who call part arg val ho hx0 hx1 hP hp k14 c2 (by omega) ow hb
          | false => exact d25_rloop w vl m obs hI hm th v n H hl h hn o j who call part arg val ho hx0 hx1 hP hp k14 c2 (by omega) ow hb
    by_cases k9 : o.k = 9
    · have hn3 : 1 ≤ o.n ∧ o.n ≤ 3 := by obtain ⟨_, _, q⟩ := hR; omega
      by_cases c4 : call = 4
      · by_cases a2 : 2 < arg
        · exact d25_put1 w vl m obs hI hm th v n H hl h hn o j who call part arg val ho hx0 hx1 hP hp k9 c4 a2
        · by_cases an : o.n ≤ arg
          · exact d25_put2 w vl m obs hI hm th v n H hl h hn o j who call part arg val ho hx0 hx1 hP hp k9 c4 (by omega) an
          · by_cases ow : ownH H ((j : Nat) : Int) = who
            · exact d25_k9_4own w vl m obs hI hm th v n H hl h hn o j who call part arg val ho hx0 hx1 hP hp k9 c4 (by omega) (by omega) ow
            · exact d25_k9_4not w vl m obs hI hm th v n H hl h hn o j who call part arg val ho hx0 hx1 hP hp k9 c4 (by omega) (by omega) ow
      by_cases c3 : call = 3
      · obtain ⟨kn, hkn⟩ : ∃ kn : Nat, o.n = kn := ⟨o.n.toNat, by omega⟩
        exact d25_data w vl m obs hI hm th v n H hl h hn o j who call part arg val ho hx0 hx1 hP hp k9 c3 kn hkn (by omega) (fun s hs h1 h2 => by have := hput s hs h1 h2; omega)
      have hc : call = 1 ∨ call = 2 := by omega
      by_cases ow : ownH H ((j : Nat) : Int) = who
      · rcases hc with hc | hc
        · exact d25_k9_1own w vl m obs hI hm th v n H hl h hn o j who call part arg val ho hx0 hx1 hP hp k9 hc ow
        · exact d25_k9_2own w vl m obs hI hm th v n H hl h hn o j who call part arg val ho hx0 hx1 hP hp k9 hc ow
      · rcases hc with hc | hc
        · by_cases o0 : 0 ≤ ownH H ((j : Nat) : Int)
          · exact d25_k9_1bus w vl m obs hI hm th v n H hl h hn o j who call part arg val ho hx0 hx1 hP hp k9 hc ow o0
          · exact d25_k9_1fre w vl m obs hI hm th v n H hl h hn o j who call part arg val ho hx0 hx1 hP hp k9 hc ow (by omega)
        · exact d25_k9_2not w vl m obs hI hm th v n H hl h hn o j who call part arg val ho hx0 hx1 hP hp k9 hc ow
    have hc : call = 1 ∨ call = 2 := by omega
    by_cases k6 : o.k = 6
    · by_cases wa : who = o.a
      · by_cases ow : ownH H ((j : Nat) : Int) = who
        · rcases hc with hc | hc
          · exact d25_k6a_1own w vl m obs hI hm th v n H hl h hn o j who call part arg val ho hx0 hx1 hP hp k6 wa hc ow
          · exact d25_k6a_2own w vl m obs hI hm th v n H hl h hn o j who call part arg val ho hx0 hx1 hP hp k6 wa hc ow
        · rcases hc with hc | hc
          · by_cases o0 : 0 ≤ ownH H ((j : Nat) : Int)
            · exact d25_k6a_1bus w vl m obs hI hm th v n H hl h hn o j who call part arg val ho hx0 hx1 hP hp k6 wa hc ow o0
            · exact d25_k6a_1fre w vl m obs hI hm th v n H hl h hn o j who call part arg val ho hx0 hx1 hP hp k6 wa hc ow (by omega)
          · exact d25_k6a_2not w vl m obs hI hm th v n H hl h hn o j who call part arg val ho hx0 hx1 hP hp k6 wa hc ow
      · by_cases wb : who = o.b
        · by_cases ow : ownH H ((j : Nat) : Int) = who
          · rcases hc with hc | hc
            · exact d25_k6b_1own w vl m obs hI hm th v n H hl h hn o j who call part arg val ho hx0 hx1 hP hp k6 wa wb hc ow
            · exact d25_k6b_2own w vl m obs hI hm th v n H hl h hn o j who call part arg val ho hx0 hx1 hP hp k6 wa wb hc ow
          · rcases hc with hc | hc
            · by_cases o0 : 0 ≤ ownH H ((j : Nat) : Int)
              · exact d25_k6b_1bus w vl m obs hI hm th v n H hl h hn o j who call part arg val ho hx0 hx1 hP hp k6 wa wb hc ow o0
              · exact d25_k6b_1fre w vl m obs hI hm th v n H hl h hn o j who call part arg val ho hx0 hx1 hP hp k6 wa wb hc ow (by omega)
            · exact d25_k6b_2not w vl m obs hI hm th v n H hl h hn o j who call part arg val ho hx0 hx1 hP hp k6 wa wb hc ow
        · exact d25_k6s w vl m obs hI hm th v n H hl h hn o j who call part arg val ho hx0 hx1 hP hp k6 (by omega) wa wb
    by_cases k7 : o.k = 7
    · by_cases wa : who = o.a
      · by_cases ow : ownH H ((j : Nat) : Int) = who
        · rcases hc with hc | hc
          · exact d25_k7a_1own w vl m obs hI hm th v n H hl h hn o j who call part arg val ho hx0 hx1 hP hp k7 wa hc ow
          · exact d25_k7a_2own w vl m obs hI hm th v n H hl h hn o j who call part arg val ho hx0 hx1 hP hp k7 wa hc ow
        · rcases hc with hc | hc
          · by_cases o0 : 0 ≤ ownH H ((j : Nat) : Int)
            · exact d25_k7a_1bus w vl m obs hI hm th v n H hl h hn o j who call part arg val ho hx0 hx1 hP hp k7 wa hc ow o0
            · exact d25_k7a_1fre w vl m obs hI hm th v n H hl h hn o j who call part arg val ho hx0 hx1 hP hp k7 wa hc ow (by omega)
          · exact d25_k7a_2not w vl m obs hI hm th v n H hl h hn o j who call part arg val ho hx0 hx1 hP hp k7 wa hc ow
      · by_cases wb : who = o.b
        · by_cases ow : ownH H ((j : Nat) : Int) = who
          · rcases hc with hc | hc
            · exact d25_k7b_1own w vl m obs hI hm th v n H hl h hn o j who call part arg val ho hx0 hx1 hP hp k7 wa wb hc ow
            · exact d25_k7b_2own w vl m obs hI hm th v n H hl h hn o j who call part arg val ho hx0 hx1 hP hp k7 wa wb hc ow
          · rcases hc with hc | hc
            · by_cases o0 : 0 ≤ ownH H ((j : Nat) : Int)
              · exact d25_k7b_1bus w vl m obs hI hm th v n H hl h hn o j who call part arg val ho hx0 hx1 hP hp k7 wa wb hc ow o0
              · exact d25_k7b_1fre w vl m obs hI hm th v n H hl h hn o j who call part arg val ho hx0 hx1 hP hp k7 wa wb hc ow (by omega)
            · exact d25_k7b_2not w vl m obs hI hm th v n H hl h hn o j who call part arg val ho hx0 hx1 hP hp k7 wa wb hc ow
        · exact d25_k7s w vl m obs hI hm th v n H hl h hn o j who call part arg val ho hx0 hx1 hP hp k7 (by omega) wa wb
    have ko : (1 ≤ o.k ∧ o.k ≤ 5) ∨ o.k = 8 ∨ o.k = 10 := by omega
    by_cases ow : ownH H ((j : Nat) : Int) = who
    · rcases hc with hc | hc
      · exact d25_kot_1own w vl m obs hI hm th v n H hl h hn o j who call part arg val ho hx0 hx1 hP hp ko hc ow
      · exact d25_kot_2own w vl m obs hI hm th v n H hl h hn o j who call part arg val ho hx0 hx1 hP hp ko hc ow
    · rcases hc with hc | hc
      · by_cases o0 : 0 ≤ ownH H ((j : Nat) : Int)
        · exact d25_kot_1bus w vl m obs hI hm th v n H hl h hn o j who call part arg val ho hx0 hx1 hP hp ko hc ow o0
        · exact d25_kot_1fre w vl m obs hI hm th v n H hl h hn o j who call part arg val ho hx0 hx1 hP hp ko hc ow (by omega)
      · exact d25_kot_2not w vl m obs hI hm th v n H hl h hn o j who call part arg val ho hx0 hx1 hP hp ko hc ow
  · exact do25_no w vl m obs hI hm th v n H hl h hn o j who call part arg val ho hx0 hx1 hP

/-- What a call answers, whatever it is. -/
theorem do25_any (w : World) (vl : Value) (m : Nat) (obs : List Ob) (hI : InO w vl m obs) (hm : m ≤ 1000000) (th : Int) (v : Value) (n : Nat) (H : List Stp) (hl : H.length = n) (h : Rd w 7 v n (flatS H)) (hn : n ≤ 1000000) (x : Ask) (hx0 : 0 ≤ x.arg) (hx1 : x.arg ≤ 4294967295)
    (hput : ∀ s ∈ H, s.x.call = 4 → ∀ o, obs[s.x.obj.toNat]? = some o → 0 ≤ s.x.arg ∧ s.x.arg < o.n) :
    Calls Tryd.prog 12 #[vl, .int .i64 th, v, .agg #[.int .i64 x.who, .int .i64 x.obj, .int .i64 x.call, .int .i64 x.part, .int .u32 x.arg, .int .u32 x.val]] w (AnsPost w (refAt th obs H x)) := by
  obtain ⟨who, obj, call, part, arg, val⟩ := x
  dsimp only at *
  have hml := hI.1
  unfold refAt
  dsimp only
  by_cases h0 : 0 ≤ obj
  · obtain ⟨j, rfl⟩ : ∃ j : Nat, obj = j := ⟨obj.toNat, by omega⟩
    rw [if_pos h0, Int.toNat_natCast]
    cases ho : obs[j]? with
    | none => exact do25_out w vl m obs hI hm th v who _ call part arg val (.inr (by rw [List.getElem?_eq_none_iff] at ho; omega))
    | some o => exact d25_ask w vl m obs hI hm th v n H hl h hn o j who call part arg val ho hx0 hx1 (fun s hs h1 h2 => hput s hs h2 o (by rw [h1, Int.toNat_natCast]; exact ho))
  · rw [if_neg h0]
    exact do25_out w vl m obs hI hm th v who obj call part arg val (.inl (by omega))

end Go.Proofs.YtfemeiopfpblaaaDoor.As
