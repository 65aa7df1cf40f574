/- The walk of deadlatchref26.Judge: which act can't be, told by all that was done ahead. -/
import Derived.Test.YtfemeiopfpblaaaDoorHjR8
set_option linter.unusedVariables false
set_option linter.unusedSimpArgs false
set_option maxRecDepth 20000
namespace Go.Proofs.YtfemeiopfpblaaaDoor.As
open Go.RowKit

/-- A slice of words that came in. -/
def InU (w : World) (v : Value) (n : Nat) (l : List Int) : Prop :=
  l.length = n ∧ ∃ A cap, v = .slice A n cap ∧ (0 < n → ∃ b off, A = some ⟨b, off, none⟩ ∧ b < w.heap.size ∧ ∀ (j : Nat) x, l[j]? = some x → w.cell? ⟨b, off + j, none⟩ = some (.int .u32 x))
theorem InU.at {w : World} {A : Option Addr} {n cap i : Nat} {l : List Int} {x : Int} (h : InU w (.slice A n cap) n l) (hx : l[i]? = some x) :
    ∃ b off, A = some ⟨b, off, none⟩ ∧ b < w.heap.size ∧ w.cell? ⟨b, off + i, none⟩ = some (.int .u32 x) := by
  obtain ⟨hl, A', cap', e, h⟩ := h
  injection e with e1 e2 e3
  subst e1
  have hi : i < l.length := (List.getElem?_eq_some_iff.1 hx).1
  obtain ⟨b, off, rfl, hb, hc⟩ := h (by omega)
  exact ⟨b, off, rfl, hb, hc _ _ hx⟩
theorem InU.below {w w' : World} {B : Nat} {v : Value} {n : Nat} {l : List Int} (h : InU w v n l) (hb : Below B w w') (hB : w.heap.size ≤ B) : InU w' v n l := by
  obtain ⟨hl, A, cap, rfl, h⟩ := h
  refine ⟨hl, A, cap, rfl, fun hn => ?_⟩
  obtain ⟨b, off, rfl, hlt, hc⟩ := h hn
  exact ⟨b, off, rfl, Nat.lt_of_lt_of_le hlt hb.size, fun j u hu => (hb.cell (p := ⟨b, off + j, none⟩) (Nat.lt_of_lt_of_le hlt hB)).trans (hc j u hu)⟩
theorem InU.of_rd {w : World} {v : Value} {l : List Int} (h : Rd w 1 v l.length (ints32 l)) : InU w v l.length l := by
  obtain ⟨A, cap, rfl, hc, hl, h⟩ := h
  refine ⟨rfl, A, cap, rfl, fun hn => ?_⟩
  rcases h with ⟨_, h⟩ | ⟨b, off, rfl, hb, h⟩
  · omega
  · exact ⟨b, off, rfl, hb, fun j x hx => h j _ (by unfold ints32; rw [List.getElem?_map, hx]; rfl)⟩
/-- An act's cells, its data being a slice. -/
def Act.cells (a : Act) (dv : Value) : List Value := [.int .i64 a.x.who, .int .i64 a.x.obj, .int .i64 a.x.call, .int .i64 a.x.part, .int .u32 a.x.arg, .int .u32 a.x.val, .int .i64 a.site, .int .i64 a.at_, .bool a.ended, .int .u32 a.res, dv]
/-- A slice of acts. -/
def RdK (w : World) (v : Value) (n : Nat) (l : List Act) : Prop :=
  l.length = n ∧ ∃ A cap, v = .slice A n cap ∧ (0 < n → ∃ b off, A = some ⟨b, off, none⟩ ∧ b < w.heap.size ∧ ∀ (i : Nat) a, l[i]? = some a → ∃ dv, InU w dv a.data.length a.data ∧ ∀ (j : Nat) u, (a.cells dv)[j]? = some u → w.cell? ⟨b, off + i * 11 + j, none⟩ = some u)
theorem RdK.below {w w' : World} {B : Nat} {v : Value} {n : Nat} {l : List Act} (h : RdK w v n l) (hb : Below B w w') (hB : w.heap.size ≤ B) : RdK w' v n l := by
  obtain ⟨hl, A, cap, rfl, h⟩ := h
  refine ⟨hl, A, cap, rfl, fun hn => ?_⟩
  obtain ⟨b, off, rfl, hlt, hc⟩ := h hn
  refine ⟨b, off, rfl, Nat.lt_of_lt_of_le hlt hb.size, fun i a ha => ?_⟩
  obtain ⟨dv, h1, h2⟩ := hc i a ha
  exact ⟨dv, h1.below hb hB, fun j u hu => (hb.cell (p := ⟨b, off + i * 11 + j, none⟩) (Nat.lt_of_lt_of_le hlt hB)).trans (h2 j u hu)⟩
theorem RdK.at {w : World} {A : Option Addr} {n cap i : Nat} {l : List Act} {a : Act} (h : RdK w (.slice A n cap) n l) (ha : l[i]? = some a) :
    ∃ b off dA dc, A = some ⟨b, off, none⟩ ∧ b < w.heap.size ∧ InU w (.slice dA a.data.length dc) a.data.length a.data ∧ w.cell? ⟨b, off + i * 11, none⟩ = some (.int .i64 a.x.who) ∧ w.cell? ⟨b, off + i * 11 + 1, none⟩ = some (.int .i64 a.x.obj) ∧ w.cell? ⟨b, off + i * 11 + 2, none⟩ = some (.int .i64 a.x.call) ∧ w.cell? ⟨b, off + i * 11 + 3, none⟩ = some (.int .i64 a.x.part) ∧ w.cell? ⟨b, off + i * 11 + 4, none⟩ = some (.int .u32 a.x.arg) ∧ w.cell? ⟨b, off + i * 11 + 5, none⟩ = some (.int .u32 a.x.val) ∧ w.cell? ⟨b, off + i * 11 + 6, none⟩ = some (.int .i64 a.site) ∧ w.cell? ⟨b, off + i * 11 + 7, none⟩ = some (.int .i64 a.at_) ∧ w.cell? ⟨b, off + i * 11 + 8, none⟩ = some (.bool a.ended) ∧ w.cell? ⟨b, off + i * 11 + 9, none⟩ = some (.int .u32 a.res) ∧ w.cell? ⟨b, off + i * 11 + 10, none⟩ = some (.slice dA a.data.length dc) := by
  obtain ⟨hl, A', cap', e, h⟩ := h
  injection e with e1 e2 e3
  subst e1
  have hi : i < l.length := (List.getElem?_eq_some_iff.1 ha).1
  obtain ⟨b, off, rfl, hb, hc⟩ := h (by omega)
  obtain ⟨dv, h1, h2⟩ := hc i a ha
  obtain ⟨hl2, dA, dc, rfl, h3⟩ := h1
  exact ⟨b, off, dA, dc, rfl, hb, ⟨hl2, dA, dc, rfl, h3⟩, h2 0 _ rfl, h2 1 _ rfl, h2 2 _ rfl, h2 3 _ rfl, h2 4 _ rfl, h2 5 _ rfl, h2 6 _ rfl, h2 7 _ rfl, h2 8 _ rfl, h2 9 _ rfl, h2 10 _ rfl⟩

theorem refOb_put {th : Int} {o : Ob} {H : List Stp} {x : Ask} {v : Int × List Int} (h : refOb th o H x = some v) (hc : x.call = 4) (h0 : 0 ≤ x.arg) : 0 ≤ x.arg ∧ x.arg < o.n := by
  unfold refOb at h
  by_cases hP : AskP o.k o.n o.a o.b x.call th x.who
  · rw [if_pos hP] at h
    have hm := hP.2.2.2
    unfold MayP at hm
    rw [if_neg (c := o.k = 13) (by omega)] at h
    by_cases hq : x.part ≠ 0 ∨ (x.call = 4 ∧ (2 < x.arg ∨ o.n ≤ x.arg))
    · rw [if_pos hq] at h; cases h
    · omega
  · rw [if_neg hP] at h; cases h
theorem infoS : (Tryd.prog.info? 68).map (fun i => (i.zero, i.size, i.bytes)) = some (some (.agg #[.int .i64 0, .int .i64 0, .int .i64 0, .int .i64 0, .int .u32 0, .int .u32 0, .int .u32 0]), 7, 48) := by kernel_rfl

end Go.Proofs.YtfemeiopfpblaaaDoor.As
