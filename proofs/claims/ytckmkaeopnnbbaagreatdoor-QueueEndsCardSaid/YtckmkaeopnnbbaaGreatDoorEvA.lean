/- How the methods of a row of dues are reached through heap.Interface. -/
import Derived.Test.YtckmkaeopnnbbaaGreatDoorProg
import Derived.StillTailTactics
import Derived.Laws.ByValue
set_option linter.unusedVariables false
set_option linter.unusedSimpArgs false
namespace Go.Proofs.YtckmkaeopnnbbaaGreatDoor.As
open Go

theorem method_eq(gd:Nat)(name:String)(f:Nat)(hf:∀ w,(method (Tryz.prog.types.size+100) 154 (.pointer (some ⟨gd,0,none⟩)) name).run Tryz.prog w=(Sem.run Tryz.prog (do let v ←loadVar 156 ⟨gd,0,none⟩;pure (f,v)) w))(w:World)(v:Value)(h:(loadVar 156 ⟨gd,0,none⟩).run Tryz.prog w=.ok v w):(method (Tryz.prog.types.size+100) 154 (.pointer (some ⟨gd,0,none⟩)) name).run Tryz.prog w=.ok (f,v) w:=by
 rw [hf,Sem.run_bind,h];rfl
theorem load_dues(gd:Nat)(w:World)(v:Value)(h:w.cell? ⟨gd,0,none⟩=some v):(loadVar 156 ⟨gd,0,none⟩).run Tryz.prog w=.ok v w:=by
 have hu := Tryz.underlying156
 simp [loadVar,go_sem,h,hu]
theorem m_push(gd:Nat)(w:World):(method (Tryz.prog.types.size+100) 154 (.pointer (some ⟨gd,0,none⟩)) "Push").run Tryz.prog w=.ok (191,.pointer (some ⟨gd,0,none⟩)) w:=by kernel_rfl
theorem m_len0(gd:Nat)(w:World):(method (Tryz.prog.types.size+100) 154 (.pointer (some ⟨gd,0,none⟩)) "Len").run Tryz.prog w=(Sem.run Tryz.prog (do let v ←loadVar 156 ⟨gd,0,none⟩;pure (189,v)) w):=by kernel_rfl
theorem m_less0(gd:Nat)(w:World):(method (Tryz.prog.types.size+100) 154 (.pointer (some ⟨gd,0,none⟩)) "Less").run Tryz.prog w=(Sem.run Tryz.prog (do let v ←loadVar 156 ⟨gd,0,none⟩;pure (190,v)) w):=by kernel_rfl
theorem m_swap0(gd:Nat)(w:World):(method (Tryz.prog.types.size+100) 154 (.pointer (some ⟨gd,0,none⟩)) "Swap").run Tryz.prog w=(Sem.run Tryz.prog (do let v ←loadVar 156 ⟨gd,0,none⟩;pure (192,v)) w):=by kernel_rfl
end Go.Proofs.YtckmkaeopnnbbaaGreatDoor.As
