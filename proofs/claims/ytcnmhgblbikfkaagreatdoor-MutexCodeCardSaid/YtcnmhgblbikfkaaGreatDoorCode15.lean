/- The walks of the package deadlatchref15: a call's code,and whether it may be asked. -/
import Derived.Test.YtcnmhgblbikfkaaGreatDoorGv
import Derived.Test.YtcnmhgblbikfkaaGreatDoorRefH
import Derived.Test.YtcnmhgblbikfkaaGreatDoorGd
set_option linter.unusedVariables false
namespace Go.Proofs.YtcnmhgblbikfkaaGreatDoor.As
open Go.RowKit

theorem fillB_len(base t:Nat)(hb:base≤1000000)(ht:t≤1000000):∀ (n:Nat) (l:B8),l.length≤n→(fillB base t l).length≤15*n:=by
 intro n
 induction n with
 | zero=>
  intro l hl
  have:l=[]:=List.length_eq_zero_iff.1 (by omega)
  rw [this];simp [fillB_nil]
 | succ n ih=>
  intro l hl
  match l,hl with
  | [],_=>simp [fillB_nil]
  | c::l,hl=>
   have hl':l.length≤n:=by simpa using hl
   have h0:=ih l hl'
   rw [fillB_cons]
   split
   ·have:=decB_len 9 (t+1) (by omega)
    rw [List.length_append];omega
   ·split
    ·next hc=>
     have hx:(l.getD 0 0).toNat≤113:=by
      have:=hc.2
      unfold inBr at this
      simp at this
      have h1:=this.2.1
      simpa using h1
     have:=decB_len 9 (base+((l.getD 0 0).toNat - 97)) (by omega)
     have h2:=ih (l.drop 2) (by rw [List.length_drop];omega)
     simp only [List.length_cons,List.length_append]
     omega
    ·rw [List.length_cons];omega
theorem code15_any(w:World)(s:ByteArray)(base t:Nat)(l:List Ins)(h0:s.data.toList≠[])(hs:s.size≤10000)(hb:base≤1000000)(ht:t≤1000000)(hp:parseB (fillB base t s.data.toList)=(l,0,0)):
  Calls Tryz.prog 12 #[.string s,.int .i64 base,.int .i64 t] w fun e w'=>(∃ v,e=.returned (.tuple #[v,.int .i64 1])∧w'.ownsRow w.heap.size 132 5 v l.length (flat l))∧Below w.heap.size w w':=by
 have hemp:s.toList.isEmpty=false:=by rw [ByteArray.toList_eq];exact List.isEmpty_eq_false_iff.2 h0
 have hsz:=fillB_len base t hb ht s.size s.data.toList (by rw [←size_toList];exact Nat.le_refl _)
 go_enter Tryz.func12,Tryz.ntmps12
 go_wp2_with fail
 refine (fill15_any _ s base t (by omega) hb ht).mono ?_;rintro e w1 ⟨⟨o,rfl,ho⟩,hb1⟩
 have hosz:o.size≤maxLen:=by rw [size_toList,ho];unfold maxLen;omega
 go_wp2_with fail
 refine (parse_any _ o hosz).mono ?_;rintro e w2 ⟨v,rfl,hown,hb2⟩
 rw [ho,hp] at hown
 rw [ho,hp]
 have HOW:=Lib.hid hown
 clear hown
 go_wp2_with fail
 go_ret2
 exact⟨⟨v,rfl,own_base HOW.out hb1.size⟩,hb1.trans (hb2.mono hb1.size)⟩
set_option linter.unusedSimpArgs false in
set_option maxHeartbeats 4000000 in
theorem may15_any(w:World)(k n a b c th t:Int):Calls Tryz.prog 11 #[.agg #[.int .i64 k,.int .i64 n,.int .i64 a,.int .i64 b],.int .i64 c,.int .i64 th,.int .i64 t] w fun e w'=>e=.returned (.bool (decide (AskP k n a b c th t)))∧Below w.heap.size w w':=by
 obtain⟨r,hr⟩:∃ r,r=decide (AskP k n a b c th t):=⟨_,rfl⟩
 rw [←hr]
 have HR:=Lib.hid hr
 clear hr
 have ha:∀ o,Below w.heap.size w (w.alloc o):=fun o=>(Below.refl _ w).alloc (Nat.le_refl _) o
 go_enter Tryz.func11,Tryz.ntmps11
 go_wp2_with (first
  | (go_at_call 43;refine (refRight_any _ _ _ _ _ _).mono ?_;rintro e w1 ⟨rfl,hb1⟩;have hk:=keepB hb1 (Nat.le_refl _))
  | (go_at_call 44;refine (refMay_any _ _ _).mono ?_;rintro e w2 ⟨rfl,rfl⟩))
 all_goals go_ret
 all_goals refine⟨congrArg (fun x=>Ending.returned (.bool x)) ?_,(ha _).trans (Below.mono (by assumption) (by simp))⟩
 all_goals rw [HR.out]
 all_goals rw [Bool.eq_iff_iff,decide_eq_true_iff (p:=AskP _ _ _ _ _ _ _)]
 all_goals unfold AskP
 all_goals simp only [Bool.false_eq_true,false_iff,decide_eq_true_eq] at *
 all_goals first
  | (intro e;have h2:=e.2.1;have h3:=e.2.2.1;omega)
  | (intro e;have h2:=e.1;contradiction)
  | exact⟨fun e=>⟨by assumption,by assumption,by assumption,e⟩,fun e=>e.2.2.2⟩
end Go.Proofs.YtcnmhgblbikfkaaGreatDoor.As
