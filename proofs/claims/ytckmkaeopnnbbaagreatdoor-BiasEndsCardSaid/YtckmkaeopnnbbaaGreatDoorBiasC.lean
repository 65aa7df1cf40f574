/- The walks of the package bias: a call's code. -/
import Derived.Test.YtckmkaeopnnbbaaGreatDoorGp
import Derived.Test.YtckmkaeopnnbbaaGreatDoorBiasA
import Derived.Test.YtckmkaeopnnbbaaGreatDoorLocks3
set_option linter.unusedVariables false
namespace Go.Proofs.YtckmkaeopnnbbaaGreatDoor.As
open Go.RowKit

set_option maxHeartbeats 4000000 in
theorem codeBiasOwn_any(w:World)(TI:TabI w)(TO:TabO w)(n b:Int)(th ar:Int)(t base:Nat)(hA:AskP 8 n t b 1 th t)(hb:base≤100000)(ht:t≤100000):
  Calls Tryz.prog 58 #[.agg #[.int .i64 8,.int .i64 n,.int .i64 t,.int .i64 b],.int .i64 1,.int .i64 th,.int .i64 t,.int .u32 base,.int .u32 ar] w (CodeOk w (linBiasOwn base t)):=by
 have dA:decide (AskP 8 n t b 1 th t)=true:=decide_eq_true hA
 have ha:∀ o,Below w.heap.size w (w.alloc o):=fun o=>(Below.refl _ w).alloc (Nat.le_refl _) o
 have TA:∀ o,TabO (w.alloc o):=fun o=>TO.below (ha o) (Nat.le_refl _)
 have e0:IntKind.u32.wrap ((base:Int)+3)=((base+3:Nat):Int):=by rw [IntKind.wrap_u32];omega
 have e1:IntKind.u32.wrap ((base:Int)+2)=((base+2:Nat):Int):=by rw [IntKind.wrap_u32];omega
 go_enter Tryz.func58,Tryz.ntmps58
 go_wp2_with (go_at_call 60;refine (spinMay_any _ (TA _) _ _ _ _ _ _ _).mono ?_;rintro e w1 ⟨rfl,hb1⟩;have hx:=new_keep hb1;obtain⟨c0,c1,c2,c3⟩:=cells4 hx;obtain⟨d0,d1,d2,d3⟩:=cells4 (obj_keep hx ((Below.refl _ w1).alloc (Nat.le_refl _) zeroB)))
 have h2:=bat_zero w1
 have T1:TabI w1:=(TI.below (ha _) (Nat.le_refl _)).below hb1 (Nat.le_refl _)
 have hw1:=(ha (.cells #[.int .i64 8,.int .i64 n,.int .i64 t,.int .i64 b] 27)).trans (hb1.mono (by simp))
 refine (claim_at h2 (by omega) (base+3) t (by omega)).mono ?_;rintro e w3 ⟨rfl,h3⟩
 have hs3:=h3.since
 obtain⟨g3_0,g3_1,g3_2,g3_3⟩:=cells4 (obj_keep hx hs3.below)
 go_wp2_with fail
 refine (biased_at h3 (by omega) base (by omega)).mono ?_;rintro e w4 ⟨rfl,h4⟩
 have hs4:=h4.since
 obtain⟨g4_0,g4_1,g4_2,g4_3⟩:=cells4 (obj_keep hx hs4.below)
 go_wp2_with fail
 refine (close_at h4 (by omega)).mono ?_;rintro e w5 ⟨rfl,h5⟩
 have hs5:=h5.since
 obtain⟨g5_0,g5_1,g5_2,g5_3⟩:=cells4 (obj_keep hx hs5.below)
 go_wp2_with fail
 refine (code_at (b:=linBiasOwn base t) h5 (by simp only [←BS.run_app];exact congrArg (BS.run BS.zero) rfl) T1 (okBiasOwn (by omega) (by omega))).mono ?_;rintro e w20 h20
 obtain⟨⟨v,rfl,hv⟩,hb20⟩:=h20
 go_wp2_with fail
 first | go_ret2 | go_ret
 exact⟨⟨v,rfl,own_base' hv hw1.size⟩,hw1.trans (hb20.mono hw1.size)⟩
set_option maxHeartbeats 4000000 in
theorem codeBiasOther_any(w:World)(TI:TabI w)(TO:TabO w)(n a b:Int)(th ar:Int)(t base:Nat)(hA:AskP 8 n a b 1 th t)(hb:base≤100000)(ht:t≤100000)(he:((t:Int) == a)=false):
  Calls Tryz.prog 58 #[.agg #[.int .i64 8,.int .i64 n,.int .i64 a,.int .i64 b],.int .i64 1,.int .i64 th,.int .i64 t,.int .u32 base,.int .u32 ar] w (CodeOk w (linBiasOther base t)):=by
 have dA:decide (AskP 8 n a b 1 th t)=true:=decide_eq_true hA
 have ha:∀ o,Below w.heap.size w (w.alloc o):=fun o=>(Below.refl _ w).alloc (Nat.le_refl _) o
 have TA:∀ o,TabO (w.alloc o):=fun o=>TO.below (ha o) (Nat.le_refl _)
 have e0:IntKind.u32.wrap ((base:Int)+3)=((base+3:Nat):Int):=by rw [IntKind.wrap_u32];omega
 have e1:IntKind.u32.wrap ((base:Int)+2)=((base+2:Nat):Int):=by rw [IntKind.wrap_u32];omega
 go_enter Tryz.func58,Tryz.ntmps58
 go_wp2_with (go_at_call 60;refine (spinMay_any _ (TA _) _ _ _ _ _ _ _).mono ?_;rintro e w1 ⟨rfl,hb1⟩;have hx:=new_keep hb1;obtain⟨c0,c1,c2,c3⟩:=cells4 hx;obtain⟨d0,d1,d2,d3⟩:=cells4 (obj_keep hx ((Below.refl _ w1).alloc (Nat.le_refl _) zeroB)))
 have h2:=bat_zero w1
 have T1:TabI w1:=(TI.below (ha _) (Nat.le_refl _)).below hb1 (Nat.le_refl _)
 have hw1:=(ha (.cells #[.int .i64 8,.int .i64 n,.int .i64 a,.int .i64 b] 27)).trans (hb1.mono (by simp))
 refine (claim_at h2 (by omega) (base+3) t (by omega)).mono ?_;rintro e w3 ⟨rfl,h3⟩
 have hs3:=h3.since
 obtain⟨g3_0,g3_1,g3_2,g3_3⟩:=cells4 (obj_keep hx hs3.below)
 go_wp2_with fail
 refine (other_at h3 (by omega) base (by omega)).mono ?_;rintro e w4 ⟨rfl,h4⟩
 have hs4:=h4.since
 obtain⟨g4_0,g4_1,g4_2,g4_3⟩:=cells4 (obj_keep hx hs4.below)
 go_wp2_with fail
 refine (close_at h4 (by omega)).mono ?_;rintro e w5 ⟨rfl,h5⟩
 have hs5:=h5.since
 obtain⟨g5_0,g5_1,g5_2,g5_3⟩:=cells4 (obj_keep hx hs5.below)
 go_wp2_with fail
 refine (code_at (b:=linBiasOther base t) h5 (by simp only [←BS.run_app];exact congrArg (BS.run BS.zero) rfl) T1 (okBiasOther (by omega) (by omega))).mono ?_;rintro e w20 h20
 obtain⟨⟨v,rfl,hv⟩,hb20⟩:=h20
 go_wp2_with fail
 first | go_ret2 | go_ret
 exact⟨⟨v,rfl,own_base' hv hw1.size⟩,hw1.trans (hb20.mono hw1.size)⟩
set_option maxHeartbeats 4000000 in
theorem codeBiasLeave_any(w:World)(TI:TabI w)(TO:TabO w)(n b:Int)(th ar:Int)(t base:Nat)(hA:AskP 8 n t b 2 th t)(hb:base≤100000)(ht:t≤100000):
  Calls Tryz.prog 58 #[.agg #[.int .i64 8,.int .i64 n,.int .i64 t,.int .i64 b],.int .i64 2,.int .i64 th,.int .i64 t,.int .u32 base,.int .u32 ar] w (CodeOk w (linBiasLeave base t)):=by
 have dA:decide (AskP 8 n t b 2 th t)=true:=decide_eq_true hA
 have ha:∀ o,Below w.heap.size w (w.alloc o):=fun o=>(Below.refl _ w).alloc (Nat.le_refl _) o
 have TA:∀ o,TabO (w.alloc o):=fun o=>TO.below (ha o) (Nat.le_refl _)
 have e0:IntKind.u32.wrap ((base:Int)+3)=((base+3:Nat):Int):=by rw [IntKind.wrap_u32];omega
 have e1:IntKind.u32.wrap ((base:Int)+2)=((base+2:Nat):Int):=by rw [IntKind.wrap_u32];omega
 go_enter Tryz.func58,Tryz.ntmps58
 go_wp2_with (go_at_call 60;refine (spinMay_any _ (TA _) _ _ _ _ _ _ _).mono ?_;rintro e w1 ⟨rfl,hb1⟩;have hx:=new_keep hb1;obtain⟨c0,c1,c2,c3⟩:=cells4 hx;obtain⟨d0,d1,d2,d3⟩:=cells4 (obj_keep hx ((Below.refl _ w1).alloc (Nat.le_refl _) zeroB)))
 have h2:=bat_zero w1
 have T1:TabI w1:=(TI.below (ha _) (Nat.le_refl _)).below hb1 (Nat.le_refl _)
 have hw1:=(ha (.cells #[.int .i64 8,.int .i64 n,.int .i64 t,.int .i64 b] 27)).trans (hb1.mono (by simp))
 refine (prove_at h2 (by omega) (base+3) t (by omega)).mono ?_;rintro e w3 ⟨rfl,h3⟩
 have hs3:=h3.since
 obtain⟨g3_0,g3_1,g3_2,g3_3⟩:=cells4 (obj_keep hx hs3.below)
 go_wp2_with fail
 refine (leave_at h3 (by omega) base (by omega)).mono ?_;rintro e w4 ⟨rfl,h4⟩
 have hs4:=h4.since
 obtain⟨g4_0,g4_1,g4_2,g4_3⟩:=cells4 (obj_keep hx hs4.below)
 go_wp2_with fail
 refine (close_at h4 (by omega)).mono ?_;rintro e w5 ⟨rfl,h5⟩
 have hs5:=h5.since
 obtain⟨g5_0,g5_1,g5_2,g5_3⟩:=cells4 (obj_keep hx hs5.below)
 go_wp2_with fail
 refine (code_at (b:=linBiasLeave base t) h5 (by simp only [←BS.run_app];exact congrArg (BS.run BS.zero) rfl) T1 (okBiasLeave (by omega) (by omega))).mono ?_;rintro e w20 h20
 obtain⟨⟨v,rfl,hv⟩,hb20⟩:=h20
 go_wp2_with fail
 first | go_ret2 | go_ret
 exact⟨⟨v,rfl,own_base' hv hw1.size⟩,hw1.trans (hb20.mono hw1.size)⟩
set_option maxHeartbeats 4000000 in
theorem codeBiasOut_any(w:World)(TI:TabI w)(TO:TabO w)(n a b:Int)(th ar:Int)(t base:Nat)(hA:AskP 8 n a b 2 th t)(hb:base≤100000)(ht:t≤100000)(he:((t:Int) == a)=false):
  Calls Tryz.prog 58 #[.agg #[.int .i64 8,.int .i64 n,.int .i64 a,.int .i64 b],.int .i64 2,.int .i64 th,.int .i64 t,.int .u32 base,.int .u32 ar] w (CodeOk w (linBiasOut base t)):=by
 have dA:decide (AskP 8 n a b 2 th t)=true:=decide_eq_true hA
 have ha:∀ o,Below w.heap.size w (w.alloc o):=fun o=>(Below.refl _ w).alloc (Nat.le_refl _) o
 have TA:∀ o,TabO (w.alloc o):=fun o=>TO.below (ha o) (Nat.le_refl _)
 have e0:IntKind.u32.wrap ((base:Int)+3)=((base+3:Nat):Int):=by rw [IntKind.wrap_u32];omega
 have e1:IntKind.u32.wrap ((base:Int)+2)=((base+2:Nat):Int):=by rw [IntKind.wrap_u32];omega
 go_enter Tryz.func58,Tryz.ntmps58
 go_wp2_with (go_at_call 60;refine (spinMay_any _ (TA _) _ _ _ _ _ _ _).mono ?_;rintro e w1 ⟨rfl,hb1⟩;have hx:=new_keep hb1;obtain⟨c0,c1,c2,c3⟩:=cells4 hx;obtain⟨d0,d1,d2,d3⟩:=cells4 (obj_keep hx ((Below.refl _ w1).alloc (Nat.le_refl _) zeroB)))
 have h2:=bat_zero w1
 have T1:TabI w1:=(TI.below (ha _) (Nat.le_refl _)).below hb1 (Nat.le_refl _)
 have hw1:=(ha (.cells #[.int .i64 8,.int .i64 n,.int .i64 a,.int .i64 b] 27)).trans (hb1.mono (by simp))
 refine (prove_at h2 (by omega) (base+3) t (by omega)).mono ?_;rintro e w3 ⟨rfl,h3⟩
 have hs3:=h3.since
 obtain⟨g3_0,g3_1,g3_2,g3_3⟩:=cells4 (obj_keep hx hs3.below)
 go_wp2_with fail
 refine (zero_at h3 (by omega) (base+3)).mono ?_;rintro e w4 ⟨rfl,h4⟩
 have hs4:=h4.since
 obtain⟨g4_0,g4_1,g4_2,g4_3⟩:=cells4 (obj_keep hx hs4.below)
 go_wp2_with fail
 refine (zero_at h4 (by omega) (base+2)).mono ?_;rintro e w5 ⟨rfl,h5⟩
 have hs5:=h5.since
 obtain⟨g5_0,g5_1,g5_2,g5_3⟩:=cells4 (obj_keep hx hs5.below)
 go_wp2_with fail
 refine (close_at h5 (by omega)).mono ?_;rintro e w6 ⟨rfl,h6⟩
 have hs6:=h6.since
 obtain⟨g6_0,g6_1,g6_2,g6_3⟩:=cells4 (obj_keep hx hs6.below)
 go_wp2_with fail
 refine (code_at (b:=linBiasOut base t) h6 (by simp only [←BS.run_app];exact congrArg (BS.run BS.zero) rfl) T1 (okBiasOut (by omega) (by omega))).mono ?_;rintro e w20 h20
 obtain⟨⟨v,rfl,hv⟩,hb20⟩:=h20
 go_wp2_with fail
 first | go_ret2 | go_ret
 exact⟨⟨v,rfl,own_base' hv hw1.size⟩,hw1.trans (hb20.mono hw1.size)⟩
end Go.Proofs.YtckmkaeopnnbbaaGreatDoor.As
