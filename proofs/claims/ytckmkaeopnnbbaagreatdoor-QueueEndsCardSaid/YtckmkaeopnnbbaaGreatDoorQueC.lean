/- The walks of the package queue: a call's code. -/
import Derived.Test.YtckmkaeopnnbbaaGreatDoorQueAB
import Derived.Test.YtckmkaeopnnbbaaGreatDoorQueP
import Derived.Test.YtckmkaeopnnbbaaGreatDoorGd
set_option linter.unusedVariables false
set_option linter.unusedSimpArgs false
namespace Go.Proofs.YtckmkaeopnnbbaaGreatDoor.As
open Go.RowKit

theorem new2q(w:World)(x y:Obj):((w.alloc x).alloc y).heap[w.heap.size+1]? = some y:=by
 have h:=heap_alloc_new (w.alloc x) y
 rwa [World.size_alloc] at h

set_option maxHeartbeats 4000000 in
theorem codeMcsIn_any(w:World)(TI:TabI w)(TO:TabO w)(n a b ar:Int)(t th base:Nat)(hA:AskP 4 n a b 1 th t)(hb:base≤100000)(hth:th≤100)(ht:t≤100):
  Calls Tryz.prog 34 #[.agg #[.int .i64 4,.int .i64 n,.int .i64 a,.int .i64 b],.int .i64 1,.int .i64 th,.int .i64 t,.int .u32 base,.int .u32 ar] w (CodeOk w (linMcsIn base th t)):=by
 have dA:decide (AskP 4 n a b 1 th t)=true:=decide_eq_true hA
 have ha:∀ o,Below w.heap.size w (w.alloc o):=fun o=>(Below.refl _ w).alloc (Nat.le_refl _) o
 have TA:∀ o,TabO (w.alloc o):=fun o=>TO.below (ha o) (Nat.le_refl _)
 have e1:IntKind.u32.wrap ((base:Int)+1)=((base+1:Nat):Int):=by rw [IntKind.wrap_u32];omega
 have eo:IntKind.u32.wrap (ownerI 4)=1:=by decide
 go_enter Tryz.func34,Tryz.ntmps34
 go_wp2_with (go_at_call 60;refine (spinMay_any _ (TA _) _ _ _ _ _ _ _).mono ?_;rintro e w1 ⟨rfl,hb1⟩;have hx:=new_keep hb1;obtain⟨c0,c1,c2,c3⟩:=cells4 hx;have hx1:=obj_keep hx ((Below.refl _ w1).alloc (Nat.le_refl _) zeroB);obtain⟨d0,d1,d2,d3⟩:=cells4 hx1;obtain⟨D0,D1,D2,D3⟩:=cells4 (obj_keep hx1 ((Below.refl _ (w1.alloc zeroB)).alloc (Nat.le_refl _) (.cells #[.int .u32 base,.int .i64 th,.int .i64 t] 120))))
 obtain⟨F,hB,hF,hback⟩:=(bat_zero w1).alloc (.cells #[.int .u32 base,.int .i64 th,.int .i64 t] 120)
 have hW:=new2q w1 zeroB (.cells #[.int .u32 base,.int .i64 th,.int .i64 t] 120)
 have hF':∀ k,F k→k < w1.heap.size+1:=fun k e=>by have:=hF k e;simpa using this
 have T1:TabI w1:=(TI.below (ha _) (Nat.le_refl _)).below hb1 (Nat.le_refl _)
 have hw1:=(ha (.cells #[.int .i64 4,.int .i64 n,.int .i64 a,.int .i64 b] 27)).trans (hb1.mono (by simp))
 refine (owner_any _ _ _ _ _ _ rfl).mono ?_;rintro e w2 ⟨rfl,hb2⟩
 have h2:=hB.below hb2
 obtain⟨g0,g1,g2⟩:=cells3 (h2.kept hF' (by simp) hW)
 go_wp2_with fail
 refine (claim_at h2 (by omega) (base+1) t (by omega)).mono ?_;rintro e w3 ⟨rfl,h3⟩
 obtain⟨k0,k1,k2⟩:=cells3 (h3.kept hF' (by simp) hW)
 go_wp2_with fail
 refine (mcsIn_at h3 (by omega) base th t hb hth ht).mono ?_;rintro e w4 ⟨rfl,h4⟩
 go_wp2_with fail
 refine (close_at h4 (by omega)).mono ?_;rintro e w5 ⟨rfl,h5⟩
 go_wp2_with fail
 refine (code_at (b:=linMcsIn base th t) (hback _ _ _ h5) (by simp only [←BS.run_app];exact congrArg (BS.run BS.zero) rfl) T1 (okMcsIn (by omega) hth ht)).mono ?_;rintro e w6 h6
 obtain⟨⟨v,rfl,hv⟩,hb6⟩:=h6
 go_wp2_with fail
 first | go_ret2 | go_ret
 exact⟨⟨v,rfl,own_base' hv hw1.size⟩,hw1.trans (hb6.mono hw1.size)⟩
set_option maxHeartbeats 4000000 in
theorem codeMcsOut_any(w:World)(TI:TabI w)(TO:TabO w)(n a b ar:Int)(t th base:Nat)(hA:AskP 4 n a b 2 th t)(hb:base≤100000)(hth:th≤100)(ht:t≤100):
  Calls Tryz.prog 34 #[.agg #[.int .i64 4,.int .i64 n,.int .i64 a,.int .i64 b],.int .i64 2,.int .i64 th,.int .i64 t,.int .u32 base,.int .u32 ar] w (CodeOk w (linMcsOut base th t)):=by
 have dA:decide (AskP 4 n a b 2 th t)=true:=decide_eq_true hA
 have ha:∀ o,Below w.heap.size w (w.alloc o):=fun o=>(Below.refl _ w).alloc (Nat.le_refl _) o
 have TA:∀ o,TabO (w.alloc o):=fun o=>TO.below (ha o) (Nat.le_refl _)
 have e1:IntKind.u32.wrap ((base:Int)+1)=((base+1:Nat):Int):=by rw [IntKind.wrap_u32];omega
 have eo:IntKind.u32.wrap (ownerI 4)=1:=by decide
 go_enter Tryz.func34,Tryz.ntmps34
 go_wp2_with (go_at_call 60;refine (spinMay_any _ (TA _) _ _ _ _ _ _ _).mono ?_;rintro e w1 ⟨rfl,hb1⟩;have hx:=new_keep hb1;obtain⟨c0,c1,c2,c3⟩:=cells4 hx;have hx1:=obj_keep hx ((Below.refl _ w1).alloc (Nat.le_refl _) zeroB);obtain⟨d0,d1,d2,d3⟩:=cells4 hx1;obtain⟨D0,D1,D2,D3⟩:=cells4 (obj_keep hx1 ((Below.refl _ (w1.alloc zeroB)).alloc (Nat.le_refl _) (.cells #[.int .u32 base,.int .i64 th,.int .i64 t] 120))))
 obtain⟨F,hB,hF,hback⟩:=(bat_zero w1).alloc (.cells #[.int .u32 base,.int .i64 th,.int .i64 t] 120)
 have hW:=new2q w1 zeroB (.cells #[.int .u32 base,.int .i64 th,.int .i64 t] 120)
 have hF':∀ k,F k→k < w1.heap.size+1:=fun k e=>by have:=hF k e;simpa using this
 have T1:TabI w1:=(TI.below (ha _) (Nat.le_refl _)).below hb1 (Nat.le_refl _)
 have hw1:=(ha (.cells #[.int .i64 4,.int .i64 n,.int .i64 a,.int .i64 b] 27)).trans (hb1.mono (by simp))
 refine (owner_any _ _ _ _ _ _ rfl).mono ?_;rintro e w2 ⟨rfl,hb2⟩
 have h2:=hB.below hb2
 obtain⟨g0,g1,g2⟩:=cells3 (h2.kept hF' (by simp) hW)
 go_wp2_with fail
 refine (prove_at h2 (by omega) (base+1) t (by omega)).mono ?_;rintro e w3 ⟨rfl,h3⟩
 obtain⟨k0,k1,k2⟩:=cells3 (h3.kept hF' (by simp) hW)
 go_wp2_with fail
 refine (mcsOut_at h3 (by omega) base th t hb hth ht).mono ?_;rintro e w4 ⟨rfl,h4⟩
 go_wp2_with fail
 refine (close_at h4 (by omega)).mono ?_;rintro e w5 ⟨rfl,h5⟩
 go_wp2_with fail
 refine (code_at (b:=linMcsOut base th t) (hback _ _ _ h5) (by simp only [←BS.run_app];exact congrArg (BS.run BS.zero) rfl) T1 (okMcsOut (by omega) hth ht)).mono ?_;rintro e w6 h6
 obtain⟨⟨v,rfl,hv⟩,hb6⟩:=h6
 go_wp2_with fail
 first | go_ret2 | go_ret
 exact⟨⟨v,rfl,own_base' hv hw1.size⟩,hw1.trans (hb6.mono hw1.size)⟩
set_option maxHeartbeats 4000000 in
theorem codeClhIn_any(w:World)(TI:TabI w)(TO:TabO w)(n a b ar:Int)(t th base:Nat)(hA:AskP 5 n a b 1 th t)(hb:base≤100000)(hth:th≤100)(ht:t≤100):
  Calls Tryz.prog 34 #[.agg #[.int .i64 5,.int .i64 n,.int .i64 a,.int .i64 b],.int .i64 1,.int .i64 th,.int .i64 t,.int .u32 base,.int .u32 ar] w (CodeOk w (linClhIn base th t)):=by
 have dA:decide (AskP 5 n a b 1 th t)=true:=decide_eq_true hA
 have ha:∀ o,Below w.heap.size w (w.alloc o):=fun o=>(Below.refl _ w).alloc (Nat.le_refl _) o
 have TA:∀ o,TabO (w.alloc o):=fun o=>TO.below (ha o) (Nat.le_refl _)
 have e1:IntKind.u32.wrap ((base:Int)+1)=((base+1:Nat):Int):=by rw [IntKind.wrap_u32];omega
 have eo:IntKind.u32.wrap (ownerI 5)=1:=by decide
 go_enter Tryz.func34,Tryz.ntmps34
 go_wp2_with (go_at_call 60;refine (spinMay_any _ (TA _) _ _ _ _ _ _ _).mono ?_;rintro e w1 ⟨rfl,hb1⟩;have hx:=new_keep hb1;obtain⟨c0,c1,c2,c3⟩:=cells4 hx;have hx1:=obj_keep hx ((Below.refl _ w1).alloc (Nat.le_refl _) zeroB);obtain⟨d0,d1,d2,d3⟩:=cells4 hx1;obtain⟨D0,D1,D2,D3⟩:=cells4 (obj_keep hx1 ((Below.refl _ (w1.alloc zeroB)).alloc (Nat.le_refl _) (.cells #[.int .u32 base,.int .i64 th,.int .i64 t] 120))))
 obtain⟨F,hB,hF,hback⟩:=(bat_zero w1).alloc (.cells #[.int .u32 base,.int .i64 th,.int .i64 t] 120)
 have hW:=new2q w1 zeroB (.cells #[.int .u32 base,.int .i64 th,.int .i64 t] 120)
 have hF':∀ k,F k→k < w1.heap.size+1:=fun k e=>by have:=hF k e;simpa using this
 have T1:TabI w1:=(TI.below (ha _) (Nat.le_refl _)).below hb1 (Nat.le_refl _)
 have hw1:=(ha (.cells #[.int .i64 5,.int .i64 n,.int .i64 a,.int .i64 b] 27)).trans (hb1.mono (by simp))
 refine (owner_any _ _ _ _ _ _ rfl).mono ?_;rintro e w2 ⟨rfl,hb2⟩
 have h2:=hB.below hb2
 obtain⟨g0,g1,g2⟩:=cells3 (h2.kept hF' (by simp) hW)
 go_wp2_with fail
 refine (claim_at h2 (by omega) (base+1) t (by omega)).mono ?_;rintro e w3 ⟨rfl,h3⟩
 obtain⟨k0,k1,k2⟩:=cells3 (h3.kept hF' (by simp) hW)
 go_wp2_with fail
 refine (clhIn_at h3 (by omega) base th t hb hth ht).mono ?_;rintro e w4 ⟨rfl,h4⟩
 go_wp2_with fail
 refine (close_at h4 (by omega)).mono ?_;rintro e w5 ⟨rfl,h5⟩
 go_wp2_with fail
 refine (code_at (b:=linClhIn base th t) (hback _ _ _ h5) (by simp only [←BS.run_app];exact congrArg (BS.run BS.zero) rfl) T1 (okClhIn (by omega) hth ht)).mono ?_;rintro e w6 h6
 obtain⟨⟨v,rfl,hv⟩,hb6⟩:=h6
 go_wp2_with fail
 first | go_ret2 | go_ret
 exact⟨⟨v,rfl,own_base' hv hw1.size⟩,hw1.trans (hb6.mono hw1.size)⟩
set_option maxHeartbeats 4000000 in
theorem codeClhOut_any(w:World)(TI:TabI w)(TO:TabO w)(n a b ar:Int)(t th base:Nat)(hA:AskP 5 n a b 2 th t)(hb:base≤100000)(hth:th≤100)(ht:t≤100):
  Calls Tryz.prog 34 #[.agg #[.int .i64 5,.int .i64 n,.int .i64 a,.int .i64 b],.int .i64 2,.int .i64 th,.int .i64 t,.int .u32 base,.int .u32 ar] w (CodeOk w (linClhOut base th t)):=by
 have dA:decide (AskP 5 n a b 2 th t)=true:=decide_eq_true hA
 have ha:∀ o,Below w.heap.size w (w.alloc o):=fun o=>(Below.refl _ w).alloc (Nat.le_refl _) o
 have TA:∀ o,TabO (w.alloc o):=fun o=>TO.below (ha o) (Nat.le_refl _)
 have e1:IntKind.u32.wrap ((base:Int)+1)=((base+1:Nat):Int):=by rw [IntKind.wrap_u32];omega
 have eo:IntKind.u32.wrap (ownerI 5)=1:=by decide
 go_enter Tryz.func34,Tryz.ntmps34
 go_wp2_with (go_at_call 60;refine (spinMay_any _ (TA _) _ _ _ _ _ _ _).mono ?_;rintro e w1 ⟨rfl,hb1⟩;have hx:=new_keep hb1;obtain⟨c0,c1,c2,c3⟩:=cells4 hx;have hx1:=obj_keep hx ((Below.refl _ w1).alloc (Nat.le_refl _) zeroB);obtain⟨d0,d1,d2,d3⟩:=cells4 hx1;obtain⟨D0,D1,D2,D3⟩:=cells4 (obj_keep hx1 ((Below.refl _ (w1.alloc zeroB)).alloc (Nat.le_refl _) (.cells #[.int .u32 base,.int .i64 th,.int .i64 t] 120))))
 obtain⟨F,hB,hF,hback⟩:=(bat_zero w1).alloc (.cells #[.int .u32 base,.int .i64 th,.int .i64 t] 120)
 have hW:=new2q w1 zeroB (.cells #[.int .u32 base,.int .i64 th,.int .i64 t] 120)
 have hF':∀ k,F k→k < w1.heap.size+1:=fun k e=>by have:=hF k e;simpa using this
 have T1:TabI w1:=(TI.below (ha _) (Nat.le_refl _)).below hb1 (Nat.le_refl _)
 have hw1:=(ha (.cells #[.int .i64 5,.int .i64 n,.int .i64 a,.int .i64 b] 27)).trans (hb1.mono (by simp))
 refine (owner_any _ _ _ _ _ _ rfl).mono ?_;rintro e w2 ⟨rfl,hb2⟩
 have h2:=hB.below hb2
 obtain⟨g0,g1,g2⟩:=cells3 (h2.kept hF' (by simp) hW)
 go_wp2_with fail
 refine (prove_at h2 (by omega) (base+1) t (by omega)).mono ?_;rintro e w3 ⟨rfl,h3⟩
 obtain⟨k0,k1,k2⟩:=cells3 (h3.kept hF' (by simp) hW)
 go_wp2_with fail
 refine (clhOut_at h3 (by omega) base th t hb hth ht).mono ?_;rintro e w4 ⟨rfl,h4⟩
 go_wp2_with fail
 refine (close_at h4 (by omega)).mono ?_;rintro e w5 ⟨rfl,h5⟩
 go_wp2_with fail
 refine (code_at (b:=linClhOut base th t) (hback _ _ _ h5) (by simp only [←BS.run_app];exact congrArg (BS.run BS.zero) rfl) T1 (okClhOut (by omega) hth ht)).mono ?_;rintro e w6 h6
 obtain⟨⟨v,rfl,hv⟩,hb6⟩:=h6
 go_wp2_with fail
 first | go_ret2 | go_ret
 exact⟨⟨v,rfl,own_base' hv hw1.size⟩,hw1.trans (hb6.mono hw1.size)⟩
end Go.Proofs.YtckmkaeopnnbbaaGreatDoor.As
