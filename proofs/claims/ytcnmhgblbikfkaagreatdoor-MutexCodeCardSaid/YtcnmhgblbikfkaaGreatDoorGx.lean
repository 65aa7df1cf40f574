/- The walks of the package mutex: the parts of its calls. The walks of the package mutex: a call's code. -/
import Derived.Test.YtcnmhgblbikfkaaGreatDoorGp
import Derived.Test.YtcnmhgblbikfkaaGreatDoorGo
section
set_option linter.unusedVariables false
namespace Go.Proofs.YtcnmhgblbikfkaaGreatDoor.As
open Go.RowKit

def inL(base:Nat):List Ln:=[.ins ⟨1,4,0,0,0⟩ [],.ins ⟨1,6,0,0,1⟩ [],.ins ⟨21,4,8,6,((base+0:Nat):Int)⟩ [],.ins ⟨14,4,0,0,0⟩ [103,111,116],.lab [97,103,97,105,110],.ins ⟨1,4,0,0,2⟩ [],.ins ⟨19,4,8,0,((base+0:Nat):Int)⟩ [],.ins ⟨14,4,0,0,0⟩ [103,111,116],.ins ⟨1,4,0,0,2⟩ [],.ins ⟨23,4,8,0,((base+0:Nat):Int)⟩ [],.ins ⟨13,0,0,0,0⟩ [97,103,97,105,110],.lab [103,111,116],.ins ⟨17,5,8,0,((base+1:Nat):Int)⟩ []]
theorem in_at{w0 w:World}{F0:Nat→Prop}{g N:Nat}{s:BS}(h:Bat w0 F0 g N s w)(hN:N < 300000)(base:Nat)(hb:base≤1000000):
  Calls Tryz.prog 38 #[.pointer (some ⟨g,0,none⟩),.int .u32 base] w (BatPost w0 F0 g (N+1+1+1+1+1+1+1+1+1+1+1+1+1) (s.run (inL base))):=by
 have e0:IntKind.u32.wrap ((base:Int)+0)=((base+0:Nat):Int):=by rw [IntKind.wrap_u32];omega
 have e1:IntKind.u32.wrap ((base:Int)+1)=((base+1:Nat):Int):=by rw [IntKind.wrap_u32];omega
 go_enter Tryz.func38,Tryz.ntmps38
 go_wp2_with fail
 refine (set_at h (by omega) _ _).mono ?_;rintro e w1 ⟨rfl,h1⟩
 go_wp2_with fail
 refine (set_at h1 (by omega) _ _).mono ?_;rintro e w2 ⟨rfl,h2⟩
 go_wp2_with fail
 refine (cas_at h2 (by omega) _ _ _).mono ?_;rintro e w3 ⟨rfl,h3⟩
 go_wp2_with fail
 refine (go_at h3 (by omega) _ _ _).mono ?_;rintro e w4 ⟨rfl,h4⟩
 go_wp2_with fail
 refine (at_at h4 (by omega) _ (by decide)).mono ?_;rintro e w5 ⟨rfl,h5⟩
 go_wp2_with fail
 refine (set_at h5 (by omega) _ _).mono ?_;rintro e w6 ⟨rfl,h6⟩
 go_wp2_with fail
 refine (ask_at h6 (by omega) _ _ _).mono ?_;rintro e w7 ⟨rfl,h7⟩
 go_wp2_with fail
 refine (go_at h7 (by omega) _ _ _).mono ?_;rintro e w8 ⟨rfl,h8⟩
 go_wp2_with fail
 refine (set_at h8 (by omega) _ _).mono ?_;rintro e w9 ⟨rfl,h9⟩
 go_wp2_with fail
 refine (ask_at h9 (by omega) _ _ _).mono ?_;rintro e w10 ⟨rfl,h10⟩
 go_wp2_with fail
 refine (go_at h10 (by omega) _ _ _).mono ?_;rintro e w11 ⟨rfl,h11⟩
 go_wp2_with fail
 refine (at_at h11 (by omega) _ (by decide)).mono ?_;rintro e w12 ⟨rfl,h12⟩
 go_wp2_with fail
 refine (ask_at h12 (by omega) _ _ _).mono ?_;rintro e w13 ⟨rfl,h13⟩
 go_wp2_with fail
 go_end0
 exact⟨rfl,h13⟩
def wakeL(base:Nat):List Ln:=[.ins ⟨1,4,0,0,1⟩ [],.ins ⟨24,4,8,0,((base:Nat):Int)⟩ []]
theorem wake_at{w0 w:World}{F0:Nat→Prop}{g N:Nat}{s:BS}(h:Bat w0 F0 g N s w)(hN:N < 400000)(base:Nat)(hb:base≤1000000):
  Calls Tryz.prog 82 #[.pointer (some ⟨g,0,none⟩),.int .u32 base] w (BatPost w0 F0 g (N+1+1) (s.run (wakeL base))):=by
 go_enter Tryz.func82,Tryz.ntmps82
 go_wp2_with fail
 refine (set_at h (by omega) _ _).mono ?_;rintro e w1 ⟨rfl,h1⟩
 go_wp2_with fail
 refine (ask_at h1 (by omega) _ _ _).mono ?_;rintro e w2 ⟨rfl,h2⟩
 go_wp2_with fail
 go_end0
 exact⟨rfl,h2⟩
def outL'(base:Nat):List Ln:=[.ins ⟨1,4,0,0,0⟩ [],.ins ⟨17,4,8,0,((base+1:Nat):Int)⟩ [],.ins ⟨1,4,0,0,0⟩ [],.ins ⟨19,4,8,0,((base+0:Nat):Int)⟩ [],.ins ⟨1,6,0,0,2⟩ [],.ins ⟨12,6,4,6,0⟩ [],.ins ⟨14,6,0,0,0⟩ [100,111,110,101],.ins ⟨1,4,0,0,1⟩ [],.ins ⟨24,4,8,0,((base+0:Nat):Int)⟩ [],.lab [100,111,110,101]]
theorem out_at{w0 w:World}{F0:Nat→Prop}{g N:Nat}{s:BS}(h:Bat w0 F0 g N s w)(hN:N < 300000)(base:Nat)(hb:base≤1000000):
  Calls Tryz.prog 41 #[.pointer (some ⟨g,0,none⟩),.int .u32 base] w (BatPost w0 F0 g (N+1+1+1+1+1+1+1+1+1+1) (s.run (outL' base))):=by
 have e0:IntKind.u32.wrap ((base:Int)+0)=((base+0:Nat):Int):=by rw [IntKind.wrap_u32];omega
 have e1:IntKind.u32.wrap ((base:Int)+1)=((base+1:Nat):Int):=by rw [IntKind.wrap_u32];omega
 go_enter Tryz.func41,Tryz.ntmps41
 go_wp2_with fail
 refine (zero_at h (by omega) _).mono ?_;rintro e w1 ⟨rfl,h1⟩
 go_wp2_with fail
 refine (set_at h1 (by omega) _ _).mono ?_;rintro e w2 ⟨rfl,h2⟩
 go_wp2_with fail
 refine (ask_at h2 (by omega) _ _ _).mono ?_;rintro e w3 ⟨rfl,h3⟩
 go_wp2_with fail
 refine (set_at h3 (by omega) _ _).mono ?_;rintro e w4 ⟨rfl,h4⟩
 go_wp2_with fail
 refine (alu_at h4 (by omega) _ _ _ _).mono ?_;rintro e w5 ⟨rfl,h5⟩
 go_wp2_with fail
 refine (go_at h5 (by omega) _ _ _).mono ?_;rintro e w6 ⟨rfl,h6⟩
 go_wp2_with fail
 refine (wake_at h6 (by omega) (base+0) (by omega)).mono ?_;rintro e w7 ⟨rfl,h7⟩
 go_wp2_with fail
 refine (at_at h7 (by omega) _ (by decide)).mono ?_;rintro e w8 ⟨rfl,h8⟩
 go_wp2_with fail
 go_end0
 exact⟨rfl,h8⟩
def change_addL(base:Nat):List Ln:=[.ins ⟨1,5,0,0,1⟩ [],.ins ⟨3,5,4,5,0⟩ [],.ins ⟨2,6,4,0,0⟩ [],.ins ⟨21,4,8,5,((base:Nat):Int)⟩ [],.ins ⟨12,6,4,6,0⟩ [],.ins ⟨14,6,0,0,0⟩ [97,103,97,105,110]]
theorem change_add_at{w0 w:World}{F0:Nat→Prop}{g N:Nat}{s:BS}(h:Bat w0 F0 g N s w)(hN:N < 400000)(base:Nat)(hb:base≤1000000):
  Calls Tryz.prog 80 #[.pointer (some ⟨g,0,none⟩),.int .i64 3,.int .u32 base] w (BatPost w0 F0 g (N+1+1+1+1+1+1) (s.run (change_addL base))):=by
 go_enter Tryz.func80,Tryz.ntmps80
 go_wp2_with fail
 refine (set_at h (by omega) _ _).mono ?_;rintro e w1 ⟨rfl,h1⟩
 go_wp2_with fail
 refine (alu_at h1 (by omega) _ _ _ _).mono ?_;rintro e w2 ⟨rfl,h2⟩
 go_wp2_with fail
 refine (do_at h2 (by omega) _ _ _ _ _).mono ?_;rintro e w3 ⟨rfl,h3⟩
 go_wp2_with fail
 refine (cas_at h3 (by omega) _ _ _).mono ?_;rintro e w4 ⟨rfl,h4⟩
 go_wp2_with fail
 refine (alu_at h4 (by omega) _ _ _ _).mono ?_;rintro e w5 ⟨rfl,h5⟩
 go_wp2_with fail
 refine (go_at h5 (by omega) _ _ _).mono ?_;rintro e w6 ⟨rfl,h6⟩
 go_wp2_with fail
 go_end0
 exact⟨rfl,h6⟩
def change_subL(base:Nat):List Ln:=[.ins ⟨1,5,0,0,1⟩ [],.ins ⟨4,5,4,5,0⟩ [],.ins ⟨2,6,4,0,0⟩ [],.ins ⟨21,4,8,5,((base:Nat):Int)⟩ [],.ins ⟨12,6,4,6,0⟩ [],.ins ⟨14,6,0,0,0⟩ [97,103,97,105,110]]
theorem change_sub_at{w0 w:World}{F0:Nat→Prop}{g N:Nat}{s:BS}(h:Bat w0 F0 g N s w)(hN:N < 400000)(base:Nat)(hb:base≤1000000):
  Calls Tryz.prog 80 #[.pointer (some ⟨g,0,none⟩),.int .i64 4,.int .u32 base] w (BatPost w0 F0 g (N+1+1+1+1+1+1) (s.run (change_subL base))):=by
 go_enter Tryz.func80,Tryz.ntmps80
 go_wp2_with fail
 refine (set_at h (by omega) _ _).mono ?_;rintro e w1 ⟨rfl,h1⟩
 go_wp2_with fail
 refine (alu_at h1 (by omega) _ _ _ _).mono ?_;rintro e w2 ⟨rfl,h2⟩
 go_wp2_with fail
 refine (do_at h2 (by omega) _ _ _ _ _).mono ?_;rintro e w3 ⟨rfl,h3⟩
 go_wp2_with fail
 refine (cas_at h3 (by omega) _ _ _).mono ?_;rintro e w4 ⟨rfl,h4⟩
 go_wp2_with fail
 refine (alu_at h4 (by omega) _ _ _ _).mono ?_;rintro e w5 ⟨rfl,h5⟩
 go_wp2_with fail
 refine (go_at h5 (by omega) _ _ _).mono ?_;rintro e w6 ⟨rfl,h6⟩
 go_wp2_with fail
 go_end0
 exact⟨rfl,h6⟩
def downL(base:Nat):List Ln:=[.lab [97,103,97,105,110],.ins ⟨16,4,8,0,((base:Nat):Int)⟩ [],.ins ⟨15,4,0,0,0⟩ [116,114,121],.ins ⟨1,4,0,0,0⟩ [],.ins ⟨23,4,8,0,((base:Nat):Int)⟩ [],.ins ⟨13,0,0,0,0⟩ [97,103,97,105,110],.lab [116,114,121],.ins ⟨1,5,0,0,1⟩ [],.ins ⟨4,5,4,5,0⟩ [],.ins ⟨2,6,4,0,0⟩ [],.ins ⟨21,4,8,5,((base:Nat):Int)⟩ [],.ins ⟨12,6,4,6,0⟩ [],.ins ⟨14,6,0,0,0⟩ [97,103,97,105,110],.ins ⟨1,7,0,0,0⟩ [],.lab [101,110,100]]
theorem down_at{w0 w:World}{F0:Nat→Prop}{g N:Nat}{s:BS}(h:Bat w0 F0 g N s w)(hN:N < 300000)(base:Nat)(hb:base≤1000000):
  Calls Tryz.prog 35 #[.pointer (some ⟨g,0,none⟩),.int .u32 base] w (BatPost w0 F0 g (N+1+1+1+1+1+1+1+1+1+1+1+1+1+1+1) (s.run (downL base))):=by
 go_enter Tryz.func35,Tryz.ntmps35
 go_wp2_with fail
 refine (at_at h (by omega) _ (by decide)).mono ?_;rintro e w1 ⟨rfl,h1⟩
 go_wp2_with fail
 refine (ask_at h1 (by omega) _ _ _).mono ?_;rintro e w2 ⟨rfl,h2⟩
 go_wp2_with fail
 refine (go_at h2 (by omega) _ _ _).mono ?_;rintro e w3 ⟨rfl,h3⟩
 go_wp2_with fail
 refine (set_at h3 (by omega) _ _).mono ?_;rintro e w4 ⟨rfl,h4⟩
 go_wp2_with fail
 refine (ask_at h4 (by omega) _ _ _).mono ?_;rintro e w5 ⟨rfl,h5⟩
 go_wp2_with fail
 refine (go_at h5 (by omega) _ _ _).mono ?_;rintro e w6 ⟨rfl,h6⟩
 go_wp2_with fail
 refine (at_at h6 (by omega) _ (by decide)).mono ?_;rintro e w7 ⟨rfl,h7⟩
 go_wp2_with fail
 refine (change_sub_at h7 (by omega) base (by omega)).mono ?_;rintro e w8 ⟨rfl,h8⟩
 go_wp2_with fail
 refine (close_at h8 (by omega) ).mono ?_;rintro e w9 ⟨rfl,h9⟩
 go_wp2_with fail
 go_end0
 exact⟨rfl,h9⟩
def upL(base m:Nat):List Ln:=[.lab [97,103,97,105,110],.ins ⟨16,4,8,0,((base:Nat):Int)⟩ [],.ins ⟨1,5,0,0,((m:Nat):Int)⟩ [],.ins ⟨12,6,4,5,0⟩ [],.ins ⟨15,6,0,0,0⟩ [111,118,101,114],.ins ⟨1,5,0,0,1⟩ [],.ins ⟨3,5,4,5,0⟩ [],.ins ⟨2,6,4,0,0⟩ [],.ins ⟨21,4,8,5,((base:Nat):Int)⟩ [],.ins ⟨12,6,4,6,0⟩ [],.ins ⟨14,6,0,0,0⟩ [97,103,97,105,110],.ins ⟨1,4,0,0,1⟩ [],.ins ⟨24,4,8,0,((base:Nat):Int)⟩ [],.ins ⟨1,7,0,0,0⟩ [],.ins ⟨13,0,0,0,0⟩ [101,110,100],.lab [111,118,101,114],.ins ⟨1,7,0,0,3⟩ [],.lab [101,110,100]]
theorem up_at{w0 w:World}{F0:Nat→Prop}{g N:Nat}{s:BS}(h:Bat w0 F0 g N s w)(hN:N < 300000)(base m:Nat)(hb:base≤1000000):
  Calls Tryz.prog 36 #[.pointer (some ⟨g,0,none⟩),.int .u32 base,.int .u32 m] w (BatPost w0 F0 g (N+1+1+1+1+1+1+1+1+1+1+1+1+1+1+1+1+1+1) (s.run (upL base m))):=by
 go_enter Tryz.func36,Tryz.ntmps36
 go_wp2_with fail
 refine (at_at h (by omega) _ (by decide)).mono ?_;rintro e w1 ⟨rfl,h1⟩
 go_wp2_with fail
 refine (ask_at h1 (by omega) _ _ _).mono ?_;rintro e w2 ⟨rfl,h2⟩
 go_wp2_with fail
 refine (set_at h2 (by omega) _ _).mono ?_;rintro e w3 ⟨rfl,h3⟩
 go_wp2_with fail
 refine (alu_at h3 (by omega) _ _ _ _).mono ?_;rintro e w4 ⟨rfl,h4⟩
 go_wp2_with fail
 refine (go_at h4 (by omega) _ _ _).mono ?_;rintro e w5 ⟨rfl,h5⟩
 go_wp2_with fail
 refine (change_add_at h5 (by omega) base (by omega)).mono ?_;rintro e w6 ⟨rfl,h6⟩
 go_wp2_with fail
 refine (wake_at h6 (by omega) (base) (by omega)).mono ?_;rintro e w7 ⟨rfl,h7⟩
 go_wp2_with fail
 refine (set_at h7 (by omega) _ _).mono ?_;rintro e w8 ⟨rfl,h8⟩
 go_wp2_with fail
 refine (go_at h8 (by omega) _ _ _).mono ?_;rintro e w9 ⟨rfl,h9⟩
 go_wp2_with fail
 refine (at_at h9 (by omega) _ (by decide)).mono ?_;rintro e w10 ⟨rfl,h10⟩
 go_wp2_with fail
 refine (set_at h10 (by omega) _ _).mono ?_;rintro e w11 ⟨rfl,h11⟩
 go_wp2_with fail
 refine (at_at h11 (by omega) _ (by decide)).mono ?_;rintro e w12 ⟨rfl,h12⟩
 go_wp2_with fail
 go_end0
 exact⟨rfl,h12⟩
end Go.Proofs.YtcnmhgblbikfkaaGreatDoor.As
end

section
set_option linter.unusedVariables false
namespace Go.Proofs.YtcnmhgblbikfkaaGreatDoor.As
open Go.RowKit

set_option maxHeartbeats 4000000 in
theorem codeMutIn_any(w:World)(TI:TabI w)(TO:TabO w)(n a b:Int)(th ar:Int)(t base:Nat)(hA:AskP 10 n a b 1 th t)(hb:base≤100000)(ht:t≤100000):
  Calls Tryz.prog 10 #[.agg #[.int .i64 10,.int .i64 n,.int .i64 a,.int .i64 b],.int .i64 1,.int .i64 th,.int .i64 t,.int .u32 base,.int .u32 ar] w (CodeOk w (linMutIn base t)):=by
 have dA:decide (AskP 10 n a b 1 th t)=true:=decide_eq_true hA
 have ha:∀ o,Below w.heap.size w (w.alloc o):=fun o=>(Below.refl _ w).alloc (Nat.le_refl _) o
 have TA:∀ o,TabO (w.alloc o):=fun o=>TO.below (ha o) (Nat.le_refl _)
 have e0:IntKind.u32.wrap ((base:Int)+1)=((base+1:Nat):Int):=by rw [IntKind.wrap_u32];omega
 go_enter Tryz.func10,Tryz.ntmps10
 go_wp2_with (go_at_call 34;refine (spinMay_any _ (TA _) _ _ _ _ _ _ _).mono ?_;rintro e w1 ⟨rfl,hb1⟩;have hx:=new_keep hb1;obtain⟨c0,c1,c2,c3⟩:=cells4 hx;obtain⟨d0,d1,d2,d3⟩:=cells4 (obj_keep hx ((Below.refl _ w1).alloc (Nat.le_refl _) zeroB)))
 have h2:=bat_zero w1
 have T1:TabI w1:=(TI.below (ha _) (Nat.le_refl _)).below hb1 (Nat.le_refl _)
 have hw1:=(ha (.cells #[.int .i64 10,.int .i64 n,.int .i64 a,.int .i64 b] 23)).trans (hb1.mono (by simp))
 refine (claim_at h2 (by omega) (base+1) t (by omega)).mono ?_;rintro e w3 ⟨rfl,h3⟩
 have hs3:=h3.since
 obtain⟨g3_0,g3_1,g3_2,g3_3⟩:=cells4 (obj_keep hx hs3.below)
 go_wp2_with fail
 refine (in_at h3 (by omega) base (by omega)).mono ?_;rintro e w4 ⟨rfl,h4⟩
 have hs4:=h4.since
 obtain⟨g4_0,g4_1,g4_2,g4_3⟩:=cells4 (obj_keep hx hs4.below)
 go_wp2_with fail
 refine (close_at h4 (by omega)).mono ?_;rintro e w5 ⟨rfl,h5⟩
 have hs5:=h5.since
 obtain⟨g5_0,g5_1,g5_2,g5_3⟩:=cells4 (obj_keep hx hs5.below)
 go_wp2_with fail
 refine (code_at (b:=linMutIn base t) h5 (by simp only [←BS.run_app];exact congrArg (BS.run BS.zero) rfl) T1 (okMutIn (by omega) (by omega))).mono ?_;rintro e w20 h20
 obtain⟨⟨v,rfl,hv⟩,hb20⟩:=h20
 go_wp2_with fail
 first | go_ret2 | go_ret
 exact⟨⟨v,rfl,own_base' hv hw1.size⟩,hw1.trans (hb20.mono hw1.size)⟩
set_option maxHeartbeats 4000000 in
theorem codeMutOut_any(w:World)(TI:TabI w)(TO:TabO w)(n a b:Int)(th ar:Int)(t base:Nat)(hA:AskP 10 n a b 2 th t)(hb:base≤100000)(ht:t≤100000):
  Calls Tryz.prog 10 #[.agg #[.int .i64 10,.int .i64 n,.int .i64 a,.int .i64 b],.int .i64 2,.int .i64 th,.int .i64 t,.int .u32 base,.int .u32 ar] w (CodeOk w (linMutOut base t)):=by
 have dA:decide (AskP 10 n a b 2 th t)=true:=decide_eq_true hA
 have ha:∀ o,Below w.heap.size w (w.alloc o):=fun o=>(Below.refl _ w).alloc (Nat.le_refl _) o
 have TA:∀ o,TabO (w.alloc o):=fun o=>TO.below (ha o) (Nat.le_refl _)
 have e0:IntKind.u32.wrap ((base:Int)+1)=((base+1:Nat):Int):=by rw [IntKind.wrap_u32];omega
 go_enter Tryz.func10,Tryz.ntmps10
 go_wp2_with (go_at_call 34;refine (spinMay_any _ (TA _) _ _ _ _ _ _ _).mono ?_;rintro e w1 ⟨rfl,hb1⟩;have hx:=new_keep hb1;obtain⟨c0,c1,c2,c3⟩:=cells4 hx;obtain⟨d0,d1,d2,d3⟩:=cells4 (obj_keep hx ((Below.refl _ w1).alloc (Nat.le_refl _) zeroB)))
 have h2:=bat_zero w1
 have T1:TabI w1:=(TI.below (ha _) (Nat.le_refl _)).below hb1 (Nat.le_refl _)
 have hw1:=(ha (.cells #[.int .i64 10,.int .i64 n,.int .i64 a,.int .i64 b] 23)).trans (hb1.mono (by simp))
 refine (prove_at h2 (by omega) (base+1) t (by omega)).mono ?_;rintro e w3 ⟨rfl,h3⟩
 have hs3:=h3.since
 obtain⟨g3_0,g3_1,g3_2,g3_3⟩:=cells4 (obj_keep hx hs3.below)
 go_wp2_with fail
 refine (out_at h3 (by omega) base (by omega)).mono ?_;rintro e w4 ⟨rfl,h4⟩
 have hs4:=h4.since
 obtain⟨g4_0,g4_1,g4_2,g4_3⟩:=cells4 (obj_keep hx hs4.below)
 go_wp2_with fail
 refine (close_at h4 (by omega)).mono ?_;rintro e w5 ⟨rfl,h5⟩
 have hs5:=h5.since
 obtain⟨g5_0,g5_1,g5_2,g5_3⟩:=cells4 (obj_keep hx hs5.below)
 go_wp2_with fail
 refine (code_at (b:=linMutOut base t) h5 (by simp only [←BS.run_app];exact congrArg (BS.run BS.zero) rfl) T1 (okMutOut (by omega) (by omega))).mono ?_;rintro e w20 h20
 obtain⟨⟨v,rfl,hv⟩,hb20⟩:=h20
 go_wp2_with fail
 first | go_ret2 | go_ret
 exact⟨⟨v,rfl,own_base' hv hw1.size⟩,hw1.trans (hb20.mono hw1.size)⟩
set_option maxHeartbeats 4000000 in
theorem codeSemIn_any(w:World)(TI:TabI w)(TO:TabO w)(n a b:Int)(th ar:Int)(t base:Nat)(hA:AskP 11 n a b 1 th t)(hb:base≤100000)(ht:t≤100000):
  Calls Tryz.prog 10 #[.agg #[.int .i64 11,.int .i64 n,.int .i64 a,.int .i64 b],.int .i64 1,.int .i64 th,.int .i64 t,.int .u32 base,.int .u32 ar] w (CodeOk w (linSemIn base t)):=by
 have dA:decide (AskP 11 n a b 1 th t)=true:=decide_eq_true hA
 have ha:∀ o,Below w.heap.size w (w.alloc o):=fun o=>(Below.refl _ w).alloc (Nat.le_refl _) o
 have TA:∀ o,TabO (w.alloc o):=fun o=>TO.below (ha o) (Nat.le_refl _)
 go_enter Tryz.func10,Tryz.ntmps10
 go_wp2_with (go_at_call 34;refine (spinMay_any _ (TA _) _ _ _ _ _ _ _).mono ?_;rintro e w1 ⟨rfl,hb1⟩;have hx:=new_keep hb1;obtain⟨c0,c1,c2,c3⟩:=cells4 hx;obtain⟨d0,d1,d2,d3⟩:=cells4 (obj_keep hx ((Below.refl _ w1).alloc (Nat.le_refl _) zeroB)))
 have h2:=bat_zero w1
 have T1:TabI w1:=(TI.below (ha _) (Nat.le_refl _)).below hb1 (Nat.le_refl _)
 have hw1:=(ha (.cells #[.int .i64 11,.int .i64 n,.int .i64 a,.int .i64 b] 23)).trans (hb1.mono (by simp))
 refine (down_at h2 (by omega) base (by omega)).mono ?_;rintro e w3 ⟨rfl,h3⟩
 have hs3:=h3.since
 obtain⟨g3_0,g3_1,g3_2,g3_3⟩:=cells4 (obj_keep hx hs3.below)
 go_wp2_with fail
 refine (code_at (b:=linSemIn base t) h3 (by exact congrArg (BS.run BS.zero) rfl) T1 (okSemIn (by omega) (by omega))).mono ?_;rintro e w20 h20
 obtain⟨⟨v,rfl,hv⟩,hb20⟩:=h20
 go_wp2_with fail
 first | go_ret2 | go_ret
 exact⟨⟨v,rfl,own_base' hv hw1.size⟩,hw1.trans (hb20.mono hw1.size)⟩
set_option maxHeartbeats 4000000 in
theorem codeSemOut_any(w:World)(TI:TabI w)(TO:TabO w)(n b:Int)(m:Nat)(th ar:Int)(t base:Nat)(hA:AskP 11 n m b 2 th t)(hb:base≤100000)(ht:t≤100000)(hm:m≤1000):
  Calls Tryz.prog 10 #[.agg #[.int .i64 11,.int .i64 n,.int .i64 (m:Int),.int .i64 b],.int .i64 2,.int .i64 th,.int .i64 t,.int .u32 base,.int .u32 ar] w (CodeOk w (linSemOut m base t)):=by
 have dA:decide (AskP 11 n m b 2 th t)=true:=decide_eq_true hA
 have ha:∀ o,Below w.heap.size w (w.alloc o):=fun o=>(Below.refl _ w).alloc (Nat.le_refl _) o
 have TA:∀ o,TabO (w.alloc o):=fun o=>TO.below (ha o) (Nat.le_refl _)
 have e0:IntKind.u32.wrap (m:Int)=m:=by rw [IntKind.wrap_u32];omega
 go_enter Tryz.func10,Tryz.ntmps10
 go_wp2_with (go_at_call 34;refine (spinMay_any _ (TA _) _ _ _ _ _ _ _).mono ?_;rintro e w1 ⟨rfl,hb1⟩;have hx:=new_keep hb1;obtain⟨c0,c1,c2,c3⟩:=cells4 hx;obtain⟨d0,d1,d2,d3⟩:=cells4 (obj_keep hx ((Below.refl _ w1).alloc (Nat.le_refl _) zeroB)))
 have h2:=bat_zero w1
 have T1:TabI w1:=(TI.below (ha _) (Nat.le_refl _)).below hb1 (Nat.le_refl _)
 have hw1:=(ha (.cells #[.int .i64 11,.int .i64 n,.int .i64 (m:Int),.int .i64 b] 23)).trans (hb1.mono (by simp))
 refine (up_at h2 (by omega) base m (by omega)).mono ?_;rintro e w3 ⟨rfl,h3⟩
 have hs3:=h3.since
 obtain⟨g3_0,g3_1,g3_2,g3_3⟩:=cells4 (obj_keep hx hs3.below)
 go_wp2_with fail
 refine (code_at (b:=linSemOut m base t) h3 (by exact congrArg (BS.run BS.zero) rfl) T1 (okSemOut (by omega) (by omega) hm)).mono ?_;rintro e w20 h20
 obtain⟨⟨v,rfl,hv⟩,hb20⟩:=h20
 go_wp2_with fail
 first | go_ret2 | go_ret
 exact⟨⟨v,rfl,own_base' hv hw1.size⟩,hw1.trans (hb20.mono hw1.size)⟩
end Go.Proofs.YtcnmhgblbikfkaaGreatDoor.As
end

