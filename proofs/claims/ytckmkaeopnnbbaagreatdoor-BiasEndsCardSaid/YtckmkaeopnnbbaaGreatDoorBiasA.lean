/- The walks of the package bias: the parts of its calls. -/
import Derived.Test.YtckmkaeopnnbbaaGreatDoorGp
set_option linter.unusedVariables false
namespace Go.Proofs.YtckmkaeopnnbbaaGreatDoor.As
open Go.RowKit

def takeL(base:Nat):List Ln:=[.lab [115,112,105,110],.ins ⟨1,4,0,0,0⟩ [],.ins ⟨21,4,8,5,((base+2:Nat):Int)⟩ [],.ins ⟨15,4,0,0,0⟩ [115,112,105,110]]
theorem take_at{w0 w:World}{F0:Nat→Prop}{g N:Nat}{s:BS}(h:Bat w0 F0 g N s w)(hN:N < 400000)(base:Nat)(hb:base≤1000000):
  Calls Tryz.prog 139 #[.pointer (some ⟨g,0,none⟩),.int .u32 base] w (BatPost w0 F0 g (N+1+1+1+1) (s.run (takeL base))):=by
 have e0:IntKind.u32.wrap ((base:Int)+2)=((base+2:Nat):Int):=by rw [IntKind.wrap_u32];omega
 go_enter Tryz.func139,Tryz.ntmps139
 go_wp2_with fail
 refine (at_at h (by omega) _ (by decide)).mono ?_;rintro e w1 ⟨rfl,h1⟩
 go_wp2_with fail
 refine (set_at h1 (by omega) _ _).mono ?_;rintro e w2 ⟨rfl,h2⟩
 go_wp2_with fail
 refine (cas_at h2 (by omega) _ _ _).mono ?_;rintro e w3 ⟨rfl,h3⟩
 go_wp2_with fail
 refine (go_at h3 (by omega) _ _ _).mono ?_;rintro e w4 ⟨rfl,h4⟩
 go_wp2_with fail
 go_end0
 exact⟨rfl,h4⟩
def biasedL(base:Nat):List Ln:=[.ins ⟨1,4,0,0,1⟩ [],.ins ⟨17,4,8,0,((base+0:Nat):Int)⟩ [],.ins ⟨16,4,8,0,((base+1:Nat):Int)⟩ [],.ins ⟨14,4,0,0,0⟩ [103,111,116],.ins ⟨1,4,0,0,0⟩ [],.ins ⟨17,4,8,0,((base+0:Nat):Int)⟩ [],.lab [115,112,105,110],.ins ⟨1,4,0,0,0⟩ [],.ins ⟨21,4,8,5,((base+2:Nat):Int)⟩ [],.ins ⟨15,4,0,0,0⟩ [115,112,105,110],.lab [103,111,116],.ins ⟨17,5,8,0,((base+3:Nat):Int)⟩ []]
theorem biased_at{w0 w:World}{F0:Nat→Prop}{g N:Nat}{s:BS}(h:Bat w0 F0 g N s w)(hN:N < 300000)(base:Nat)(hb:base≤1000000):
  Calls Tryz.prog 93 #[.pointer (some ⟨g,0,none⟩),.int .u32 base] w (BatPost w0 F0 g (N+1+1+1+1+1+1+1+1+1+1+1+1) (s.run (biasedL base))):=by
 have e0:IntKind.u32.wrap ((base:Int)+0)=((base+0:Nat):Int):=by rw [IntKind.wrap_u32];omega
 have e1:IntKind.u32.wrap ((base:Int)+1)=((base+1:Nat):Int):=by rw [IntKind.wrap_u32];omega
 have e2:IntKind.u32.wrap ((base:Int)+3)=((base+3:Nat):Int):=by rw [IntKind.wrap_u32];omega
 go_enter Tryz.func93,Tryz.ntmps93
 go_wp2_with fail
 refine (set_at h (by omega) _ _).mono ?_;rintro e w1 ⟨rfl,h1⟩
 go_wp2_with fail
 refine (ask_at h1 (by omega) _ _ _).mono ?_;rintro e w2 ⟨rfl,h2⟩
 go_wp2_with fail
 refine (ask_at h2 (by omega) _ _ _).mono ?_;rintro e w3 ⟨rfl,h3⟩
 go_wp2_with fail
 refine (go_at h3 (by omega) _ _ _).mono ?_;rintro e w4 ⟨rfl,h4⟩
 go_wp2_with fail
 refine (zero_at h4 (by omega) _).mono ?_;rintro e w5 ⟨rfl,h5⟩
 go_wp2_with fail
 refine (take_at h5 (by omega) base hb).mono ?_;rintro e w6 ⟨rfl,h6⟩
 go_wp2_with fail
 refine (at_at h6 (by omega) _ (by decide)).mono ?_;rintro e w7 ⟨rfl,h7⟩
 go_wp2_with fail
 refine (ask_at h7 (by omega) _ _ _).mono ?_;rintro e w8 ⟨rfl,h8⟩
 go_wp2_with fail
 go_end0
 exact⟨rfl,h8⟩
def otherL(base:Nat):List Ln:=[.lab [115,112,105,110],.ins ⟨1,4,0,0,0⟩ [],.ins ⟨21,4,8,5,((base+2:Nat):Int)⟩ [],.ins ⟨15,4,0,0,0⟩ [115,112,105,110],.ins ⟨16,4,8,0,((base+1:Nat):Int)⟩ [],.ins ⟨15,4,0,0,0⟩ [103,111,116],.ins ⟨1,4,0,0,1⟩ [],.ins ⟨17,4,8,0,((base+1:Nat):Int)⟩ [],.ins ⟨25,0,0,0,0⟩ [],.lab [119,97,105,116],.ins ⟨16,4,8,0,((base+0:Nat):Int)⟩ [],.ins ⟨15,4,0,0,0⟩ [119,97,105,116],.lab [103,111,116],.ins ⟨17,5,8,0,((base+3:Nat):Int)⟩ []]
theorem other_at{w0 w:World}{F0:Nat→Prop}{g N:Nat}{s:BS}(h:Bat w0 F0 g N s w)(hN:N < 300000)(base:Nat)(hb:base≤1000000):
  Calls Tryz.prog 94 #[.pointer (some ⟨g,0,none⟩),.int .u32 base] w (BatPost w0 F0 g (N+1+1+1+1+1+1+1+1+1+1+1+1+1+1) (s.run (otherL base))):=by
 have e0:IntKind.u32.wrap ((base:Int)+0)=((base+0:Nat):Int):=by rw [IntKind.wrap_u32];omega
 have e1:IntKind.u32.wrap ((base:Int)+1)=((base+1:Nat):Int):=by rw [IntKind.wrap_u32];omega
 have e2:IntKind.u32.wrap ((base:Int)+3)=((base+3:Nat):Int):=by rw [IntKind.wrap_u32];omega
 go_enter Tryz.func94,Tryz.ntmps94
 go_wp2_with fail
 refine (take_at h (by omega) base hb).mono ?_;rintro e w1 ⟨rfl,h1⟩
 go_wp2_with fail
 refine (ask_at h1 (by omega) _ _ _).mono ?_;rintro e w2 ⟨rfl,h2⟩
 go_wp2_with fail
 refine (go_at h2 (by omega) _ _ _).mono ?_;rintro e w3 ⟨rfl,h3⟩
 go_wp2_with fail
 refine (set_at h3 (by omega) _ _).mono ?_;rintro e w4 ⟨rfl,h4⟩
 go_wp2_with fail
 refine (ask_at h4 (by omega) _ _ _).mono ?_;rintro e w5 ⟨rfl,h5⟩
 go_wp2_with fail
 refine (do_at h5 (by omega) _ _ _ _ _).mono ?_;rintro e w6 ⟨rfl,h6⟩
 go_wp2_with fail
 refine (at_at h6 (by omega) _ (by decide)).mono ?_;rintro e w7 ⟨rfl,h7⟩
 go_wp2_with fail
 refine (ask_at h7 (by omega) _ _ _).mono ?_;rintro e w8 ⟨rfl,h8⟩
 go_wp2_with fail
 refine (go_at h8 (by omega) _ _ _).mono ?_;rintro e w9 ⟨rfl,h9⟩
 go_wp2_with fail
 refine (at_at h9 (by omega) _ (by decide)).mono ?_;rintro e w10 ⟨rfl,h10⟩
 go_wp2_with fail
 refine (ask_at h10 (by omega) _ _ _).mono ?_;rintro e w11 ⟨rfl,h11⟩
 go_wp2_with fail
 go_end0
 exact⟨rfl,h11⟩
def leaveL(base:Nat):List Ln:=[.ins ⟨1,4,0,0,0⟩ [],.ins ⟨17,4,8,0,((base+3:Nat):Int)⟩ [],.ins ⟨16,4,8,0,((base+2:Nat):Int)⟩ [],.ins ⟨12,6,4,5,0⟩ [],.ins ⟨15,6,0,0,0⟩ [115,108,111,119],.ins ⟨1,4,0,0,0⟩ [],.ins ⟨17,4,8,0,((base+0:Nat):Int)⟩ [],.ins ⟨13,0,0,0,0⟩ [100,111,110,101],.lab [115,108,111,119],.ins ⟨1,4,0,0,0⟩ [],.ins ⟨17,4,8,0,((base+2:Nat):Int)⟩ [],.lab [100,111,110,101]]
theorem leave_at{w0 w:World}{F0:Nat→Prop}{g N:Nat}{s:BS}(h:Bat w0 F0 g N s w)(hN:N < 300000)(base:Nat)(hb:base≤1000000):
  Calls Tryz.prog 95 #[.pointer (some ⟨g,0,none⟩),.int .u32 base] w (BatPost w0 F0 g (N+1+1+1+1+1+1+1+1+1+1+1+1) (s.run (leaveL base))):=by
 have e0:IntKind.u32.wrap ((base:Int)+0)=((base+0:Nat):Int):=by rw [IntKind.wrap_u32];omega
 have e1:IntKind.u32.wrap ((base:Int)+2)=((base+2:Nat):Int):=by rw [IntKind.wrap_u32];omega
 have e2:IntKind.u32.wrap ((base:Int)+3)=((base+3:Nat):Int):=by rw [IntKind.wrap_u32];omega
 go_enter Tryz.func95,Tryz.ntmps95
 go_wp2_with fail
 refine (zero_at h (by omega) _).mono ?_;rintro e w1 ⟨rfl,h1⟩
 go_wp2_with fail
 refine (ask_at h1 (by omega) _ _ _).mono ?_;rintro e w2 ⟨rfl,h2⟩
 go_wp2_with fail
 refine (alu_at h2 (by omega) _ _ _ _).mono ?_;rintro e w3 ⟨rfl,h3⟩
 go_wp2_with fail
 refine (go_at h3 (by omega) _ _ _).mono ?_;rintro e w4 ⟨rfl,h4⟩
 go_wp2_with fail
 refine (zero_at h4 (by omega) _).mono ?_;rintro e w5 ⟨rfl,h5⟩
 go_wp2_with fail
 refine (go_at h5 (by omega) _ _ _).mono ?_;rintro e w6 ⟨rfl,h6⟩
 go_wp2_with fail
 refine (at_at h6 (by omega) _ (by decide)).mono ?_;rintro e w7 ⟨rfl,h7⟩
 go_wp2_with fail
 refine (zero_at h7 (by omega) _).mono ?_;rintro e w8 ⟨rfl,h8⟩
 go_wp2_with fail
 refine (at_at h8 (by omega) _ (by decide)).mono ?_;rintro e w9 ⟨rfl,h9⟩
 go_wp2_with fail
 go_end0
 exact⟨rfl,h9⟩
end Go.Proofs.YtckmkaeopnnbbaaGreatDoor.As
