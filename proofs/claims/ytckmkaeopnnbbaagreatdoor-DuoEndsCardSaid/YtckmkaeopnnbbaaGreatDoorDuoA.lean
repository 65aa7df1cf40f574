/- The walks of the package duo: the parts of its calls. -/
import Derived.Test.YtckmkaeopnnbbaaGreatDoorGp
set_option linter.unusedVariables false
namespace Go.Proofs.YtckmkaeopnnbbaaGreatDoor.As
open Go.RowKit

def petInL(own th tu ow ot:Nat):List Ln:=[.ins ⟨1,4,0,0,1⟩ [],.ins ⟨17,4,8,0,((own:Nat):Int)⟩ [],.ins ⟨1,4,0,0,((ot:Nat):Int)⟩ [],.ins ⟨17,4,8,0,((tu:Nat):Int)⟩ [],.ins ⟨18,0,0,0,0⟩ [],.lab [115,112,105,110],.ins ⟨16,4,8,0,((th:Nat):Int)⟩ [],.ins ⟨14,4,0,0,0⟩ [103,111,116],.ins ⟨16,4,8,0,((tu:Nat):Int)⟩ [],.ins ⟨1,6,0,0,((ot:Nat):Int)⟩ [],.ins ⟨12,6,4,6,0⟩ [],.ins ⟨15,6,0,0,0⟩ [115,112,105,110],.lab [103,111,116],.ins ⟨17,5,8,0,((ow:Nat):Int)⟩ []]
theorem petIn_at{w0 w:World}{F0:Nat→Prop}{g N:Nat}{s:BS}(h:Bat w0 F0 g N s w)(hN:N < 300000)(own th tu ow ot:Nat):
  Calls Tryz.prog 113 #[.agg #[.int .u32 own,.int .u32 th,.int .u32 tu,.int .u32 ow,.int .u32 ot],.pointer (some ⟨g,0,none⟩)] w (BatPost w0 F0 g (N+1+1+1+1+1+1+1+1+1+1+1+1+1+1) (s.run (petInL own th tu ow ot))):=by
 go_enter Tryz.func113,Tryz.ntmps113
 go_wp2_with fail
 obtain⟨F,hb,hF,hback⟩:=h.alloc (.cells #[.int .u32 own,.int .u32 th,.int .u32 tu,.int .u32 ow,.int .u32 ot] 132)
 have hW:=heap_alloc_new w (.cells #[.int .u32 own,.int .u32 th,.int .u32 tu,.int .u32 ow,.int .u32 ot] 132)
 refine (set_at hb (by omega) _ _).mono ?_;rintro e w1 ⟨rfl,h1⟩
 obtain⟨c0_0,c0_1,c0_2,c0_3,c0_4⟩:=cells5 (h1.kept hF (by simp) hW)
 go_wp2_with fail
 refine (ask_at h1 (by omega) _ _ _).mono ?_;rintro e w2 ⟨rfl,h2⟩
 obtain⟨c1_0,c1_1,c1_2,c1_3,c1_4⟩:=cells5 (h2.kept hF (by simp) hW)
 go_wp2_with fail
 refine (set_at h2 (by omega) _ _).mono ?_;rintro e w3 ⟨rfl,h3⟩
 obtain⟨c2_0,c2_1,c2_2,c2_3,c2_4⟩:=cells5 (h3.kept hF (by simp) hW)
 go_wp2_with fail
 refine (ask_at h3 (by omega) _ _ _).mono ?_;rintro e w4 ⟨rfl,h4⟩
 obtain⟨c3_0,c3_1,c3_2,c3_3,c3_4⟩:=cells5 (h4.kept hF (by simp) hW)
 go_wp2_with fail
 refine (do_at h4 (by omega) _ _ _ _ _).mono ?_;rintro e w5 ⟨rfl,h5⟩
 obtain⟨c4_0,c4_1,c4_2,c4_3,c4_4⟩:=cells5 (h5.kept hF (by simp) hW)
 go_wp2_with fail
 refine (at_at h5 (by omega) _ (by decide)).mono ?_;rintro e w6 ⟨rfl,h6⟩
 obtain⟨c5_0,c5_1,c5_2,c5_3,c5_4⟩:=cells5 (h6.kept hF (by simp) hW)
 go_wp2_with fail
 refine (ask_at h6 (by omega) _ _ _).mono ?_;rintro e w7 ⟨rfl,h7⟩
 obtain⟨c6_0,c6_1,c6_2,c6_3,c6_4⟩:=cells5 (h7.kept hF (by simp) hW)
 go_wp2_with fail
 refine (go_at h7 (by omega) _ _ _).mono ?_;rintro e w8 ⟨rfl,h8⟩
 obtain⟨c7_0,c7_1,c7_2,c7_3,c7_4⟩:=cells5 (h8.kept hF (by simp) hW)
 go_wp2_with fail
 refine (ask_at h8 (by omega) _ _ _).mono ?_;rintro e w9 ⟨rfl,h9⟩
 obtain⟨c8_0,c8_1,c8_2,c8_3,c8_4⟩:=cells5 (h9.kept hF (by simp) hW)
 go_wp2_with fail
 refine (set_at h9 (by omega) _ _).mono ?_;rintro e w10 ⟨rfl,h10⟩
 obtain⟨c9_0,c9_1,c9_2,c9_3,c9_4⟩:=cells5 (h10.kept hF (by simp) hW)
 go_wp2_with fail
 refine (alu_at h10 (by omega) _ _ _ _).mono ?_;rintro e w11 ⟨rfl,h11⟩
 obtain⟨c10_0,c10_1,c10_2,c10_3,c10_4⟩:=cells5 (h11.kept hF (by simp) hW)
 go_wp2_with fail
 refine (go_at h11 (by omega) _ _ _).mono ?_;rintro e w12 ⟨rfl,h12⟩
 obtain⟨c11_0,c11_1,c11_2,c11_3,c11_4⟩:=cells5 (h12.kept hF (by simp) hW)
 go_wp2_with fail
 refine (at_at h12 (by omega) _ (by decide)).mono ?_;rintro e w13 ⟨rfl,h13⟩
 obtain⟨c12_0,c12_1,c12_2,c12_3,c12_4⟩:=cells5 (h13.kept hF (by simp) hW)
 go_wp2_with fail
 refine (ask_at h13 (by omega) _ _ _).mono ?_;rintro e w14 ⟨rfl,h14⟩
 obtain⟨c13_0,c13_1,c13_2,c13_3,c13_4⟩:=cells5 (h14.kept hF (by simp) hW)
 go_wp2_with fail
 go_end0
 exact⟨rfl,hback _ _ _ h14⟩
def fastInL(own th tu ow ot:Nat):List Ln:=[.lab [97,103,97,105,110],.ins ⟨1,4,0,0,1⟩ [],.ins ⟨17,4,8,0,((own:Nat):Int)⟩ [],.ins ⟨16,4,8,0,((th:Nat):Int)⟩ [],.ins ⟨14,4,0,0,0⟩ [103,111,116],.ins ⟨1,4,0,0,0⟩ [],.ins ⟨17,4,8,0,((own:Nat):Int)⟩ [],.lab [119,97,105,116],.ins ⟨16,4,8,0,((th:Nat):Int)⟩ [],.ins ⟨15,4,0,0,0⟩ [119,97,105,116],.ins ⟨13,0,0,0,0⟩ [97,103,97,105,110],.lab [103,111,116],.ins ⟨17,5,8,0,((ow:Nat):Int)⟩ []]
theorem fastIn_at{w0 w:World}{F0:Nat→Prop}{g N:Nat}{s:BS}(h:Bat w0 F0 g N s w)(hN:N < 300000)(own th tu ow ot:Nat):
  Calls Tryz.prog 114 #[.agg #[.int .u32 own,.int .u32 th,.int .u32 tu,.int .u32 ow,.int .u32 ot],.pointer (some ⟨g,0,none⟩)] w (BatPost w0 F0 g (N+1+1+1+1+1+1+1+1+1+1+1+1+1) (s.run (fastInL own th tu ow ot))):=by
 go_enter Tryz.func114,Tryz.ntmps114
 go_wp2_with fail
 obtain⟨F,hb,hF,hback⟩:=h.alloc (.cells #[.int .u32 own,.int .u32 th,.int .u32 tu,.int .u32 ow,.int .u32 ot] 132)
 have hW:=heap_alloc_new w (.cells #[.int .u32 own,.int .u32 th,.int .u32 tu,.int .u32 ow,.int .u32 ot] 132)
 refine (at_at hb (by omega) _ (by decide)).mono ?_;rintro e w1 ⟨rfl,h1⟩
 obtain⟨c0_0,c0_1,c0_2,c0_3,c0_4⟩:=cells5 (h1.kept hF (by simp) hW)
 go_wp2_with fail
 refine (set_at h1 (by omega) _ _).mono ?_;rintro e w2 ⟨rfl,h2⟩
 obtain⟨c1_0,c1_1,c1_2,c1_3,c1_4⟩:=cells5 (h2.kept hF (by simp) hW)
 go_wp2_with fail
 refine (ask_at h2 (by omega) _ _ _).mono ?_;rintro e w3 ⟨rfl,h3⟩
 obtain⟨c2_0,c2_1,c2_2,c2_3,c2_4⟩:=cells5 (h3.kept hF (by simp) hW)
 go_wp2_with fail
 refine (ask_at h3 (by omega) _ _ _).mono ?_;rintro e w4 ⟨rfl,h4⟩
 obtain⟨c3_0,c3_1,c3_2,c3_3,c3_4⟩:=cells5 (h4.kept hF (by simp) hW)
 go_wp2_with fail
 refine (go_at h4 (by omega) _ _ _).mono ?_;rintro e w5 ⟨rfl,h5⟩
 obtain⟨c4_0,c4_1,c4_2,c4_3,c4_4⟩:=cells5 (h5.kept hF (by simp) hW)
 go_wp2_with fail
 refine (zero_at h5 (by omega) _).mono ?_;rintro e w6 ⟨rfl,h6⟩
 obtain⟨c5_0,c5_1,c5_2,c5_3,c5_4⟩:=cells5 (h6.kept hF (by simp) hW)
 go_wp2_with fail
 refine (at_at h6 (by omega) _ (by decide)).mono ?_;rintro e w7 ⟨rfl,h7⟩
 obtain⟨c6_0,c6_1,c6_2,c6_3,c6_4⟩:=cells5 (h7.kept hF (by simp) hW)
 go_wp2_with fail
 refine (ask_at h7 (by omega) _ _ _).mono ?_;rintro e w8 ⟨rfl,h8⟩
 obtain⟨c7_0,c7_1,c7_2,c7_3,c7_4⟩:=cells5 (h8.kept hF (by simp) hW)
 go_wp2_with fail
 refine (go_at h8 (by omega) _ _ _).mono ?_;rintro e w9 ⟨rfl,h9⟩
 obtain⟨c8_0,c8_1,c8_2,c8_3,c8_4⟩:=cells5 (h9.kept hF (by simp) hW)
 go_wp2_with fail
 refine (go_at h9 (by omega) _ _ _).mono ?_;rintro e w10 ⟨rfl,h10⟩
 obtain⟨c9_0,c9_1,c9_2,c9_3,c9_4⟩:=cells5 (h10.kept hF (by simp) hW)
 go_wp2_with fail
 refine (at_at h10 (by omega) _ (by decide)).mono ?_;rintro e w11 ⟨rfl,h11⟩
 obtain⟨c10_0,c10_1,c10_2,c10_3,c10_4⟩:=cells5 (h11.kept hF (by simp) hW)
 go_wp2_with fail
 refine (ask_at h11 (by omega) _ _ _).mono ?_;rintro e w12 ⟨rfl,h12⟩
 obtain⟨c11_0,c11_1,c11_2,c11_3,c11_4⟩:=cells5 (h12.kept hF (by simp) hW)
 go_wp2_with fail
 go_end0
 exact⟨rfl,hback _ _ _ h12⟩
def slowInL(own th tu ow ot:Nat):List Ln:=[.ins ⟨1,4,0,0,1⟩ [],.ins ⟨17,4,8,0,((own:Nat):Int)⟩ [],.ins ⟨25,0,0,0,0⟩ [],.lab [119,97,105,116],.ins ⟨16,4,8,0,((th:Nat):Int)⟩ [],.ins ⟨15,4,0,0,0⟩ [119,97,105,116],.ins ⟨17,5,8,0,((ow:Nat):Int)⟩ []]
theorem slowIn_at{w0 w:World}{F0:Nat→Prop}{g N:Nat}{s:BS}(h:Bat w0 F0 g N s w)(hN:N < 300000)(own th tu ow ot:Nat):
  Calls Tryz.prog 115 #[.agg #[.int .u32 own,.int .u32 th,.int .u32 tu,.int .u32 ow,.int .u32 ot],.pointer (some ⟨g,0,none⟩)] w (BatPost w0 F0 g (N+1+1+1+1+1+1+1) (s.run (slowInL own th tu ow ot))):=by
 go_enter Tryz.func115,Tryz.ntmps115
 go_wp2_with fail
 obtain⟨F,hb,hF,hback⟩:=h.alloc (.cells #[.int .u32 own,.int .u32 th,.int .u32 tu,.int .u32 ow,.int .u32 ot] 132)
 have hW:=heap_alloc_new w (.cells #[.int .u32 own,.int .u32 th,.int .u32 tu,.int .u32 ow,.int .u32 ot] 132)
 refine (set_at hb (by omega) _ _).mono ?_;rintro e w1 ⟨rfl,h1⟩
 obtain⟨c0_0,c0_1,c0_2,c0_3,c0_4⟩:=cells5 (h1.kept hF (by simp) hW)
 go_wp2_with fail
 refine (ask_at h1 (by omega) _ _ _).mono ?_;rintro e w2 ⟨rfl,h2⟩
 obtain⟨c1_0,c1_1,c1_2,c1_3,c1_4⟩:=cells5 (h2.kept hF (by simp) hW)
 go_wp2_with fail
 refine (do_at h2 (by omega) _ _ _ _ _).mono ?_;rintro e w3 ⟨rfl,h3⟩
 obtain⟨c2_0,c2_1,c2_2,c2_3,c2_4⟩:=cells5 (h3.kept hF (by simp) hW)
 go_wp2_with fail
 refine (at_at h3 (by omega) _ (by decide)).mono ?_;rintro e w4 ⟨rfl,h4⟩
 obtain⟨c3_0,c3_1,c3_2,c3_3,c3_4⟩:=cells5 (h4.kept hF (by simp) hW)
 go_wp2_with fail
 refine (ask_at h4 (by omega) _ _ _).mono ?_;rintro e w5 ⟨rfl,h5⟩
 obtain⟨c4_0,c4_1,c4_2,c4_3,c4_4⟩:=cells5 (h5.kept hF (by simp) hW)
 go_wp2_with fail
 refine (go_at h5 (by omega) _ _ _).mono ?_;rintro e w6 ⟨rfl,h6⟩
 obtain⟨c5_0,c5_1,c5_2,c5_3,c5_4⟩:=cells5 (h6.kept hF (by simp) hW)
 go_wp2_with fail
 refine (ask_at h6 (by omega) _ _ _).mono ?_;rintro e w7 ⟨rfl,h7⟩
 obtain⟨c6_0,c6_1,c6_2,c6_3,c6_4⟩:=cells5 (h7.kept hF (by simp) hW)
 go_wp2_with fail
 go_end0
 exact⟨rfl,hback _ _ _ h7⟩
def sideOutL(own th tu ow ot:Nat):List Ln:=[.ins ⟨1,4,0,0,0⟩ [],.ins ⟨17,4,8,0,((ow:Nat):Int)⟩ [],.ins ⟨1,4,0,0,0⟩ [],.ins ⟨17,4,8,0,((own:Nat):Int)⟩ []]
theorem sideOut_at{w0 w:World}{F0:Nat→Prop}{g N:Nat}{s:BS}(h:Bat w0 F0 g N s w)(hN:N < 300000)(own th tu ow ot:Nat):
  Calls Tryz.prog 78 #[.agg #[.int .u32 own,.int .u32 th,.int .u32 tu,.int .u32 ow,.int .u32 ot],.pointer (some ⟨g,0,none⟩)] w (BatPost w0 F0 g (N+1+1+1+1) (s.run (sideOutL own th tu ow ot))):=by
 go_enter Tryz.func78,Tryz.ntmps78
 go_wp2_with fail
 obtain⟨F,hb,hF,hback⟩:=h.alloc (.cells #[.int .u32 own,.int .u32 th,.int .u32 tu,.int .u32 ow,.int .u32 ot] 132)
 have hW:=heap_alloc_new w (.cells #[.int .u32 own,.int .u32 th,.int .u32 tu,.int .u32 ow,.int .u32 ot] 132)
 refine (zero_at hb (by omega) _).mono ?_;rintro e w1 ⟨rfl,h1⟩
 obtain⟨c0_0,c0_1,c0_2,c0_3,c0_4⟩:=cells5 (h1.kept hF (by simp) hW)
 go_wp2_with fail
 refine (zero_at h1 (by omega) _).mono ?_;rintro e w2 ⟨rfl,h2⟩
 obtain⟨c1_0,c1_1,c1_2,c1_3,c1_4⟩:=cells5 (h2.kept hF (by simp) hW)
 go_wp2_with fail
 go_end0
 exact⟨rfl,hback _ _ _ h2⟩
end Go.Proofs.YtckmkaeopnnbbaaGreatDoor.As
