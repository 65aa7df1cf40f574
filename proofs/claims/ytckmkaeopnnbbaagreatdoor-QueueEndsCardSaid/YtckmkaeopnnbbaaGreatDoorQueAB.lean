/- The walks of the package queue: where an object's words are. The walks of the package queue: the parts of its calls. -/
import Derived.Test.YtckmkaeopnnbbaaGreatDoorGp
import Derived.Deep.RegionHeld
set_option linter.unusedVariables false
set_option linter.unusedSimpArgs false
namespace Go.Proofs.YtckmkaeopnnbbaaGreatDoor.As
open Go.RowKit

abbrev wordsV(base th t:Nat):Value:=.agg #[.int .u32 base,.int .i64 th,.int .i64 t]
def PurePost(w:World)(v:Value)(e:Ending)(w':World):Prop:=e=.returned v∧Below w.heap.size w w'
theorem wtail_any(w:World)(base th t:Nat)(hb:base≤100000)(hth:th≤100)(ht:t≤100):Calls Tryz.prog 101 #[wordsV base th t] w (PurePost w (.int .u32 ((base:Nat):Int))):=by
 have ha:∀ o,Below w.heap.size w (w.alloc o):=fun o=>(Below.refl _ w).alloc (Nat.le_refl _) o
 go_enter Tryz.func101,Tryz.ntmps101
 go_wp2_with fail
 go_ret
 exact⟨rfl,ha _⟩

theorem wowner_any(w:World)(base th t:Nat)(hb:base≤100000)(hth:th≤100)(ht:t≤100):Calls Tryz.prog 105 #[wordsV base th t] w (PurePost w (.int .u32 ((base+1:Nat):Int))):=by
 have e0:IntKind.u32.wrap ((base:Int)+1)=((base+1:Nat):Int):=by rw [IntKind.wrap_u32];omega
 have ha:∀ o,Below w.heap.size w (w.alloc o):=fun o=>(Below.refl _ w).alloc (Nat.le_refl _) o
 go_enter Tryz.func105,Tryz.ntmps105
 go_wp2_with fail
 go_ret
 exact⟨rfl,ha _⟩

theorem wnext_any(w:World)(base th t:Nat)(hb:base≤100000)(hth:th≤100)(ht:t≤100):Calls Tryz.prog 98 #[wordsV base th t] w (PurePost w (.int .u32 ((base+2:Nat):Int))):=by
 have e0:IntKind.u32.wrap ((base:Int)+2)=((base+2:Nat):Int):=by rw [IntKind.wrap_u32];omega
 have ha:∀ o,Below w.heap.size w (w.alloc o):=fun o=>(Below.refl _ w).alloc (Nat.le_refl _) o
 go_enter Tryz.func98,Tryz.ntmps98
 go_wp2_with fail
 go_ret
 exact⟨rfl,ha _⟩

theorem wflag_any(w:World)(base th t:Nat)(hb:base≤100000)(hth:th≤100)(ht:t≤100):Calls Tryz.prog 110 #[wordsV base th t] w (PurePost w (.int .u32 ((base+2:Nat):Int))):=by
 have e0:IntKind.u32.wrap ((base:Int)+2)=((base+2:Nat):Int):=by rw [IntKind.wrap_u32];omega
 have ha:∀ o,Below w.heap.size w (w.alloc o):=fun o=>(Below.refl _ w).alloc (Nat.le_refl _) o
 go_enter Tryz.func110,Tryz.ntmps110
 go_wp2_with fail
 go_ret
 exact⟨rfl,ha _⟩

theorem wwait_any(w:World)(base th t:Nat)(hb:base≤100000)(hth:th≤100)(ht:t≤100):Calls Tryz.prog 100 #[wordsV base th t] w (PurePost w (.int .u32 ((base+2+th:Nat):Int))):=by
 have e0:IntKind.u32.wrap (th:Int)=th:=by rw [IntKind.wrap_u32];omega
 have e1:IntKind.u32.wrap ((base:Int)+2+(th:Int))=((base+2+th:Nat):Int):=by rw [IntKind.wrap_u32];omega
 have ha:∀ o,Below w.heap.size w (w.alloc o):=fun o=>(Below.refl _ w).alloc (Nat.le_refl _) o
 go_enter Tryz.func100,Tryz.ntmps100
 go_wp2_with fail
 go_region_held (fun w'=>w'.cell? ⟨w.heap.size,0,none⟩=some (.int .u32 base)∧w'.cell? ⟨w.heap.size,1,none⟩=some (.int .i64 th)∧w'.cell? ⟨w.heap.size,2,none⟩=some (.int .i64 t))
  (first | exact cells3 (obj_keep (w1:=(w.alloc (.cells #[.int .u32 base,.int .i64 th,.int .i64 t] 120)).drew) (heap_alloc_new _ _) hb1) | exact cells3 (show (w.alloc (.cells #[.int .u32 base,.int .i64 th,.int .i64 t] 120)).drew.heap[w.heap.size]? = _ from heap_alloc_new _ _))
  (first | (go_at_call 98;refine (wnext_any _ base th t hb hth ht).mono ?_;rintro e w1 ⟨rfl,hb1⟩))
 go_wp2_with fail
 go_ret
 exact⟨rfl,(bl_drew (ha (.cells #[.int .u32 base,.int .i64 th,.int .i64 t] 120))).trans (hb1.mono (ha (.cells #[.int .u32 base,.int .i64 th,.int .i64 t] 120)).size)⟩

theorem wmine_any(w:World)(base th t:Nat)(hb:base≤100000)(hth:th≤100)(ht:t≤100):Calls Tryz.prog 109 #[wordsV base th t] w (PurePost w (.int .u32 ((base+3+th+t:Nat):Int))):=by
 have e0:IntKind.u32.wrap (th:Int)=th:=by rw [IntKind.wrap_u32];omega
 have e1:IntKind.u32.wrap (t:Int)=t:=by rw [IntKind.wrap_u32];omega
 have e2:IntKind.u32.wrap ((base:Int)+2+(th:Int))=(base:Int)+2+(th:Int):=by rw [IntKind.wrap_u32];omega
 have e3:IntKind.u32.wrap ((base:Int)+2+(th:Int)+1)=(base:Int)+2+(th:Int)+1:=by rw [IntKind.wrap_u32];omega
 have e4:IntKind.u32.wrap ((base:Int)+2+(th:Int)+1+(t:Int))=((base+3+th+t:Nat):Int):=by rw [IntKind.wrap_u32];omega
 have ha:∀ o,Below w.heap.size w (w.alloc o):=fun o=>(Below.refl _ w).alloc (Nat.le_refl _) o
 go_enter Tryz.func109,Tryz.ntmps109
 go_wp2_with fail
 go_region_held (fun w'=>w'.cell? ⟨w.heap.size,0,none⟩=some (.int .u32 base)∧w'.cell? ⟨w.heap.size,1,none⟩=some (.int .i64 th)∧w'.cell? ⟨w.heap.size,2,none⟩=some (.int .i64 t))
  (first | exact cells3 (obj_keep (w1:=(w.alloc (.cells #[.int .u32 base,.int .i64 th,.int .i64 t] 120)).drew) (heap_alloc_new _ _) hb1) | exact cells3 (show (w.alloc (.cells #[.int .u32 base,.int .i64 th,.int .i64 t] 120)).drew.heap[w.heap.size]? = _ from heap_alloc_new _ _))
  (first | (go_at_call 110;refine (wflag_any _ base th t hb hth ht).mono ?_;rintro e w1 ⟨rfl,hb1⟩))
 go_wp2_with fail
 go_ret
 exact⟨rfl,(bl_drew (ha (.cells #[.int .u32 base,.int .i64 th,.int .i64 t] 120))).trans (hb1.mono (ha (.cells #[.int .u32 base,.int .i64 th,.int .i64 t] 120)).size)⟩

theorem wpred_any(w:World)(base th t:Nat)(hb:base≤100000)(hth:th≤100)(ht:t≤100):Calls Tryz.prog 111 #[wordsV base th t] w (PurePost w (.int .u32 ((base+3+2*th+t:Nat):Int))):=by
 have e0:IntKind.u32.wrap (th:Int)=th:=by rw [IntKind.wrap_u32];omega
 have e1:IntKind.u32.wrap ((base:Int)+3+(th:Int)+(t:Int)+(th:Int))=((base+3+2*th+t:Nat):Int):=by rw [IntKind.wrap_u32];omega
 have ha:∀ o,Below w.heap.size w (w.alloc o):=fun o=>(Below.refl _ w).alloc (Nat.le_refl _) o
 go_enter Tryz.func111,Tryz.ntmps111
 go_wp2_with fail
 go_region_held (fun w'=>w'.cell? ⟨w.heap.size,0,none⟩=some (.int .u32 base)∧w'.cell? ⟨w.heap.size,1,none⟩=some (.int .i64 th)∧w'.cell? ⟨w.heap.size,2,none⟩=some (.int .i64 t))
  (first | exact cells3 (obj_keep (w1:=(w.alloc (.cells #[.int .u32 base,.int .i64 th,.int .i64 t] 120)).drew) (heap_alloc_new _ _) hb1) | exact cells3 (show (w.alloc (.cells #[.int .u32 base,.int .i64 th,.int .i64 t] 120)).drew.heap[w.heap.size]? = _ from heap_alloc_new _ _))
  (first | (go_at_call 109;refine (wmine_any _ base th t hb hth ht).mono ?_;rintro e w1 ⟨rfl,hb1⟩))
 go_wp2_with fail
 go_ret
 exact⟨rfl,(bl_drew (ha (.cells #[.int .u32 base,.int .i64 th,.int .i64 t] 120))).trans (hb1.mono (ha (.cells #[.int .u32 base,.int .i64 th,.int .i64 t] 120)).size)⟩

theorem wat_any(w:World)(base th t:Nat)(hb:base≤100000)(hth:th≤100)(ht:t≤100)(f:Nat)(hf:f≤1000000):Calls Tryz.prog 97 #[wordsV base th t,.int .u32 f] w (PurePost w (.int .u32 ((f+t:Nat):Int))):=by
 have e0:IntKind.u32.wrap (t:Int)=t:=by rw [IntKind.wrap_u32];omega
 have e1:IntKind.u32.wrap ((f:Int)+(t:Int))=((f+t:Nat):Int):=by rw [IntKind.wrap_u32];omega
 have ha:∀ o,Below w.heap.size w (w.alloc o):=fun o=>(Below.refl _ w).alloc (Nat.le_refl _) o
 go_enter Tryz.func97,Tryz.ntmps97
 go_wp2_with fail
 go_ret
 exact⟨rfl,ha _⟩

theorem far_at{w0 w:World}{F0:Nat→Prop}{g N:Nat}{s:BS}(h:Bat w0 F0 g N s w)(hN:N < 400000)(op a b k:Int):
  Calls Tryz.prog 103 #[.pointer (some ⟨g,0,none⟩),.int .i64 op,.int .i64 a,.int .i64 b,.int .u32 k] w (BatPost w0 F0 g (N+1) (s.do_ ⟨op,a,b,0,k⟩)):=by
 go_enter Tryz.func103,Tryz.ntmps103
 go_wp2_with fail
 refine (do_at h (by omega) _ _ _ _ _).mono ?_;rintro e w1 ⟨rfl,h1⟩
 go_wp2_with fail
 go_end0
 exact⟨rfl,h1⟩
end Go.Proofs.YtckmkaeopnnbbaaGreatDoor.As

namespace Go.Proofs.YtckmkaeopnnbbaaGreatDoor.As
open Go.RowKit

def mcsInL(base th t:Nat):List Ln:=[.ins ⟨1,4,0,0,0⟩ [],.ins ⟨17,4,8,0,((base+2+t:Nat):Int)⟩ [],.ins ⟨1,4,0,0,1⟩ [],.ins ⟨17,4,8,0,((base+2+th+t:Nat):Int)⟩ [],.ins ⟨1,4,0,0,((t+1:Nat):Int)⟩ [],.ins ⟨19,4,8,0,((base:Nat):Int)⟩ [],.ins ⟨14,4,0,0,0⟩ [103,111,116],.ins ⟨17,5,4,0,((base+1:Nat):Int)⟩ [],.lab [115,112,105,110],.ins ⟨16,6,8,0,((base+2+th+t:Nat):Int)⟩ [],.ins ⟨15,6,0,0,0⟩ [115,112,105,110],.lab [103,111,116],.ins ⟨17,5,8,0,((base+1:Nat):Int)⟩ []]
set_option maxHeartbeats 4000000 in
theorem mcsIn_at{w0 w:World}{F0:Nat→Prop}{g N:Nat}{s:BS}(h:Bat w0 F0 g N s w)(hN:N < 300000)(base th t:Nat)(hb:base≤100000)(hth:th≤100)(ht:t≤100):
  Calls Tryz.prog 61 #[wordsV base th t,.pointer (some ⟨g,0,none⟩)] w (BatPost w0 F0 g (N+1+1+1+1+1+1+1+1+1+1+1+1+1) (s.run (mcsInL base th t))):=by
 have e0:IntKind.u32.wrap (t:Int)=t:=by rw [IntKind.wrap_u32];omega
 have e1:IntKind.u32.wrap ((t:Int)+1)=((t+1:Nat):Int):=by rw [IntKind.wrap_u32];omega
 have e2:IntKind.u32.wrap ((base:Int)+2 - 1)=((base+1:Nat):Int):=by rw [IntKind.wrap_u32];omega
 have e3:IntKind.u32.wrap ((base:Int)+2+(th:Int) - 1)=((base+1+th:Nat):Int):=by rw [IntKind.wrap_u32];omega
 go_enter Tryz.func61,Tryz.ntmps61
 obtain⟨F,hB,hF,hback⟩:=h.alloc (.cells #[.int .u32 base,.int .i64 th,.int .i64 t] 120)
 have hW:=heap_alloc_new w (.cells #[.int .u32 base,.int .i64 th,.int .i64 t] 120)
 go_wp2_with fail
 go_region_held (fun w'=>w'.cell? ⟨w.heap.size,0,none⟩=some (.int .u32 base)∧w'.cell? ⟨w.heap.size,1,none⟩=some (.int .i64 th)∧w'.cell? ⟨w.heap.size,2,none⟩=some (.int .i64 t))
  (first | exact cells3 (h3.kept hF (by simp) hW) | exact cells3 (obj_keep (obj_keep (w1:=(w.alloc (.cells #[.int .u32 base,.int .i64 th,.int .i64 t] 120)).drew) hW hb1) hb2) | exact cells3 (obj_keep (w1:=(w.alloc (.cells #[.int .u32 base,.int .i64 th,.int .i64 t] 120)).drew) hW hb1) | exact cells3 (show (w.alloc (.cells #[.int .u32 base,.int .i64 th,.int .i64 t] 120)).drew.heap[w.heap.size]? = _ from hW))
  (first
   | (go_at_call 98;refine (wnext_any _ base th t hb hth ht).mono ?_;rintro e w1 ⟨rfl,hb1⟩)
   | (go_at_call 97;refine (wat_any _ base th t hb hth ht (base+2) (by omega)).mono ?_;rintro e w2 ⟨rfl,hb2⟩;have h2:=(hB.below ((bl_drew (Below.refl _ (w.alloc (.cells #[.int .u32 base,.int .i64 th,.int .i64 t] 120)))).trans hb1)).below hb2)
   | (go_at_call 74;refine (zero_at h2 (by omega) (base+2+t)).mono ?_;rintro e w3 ⟨rfl,h3⟩))
 have hK3:=h3.kept hF (by simp) hW
 obtain⟨c3_0,c3_1,c3_2⟩:=cells3 hK3
 go_wp2_with fail
 refine (set_at h3 (by omega) _ _).mono ?_;rintro e w4 ⟨rfl,h4⟩
 have hK4:=h4.kept hF (by simp) hW
 obtain⟨c4_0,c4_1,c4_2⟩:=cells3 hK4
 go_wp2_with fail
 go_region_held (fun w'=>w'.cell? ⟨w.heap.size,0,none⟩=some (.int .u32 base)∧w'.cell? ⟨w.heap.size,1,none⟩=some (.int .i64 th)∧w'.cell? ⟨w.heap.size,2,none⟩=some (.int .i64 t))
  (first | exact cells3 (h7.kept hF (by simp) hW) | exact cells3 (obj_keep (obj_keep (w1:=w4.drew) hK4 hb5) hb6) | exact cells3 (obj_keep (w1:=w4.drew) hK4 hb5) | exact cells3 (show w4.drew.heap[w.heap.size]? = _ from hK4))
  (first
   | (go_at_call 100;refine (wwait_any _ base th t hb hth ht).mono ?_;rintro e w5 ⟨rfl,hb5⟩)
   | (go_at_call 97;refine (wat_any _ base th t hb hth ht (base+2+th) (by omega)).mono ?_;rintro e w6 ⟨rfl,hb6⟩;have h6:=(h4.below ((bl_drew (Below.refl _ w4)).trans hb5)).below hb6)
   | (go_at_call 99;refine (ask_at h6 (by omega) _ _ _).mono ?_;rintro e w7 ⟨rfl,h7⟩))
 have hK7:=h7.kept hF (by simp) hW
 obtain⟨c7_0,c7_1,c7_2⟩:=cells3 hK7
 go_wp2_with fail
 refine (set_at h7 (by omega) _ _).mono ?_;rintro e w8 ⟨rfl,h8⟩
 have hK8:=h8.kept hF (by simp) hW
 obtain⟨c8_0,c8_1,c8_2⟩:=cells3 hK8
 go_wp2_with fail
 refine (wtail_any _ base th t hb hth ht).mono ?_;rintro e w9 ⟨rfl,hb9⟩
 have h9:=h8.below hb9
 have hK9:=h9.kept hF (by simp) hW
 obtain⟨c9_0,c9_1,c9_2⟩:=cells3 hK9
 go_wp2_with fail
 refine (ask_at h9 (by omega) _ _ _).mono ?_;rintro e w10 ⟨rfl,h10⟩
 have hK10:=h10.kept hF (by simp) hW
 obtain⟨c10_0,c10_1,c10_2⟩:=cells3 hK10
 go_wp2_with fail
 refine (go_at h10 (by omega) _ _ _).mono ?_;rintro e w11 ⟨rfl,h11⟩
 have hK11:=h11.kept hF (by simp) hW
 obtain⟨c11_0,c11_1,c11_2⟩:=cells3 hK11
 go_wp2_with fail
 refine (wnext_any _ base th t hb hth ht).mono ?_;rintro e w12 ⟨rfl,hb12⟩
 have h12:=h11.below hb12
 have hK12:=h12.kept hF (by simp) hW
 obtain⟨c12_0,c12_1,c12_2⟩:=cells3 hK12
 go_wp2_with fail
 refine (far_at h12 (by omega) _ _ _ _).mono ?_;rintro e w13 ⟨rfl,h13⟩
 have hK13:=h13.kept hF (by simp) hW
 obtain⟨c13_0,c13_1,c13_2⟩:=cells3 hK13
 go_wp2_with fail
 refine (at_at h13 (by omega) _ (by decide)).mono ?_;rintro e w14 ⟨rfl,h14⟩
 have hK14:=h14.kept hF (by simp) hW
 obtain⟨c14_0,c14_1,c14_2⟩:=cells3 hK14
 go_wp2_with fail
 go_region_held (fun w'=>w'.cell? ⟨w.heap.size,0,none⟩=some (.int .u32 base)∧w'.cell? ⟨w.heap.size,1,none⟩=some (.int .i64 th)∧w'.cell? ⟨w.heap.size,2,none⟩=some (.int .i64 t))
  (first | exact cells3 (h17.kept hF (by simp) hW) | exact cells3 (obj_keep (obj_keep (w1:=w14.drew) hK14 hb15) hb16) | exact cells3 (obj_keep (w1:=w14.drew) hK14 hb15) | exact cells3 (show w14.drew.heap[w.heap.size]? = _ from hK14))
  (first
   | (go_at_call 100;refine (wwait_any _ base th t hb hth ht).mono ?_;rintro e w15 ⟨rfl,hb15⟩)
   | (go_at_call 97;refine (wat_any _ base th t hb hth ht (base+2+th) (by omega)).mono ?_;rintro e w16 ⟨rfl,hb16⟩;have h16:=(h14.below ((bl_drew (Below.refl _ w14)).trans hb15)).below hb16)
   | (go_at_call 99;refine (ask_at h16 (by omega) _ _ _).mono ?_;rintro e w17 ⟨rfl,h17⟩))
 have hK17:=h17.kept hF (by simp) hW
 obtain⟨c17_0,c17_1,c17_2⟩:=cells3 hK17
 go_wp2_with fail
 refine (go_at h17 (by omega) _ _ _).mono ?_;rintro e w18 ⟨rfl,h18⟩
 have hK18:=h18.kept hF (by simp) hW
 obtain⟨c18_0,c18_1,c18_2⟩:=cells3 hK18
 go_wp2_with fail
 refine (at_at h18 (by omega) _ (by decide)).mono ?_;rintro e w19 ⟨rfl,h19⟩
 have hK19:=h19.kept hF (by simp) hW
 obtain⟨c19_0,c19_1,c19_2⟩:=cells3 hK19
 go_wp2_with fail
 refine (wowner_any _ base th t hb hth ht).mono ?_;rintro e w20 ⟨rfl,hb20⟩
 have h20:=h19.below hb20
 have hK20:=h20.kept hF (by simp) hW
 obtain⟨c20_0,c20_1,c20_2⟩:=cells3 hK20
 go_wp2_with fail
 refine (ask_at h20 (by omega) _ _ _).mono ?_;rintro e w21 ⟨rfl,h21⟩
 have hK21:=h21.kept hF (by simp) hW
 obtain⟨c21_0,c21_1,c21_2⟩:=cells3 hK21
 go_wp2_with fail
 go_end0
 exact⟨rfl,hback _ _ _ h21⟩
def mcsOutL(base th t:Nat):List Ln:=[.ins ⟨1,4,0,0,0⟩ [],.ins ⟨17,4,8,0,((base+1:Nat):Int)⟩ [],.ins ⟨16,4,8,0,((base+2+t:Nat):Int)⟩ [],.ins ⟨15,4,0,0,0⟩ [112,97,115,115],.ins ⟨2,4,5,0,0⟩ [],.ins ⟨1,6,0,0,0⟩ [],.ins ⟨21,4,8,6,((base:Nat):Int)⟩ [],.ins ⟨12,6,4,5,0⟩ [],.ins ⟨15,6,0,0,0⟩ [100,111,110,101],.lab [108,111,111,107],.ins ⟨16,4,8,0,((base+2+t:Nat):Int)⟩ [],.ins ⟨14,4,0,0,0⟩ [108,111,111,107],.lab [112,97,115,115],.ins ⟨1,6,0,0,0⟩ [],.ins ⟨17,6,4,0,((base+1+th:Nat):Int)⟩ [],.lab [100,111,110,101]]
set_option maxHeartbeats 4000000 in
theorem mcsOut_at{w0 w:World}{F0:Nat→Prop}{g N:Nat}{s:BS}(h:Bat w0 F0 g N s w)(hN:N < 300000)(base th t:Nat)(hb:base≤100000)(hth:th≤100)(ht:t≤100):
  Calls Tryz.prog 62 #[wordsV base th t,.pointer (some ⟨g,0,none⟩)] w (BatPost w0 F0 g (N+1+1+1+1+1+1+1+1+1+1+1+1+1+1+1+1) (s.run (mcsOutL base th t))):=by
 have e0:IntKind.u32.wrap (t:Int)=t:=by rw [IntKind.wrap_u32];omega
 have e1:IntKind.u32.wrap ((t:Int)+1)=((t+1:Nat):Int):=by rw [IntKind.wrap_u32];omega
 have e2:IntKind.u32.wrap ((base:Int)+2 - 1)=((base+1:Nat):Int):=by rw [IntKind.wrap_u32];omega
 have e3:IntKind.u32.wrap ((base:Int)+2+(th:Int) - 1)=((base+1+th:Nat):Int):=by rw [IntKind.wrap_u32];omega
 go_enter Tryz.func62,Tryz.ntmps62
 obtain⟨F,hB,hF,hback⟩:=h.alloc (.cells #[.int .u32 base,.int .i64 th,.int .i64 t] 120)
 have hW:=heap_alloc_new w (.cells #[.int .u32 base,.int .i64 th,.int .i64 t] 120)
 go_wp2_with fail
 refine (wowner_any _ base th t hb hth ht).mono ?_;rintro e w1 ⟨rfl,hb1⟩
 have h1:=hB.below hb1
 have hK1:=h1.kept hF (by simp) hW
 obtain⟨c1_0,c1_1,c1_2⟩:=cells3 hK1
 go_wp2_with fail
 refine (zero_at h1 (by omega) (base+1)).mono ?_;rintro e w2 ⟨rfl,h2⟩
 have hK2:=h2.kept hF (by simp) hW
 obtain⟨c2_0,c2_1,c2_2⟩:=cells3 hK2
 go_wp2_with fail
 go_region_held (fun w'=>w'.cell? ⟨w.heap.size,0,none⟩=some (.int .u32 base)∧w'.cell? ⟨w.heap.size,1,none⟩=some (.int .i64 th)∧w'.cell? ⟨w.heap.size,2,none⟩=some (.int .i64 t))
  (first | exact cells3 (h5.kept hF (by simp) hW) | exact cells3 (obj_keep (obj_keep (w1:=w2.drew) hK2 hb3) hb4) | exact cells3 (obj_keep (w1:=w2.drew) hK2 hb3) | exact cells3 (show w2.drew.heap[w.heap.size]? = _ from hK2))
  (first
   | (go_at_call 98;refine (wnext_any _ base th t hb hth ht).mono ?_;rintro e w3 ⟨rfl,hb3⟩)
   | (go_at_call 97;refine (wat_any _ base th t hb hth ht (base+2) (by omega)).mono ?_;rintro e w4 ⟨rfl,hb4⟩;have h4:=(h2.below ((bl_drew (Below.refl _ w2)).trans hb3)).below hb4)
   | (go_at_call 99;refine (ask_at h4 (by omega) _ _ _).mono ?_;rintro e w5 ⟨rfl,h5⟩))
 have hK5:=h5.kept hF (by simp) hW
 obtain⟨c5_0,c5_1,c5_2⟩:=cells3 hK5
 go_wp2_with fail
 refine (go_at h5 (by omega) _ _ _).mono ?_;rintro e w6 ⟨rfl,h6⟩
 have hK6:=h6.kept hF (by simp) hW
 obtain⟨c6_0,c6_1,c6_2⟩:=cells3 hK6
 go_wp2_with fail
 refine (do_at h6 (by omega) _ _ _ _ _).mono ?_;rintro e w7 ⟨rfl,h7⟩
 have hK7:=h7.kept hF (by simp) hW
 obtain⟨c7_0,c7_1,c7_2⟩:=cells3 hK7
 go_wp2_with fail
 refine (set_at h7 (by omega) _ _).mono ?_;rintro e w8 ⟨rfl,h8⟩
 have hK8:=h8.kept hF (by simp) hW
 obtain⟨c8_0,c8_1,c8_2⟩:=cells3 hK8
 go_wp2_with fail
 refine (wtail_any _ base th t hb hth ht).mono ?_;rintro e w9 ⟨rfl,hb9⟩
 have h9:=h8.below hb9
 have hK9:=h9.kept hF (by simp) hW
 obtain⟨c9_0,c9_1,c9_2⟩:=cells3 hK9
 go_wp2_with fail
 refine (cas_at h9 (by omega) _ _ _).mono ?_;rintro e w10 ⟨rfl,h10⟩
 have hK10:=h10.kept hF (by simp) hW
 obtain⟨c10_0,c10_1,c10_2⟩:=cells3 hK10
 go_wp2_with fail
 refine (alu_at h10 (by omega) _ _ _ _).mono ?_;rintro e w11 ⟨rfl,h11⟩
 have hK11:=h11.kept hF (by simp) hW
 obtain⟨c11_0,c11_1,c11_2⟩:=cells3 hK11
 go_wp2_with fail
 refine (go_at h11 (by omega) _ _ _).mono ?_;rintro e w12 ⟨rfl,h12⟩
 have hK12:=h12.kept hF (by simp) hW
 obtain⟨c12_0,c12_1,c12_2⟩:=cells3 hK12
 go_wp2_with fail
 refine (at_at h12 (by omega) _ (by decide)).mono ?_;rintro e w13 ⟨rfl,h13⟩
 have hK13:=h13.kept hF (by simp) hW
 obtain⟨c13_0,c13_1,c13_2⟩:=cells3 hK13
 go_wp2_with fail
 go_region_held (fun w'=>w'.cell? ⟨w.heap.size,0,none⟩=some (.int .u32 base)∧w'.cell? ⟨w.heap.size,1,none⟩=some (.int .i64 th)∧w'.cell? ⟨w.heap.size,2,none⟩=some (.int .i64 t))
  (first | exact cells3 (h16.kept hF (by simp) hW) | exact cells3 (obj_keep (obj_keep (w1:=w13.drew) hK13 hb14) hb15) | exact cells3 (obj_keep (w1:=w13.drew) hK13 hb14) | exact cells3 (show w13.drew.heap[w.heap.size]? = _ from hK13))
  (first
   | (go_at_call 98;refine (wnext_any _ base th t hb hth ht).mono ?_;rintro e w14 ⟨rfl,hb14⟩)
   | (go_at_call 97;refine (wat_any _ base th t hb hth ht (base+2) (by omega)).mono ?_;rintro e w15 ⟨rfl,hb15⟩;have h15:=(h13.below ((bl_drew (Below.refl _ w13)).trans hb14)).below hb15)
   | (go_at_call 99;refine (ask_at h15 (by omega) _ _ _).mono ?_;rintro e w16 ⟨rfl,h16⟩))
 have hK16:=h16.kept hF (by simp) hW
 obtain⟨c16_0,c16_1,c16_2⟩:=cells3 hK16
 go_wp2_with fail
 refine (go_at h16 (by omega) _ _ _).mono ?_;rintro e w17 ⟨rfl,h17⟩
 have hK17:=h17.kept hF (by simp) hW
 obtain⟨c17_0,c17_1,c17_2⟩:=cells3 hK17
 go_wp2_with fail
 refine (at_at h17 (by omega) _ (by decide)).mono ?_;rintro e w18 ⟨rfl,h18⟩
 have hK18:=h18.kept hF (by simp) hW
 obtain⟨c18_0,c18_1,c18_2⟩:=cells3 hK18
 go_wp2_with fail
 refine (set_at h18 (by omega) _ _).mono ?_;rintro e w19 ⟨rfl,h19⟩
 have hK19:=h19.kept hF (by simp) hW
 obtain⟨c19_0,c19_1,c19_2⟩:=cells3 hK19
 go_wp2_with fail
 refine (wwait_any _ base th t hb hth ht).mono ?_;rintro e w20 ⟨rfl,hb20⟩
 have h20:=h19.below hb20
 have hK20:=h20.kept hF (by simp) hW
 obtain⟨c20_0,c20_1,c20_2⟩:=cells3 hK20
 go_wp2_with fail
 refine (far_at h20 (by omega) _ _ _ _).mono ?_;rintro e w21 ⟨rfl,h21⟩
 have hK21:=h21.kept hF (by simp) hW
 obtain⟨c21_0,c21_1,c21_2⟩:=cells3 hK21
 go_wp2_with fail
 refine (at_at h21 (by omega) _ (by decide)).mono ?_;rintro e w22 ⟨rfl,h22⟩
 have hK22:=h22.kept hF (by simp) hW
 obtain⟨c22_0,c22_1,c22_2⟩:=cells3 hK22
 go_wp2_with fail
 go_end0
 exact⟨rfl,hback _ _ _ h22⟩
def clhInL(base th t:Nat):List Ln:=[.ins ⟨16,4,8,0,((base+3+th+t:Nat):Int)⟩ [],.ins ⟨1,6,0,0,1⟩ [],.ins ⟨17,6,4,0,((base+2:Nat):Int)⟩ [],.ins ⟨19,4,8,0,((base:Nat):Int)⟩ [],.ins ⟨17,4,8,0,((base+3+2*th+t:Nat):Int)⟩ [],.lab [115,112,105,110],.ins ⟨16,6,4,0,((base+2:Nat):Int)⟩ [],.ins ⟨15,6,0,0,0⟩ [115,112,105,110],.ins ⟨17,5,8,0,((base+1:Nat):Int)⟩ []]
set_option maxHeartbeats 4000000 in
theorem clhIn_at{w0 w:World}{F0:Nat→Prop}{g N:Nat}{s:BS}(h:Bat w0 F0 g N s w)(hN:N < 300000)(base th t:Nat)(hb:base≤100000)(hth:th≤100)(ht:t≤100):
  Calls Tryz.prog 63 #[wordsV base th t,.pointer (some ⟨g,0,none⟩)] w (BatPost w0 F0 g (N+1+1+1+1+1+1+1+1+1) (s.run (clhInL base th t))):=by
 have e0:IntKind.u32.wrap (t:Int)=t:=by rw [IntKind.wrap_u32];omega
 have e1:IntKind.u32.wrap ((t:Int)+1)=((t+1:Nat):Int):=by rw [IntKind.wrap_u32];omega
 have e2:IntKind.u32.wrap ((base:Int)+2 - 1)=((base+1:Nat):Int):=by rw [IntKind.wrap_u32];omega
 have e3:IntKind.u32.wrap ((base:Int)+2+(th:Int) - 1)=((base+1+th:Nat):Int):=by rw [IntKind.wrap_u32];omega
 go_enter Tryz.func63,Tryz.ntmps63
 obtain⟨F,hB,hF,hback⟩:=h.alloc (.cells #[.int .u32 base,.int .i64 th,.int .i64 t] 120)
 have hW:=heap_alloc_new w (.cells #[.int .u32 base,.int .i64 th,.int .i64 t] 120)
 go_wp2_with fail
 refine (wmine_any _ base th t hb hth ht).mono ?_;rintro e w1 ⟨rfl,hb1⟩
 have h1:=hB.below hb1
 have hK1:=h1.kept hF (by simp) hW
 obtain⟨c1_0,c1_1,c1_2⟩:=cells3 hK1
 go_wp2_with fail
 refine (ask_at h1 (by omega) _ _ _).mono ?_;rintro e w2 ⟨rfl,h2⟩
 have hK2:=h2.kept hF (by simp) hW
 obtain⟨c2_0,c2_1,c2_2⟩:=cells3 hK2
 go_wp2_with fail
 refine (set_at h2 (by omega) _ _).mono ?_;rintro e w3 ⟨rfl,h3⟩
 have hK3:=h3.kept hF (by simp) hW
 obtain⟨c3_0,c3_1,c3_2⟩:=cells3 hK3
 go_wp2_with fail
 refine (wflag_any _ base th t hb hth ht).mono ?_;rintro e w4 ⟨rfl,hb4⟩
 have h4:=h3.below hb4
 have hK4:=h4.kept hF (by simp) hW
 obtain⟨c4_0,c4_1,c4_2⟩:=cells3 hK4
 go_wp2_with fail
 refine (far_at h4 (by omega) _ _ _ _).mono ?_;rintro e w5 ⟨rfl,h5⟩
 have hK5:=h5.kept hF (by simp) hW
 obtain⟨c5_0,c5_1,c5_2⟩:=cells3 hK5
 go_wp2_with fail
 refine (wtail_any _ base th t hb hth ht).mono ?_;rintro e w6 ⟨rfl,hb6⟩
 have h6:=h5.below hb6
 have hK6:=h6.kept hF (by simp) hW
 obtain⟨c6_0,c6_1,c6_2⟩:=cells3 hK6
 go_wp2_with fail
 refine (ask_at h6 (by omega) _ _ _).mono ?_;rintro e w7 ⟨rfl,h7⟩
 have hK7:=h7.kept hF (by simp) hW
 obtain⟨c7_0,c7_1,c7_2⟩:=cells3 hK7
 go_wp2_with fail
 refine (wpred_any _ base th t hb hth ht).mono ?_;rintro e w8 ⟨rfl,hb8⟩
 have h8:=h7.below hb8
 have hK8:=h8.kept hF (by simp) hW
 obtain⟨c8_0,c8_1,c8_2⟩:=cells3 hK8
 go_wp2_with fail
 refine (ask_at h8 (by omega) _ _ _).mono ?_;rintro e w9 ⟨rfl,h9⟩
 have hK9:=h9.kept hF (by simp) hW
 obtain⟨c9_0,c9_1,c9_2⟩:=cells3 hK9
 go_wp2_with fail
 refine (at_at h9 (by omega) _ (by decide)).mono ?_;rintro e w10 ⟨rfl,h10⟩
 have hK10:=h10.kept hF (by simp) hW
 obtain⟨c10_0,c10_1,c10_2⟩:=cells3 hK10
 go_wp2_with fail
 refine (wflag_any _ base th t hb hth ht).mono ?_;rintro e w11 ⟨rfl,hb11⟩
 have h11:=h10.below hb11
 have hK11:=h11.kept hF (by simp) hW
 obtain⟨c11_0,c11_1,c11_2⟩:=cells3 hK11
 go_wp2_with fail
 refine (far_at h11 (by omega) _ _ _ _).mono ?_;rintro e w12 ⟨rfl,h12⟩
 have hK12:=h12.kept hF (by simp) hW
 obtain⟨c12_0,c12_1,c12_2⟩:=cells3 hK12
 go_wp2_with fail
 refine (go_at h12 (by omega) _ _ _).mono ?_;rintro e w13 ⟨rfl,h13⟩
 have hK13:=h13.kept hF (by simp) hW
 obtain⟨c13_0,c13_1,c13_2⟩:=cells3 hK13
 go_wp2_with fail
 refine (wowner_any _ base th t hb hth ht).mono ?_;rintro e w14 ⟨rfl,hb14⟩
 have h14:=h13.below hb14
 have hK14:=h14.kept hF (by simp) hW
 obtain⟨c14_0,c14_1,c14_2⟩:=cells3 hK14
 go_wp2_with fail
 refine (ask_at h14 (by omega) _ _ _).mono ?_;rintro e w15 ⟨rfl,h15⟩
 have hK15:=h15.kept hF (by simp) hW
 obtain⟨c15_0,c15_1,c15_2⟩:=cells3 hK15
 go_wp2_with fail
 go_end0
 exact⟨rfl,hback _ _ _ h15⟩
def clhOutL(base th t:Nat):List Ln:=[.ins ⟨1,4,0,0,0⟩ [],.ins ⟨17,4,8,0,((base+1:Nat):Int)⟩ [],.ins ⟨16,4,8,0,((base+3+th+t:Nat):Int)⟩ [],.ins ⟨16,6,8,0,((base+3+2*th+t:Nat):Int)⟩ [],.ins ⟨17,6,8,0,((base+3+th+t:Nat):Int)⟩ [],.ins ⟨1,6,0,0,0⟩ [],.ins ⟨17,6,4,0,((base+2:Nat):Int)⟩ []]
set_option maxHeartbeats 4000000 in
theorem clhOut_at{w0 w:World}{F0:Nat→Prop}{g N:Nat}{s:BS}(h:Bat w0 F0 g N s w)(hN:N < 300000)(base th t:Nat)(hb:base≤100000)(hth:th≤100)(ht:t≤100):
  Calls Tryz.prog 64 #[wordsV base th t,.pointer (some ⟨g,0,none⟩)] w (BatPost w0 F0 g (N+1+1+1+1+1+1+1) (s.run (clhOutL base th t))):=by
 have e0:IntKind.u32.wrap (t:Int)=t:=by rw [IntKind.wrap_u32];omega
 have e1:IntKind.u32.wrap ((t:Int)+1)=((t+1:Nat):Int):=by rw [IntKind.wrap_u32];omega
 have e2:IntKind.u32.wrap ((base:Int)+2 - 1)=((base+1:Nat):Int):=by rw [IntKind.wrap_u32];omega
 have e3:IntKind.u32.wrap ((base:Int)+2+(th:Int) - 1)=((base+1+th:Nat):Int):=by rw [IntKind.wrap_u32];omega
 go_enter Tryz.func64,Tryz.ntmps64
 obtain⟨F,hB,hF,hback⟩:=h.alloc (.cells #[.int .u32 base,.int .i64 th,.int .i64 t] 120)
 have hW:=heap_alloc_new w (.cells #[.int .u32 base,.int .i64 th,.int .i64 t] 120)
 go_wp2_with fail
 refine (wowner_any _ base th t hb hth ht).mono ?_;rintro e w1 ⟨rfl,hb1⟩
 have h1:=hB.below hb1
 have hK1:=h1.kept hF (by simp) hW
 obtain⟨c1_0,c1_1,c1_2⟩:=cells3 hK1
 go_wp2_with fail
 refine (zero_at h1 (by omega) (base+1)).mono ?_;rintro e w2 ⟨rfl,h2⟩
 have hK2:=h2.kept hF (by simp) hW
 obtain⟨c2_0,c2_1,c2_2⟩:=cells3 hK2
 go_wp2_with fail
 refine (wmine_any _ base th t hb hth ht).mono ?_;rintro e w3 ⟨rfl,hb3⟩
 have h3:=h2.below hb3
 have hK3:=h3.kept hF (by simp) hW
 obtain⟨c3_0,c3_1,c3_2⟩:=cells3 hK3
 go_wp2_with fail
 refine (ask_at h3 (by omega) _ _ _).mono ?_;rintro e w4 ⟨rfl,h4⟩
 have hK4:=h4.kept hF (by simp) hW
 obtain⟨c4_0,c4_1,c4_2⟩:=cells3 hK4
 go_wp2_with fail
 refine (wpred_any _ base th t hb hth ht).mono ?_;rintro e w5 ⟨rfl,hb5⟩
 have h5:=h4.below hb5
 have hK5:=h5.kept hF (by simp) hW
 obtain⟨c5_0,c5_1,c5_2⟩:=cells3 hK5
 go_wp2_with fail
 refine (ask_at h5 (by omega) _ _ _).mono ?_;rintro e w6 ⟨rfl,h6⟩
 have hK6:=h6.kept hF (by simp) hW
 obtain⟨c6_0,c6_1,c6_2⟩:=cells3 hK6
 go_wp2_with fail
 refine (wmine_any _ base th t hb hth ht).mono ?_;rintro e w7 ⟨rfl,hb7⟩
 have h7:=h6.below hb7
 have hK7:=h7.kept hF (by simp) hW
 obtain⟨c7_0,c7_1,c7_2⟩:=cells3 hK7
 go_wp2_with fail
 refine (ask_at h7 (by omega) _ _ _).mono ?_;rintro e w8 ⟨rfl,h8⟩
 have hK8:=h8.kept hF (by simp) hW
 obtain⟨c8_0,c8_1,c8_2⟩:=cells3 hK8
 go_wp2_with fail
 refine (set_at h8 (by omega) _ _).mono ?_;rintro e w9 ⟨rfl,h9⟩
 have hK9:=h9.kept hF (by simp) hW
 obtain⟨c9_0,c9_1,c9_2⟩:=cells3 hK9
 go_wp2_with fail
 refine (wflag_any _ base th t hb hth ht).mono ?_;rintro e w10 ⟨rfl,hb10⟩
 have h10:=h9.below hb10
 have hK10:=h10.kept hF (by simp) hW
 obtain⟨c10_0,c10_1,c10_2⟩:=cells3 hK10
 go_wp2_with fail
 refine (far_at h10 (by omega) _ _ _ _).mono ?_;rintro e w11 ⟨rfl,h11⟩
 have hK11:=h11.kept hF (by simp) hW
 obtain⟨c11_0,c11_1,c11_2⟩:=cells3 hK11
 go_wp2_with fail
 go_end0
 exact⟨rfl,hback _ _ _ h11⟩
end Go.Proofs.YtckmkaeopnnbbaaGreatDoor.As
