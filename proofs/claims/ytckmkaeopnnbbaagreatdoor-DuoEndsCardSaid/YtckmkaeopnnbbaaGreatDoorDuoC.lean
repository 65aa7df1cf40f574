/- The walks of the package duo: whose side; a call's code. -/
import Derived.Test.YtckmkaeopnnbbaaGreatDoorGp
import Derived.Test.YtckmkaeopnnbbaaGreatDoorDuoA
import Derived.Test.YtckmkaeopnnbbaaGreatDoorGb
import Derived.Test.YtckmkaeopnnbbaaGreatDoorLocks2
set_option linter.unusedVariables false
set_option linter.unusedSimpArgs false
namespace Go.Proofs.YtckmkaeopnnbbaaGreatDoor.As
open Go.RowKit

abbrev sideV(a b c d e:Int):Value:=.agg #[.int .u32 a,.int .u32 b,.int .u32 c,.int .u32 d,.int .u32 e]
theorem results_side{fn:Func}{p u:Tmp}(h:fn.results=#[.cell p 132,.tmp u])(tmps:Array Value)(w:World)(R:Nat)(a b c d e:Int)(hb:w.heap[R]? = some (.cells #[.int .u32 a,.int .u32 b,.int .u32 c,.int .u32 d,.int .u32 e] 132 (0,0)))(hp:tmps.getD p undef=.pointer (some ⟨R,0,none⟩)):
  (results fn tmps).run Tryz.prog w=.ok (.tuple #[sideV a b c d e,tmps.getD u undef]) w:=by
 have hl:=run_loadVar_row (P := Tryz.prog) w R 132 132 _ _ _ hb Tryz.underlying132 rfl (by kernel_rfl)
 simp only [Array.getD_eq_getD_getElem?] at hp
 simp [results,h,hp,asAddr,hl]
theorem new2(w:World)(x y:Obj):((w.alloc x).alloc y).heap[w.heap.size+1]? = some y:=by
 have h:=heap_alloc_new (w.alloc x) y
 rwa [World.size_alloc] at h
theorem sides_petA(w:World)(n a b:Int)(t base:Nat)(hb:base≤100000):
  Calls Tryz.prog 77 #[.agg #[.int .i64 6,.int .i64 n,.int .i64 t,.int .i64 b],.int .i64 t,.int .u32 base] w fun e w'=>e=.returned (.tuple #[sideV ((base+0:Nat):Int) ((base+1:Nat):Int) ((base+2:Nat):Int) ((base+3:Nat):Int) 1,.func (.func 113) #[] #[]])∧Below w.heap.size w w':=by
 have e1:IntKind.u32.wrap ((base:Int)+1)=((base+1:Nat):Int):=by rw [IntKind.wrap_u32];omega
 have e2:IntKind.u32.wrap ((base:Int)+2)=((base+2:Nat):Int):=by rw [IntKind.wrap_u32];omega
 have e3:IntKind.u32.wrap ((base:Int)+3)=((base+3:Nat):Int):=by rw [IntKind.wrap_u32];omega
 go_enter Tryz.func77,Tryz.ntmps77
 go_wp2_with fail
 refine bodyPost_ret (results_side rfl _ _ (w.heap.size+1) _ _ _ _ _ (new2 _ _ _) rfl) rfl ?_
 exact⟨rfl,((Below.refl _ w).alloc (Nat.le_refl _) _).alloc (by simp) _⟩
theorem sides_petB(w:World)(n a b:Int)(t base:Nat)(hb:base≤100000)(he:((t:Int) == a)=false):
  Calls Tryz.prog 77 #[.agg #[.int .i64 6,.int .i64 n,.int .i64 a,.int .i64 b],.int .i64 t,.int .u32 base] w fun e w'=>e=.returned (.tuple #[sideV ((base+1:Nat):Int) ((base+0:Nat):Int) ((base+2:Nat):Int) ((base+3:Nat):Int) 0,.func (.func 113) #[] #[]])∧Below w.heap.size w w':=by
 have e1:IntKind.u32.wrap ((base:Int)+1)=((base+1:Nat):Int):=by rw [IntKind.wrap_u32];omega
 have e2:IntKind.u32.wrap ((base:Int)+2)=((base+2:Nat):Int):=by rw [IntKind.wrap_u32];omega
 have e3:IntKind.u32.wrap ((base:Int)+3)=((base+3:Nat):Int):=by rw [IntKind.wrap_u32];omega
 go_enter Tryz.func77,Tryz.ntmps77
 go_wp2_with fail
 refine bodyPost_ret (results_side rfl _ _ (w.heap.size+1) _ _ _ _ _ (new2 _ _ _) rfl) rfl ?_
 exact⟨rfl,((Below.refl _ w).alloc (Nat.le_refl _) _).alloc (by simp) _⟩
theorem sides_dekA(w:World)(n a b:Int)(t base:Nat)(hb:base≤100000):
  Calls Tryz.prog 77 #[.agg #[.int .i64 7,.int .i64 n,.int .i64 t,.int .i64 b],.int .i64 t,.int .u32 base] w fun e w'=>e=.returned (.tuple #[sideV ((base+0:Nat):Int) ((base+1:Nat):Int) 0 ((base+2:Nat):Int) 0,.func (.func 114) #[] #[]])∧Below w.heap.size w w':=by
 have e1:IntKind.u32.wrap ((base:Int)+1)=((base+1:Nat):Int):=by rw [IntKind.wrap_u32];omega
 have e2:IntKind.u32.wrap ((base:Int)+2)=((base+2:Nat):Int):=by rw [IntKind.wrap_u32];omega
 have e3:IntKind.u32.wrap ((base:Int)+3)=((base+3:Nat):Int):=by rw [IntKind.wrap_u32];omega
 go_enter Tryz.func77,Tryz.ntmps77
 go_wp2_with fail
 refine bodyPost_ret (results_side rfl _ _ (w.heap.size+1) _ _ _ _ _ (new2 _ _ _) rfl) rfl ?_
 exact⟨rfl,((Below.refl _ w).alloc (Nat.le_refl _) _).alloc (by simp) _⟩
theorem sides_dekB(w:World)(n a b:Int)(t base:Nat)(hb:base≤100000)(he:((t:Int) == a)=false):
  Calls Tryz.prog 77 #[.agg #[.int .i64 7,.int .i64 n,.int .i64 a,.int .i64 b],.int .i64 t,.int .u32 base] w fun e w'=>e=.returned (.tuple #[sideV ((base+1:Nat):Int) ((base+0:Nat):Int) 0 ((base+2:Nat):Int) 0,.func (.func 115) #[] #[]])∧Below w.heap.size w w':=by
 have e1:IntKind.u32.wrap ((base:Int)+1)=((base+1:Nat):Int):=by rw [IntKind.wrap_u32];omega
 have e2:IntKind.u32.wrap ((base:Int)+2)=((base+2:Nat):Int):=by rw [IntKind.wrap_u32];omega
 have e3:IntKind.u32.wrap ((base:Int)+3)=((base+3:Nat):Int):=by rw [IntKind.wrap_u32];omega
 go_enter Tryz.func77,Tryz.ntmps77
 go_wp2_with fail
 refine bodyPost_ret (results_side rfl _ _ (w.heap.size+1) _ _ _ _ _ (new2 _ _ _) rfl) rfl ?_
 exact⟨rfl,((Below.refl _ w).alloc (Nat.le_refl _) _).alloc (by simp) _⟩
set_option maxHeartbeats 4000000 in
theorem codePetInA_any(w:World)(TI:TabI w)(TO:TabO w)(n b:Int)(th ar:Int)(t base:Nat)(hA:AskP 6 n t b 1 th t)(hb:base≤100000)(ht:t≤100000):
  Calls Tryz.prog 41 #[.agg #[.int .i64 6,.int .i64 n,.int .i64 t,.int .i64 b],.int .i64 1,.int .i64 th,.int .i64 t,.int .u32 base,.int .u32 ar] w (CodeOk w (linPetInA base t)):=by
 have dA:decide (AskP 6 n t b 1 th t)=true:=decide_eq_true hA
 have ha:∀ o,Below w.heap.size w (w.alloc o):=fun o=>(Below.refl _ w).alloc (Nat.le_refl _) o
 have TA:∀ o,TabO (w.alloc o):=fun o=>TO.below (ha o) (Nat.le_refl _)
 go_enter Tryz.func41,Tryz.ntmps41
 go_wp2_with (go_at_call 60;refine (spinMay_any _ (TA _) _ _ _ _ _ _ _).mono ?_;rintro e w1 ⟨rfl,hb1⟩;have hx:=new_keep hb1;obtain⟨c0,c1,c2,c3⟩:=cells4 hx;obtain⟨d0,d1,d2,d3⟩:=cells4 (obj_keep hx ((Below.refl _ w1).alloc (Nat.le_refl _) zeroB)))
 have h2:=bat_zero w1
 have T1:TabI w1:=(TI.below (ha _) (Nat.le_refl _)).below hb1 (Nat.le_refl _)
 have hw1:=(ha (.cells #[.int .i64 6,.int .i64 n,.int .i64 t,.int .i64 b] 27)).trans (hb1.mono (by simp))
 refine (sides_petA _ _ 0 _ _ _ hb).mono ?_;rintro e w3 ⟨rfl,hb3⟩
 have h3:=h2.below hb3
 go_wp2_with fail
 obtain⟨F,hB,hF,hback⟩:=h3.alloc (.cells #[.int .u32 ((base+0:Nat):Int),.int .u32 ((base+1:Nat):Int),.int .u32 ((base+2:Nat):Int),.int .u32 ((base+3:Nat):Int),.int .u32 1] 132)
 have hW:=heap_alloc_new w3 (.cells #[.int .u32 ((base+0:Nat):Int),.int .u32 ((base+1:Nat):Int),.int .u32 ((base+2:Nat):Int),.int .u32 ((base+3:Nat):Int),.int .u32 1] 132)
 refine (claim_at hB (by omega) (base+3) t (by omega)).mono ?_;rintro e w4 ⟨rfl,h4⟩
 obtain⟨g0,g1,g2,g3,g4⟩:=cells5 (h4.kept hF (by simp) hW)
 go_wp2_with fail
 refine (petIn_at h4 (by omega) (base+0) (base+1) (base+2) (base+3) 1).mono ?_;rintro e w5 ⟨rfl,h5⟩
 go_wp2_with fail
 refine (close_at h5 (by omega)).mono ?_;rintro e w6 ⟨rfl,h6⟩
 go_wp2_with fail
 refine (code_at (b:=linPetInA base t) (hback _ _ _ h6) (by simp only [←BS.run_app];exact congrArg (BS.run BS.zero) rfl) T1 (okPetInA (by omega) (by omega))).mono ?_;rintro e w20 h20
 obtain⟨⟨v,rfl,hv⟩,hb20⟩:=h20
 go_wp2_with fail
 first | go_ret2 | go_ret
 exact⟨⟨v,rfl,own_base' hv hw1.size⟩,hw1.trans (hb20.mono hw1.size)⟩
set_option maxHeartbeats 4000000 in
theorem codePetInB_any(w:World)(TI:TabI w)(TO:TabO w)(n a:Int)(th ar:Int)(t base:Nat)(hA:AskP 6 n a t 1 th t)(hb:base≤100000)(ht:t≤100000)(he:((t:Int) == a)=false)(hm:((t:Int) != a)=true):
  Calls Tryz.prog 41 #[.agg #[.int .i64 6,.int .i64 n,.int .i64 a,.int .i64 t],.int .i64 1,.int .i64 th,.int .i64 t,.int .u32 base,.int .u32 ar] w (CodeOk w (linPetInB base t)):=by
 have dA:decide (AskP 6 n a t 1 th t)=true:=decide_eq_true hA
 have ha:∀ o,Below w.heap.size w (w.alloc o):=fun o=>(Below.refl _ w).alloc (Nat.le_refl _) o
 have TA:∀ o,TabO (w.alloc o):=fun o=>TO.below (ha o) (Nat.le_refl _)
 go_enter Tryz.func41,Tryz.ntmps41
 go_wp2_with (go_at_call 60;refine (spinMay_any _ (TA _) _ _ _ _ _ _ _).mono ?_;rintro e w1 ⟨rfl,hb1⟩;have hx:=new_keep hb1;obtain⟨c0,c1,c2,c3⟩:=cells4 hx;obtain⟨d0,d1,d2,d3⟩:=cells4 (obj_keep hx ((Below.refl _ w1).alloc (Nat.le_refl _) zeroB)))
 have h2:=bat_zero w1
 have T1:TabI w1:=(TI.below (ha _) (Nat.le_refl _)).below hb1 (Nat.le_refl _)
 have hw1:=(ha (.cells #[.int .i64 6,.int .i64 n,.int .i64 a,.int .i64 t] 27)).trans (hb1.mono (by simp))
 refine (sides_petB _ _ _ _ _ _ hb he).mono ?_;rintro e w3 ⟨rfl,hb3⟩
 have h3:=h2.below hb3
 go_wp2_with fail
 obtain⟨F,hB,hF,hback⟩:=h3.alloc (.cells #[.int .u32 ((base+1:Nat):Int),.int .u32 ((base+0:Nat):Int),.int .u32 ((base+2:Nat):Int),.int .u32 ((base+3:Nat):Int),.int .u32 0] 132)
 have hW:=heap_alloc_new w3 (.cells #[.int .u32 ((base+1:Nat):Int),.int .u32 ((base+0:Nat):Int),.int .u32 ((base+2:Nat):Int),.int .u32 ((base+3:Nat):Int),.int .u32 0] 132)
 refine (claim_at hB (by omega) (base+3) t (by omega)).mono ?_;rintro e w4 ⟨rfl,h4⟩
 obtain⟨g0,g1,g2,g3,g4⟩:=cells5 (h4.kept hF (by simp) hW)
 go_wp2_with fail
 refine (petIn_at h4 (by omega) (base+1) (base+0) (base+2) (base+3) 0).mono ?_;rintro e w5 ⟨rfl,h5⟩
 go_wp2_with fail
 refine (close_at h5 (by omega)).mono ?_;rintro e w6 ⟨rfl,h6⟩
 go_wp2_with fail
 refine (code_at (b:=linPetInB base t) (hback _ _ _ h6) (by simp only [←BS.run_app];exact congrArg (BS.run BS.zero) rfl) T1 (okPetInB (by omega) (by omega))).mono ?_;rintro e w20 h20
 obtain⟨⟨v,rfl,hv⟩,hb20⟩:=h20
 go_wp2_with fail
 first | go_ret2 | go_ret
 exact⟨⟨v,rfl,own_base' hv hw1.size⟩,hw1.trans (hb20.mono hw1.size)⟩
set_option maxHeartbeats 4000000 in
theorem codePetOutA_any(w:World)(TI:TabI w)(TO:TabO w)(n b:Int)(th ar:Int)(t base:Nat)(hA:AskP 6 n t b 2 th t)(hb:base≤100000)(ht:t≤100000):
  Calls Tryz.prog 41 #[.agg #[.int .i64 6,.int .i64 n,.int .i64 t,.int .i64 b],.int .i64 2,.int .i64 th,.int .i64 t,.int .u32 base,.int .u32 ar] w (CodeOk w (linPetOutA base t)):=by
 have dA:decide (AskP 6 n t b 2 th t)=true:=decide_eq_true hA
 have ha:∀ o,Below w.heap.size w (w.alloc o):=fun o=>(Below.refl _ w).alloc (Nat.le_refl _) o
 have TA:∀ o,TabO (w.alloc o):=fun o=>TO.below (ha o) (Nat.le_refl _)
 go_enter Tryz.func41,Tryz.ntmps41
 go_wp2_with (go_at_call 60;refine (spinMay_any _ (TA _) _ _ _ _ _ _ _).mono ?_;rintro e w1 ⟨rfl,hb1⟩;have hx:=new_keep hb1;obtain⟨c0,c1,c2,c3⟩:=cells4 hx;obtain⟨d0,d1,d2,d3⟩:=cells4 (obj_keep hx ((Below.refl _ w1).alloc (Nat.le_refl _) zeroB)))
 have h2:=bat_zero w1
 have T1:TabI w1:=(TI.below (ha _) (Nat.le_refl _)).below hb1 (Nat.le_refl _)
 have hw1:=(ha (.cells #[.int .i64 6,.int .i64 n,.int .i64 t,.int .i64 b] 27)).trans (hb1.mono (by simp))
 refine (sides_petA _ _ 0 _ _ _ hb).mono ?_;rintro e w3 ⟨rfl,hb3⟩
 have h3:=h2.below hb3
 go_wp2_with fail
 obtain⟨F,hB,hF,hback⟩:=h3.alloc (.cells #[.int .u32 ((base+0:Nat):Int),.int .u32 ((base+1:Nat):Int),.int .u32 ((base+2:Nat):Int),.int .u32 ((base+3:Nat):Int),.int .u32 1] 132)
 have hW:=heap_alloc_new w3 (.cells #[.int .u32 ((base+0:Nat):Int),.int .u32 ((base+1:Nat):Int),.int .u32 ((base+2:Nat):Int),.int .u32 ((base+3:Nat):Int),.int .u32 1] 132)
 refine (prove_at hB (by omega) (base+3) t (by omega)).mono ?_;rintro e w4 ⟨rfl,h4⟩
 obtain⟨g0,g1,g2,g3,g4⟩:=cells5 (h4.kept hF (by simp) hW)
 go_wp2_with fail
 refine (sideOut_at h4 (by omega) (base+0) (base+1) (base+2) (base+3) 1).mono ?_;rintro e w5 ⟨rfl,h5⟩
 go_wp2_with fail
 refine (close_at h5 (by omega)).mono ?_;rintro e w6 ⟨rfl,h6⟩
 go_wp2_with fail
 refine (code_at (b:=linPetOutA base t) (hback _ _ _ h6) (by simp only [←BS.run_app];exact congrArg (BS.run BS.zero) rfl) T1 (okPetOutA (by omega) (by omega))).mono ?_;rintro e w20 h20
 obtain⟨⟨v,rfl,hv⟩,hb20⟩:=h20
 go_wp2_with fail
 first | go_ret2 | go_ret
 exact⟨⟨v,rfl,own_base' hv hw1.size⟩,hw1.trans (hb20.mono hw1.size)⟩
set_option maxHeartbeats 4000000 in
theorem codePetOutB_any(w:World)(TI:TabI w)(TO:TabO w)(n a:Int)(th ar:Int)(t base:Nat)(hA:AskP 6 n a t 2 th t)(hb:base≤100000)(ht:t≤100000)(he:((t:Int) == a)=false)(hm:((t:Int) != a)=true):
  Calls Tryz.prog 41 #[.agg #[.int .i64 6,.int .i64 n,.int .i64 a,.int .i64 t],.int .i64 2,.int .i64 th,.int .i64 t,.int .u32 base,.int .u32 ar] w (CodeOk w (linPetOutB base t)):=by
 have dA:decide (AskP 6 n a t 2 th t)=true:=decide_eq_true hA
 have ha:∀ o,Below w.heap.size w (w.alloc o):=fun o=>(Below.refl _ w).alloc (Nat.le_refl _) o
 have TA:∀ o,TabO (w.alloc o):=fun o=>TO.below (ha o) (Nat.le_refl _)
 go_enter Tryz.func41,Tryz.ntmps41
 go_wp2_with (go_at_call 60;refine (spinMay_any _ (TA _) _ _ _ _ _ _ _).mono ?_;rintro e w1 ⟨rfl,hb1⟩;have hx:=new_keep hb1;obtain⟨c0,c1,c2,c3⟩:=cells4 hx;obtain⟨d0,d1,d2,d3⟩:=cells4 (obj_keep hx ((Below.refl _ w1).alloc (Nat.le_refl _) zeroB)))
 have h2:=bat_zero w1
 have T1:TabI w1:=(TI.below (ha _) (Nat.le_refl _)).below hb1 (Nat.le_refl _)
 have hw1:=(ha (.cells #[.int .i64 6,.int .i64 n,.int .i64 a,.int .i64 t] 27)).trans (hb1.mono (by simp))
 refine (sides_petB _ _ _ _ _ _ hb he).mono ?_;rintro e w3 ⟨rfl,hb3⟩
 have h3:=h2.below hb3
 go_wp2_with fail
 obtain⟨F,hB,hF,hback⟩:=h3.alloc (.cells #[.int .u32 ((base+1:Nat):Int),.int .u32 ((base+0:Nat):Int),.int .u32 ((base+2:Nat):Int),.int .u32 ((base+3:Nat):Int),.int .u32 0] 132)
 have hW:=heap_alloc_new w3 (.cells #[.int .u32 ((base+1:Nat):Int),.int .u32 ((base+0:Nat):Int),.int .u32 ((base+2:Nat):Int),.int .u32 ((base+3:Nat):Int),.int .u32 0] 132)
 refine (prove_at hB (by omega) (base+3) t (by omega)).mono ?_;rintro e w4 ⟨rfl,h4⟩
 obtain⟨g0,g1,g2,g3,g4⟩:=cells5 (h4.kept hF (by simp) hW)
 go_wp2_with fail
 refine (sideOut_at h4 (by omega) (base+1) (base+0) (base+2) (base+3) 0).mono ?_;rintro e w5 ⟨rfl,h5⟩
 go_wp2_with fail
 refine (close_at h5 (by omega)).mono ?_;rintro e w6 ⟨rfl,h6⟩
 go_wp2_with fail
 refine (code_at (b:=linPetOutB base t) (hback _ _ _ h6) (by simp only [←BS.run_app];exact congrArg (BS.run BS.zero) rfl) T1 (okPetOutB (by omega) (by omega))).mono ?_;rintro e w20 h20
 obtain⟨⟨v,rfl,hv⟩,hb20⟩:=h20
 go_wp2_with fail
 first | go_ret2 | go_ret
 exact⟨⟨v,rfl,own_base' hv hw1.size⟩,hw1.trans (hb20.mono hw1.size)⟩
set_option maxHeartbeats 4000000 in
theorem codeDekFast_any(w:World)(TI:TabI w)(TO:TabO w)(n b:Int)(th ar:Int)(t base:Nat)(hA:AskP 7 n t b 1 th t)(hb:base≤100000)(ht:t≤100000):
  Calls Tryz.prog 41 #[.agg #[.int .i64 7,.int .i64 n,.int .i64 t,.int .i64 b],.int .i64 1,.int .i64 th,.int .i64 t,.int .u32 base,.int .u32 ar] w (CodeOk w (linDekFast base t)):=by
 have dA:decide (AskP 7 n t b 1 th t)=true:=decide_eq_true hA
 have ha:∀ o,Below w.heap.size w (w.alloc o):=fun o=>(Below.refl _ w).alloc (Nat.le_refl _) o
 have TA:∀ o,TabO (w.alloc o):=fun o=>TO.below (ha o) (Nat.le_refl _)
 go_enter Tryz.func41,Tryz.ntmps41
 go_wp2_with (go_at_call 60;refine (spinMay_any _ (TA _) _ _ _ _ _ _ _).mono ?_;rintro e w1 ⟨rfl,hb1⟩;have hx:=new_keep hb1;obtain⟨c0,c1,c2,c3⟩:=cells4 hx;obtain⟨d0,d1,d2,d3⟩:=cells4 (obj_keep hx ((Below.refl _ w1).alloc (Nat.le_refl _) zeroB)))
 have h2:=bat_zero w1
 have T1:TabI w1:=(TI.below (ha _) (Nat.le_refl _)).below hb1 (Nat.le_refl _)
 have hw1:=(ha (.cells #[.int .i64 7,.int .i64 n,.int .i64 t,.int .i64 b] 27)).trans (hb1.mono (by simp))
 refine (sides_dekA _ _ 0 _ _ _ hb).mono ?_;rintro e w3 ⟨rfl,hb3⟩
 have h3:=h2.below hb3
 go_wp2_with fail
 obtain⟨F,hB,hF,hback⟩:=h3.alloc (.cells #[.int .u32 ((base+0:Nat):Int),.int .u32 ((base+1:Nat):Int),.int .u32 0,.int .u32 ((base+2:Nat):Int),.int .u32 0] 132)
 have hW:=heap_alloc_new w3 (.cells #[.int .u32 ((base+0:Nat):Int),.int .u32 ((base+1:Nat):Int),.int .u32 0,.int .u32 ((base+2:Nat):Int),.int .u32 0] 132)
 refine (claim_at hB (by omega) (base+2) t (by omega)).mono ?_;rintro e w4 ⟨rfl,h4⟩
 obtain⟨g0,g1,g2,g3,g4⟩:=cells5 (h4.kept hF (by simp) hW)
 go_wp2_with fail
 refine (fastIn_at h4 (by omega) (base+0) (base+1) 0 (base+2) 0).mono ?_;rintro e w5 ⟨rfl,h5⟩
 go_wp2_with fail
 refine (close_at h5 (by omega)).mono ?_;rintro e w6 ⟨rfl,h6⟩
 go_wp2_with fail
 refine (code_at (b:=linDekFast base t) (hback _ _ _ h6) (by simp only [←BS.run_app];exact congrArg (BS.run BS.zero) rfl) T1 (okDekFast (by omega) (by omega))).mono ?_;rintro e w20 h20
 obtain⟨⟨v,rfl,hv⟩,hb20⟩:=h20
 go_wp2_with fail
 first | go_ret2 | go_ret
 exact⟨⟨v,rfl,own_base' hv hw1.size⟩,hw1.trans (hb20.mono hw1.size)⟩
set_option maxHeartbeats 4000000 in
theorem codeDekSlow_any(w:World)(TI:TabI w)(TO:TabO w)(n a:Int)(th ar:Int)(t base:Nat)(hA:AskP 7 n a t 1 th t)(hb:base≤100000)(ht:t≤100000)(he:((t:Int) == a)=false)(hm:((t:Int) != a)=true):
  Calls Tryz.prog 41 #[.agg #[.int .i64 7,.int .i64 n,.int .i64 a,.int .i64 t],.int .i64 1,.int .i64 th,.int .i64 t,.int .u32 base,.int .u32 ar] w (CodeOk w (linDekSlow base t)):=by
 have dA:decide (AskP 7 n a t 1 th t)=true:=decide_eq_true hA
 have ha:∀ o,Below w.heap.size w (w.alloc o):=fun o=>(Below.refl _ w).alloc (Nat.le_refl _) o
 have TA:∀ o,TabO (w.alloc o):=fun o=>TO.below (ha o) (Nat.le_refl _)
 go_enter Tryz.func41,Tryz.ntmps41
 go_wp2_with (go_at_call 60;refine (spinMay_any _ (TA _) _ _ _ _ _ _ _).mono ?_;rintro e w1 ⟨rfl,hb1⟩;have hx:=new_keep hb1;obtain⟨c0,c1,c2,c3⟩:=cells4 hx;obtain⟨d0,d1,d2,d3⟩:=cells4 (obj_keep hx ((Below.refl _ w1).alloc (Nat.le_refl _) zeroB)))
 have h2:=bat_zero w1
 have T1:TabI w1:=(TI.below (ha _) (Nat.le_refl _)).below hb1 (Nat.le_refl _)
 have hw1:=(ha (.cells #[.int .i64 7,.int .i64 n,.int .i64 a,.int .i64 t] 27)).trans (hb1.mono (by simp))
 refine (sides_dekB _ _ _ _ _ _ hb he).mono ?_;rintro e w3 ⟨rfl,hb3⟩
 have h3:=h2.below hb3
 go_wp2_with fail
 obtain⟨F,hB,hF,hback⟩:=h3.alloc (.cells #[.int .u32 ((base+1:Nat):Int),.int .u32 ((base+0:Nat):Int),.int .u32 0,.int .u32 ((base+2:Nat):Int),.int .u32 0] 132)
 have hW:=heap_alloc_new w3 (.cells #[.int .u32 ((base+1:Nat):Int),.int .u32 ((base+0:Nat):Int),.int .u32 0,.int .u32 ((base+2:Nat):Int),.int .u32 0] 132)
 refine (claim_at hB (by omega) (base+2) t (by omega)).mono ?_;rintro e w4 ⟨rfl,h4⟩
 obtain⟨g0,g1,g2,g3,g4⟩:=cells5 (h4.kept hF (by simp) hW)
 go_wp2_with fail
 refine (slowIn_at h4 (by omega) (base+1) (base+0) 0 (base+2) 0).mono ?_;rintro e w5 ⟨rfl,h5⟩
 go_wp2_with fail
 refine (close_at h5 (by omega)).mono ?_;rintro e w6 ⟨rfl,h6⟩
 go_wp2_with fail
 refine (code_at (b:=linDekSlow base t) (hback _ _ _ h6) (by simp only [←BS.run_app];exact congrArg (BS.run BS.zero) rfl) T1 (okDekSlow (by omega) (by omega))).mono ?_;rintro e w20 h20
 obtain⟨⟨v,rfl,hv⟩,hb20⟩:=h20
 go_wp2_with fail
 first | go_ret2 | go_ret
 exact⟨⟨v,rfl,own_base' hv hw1.size⟩,hw1.trans (hb20.mono hw1.size)⟩
set_option maxHeartbeats 4000000 in
theorem codeDekOutA_any(w:World)(TI:TabI w)(TO:TabO w)(n b:Int)(th ar:Int)(t base:Nat)(hA:AskP 7 n t b 2 th t)(hb:base≤100000)(ht:t≤100000):
  Calls Tryz.prog 41 #[.agg #[.int .i64 7,.int .i64 n,.int .i64 t,.int .i64 b],.int .i64 2,.int .i64 th,.int .i64 t,.int .u32 base,.int .u32 ar] w (CodeOk w (linDekOutA base t)):=by
 have dA:decide (AskP 7 n t b 2 th t)=true:=decide_eq_true hA
 have ha:∀ o,Below w.heap.size w (w.alloc o):=fun o=>(Below.refl _ w).alloc (Nat.le_refl _) o
 have TA:∀ o,TabO (w.alloc o):=fun o=>TO.below (ha o) (Nat.le_refl _)
 go_enter Tryz.func41,Tryz.ntmps41
 go_wp2_with (go_at_call 60;refine (spinMay_any _ (TA _) _ _ _ _ _ _ _).mono ?_;rintro e w1 ⟨rfl,hb1⟩;have hx:=new_keep hb1;obtain⟨c0,c1,c2,c3⟩:=cells4 hx;obtain⟨d0,d1,d2,d3⟩:=cells4 (obj_keep hx ((Below.refl _ w1).alloc (Nat.le_refl _) zeroB)))
 have h2:=bat_zero w1
 have T1:TabI w1:=(TI.below (ha _) (Nat.le_refl _)).below hb1 (Nat.le_refl _)
 have hw1:=(ha (.cells #[.int .i64 7,.int .i64 n,.int .i64 t,.int .i64 b] 27)).trans (hb1.mono (by simp))
 refine (sides_dekA _ _ 0 _ _ _ hb).mono ?_;rintro e w3 ⟨rfl,hb3⟩
 have h3:=h2.below hb3
 go_wp2_with fail
 obtain⟨F,hB,hF,hback⟩:=h3.alloc (.cells #[.int .u32 ((base+0:Nat):Int),.int .u32 ((base+1:Nat):Int),.int .u32 0,.int .u32 ((base+2:Nat):Int),.int .u32 0] 132)
 have hW:=heap_alloc_new w3 (.cells #[.int .u32 ((base+0:Nat):Int),.int .u32 ((base+1:Nat):Int),.int .u32 0,.int .u32 ((base+2:Nat):Int),.int .u32 0] 132)
 refine (prove_at hB (by omega) (base+2) t (by omega)).mono ?_;rintro e w4 ⟨rfl,h4⟩
 obtain⟨g0,g1,g2,g3,g4⟩:=cells5 (h4.kept hF (by simp) hW)
 go_wp2_with fail
 refine (sideOut_at h4 (by omega) (base+0) (base+1) 0 (base+2) 0).mono ?_;rintro e w5 ⟨rfl,h5⟩
 go_wp2_with fail
 refine (close_at h5 (by omega)).mono ?_;rintro e w6 ⟨rfl,h6⟩
 go_wp2_with fail
 refine (code_at (b:=linDekOutA base t) (hback _ _ _ h6) (by simp only [←BS.run_app];exact congrArg (BS.run BS.zero) rfl) T1 (okDekOutA (by omega) (by omega))).mono ?_;rintro e w20 h20
 obtain⟨⟨v,rfl,hv⟩,hb20⟩:=h20
 go_wp2_with fail
 first | go_ret2 | go_ret
 exact⟨⟨v,rfl,own_base' hv hw1.size⟩,hw1.trans (hb20.mono hw1.size)⟩
set_option maxHeartbeats 4000000 in
theorem codeDekOutB_any(w:World)(TI:TabI w)(TO:TabO w)(n a:Int)(th ar:Int)(t base:Nat)(hA:AskP 7 n a t 2 th t)(hb:base≤100000)(ht:t≤100000)(he:((t:Int) == a)=false)(hm:((t:Int) != a)=true):
  Calls Tryz.prog 41 #[.agg #[.int .i64 7,.int .i64 n,.int .i64 a,.int .i64 t],.int .i64 2,.int .i64 th,.int .i64 t,.int .u32 base,.int .u32 ar] w (CodeOk w (linDekOutB base t)):=by
 have dA:decide (AskP 7 n a t 2 th t)=true:=decide_eq_true hA
 have ha:∀ o,Below w.heap.size w (w.alloc o):=fun o=>(Below.refl _ w).alloc (Nat.le_refl _) o
 have TA:∀ o,TabO (w.alloc o):=fun o=>TO.below (ha o) (Nat.le_refl _)
 go_enter Tryz.func41,Tryz.ntmps41
 go_wp2_with (go_at_call 60;refine (spinMay_any _ (TA _) _ _ _ _ _ _ _).mono ?_;rintro e w1 ⟨rfl,hb1⟩;have hx:=new_keep hb1;obtain⟨c0,c1,c2,c3⟩:=cells4 hx;obtain⟨d0,d1,d2,d3⟩:=cells4 (obj_keep hx ((Below.refl _ w1).alloc (Nat.le_refl _) zeroB)))
 have h2:=bat_zero w1
 have T1:TabI w1:=(TI.below (ha _) (Nat.le_refl _)).below hb1 (Nat.le_refl _)
 have hw1:=(ha (.cells #[.int .i64 7,.int .i64 n,.int .i64 a,.int .i64 t] 27)).trans (hb1.mono (by simp))
 refine (sides_dekB _ _ _ _ _ _ hb he).mono ?_;rintro e w3 ⟨rfl,hb3⟩
 have h3:=h2.below hb3
 go_wp2_with fail
 obtain⟨F,hB,hF,hback⟩:=h3.alloc (.cells #[.int .u32 ((base+1:Nat):Int),.int .u32 ((base+0:Nat):Int),.int .u32 0,.int .u32 ((base+2:Nat):Int),.int .u32 0] 132)
 have hW:=heap_alloc_new w3 (.cells #[.int .u32 ((base+1:Nat):Int),.int .u32 ((base+0:Nat):Int),.int .u32 0,.int .u32 ((base+2:Nat):Int),.int .u32 0] 132)
 refine (prove_at hB (by omega) (base+2) t (by omega)).mono ?_;rintro e w4 ⟨rfl,h4⟩
 obtain⟨g0,g1,g2,g3,g4⟩:=cells5 (h4.kept hF (by simp) hW)
 go_wp2_with fail
 refine (sideOut_at h4 (by omega) (base+1) (base+0) 0 (base+2) 0).mono ?_;rintro e w5 ⟨rfl,h5⟩
 go_wp2_with fail
 refine (close_at h5 (by omega)).mono ?_;rintro e w6 ⟨rfl,h6⟩
 go_wp2_with fail
 refine (code_at (b:=linDekOutB base t) (hback _ _ _ h6) (by simp only [←BS.run_app];exact congrArg (BS.run BS.zero) rfl) T1 (okDekOutB (by omega) (by omega))).mono ?_;rintro e w20 h20
 obtain⟨⟨v,rfl,hv⟩,hb20⟩:=h20
 go_wp2_with fail
 first | go_ret2 | go_ret
 exact⟨⟨v,rfl,own_base' hv hw1.size⟩,hw1.trans (hb20.mono hw1.size)⟩
end Go.Proofs.YtckmkaeopnnbbaaGreatDoor.As
