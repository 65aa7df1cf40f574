/- The walks of core.run.asks,by ways. -/
import Derived.Test.YtcnmhgblbikfkaaGreatDoorGh
set_option linter.unusedVariables false
set_option linter.unusedSimpArgs false
set_option maxRecDepth 20000
namespace Go.Proofs.YtcnmhgblbikfkaaGreatDoor.As.T
open Go.RowKit

theorem fr_ne{rb mm:Nat}(h:rb≠mm):¬rb=mm:=h
theorem store_evs(s:Ts)(tn ad:Nat)(v:Int):(s.store tn ad v).evs=s.evs:=rfl
theorem TsM.run{Z:Nat→Prop}{w:World}{K:TsK}{s:Ts}{rb j:Nat}(h:TsM Z w K s)(hZ:Z rb)(v:Value):TsM Z (w.setCell ⟨rb,j,none⟩ v) K s:=
 h.keep (Only.set1 (F:=fun k=>k=rb) (p:=⟨rb,j,none⟩) (Only.refl _ _) rfl _) (fun k e _=>by subst e;exact hZ)

set_option maxHeartbeats 4000000 in
theorem asks_load(Z:Nat→Prop)(w:World)(rb:Nat)(n:Int)(K:TsK)(tn:Nat)(s:Ts)(t:Th)(i:Ins)(ad:Int)(hR:RunB w rb n K.mb tn t i ad)(hM:TsM Z w K s)(hZ:Z rb)(hn:s.evs.length≤99999999999)(a:Nat)(ha:a < 8)(hia:i.a=a)(adn:Nat)(had:ad=adn)(hadn:adn < s.mem.length)(htn:tn < s.ths.length)(hop:i.op=16):
  Calls Tryz.prog 154 #[.pointer (some ⟨rb,0,none⟩)] w (RPost Z w rb n K tn i ad (t.put a (s.load tn adn)) (s.note tn ⟨1,0,t.pc,ad,s.load tn adn,0,0,false⟩)):=by
 have HM:=Lib.hid hM
 have HR:=Lib.hid hR
 have HZ:=Lib.hid hZ
 have hlt:=hR.lt
 obtain⟨c0,c9,c10,c11,c12,c13,c14,c15,c16,c17,c18,c19,c20,c21,c22,c23,c24,c25,c26⟩:=hR.cells
 rw [hop] at c10
 subst had
 have hld:=fun W (hW:TsM Z W K s)=>load_ts Z W K s tn hW htn adn hadn
 obtain⟨v,hv⟩:∃ v,v=s.load tn adn:=⟨_,rfl⟩
 rw [←hv] at hld ⊢
 clear hv
 have z1:=hR.reg a ha
 have z2:=hR.frozen (1+a)
 clear hR hM hZ
 go_enter Tryz.func154,Tryz.ntmps154
 go_wp2_with (go_at_call 172;refine (reg_run _ rb n K.mb tn t i _ HR.out a ha hia).mono ?_;rintro r w0 ⟨rfl,m,rfl⟩;have q1:(w.drewN m).cell? ⟨rb,1+a,none⟩=some (.int .u32 (t.reg a)):=HR.out.reg a ha;have q2:(w.drewN m).frozen? ⟨rb,1+a,none⟩=false:=HR.out.frozen (1+a))
 go_region_with (go_at_call 156;refine (hld _ (TsM.drew (TsM.drewN HM.out _))).mono ?_;rintro r w1 ⟨rfl,hb1⟩;have hR1:=(RunB.drew (RunB.drewN HR.out m)).only (Only.of_below (F:=fun _=>False) hb1 (Nat.le_refl _)) (fun e=>e);have hM1:=TsM.below (TsM.drew (TsM.drewN HM.out m)) hb1;have hc1:=hR1.cells;have z3:=hR1.reg a ha;have z4:=hR1.frozen (1+a);have hOb:Only (fun k=>¬Z k∨k=rb) w w1:=(on_drew (on_drewN (Only.refl _ w) m)).trans (Only.of_below hb1 (Nat.le_refl _)) (fun k e=>.inl e))
 all_goals (go_wp2_with (go_at_call 171;refine (note_run Z _ rb n K tn s (t.put a v) i _ (RunB.put hR1 a ha v) (TsM.run hM1 HZ.out _) (by omega) ⟨1,0,0,0,v,0,0,false⟩).mono ?_;rintro r w2 ⟨rfl,hM2,hO2⟩))
 all_goals go_end0
 all_goals exact⟨rfl,(RunB.put hR1 a ha v).only hO2 (fun h=>h HZ.out),hM2,(Only.set1 (F:=fun k=>¬Z k∨k=rb) (p:=⟨rb,1+a,none⟩) hOb (.inr rfl) _).trans hO2 (fun k e=>.inl (.inl e))⟩

set_option maxHeartbeats 4000000 in
theorem asks_store(Z:Nat→Prop)(w:World)(rb:Nat)(n:Int)(K:TsK)(tn:Nat)(s:Ts)(t:Th)(i:Ins)(ad:Int)(hR:RunB w rb n K.mb tn t i ad)(hM:TsM Z w K s)(hZ:Z rb)(hn:s.evs.length≤99999999999)(a:Nat)(ha:a < 8)(hia:i.a=a)(adn:Nat)(had:ad=adn)(hadn:adn < s.mem.length)(htn:tn < s.ths.length)(hro:s.roomy tn=true)(hop:i.op=17):
  Calls Tryz.prog 154 #[.pointer (some ⟨rb,0,none⟩)] w (RPost Z w rb n K tn i ad (t) ((s.store tn adn (t.reg a)).note tn ⟨2,0,t.pc,ad,t.reg a,0,0,false⟩)):=by
 have HM:=Lib.hid hM
 have HR:=Lib.hid hR
 have HZ:=Lib.hid hZ
 have hlt:=hR.lt
 obtain⟨c0,c9,c10,c11,c12,c13,c14,c15,c16,c17,c18,c19,c20,c21,c22,c23,c24,c25,c26⟩:=hR.cells
 rw [hop] at c10
 subst had
 have z1:=hR.reg a ha
 have z2:=hR.frozen (1+a)
 clear hR hM hZ
 go_enter Tryz.func154,Tryz.ntmps154
 go_wp2_with (go_at_call 172;refine (reg_run _ rb n K.mb tn t i _ HR.out a ha hia).mono ?_;rintro r w0 ⟨rfl,m,rfl⟩;have q1:(w.drewN m).cell? ⟨rb,1+a,none⟩=some (.int .u32 (t.reg a)):=HR.out.reg a ha;have q2:(w.drewN m).frozen? ⟨rb,1+a,none⟩=false:=HR.out.frozen (1+a))
 go_region_with (go_at_call 158;refine (store_ts Z _ K s tn (TsM.drew (TsM.drewN HM.out _)) htn hro adn (t.reg a)).mono ?_;rintro r w1 ⟨rfl,hM1,hO1⟩;have hR1:=(RunB.drew (RunB.drewN HR.out m)).only hO1 (fun h=>h HZ.out);have z1:w1.cell? ⟨rb,1+a,none⟩=some (.int .u32 (t.reg a)):=hR1.reg a ha;have hO1b:Only (fun k=>¬Z k∨k=rb) w w1:=(on_drew (on_drewN (Only.refl _ w) m)).trans hO1 (fun k e=>.inl (.inl e)))
 all_goals (go_wp2_with (go_at_call 171;refine (note_run Z _ rb n K tn _ t i _ hR1 hM1 (by rw [store_evs];omega) ⟨2,0,0,0,t.reg a,0,0,false⟩).mono ?_;rintro r w2 ⟨rfl,hM2,hO2⟩))
 all_goals go_end0
 all_goals exact⟨rfl,hR1.only hO2 (fun h=>h HZ.out),hM2,hO1b.trans hO2 (fun k e=>.inl (.inl e))⟩

set_option maxHeartbeats 4000000 in
theorem asks_swap(Z:Nat→Prop)(w:World)(rb:Nat)(n:Int)(K:TsK)(tn:Nat)(s:Ts)(t:Th)(i:Ins)(ad:Int)(hR:RunB w rb n K.mb tn t i ad)(hM:TsM Z w K s)(hZ:Z rb)(hn:s.evs.length≤99999999999)(a:Nat)(ha:a < 8)(hia:i.a=a)(adn:Nat)(had:ad=adn)(hadn:adn < s.mem.length)(htn:tn < s.ths.length)(hop:i.op=19):
  Calls Tryz.prog 154 #[.pointer (some ⟨rb,0,none⟩)] w (RPost Z w rb n K tn i ad (t.put a (s.load tn adn)) ((s.swap adn (t.reg a)).note tn ⟨4,0,t.pc,ad,t.reg a,s.load tn adn,0,true⟩)):=by
 have HM:=Lib.hid hM
 have HR:=Lib.hid hR
 have HZ:=Lib.hid hZ
 have hlt:=hR.lt
 obtain⟨c0,c9,c10,c11,c12,c13,c14,c15,c16,c17,c18,c19,c20,c21,c22,c23,c24,c25,c26⟩:=hR.cells
 rw [hop] at c10
 subst had
 have hld:=fun W (hW:TsM Z W K s)=>load_ts Z W K s tn hW htn adn hadn
 obtain⟨v,hv⟩:∃ v,v=s.load tn adn:=⟨_,rfl⟩
 rw [←hv] at hld ⊢
 clear hv
 have z1:=hR.reg a ha
 have z2:=hR.frozen (1+a)
 clear hR hM hZ
 go_enter Tryz.func154,Tryz.ntmps154
 go_wp2_with (go_at_call 172;refine (reg_run _ rb n K.mb tn t i _ HR.out a ha hia).mono ?_;rintro r w0 ⟨rfl,m,rfl⟩;have q1:(w.drewN m).cell? ⟨rb,1+a,none⟩=some (.int .u32 (t.reg a)):=HR.out.reg a ha;have q2:(w.drewN m).frozen? ⟨rb,1+a,none⟩=false:=HR.out.frozen (1+a))
 go_region_with (first | (go_at_call 156;refine (hld _ (TsM.drew (TsM.drewN HM.out _))).mono ?_;rintro r w1 ⟨rfl,hb1⟩;have hR1:=(RunB.drew (RunB.drewN HR.out m)).only (Only.of_below (F:=fun _=>False) hb1 (Nat.le_refl _)) (fun e=>e);have hM1:=TsM.below (TsM.drew (TsM.drewN HM.out m)) hb1;have hc1:=hR1.cells;have z3:=hR1.reg a ha;have z4:=hR1.frozen (1+a);have hOb:Only (fun k=>¬Z k∨k=rb) w w1:=(on_drew (on_drewN (Only.refl _ w) m)).trans (Only.of_below hb1 (Nat.le_refl _)) (fun k e=>.inl e)) | (go_at_call 173;refine (locked_yes Z _ rb n K tn s t i _ hR1 hM1 HZ.out hn a ha hia adn rfl hadn htn v (t.reg a)).mono ?_;rintro r w2 ⟨rfl,hR2,hM2,hO2⟩))
 all_goals (try go_wp2_with fail)
 all_goals go_end0
 all_goals exact⟨rfl,hR2,hM2,hOb.trans hO2 (fun k e=>.inl e)⟩

set_option maxHeartbeats 4000000 in
theorem asks_fetch(Z:Nat→Prop)(w:World)(rb:Nat)(n:Int)(K:TsK)(tn:Nat)(s:Ts)(t:Th)(i:Ins)(ad:Int)(hR:RunB w rb n K.mb tn t i ad)(hM:TsM Z w K s)(hZ:Z rb)(hn:s.evs.length≤99999999999)(a:Nat)(ha:a < 8)(hia:i.a=a)(adn:Nat)(had:ad=adn)(hadn:adn < s.mem.length)(htn:tn < s.ths.length)(hop:i.op=20):
  Calls Tryz.prog 154 #[.pointer (some ⟨rb,0,none⟩)] w (RPost Z w rb n K tn i ad (t.put a (s.load tn adn)) ((s.swap adn (wr32 (s.load tn adn+t.reg a))).note tn ⟨4,0,t.pc,ad,wr32 (s.load tn adn+t.reg a),s.load tn adn,0,true⟩)):=by
 have HM:=Lib.hid hM
 have HR:=Lib.hid hR
 have HZ:=Lib.hid hZ
 have hlt:=hR.lt
 obtain⟨c0,c9,c10,c11,c12,c13,c14,c15,c16,c17,c18,c19,c20,c21,c22,c23,c24,c25,c26⟩:=hR.cells
 rw [hop] at c10
 subst had
 have hld:=fun W (hW:TsM Z W K s)=>load_ts Z W K s tn hW htn adn hadn
 obtain⟨v,hv⟩:∃ v,v=s.load tn adn:=⟨_,rfl⟩
 rw [←hv] at hld ⊢
 clear hv
 have qw:IntKind.u32.wrap (v+t.reg a)=wr32 (v+t.reg a):=by rw [IntKind.wrap_u32];unfold wr32;omega
 have z1:=hR.reg a ha
 have z2:=hR.frozen (1+a)
 clear hR hM hZ
 go_enter Tryz.func154,Tryz.ntmps154
 go_wp2_with (go_at_call 172;refine (reg_run _ rb n K.mb tn t i _ HR.out a ha hia).mono ?_;rintro r w0 ⟨rfl,m,rfl⟩;have q1:(w.drewN m).cell? ⟨rb,1+a,none⟩=some (.int .u32 (t.reg a)):=HR.out.reg a ha;have q2:(w.drewN m).frozen? ⟨rb,1+a,none⟩=false:=HR.out.frozen (1+a))
 go_region_with (go_at_call 156;refine (hld _ (TsM.drew (TsM.drewN HM.out _))).mono ?_;rintro r w1 ⟨rfl,hb1⟩;have hR1:=(RunB.drew (RunB.drewN HR.out m)).only (Only.of_below (F:=fun _=>False) hb1 (Nat.le_refl _)) (fun e=>e);have hM1:=TsM.below (TsM.drew (TsM.drewN HM.out m)) hb1;have hc1:=hR1.cells;have z3:=hR1.reg a ha;have z4:=hR1.frozen (1+a);have hOb:Only (fun k=>¬Z k∨k=rb) w w1:=(on_drew (on_drewN (Only.refl _ w) m)).trans (Only.of_below hb1 (Nat.le_refl _)) (fun k e=>.inl e))
 all_goals (go_wp2_with (go_at_call 173;refine (locked_yes Z _ rb n K tn s t i _ hR1 hM1 HZ.out hn a ha hia adn rfl hadn htn v (wr32 (v+t.reg a))).mono ?_;rintro r w2 ⟨rfl,hR2,hM2,hO2⟩))
 all_goals (try go_wp2_with fail)
 all_goals go_end0
 all_goals exact⟨rfl,hR2,hM2,hOb.trans hO2 (fun k e=>.inl e)⟩

set_option maxHeartbeats 4000000 in
theorem asks_casy(Z:Nat→Prop)(w:World)(rb:Nat)(n:Int)(K:TsK)(tn:Nat)(s:Ts)(t:Th)(i:Ins)(ad:Int)(hR:RunB w rb n K.mb tn t i ad)(hM:TsM Z w K s)(hZ:Z rb)(hn:s.evs.length≤99999999999)(a:Nat)(ha:a < 8)(hia:i.a=a)(adn:Nat)(had:ad=adn)(hadn:adn < s.mem.length)(htn:tn < s.ths.length)(hop:i.op=21)(c:Nat)(hc:c < 8)(hic:i.c=c)(hq :  s.load tn adn=t.reg a):
  Calls Tryz.prog 154 #[.pointer (some ⟨rb,0,none⟩)] w (RPost Z w rb n K tn i ad (t.put a (s.load tn adn)) ((s.swap adn (t.reg c)).note tn ⟨4,0,t.pc,ad,t.reg c,s.load tn adn,0,true⟩)):=by
 have HM:=Lib.hid hM
 have HR:=Lib.hid hR
 have HZ:=Lib.hid hZ
 have hlt:=hR.lt
 obtain⟨c0,c9,c10,c11,c12,c13,c14,c15,c16,c17,c18,c19,c20,c21,c22,c23,c24,c25,c26⟩:=hR.cells
 rw [hop] at c10
 subst had
 have hld:=fun W (hW:TsM Z W K s)=>load_ts Z W K s tn hW htn adn hadn
 obtain⟨v,hv⟩:∃ v,v=s.load tn adn:=⟨_,rfl⟩
 rw [←hv] at hld hq ⊢
 clear hv
 rw [hic] at c13
 have hqb:(v == t.reg a)=true:=by simp [hq]
 have h1:(c:Int) < 8:=by omega
 have h0:(0:Int)≤(c:Int):=by omega
 clear hq
 have z1:=hR.reg a ha
 have z2:=hR.frozen (1+a)
 clear hR hM hZ
 go_enter Tryz.func154,Tryz.ntmps154
 go_wp2_with (go_at_call 172;refine (reg_run _ rb n K.mb tn t i _ HR.out a ha hia).mono ?_;rintro r w0 ⟨rfl,m,rfl⟩;have q1:(w.drewN m).cell? ⟨rb,1+a,none⟩=some (.int .u32 (t.reg a)):=HR.out.reg a ha;have p1:(w.drewN m).cell? ⟨rb,1+c,none⟩=some (.int .u32 (t.reg c)):=HR.out.reg c hc;have q2:(w.drewN m).frozen? ⟨rb,1+a,none⟩=false:=HR.out.frozen (1+a))
 have p0:=HR.out.reg c hc
 go_region_with (go_at_call 156;refine (hld _ (TsM.drew (TsM.drewN HM.out _))).mono ?_;rintro r w1 ⟨rfl,hb1⟩;have hR1:=(RunB.drew (RunB.drewN HR.out m)).only (Only.of_below (F:=fun _=>False) hb1 (Nat.le_refl _)) (fun e=>e);have hM1:=TsM.below (TsM.drew (TsM.drewN HM.out m)) hb1;have hc1:=hR1.cells;have z3:=hR1.reg a ha;have z4:=hR1.frozen (1+a);have z5:=hR1.reg c hc;have hOb:Only (fun k=>¬Z k∨k=rb) w w1:=(on_drew (on_drewN (Only.refl _ w) m)).trans (Only.of_below hb1 (Nat.le_refl _)) (fun k e=>.inl e))
 all_goals go_wp2_with fail
 all_goals (go_region_with (go_at_call 173;refine (locked_yes Z _ rb n K tn s t i _ (RunB.drew hR1) (TsM.drew hM1) HZ.out hn a ha hia adn rfl hadn htn v (t.reg c)).mono ?_;rintro r w2 ⟨rfl,hR2,hM2,hO2⟩))
 all_goals (try go_wp2_with fail)
 all_goals go_end0
 all_goals exact⟨rfl,hR2,hM2,(on_drew hOb).trans hO2 (fun k e=>.inl e)⟩

set_option maxHeartbeats 4000000 in
theorem asks_casn(Z:Nat→Prop)(w:World)(rb:Nat)(n:Int)(K:TsK)(tn:Nat)(s:Ts)(t:Th)(i:Ins)(ad:Int)(hR:RunB w rb n K.mb tn t i ad)(hM:TsM Z w K s)(hZ:Z rb)(hn:s.evs.length≤99999999999)(a:Nat)(ha:a < 8)(hia:i.a=a)(adn:Nat)(had:ad=adn)(hadn:adn < s.mem.length)(htn:tn < s.ths.length)(hop:i.op=21)(c:Nat)(hc:c < 8)(hic:i.c=c)(hq:¬s.load tn adn=t.reg a):
  Calls Tryz.prog 154 #[.pointer (some ⟨rb,0,none⟩)] w (RPost Z w rb n K tn i ad (t.put a (s.load tn adn)) (s.note tn ⟨4,0,t.pc,ad,s.load tn adn,s.load tn adn,0,false⟩)):=by
 have HM:=Lib.hid hM
 have HR:=Lib.hid hR
 have HZ:=Lib.hid hZ
 have hlt:=hR.lt
 obtain⟨c0,c9,c10,c11,c12,c13,c14,c15,c16,c17,c18,c19,c20,c21,c22,c23,c24,c25,c26⟩:=hR.cells
 rw [hop] at c10
 subst had
 have hld:=fun W (hW:TsM Z W K s)=>load_ts Z W K s tn hW htn adn hadn
 obtain⟨v,hv⟩:∃ v,v=s.load tn adn:=⟨_,rfl⟩
 rw [←hv] at hld hq ⊢
 clear hv
 rw [hic] at c13
 have hqb:(v == t.reg a)=false:=by simp [hq]
 have h1:(c:Int) < 8:=by omega
 have h0:(0:Int)≤(c:Int):=by omega
 clear hq
 have z1:=hR.reg a ha
 have z2:=hR.frozen (1+a)
 clear hR hM hZ
 go_enter Tryz.func154,Tryz.ntmps154
 go_wp2_with (go_at_call 172;refine (reg_run _ rb n K.mb tn t i _ HR.out a ha hia).mono ?_;rintro r w0 ⟨rfl,m,rfl⟩;have q1:(w.drewN m).cell? ⟨rb,1+a,none⟩=some (.int .u32 (t.reg a)):=HR.out.reg a ha;have p1:(w.drewN m).cell? ⟨rb,1+c,none⟩=some (.int .u32 (t.reg c)):=HR.out.reg c hc;have q2:(w.drewN m).frozen? ⟨rb,1+a,none⟩=false:=HR.out.frozen (1+a))
 have p0:=HR.out.reg c hc
 go_region_with (go_at_call 156;refine (hld _ (TsM.drew (TsM.drewN HM.out _))).mono ?_;rintro r w1 ⟨rfl,hb1⟩;have hR1:=(RunB.drew (RunB.drewN HR.out m)).only (Only.of_below (F:=fun _=>False) hb1 (Nat.le_refl _)) (fun e=>e);have hM1:=TsM.below (TsM.drew (TsM.drewN HM.out m)) hb1;have hc1:=hR1.cells;have z3:=hR1.reg a ha;have z4:=hR1.frozen (1+a);have z5:=hR1.reg c hc;have hOb:Only (fun k=>¬Z k∨k=rb) w w1:=(on_drew (on_drewN (Only.refl _ w) m)).trans (Only.of_below hb1 (Nat.le_refl _)) (fun k e=>.inl e))
 all_goals go_wp2_with fail
 all_goals (go_region_with (go_at_call 173;refine (locked_no Z _ rb n K tn s t i _ (RunB.drew hR1) (TsM.drew hM1) HZ.out hn a ha hia v (t.reg c)).mono ?_;rintro r w2 ⟨rfl,hR2,hM2,hO2⟩))
 all_goals (try go_wp2_with fail)
 all_goals go_end0
 all_goals exact⟨rfl,hR2,hM2,(on_drew hOb).trans hO2 (fun k e=>.inl e)⟩
end Go.Proofs.YtcnmhgblbikfkaaGreatDoor.As.T
