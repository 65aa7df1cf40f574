/- core.Step on a machine tso,whatever instruction of those that locks use. core.Step on a machine tso: a thread that ends,or that has ended; any step. -/
import Derived.Test.YtcnmhgblbikfkaaGreatDoorTsZ
import Derived.Test.YtcnmhgblbikfkaaGreatDoorTsA
import Derived.Test.YtcnmhgblbikfkaaGreatDoorGi
section
set_option linter.unusedVariables false
set_option linter.unusedSimpArgs false
set_option maxRecDepth 20000
namespace Go.Proofs.YtcnmhgblbikfkaaGreatDoor.As.T
open Go.RowKit

def wd(x:Int):Bool:=decide (0≤x) && decide (x≤4294967295)
def usesI(op:Int):Bool:=op == 1 || op == 2 || op == 3 || op == 12 || op == 13 || op == 14 || op == 15 || op == 16 || op == 17 || op == 18 || op == 19 || op == 20 || op == 21 || op == 22 || op == 25 || op == 26 || op == 27 || op == 23 || op == 24
def okI(n:Nat)(i:Ins):Bool:=rightI i n && wd i.k && usesI i.op
def okT(n:Nat)(t:Th):Bool:=decide (0≤t.pc) && decide (t.pc≤n) && decide (t.regs.length=8) && t.regs.all wd
theorem wd_iff{x:Int}:wd x=true↔0≤x∧x≤4294967295:=by simp [wd]
theorem reg_wd{t:Th}(h:t.regs.all wd=true)(j:Int):0≤t.reg j∧t.reg j≤4294967295:=by
 unfold Th.reg
 rw [List.getD_eq_getElem?_getD]
 cases e:t.regs[j.toNat]? with
 | none=>exact⟨by decide,by decide⟩
 | some v=>exact wd_iff.1 (List.all_eq_true.1 h v (List.mem_of_getElem? e))
theorem put_len(t:Th)(a v:Int):(t.put a v).regs.length=t.regs.length:=by simp [Th.put]
theorem rightI_b{i:Ins}{n:Int}(h:rightI i n=true)(ho:i.op=2∨i.op=3∨i.op=12):i.b < 8:=by
 have e8:bitI (opUses.getD i.op.toNat 0) 8=false:=by rcases ho with e | e | e<;>rw [e]<;>decide
 have e10:bitI (opUses.getD i.op.toNat 0) 10=true:=by rcases ho with e | e | e<;>rw [e]<;>decide
 unfold rightI at h
 simp only [e8,e10,Bool.and_eq_true,decide_eq_true_eq] at h
 have hB:=h.2.1.1.2
 unfold fieldI at hB
 simp at hB
 omega
theorem rightI_b26{i:Ins}{n:Int}(h:rightI i n=true)(ho:i.op=26):i.b=0:=by
 have e8:bitI (opUses.getD i.op.toNat 0) 8=false:=by rw [ho];decide
 have e10:bitI (opUses.getD i.op.toNat 0) 10=false:=by rw [ho];decide
 unfold rightI at h
 simp only [e8,e10,Bool.and_eq_true,decide_eq_true_eq] at h
 have hB:=h.2.1.1.2
 unfold fieldI at hB
 simpa using hB
theorem addrI_wd{t:Th}{i:Ins}(hk:wd i.k=true):0≤addrI t i:=by
 unfold addrI
 split
 ·exact (wd_iff.1 hk).1
 ·unfold wr32;omega
theorem jumps_iff(op:Int):jumps op=true↔jumpsI op:=by
 simp [jumps,jumpsI,or_assoc]
theorem stepI_at{tn:Nat}{L:List Ins}{th:Th}{i:Ins}{s:Ts}(h0:th.st=0)(hp:0≤th.pc)(hi:L[th.pc.toNat]? = some i):
  stepI (tsP tn) L th s=if asksI i.op∧(s.mem.length:Int)≤(if asksI i.op then addrI th i else 0) then none
   else if (drainsI i.op∧s.empty tn=false)∨(i.op=17∧s.roomy tn=false) then some (th,s.flush tn)
   else if i.op=0 then some ({ th with st:=2 },s.note tn ⟨12,0,th.pc,0,0,0,0,false⟩)
   else if jumpsI i.op then some (if goesI i th=true then { th with pc:=i.k } else th.next,s)
   else if asksI i.op then (asks (tsP tn) i (if asksI i.op then addrI th i else 0).toNat th s).map fun q=>(q.1.next,q.2)
   else (plainI (tsP tn) i th s).map fun q=>(q.1.next,q.2):=by
 have hlt:=(List.getElem?_eq_some_iff.1 hi).1
 unfold stepI
 rw [if_neg (fun h=>h h0),if_neg (by omega)]
 rw [hi]
 rfl
theorem flB_iff(s:Ts)(tn:Nat)(i:Ins):flB s tn i=true↔(drainsI i.op∧s.empty tn=false)∨(i.op=17∧s.roomy tn=false):=by
 unfold flB
 simp only [Bool.or_eq_true,Bool.and_eq_true,decide_eq_true_eq,Bool.not_eq_true',beq_iff_eq]
set_option maxHeartbeats 2000000 in
theorem way_of{Z:Nat→Prop}{w:World}{K:TsK}{tn:Nat}{s:Ts}{th:Th}{i:Ins}{L:List Ins}{q:Th×Ts}(hM:TsM Z w K s)(hr:rightI i L.length=true)(hk:wd i.k=true)(hu:usesI i.op=true)(h8:th.regs.length=8)(hw:th.regs.all wd=true)(h0:th.st=0)(hpc:0≤th.pc∧th.pc < L.length)(hlen:L.length≤4000)(hi:L[th.pc.toNat]? = some i)(htn:tn < s.ths.length)(hok:s.okB)(hT:s.ths.length≤1000)(hne:s.evs.length+s.pend≤99999999999)(hstep:stepI (tsP tn) L th s=some q):
  ∃ ad:Nat,((asksI i.op∧addrI th i=ad∧(ad:Int) < s.mem.length)∨(¬asksI i.op∧ad=0))∧StepWay Z w (s.mem.length:Int) K tn s th i ad q.1 q.2:=by
 rw [stepI_at h0 hpc.1 hi] at hstep
 have hop:=rightI_op hr
 have hkk:=wd_iff.1 hk
 obtain⟨a,hia⟩:=Int.eq_ofNat_of_zero_le hop.2.2.1.1
 have ha8:a < 8:=by have:=hop.2.2.1.2;omega
 obtain⟨c,hic⟩:=Int.eq_ofNat_of_zero_le hop.2.2.2.2.1
 have hc8:c < 8:=by have:=hop.2.2.2.2.2;omega
 obtain⟨b,hib⟩:=Int.eq_ofNat_of_zero_le hop.2.2.2.1.1
 have zz:Z4 Z w.heap.size (w.heap.size+1+1+1):=.inr (.inr (.inr (.inr rfl)))
 have hrr:=reg_wd hw
 have hn:s.evs.length≤99999999999:=by omega
 have hev:usesI i.op=true:=hu
 simp only [usesI,Bool.or_eq_true,beq_iff_eq] at hev
 obtain⟨pc,regs,st⟩:=th
 dsimp only at h8 hw h0 hpc
 subst h0
 obtain⟨r0,r1,r2,r3,r4,r5,r6,r7,rfl⟩:=list8 h8
 have hp6:∀ p:Int,p=pc→p≤1000000∧0≤p:=fun p e=>⟨by omega,by omega⟩
 obtain⟨th,hth⟩:∃ th:Th,th=⟨pc,[r0,r1,r2,r3,r4,r5,r6,r7],0⟩:=⟨_,rfl⟩
 rw [←hth] at hstep ⊢ hrr
 -- the thread behind a register's turn
 have form:∀ (T2:Th),T2.regs.length=8→T2.pc=pc→T2.st=0→∃ q0 q1 q2 q3 q4 q5 q6 q7,T2=⟨pc,[q0,q1,q2,q3,q4,q5,q6,q7],0⟩:=by
  intro T2 e8 e1 e2
  obtain⟨p2,g2,s2⟩:=T2
  dsimp only at e8 e1 e2
  subst e1;subst e2
  obtain⟨q0,q1,q2,q3,q4,q5,q6,q7,rfl⟩:=list8 e8
  exact⟨_,_,_,_,_,_,_,_,rfl⟩
 have t8:th.regs.length=8:=by rw [hth];rfl
 have tp:th.pc=pc:=by rw [hth]
 have ts:th.st=0:=by rw [hth]
 by_cases hj:jumpsI i.op
 ·have hna:¬asksI i.op:=by rcases hj with e | e | e<;>rw [e]<;>decide
  have hnz:¬i.op=0:=by rcases hj with e | e | e<;>rw [e]<;>decide
  have hnd:¬((drainsI i.op∧s.empty tn=false)∨(i.op=17∧s.roomy tn=false)):=by rcases hj with e | e | e<;>rw [e]<;>rintro (⟨h,_⟩ | ⟨h,_⟩)<;>revert h<;>decide
  rw [if_neg (fun h=>hna h.1),if_neg hnd,if_neg hnz,if_pos hj] at hstep
  obtain rfl:q=_:=(Option.some.inj hstep).symm
  refine⟨0,.inr ⟨hna,rfl⟩,?_⟩
  have hfl:flB s tn i=false:=by
   cases h:flB s tn i with
   | false=>rfl
   | true=>exact absurd ((flB_iff s tn i).1 h) hnd
  refine StepWay.jump hfl (by simpa using hnz) ((jumps_iff _).2 hj) _ rfl (fun W hR=>?_)
  rcases hj with e | e | e
  ·exact goes_jump W _ _ K.mb tn th i _ hR e
  ·exact goes_zero W _ _ K.mb tn th i _ hR e a ha8 hia
  ·exact goes_some W _ _ K.mb tn th i _ hR e a ha8 hia
 have hjf:jumps i.op=false:=by cases e:jumps i.op with | false=>rfl | true=>exact absurd ((jumps_iff _).1 e) hj
 by_cases ha:asksI i.op
 ·simp only [if_pos ha] at hstep
  have hsz:¬((s.mem.length:Int)≤addrI th i):=by
   intro h
   rw [if_pos ⟨ha,h⟩] at hstep
   cases hstep
  rw [if_neg (fun h=>hsz h.2)] at hstep
  obtain⟨adn,had⟩:=Int.eq_ofNat_of_zero_le (addrI_wd (t:=th) hk)
  have hadn:adn < s.mem.length:=by omega
  have e1:(addrI th i).toNat=adn:=by rw [had];rfl
  rw [e1] at hstep
  refine⟨adn,.inl ⟨ha,had,by omega⟩,?_⟩
  have d0:(i.op == 0)=false:=by rcases ha with e | e | e | e | e | e | e<;>rw [e]<;>rfl
  by_cases hf:(drainsI i.op∧s.empty tn=false)∨(i.op=17∧s.roomy tn=false)
  ·rw [if_pos hf] at hstep
   obtain rfl:q=_:=(Option.some.inj hstep).symm
   exact StepWay.flush ((flB_iff s tn i).2 hf)
  have hfl:flB s tn i=false:=by
   cases h:flB s tn i with
   | false=>rfl
   | true=>exact absurd ((flB_iff s tn i).1 h) hf
  rw [if_neg hf,if_neg (by simpa using d0),if_neg hj] at hstep
  have goA:=fun (T2:Th) (s':Ts) (e8:T2.regs.length=8) (ep:T2.pc=pc) (es:T2.st=0) (hc:∀ W,RunB W (w.heap.size+1+1+1) (s.mem.length:Int) K.mb tn th i adn→TsM (Z4 Z w.heap.size) W K s→Calls Tryz.prog 154 #[.pointer (some ⟨w.heap.size+1+1+1,0,none⟩)] W (RPost (Z4 Z w.heap.size) W (w.heap.size+1+1+1) (s.mem.length:Int) K tn i adn T2 s'))=>(show StepWay Z w (s.mem.length:Int) K tn s th i adn T2.next s' from by
   obtain⟨q0,q1,q2,q3,q4,q5,q6,q7,rfl⟩:=form T2 e8 ep es
   exact StepWay.asks hfl d0 hjf ha pc q0 q1 q2 q3 q4 q5 q6 q7 0 (hp6 pc rfl) s' hc)
  unfold asks at hstep
  rcases ha with e | e | e | e | e | e | e
  ·rw [if_pos e] at hstep
   obtain rfl:q=_:=(Option.some.inj hstep).symm
   exact goA (th.put i.a (s.load tn adn)) (s.note tn ⟨1,0,th.pc,adn,s.load tn adn,0,0,false⟩) ((put_len _ _ _).trans t8) tp ts (fun W hR hW=>by rw [hia];exact asks_load _ W _ _ K tn s th i _ hR hW zz hn a ha8 hia adn rfl hadn htn e)
  ·have hro:s.roomy tn=true:=by
    cases h:s.roomy tn with
    | true=>rfl
    | false=>exact absurd (.inr ⟨e,h⟩) hf
   rw [if_neg (by omega),if_pos e] at hstep
   obtain rfl:q=_:=(Option.some.inj hstep).symm
   exact goA th ((s.store tn adn (th.reg i.a)).note tn ⟨2,0,th.pc,adn,th.reg i.a,0,0,false⟩) t8 tp ts (fun W hR hW=>by rw [hia];exact asks_store _ W _ _ K tn s th i _ hR hW zz hn a ha8 hia adn rfl hadn htn hro e)
  ·rw [if_neg (by omega),if_neg (by omega),if_pos e] at hstep
   obtain rfl:q=_:=(Option.some.inj hstep).symm
   exact goA (th.put i.a (s.load tn adn)) ((s.swap adn (th.reg i.a)).note tn ⟨4,0,th.pc,adn,th.reg i.a,s.load tn adn,0,true⟩) ((put_len _ _ _).trans t8) tp ts (fun W hR hW=>by rw [hia];exact asks_swap _ W _ _ K tn s th i _ hR hW zz hn a ha8 hia adn rfl hadn htn e)
  ·rw [if_neg (by omega),if_neg (by omega),if_neg (by omega),if_pos e] at hstep
   obtain rfl:q=_:=(Option.some.inj hstep).symm
   exact goA (th.put i.a (s.load tn adn)) ((s.swap adn (wr32 (s.load tn adn+th.reg i.a))).note tn ⟨4,0,th.pc,adn,wr32 (s.load tn adn+th.reg i.a),s.load tn adn,0,true⟩) ((put_len _ _ _).trans t8) tp ts (fun W hR hW=>by rw [hia];exact asks_fetch _ W _ _ K tn s th i _ hR hW zz hn a ha8 hia adn rfl hadn htn e)
  ·rw [if_neg (by omega),if_neg (by omega),if_neg (by omega),if_neg (by omega),if_pos e] at hstep
   dsimp only at hstep
   by_cases hq:s.load tn adn=th.reg i.a
   ·rw [if_pos (show (tsP tn).load s adn=th.reg i.a from hq)] at hstep
    obtain rfl:q=_:=(Option.some.inj hstep).symm
    rw [hia] at hq
    exact goA (th.put i.a (s.load tn adn)) ((s.swap adn (th.reg i.c)).note tn ⟨4,0,th.pc,adn,th.reg i.c,s.load tn adn,0,true⟩) ((put_len _ _ _).trans t8) tp ts (fun W hR hW=>by rw [hia,hic];exact asks_casy _ W _ _ K tn s th i _ hR hW zz hn a ha8 hia adn rfl hadn htn e c hc8 hic hq)
   ·rw [if_neg (show ¬(tsP tn).load s adn=th.reg i.a from hq)] at hstep
    obtain rfl:q=_:=(Option.some.inj hstep).symm
    rw [hia] at hq
    exact goA (th.put i.a (s.load tn adn)) (s.note tn ⟨4,0,th.pc,adn,s.load tn adn,s.load tn adn,0,false⟩) ((put_len _ _ _).trans t8) tp ts (fun W hR hW=>by rw [hia];exact asks_casn _ W _ _ K tn s th i _ hR hW zz hn a ha8 hia adn rfl hadn htn e c hc8 hic hq)
  ·rw [if_neg (by omega),if_neg (by omega),if_neg (by omega),if_neg (by omega),if_neg (by omega)] at hstep;cases hstep
  ·rw [if_neg (by omega),if_neg (by omega),if_neg (by omega),if_neg (by omega),if_neg (by omega)] at hstep;cases hstep
 ·have hnz:¬i.op=0:=by intro e;rw [e] at hu;exact absurd hu (by decide)
  have h17:¬i.op=17:=fun e=>ha (.inr (.inl e))
  have d0:(i.op == 0)=false:=by simpa using hnz
  refine⟨0,.inr ⟨ha,rfl⟩,?_⟩
  simp only [if_neg ha] at hstep
  rw [if_neg (fun h=>ha h.1)] at hstep
  by_cases hf:(drainsI i.op∧s.empty tn=false)∨(i.op=17∧s.roomy tn=false)
  ·rw [if_pos hf] at hstep
   obtain rfl:q=_:=(Option.some.inj hstep).symm
   exact StepWay.flush ((flB_iff s tn i).2 hf)
  have hfl:flB s tn i=false:=by
   cases h:flB s tn i with
   | false=>rfl
   | true=>exact absurd ((flB_iff s tn i).1 h) hf
  rw [if_neg hf,if_neg hnz,if_neg hj] at hstep
  have goP:=fun (T2:Th) (s':Ts) (e8:T2.regs.length=8) (ep:T2.pc=pc) (es:T2.st=0) (hc:∀ W,RunB W (w.heap.size+1+1+1) (s.mem.length:Int) K.mb tn th i ((0:Nat):Int)→TsM (Z4 Z w.heap.size) W K s→Calls Tryz.prog 155 #[.pointer (some ⟨w.heap.size+1+1+1,0,none⟩)] W (RPost (Z4 Z w.heap.size) W (w.heap.size+1+1+1) (s.mem.length:Int) K tn i ((0:Nat):Int) T2 s'))=>(show StepWay Z w (s.mem.length:Int) K tn s th i 0 T2.next s' from by
   obtain⟨q0,q1,q2,q3,q4,q5,q6,q7,rfl⟩:=form T2 e8 ep es
   exact StepWay.plain hfl d0 hjf ha pc q0 q1 q2 q3 q4 q5 q6 q7 0 (hp6 pc rfl) s' hc)
  have hcase:i.op=1∨i.op=2∨i.op=3∨i.op=12∨i.op=18∨i.op=22∨i.op=25∨i.op=26∨i.op=27:=by
   simp only [asksI] at ha
   simp only [jumpsI] at hj
   omega
  unfold plainI at hstep
  rcases hcase with e | e | e | e | e | e | e | e | e
  ·rw [if_pos e] at hstep
   obtain rfl:q=_:=(Option.some.inj hstep).symm
   exact goP (th.put i.a i.k) s ((put_len _ _ _).trans t8) tp ts (fun W hR hW=>by rw [hia];exact plain_set _ W _ _ K tn s th i _ hR hW zz hn e a ha8 hia)
  ·have hb8:b < 8:=by have:=rightI_b hr (.inl e);omega
   rw [if_neg (by omega),if_pos e] at hstep
   obtain rfl:q=_:=(Option.some.inj hstep).symm
   exact goP (th.put i.a (th.reg i.b)) s ((put_len _ _ _).trans t8) tp ts (fun W hR hW=>by rw [hia,hib];exact plain_move _ W _ _ K tn s th i _ hR hW zz hn e a ha8 hia b hb8 hib)
  ·have hb8:b < 8:=by have:=rightI_b hr (.inr (.inl e));omega
   rw [if_neg (by omega),if_neg (by omega),if_neg (by omega),if_neg (by omega),if_neg (by omega),if_neg (by omega),if_neg (by omega)] at hstep
   unfold aluI at hstep
   rw [if_pos e] at hstep
   obtain rfl:q=_:=(Option.some.inj hstep).symm
   refine goP (th.put i.a (wr32 (th.reg i.b+th.reg i.c))) s ((put_len _ _ _).trans t8) tp ts (fun W hR hW=>?_)
   rw [hia,hib,hic]
   exact plain_alu _ W _ _ K tn s th i _ hR hW zz a ha8 hia b hb8 hib c hc8 hic (by rw [e];rfl) (by rw [e];rfl) (by rw [e];rfl) (by rw [e];rfl) (by rw [e];rfl) (by rw [e];rfl) (wr32 (th.reg b+th.reg c)) true _ rfl (fun W=>by rw [e];exact aluAdd_any W _ _ (hrr b).1 (hrr b).2 (hrr c).1 (hrr c).2)
  ·have hb8:b < 8:=by have:=rightI_b hr (.inr (.inr e));omega
   rw [if_neg (by omega),if_neg (by omega),if_neg (by omega),if_neg (by omega),if_neg (by omega),if_neg (by omega),if_neg (by omega)] at hstep
   unfold aluI at hstep
   rw [if_neg (by omega),if_neg (by omega),if_neg (by omega),if_pos e] at hstep
   obtain rfl:q=_:=(Option.some.inj hstep).symm
   refine goP (th.put i.a (if th.reg i.b=th.reg i.c then 1 else 0)) s ((put_len _ _ _).trans t8) tp ts (fun W hR hW=>?_)
   rw [hia,hib,hic]
   exact plain_alu _ W _ _ K tn s th i _ hR hW zz a ha8 hia b hb8 hib c hc8 hic (by rw [e];rfl) (by rw [e];rfl) (by rw [e];rfl) (by rw [e];rfl) (by rw [e];rfl) (by rw [e];rfl) (if th.reg b=th.reg c then 1 else 0) true _ rfl (fun W=>by rw [e];exact aluSame_any W _ _)
  ·rw [if_neg (by omega),if_neg (by omega),if_pos e] at hstep
   obtain rfl:q=_:=(Option.some.inj hstep).symm
   exact goP th (s.note tn ⟨5,0,th.pc,((0:Nat):Int),0,0,0,false⟩) t8 tp ts (fun W hR hW=>plain_fence _ W _ _ K tn s th i _ hR hW zz hn e)
  ·rw [if_neg (by omega),if_neg (by omega),if_neg (by omega),if_pos e] at hstep
   obtain rfl:q=_:=(Option.some.inj hstep).symm
   exact goP th (s.note tn ⟨6,0,th.pc,((0:Nat):Int),th.reg i.a,0,0,false⟩) t8 tp ts (fun W hR hW=>by rw [hia];exact plain_out _ W _ _ K tn s th i _ hR hW zz hn e a ha8 hia)
  ·rw [if_neg (by omega),if_neg (by omega),if_neg (by omega),if_neg (by omega),if_neg (by omega),if_pos e] at hstep
   obtain rfl:q=_:=(Option.some.inj hstep).symm
   exact goP th (s.remote.note tn ⟨10,0,th.pc,((0:Nat):Int),0,0,0,false⟩) t8 tp ts (fun W hR hW=>plain_remote _ W _ _ K tn s th i _ hR hW zz hne htn hok hT e)
  ·have hb0:b=0:=by have:=rightI_b26 hr e;omega
   rw [if_neg (by omega),if_neg (by omega),if_neg (by omega),if_neg (by omega),if_neg (by omega),if_neg (by omega),if_pos e] at hstep
   obtain rfl:q=_:=(Option.some.inj hstep).symm
   refine goP th s t8 tp ts (fun W hR hW=>?_)
   exact plain_alu _ W _ _ K tn s th i _ hR hW zz a ha8 hia b (by omega) hib c hc8 hic (by rw [e];rfl) (by rw [e];rfl) (by rw [e];rfl) (by rw [e];rfl) (by rw [e];rfl) (by rw [e];rfl) 0 false _ rfl (fun W=>by rw [e];exact aluNone_any W _ _)
  ·rw [if_neg (by omega),if_neg (by omega),if_neg (by omega),if_neg (by omega),if_pos e] at hstep
   obtain rfl:q=_:=(Option.some.inj hstep).symm
   exact goP th (s.note tn ⟨7,0,th.pc,((0:Nat):Int),th.reg i.a,0,i.k,false⟩) t8 tp ts (fun W hR hW=>by rw [hia];exact plain_mark _ W _ _ K tn s th i _ hR hW zz hn e a ha8 hia)
end Go.Proofs.YtcnmhgblbikfkaaGreatDoor.As.T
end

section
set_option linter.unusedVariables false
set_option linter.unusedSimpArgs false
set_option maxRecDepth 20000
namespace Go.Proofs.YtcnmhgblbikfkaaGreatDoor.As.T
open Go.RowKit

theorem blk3(w:World)(X1 X2 X3:Obj):(((w.alloc X1).alloc X2).alloc X3).heap[w.heap.size+1+1]? = some X3:=by
 have e:((w.alloc X1).alloc X2).heap.size=w.heap.size+1+1:=by simp
 rw [←e];exact heap_alloc_new _ _
set_option maxHeartbeats 8000000 in
theorem step_stop(Z:Nat→Prop)(w:World)(n:Int)(K:TsK)(tn:Nat)(s:Ts)(pc st r0 r1 r2 r3 r4 r5 r6 r7:Int)(cv:Value)(hM:TsM Z w K s)(hst:(st == 0)=false):
  Calls Tryz.prog 107 #[.agg #[.int .i64 pc,.int .u32 r0,.int .u32 r1,.int .u32 r2,.int .u32 r3,.int .u32 r4,.int .u32 r5,.int .u32 r6,.int .u32 r7,.int .i64 st],cv,.agg (portV n K.mb tn).toArray] w (StepPost Z w K ⟨pc,[r0,r1,r2,r3,r4,r5,r6,r7],st⟩ s):=by
 have e0:(portV n K.mb tn).toArray=#[.int .i64 n,.func (.func 156) #[.agg #[.pointer (some ⟨K.mb,0,none⟩),.int .i64 tn]] #[],.func (.func 157) #[.agg #[.pointer (some ⟨K.mb,0,none⟩),.int .i64 tn]] #[],.func (.func 158) #[.agg #[.pointer (some ⟨K.mb,0,none⟩),.int .i64 tn]] #[],.func (.func 159) #[.agg #[.pointer (some ⟨K.mb,0,none⟩),.int .i64 tn]] #[],.func (.func 71) #[.agg #[.pointer (some ⟨K.mb,0,none⟩),.int .i64 tn]] #[],.func (.func 160) #[.agg #[.pointer (some ⟨K.mb,0,none⟩),.int .i64 tn]] #[],.func (.func 161) #[.agg #[.pointer (some ⟨K.mb,0,none⟩),.int .i64 tn]] #[],.func (.func 162) #[.agg #[.pointer (some ⟨K.mb,0,none⟩),.int .i64 tn]] #[],.func (.func 163) #[.agg #[.pointer (some ⟨K.mb,0,none⟩),.int .i64 tn]] #[],.func (.func 73) #[.agg #[.pointer (some ⟨K.mb,0,none⟩),.int .i64 tn]] #[]]:=rfl
 obtain⟨p1,hp1⟩:∃ p:Value,p=.func (.func 156) #[.agg #[.pointer (some ⟨K.mb,0,none⟩),.int .i64 tn]] #[]:=⟨_,rfl⟩
 obtain⟨p2,hp2⟩:∃ p:Value,p=.func (.func 157) #[.agg #[.pointer (some ⟨K.mb,0,none⟩),.int .i64 tn]] #[]:=⟨_,rfl⟩
 obtain⟨p3,hp3⟩:∃ p:Value,p=.func (.func 158) #[.agg #[.pointer (some ⟨K.mb,0,none⟩),.int .i64 tn]] #[]:=⟨_,rfl⟩
 obtain⟨p4,hp4⟩:∃ p:Value,p=.func (.func 159) #[.agg #[.pointer (some ⟨K.mb,0,none⟩),.int .i64 tn]] #[]:=⟨_,rfl⟩
 obtain⟨p5,hp5⟩:∃ p:Value,p=.func (.func 71) #[.agg #[.pointer (some ⟨K.mb,0,none⟩),.int .i64 tn]] #[]:=⟨_,rfl⟩
 obtain⟨p6,hp6⟩:∃ p:Value,p=.func (.func 160) #[.agg #[.pointer (some ⟨K.mb,0,none⟩),.int .i64 tn]] #[]:=⟨_,rfl⟩
 obtain⟨p7,hp7⟩:∃ p:Value,p=.func (.func 161) #[.agg #[.pointer (some ⟨K.mb,0,none⟩),.int .i64 tn]] #[]:=⟨_,rfl⟩
 obtain⟨p8,hp8⟩:∃ p:Value,p=.func (.func 162) #[.agg #[.pointer (some ⟨K.mb,0,none⟩),.int .i64 tn]] #[]:=⟨_,rfl⟩
 obtain⟨p9,hp9⟩:∃ p:Value,p=.func (.func 163) #[.agg #[.pointer (some ⟨K.mb,0,none⟩),.int .i64 tn]] #[]:=⟨_,rfl⟩
 obtain⟨pa,hpa⟩:∃ p:Value,p=.func (.func 73) #[.agg #[.pointer (some ⟨K.mb,0,none⟩),.int .i64 tn]] #[]:=⟨_,rfl⟩
 rw [←hp1,←hp2,←hp3,←hp4,←hp5,←hp6,←hp7,←hp8,←hp9,←hpa] at e0
 rw [e0]
 have HM:=Lib.hid hM
 clear hp1 hp2 hp3 hp4 hp5 hp6 hp7 hp8 hp9 hpa hM e0
 go_enter Tryz.func107,Tryz.ntmps107
 go_wp2_with fail
 refine bodyPost_ret (results_th rfl _ _ (w.heap.size+1+1) _ _ _ _ _ _ _ _ _ _ (blk3 w _ _ _) rfl) rfl ?_
 have hb:∀ X1 X2 X3:Obj,Below w.heap.size w (((w.alloc X1).alloc X2).alloc X3):=fun X1 X2 X3=>(((Below.refl _ _).alloc (Nat.le_refl _) X1).alloc (by simp) X2).alloc (by simp;omega) X3
 exact⟨rfl,rfl,HM.out.below (hb _ _ _),Only.of_below (hb _ _ _) (Nat.le_refl _)⟩
theorem step_end(Z:Nat→Prop)(w:World)(n:Int)(K:TsK)(tn:Nat)(s:Ts)(pc:Nat)(r0 r1 r2 r3 r4 r5 r6 r7:Int)(g len cap:Nat)(hM:TsM Z w K s)(hpc:len≤pc)(hn:s.evs.length≤99999999999)(T:TabI w):
  Calls Tryz.prog 107 #[.agg #[.int .i64 (pc:Int),.int .u32 r0,.int .u32 r1,.int .u32 r2,.int .u32 r3,.int .u32 r4,.int .u32 r5,.int .u32 r6,.int .u32 r7,.int .i64 0],.slice (some ⟨g,0,none⟩) len cap,.agg (portV n K.mb tn).toArray] w (StepPost Z w K ⟨(pc:Int),[r0,r1,r2,r3,r4,r5,r6,r7],2⟩ (s.note tn ⟨12,0,(pc:Int),0,0,0,0,false⟩)):=by
 have e0:(portV n K.mb tn).toArray=#[.int .i64 n,.func (.func 156) #[.agg #[.pointer (some ⟨K.mb,0,none⟩),.int .i64 tn]] #[],.func (.func 157) #[.agg #[.pointer (some ⟨K.mb,0,none⟩),.int .i64 tn]] #[],.func (.func 158) #[.agg #[.pointer (some ⟨K.mb,0,none⟩),.int .i64 tn]] #[],.func (.func 159) #[.agg #[.pointer (some ⟨K.mb,0,none⟩),.int .i64 tn]] #[],.func (.func 71) #[.agg #[.pointer (some ⟨K.mb,0,none⟩),.int .i64 tn]] #[],.func (.func 160) #[.agg #[.pointer (some ⟨K.mb,0,none⟩),.int .i64 tn]] #[],.func (.func 161) #[.agg #[.pointer (some ⟨K.mb,0,none⟩),.int .i64 tn]] #[],.func (.func 162) #[.agg #[.pointer (some ⟨K.mb,0,none⟩),.int .i64 tn]] #[],.func (.func 163) #[.agg #[.pointer (some ⟨K.mb,0,none⟩),.int .i64 tn]] #[],.func (.func 73) #[.agg #[.pointer (some ⟨K.mb,0,none⟩),.int .i64 tn]] #[]]:=rfl
 obtain⟨p1,hp1⟩:∃ p:Value,p=.func (.func 156) #[.agg #[.pointer (some ⟨K.mb,0,none⟩),.int .i64 tn]] #[]:=⟨_,rfl⟩
 obtain⟨p2,hp2⟩:∃ p:Value,p=.func (.func 157) #[.agg #[.pointer (some ⟨K.mb,0,none⟩),.int .i64 tn]] #[]:=⟨_,rfl⟩
 obtain⟨p3,hp3⟩:∃ p:Value,p=.func (.func 158) #[.agg #[.pointer (some ⟨K.mb,0,none⟩),.int .i64 tn]] #[]:=⟨_,rfl⟩
 obtain⟨p4,hp4⟩:∃ p:Value,p=.func (.func 159) #[.agg #[.pointer (some ⟨K.mb,0,none⟩),.int .i64 tn]] #[]:=⟨_,rfl⟩
 obtain⟨p5,hp5⟩:∃ p:Value,p=.func (.func 71) #[.agg #[.pointer (some ⟨K.mb,0,none⟩),.int .i64 tn]] #[]:=⟨_,rfl⟩
 obtain⟨p6,hp6⟩:∃ p:Value,p=.func (.func 160) #[.agg #[.pointer (some ⟨K.mb,0,none⟩),.int .i64 tn]] #[]:=⟨_,rfl⟩
 obtain⟨p7,hp7⟩:∃ p:Value,p=.func (.func 161) #[.agg #[.pointer (some ⟨K.mb,0,none⟩),.int .i64 tn]] #[]:=⟨_,rfl⟩
 obtain⟨p8,hp8⟩:∃ p:Value,p=.func (.func 162) #[.agg #[.pointer (some ⟨K.mb,0,none⟩),.int .i64 tn]] #[]:=⟨_,rfl⟩
 obtain⟨p9,hp9⟩:∃ p:Value,p=.func (.func 163) #[.agg #[.pointer (some ⟨K.mb,0,none⟩),.int .i64 tn]] #[]:=⟨_,rfl⟩
 obtain⟨pa,hpa⟩:∃ p:Value,p=.func (.func 73) #[.agg #[.pointer (some ⟨K.mb,0,none⟩),.int .i64 tn]] #[]:=⟨_,rfl⟩
 rw [←hp1,←hp2,←hp3,←hp4,←hp5,←hp6,←hp7,←hp8,←hp9,←hpa] at e0
 obtain⟨th0,hth0⟩:∃ th0:Th,th0=⟨pc,[r0,r1,r2,r3,r4,r5,r6,r7],0⟩:=⟨_,rfl⟩
 have hw0:∀ X1 X2 X3 X4:Obj,X1=.cells th0.cells.toArray 79 (0,0)→X2=.cells (portV n K.mb tn).toArray 196 (0,0)→X3=.cells zTh.toArray 79 (0,0)→X4=.cells (runCells n K.mb tn th0 ⟨0,0,0,0,0⟩ 0).toArray 229 (0,0)→StW Z w ((((w.alloc X1).alloc X2).alloc X3).alloc X4) n K tn s th0 ⟨0,0,0,0,0⟩ 0:=by
  intro X1 X2 X3 X4 h1 h2 h3 h4
  obtain⟨b1,b2,b3,b4,bl⟩:=blk4 w X1 X2 X3 X4
  exact⟨⟨by rw [hth0];rfl,by rw [←h4];exact b4⟩,by rw [←h1];exact b1,by rw [←h2];exact b2,by rw [←h3];exact b3,TsM.guard4 hM X1 X2 X3 X4,T.below bl (Nat.le_refl _),Only.of_below bl (Nat.le_refl _)⟩
 have hel:portV n K.mb tn=[.int .i64 n,p1,p2,p3,p4,p5,p6,p7,p8,p9,pa]:=by simpa using congrArg Array.toList e0
 have HEL:=Lib.hid hel
 have HE0:=Lib.hid e0
 have HW0:=Lib.hid hw0
 have HTH:=Lib.hid hth0
 rw [e0]
 have q1:¬((pc:Int) < 0):=by omega
 have q2:(len:Int)≤(pc:Int):=by omega
 have hh:∀ W,RunB W (w.heap.size+1+1+1) n K.mb tn th0 ⟨0,0,0,0,0⟩ 0→TsM (Z4 Z w.heap.size) W K s→Calls Tryz.prog 148 #[.pointer (some ⟨w.heap.size+1+1+1,0,none⟩)] W fun e w'=>e=.returned (.agg #[.int .i64 (pc:Int),.int .u32 r0,.int .u32 r1,.int .u32 r2,.int .u32 r3,.int .u32 r4,.int .u32 r5,.int .u32 r6,.int .u32 r7,.int .i64 2])∧TsM (Z4 Z w.heap.size) w' K (s.note tn ⟨12,0,(pc:Int),0,0,0,0,false⟩)∧Only (fun k=>¬Z4 Z w.heap.size k∨k=w.heap.size+1+1+1) W w':=fun W hR hM=>by
  have h:=halts_run (Z4 Z w.heap.size) W _ n K tn s th0 ⟨0,0,0,0,0⟩ 0 hR hM (.inr (.inr (.inr (.inr rfl)))) hn
  rw [hth0] at h
  exact h
 have HH:=Lib.hid hh
 clear hel e0 hw0 hth0 hp1 hp2 hp3 hp4 hp5 hp6 hp7 hp8 hp9 hpa hM T hh hpc
 go_enter Tryz.func107,Tryz.ntmps107
 go_wp2_with fail
 have HS:=Lib.hid (HW0.out _ _ _ _ (by rw [HTH.out];try rfl) (by rw [HE0.out]) rfl (by unfold runCells;rw [HEL.out,HTH.out];try rfl))
 refine (HH.out _ HS.out.run HS.out.mach).mono ?_
 rintro r w2 ⟨rfl,hM2,hO2⟩
 have HM2:=Lib.hid hM2
 have HRES:=Lib.hid (HS.out.res2 hO2)
 have hN:=HRES.out.1
 have G0:=frozen_of_row _ (w.heap.size+1+1) 0 _ _ hN
 have G1:=frozen_of_row _ (w.heap.size+1+1) 1 _ _ hN
 have G2:=frozen_of_row _ (w.heap.size+1+1) 2 _ _ hN
 have G3:=frozen_of_row _ (w.heap.size+1+1) 3 _ _ hN
 have G4:=frozen_of_row _ (w.heap.size+1+1) 4 _ _ hN
 have G5:=frozen_of_row _ (w.heap.size+1+1) 5 _ _ hN
 have G6:=frozen_of_row _ (w.heap.size+1+1) 6 _ _ hN
 have G7:=frozen_of_row _ (w.heap.size+1+1) 7 _ _ hN
 have G8:=frozen_of_row _ (w.heap.size+1+1) 8 _ _ hN
 have G9:=frozen_of_row _ (w.heap.size+1+1) 9 _ _ hN
 obtain⟨v0,v1,v2,v3,v4,v5,v6,v7,v8,v9⟩:=cells10 hN
 clear hN
 clear hM2 hO2
 go_wp2_with fail
 have hN:=HRES.out.1
 obtain⟨hs1,hs2⟩:=set10 hN (.int .i64 (pc:Int)) (.int .u32 r0) (.int .u32 r1) (.int .u32 r2) (.int .u32 r3) (.int .u32 r4) (.int .u32 r5) (.int .u32 r6) (.int .u32 r7) (.int .i64 2)
 refine bodyPost_ret (results_th rfl _ _ (w.heap.size+1+1) _ _ _ _ _ _ _ _ _ _ hs1 rfl) rfl ?_
 have hf:=StW.fin HM2.out HRES.out.2.2 (fun k e _=>e) (hs2.mono (fun k e=>.inr e))
 exact⟨rfl,rfl,hf.1,hf.2⟩
end Go.Proofs.YtcnmhgblbikfkaaGreatDoor.As.T
end

