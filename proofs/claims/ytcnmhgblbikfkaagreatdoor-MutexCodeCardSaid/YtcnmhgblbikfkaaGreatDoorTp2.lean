/- Plain Lean: what each instruction does to a machine tso. No program in sight. -/
import Derived.Test.YtcnmhgblbikfkaaGreatDoorGe
set_option linter.unusedVariables false
set_option linter.unusedSimpArgs false
namespace Go.Proofs.YtcnmhgblbikfkaaGreatDoor.As

structure AtI(codes:List (List Ins))(s:Ts)(t:Nat)(th:Th)(i:Ins):Prop where
 hs:s.ths[t]? = some th
 hc:∃ L,codes[t]? = some L∧L[th.pc.toNat]? = some i
 st:th.st=0
 pc:0≤th.pc
def Ts.upd(s:Ts)(t:Nat)(th:Th):Ts:={ s with ths:=s.ths.set t th }
theorem stepT_at{codes:List (List Ins)}{s:Ts}{t:Nat}{th:Th}{i:Ins}(h:AtI codes s t th i):
  s.stepT codes t=(if asksI i.op∧(s.mem.length:Int)≤addrI th i then none
   else if (drainsI i.op∧s.empty t=false)∨(i.op=17∧s.roomy t=false) then some (th,s.flush t)
   else if i.op=0 then some ({ th with st:=2 },s.note t ⟨12,0,th.pc,0,0,0,0,false⟩)
   else if jumpsI i.op then some (if goesI i th=true then { th with pc:=i.k } else th.next,s)
   else if asksI i.op then (asks (tsP t) i (addrI th i).toNat th s).map fun q=>(q.1.next,q.2)
   else (plainI (tsP t) i th s).map fun q=>(q.1.next,q.2)).map fun q:Th×Ts=>{ q.2 with ths:=q.2.ths.set t q.1 }:=by
 obtain⟨L,hL,hi⟩:=h.hc
 have hlt:=(List.getElem?_eq_some_iff.1 hi).1
 have hp:=h.pc
 unfold Ts.stepT
 rw [h.hs,hL]
 show (stepI (tsP t) L th s).map _=_
 unfold stepI
 rw [if_neg (fun e=>e h.st),if_neg (by omega),hi]
 show Option.map _ (if asksI i.op∧(s.mem.length:Int)≤(if asksI i.op then addrI th i else 0) then none else if (drainsI i.op∧s.empty t=false)∨(i.op=17∧s.roomy t=false) then _ else _)=_
 by_cases ha:asksI i.op
 ·simp only [if_pos ha];rfl
 ·simp only [if_neg ha,ha,false_and,if_false];rfl
theorem stepT_end{codes:List (List Ins)}{s:Ts}{t:Nat}{th:Th}{L:List Ins}(hs:s.ths[t]? = some th)(hL:codes[t]? = some L)(h0:th.st=0)(hp:(L.length:Int)≤th.pc):
  s.stepT codes t=some ((s.note t ⟨12,0,th.pc,0,0,0,0,false⟩).upd t { th with st:=2 }):=by
 unfold Ts.stepT
 rw [hs,hL]
 show (stepI (tsP t) L th s).map _=_
 unfold stepI
 rw [if_neg (fun e=>e h0),if_pos (.inr hp)]
 rfl
theorem stepT_stop{codes:List (List Ins)}{s:Ts}{t:Nat}{th:Th}{L:List Ins}(hs:s.ths[t]? = some th)(hL:codes[t]? = some L)(h0:th.st≠0):s.stepT codes t=some s:=by
 unfold Ts.stepT
 rw [hs,hL]
 show (stepI (tsP t) L th s).map _=_
 unfold stepI
 rw [if_pos h0]
 show some { s with ths:=s.ths.set t th }=some s
 have:s.ths.set t th=s.ths:=by
  obtain⟨hlt,he⟩:=List.getElem?_eq_some_iff.1 hs
  rw [←he];exact List.set_getElem_self hlt
 rw [this]
section
variable{codes:List (List Ins)}{s:Ts}{t:Nat}{th:Th}{a b c k:Int}
theorem upd_flush(h:s.ths[t]? = some th):({ s.flush t with ths:=(s.flush t).ths.set t th }:Ts)=s.flush t:=by
 have h1:(s.flush t).ths=s.ths:=by unfold Ts.flush;split<;>rfl
 have:(s.flush t).ths.set t th=(s.flush t).ths:=by
  rw [h1]
  obtain⟨hlt,he⟩:=List.getElem?_eq_some_iff.1 h
  rw [←he];exact List.set_getElem_self hlt
 rw [this]
theorem st_set(h:AtI codes s t th ⟨1,a,b,c,k⟩):s.stepT codes t=some (s.upd t (th.put a k).next):=by
 rw [stepT_at h]
 simp [asksI,drainsI,jumpsI,plainI,Ts.upd]
theorem st_move(h:AtI codes s t th ⟨2,a,b,c,k⟩):s.stepT codes t=some (s.upd t (th.put a (th.reg b)).next):=by
 rw [stepT_at h]
 simp [asksI,drainsI,jumpsI,plainI,Ts.upd]
theorem st_add(h:AtI codes s t th ⟨3,a,b,c,k⟩):s.stepT codes t=some (s.upd t (th.put a (wr32 (th.reg b+th.reg c))).next):=by
 rw [stepT_at h]
 simp [asksI,drainsI,jumpsI,plainI,aluI,Ts.upd]
theorem st_same(h:AtI codes s t th ⟨12,a,b,c,k⟩):s.stepT codes t=some (s.upd t (th.put a (if th.reg b=th.reg c then 1 else 0)).next):=by
 rw [stepT_at h]
 simp [asksI,drainsI,jumpsI,plainI,aluI,Ts.upd]
theorem st_jump(h:AtI codes s t th ⟨13,a,b,c,k⟩):s.stepT codes t=some (s.upd t { th with pc:=k }):=by
 rw [stepT_at h]
 simp [asksI,drainsI,jumpsI,goesI,Ts.upd]
theorem st_zero(h:AtI codes s t th ⟨14,a,b,c,k⟩):s.stepT codes t=some (s.upd t (if th.reg a=0 then { th with pc:=k } else th.next)):=by
 rw [stepT_at h]
 simp [asksI,drainsI,jumpsI,goesI,Ts.upd]
theorem st_some(h:AtI codes s t th ⟨15,a,b,c,k⟩):s.stepT codes t=some (s.upd t (if th.reg a≠0 then { th with pc:=k } else th.next)):=by
 rw [stepT_at h]
 simp [asksI,drainsI,jumpsI,goesI,Ts.upd]
theorem st_mark(h:AtI codes s t th ⟨27,a,b,c,k⟩):s.stepT codes t=some ((s.note t ⟨7,0,th.pc,0,th.reg a,0,k,false⟩).upd t th.next):=by
 rw [stepT_at h]
 simp [asksI,drainsI,jumpsI,plainI,Ts.upd,tsP,Ts.note]
theorem addr_abs(th:Th)(op a c k:Int):addrI th ⟨op,a,8,c,k⟩=k:=by simp [addrI]
theorem st_load(h:AtI codes s t th ⟨16,a,b,c,k⟩){ad:Nat}(had:addrI th ⟨16,a,b,c,k⟩=ad)(hlt:ad < s.mem.length):
  s.stepT codes t=some ((s.note t ⟨1,0,th.pc,ad,s.load t ad,0,0,false⟩).upd t (th.put a (s.load t ad)).next):=by
 rw [stepT_at h,had]
 have h1:¬((s.mem.length:Int)≤(ad:Int)):=by omega
 simp [asksI,drainsI,jumpsI,asks,Ts.upd,tsP,Ts.note,h1]
theorem st_store(h:AtI codes s t th ⟨17,a,b,c,k⟩){ad:Nat}(had:addrI th ⟨17,a,b,c,k⟩=ad)(hlt:ad < s.mem.length):
  s.stepT codes t=some (if s.roomy t=true then ((s.store t ad (th.reg a)).note t ⟨2,0,th.pc,ad,th.reg a,0,0,false⟩).upd t th.next else s.flush t):=by
 rw [stepT_at h,had]
 have h1:¬((s.mem.length:Int)≤(ad:Int)):=by omega
 cases hr:s.roomy t with
 | true=>simp [asksI,drainsI,jumpsI,asks,Ts.upd,tsP,Ts.note,Ts.store,h1]
 | false=>simp [asksI,drainsI,jumpsI,asks,h1];exact upd_flush h.hs
theorem st_drain{i:Ins}(h:AtI codes s t th i)(hd:drainsI i.op)(ha:asksI i.op→addrI th i < (s.mem.length:Int))(he:s.empty t=false):s.stepT codes t=some (s.flush t):=by
 rw [stepT_at h,if_neg (by rintro⟨h1,h2⟩;have:=ha h1;omega),if_pos (.inl ⟨hd,he⟩)]
 exact congrArg some (upd_flush h.hs)
theorem st_fence(h:AtI codes s t th ⟨18,a,b,c,k⟩)(he:s.empty t=true):s.stepT codes t=some ((s.note t ⟨5,0,th.pc,0,0,0,0,false⟩).upd t th.next):=by
 rw [stepT_at h]
 simp [asksI,drainsI,jumpsI,plainI,Ts.upd,tsP,Ts.note,he]
theorem st_remote(h:AtI codes s t th ⟨25,a,b,c,k⟩)(he:s.empty t=true):s.stepT codes t=some ((s.remote.note t ⟨10,0,th.pc,0,0,0,0,false⟩).upd t th.next):=by
 rw [stepT_at h]
 simp [asksI,drainsI,jumpsI,plainI,Ts.upd,tsP,Ts.note,he]
theorem st_swap(h:AtI codes s t th ⟨19,a,b,c,k⟩){ad:Nat}(had:addrI th ⟨19,a,b,c,k⟩=ad)(hlt:ad < s.mem.length)(he:s.empty t=true):
  s.stepT codes t=some (((s.swap ad (th.reg a)).note t ⟨4,0,th.pc,ad,th.reg a,s.load t ad,0,true⟩).upd t (th.put a (s.load t ad)).next):=by
 rw [stepT_at h,had]
 have h1:¬((s.mem.length:Int)≤(ad:Int)):=by omega
 simp [asksI,drainsI,jumpsI,asks,Ts.upd,tsP,Ts.note,Ts.swap,he,h1]
theorem st_fetch(h:AtI codes s t th ⟨20,a,b,c,k⟩){ad:Nat}(had:addrI th ⟨20,a,b,c,k⟩=ad)(hlt:ad < s.mem.length)(he:s.empty t=true):
  s.stepT codes t=some (((s.swap ad (wr32 (s.load t ad+th.reg a))).note t ⟨4,0,th.pc,ad,wr32 (s.load t ad+th.reg a),s.load t ad,0,true⟩).upd t (th.put a (s.load t ad)).next):=by
 rw [stepT_at h,had]
 have h1:¬((s.mem.length:Int)≤(ad:Int)):=by omega
 simp [asksI,drainsI,jumpsI,asks,Ts.upd,tsP,Ts.note,Ts.swap,he,h1]
theorem st_cas(h:AtI codes s t th ⟨21,a,b,c,k⟩){ad:Nat}(had:addrI th ⟨21,a,b,c,k⟩=ad)(hlt:ad < s.mem.length)(he:s.empty t=true):
  s.stepT codes t=some (if s.load t ad=th.reg a then ((s.swap ad (th.reg c)).note t ⟨4,0,th.pc,ad,th.reg c,s.load t ad,0,true⟩).upd t (th.put a (s.load t ad)).next
   else (s.note t ⟨4,0,th.pc,ad,s.load t ad,s.load t ad,0,false⟩).upd t (th.put a (s.load t ad)).next):=by
 rw [stepT_at h,had]
 have h1:¬((s.mem.length:Int)≤(ad:Int)):=by omega
 by_cases hv:s.load t ad=th.reg a
 ·rw [if_pos hv]
  simp [asksI,drainsI,jumpsI,asks,Ts.upd,tsP,Ts.note,Ts.swap,he,h1,hv]
 ·rw [if_neg hv]
  simp [asksI,drainsI,jumpsI,asks,Ts.upd,tsP,Ts.note,Ts.swap,he,h1,hv]
end
end Go.Proofs.YtcnmhgblbikfkaaGreatDoor.As
