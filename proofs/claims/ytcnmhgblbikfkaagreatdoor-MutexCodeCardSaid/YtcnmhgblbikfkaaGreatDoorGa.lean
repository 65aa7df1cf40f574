/- Plain Lean: code as text,and code gathered by a builder: what the packages asm,isa and deadlatchref02,deadlatchref04 come to. No program in sight. Plain Lean: a thread,an event,what an instruction does to a thread and to what it asks. No program in sight. -/

section
namespace Go.Proofs.YtcnmhgblbikfkaaGreatDoor.As

abbrev B8:=List UInt8

structure Ins where
 op:Int
 a:Int
 b:Int
 c:Int
 k:Int

/-! ### The kinds -/
def opNames:List B8:=[[104,97,108,116],[115,101,116],[109,111,118,101],[97,100,100],[115,117,98],[109,117,108],[97,110,100],[111,114],[120,111,114],[115,104,108],[115,104,114],[108,101,115,115],[115,97,109,101],[106,117,109,112],[122,101,114,111],[115,111,109,101],[108,111,97,100],[115,116,111,114,101],[102,101,110,99,101],[115,119,97,112],[102,101,116,99,104],[99,97,115],[111,117,116],[119,97,105,116],[119,97,107,101],[114,101,109,111,116,101],[121,105,101,108,100],[109,97,114,107]]
def opName(op:Int):B8:=if 0≤op∧op < 28 then opNames.getD op.toNat [] else []
def opFields:List B8:=[[],[65,75],[65,66],[65,66,67],[65,66,67],[65,66,67],[65,66,67],[65,66,67],[65,66,67],[65,66,67],[65,66,67],[65,66,67],[65,66,67],[84],[65,84],[65,84],[65,77,75],[65,77,75],[],[65,77,75],[65,77,75],[65,67,77,75],[65],[65,77,75],[65,77,75],[],[],[65,75]]
def opField(op:Int):B8:=if 0≤op∧op < 28 then opFields.getD op.toNat [] else []
def jumps(op:Int):Bool:=op == 13 || op == 14 || op == 15

/-! ### Names and numbers -/
def isLet(c:UInt8):Bool:=decide (97≤c) && decide (c≤122)
def isDig(c:UInt8):Bool:=decide (48≤c) && decide (c≤57)
def nameOk:B8→Bool
 | []=>false
 | c::r=>isLet c && (r.all (fun x=>isLet x || isDig x) && decide (r.length < 20))

/-! ### A builder -/
structure BS where
 code:List Ins
 places:List (B8×Nat)
 links:List (Nat×B8)
 bad:Bool
def BS.zero:BS:=⟨[],[],[],false⟩
def BS.find(s:BS)(name:B8):Option Nat:=(s.places.find? (fun p=>p.1 == name)).map (·.2)
def BS.do_(s:BS)(i:Ins):BS:={ s with code:=s.code++[i] }
def BS.at_(s:BS)(name:B8):BS:=
 if (s.find name).isSome || !nameOk name then { s with bad:=true } else { s with places:=s.places++[(name,s.code.length)] }
def BS.go_(s:BS)(op a:Int)(name:B8):BS:={ s with code:=s.code++[⟨op,a,0,0,0⟩],links:=s.links++[(s.code.length,name)] }
def BS.set_(s:BS)(a:Int)(k:Int):BS:=s.do_ ⟨1,a,0,0,k⟩
def BS.alu_(s:BS)(op a x y:Int):BS:=s.do_ ⟨op,a,x,y,0⟩
def BS.ask_(s:BS)(op a:Int)(addr:Int):BS:=s.do_ ⟨op,a,8,0,addr⟩
def BS.cas_(s:BS)(a c:Int)(addr:Int):BS:=s.do_ ⟨21,a,8,c,addr⟩
def BS.linkTo(s:BS):List (Nat×B8)→List Ins→Option (List Ins)
 | [],out=>some out
 | (i,name)::r,out=>
  match s.find name,out[i]? with
  | some n,some x=>if jumps x.op then s.linkTo r (out.set i { x with k:=n }) else none
  | _,_=>none
def BS.out(s:BS):Option (List Ins):=if s.bad then (s.linkTo s.links s.code).bind (fun _=>none) else s.linkTo s.links s.code
end Go.Proofs.YtcnmhgblbikfkaaGreatDoor.As
end

section
set_option linter.unusedVariables false
namespace Go.Proofs.YtcnmhgblbikfkaaGreatDoor.As

structure Th where
 pc:Int
 regs:List Int
 st:Int
 deriving DecidableEq
structure Ev where
 kind:Int
 who:Int
 pc:Int
 addr:Int
 val:Int
 old:Int
 k:Int
 ok:Bool
 deriving DecidableEq
def wr32(x:Int):Int:=x % 4294967296
def Th.reg(t:Th)(i:Int):Int:=t.regs.getD i.toNat 0
def Th.put(t:Th)(i v:Int):Th:={ t with regs:=t.regs.set i.toNat v }
def Th.next(t:Th):Th:={ t with pc:=t.pc+1 }
structure Port(σ:Type) where
 size:σ→Int
 load:σ→Nat→Int
 room:σ→Bool
 store:σ→Nat→Int→σ
 empty:σ→Bool
 flush:σ→σ
 swap:σ→Nat→Int→σ
 remote:σ→σ
 note:σ→Ev→σ
def aluI(op a b:Int):Option Int:=
 if op=3 then some (wr32 (a+b)) else if op=4 then some (wr32 (a - b)) else if op=5 then some (wr32 (a*b)) else if op=12 then some (if a=b then 1 else 0) else none
def addrI(t:Th)(i:Ins):Int:=if i.b < 0∨8≤i.b then i.k else wr32 (t.reg i.b+i.k)
def asksI(op:Int):Prop:=op=16∨op=17∨op=19∨op=20∨op=21∨op=23∨op=24
instance(op:Int):Decidable (asksI op):=by unfold asksI;infer_instance
def drainsI(op:Int):Prop:=op=18∨op=19∨op=20∨op=21∨op=23∨op=24∨op=25
instance(op:Int):Decidable (drainsI op):=by unfold drainsI;infer_instance
def jumpsI(op:Int):Prop:=op=13∨op=14∨op=15
instance(op:Int):Decidable (jumpsI op):=by unfold jumpsI;infer_instance
variable{σ:Type}
def asks(P:Port σ)(i:Ins)(ad:Nat)(t:Th)(s:σ):Option (Th×σ):=
 if i.op=16 then
  let v:=P.load s ad
  some (t.put i.a v,P.note s ⟨1,0,t.pc,ad,v,0,0,false⟩)
 else if i.op=17 then
  let v:=t.reg i.a
  some (t,P.note (P.store s ad v) ⟨2,0,t.pc,ad,v,0,0,false⟩)
 else if i.op=19 then
  let o:=P.load s ad
  let v:=t.reg i.a
  some (t.put i.a o,P.note (P.swap s ad v) ⟨4,0,t.pc,ad,v,o,0,true⟩)
 else if i.op=20 then
  let o:=P.load s ad
  let v:=wr32 (o+t.reg i.a)
  some (t.put i.a o,P.note (P.swap s ad v) ⟨4,0,t.pc,ad,v,o,0,true⟩)
 else if i.op=21 then
  let o:=P.load s ad
  let v:=t.reg i.c
  if o=t.reg i.a then some (t.put i.a o,P.note (P.swap s ad v) ⟨4,0,t.pc,ad,v,o,0,true⟩)
  else some (t.put i.a o,P.note s ⟨4,0,t.pc,ad,o,o,0,false⟩)
 else none
def plainI(P:Port σ)(i:Ins)(t:Th)(s:σ):Option (Th×σ):=
 if i.op=1 then some (t.put i.a i.k,s)
 else if i.op=2 then some (t.put i.a (t.reg i.b),s)
 else if i.op=18 then some (t,P.note s ⟨5,0,t.pc,0,0,0,0,false⟩)
 else if i.op=22 then some (t,P.note s ⟨6,0,t.pc,0,t.reg i.a,0,0,false⟩)
 else if i.op=27 then some (t,P.note s ⟨7,0,t.pc,0,t.reg i.a,0,i.k,false⟩)
 else if i.op=25 then some (t,P.note (P.remote s) ⟨10,0,t.pc,0,0,0,0,false⟩)
 else if i.op=26 then some (t,s)
 else (aluI i.op (t.reg i.b) (t.reg i.c)).map fun v=>(t.put i.a v,s)
def goesI(i:Ins)(t:Th):Bool:=if i.op=13 then true else if i.op=14 then decide (t.reg i.a=0) else decide (t.reg i.a≠0)
def stepI(P:Port σ)(code:List Ins)(t:Th)(s:σ):Option (Th×σ):=
 if t.st≠0 then some (t,s)
 else if t.pc < 0∨(code.length:Int)≤t.pc then some ({ t with st:=2 },P.note s ⟨12,0,t.pc,0,0,0,0,false⟩)
 else match code[t.pc.toNat]? with
 | none=>none
 | some i=>
  let ad:=if asksI i.op then addrI t i else 0
  if asksI i.op∧P.size s≤ad then none
  else if (drainsI i.op∧P.empty s=false)∨(i.op=17∧P.room s=false) then some (t,P.flush s)
  else if i.op=0 then some ({ t with st:=2 },P.note s ⟨12,0,t.pc,0,0,0,0,false⟩)
  else if jumpsI i.op then some (if goesI i t=true then { t with pc:=i.k } else t.next,s)
  else if asksI i.op then (asks P i ad.toNat t s).map fun q=>(q.1.next,q.2)
  else (plainI P i t s).map fun q=>(q.1.next,q.2)
end Go.Proofs.YtcnmhgblbikfkaaGreatDoor.As
end

