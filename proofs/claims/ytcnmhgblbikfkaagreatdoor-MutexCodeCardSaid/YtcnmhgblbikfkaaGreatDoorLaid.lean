/- From a row's condition to the tables in memory; what a call of an object is,opened. -/
import Derived.Test.YtcnmhgblbikfkaaGreatDoorGp
import Derived.WalkKit
import Derived.ProofKit
import Derived.OpenShut
import Derived.Deep.DeepHandedRow
import Derived.Lib.LaidTab
set_option linter.unusedVariables false
set_option maxRecDepth 20000
namespace Go.Proofs.YtcnmhgblbikfkaaGreatDoor.As
open Go.ChangeShapes Go.WideShapes Go.ChangeAt Go.RowKit

def layG(h:Array Obj)(g:Nat)(cs:Array Value):Array Obj:=h.modify g fun
 | .cells _ t frozen=>.cells cs t frozen
 | o=>o
def strData{H:Type}(ss:List B8):DataW H:=.agg (ss.map fun s=>.lit (.string s))
theorem cells_of_strs{H:Type}{enc:TypeId×Value→H}{P:Program}{w:World}{base:Nat}{sp:Nat→Bool}{held:Bool}{fuel:Nat}{t e:TypeId}{n:Nat}{cs:List Value}{ss:List B8}{p:List MemPlace}
  (ht:P.underlying t=some (.array n e)) (he:P.underlying e=some .string) (hce:P.cellsOf e=1) (hct:P.cellsOf t=n)
  (h:DataW.trod enc P w base sp held fuel t cs=some (strData ss,p)):cs=ss.map str:=by
 cases fuel with
 | zero=>simp [DataW.trod] at h
 | succ fuel=>
  simp only [DataW.trod,ht,hce,hct,Nat.mul_one] at h
  split at h
  ·rename_i hl
   obtain⟨xs,hm,hx⟩:=Option.map_eq_some_iff.1 h
   have hxs:xs.map (·.1)=ss.map fun s=>(DataW.lit (.string s):DataW H):=by
    have:=congrArg Prod.fst hx
    simpa [strData] using this
   have hxl:xs.length=n:=by simpa using Lib.mapM_length hm
   have hzl:ss.length=n:=by
    have:=congrArg List.length hxs
    simp at this
    omega
   apply List.ext_getElem?
   intro i
   by_cases hi:i < n
   ·obtain⟨b,hb,hf⟩:=Lib.mapM_at hm i i (by simp [hi])
    obtain⟨s,hc,rfl,_⟩:=DataW.trod_string he hf
    have h1:cs[i]? = some (.string s):=by
     have:=congrArg (·[0]?) hc
     simpa [List.getElem?_take,List.getElem?_drop] using this
    have h2:(xs.map (·.1))[i]? = some (DataW.lit (.string s.data.toList):DataW H):=by simp [hb]
    rw [hxs] at h2
    simp only [List.getElem?_map,Option.map_eq_some_iff,DataW.lit.injEq,Lit.string.injEq] at h2
    obtain⟨z',hz',e'⟩:=h2
    rw [h1,List.getElem?_map,hz',e'];rfl
   ·rw [List.getElem?_eq_none (by omega),List.getElem?_eq_none (by simp;omega)]
  ·cases h
theorem gUses : Tryz.prog.globalNamed "deadlatch/isa.uses" = some 0:=by kernel_rfl
theorem gNames : Tryz.prog.globalNamed "deadlatch/isa.names" = some 2:=by kernel_rfl
theorem gObj : Tryz.prog.globalNamed "deadlatch/obj.names" = some 1:=by kernel_rfl
def laid3:List (String×DataW Unit):=[("deadlatch/isa.uses",Lib.tabData .i64 opUses),("deadlatch/isa.names",strData opNames),("deadlatch/obj.names",strData kindNames)]
theorem tables{W:World}(h:laidMetH Tryz.prog laid3 W):TabI W∧TabO W:=by
 have h':laidMet Tryz.prog laid3 W:=h
 obtain⟨ps,⟨g0,t0,cs0,f0,p0,q0,hg0,ht0,hv0,hd0,⟨g1,t1,cs1,f1,p1,q1,hg1,ht1,hv1,hd1,⟨g2,t2,cs2,f2,p2,q2,hg2,ht2,hv2,hd2,_,_⟩,_⟩,_⟩,_⟩:=h'
 obtain rfl:=Option.some.inj (gUses.symm.trans hg0)
 obtain rfl:=Option.some.inj (gNames.symm.trans hg1)
 obtain rfl:=Option.some.inj (gObj.symm.trans hg2)
 obtain rfl:=Option.some.inj ((show (Tryz.prog.globals[0]?).map (·.type)=some 207 by kernel_rfl).symm.trans ht0)
 obtain rfl:=Option.some.inj ((show (Tryz.prog.globals[2]?).map (·.type)=some 235 by kernel_rfl).symm.trans ht1)
 obtain rfl:=Option.some.inj ((show (Tryz.prog.globals[1]?).map (·.type)=some 234 by kernel_rfl).symm.trans ht2)
 have e0:=Lib.cells_of_tab Tryz.underlying207 Tryz.underlying3 (by kernel_rfl) (by kernel_rfl) hd0
 have e1:=cells_of_strs Tryz.underlying235 Tryz.underlying9 (by kernel_rfl) (by kernel_rfl) hd1
 have e2:=cells_of_strs Tryz.underlying234 Tryz.underlying9 (by kernel_rfl) (by kernel_rfl) hd2
 have k0:=World.var?_cell gUses (show W.var? Tryz.prog "deadlatch/isa.uses" = some (opUses.map fun z=>Value.int .i64 z).toArray by rw [hv0,←e0])
 have k1:=World.var?_cell gNames (show W.var? Tryz.prog "deadlatch/isa.names" = some (opNames.map str).toArray by rw [hv1,←e1])
 have k2:=World.var?_cell gObj (show W.var? Tryz.prog "deadlatch/obj.names" = some (kindNames.map str).toArray by rw [hv2,←e2])
 refine⟨⟨fun i hi=>?_,fun i hi=>?_⟩,⟨fun i hi=>?_⟩⟩
 ·have hl:i < opNames.length:=hi
  rw [k1 i]
  simp [List.getD,hl,str]
 ·have hl:i < opUses.length:=hi
  rw [k0 i]
  simp [List.getD,hl]
 ·have hl:i < kindNames.length:=hi
  rw [k2 i]
  simp [List.getD,hl,str]
theorem list9{α:Type}:∀ {l:List α},l.length=9→∃ a b c d e f g h i,l=[a,b,c,d,e,f,g,h,i]
 | [a,b,c,d,e,f,g,h,i],_=>⟨a,b,c,d,e,f,g,h,i,rfl⟩
theorem get_some{α:Type}{xs:List α}{i n:Nat}(h:xs.length=n)(hi:i < n):∃ y,xs[i]? = some y:=⟨_,List.getElem?_eq_getElem (by omega)⟩
theorem ask_shape{H:Type}{enc:TypeId×Value→H}{W:World}{b0 base:Nat}{r:Reach}{sp:Nat→Bool}{held:Bool}{v:Value}{d:DataW H}{p:List MemPlace}
  (hv:Value.okWide Tryz.prog W r b0 27 v) (h:DataW.Trod enc Tryz.prog W base sp held 27 v d p):
  ∃ (k n a b c th t ar:Int) (bs:Nat),v=.agg #[.int .i64 k,.int .i64 n,.int .i64 a,.int .i64 b,.int .i64 c,.int .i64 th,.int .i64 t,.int .u16 bs,.int .u32 ar]∧bs≤65535:=by
 obtain⟨cs,rfl,hsz⟩:=okWide_struct Tryz.underlying27 hv
 obtain⟨fuel,hf⟩:=h
 obtain⟨l⟩:=cs
 have z9 : Tryz.prog.cellsOf 27=9:=by kernel_rfl
 have z4 : Tryz.prog.cellsOf 23=4:=by kernel_rfl
 have z1 : Tryz.prog.cellsOf 3=1:=by kernel_rfl
 have z2 : Tryz.prog.cellsOf 24=1:=by kernel_rfl
 have z3 : Tryz.prog.cellsOf 25=1:=by kernel_rfl
 obtain⟨x0,x1,x2,x3,x4,x5,x6,x7,x8,rfl⟩:=list9 (show l.length=9 from hsz.trans z9)
 obtain⟨xs,n,_,_,hl,hx,hfs⟩:=DataW.trod_struct Tryz.underlying27 hf
 have hx6:xs.length=6:=hx
 have f0:DataW.trod enc Tryz.prog W base sp held n 23 (List.take (Tryz.prog.cellsOf 23) [x0,x1,x2,x3,x4,x5,x6,x7,x8])=xs[0]? := hfs 0 _ rfl
 have f1:DataW.trod enc Tryz.prog W base sp held n 3 (List.take (Tryz.prog.cellsOf 3) [x4,x5,x6,x7,x8])=xs[1]? := hfs 1 _ rfl
 have f2:DataW.trod enc Tryz.prog W base sp held n 3 (List.take (Tryz.prog.cellsOf 3) [x5,x6,x7,x8])=xs[2]? := hfs 2 _ rfl
 have f3:DataW.trod enc Tryz.prog W base sp held n 3 (List.take (Tryz.prog.cellsOf 3) [x6,x7,x8])=xs[3]? := hfs 3 _ rfl
 have f4:DataW.trod enc Tryz.prog W base sp held n 24 (List.take (Tryz.prog.cellsOf 24) [x7,x8])=xs[4]? := hfs 4 _ rfl
 have f5:DataW.trod enc Tryz.prog W base sp held n 25 (List.take (Tryz.prog.cellsOf 25) [x8])=xs[5]? := hfs 5 _ rfl
 rw [z4] at f0
 rw [z1] at f1 f2 f3
 rw [z2] at f4
 rw [z3] at f5
 obtain⟨y0,hy0⟩:=get_some hx6 (show 0 < 6 by decide)
 obtain⟨y1,hy1⟩:=get_some hx6 (show 1 < 6 by decide)
 obtain⟨y2,hy2⟩:=get_some hx6 (show 2 < 6 by decide)
 obtain⟨y3,hy3⟩:=get_some hx6 (show 3 < 6 by decide)
 obtain⟨y4,hy4⟩:=get_some hx6 (show 4 < 6 by decide)
 obtain⟨y5,hy5⟩:=get_some hx6 (show 5 < 6 by decide)
 obtain⟨c,hc,_,_⟩:=DataW.trod_int Tryz.underlying3 (f1.trans hy1)
 obtain⟨th,hth,_,_⟩:=DataW.trod_int Tryz.underlying3 (f2.trans hy2)
 obtain⟨t,ht,_,_⟩:=DataW.trod_int Tryz.underlying3 (f3.trans hy3)
 obtain⟨bs,hbs,_,wbs⟩:=DataW.trod_int Tryz.underlying24 (f4.trans hy4)
 obtain⟨ar,har,_,_⟩:=DataW.trod_int Tryz.underlying25 (f5.trans hy5)
 obtain⟨ys,m,_,_,_,hym,hgs⟩:=DataW.trod_struct Tryz.underlying23 (f0.trans hy0)
 have hy4l:ys.length=4:=hym
 have g0:DataW.trod enc Tryz.prog W base sp held m 3 (List.take (Tryz.prog.cellsOf 3) [x0,x1,x2,x3])=ys[0]? := hgs 0 _ rfl
 have g1:DataW.trod enc Tryz.prog W base sp held m 3 (List.take (Tryz.prog.cellsOf 3) [x1,x2,x3])=ys[1]? := hgs 1 _ rfl
 have g2:DataW.trod enc Tryz.prog W base sp held m 3 (List.take (Tryz.prog.cellsOf 3) [x2,x3])=ys[2]? := hgs 2 _ rfl
 have g3:DataW.trod enc Tryz.prog W base sp held m 3 (List.take (Tryz.prog.cellsOf 3) [x3])=ys[3]? := hgs 3 _ rfl
 rw [z1] at g0 g1 g2 g3
 obtain⟨u0,hu0⟩:=get_some hy4l (show 0 < 4 by decide)
 obtain⟨u1,hu1⟩:=get_some hy4l (show 1 < 4 by decide)
 obtain⟨u2,hu2⟩:=get_some hy4l (show 2 < 4 by decide)
 obtain⟨u3,hu3⟩:=get_some hy4l (show 3 < 4 by decide)
 obtain⟨k,hk,_,_⟩:=DataW.trod_int Tryz.underlying3 (g0.trans hu0)
 obtain⟨nn,hn,_,_⟩:=DataW.trod_int Tryz.underlying3 (g1.trans hu1)
 obtain⟨a,ha,_,_⟩:=DataW.trod_int Tryz.underlying3 (g2.trans hu2)
 obtain⟨b,hb,_,_⟩:=DataW.trod_int Tryz.underlying3 (g3.trans hu3)
 simp only [List.take_succ_cons,List.take_zero,List.cons.injEq,and_true] at hk hn ha hb hc hth ht hbs har
 subst hk hn ha hb hc hth ht hbs har
 have w2:0≤bs∧bs≤65535:=by
  simp [Lit.wf] at wbs
  have e1:IntKind.u16.min=0:=by decide
  have e2:IntKind.u16.max=65535:=by decide
  omega
 refine⟨k,nn,a,b,c,th,t,ar,bs.toNat,?_,by omega⟩
 rw [show ((bs.toNat:Nat):Int)=bs by omega]
end Go.Proofs.YtcnmhgblbikfkaaGreatDoor.As
