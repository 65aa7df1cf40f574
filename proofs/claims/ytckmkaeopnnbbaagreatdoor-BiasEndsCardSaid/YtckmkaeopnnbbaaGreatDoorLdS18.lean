/- From a row's condition to the tables in memory; what a call of an object is,opened. -/
import Derived.Test.YtckmkaeopnnbbaaGreatDoorGp
import Derived.Test.YtckmkaeopnnbbaaGreatDoorGn
import Derived.WalkKit
import Derived.ProofKit
import Derived.OpenShut
import Derived.Deep.DeepHandedRow
import Derived.Lib.LaidTab
import Derived.Deep.Slices
set_option linter.unusedVariables false
set_option maxRecDepth 20000
namespace Go.Proofs.YtckmkaeopnnbbaaGreatDoor.As
open Go.ChangeShapes Go.WideShapes Go.ChangeAt Go.RowKit

def str(l:B8):Value:=.string ⟨l.toArray⟩
def layG(h:Array Obj)(g:Nat)(cs:Array Value):Array Obj:=h.modify g fun
 | .cells _ t frozen=>.cells cs t frozen
 | o=>o
def strData{H:Type}(ss:List B8):DataW H:=.agg (ss.map fun s=>.lit (.string s))
theorem cells_of_strs{H:Type}{enc:TypeId×Value→H}{P:Program}{w:World}{base:Nat}{sp:Nat→Bool}{held:Bool}{fuel:Nat}{t e:TypeId}{n:Nat}{cs:List Value}{ss:List B8}{p:List MemPlace}
  (ht:P.underlying t=some (.array n e)) (he:P.underlying e=some .string) (hce:P.cellsOf e=1) (hct:P.cellsOf t=n)
  (h:DataW.trod enc P w base sp held fuel t cs=some (strData ss,p)):cs=ss.map str:=by
 cases fuel with
 | zero=>simp [DataW.trod] at h
 | succ fuel=>
  simp only [DataW.trod,ht,hce,hct,Nat.mul_one] at h
  split at h
  ·rename_i hl
   obtain⟨xs,hm,hx⟩:=Option.map_eq_some_iff.1 h
   have hxs:xs.map (·.1)=ss.map fun s=>(DataW.lit (.string s):DataW H):=by
    have:=congrArg Prod.fst hx
    simpa [strData] using this
   have hxl:xs.length=n:=by simpa using Lib.mapM_length hm
   have hzl:ss.length=n:=by
    have:=congrArg List.length hxs
    simp at this
    omega
   apply List.ext_getElem?
   intro i
   by_cases hi:i < n
   ·obtain⟨b,hb,hf⟩:=Lib.mapM_at hm i i (by simp [hi])
    obtain⟨s,hc,rfl,_⟩:=DataW.trod_string he hf
    have h1:cs[i]? = some (.string s):=by
     have:=congrArg (·[0]?) hc
     simpa [List.getElem?_take,List.getElem?_drop] using this
    have h2:(xs.map (·.1))[i]? = some (DataW.lit (.string s.data.toList):DataW H):=by simp [hb]
    rw [hxs] at h2
    simp only [List.getElem?_map,Option.map_eq_some_iff,DataW.lit.injEq,Lit.string.injEq] at h2
    obtain⟨z',hz',e'⟩:=h2
    rw [h1,List.getElem?_map,hz',e'];rfl
   ·rw [List.getElem?_eq_none (by omega),List.getElem?_eq_none (by simp;omega)]
  ·cases h
theorem gUses : Tryz.prog.globalNamed "deadlatch/isa.uses" = some 0:=by kernel_rfl
theorem gNames : Tryz.prog.globalNamed "deadlatch/isa.names" = some 2:=by kernel_rfl
theorem gObj : Tryz.prog.globalNamed "deadlatch/obj.names" = some 1:=by kernel_rfl
def laid3:List (String×DataW Unit):=[("deadlatch/isa.uses",Lib.tabData .i64 opUses),("deadlatch/isa.names",strData opNames),("deadlatch/obj.names",strData kindNames)]
theorem tables{W:World}(h:laidMetH Tryz.prog laid3 W):TabI W∧TabO W:=by
 have h':laidMet Tryz.prog laid3 W:=h
 obtain⟨ps,⟨g0,t0,cs0,f0,p0,q0,hg0,ht0,hv0,hd0,⟨g1,t1,cs1,f1,p1,q1,hg1,ht1,hv1,hd1,⟨g2,t2,cs2,f2,p2,q2,hg2,ht2,hv2,hd2,_,_⟩,_⟩,_⟩,_⟩:=h'
 obtain rfl:=Option.some.inj (gUses.symm.trans hg0)
 obtain rfl:=Option.some.inj (gNames.symm.trans hg1)
 obtain rfl:=Option.some.inj (gObj.symm.trans hg2)
 obtain rfl:=Option.some.inj ((show (Tryz.prog.globals[0]?).map (·.type)=some 176 by kernel_rfl).symm.trans ht0)
 obtain rfl:=Option.some.inj ((show (Tryz.prog.globals[2]?).map (·.type)=some 203 by kernel_rfl).symm.trans ht1)
 obtain rfl:=Option.some.inj ((show (Tryz.prog.globals[1]?).map (·.type)=some 202 by kernel_rfl).symm.trans ht2)
 have e0:=Lib.cells_of_tab Tryz.underlying176 Tryz.underlying3 (by kernel_rfl) (by kernel_rfl) hd0
 have e1:=cells_of_strs Tryz.underlying203 Tryz.underlying9 (by kernel_rfl) (by kernel_rfl) hd1
 have e2:=cells_of_strs Tryz.underlying202 Tryz.underlying9 (by kernel_rfl) (by kernel_rfl) hd2
 have k0:=World.var?_cell gUses (show W.var? Tryz.prog "deadlatch/isa.uses" = some (opUses.map fun z=>Value.int .i64 z).toArray by rw [hv0,←e0])
 have k1:=World.var?_cell gNames (show W.var? Tryz.prog "deadlatch/isa.names" = some (opNames.map str).toArray by rw [hv1,←e1])
 have k2:=World.var?_cell gObj (show W.var? Tryz.prog "deadlatch/obj.names" = some (kindNames.map str).toArray by rw [hv2,←e2])
 refine⟨⟨fun i hi=>?_,fun i hi=>?_⟩,⟨fun i hi=>?_⟩⟩
 ·have hl:i < opNames.length:=hi
  rw [k1 i]
  simp [List.getD,hl,str]
 ·have hl:i < opUses.length:=hi
  rw [k0 i]
  simp [List.getD,hl]
 ·have hl:i < kindNames.length:=hi
  rw [k2 i]
  simp [List.getD,hl,str]
theorem list4{α:Type}:∀ {l:List α},l.length=4→∃ a b c d,l=[a,b,c,d]
 | [a,b,c,d],_=>⟨a,b,c,d,rfl⟩
theorem get_some{α:Type}{xs:List α}{i n:Nat}(h:xs.length=n)(hi:i < n):∃ y,xs[i]? = some y:=⟨_,List.getElem?_eq_getElem (by omega)⟩
theorem case_shape{H:Type}{enc:TypeId×Value→H}{W:World}{b0 base:Nat}{r:Reach}{sp:Nat→Bool}{held:Bool}{v:Value}{d:DataW H}{p:List MemPlace}
  (hv:Value.okWide Tryz.prog W r b0 70 v) (h:DataW.Trod enc Tryz.prog W base sp held 70 v d p):
  ∃ (a b c e:Int),v=.agg #[.int .u8 a,.int .u8 b,.int .u8 c,.int .u8 e]∧(0≤a∧a≤255)∧(0≤b∧b≤255)∧(0≤c∧c≤255)∧(0≤e∧e≤255):=by
 obtain⟨cs,rfl,hsz⟩:=okWide_struct Tryz.underlying70 hv
 obtain⟨fuel,hf⟩:=h
 obtain⟨l⟩:=cs
 have z4 : Tryz.prog.cellsOf 70=4:=by kernel_rfl
 have z1 : Tryz.prog.cellsOf 5=1:=by kernel_rfl
 obtain⟨x0,x1,x2,x3,rfl⟩:=list4 (show l.length=4 from hsz.trans z4)
 obtain⟨xs,n,_,_,hl,hx,hfs⟩:=DataW.trod_struct Tryz.underlying70 hf
 have hx4:xs.length=4:=hx
 have f0:DataW.trod enc Tryz.prog W base sp held n 5 (List.take (Tryz.prog.cellsOf 5) [x0,x1,x2,x3])=xs[0]? := hfs 0 _ rfl
 have f1:DataW.trod enc Tryz.prog W base sp held n 5 (List.take (Tryz.prog.cellsOf 5) [x1,x2,x3])=xs[1]? := hfs 1 _ rfl
 have f2:DataW.trod enc Tryz.prog W base sp held n 5 (List.take (Tryz.prog.cellsOf 5) [x2,x3])=xs[2]? := hfs 2 _ rfl
 have f3:DataW.trod enc Tryz.prog W base sp held n 5 (List.take (Tryz.prog.cellsOf 5) [x3])=xs[3]? := hfs 3 _ rfl
 rw [z1] at f0 f1 f2 f3
 obtain⟨y0,hy0⟩:=get_some hx4 (show 0 < 4 by decide)
 obtain⟨y1,hy1⟩:=get_some hx4 (show 1 < 4 by decide)
 obtain⟨y2,hy2⟩:=get_some hx4 (show 2 < 4 by decide)
 obtain⟨y3,hy3⟩:=get_some hx4 (show 3 < 4 by decide)
 obtain⟨a,ha,_,wa⟩:=DataW.trod_int Tryz.underlying5 (f0.trans hy0)
 obtain⟨b,hb,_,wb⟩:=DataW.trod_int Tryz.underlying5 (f1.trans hy1)
 obtain⟨c,hc,_,wc⟩:=DataW.trod_int Tryz.underlying5 (f2.trans hy2)
 obtain⟨e,he,_,we⟩:=DataW.trod_int Tryz.underlying5 (f3.trans hy3)
 simp only [List.take_succ_cons,List.take_zero,List.cons.injEq,and_true] at ha hb hc he
 subst ha hb hc he
 simp [Lit.wf] at wa wb wc we
 have e1:IntKind.u8.min=0:=by decide
 have e2:IntKind.u8.max=255:=by decide
 exact⟨a,b,c,e,rfl,by omega,by omega,by omega,by omega⟩
theorem cell_in{w:World}{a:Addr}{v:Value}(h:w.cell? a=some v):a.block < w.heap.size∧a.spot=none:=by
 unfold World.cell? at h
 split at h
 ·next e=>
  refine⟨(Array.getElem?_eq_some_iff.1 e).1,?_⟩
  cases hs:a.spot with
  | none=>rfl
  | some x=>rw [hs] at h;simp at h
 ·cases h
set_option maxRecDepth 100000 in
theorem bytes_open{H:Type}{enc:TypeId×Value→H}{W:World}{b0 base:Nat}{r:Reach}{sp:Nat→Bool}{held:Bool}{v:Value}{d:DataW H}{p:List MemPlace}
  (hv:Value.okWide Tryz.prog W r b0 24 v) (h:DataW.Trod enc Tryz.prog W base sp held 24 v d p):∃ (A:Option Addr) (cap:Nat) (bs:List Nat),v=.slice A bs.length cap∧bs.length≤maxLen∧Rd W 1 v bs.length (T.u8s bs)∧∀ b∈bs,b≤255:=by
 obtain⟨A,n,cap,rfl⟩:=okWide_slice Tryz.underlying24 hv
 obtain⟨fuel,hf⟩:=h
 have z1 : Tryz.prog.cellsOf 5=1:=by kernel_rfl
 rcases Go.Deep.open_slice1 Tryz.underlying24 z1 hf with⟨h0,_⟩ | ⟨a,len,cap',m,q,V,D,Pl,hcs,_,hl,hm,hmm,_,hel⟩
 ·have h1:(Value.slice A n cap)=.slice none 0 0:=by
   have:[Value.slice A n cap]=[.slice none 0 0]:=h0
   simpa using this
  injection h1 with e1 e2 e3
  subst e1 e2 e3
  exact⟨none,0,[],rfl,Nat.zero_le _,⟨none,0,rfl,Nat.le_refl _,rfl,.inl ⟨rfl,rfl⟩⟩,fun i hi=>by cases hi⟩
 ·have h1:(Value.slice A n cap)=.slice (some a) len cap':=by
   have:[Value.slice A n cap]=[.slice (some a) len cap']:=hcs
   simpa using this
  injection h1 with e1 e2 e3
  subst e1 e2 e3
  have hlm:n≤m:=by rw [hmm];split<;>omega
  have each:∀ i:Fin n,∃ x:Nat,W.cell? (a.add i.1)=some (.int .u8 (x:Int))∧x≤255:=by
   intro i
   obtain⟨h1,h2⟩:=hel i.1 (by have:=i.2;omega)
   obtain⟨z,hz,_,hw⟩:=DataW.trod_int Tryz.underlying5 h2
   simp [Lit.wf] at hw
   have e1:IntKind.u8.min=0:=by decide
   have e2:IntKind.u8.max=255:=by decide
   have hz2:V i.1=.int .u8 z:=by simpa using hz
   refine⟨z.toNat,?_,by omega⟩
   rw [h1,hz2,show ((z.toNat:Nat):Int)=z by omega]
  obtain⟨bs,hbs⟩:∃ bs:List Nat,bs=List.ofFn (fun i=>Classical.choose (each i)):=⟨_,rfl⟩
  have hbl:bs.length=n:=by rw [hbs];exact List.length_ofFn
  refine⟨some a,cap,bs,by rw [hbl],by omega,⟨some a,cap,by rw [hbl],by omega,by rw [hbl];simp [T.u8s,hbl],?_⟩,?_⟩
  ·by_cases hn:n=0
   ·have hh:W.has Tryz.prog r b0 a 5 cap:=by
     have hv':=hv
     simp only [Value.okWide,Tryz.underlying24,Cell.okWide,Cell.ok] at hv'
     exact hv'.2.2
    obtain⟨_,hs,row,cells,hsh,_⟩:=hh
    have hb:a.block < W.heap.size:=by
     have:W.heap[a.block]?.isSome=true:=by
      unfold World.shape? at hsh
      cases he:W.heap[a.block]? with
      | none=>rw [he] at hsh;cases hsh
      | some o=>rfl
     obtain⟨o,ho⟩:=Option.isSome_iff_exists.1 this
     exact (Array.getElem?_eq_some_iff.1 ho).1
    obtain⟨b,off,spot⟩:=a
    subst hs
    refine .inr ⟨b,off,rfl,hb,fun j u hu=>?_⟩
    have:j < 0:=by
     have:=(List.getElem?_eq_some_iff.1 hu).1
     simp [T.u8s,hbl,hn] at this
    omega
   ·have c0:=(Classical.choose_spec (each ⟨0,by omega⟩)).1
    obtain⟨h1,h2⟩:=cell_in c0
    obtain⟨b,off,spot⟩:=a
    simp only [Addr.add] at h1 h2
    subst h2
    refine .inr ⟨b,off,rfl,h1,fun j u hu=>?_⟩
    have hj:j < n:=by
     have:=(List.getElem?_eq_some_iff.1 hu).1
     simpa [T.u8s,hbl] using this
    have e:u=.int .u8 ((Classical.choose (each ⟨j,hj⟩):Nat):Int):=by
     unfold T.u8s at hu
     rw [List.getElem?_map,hbs,List.getElem?_ofFn,dif_pos hj] at hu
     injection hu with hu
     exact hu.symm
    rw [e]
    exact (show W.cell? ⟨b,off+j,none⟩=W.cell? ((⟨b,off,none⟩:Addr).add j) by rw [add_at]).trans (Classical.choose_spec (each ⟨j,hj⟩)).1
  ·intro i hi
   rw [hbs] at hi
   obtain⟨q,rfl⟩:=List.mem_ofFn.1 hi
   exact (Classical.choose_spec (each q)).2
end Go.Proofs.YtckmkaeopnnbbaaGreatDoor.As
