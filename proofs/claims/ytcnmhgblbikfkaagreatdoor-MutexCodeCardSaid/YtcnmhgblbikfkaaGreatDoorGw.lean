/- The walks of the package spin: no code. The walks of the package deadlatchlaw15: are two codes the same? -/
import Derived.Test.YtcnmhgblbikfkaaGreatDoorGp
import Derived.Test.YtcnmhgblbikfkaaGreatDoorGb
import Derived.Test.YtcnmhgblbikfkaaGreatDoorGu
import Derived.Deep.RegionWith
section
set_option linter.unusedVariables false
namespace Go.Proofs.YtcnmhgblbikfkaaGreatDoor.As
open Go.RowKit

def NoCode(w:World)(e:Ending)(w':World):Prop:=e=.returned (.tuple #[.slice none 0 0,.bool false])∧Below w.heap.size w w'
end Go.Proofs.YtcnmhgblbikfkaaGreatDoor.As
end

section
set_option linter.unusedVariables false
namespace Go.Proofs.YtcnmhgblbikfkaaGreatDoor.As
open Go.RowKit

theorem ins_cells{w:World}{A:Option Addr}{n cap i:Nat}{l:List Ins}{x:Ins}(h:Rd w 5 (.slice A n cap) n (flat l))(hx:l[i]? = some x)(hn:0 < n):
  ∃ b off,A=some ⟨b,off,none⟩∧b < w.heap.size∧w.cell? ⟨b,off+i*5,none⟩=some (.int .i64 x.op)∧w.cell? ⟨b,off+i*5+1,none⟩=some (.int .i64 x.a)∧w.cell? ⟨b,off+i*5+2,none⟩=some (.int .i64 x.b)∧w.cell? ⟨b,off+i*5+3,none⟩=some (.int .i64 x.c)∧w.cell? ⟨b,off+i*5+4,none⟩=some (.int .u32 x.k):=by
 obtain⟨b,off,e,hb,hc⟩:=h.cells hn
 have g:=fun j hj=>flat_get l i x hx j hj
 exact⟨b,off,e,hb,hc _ _ (g 0 (by decide)),hc _ _ (g 1 (by decide)),hc _ _ (g 2 (by decide)),hc _ _ (g 3 (by decide)),hc _ _ (g 4 (by decide))⟩
theorem same15_any(w:World)(v u:Value)(l:List Ins)(n:Nat)(hn:l.length=n)(hv:Rd w 5 v n (flat l))(hu:Rd w 5 u n (flat l))(hs:n≤1000000):
  Calls Tryz.prog 52 #[v,u] w fun e w'=>e=.returned (.bool true)∧∃ m,w'=w.drewN m:=by
 obtain⟨A,cap,rfl⟩:=hv.form
 obtain⟨B,cbp,rfl⟩:=hu.form
 have HV:=Lib.hid hv
 have HU:=Lib.hid hu
 clear hv hu
 go_enter Tryz.func52,Tryz.ntmps52
 go_wp2_with fail
 go_loopw [5] (fun iv wr=>∃ i:Nat,i≤n∧iv=.int .i64 i∧∃ m,wr=w.drewN m) (fun i _=>n - (intOf i).toNat)
 case atStart=>exact⟨0,by omega,rfl,0,rfl⟩
 case round=>
  obtain⟨i,hin,rfl,m,rfl⟩:=hrel
  by_cases hlt:i < n
  ·obtain⟨x,hx⟩:∃ x,l[i]? = some x:=⟨_,List.getElem?_eq_getElem (by omega)⟩
   obtain⟨b1,o1,rfl,hb1,c0,c1,c2,c3,c4⟩:=ins_cells HV.out hx (by omega)
   obtain⟨b2,o2,rfl,hb2,d0,d1,d2,d3,d4⟩:=ins_cells HU.out hx (by omega)
   have f1:(0:Int)≤(i:Int):=by omega
   have f2:(i:Int) < (n:Int):=by omega
   have cq0:(w.drewN m).drew.cell? ⟨b1,o1+i*5,none⟩=some (.int .i64 x.op):=c0
   have cp0:(w.drewN m).cell? ⟨b1,o1+i*5,none⟩=some (.int .i64 x.op):=c0
   have cq1:(w.drewN m).drew.cell? ⟨b1,o1+i*5+1,none⟩=some (.int .i64 x.a):=c1
   have cp1:(w.drewN m).cell? ⟨b1,o1+i*5+1,none⟩=some (.int .i64 x.a):=c1
   have cq2:(w.drewN m).drew.cell? ⟨b1,o1+i*5+2,none⟩=some (.int .i64 x.b):=c2
   have cp2:(w.drewN m).cell? ⟨b1,o1+i*5+2,none⟩=some (.int .i64 x.b):=c2
   have cq3:(w.drewN m).drew.cell? ⟨b1,o1+i*5+3,none⟩=some (.int .i64 x.c):=c3
   have cp3:(w.drewN m).cell? ⟨b1,o1+i*5+3,none⟩=some (.int .i64 x.c):=c3
   have cq4:(w.drewN m).drew.cell? ⟨b1,o1+i*5+4,none⟩=some (.int .u32 x.k):=c4
   have cp4:(w.drewN m).cell? ⟨b1,o1+i*5+4,none⟩=some (.int .u32 x.k):=c4
   have dq0:(w.drewN m).drew.cell? ⟨b2,o2+i*5,none⟩=some (.int .i64 x.op):=d0
   have dp0:(w.drewN m).cell? ⟨b2,o2+i*5,none⟩=some (.int .i64 x.op):=d0
   have dq1:(w.drewN m).drew.cell? ⟨b2,o2+i*5+1,none⟩=some (.int .i64 x.a):=d1
   have dp1:(w.drewN m).cell? ⟨b2,o2+i*5+1,none⟩=some (.int .i64 x.a):=d1
   have dq2:(w.drewN m).drew.cell? ⟨b2,o2+i*5+2,none⟩=some (.int .i64 x.b):=d2
   have dp2:(w.drewN m).cell? ⟨b2,o2+i*5+2,none⟩=some (.int .i64 x.b):=d2
   have dq3:(w.drewN m).drew.cell? ⟨b2,o2+i*5+3,none⟩=some (.int .i64 x.c):=d3
   have dp3:(w.drewN m).cell? ⟨b2,o2+i*5+3,none⟩=some (.int .i64 x.c):=d3
   have dq4:(w.drewN m).drew.cell? ⟨b2,o2+i*5+4,none⟩=some (.int .u32 x.k):=d4
   have dp4:(w.drewN m).cell? ⟨b2,o2+i*5+4,none⟩=some (.int .u32 x.k):=d4
   go_wp2_with fail
   go_region_with (fail)
   all_goals go_wp2_with fail
   all_goals exact⟨⟨i+1,by omega,by simp,m+1,rfl⟩,by simp [intOf];omega⟩
  ·go_wp2_with fail
   go_ret
   exact⟨rfl,m,rfl⟩
end Go.Proofs.YtcnmhgblbikfkaaGreatDoor.As
end

