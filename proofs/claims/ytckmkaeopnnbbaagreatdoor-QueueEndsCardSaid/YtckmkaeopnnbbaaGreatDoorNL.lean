/- The laws by which a listed array of temporaries is brought to its form, under short names. -/
import Derived.Calls
set_option linter.unusedVariables false
open Go
namespace Go.Proofs.YtckmkaeopnnbbaaGreatDoor.As

theorem Zq1.{u}{α:Type u}{l:List α}{i:Nat}(h:i < l.toArray.size):l.toArray[i]=l[i]'(by simpa using h):=rfl
theorem Zq2.{u}{α:Type u}{a:α}{l:List α}(h:0 < (a::l).length):(a::l)[0]=a:=rfl
theorem Zq3.{u}{α:Type u}{a:α}{l:List α}{i:Nat}(h:i+1 < (a::l).length):(a::l)[i+1]=l[i]'(Nat.lt_of_succ_lt_succ h):=rfl
theorem Zq4.{u}{α:Type u}(l:List α)(i:Nat)(a:α):l.toArray.setIfInBounds i a=(l.set i a).toArray:=List.setIfInBounds_toArray ..
theorem Zq5.{u}{α:Type u}{a b:α}{l:List α}:(a::l).set 0 b=b::l:=rfl
theorem Zq6.{u}{α:Type u}{a b:α}{l:List α}{i:Nat}:(a::l).set (i+1) b=a::l.set i b:=rfl
end Go.Proofs.YtckmkaeopnnbbaaGreatDoor.As
