/- A builder's calls,one behind the other: what is kept from call to call. The walks of the package spin: what calls begin and end with. The walks of the package spin: the parts of its calls. A builder's calls beside blocks of their own: a struct that a function was handed. A new builder,and the code that it answers. -/
import Derived.Test.YtcnmhgblbikfkaaGreatDoorGb
import Derived.Test.YtcnmhgblbikfkaaGreatDoorGo
import Derived.Test.YtcnmhgblbikfkaaGreatDoorGd
section
set_option linter.unusedVariables false
namespace Go.Proofs.YtcnmhgblbikfkaaGreatDoor.As
open Go.RowKit

def Bat(w0:World)(F0:Nat→Prop)(g N:Nat)(s:BS)(w:World):Prop:=
 ∃ F,Bld w g s F∧Step F0 w0 F w∧s.code.length≤N∧s.places.length≤N
def BatPost(w0:World)(F0:Nat→Prop)(g N:Nat)(s:BS)(e:Ending)(w:World):Prop:=e=.returned (.tuple #[])∧Bat w0 F0 g N s w

theorem Bat.start{w:World}{F:Nat→Prop}{g N:Nat}{s:BS}(h:Bld w g s F)(h1:s.code.length≤N)(h2:s.places.length≤N):Bat w F g N s w:=
 ⟨F,h,⟨Only.refl F w,fun _ e=>.inl e⟩,h1,h2⟩
theorem Bat.of_post{w0 w w':World}{F0 F:Nat→Prop}{g N:Nat}{s':BS}{e:Ending}(hs:Step F0 w0 F w)(h:BPost w g F s' e w')(h1:s'.code.length≤N)(h2:s'.places.length≤N):BatPost w0 F0 g N s' e w':=by
 obtain⟨rfl,F',hb,hs'⟩:=h
 exact⟨rfl,F',hb,hs.trans hs',h1,h2⟩
theorem do_at{w0 w:World}{F0:Nat→Prop}{g N:Nat}{s:BS}(h:Bat w0 F0 g N s w)(hN:N < 500000)(o a b c k:Int):
  Calls Tryz.prog 115 #[.pointer (some ⟨g,0,none⟩),.agg #[.int .i64 o,.int .i64 a,.int .i64 b,.int .i64 c,.int .u32 k]] w (BatPost w0 F0 g (N+1) (s.do_ ⟨o,a,b,c,k⟩)):=by
 obtain⟨F,hb,hs,h1,h2⟩:=h
 exact (do_any w g s F hb (by omega) o a b c k).mono (fun e w' h=>Bat.of_post hs h (by simp [BS.do_];omega) (by simp [BS.do_];omega))
theorem set_at{w0 w:World}{F0:Nat→Prop}{g N:Nat}{s:BS}(h:Bat w0 F0 g N s w)(hN:N < 500000)(a k:Int):
  Calls Tryz.prog 79 #[.pointer (some ⟨g,0,none⟩),.int .i64 a,.int .u32 k] w (BatPost w0 F0 g (N+1) (s.set_ a k)):=by
 obtain⟨F,hb,hs,h1,h2⟩:=h
 exact (set_any w g s F hb (by omega) a k).mono (fun e w' h=>Bat.of_post hs h (by simp [BS.set_,BS.do_];omega) (by simp [BS.set_,BS.do_];omega))
theorem alu_at{w0 w:World}{F0:Nat→Prop}{g N:Nat}{s:BS}(h:Bat w0 F0 g N s w)(hN:N < 500000)(o a x y:Int):
  Calls Tryz.prog 81 #[.pointer (some ⟨g,0,none⟩),.int .i64 o,.int .i64 a,.int .i64 x,.int .i64 y] w (BatPost w0 F0 g (N+1) (s.alu_ o a x y)):=by
 obtain⟨F,hb,hs,h1,h2⟩:=h
 exact (alu_any w g s F hb (by omega) o a x y).mono (fun e w' h=>Bat.of_post hs h (by simp [BS.alu_,BS.do_];omega) (by simp [BS.alu_,BS.do_];omega))
theorem ask_at{w0 w:World}{F0:Nat→Prop}{g N:Nat}{s:BS}(h:Bat w0 F0 g N s w)(hN:N < 500000)(o a k:Int):
  Calls Tryz.prog 77 #[.pointer (some ⟨g,0,none⟩),.int .i64 o,.int .i64 a,.int .u32 k] w (BatPost w0 F0 g (N+1) (s.ask_ o a k)):=by
 obtain⟨F,hb,hs,h1,h2⟩:=h
 exact (ask_any w g s F hb (by omega) o a k).mono (fun e w' h=>Bat.of_post hs h (by simp [BS.ask_,BS.do_];omega) (by simp [BS.ask_,BS.do_];omega))
theorem cas_at{w0 w:World}{F0:Nat→Prop}{g N:Nat}{s:BS}(h:Bat w0 F0 g N s w)(hN:N < 500000)(a c k:Int):
  Calls Tryz.prog 84 #[.pointer (some ⟨g,0,none⟩),.int .i64 a,.int .i64 c,.int .u32 k] w (BatPost w0 F0 g (N+1) (s.cas_ a c k)):=by
 obtain⟨F,hb,hs,h1,h2⟩:=h
 exact (cas_any w g s F hb (by omega) a c k).mono (fun e w' h=>Bat.of_post hs h (by simp [BS.cas_,BS.do_];omega) (by simp [BS.cas_,BS.do_];omega))
theorem go_at{w0 w:World}{F0:Nat→Prop}{g N:Nat}{s:BS}(h:Bat w0 F0 g N s w)(hN:N < 500000)(o a:Int)(nm:ByteArray):
  Calls Tryz.prog 78 #[.pointer (some ⟨g,0,none⟩),.int .i64 o,.int .i64 a,.string nm] w (BatPost w0 F0 g (N+1) (s.go_ o a nm.data.toList)):=by
 obtain⟨F,hb,hs,h1,h2⟩:=h
 exact (go_any w g s F hb (by omega) o a nm).mono (fun e w' h=>Bat.of_post hs h (by simp [BS.go_];omega) (by simp [BS.go_];omega))
theorem at_at{w0 w:World}{F0:Nat→Prop}{g N:Nat}{s:BS}(h:Bat w0 F0 g N s w)(hN:N < 500000)(nm:ByteArray)(hnm:nm.size≤maxLen):
  Calls Tryz.prog 76 #[.pointer (some ⟨g,0,none⟩),.string nm] w (BatPost w0 F0 g (N+1) (s.at_ nm.data.toList)):=by
 obtain⟨F,hb,hs,h1,h2⟩:=h
 exact (at_any w g s F hb (by omega) (by omega) nm hnm).mono (fun e w' h=>Bat.of_post hs h (by unfold BS.at_;split<;>simp<;>omega) (by unfold BS.at_;split<;>simp<;>omega))
end Go.Proofs.YtcnmhgblbikfkaaGreatDoor.As
end

section
set_option linter.unusedVariables false
namespace Go.Proofs.YtcnmhgblbikfkaaGreatDoor.As
open Go.RowKit

def loadL(r:Int)(k:Nat):Ln:=.ins ⟨16,r,8,0,(k:Int)⟩ []
def storeL(r:Int)(k:Nat):Ln:=.ins ⟨17,r,8,0,(k:Int)⟩ []
def setL(r:Int)(k:Nat):Ln:=.ins ⟨1,r,0,0,(k:Int)⟩ []
def mineL(o t:Nat):List Ln:=[loadL 4 o,setL 5 (t+1),.ins ⟨12,6,4,5,0⟩ []]
def claimL(o t:Nat):List Ln:=[loadL 4 o,setL 5 (t+1),.ins ⟨12,6,4,5,0⟩ [],.ins ⟨14,6,0,0,0⟩ [102,114,101,101],setL 7 1,.ins ⟨13,0,0,0,0⟩ [101,110,100],.lab [102,114,101,101]]
def proveL(o t:Nat):List Ln:=[loadL 4 o,setL 5 (t+1),.ins ⟨12,6,4,5,0⟩ [],.ins ⟨15,6,0,0,0⟩ [109,105,110,101],setL 7 2,.ins ⟨13,0,0,0,0⟩ [101,110,100],.lab [109,105,110,101]]
def closeL:List Ln:=[setL 7 0,.lab [101,110,100]]
def zeroL(o:Nat):List Ln:=[setL 4 0,storeL 4 o]

theorem mine_at{w0 w:World}{F0:Nat→Prop}{g N:Nat}{s:BS}(h:Bat w0 F0 g N s w)(hN:N < 400000)(o t:Nat)(ht:t≤1000000):
  Calls Tryz.prog 83 #[.pointer (some ⟨g,0,none⟩),.int .u32 o,.int .i64 t] w (BatPost w0 F0 g (N+1+1+1) (s.run (mineL o t))):=by
 have e1:IntKind.u32.wrap (t:Int)=t:=by rw [IntKind.wrap_u32];omega
 have e2:IntKind.u32.wrap ((t:Int)+1)=((t+1:Nat):Int):=by rw [IntKind.wrap_u32];omega
 go_enter Tryz.func83,Tryz.ntmps83
 go_wp2_with fail
 refine (ask_at h (by omega) _ _ _).mono ?_;rintro e w1 ⟨rfl,h1⟩
 go_wp2_with fail
 refine (set_at h1 (by omega) _ _).mono ?_;rintro e w2 ⟨rfl,h2⟩
 go_wp2_with fail
 refine (alu_at h2 (by omega) _ _ _ _).mono ?_;rintro e w3 ⟨rfl,h3⟩
 go_wp2_with fail
 go_end0
 exact⟨rfl,h3⟩
end Go.Proofs.YtcnmhgblbikfkaaGreatDoor.As
end

section
set_option linter.unusedVariables false
namespace Go.Proofs.YtcnmhgblbikfkaaGreatDoor.As
open Go.RowKit

def claimL'(o t:Nat):List Ln:=[.ins ⟨16,4,8,0,((o:Nat):Int)⟩ [],.ins ⟨1,5,0,0,((t+1:Nat):Int)⟩ [],.ins ⟨12,6,4,5,0⟩ [],.ins ⟨14,6,0,0,0⟩ [102,114,101,101],.ins ⟨1,7,0,0,1⟩ [],.ins ⟨13,0,0,0,0⟩ [101,110,100],.lab [102,114,101,101]]
theorem claim_at{w0 w:World}{F0:Nat→Prop}{g N:Nat}{s:BS}(h:Bat w0 F0 g N s w)(hN:N < 400000)(o t:Nat)(ht:t≤1000000):
  Calls Tryz.prog 37 #[.pointer (some ⟨g,0,none⟩),.int .u32 o,.int .i64 t] w (BatPost w0 F0 g (N+1+1+1+1+1+1+1) (s.run (claimL o t))):=by
 go_enter Tryz.func37,Tryz.ntmps37
 go_wp2_with fail
 refine (mine_at h (by omega) o t ht).mono ?_;rintro e w1 ⟨rfl,h1⟩
 go_wp2_with fail
 refine (go_at h1 (by omega) _ _ _).mono ?_;rintro e w2 ⟨rfl,h2⟩
 go_wp2_with fail
 refine (set_at h2 (by omega) _ _).mono ?_;rintro e w3 ⟨rfl,h3⟩
 go_wp2_with fail
 refine (go_at h3 (by omega) _ _ _).mono ?_;rintro e w4 ⟨rfl,h4⟩
 go_wp2_with fail
 refine (at_at h4 (by omega) _ (by decide)).mono ?_;rintro e w5 ⟨rfl,h5⟩
 go_wp2_with fail
 go_end0
 exact⟨rfl,h5⟩
def proveL'(o t:Nat):List Ln:=[.ins ⟨16,4,8,0,((o:Nat):Int)⟩ [],.ins ⟨1,5,0,0,((t+1:Nat):Int)⟩ [],.ins ⟨12,6,4,5,0⟩ [],.ins ⟨15,6,0,0,0⟩ [109,105,110,101],.ins ⟨1,7,0,0,2⟩ [],.ins ⟨13,0,0,0,0⟩ [101,110,100],.lab [109,105,110,101]]
theorem prove_at{w0 w:World}{F0:Nat→Prop}{g N:Nat}{s:BS}(h:Bat w0 F0 g N s w)(hN:N < 400000)(o t:Nat)(ht:t≤1000000):
  Calls Tryz.prog 40 #[.pointer (some ⟨g,0,none⟩),.int .u32 o,.int .i64 t] w (BatPost w0 F0 g (N+1+1+1+1+1+1+1) (s.run (proveL o t))):=by
 go_enter Tryz.func40,Tryz.ntmps40
 go_wp2_with fail
 refine (mine_at h (by omega) o t ht).mono ?_;rintro e w1 ⟨rfl,h1⟩
 go_wp2_with fail
 refine (go_at h1 (by omega) _ _ _).mono ?_;rintro e w2 ⟨rfl,h2⟩
 go_wp2_with fail
 refine (set_at h2 (by omega) _ _).mono ?_;rintro e w3 ⟨rfl,h3⟩
 go_wp2_with fail
 refine (go_at h3 (by omega) _ _ _).mono ?_;rintro e w4 ⟨rfl,h4⟩
 go_wp2_with fail
 refine (at_at h4 (by omega) _ (by decide)).mono ?_;rintro e w5 ⟨rfl,h5⟩
 go_wp2_with fail
 go_end0
 exact⟨rfl,h5⟩
def closeL'  : List Ln:=[.ins ⟨1,7,0,0,0⟩ [],.lab [101,110,100]]
theorem close_at{w0 w:World}{F0:Nat→Prop}{g N:Nat}{s:BS}(h:Bat w0 F0 g N s w)(hN:N < 400000)  :
  Calls Tryz.prog 39 #[.pointer (some ⟨g,0,none⟩)] w (BatPost w0 F0 g (N+1+1) (s.run closeL)):=by
 go_enter Tryz.func39,Tryz.ntmps39
 go_wp2_with fail
 refine (set_at h (by omega) _ _).mono ?_;rintro e w1 ⟨rfl,h1⟩
 go_wp2_with fail
 refine (at_at h1 (by omega) _ (by decide)).mono ?_;rintro e w2 ⟨rfl,h2⟩
 go_wp2_with fail
 go_end0
 exact⟨rfl,h2⟩
def zeroL'(o:Nat):List Ln:=[.ins ⟨1,4,0,0,0⟩ [],.ins ⟨17,4,8,0,((o:Nat):Int)⟩ []]
theorem zero_at{w0 w:World}{F0:Nat→Prop}{g N:Nat}{s:BS}(h:Bat w0 F0 g N s w)(hN:N < 400000)(o:Nat):
  Calls Tryz.prog 85 #[.pointer (some ⟨g,0,none⟩),.int .u32 o] w (BatPost w0 F0 g (N+1+1) (s.run (zeroL o))):=by
 go_enter Tryz.func85,Tryz.ntmps85
 go_wp2_with fail
 refine (set_at h (by omega) _ _).mono ?_;rintro e w1 ⟨rfl,h1⟩
 go_wp2_with fail
 refine (ask_at h1 (by omega) _ _ _).mono ?_;rintro e w2 ⟨rfl,h2⟩
 go_wp2_with fail
 go_end0
 exact⟨rfl,h2⟩
def tasL(base:Nat):List Ln:=[.lab [115,112,105,110],.ins ⟨1,4,0,0,0⟩ [],.ins ⟨21,4,8,5,((base+0:Nat):Int)⟩ [],.ins ⟨15,4,0,0,0⟩ [115,112,105,110]]
end Go.Proofs.YtcnmhgblbikfkaaGreatDoor.As
end

section
set_option linter.unusedVariables false
namespace Go.Proofs.YtcnmhgblbikfkaaGreatDoor.As
open Go.RowKit

theorem Bat.alloc{w0 w:World}{F0:Nat→Prop}{g N:Nat}{s:BS}(h:Bat w0 F0 g N s w)(o:Obj):
  ∃ F,Bat (w.alloc o) F g N s (w.alloc o)∧(∀ k,F k→k < w.heap.size)∧∀ N' s' w',Bat (w.alloc o) F g N' s' w'→Bat w0 F0 g N' s' w':=by
 obtain⟨F,hb,hs,h1,h2⟩:=h
 have ha:Below w.heap.size w (w.alloc o):=(Below.refl _ w).alloc (Nat.le_refl _) o
 have hbl:=mem_below hb.mem ha (Nat.le_refl _)
 refine⟨F,Bat.start ⟨hb.good,hbl⟩ h1 h2,mem_lt hb.mem,?_⟩
 rintro N' s' w' ⟨F',hb',hs',h1',h2'⟩
 exact⟨F',hb',(hs.trans (Step.of_below ha (Nat.le_refl _))).trans hs',h1',h2'⟩
theorem Bat.kept{W w':World}{F:Nat→Prop}{g N n:Nat}{s:BS}{x:Obj}(h:Bat W F g N s w')(hF:∀ k,F k→k < n)(hn:n < W.heap.size)(hW:W.heap[n]? = some x):w'.heap[n]? = some x:=by
 obtain⟨F',hb,hs,_,_⟩:=h
 rw [hs.1.block n hn (fun e=>Nat.lt_irrefl n (hF n e))]
 exact hW
theorem cells5{w:World}{n:Nat}{a b c d e:Value}{t:TypeId}(h:w.heap[n]? = some (.cells #[a,b,c,d,e] t (0,0))):
  w.cell? ⟨n,0,none⟩=some a∧w.cell? ⟨n,1,none⟩=some b∧w.cell? ⟨n,2,none⟩=some c∧w.cell? ⟨n,3,none⟩=some d∧w.cell? ⟨n,4,none⟩=some e:=by
 have c0:=cell_of_row w n 0 _ _ _ h
 have c1:=cell_of_row w n 1 _ _ _ h
 have c2:=cell_of_row w n 2 _ _ _ h
 have c3:=cell_of_row w n 3 _ _ _ h
 have c4:=cell_of_row w n 4 _ _ _ h
 exact⟨c0,c1,c2,c3,c4⟩
theorem cells3{w:World}{n:Nat}{a b c:Value}{t:TypeId}(h:w.heap[n]? = some (.cells #[a,b,c] t (0,0))):
  w.cell? ⟨n,0,none⟩=some a∧w.cell? ⟨n,1,none⟩=some b∧w.cell? ⟨n,2,none⟩=some c:=by
 have c0:=cell_of_row w n 0 _ _ _ h
 have c1:=cell_of_row w n 1 _ _ _ h
 have c2:=cell_of_row w n 2 _ _ _ h
 exact⟨c0,c1,c2⟩
end Go.Proofs.YtcnmhgblbikfkaaGreatDoor.As
end

section
set_option linter.unusedVariables false
namespace Go.Proofs.YtcnmhgblbikfkaaGreatDoor.As
open Go.RowKit

abbrev zeroB:Obj:=.cells #[.slice none 0 0,.map none,.slice none 0 0,.bool false] 96 (0,0)
theorem bld_zero(w:World):Bld (w.alloc zeroB) w.heap.size BS.zero (fun k=>k=w.heap.size):=by
 refine⟨⟨Nat.le_refl _,fun p hp=>(by cases hp),fun p hp=>(by cases hp)⟩,.slice none 0 0,.map none,.slice none 0 0,heap_alloc_new _ _,World.ownsRow_nil _ _ _ _,World.ownsRow_nil _ _ _ _,.inl ⟨rfl,rfl⟩,fun k=>?_⟩
 simp [mapBlock,Value.ownBlock]
theorem Bat.below{w0 w w':World}{F0:Nat→Prop}{g N:Nat}{s:BS}(h:Bat w0 F0 g N s w)(hb:Below w.heap.size w w'):Bat w0 F0 g N s w':=by
 obtain⟨F,h1,hs,h2,h3⟩:=h
 exact⟨F,⟨h1.good,mem_below h1.mem hb (Nat.le_refl _)⟩,hs.trans (Step.of_below hb (Nat.le_refl _)),h2,h3⟩
theorem new_keep{w w1:World}{x:Obj}(hb:Below (w.alloc x).heap.size (w.alloc x) w1):w1.heap[w.heap.size]? = some x:=(hb.block _ (by simp)).trans (heap_alloc_new _ _)
theorem obj_keep{w1 w':World}{g:Nat}{x:Obj}(h:w1.heap[g]? = some x)(hb:Below w1.heap.size w1 w'):w'.heap[g]? = some x:=(hb.block g (Array.getElem?_eq_some_iff.1 h).1).trans h
theorem cells4{w:World}{n:Nat}{a b c d:Value}{t:TypeId}(h:w.heap[n]? = some (.cells #[a,b,c,d] t (0,0))):
  w.cell? ⟨n,0,none⟩=some a∧w.cell? ⟨n,1,none⟩=some b∧w.cell? ⟨n,2,none⟩=some c∧w.cell? ⟨n,3,none⟩=some d:=by
 have c0:=cell_of_row w n 0 _ _ _ h
 have c1:=cell_of_row w n 1 _ _ _ h
 have c2:=cell_of_row w n 2 _ _ _ h
 have c3:=cell_of_row w n 3 _ _ _ h
 exact⟨c0,c1,c2,c3⟩
structure SinceA(w1 w':World):Prop where
 tabI:TabI w1→TabI w'
 tabO:TabO w1→TabO w'
 below:Below w1.heap.size w1 w'
theorem bat_zero(w1:World):Bat (w1.alloc zeroB) (fun k=>k=w1.heap.size) w1.heap.size 0 BS.zero (w1.alloc zeroB):=
 Bat.start (bld_zero w1) (Nat.le_refl _) (Nat.le_refl _)
theorem Bat.since{w1 w':World}{N:Nat}{s:BS}(h:Bat (w1.alloc zeroB) (fun k=>k=w1.heap.size) w1.heap.size N s w'):SinceA w1 w':=by
 obtain⟨F,hb,hs,_,_⟩:=h
 have ha:Below w1.heap.size w1 (w1.alloc zeroB):=(Below.refl _ w1).alloc (Nat.le_refl _) _
 have hB:Below w1.heap.size w1 w':=ha.trans (hs.1.below (by simp) (fun k e=>by omega))
 exact⟨fun T=>T.below hB (Nat.le_refl _),fun T=>T.below hB (Nat.le_refl _),hB⟩
theorem own_base'{w:World}{b0 b1:Nat}{e:TypeId}{size n:Nat}{v:Value}{xs:List Value}(h:w.ownsRow b1 e size v n xs)(hb:b0≤b1):w.ownsRow b0 e size v n xs:=by
 refine⟨h.1,?_⟩
 rcases h.2 with h | ⟨g,cap,cs,e1,e2,e3⟩
 ·exact .inl h
 ·exact .inr ⟨g,cap,cs,e1,Nat.le_trans hb e2,e3⟩
def CodeOk(w:World)(b:List Ln)(e:Ending)(w':World):Prop:=(∃ v,e=.returned (.tuple #[v,.bool true])∧w'.ownsRow w.heap.size 132 5 v (resL b).length (flat (resL b)))∧Below w.heap.size w w'
theorem run_len:∀ (b:List Ln) (s:BS),(s.run b).code.length≤s.code.length+b.length
 | [],s=>Nat.le_refl _
 | .lab m::r,s=>by
  have h:=run_len r (s.add (.lab m))
  have e:(s.add (.lab m)).code.length=s.code.length:=by
   show (s.at_ m).code.length=_
   unfold BS.at_;split<;>rfl
  rw [e] at h
  rw [BS.run,List.length_cons];omega
 | .ins i []::r,s=>by
  have h:=run_len r (s.add (.ins i []))
  have e:(s.add (.ins i [])).code.length=s.code.length+1:=by show (s.do_ i).code.length=_;simp [BS.do_]
  rw [e] at h
  rw [BS.run,List.length_cons];omega
 | .ins i (c::to)::r,s=>by
  have h:=run_len r (s.add (.ins i (c::to)))
  have e:(s.add (.ins i (c::to))).code.length=s.code.length+1:=by show (s.go_ i.op i.a (c::to)).code.length=_;simp [BS.go_]
  rw [e] at h
  rw [BS.run,List.length_cons];omega
theorem code_at{w1 w:World}{N:Nat}{b:List Ln}{s:BS}(h:Bat (w1.alloc zeroB) (fun k=>k=w1.heap.size) w1.heap.size N s w)(hs:s=BS.zero.run b)(T:TabI w1)(H:OkL b):
  Calls Tryz.prog 42 #[.pointer (some ⟨w1.heap.size,0,none⟩)] w (CodeOk w1 b):=by
 have hS:=h.since
 obtain⟨F,hb,_,h1,_⟩:=h
 have hlen:=run_len b BS.zero
 have hfew:=H.few
 refine (code_any w w1.heap.size s F hb (hS.tabI T) (by rw [hs];have:BS.zero.code.length=0:=rfl;omega) (by rw [hs];intro p hp;have:=links_run H p hp;unfold maxLen;omega)).mono ?_
 rintro e w' ⟨hB,h2⟩
 rcases h2 with⟨h2,_⟩ | ⟨l,v,h2,rfl,hown⟩
 ·rw [hs,out_run H] at h2;cases h2
 ·rw [hs,out_run H] at h2
  injection h2 with h2
  subst h2
  exact⟨⟨v,rfl,own_base' hown hS.below.size⟩,hS.below.trans (hB.mono hS.below.size)⟩
theorem owner_any(w:World)(k n a b m:Int)(hm:ownerI k=m):Calls Tryz.prog 105 #[.agg #[.int .i64 k,.int .i64 n,.int .i64 a,.int .i64 b]] w fun e w'=>e=.returned (.int .i64 m)∧Below w.heap.size w w':=by
 have HR:=Lib.hid hm
 clear hm
 go_enter Tryz.func105,Tryz.ntmps105
 go_wp2_with fail
 all_goals go_ret
 all_goals refine⟨congrArg (fun x=>Ending.returned (.int .i64 x)) ?_,(Below.refl _ w).alloc (Nat.le_refl _) _⟩
 all_goals rw [←HR.out]
 all_goals clear HR
 all_goals simp only [beq_iff_eq,beq_eq_false_iff_ne,ne_eq] at *
 all_goals unfold ownerI
 all_goals repeat' split
 all_goals omega
end Go.Proofs.YtcnmhgblbikfkaaGreatDoor.As
end

