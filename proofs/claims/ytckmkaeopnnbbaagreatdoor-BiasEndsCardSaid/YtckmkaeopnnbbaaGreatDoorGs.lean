/- The walks of pick.right and of the methods of a row of dues. The walk of (*pick.dues).Push. The walks of container/heap's up and down over a row of dues. -/
import Derived.Test.YtckmkaeopnnbbaaGreatDoorNL
import Derived.Test.YtckmkaeopnnbbaaGreatDoorGn
import Derived.Test.YtckmkaeopnnbbaaGreatDoorEvA
import Derived.Test.YtckmkaeopnnbbaaGreatDoorGr
import Derived.Deep.AppendLies
import Derived.Deep.RegionHeldLaw
section
set_option linter.unusedVariables false
set_option linter.unusedSimpArgs false
set_option maxRecDepth 20000
namespace Go.Proofs.YtckmkaeopnnbbaaGreatDoor.As.T
open Go.RowKit

def DuIs(W:World)(gs cap:Nat)(l:List It):Prop:=∃ arr,W.heap[gs]? = some (.cells arr 159 (0,0))∧arr.size=cap*3∧l.length≤cap∧∀ (j:Nat) x,l[j]? = some x→arr[j*3]? = some (.int .i64 (x.k:Nat))∧arr[j*3+1]? = some (.int .i64 (x.t:Nat))∧arr[j*3+2]? = some (.int .i64 x.due)
def duV(gs n cap:Nat):Value:=.slice (some ⟨gs,0,none⟩) n cap
theorem DuIs.below{W W':World}{gs cap B:Nat}{l:List It}(h:DuIs W gs cap l)(hb:Below B W W')(hg:gs < B):DuIs W' gs cap l:=by
 obtain⟨arr,h1,h2⟩:=h
 exact⟨arr,(hb.block _ hg).trans h1,h2⟩
theorem right_any(w:World)(a b:Nat)(ha:1≤a)(ha8:a≤8)(hb:4*a≤b)(hb2:b≤100000):Calls Tryz.prog 89 #[.int .i64 (a:Nat),.int .i64 (b:Nat)] w fun e w'=>e=.returned (.bool true)∧w'=w:=by
 have h1:(1:Int)≤(a:Int):=by omega
 have h2:(a:Int)≤8:=by omega
 have h3:IntKind.i64.wrap (4*(a:Int))=4*(a:Int):=by rw [IntKind.wrap_i64];omega
 have h4:4*(a:Int)≤(b:Int):=by omega
 go_enter Tryz.func89,Tryz.ntmps89
 go_wp2_with fail
 go_ret
 simp
theorem len_any(w:World)(gs n cap:Nat):Calls Tryz.prog 189 #[duV gs n cap] w fun e w'=>e=.returned (.int .i64 (n:Nat))∧w'=w:=by
 unfold duV
 go_enter Tryz.func189,Tryz.ntmps189
 go_wp2_with fail
 go_ret
 simp
theorem dueP_get{l:List It}{i:Nat}{x:It}(h:l[i]? = some x):dueP l i=x.due:=by unfold dueP;rw [h]
theorem less_any(w:World)(gs cap:Nat)(l:List It)(i k:Nat)(h:DuIs w gs cap l)(hi:i < l.length)(hk:k < l.length)(hn:l.length≤100):Calls Tryz.prog 190 #[duV gs l.length cap,.int .i64 (i:Nat),.int .i64 (k:Nat)] w fun e w'=>e=.returned (.bool (decide (dueP l i < dueP l k)))∧Below w.heap.size w w':=by
 obtain⟨arr,h1,h2,h3,h4⟩:=h
 obtain⟨x,hx⟩:∃ x,l[i]? = some x:=⟨_,List.getElem?_eq_getElem hi⟩
 obtain⟨y,hy⟩:∃ x,l[k]? = some x:=⟨_,List.getElem?_eq_getElem hk⟩
 have f1:=(cell_of_row _ _ _ _ _ _ h1).trans (h4 i x hx).2.2
 have f2:=(cell_of_row _ _ _ _ _ _ h1).trans (h4 k y hy).2.2
 rw [dueP_get hx,dueP_get hy]
 obtain⟨n,hN⟩:∃ n,l.length=n:=⟨_,rfl⟩
 rw [hN] at hi hk ⊢
 have hi2:(i:Int) < (n:Int):=by omega
 have hk2:(k:Int) < (n:Int):=by omega
 clear h4 h3 h2 h1 hx hy hN hn
 unfold duV
 go_enter Tryz.func190,Tryz.ntmps190
 go_wp2_with fail
 go_quiet (fail)
 go_wp2_with fail
 go_ret
 exact⟨by simp,bl_drewN (Below.refl _ w) nq⟩
theorem set3_get(arr:Array Value)(i j:Nat)(v0 v1 v2:Value)(h:i+3≤arr.size):(((arr.setIfInBounds i v0).setIfInBounds (i+1) v1).setIfInBounds (i+2) v2)[j]? = if j=i then some v0 else if j=i+1 then some v1 else if j=i+2 then some v2 else arr[j]? := by
 rw [Array.getElem?_setIfInBounds]
 by_cases e1:i+2=j
 ·rw [if_pos e1,if_pos (by simp;omega),if_neg (by omega),if_neg (by omega),if_pos (by omega)]
 ·rw [if_neg e1,set2_get _ _ _ _ _ (by omega)]
  by_cases e2:j=i
  ·rw [if_pos e2,if_pos e2]
  ·rw [if_neg e2,if_neg e2]
   by_cases e3:j=i+1
   ·rw [if_pos e3,if_pos e3]
   ·rw [if_neg e3,if_neg e3,if_neg (by omega)]
def set3W(W:World)(gs i:Nat)(x:It):World:=((W.setCell ⟨gs,i*3,none⟩ (.int .i64 (x.k:Nat))).setCell ⟨gs,i*3+1,none⟩ (.int .i64 (x.t:Nat))).setCell ⟨gs,i*3+2,none⟩ (.int .i64 x.due)
theorem DuIs.set{W:World}{gs cap:Nat}{l:List It}(h:DuIs W gs cap l){i:Nat}(hi:i < l.length)(x:It):DuIs (set3W W gs i x) gs cap (l.set i x):=by
 obtain⟨arr,h1,h2,h3,h4⟩:=h
 refine⟨_,heap_setCell_same _ gs (i*3+2) _ _ _ (heap_setCell_same _ gs (i*3+1) _ _ _ (heap_setCell_same _ gs (i*3) _ _ _ h1)),by simp;exact h2,by rw [List.length_set];exact h3,fun j y hj=>?_⟩
 rw [set3_get _ _ _ _ _ _ (by omega),set3_get _ _ _ _ _ _ (by omega),set3_get _ _ _ _ _ _ (by omega)]
 by_cases e:j=i
 ·subst e
  rw [List.getElem?_set_self hi] at hj
  obtain rfl:=Option.some.inj hj
  rw [if_pos rfl,if_neg (by omega),if_pos rfl,if_neg (by omega),if_neg (by omega),if_pos rfl]
  exact⟨rfl,rfl,rfl⟩
 ·rw [List.getElem?_set_ne (fun e2=>e e2.symm)] at hj
  rw [if_neg (by omega),if_neg (by omega),if_neg (by omega),if_neg (by omega),if_neg (by omega),if_neg (by omega),if_neg (by omega),if_neg (by omega),if_neg (by omega)]
  exact h4 j y hj
theorem only_set3{W0 W:World}{gs:Nat}(h:Only (fun b=>b=gs) W0 W)(i:Nat)(x:It):Only (fun b=>b=gs) W0 (set3W W gs i x):=
 ((h.set1 (p:=⟨gs,i*3,none⟩) rfl _).set1 (p:=⟨gs,i*3+1,none⟩) rfl _).set1 (p:=⟨gs,i*3+2,none⟩) rfl _
theorem DuIs.drew{W:World}{gs cap:Nat}{l:List It}(h:DuIs W gs cap l):DuIs W.drew gs cap l:=h
theorem only_drew{F:Nat→Prop}{a w:World}(h:Only F a w):Only F a w.drew:=⟨h.os,h.tape,h.output,h.size,h.block⟩
theorem swap_any(w:World)(gs cap:Nat)(l:List It)(i k:Nat)(h:DuIs w gs cap l)(hi:i < l.length)(hk:k < l.length)(hn:l.length≤100)(hne:i≠k):Calls Tryz.prog 192 #[duV gs l.length cap,.int .i64 (i:Nat),.int .i64 (k:Nat)] w fun e w'=>e=.returned (.tuple #[])∧DuIs w' gs cap (swapP l i k)∧Only (fun b=>b=gs) w w':=by
 obtain⟨arr,h1,h2,h3,h4⟩:=h
 obtain⟨x,hx⟩:∃ x,l[i]? = some x:=⟨_,List.getElem?_eq_getElem hi⟩
 obtain⟨y,hy⟩:∃ x,l[k]? = some x:=⟨_,List.getElem?_eq_getElem hk⟩
 have a0:=(cell_of_row _ _ _ _ _ _ h1).trans (h4 i x hx).1
 have a1:=(cell_of_row _ _ _ _ _ _ h1).trans (h4 i x hx).2.1
 have a2:=(cell_of_row _ _ _ _ _ _ h1).trans (h4 i x hx).2.2
 have b0:=(cell_of_row _ _ _ _ _ _ h1).trans (h4 k y hy).1
 have b1:=(cell_of_row _ _ _ _ _ _ h1).trans (h4 k y hy).2.1
 have b2:=(cell_of_row _ _ _ _ _ _ h1).trans (h4 k y hy).2.2
 have z0:=frozen_of_row w gs (i*3) _ _ h1
 have z1:=frozen_of_row w gs (i*3+1) _ _ h1
 have z2:=frozen_of_row w gs (i*3+2) _ _ h1
 have y0:=frozen_of_row w gs (k*3) _ _ h1
 have y1:=frozen_of_row w gs (k*3+1) _ _ h1
 have y2:=frozen_of_row w gs (k*3+2) _ _ h1
 obtain⟨n,hN⟩:∃ n,l.length=n:=⟨_,rfl⟩
 have hi2:(i:Int) < (n:Int):=by omega
 have hk2:(k:Int) < (n:Int):=by omega
 have HX:=Lib.hid (And.intro h1 (And.intro h2 (And.intro h3 h4)))
 have HY:=Lib.hid (And.intro hx hy)
 have HN:=Lib.hid hN
 rw [hN]
 clear h4 h3 h2 h1 hx hy hN hn
 unfold duV
 go_enter Tryz.func192,Tryz.ntmps192
 go_wp2_with fail
 go_region
 go_wp2_with fail
 go_end0
 have hd:DuIs w gs cap l:=⟨arr,HX.out⟩
 have hw:swapP l i k=(l.set i y).set k x:=by unfold swapP;rw [HY.out.1,HY.out.2]
 have e:=(hd.set hi y).set (i:=k) (by rw [List.length_set];exact hk) x
 rw [←hw] at e
 exact⟨rfl,e.drew,only_drew (only_set3 (only_set3 (Only.refl _ w) i y) k x)⟩
end Go.Proofs.YtckmkaeopnnbbaaGreatDoor.As.T
end

section
set_option linter.unusedVariables false
set_option linter.unusedSimpArgs false
set_option maxRecDepth 20000
namespace Go.Proofs.YtckmkaeopnnbbaaGreatDoor.As.T
open Go.RowKit

def flatI:List It→List Value
 | []=>[]
 | x::l=>.int .i64 (x.k:Nat)::.int .i64 (x.t:Nat)::.int .i64 x.due::flatI l
theorem flatI_len:∀ l,(flatI l).length=l.length*3
 | []=>rfl
 | x::l=>by show (flatI l).length+1+1+1=_;rw [flatI_len l,List.length_cons];omega
theorem flatI_snoc:∀ (l:List It) (x:It),flatI (l++[x])=flatI l++[.int .i64 (x.k:Nat),.int .i64 (x.t:Nat),.int .i64 x.due]
 | [],x=>rfl
 | y::l,x=>by show _::_::_::flatI (l++[x])=_;rw [flatI_snoc l x];rfl
theorem flatI_get:∀ (l:List It) (j:Nat) (x:It),l[j]? = some x→(flatI l)[j*3]? = some (.int .i64 (x.k:Nat))∧(flatI l)[j*3+1]? = some (.int .i64 (x.t:Nat))∧(flatI l)[j*3+2]? = some (.int .i64 x.due)
 | [],j,x,h=>by cases h
 | y::l,0,x,h=>by obtain rfl:=Option.some.inj h;exact⟨rfl,rfl,rfl⟩
 | y::l,j+1,x,h=>by
  have ih:=flatI_get l j x h
  rw [show (j+1)*3=j*3+1+1+1 by omega]
  exact ih
theorem du_of_own{W:World}{base:Nat}{v:Value}{l:List It}(h:W.ownsRow base 159 3 v l.length (flatI l))(hn:0 < l.length):∃ gs cap,v=duV gs l.length cap∧base≤gs∧gs < W.heap.size∧cap≤maxLen∧DuIs W gs cap l:=by
 rcases h.2 with⟨_,h0⟩ | ⟨g,cap,cur,hv,hb,hg,hc,hm,hs,ht⟩
 ·omega
 ·refine⟨g,cap,hv,hb,(Array.getElem?_eq_some_iff.1 hg).1,hm,cur,hg,hs,hc,fun j x hx=>?_⟩
  have hj:j < l.length:=(List.getElem?_eq_some_iff.1 hx).1
  obtain⟨e1,e2,e3⟩:=flatI_get l j x hx
  have key:∀ u,u < l.length*3→cur[u]? = (flatI l)[u]? := fun u hu=>by
   rw [←ht,List.getElem?_take,if_pos hu,Array.getElem?_toList]
  rw [key _ (by omega),key _ (by omega),key _ (by omega)]
  exact⟨e1,e2,e3⟩
theorem own_of_du{W:World}{base gs cap:Nat}{l:List It}(h:DuIs W gs cap l)(hb:base≤gs)(hm:cap≤maxLen):W.ownsRow base 159 3 (duV gs l.length cap) l.length (flatI l):=by
 obtain⟨arr,h1,h2,h3,h4⟩:=h
 refine⟨flatI_len l,.inr ⟨gs,cap,arr,rfl,hb,h1,h3,hm,h2,?_⟩⟩
 refine List.ext_getElem? (fun u=>?_)
 rw [List.getElem?_take]
 by_cases hu:u < l.length*3
 ·rw [if_pos hu,Array.getElem?_toList]
  obtain⟨x,hx⟩:∃ x,l[u / 3]? = some x:=⟨_,List.getElem?_eq_getElem (by omega)⟩
  obtain⟨e1,e2,e3⟩:=flatI_get l _ x hx
  obtain⟨f1,f2,f3⟩:=h4 _ x hx
  have:u=u / 3*3∨u=u / 3*3+1∨u=u / 3*3+2:=by omega
  rcases this with e | e | e
  ·rw [e,e1,f1]
  ·rw [e,e2,f2]
  ·rw [e,e3,f3]
 ·rw [if_neg hu,List.getElem?_eq_none (by rw [flatI_len];omega)]
theorem infoI:(Tryz.prog.info? 159).map (fun i=>(i.zero,i.size,i.bytes))=some (some (.agg #[.int .i64 0,.int .i64 0,.int .i64 0]),3,24):=by kernel_rfl
theorem assert_item(v:Value)(w:World):(Instr.typeAssert (.iface 159 v) 20 159 false).run Tryz.prog w=.ok v w:=by
 simp [Instr.typeAssert,run_underlying Tryz.underlying159,go_sem,Result.andThen]
theorem push_any(w:World)(gd base:Nat)(v:Value)(l:List It)(x:It)(hgd:w.heap[gd]? = some (.cells #[v] 156 (0,0)))(ho:w.ownsRow base 159 3 v l.length (flatI l))(hne:v.ownBlock≠some gd)(hb:base≤w.heap.size)(hn:l.length≤100):
  Calls Tryz.prog 191 #[.pointer (some ⟨gd,0,none⟩),.iface 159 (.agg #[.int .i64 (x.k:Nat),.int .i64 (x.t:Nat),.int .i64 x.due])] w fun e w'=>e=.returned (.tuple #[])∧∃ g cap,w'.heap[gd]? = some (.cells #[duV g (l.length+1) cap] 156 (0,0))∧w'.ownsRow base 159 3 (duV g (l.length+1) cap) (l.length+1) (flatI (l++[x]))∧(v.ownBlock=some g∨w.heap.size≤g)∧g < w'.heap.size∧Only (fun b=>b=gd∨v.ownBlock=some b) w w':=by
 obtain⟨i0,hi,hz0,hz1,hz2⟩:=info_parts infoI
 have hc:=cell_of_row w gd 0 _ _ _ hgd
 have hfz:=frozen_of_row w gd 0 _ _ hgd
 have hlt:gd < w.heap.size:=(Array.getElem?_eq_some_iff.1 hgd).1
 simp only [List.getElem?_toArray,List.getElem?_cons_zero] at hc
 have has:=assert_item
 have hown:∀ W,Only (fun _=>False) w W→W.ownsRow base 159 3 v l.length (flatI l):=fun W h=>own_only ho h (fun _ _ f=>f)
 have hal:∀ o,Only (fun _=>False) w (w.alloc o).drew:=fun o=>⟨rfl,rfl,rfl,by simp,fun k hk _=>Below.heap_alloc _ _ _ hk⟩
 have kS:∀ W:World,W.heap[gd]? = w.heap[gd]? → W.cell? ⟨gd,0,none⟩=some v:=fun W hW=>by
  have:=cell_of_row W gd 0 _ _ _ (hW.trans hgd)
  exact this
 have kF:∀ W:World,W.heap[gd]? = w.heap[gd]? → W.frozen? ⟨gd,0,none⟩=false:=fun W hW=>frozen_of_row W gd 0 _ _ (hW.trans hgd)
 have KA:=Lib.hid (show ∀ o,(w.alloc o).drew.heap[gd]? = w.heap[gd]? from fun o=>Below.heap_alloc _ _ _ hlt)
 have HL:=Lib.hid hlt
 have HG:=Lib.hid hgd
 have HO:=Lib.hid hown
 have HN:=Lib.hid hn
 clear hgd ho hown hc hfz hlt
 go_enter Tryz.func191,Tryz.ntmps191
 go_upto_region 0 with fail
 refine wp_region_g (fun W=>W.heap[gd]? = w.heap[gd]?) 9 (by kernel_rfl) ?_
 refine AnyG_take (i:=0) (oi:=_) (v:=?_) rfl (by kernel_rfl) (fun _ _ _ h=>h) (Or.inl ⟨by rfl,?_⟩) rfl ?_
 rotate_left
 ·intro W hSw;(try dsimp only at hSw);go_simp;first | done | with_reducible rfl
 simp only [Act.put,Zq1,Zq2,Zq3,Zq4,Zq5,Zq6]
 refine AnyG_take (i:=1) (oi:=_) (v:=?_) rfl (by kernel_rfl) (fun _ _ _ h=>h) (Or.inl ⟨by rfl,?_⟩) rfl ?_
 rotate_left
 ·intro W hSw;(try dsimp only at hSw);go_simp;first | done | with_reducible rfl
 simp only [Act.put,Zq1,Zq2,Zq3,Zq4,Zq5,Zq6]
 refine AnyG_take (i:=2) (oi:=_) (v:=?_) rfl (by kernel_rfl) (fun _ _ _ h=>h) (Or.inl ⟨by rfl,?_⟩) rfl ?_
 rotate_left
 ·intro W hSw;(try dsimp only at hSw);go_simp;first | done | with_reducible rfl
 simp only [Act.put,Zq1,Zq2,Zq3,Zq4,Zq5,Zq6]
 refine AnyG_take (i:=3) (oi:=_) (v:=?_) rfl (by kernel_rfl) (fun _ _ _ h=>h) (Or.inl ⟨by rfl,?_⟩) rfl ?_
 rotate_left
 ·intro W hSw;(try dsimp only at hSw);go_simp;first | done | with_reducible rfl
 simp only [Act.put,Zq1,Zq2,Zq3,Zq4,Zq5,Zq6]
 refine AnyG_take (i:=4) (oi:=_) (v:=?_) rfl (by kernel_rfl) (fun _ _ _ h=>h) (Or.inl ⟨by rfl,?_⟩) rfl ?_
 rotate_left
 ·intro W hSw;(try dsimp only at hSw);go_simp;first | done | with_reducible rfl
 simp only [Act.put,Zq1,Zq2,Zq3,Zq4,Zq5,Zq6]
 refine AnyG_take (i:=5) (oi:=_) (v:=?_) rfl (by kernel_rfl) (fun _ _ _ h=>h) (Or.inl ⟨by rfl,?_⟩) rfl ?_
 rotate_left
 ·intro W hSw;(try dsimp only at hSw);go_simp;first | done | with_reducible rfl
 simp only [Act.put,Zq1,Zq2,Zq3,Zq4,Zq5,Zq6]
 refine AnyG_one (i:=6) rfl (by kernel_rfl) ?_
 refine wpOp_of rfl rfl ?_
 try simp only [Act.put,Zq1,Zq2,Zq3,Zq4,Zq5,Zq6]
 go_simp
 refine⟨KA.out _,?_⟩
 try simp only [Act.put,Zq1,Zq2,Zq3,Zq4,Zq5,Zq6]
 refine AnyG_one (i:=7) rfl (by kernel_rfl) ?_
 refine wpOp_of rfl rfl ?_
 try simp only [Act.put,Zq1,Zq2,Zq3,Zq4,Zq5,Zq6]
 refine wp_append_lies _ (.tmp 7) (.tmp 10) 156 (by rfl) base 159 i0 _ 3 24 Tryz.underlying156 hi hz0 hz1 hz2 (by rfl) (by decide) v l.length (flatI l) (by rfl) (HO.out _ (hal _)) ⟨w.heap.size,0,none⟩ 1 1 [.int .i64 (x.k:Nat),.int .i64 (x.t:Nat),.int .i64 x.due] (by rfl) rfl (World.news_of_block (heap_alloc_new _ _)) (by simp [Value.oneCell']) (by decide) (by have:=HN.out;unfold maxLen;omega) (by have:=HN.out;omega) (by simp;omega) _ rfl ?_
 intro g cap w1 ho1 hgr hat hlt1
 have hk0:w1.heap[gd]? = w.heap[gd]? := (hgr.block gd (by have:=HL.out;simp;omega) (Ne.symm hne)).trans (KA.out _)
 have HR:=Lib.hid (And.intro ho1 (And.intro hgr (And.intro hat hlt1)))
 clear ho1 hgr hat hlt1
 refine⟨fun _ _=>hk0,?_⟩
 try simp only [Act.put,Zq1,Zq2,Zq3,Zq4,Zq5,Zq6]
 refine AnyG_take (i:=8) (oi:=_) (v:=?_) rfl (by kernel_rfl) (fun _ _ _ h=>h) (Or.inl ⟨by rfl,?_⟩) hk0 ?_
 rotate_left
 ·intro W hSw;(try dsimp only at hSw);go_simp;first | done | with_reducible rfl
 simp only [Act.put,Zq1,Zq2,Zq3,Zq4,Zq5,Zq6]
 refine AnyG_one (i:=9) rfl (by kernel_rfl) ?_
 refine wpOp_of rfl rfl ?_
 try simp only [Act.put,Zq1,Zq2,Zq3,Zq4,Zq5,Zq6]
 go_simp
 refine⟨by kernel_rfl,?_⟩
 obtain⟨ho1,hgr,hat,hlt1⟩:=HR.out
 have hbl:=heap_setCell_same w1 gd 0 _ _ (.slice (some ⟨g,0,none⟩) (l.length+1) cap) (hk0.trans HG.out)
 have ho2:Only (fun b=>b=gd) w1 (w1.setCell ⟨gd,0,none⟩ (.slice (some ⟨g,0,none⟩) (l.length+1) cap)):=(Only.refl (fun b=>b=gd) w1).set1 (p:=⟨gd,0,none⟩) rfl _
 have hgne:g≠gd:=by
  rcases hat with e | e
  ·intro e2;rw [e2] at e;exact hne e
  ·have:=HL.out;simp at e;omega
 go_end0
 refine⟨rfl,g,cap,hbl,?_,?_,?_,?_⟩
 ·rw [flatI_snoc]
  exact own_only (F:=fun b=>b=gd) ho1 ho2 (fun k hk (e:k=gd)=>hgne (by rw [←e];exact Option.some.inj hk))
 ·rcases hat with e | e
  ·exact .inl e
  ·simp at e;right;omega
 ·have:=ho2.size;omega
 ·refine (Only.trans (F:=fun b=>b=gd∨v.ownBlock=some b) (F':=fun b=>v.ownBlock=some b) ((hal _).mono (fun _ f=>f.elim)) ⟨hgr.os,hgr.tape,hgr.output,hgr.size,fun k hk hn=>hgr.block k hk (fun e=>hn e.symm)⟩ (fun k hk=>.inl (.inr hk))).trans ho2 (fun k hk=>.inl (.inl hk))
end Go.Proofs.YtckmkaeopnnbbaaGreatDoor.As.T
end

section
set_option linter.unusedVariables false
set_option linter.unusedSimpArgs false
set_option maxRecDepth 20000
namespace Go.Proofs.YtckmkaeopnnbbaaGreatDoor.As.T
open Go.RowKit

theorem upP_fuel:∀ (f g:Nat) (l:List It) (j:Nat),j < f→j < g→upP f l j=upP g l j
 | 0,_,_,_,h,_=>by omega
 | _+1,0,_,_,_,h=>by omega
 | f+1,g+1,l,j,h1,h2=>by
  unfold upP
  split
  ·rfl
  ·rename_i hc
   have:(j - 1) / 2≠j:=fun e=>hc (.inl e)
   exact upP_fuel f g _ _ (by omega) (by omega)
structure DuH(W:World)(gd gs cap:Nat)(l:List It):Prop where
 hd:W.heap[gd]? = some (.cells #[duV gs l.length cap] 156 (0,0))
 is:DuIs W gs cap l
 ne:gs≠gd
theorem DuH.cell{W:World}{gd gs cap:Nat}{l:List It}(h:DuH W gd gs cap l):W.cell? ⟨gd,0,none⟩=some (duV gs l.length cap):=by
 have:=cell_of_row W gd 0 _ _ _ h.hd
 exact this
theorem DuH.less{W:World}{gd gs cap:Nat}{l:List It}(h:DuH W gd gs cap l):(method (Tryz.prog.types.size+100) 154 (.pointer (some ⟨gd,0,none⟩)) "Less").run Tryz.prog W=.ok (190,duV gs l.length cap) W:=
 method_eq gd "Less" _ (m_less0 gd) W _ (load_dues gd W _ h.cell)
theorem DuH.swap{W:World}{gd gs cap:Nat}{l:List It}(h:DuH W gd gs cap l):(method (Tryz.prog.types.size+100) 154 (.pointer (some ⟨gd,0,none⟩)) "Swap").run Tryz.prog W=.ok (192,duV gs l.length cap) W:=
 method_eq gd "Swap" _ (m_swap0 gd) W _ (load_dues gd W _ h.cell)
theorem DuH.len{W:World}{gd gs cap:Nat}{l:List It}(h:DuH W gd gs cap l):(method (Tryz.prog.types.size+100) 154 (.pointer (some ⟨gd,0,none⟩)) "Len").run Tryz.prog W=.ok (189,duV gs l.length cap) W:=
 method_eq gd "Len" _ (m_len0 gd) W _ (load_dues gd W _ h.cell)
theorem DuH.below{W W':World}{gd gs cap B:Nat}{l:List It}(h:DuH W gd gs cap l)(hb:Below B W W')(h1:gd < B)(h2:gs < B):DuH W' gd gs cap l:=
 ⟨(hb.block _ h1).trans h.hd,h.is.below hb h2,h.ne⟩
theorem DuH.lt{W:World}{gd gs cap:Nat}{l:List It}(h:DuH W gd gs cap l):gd < W.heap.size∧gs < W.heap.size:=by
 obtain⟨arr,h1,_⟩:=h.is
 exact⟨(Array.getElem?_eq_some_iff.1 h.hd).1,(Array.getElem?_eq_some_iff.1 h1).1⟩
theorem DuH.swapped{W W':World}{gd gs cap:Nat}{l l':List It}(h:DuH W gd gs cap l)(ho:Only (fun b=>b=gs) W W')(h':DuIs W' gs cap l')(hl:l'.length=l.length):DuH W' gd gs cap l':=
 ⟨(ho.block _ h.lt.1 (fun e=>h.ne e.symm)).trans (by rw [hl];exact h.hd),h',h.ne⟩
theorem tsz : Tryz.prog.types.size+100=339:=by kernel_rfl
def ifV(gd:Nat):Value:=.iface 154 (.pointer (some ⟨gd,0,none⟩))
set_option maxHeartbeats 4000000 in
theorem up_any(w:World)(gd gs cap:Nat)(l:List It)(j:Nat)(h:DuH w gd gs cap l)(hj:j < l.length)(hn:l.length≤100):Calls Tryz.prog 137 #[ifV gd,.int .i64 (j:Nat)] w fun e w'=>e=.returned (.tuple #[])∧DuH w' gd gs cap (upP (j+1) l j)∧Only (fun b=>b=gs) w w':=by
 unfold ifV
 obtain⟨n,hN⟩:∃ n,l.length=n:=⟨_,rfl⟩
 have HH:=Lib.hid h
 have HN:=Lib.hid hN
 have HJ:=Lib.hid hj
 have HB:=Lib.hid hn
 clear h hN hj hn
 go_enter Tryz.func137,Tryz.ntmps137
 go_wp2_with fail
 go_loopg [1] j (fun g iv wr=>∃ (i:Nat) (l':List It),i≤g∧iv=.int .i64 i∧Hid (i < n∧l'.length=n∧DuH wr gd gs cap l'∧upP (i+1) l' i=upP (j+1) l j∧Only (fun b=>b=gs) w wr))
 case atStart=>exact⟨j,l,Nat.le_refl _,rfl,Lib.hid ⟨by have:=HJ.out;rw [HN.out] at this;exact this,HN.out,HH.out,rfl,Only.refl _ w⟩⟩
 case round=>
  obtain⟨i,l',hi,rfl,HR⟩:=hrel
  have mL:=HR.out.2.2.1.less
  rw [tsz] at mL
  by_cases h0:i=0
  ·subst h0
   go_wp2_with fail
   go_end0
   refine⟨rfl,?_,HR.out.2.2.2.2⟩
   rw [←HR.out.2.2.2.1]
   exact HR.out.2.2.1
  ·obtain⟨k,rfl⟩:∃ k,i=k+1:=⟨i - 1,by omega⟩
   obtain⟨m,hm⟩:∃ m,k / 2=m:=⟨_,rfl⟩
   have hk9:(k:Int)+1≤100:=by have:=HR.out.1;have:=HB.out;have:=HN.out;omega
   have e1:wrap64 (k:Int)=(k:Int):=by unfold wrap64;omega
   have e2:wrap64 ((k:Int) / 2)=(m:Int):=by unfold wrap64;omega
   have e3:((m:Int) == (k:Int)+1)=false:=by rw [beq_eq_false_iff_ne];omega
   have hl:=less_any wr gs cap l' (k+1) m HR.out.2.2.1.is (by have:=HR.out;omega) (by have:=HR.out;omega) (by have:=HB.out;have:=HN.out;have:=HR.out;omega)
   have c1:((k+1:Nat):Int)=(k:Int)+1:=by omega
   rw [c1] at hl
   have HM:=Lib.hid hm
   by_cases hd:dueP l' (k+1) < dueP l' m
   ·rw [decide_eq_true hd] at hl
    have HLS:=Lib.hid hl
    have HD:=Lib.hid hd
    have hgw:=fun W (hb:Below wr.heap.size wr W)=>HR.out.2.2.1.below hb HR.out.2.2.1.lt.1 HR.out.2.2.1.lt.2
    have HGW:=Lib.hid hgw
    have hsw:=fun W (hb:Below wr.heap.size wr W)=>swap_any W gs cap l' m (k+1) (hgw W hb).is (by have:=HR.out;omega) (by have:=HR.out;omega) (by have:=HB.out;have:=HN.out;have:=HR.out;omega) (by omega)
    rw [c1] at hsw
    have HSW:=Lib.hid hsw
    clear hl h0 hm hk9 hd hsw hgw
    go_wp2_with (first | (go_at_call 190;refine (HLS.out).mono ?_;rintro r w3 ⟨rfl,hb3⟩;have mS:=(HGW.out w3 hb3).swap;rw [tsz] at mS;have HB3:=Lib.hid hb3;clear hb3) | (go_at_call 192;refine (HSW.out _ HB3.out).mono ?_;rintro r w4 ⟨rfl,hd4,ho4⟩;have HD4:=Lib.hid hd4;have HO4:=Lib.hid ho4;clear hd4 ho4))
    obtain⟨g',rfl⟩:∃ g',gk=g'+1:=⟨gk - 1,by omega⟩
    go_roundg g'
    case rel=>
     refine⟨m,swapP l' m (k+1),by have:=HM.out;omega,rfl,Lib.hid ⟨by have:=HM.out;have:=HR.out;omega,by rw [swapP_len];exact HR.out.2.1,(HGW.out _ HB3.out).swapped HO4.out HD4.out (swapP_len _ _ _),?_,?_⟩⟩
     ·rw [←HR.out.2.2.2.1]
      show _=upP ((k+1)+1) l' (k+1)
      conv=>rhs;unfold upP
      have hm1:(k+1 - 1) / 2=m:=HM.out
      rw [hm1,if_neg (by intro e;rcases e with e | e;(have:=HM.out;omega);exact e HD.out)]
      exact upP_fuel _ _ _ _ (by omega) (by have:=HM.out;omega)
     ·exact (HR.out.2.2.2.2.trans (Only.of_below HB3.out (Nat.le_refl _)) (fun k f=>.inl f)).trans HO4.out (fun k f=>.inl f)
    case measure=>omega
   ·rw [decide_eq_false hd] at hl
    have HLS:=Lib.hid hl
    have HD:=Lib.hid hd
    clear hl h0 hm hk9 hd
    go_wp2_with (go_at_call 190;refine (HLS.out).mono ?_;rintro r w3 ⟨rfl,hb3⟩;have HB3:=Lib.hid hb3;clear hb3)
    go_end0
    refine⟨rfl,?_,HR.out.2.2.2.2.trans (Only.of_below HB3.out (Nat.le_refl _)) (fun k f=>.inl f)⟩
    rw [←HR.out.2.2.2.1]
    have hm1:(k+1 - 1) / 2=m:=HM.out
    unfold upP
    rw [hm1,if_pos (.inr (Int.not_lt.2 HD.out))]
    exact HR.out.2.2.1.below HB3.out HR.out.2.2.1.lt.1 HR.out.2.2.1.lt.2
end Go.Proofs.YtckmkaeopnnbbaaGreatDoor.As.T
end

