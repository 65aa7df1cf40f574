/- The walk of trace.calls. Plain Lean: the calls of all threads,merged. No program in sight. What the walk of trace.Calls holds. The walk of trace.Calls. -/
import Derived.Test.YtcnmhgblbikfkaaGreatDoorGs
import Derived.Maps.OwnIn
import Derived.Deep.Onto
import Derived.Maps.AppendAt
section
set_option linter.unusedVariables false
set_option linter.unusedSimpArgs false
namespace Go.Proofs.YtcnmhgblbikfkaaGreatDoor.As
open Go.RowKit Go.Shelf
attribute [local go_sem] Oper.semAt_some

theorem row_own{W W':World}{B e s n:Nat}{v:Value}{xs:List Value}{row:Option Nat}(h:W.ownsRow B e s v n xs)(hrow:∀ r,row=some r→∃ o:Obj,W.heap[r]? = some o∧o.isCells=false):v.ownBlock=none∨v.ownBlock≠row:=by
  rcases h.2 with⟨rfl,_⟩ | ⟨g,cap,cur,rfl,_,hg,_⟩
  · exact .inl rfl
  · right
    intro e
    obtain⟨o,ho,hc⟩:=hrow g (by rw [←e];rfl)
    rw [hg] at ho;cases ho;cases hc
theorem OutC.own{B:Nat}{W W':World}{v:Value}{l:List Cl}{vs:List Value}{row:Option Nat}(h:OutC B W v l vs)(hg:W.grownBy W' row)(hrow:∀ r,row=some r→∃ o:Obj,W.heap[r]? = some o∧o.isCells=false):OutC B W' v l vs:=
  h.kept hg (row_own (W':=W') h.row hrow) (fun i u hu=>by
    obtain⟨c,_,hr⟩:=h.inn_at hu
    exact row_own (W':=W') hr hrow)
theorem OutC.alloc{B:Nat}{W:World}{v:Value}{l:List Cl}{vs:List Value}(h:OutC B W v l vs)(o:Obj):OutC B (W.alloc o) v l vs:=h.own (World.grownBy_alloc W o none) (fun r e=>by cases e)
theorem OutC.mono{B B':Nat}{W:World}{v:Value}{l:List Cl}{vs:List Value}(h:OutC B W v l vs)(hb:B'≤B):OutC B' W v l vs:=⟨h.len,h.row.mono hb,fun i c u h1 h2=>(h.inn i c u h1 h2).mono hb,h.dis⟩
theorem OutC.drew{B:Nat}{W:World}{v:Value}{l:List Cl}{vs:List Value}(h:OutC B W v l vs):OutC B W.drew v l vs:=⟨h.len,h.row,h.inn,h.dis⟩
theorem box_off{W:World}{B:Nat}{t:TypeId}{v:Value}(h:Boxed W B t v){a:Addr}(x:Value)(hne:a.block≠B):Boxed (W.setCell a x) B t v:=(heap_setCell_other W a B x (fun e=>hne e.symm)).trans h
theorem below_grown{n₀:Nat}{W W':World}{row:Option Nat}(hg:W.grownBy W' row)(hrow:∀ k,row=some k→n₀≤k)(hs:n₀≤W.heap.size):Below n₀ W W':=
  ⟨hg.os,hg.tape,hg.output,hg.size,fun k hk=>hg.block k (by omega) (fun e=>by have:=hrow k e.symm;omega)⟩
theorem wrap_small{k:Nat}(h:k≤1000000):wrap64 (k:Int)=(k:Int)∧IntKind.i64.wrap (k:Int)=(k:Int):=by
  refine⟨by unfold wrap64;omega,?_⟩
  rw [IntKind.wrap_i64];omega
theorem wrap_site(z:Int):IntKind.i64.wrap (IntKind.u32.wrap z)=z % 4294967296:=by
  rw [IntKind.wrap_u32,IntKind.wrap_i64];omega
theorem infoInt:(Tryz.prog.info? 3).map (fun i=>(i.zero,i.size,i.bytes))=some (some (.int .i64 0),1,8):=by kernel_rfl
theorem infoCall:(Tryz.prog.info? 61).map (fun i=>(i.zero,i.size,i.bytes))=some (some (.agg #[.int .i64 0,.int .i64 0,.int .i64 0,.int .i64 0,.int .u32 0,.slice none 0 0]),6,64):=by kernel_rfl
theorem grown_set(W:World)(a:Addr)(x:Value):W.grownBy (W.setCell a x) (some a.block):=⟨rfl,rfl,rfl,by simp,fun k _ hk=>heap_setCell_other W a k x (fun e=>hk (by rw [e]))⟩
theorem row_cells{W:World}{B e s n j:Nat}{v:Value}{xs:List Value}{o:Obj}(h:W.ownsRow B e s v n xs)(ej:v.ownBlock=some j)(hj:W.heap[j]? = some o):o.isCells=true:=by
  rcases h.2 with⟨rfl,_⟩ | ⟨g,cap,cur,rfl,_,hg,_⟩
  · simp [Value.ownBlock] at ej
  · obtain rfl:g=j:=by simpa [Value.ownBlock] using ej
    rw [hg] at hj;cases hj;rfl
theorem OutC.keepCell{B g n cap i j:Nat}{W w1:World}{u x:Value}{l:List Cl}{vs:List Value}{tmp:Obj}(h:OutC B W (.slice (some ⟨g,0,none⟩) n cap) l vs)(hu:vs[i]? = some u)(hlt:g < W.heap.size)(hg:(W.alloc tmp).grownBy w1 u.ownBlock)(hc:W.cell? ⟨g,j,none⟩=some x)(hf:W.frozen? ⟨g,j,none⟩=false):w1.cell? ⟨g,j,none⟩=some x∧w1.frozen? ⟨g,j,none⟩=false:=by
  have hb:w1.heap[g]? = W.heap[g]? := (hg.block g (by simp;omega) (by
    have:=h.off hu
    intro e
    rw [←e] at this
    rcases this with h | h
    · cases h
    · exact h rfl)).trans (Below.heap_alloc _ _ _ hlt)
  have e1:w1.cell? ⟨g,j,none⟩=W.cell? ⟨g,j,none⟩:=World.cell?_of_block (a:=⟨g,j,none⟩) hb
  have e2:w1.frozen? ⟨g,j,none⟩=W.frozen? ⟨g,j,none⟩:=World.frozen?_of_block (a:=⟨g,j,none⟩) hb
  exact⟨e1.trans hc,e2.trans hf⟩
theorem cells_new(W:World)(cs:Array Value)(e n size:Nat)(hn:n≤maxLen)(hs:cs.size=n*size):∀ (j:Nat) (u:Value),cs.toList[j]? = some u→(W.alloc (.cells cs e)).cell? ((⟨W.heap.size,0,none⟩:Addr).add j)=some u:=
  (World.ownsRow_lit (base:=W.heap.size) (e:=e) (size:=size) W cs n (Nat.le_refl _) hn hs).cells rfl
theorem OutC.box{B:Nat}{W:World}{v:Value}{l:List Cl}{vs:List Value}(h:OutC B W v l vs)(a:Addr)(x:Value)(hb:a.block < B):OutC B (W.setCell a x) v l vs:=
  h.kept (grown_set W a x) (.inr (fun e=>by have:=(h.row.lt _ e).1;omega)) (fun i u hu=>.inr (fun e=>by
    obtain⟨c,_,hr⟩:=h.inn_at hu
    have:=(hr.lt _ e).1
    omega))
def CI(n₀:Nat)(t:Int)(W0:World)(pre:List (Nat×Ev))(W:World):Prop:=
  (∃ v vs,Boxed W (n₀+1) 57 v∧OutC (n₀+5) W v (callsF t pre).1 vs∧Boxed W (n₀+1+1) 4 (.bool (callsF t pre).2))∧Boxed W n₀ 3 (.int .i64 t)∧Boxed W (n₀+1+1+1+1) 3 (.int .i64 t)∧Below n₀ W0 W∧n₀+5≤W.heap.size
theorem CI.own{n₀:Nat}{t:Int}{W0:World}(h0:n₀≤W0.heap.size)(B:Nat)(hB:n₀≤B):OwnFrom B (CI n₀ t W0):=fun pre X Y row ⟨⟨v,vs,h1,h2,h3⟩,h4,h5,h6,h7⟩ hg hr=>by
  have hr2:∀ r,row=some r→∃ o:Obj,X.heap[r]? = some o∧o.isCells=false:=fun r e=>(hr r e).2
  have kb:∀ {b:Nat} {t:TypeId} {v:Value},Boxed X b t v→Boxed Y b t v:=fun {b t v} hb=>hb.kept hg (fun e=>by
    obtain⟨o,ho,hc⟩:=hr2 b e.symm
    rw [show X.heap[b]? = _ from hb] at ho;cases ho;cases hc)
  exact⟨⟨v,vs,kb h1,h2.own hg hr2,kb h3⟩,kb h4,kb h5,h6.trans (below_grown hg (fun k e=>by have:=(hr k e).1;omega) (by omega)),Nat.le_trans h7 hg.size⟩
theorem CI.drewN{n₀:Nat}{t:Int}{W0 W:World}{pre:List (Nat×Ev)}(h:CI n₀ t W0 pre W)(m:Nat):CI n₀ t W0 pre (W.drewN m):=by
  obtain⟨⟨v,vs,h1,h2,h3⟩,h4,h5,h6,h7⟩:=h
  exact⟨⟨v,vs,h1,⟨h2.len,h2.row,h2.inn,h2.dis⟩,h3⟩,h4,h5,⟨h6.os,h6.tape,h6.output,h6.size,h6.block⟩,h7⟩
set_option maxRecDepth 100000 in
set_option maxHeartbeats 4000000 in
theorem calls_in(F:Fence)(n:Nat)(h3:F.fn 59)(h4:F.fn 93)(h5:F.fn 124)(hro:F.round=none)(hn:3≤n)(v:Value)(len:Nat)(evs:List Ev)(t:Int)(hreach:len≤1000000)(hk:∀ e∈evs,0≤e.k∧e.k≤4294967295)(w:World)(hR:Rd w 8 v len (flatE evs))(hle:evs.length=len):
    CallsIn F n Tryz.prog 59 #[v,.int .i64 t] w fun e W'=>∃ v' vs,e=.returned v'∧OutC w.heap.size W' v' (callsF t (ofI evs t len)).1 vs∧Below w.heap.size w W':=by
  have h1:1≤n:=by omega
  obtain⟨iI,hiI,hI0,hI1,hI2⟩:=info_parts infoInt
  obtain⟨iC,hiC,hC0,hC1,hC2⟩:=info_parts infoCall
  obtain⟨A,cap,rfl⟩:=hR.form
  refine callsIn_of_wp_marks Tryz.func59 rfl h3 ?_ hro
  simp only [Tryz.ntmps59,List.size_toArray,List.length_cons,List.length_nil,Nat.reduceAdd,Nat.reduceSub,Array.replicate_succ,Array.replicate_zero,List.push_toArray,List.append_toArray,List.nil_append,List.cons_append]
  gi_wp2_with (gi_at_call 93;refine (of_in F (n - 1) h4 hro _ _ _ _ _).mono ?_;rintro e w' ⟨rfl,rfl⟩)
  obtain⟨W0,hW0⟩:∃ W0,((((w.alloc (.cells #[.int .i64 t] 3)).alloc (.cells #[.slice none 0 0] 57)).alloc (.cells #[.bool false] 4)).alloc (.cells #[.slice A len cap] 55)).alloc (.cells #[.int .i64 t] 3)=W0:=⟨_,rfl⟩
  have hB0:Below w.heap.size w W0:=by rw [←hW0];exact (((((Below.refl _ w).alloc (Nat.le_refl _) _).alloc (by simp) _).alloc (by simp;omega) _).alloc (by simp;omega) _).alloc (by simp;omega) _
  have hsz:W0.heap.size=w.heap.size+5:=by rw [←hW0];simp
  have bT:Boxed W0 w.heap.size 3 (.int .i64 t):=by rw [←hW0];exact ((((Boxed.new w _ _).alloc _).alloc _).alloc _).alloc _
  have bO:Boxed W0 (w.heap.size+1) 57 (.slice none 0 0):=by
    have:=Boxed.new (w.alloc (.cells #[.int .i64 t] 3)) 57 (.slice none 0 0)
    rw [World.size_alloc] at this
    rw [←hW0];exact ((this.alloc _).alloc _).alloc _
  have bP:Boxed W0 (w.heap.size+1+1) 4 (.bool false):=by
    have:=Boxed.new ((w.alloc (.cells #[.int .i64 t] 3)).alloc (.cells #[.slice none 0 0] 57)) 4 (.bool false)
    rw [World.size_alloc,World.size_alloc] at this
    rw [←hW0];exact (this.alloc _).alloc _
  have bN:Boxed W0 (w.heap.size+1+1+1) 55 (.slice A len cap):=by
    have:=Boxed.new (((w.alloc (.cells #[.int .i64 t] 3)).alloc (.cells #[.slice none 0 0] 57)).alloc (.cells #[.bool false] 4)) 55 (.slice A len cap)
    rw [World.size_alloc,World.size_alloc,World.size_alloc] at this
    rw [←hW0];exact this.alloc _
  have bU:Boxed W0 (w.heap.size+1+1+1+1) 3 (.int .i64 t):=by
    have:=Boxed.new ((((w.alloc (.cells #[.int .i64 t] 3)).alloc (.cells #[.slice none 0 0] 57)).alloc (.cells #[.bool false] 4)).alloc (.cells #[.slice A len cap] 55)) 3 (.int .i64 t)
    rw [World.size_alloc,World.size_alloc,World.size_alloc,World.size_alloc] at this
    rw [←hW0];exact this
  rw [hW0]
  have hRW:=hR.below hB0 (Nat.le_refl _)
  clear hW0
  have hlt:∀ b off c,Value.slice A len cap=.slice (some ⟨b,off,none⟩) len c→b < w.heap.size:=by
    intro b off c e
    injection e with e1 e2 e3
    subst e1
    exact hR.lt
  refine wpIn_rangeFunc_ownH hro h1 (gf:=124) (lb:=#[.pointer (some ⟨w.heap.size+1+1+1,0,none⟩),.pointer (some ⟨w.heap.size+1+1+1+1,0,none⟩)]) rfl h5 (enters_of Tryz.func124 (by kernel_rfl) rfl)
    (of_stops F (n - 1) h5 hro (by omega) (w.heap.size+1+1+1) (w.heap.size+1+1+1+1) w.heap.size _ len evs t hreach W0 (by omega) (by omega) (by omega) bN.cell bU.cell hRW hlt hle) KpT.trans (kpT_b (by omega) (by omega)) (Below.refl _ _) (fun _=>rfl)
    (CI w.heap.size t W0)
    (fun _ _ _=>False)
    (CI.own (by omega) _ (by omega))
    (fun _ _ _ _ _ hs _ _=>hs)
    ⟨⟨_,[],bO,OutC.nil _ _,bP⟩,bT,bU,Below.refl _ _,by omega⟩
    (fun x a' W=>∃ Bx,w.heap.size+5≤Bx∧BoxE W Bx x.2∧a'={ tmps:=#[.slice A len cap,.int .i64 t,undef,.pointer (some ⟨w.heap.size,0,none⟩),.slice none 0 0,.pointer (some ⟨w.heap.size+1,0,none⟩),.pointer (some ⟨w.heap.size+1+1,0,none⟩),.int .i64 (x.1:Int),.pointer (some ⟨Bx,0,none⟩),undef,undef,.slice A len cap,.int .i64 t,.func (.func 124) #[] #[.pointer (some ⟨w.heap.size+1+1+1,0,none⟩),.pointer (some ⟨w.heap.size+1+1+1+1,0,none⟩)],.int .i64 (x.1:Int),.agg x.2.cells.toArray,undef,undef,undef,undef,undef,undef,undef,undef,undef,undef,undef,undef,undef,undef,undef,undef,undef,undef,undef,undef,undef,undef,undef,undef,undef,undef,undef,undef,undef,undef,undef,undef,undef,undef,undef,undef,undef,undef,undef,undef,undef,undef,undef,undef,undef,undef,undef,undef,undef,undef,undef,undef,undef,undef,undef,undef,undef,undef,undef,undef,undef,undef,undef,undef,undef,undef,undef,undef,undef,undef,undef],defers:=[] })
    (fun x a' _ X Y row hs hg hr=>by obtain⟨Bx,h1,h2,h3⟩:=hs;exact⟨Bx,h1,boxE_own Bx (fun (_:Unit)=>x.2) () X Y row h2 hg (fun r e=>(hr r e).2),h3⟩)
    ?assign ?body ?done ?stop
  case assign=>
    rintro l pre ⟨xi,x⟩ W K ⟨⟨v,vs,hv,ho,hp⟩,hT,hU,hB,hs⟩ hK
    dsimp only [Ev.cells] at hK ⊢
    gi_wp2
    exact hK _ _ ((KeepsOthers.alloc _ _).from _) (KpT.alloc (by omega) (by omega) _) ⟨⟨v,vs,hv.alloc _,ho.alloc _,hp.alloc _⟩,hT.alloc _,hU.alloc _,hB.alloc (by omega) _,by simp;omega⟩ ⟨W.heap.size,hs,World.alloc_heap_new W _,rfl⟩
  case body=>
    rintro l pre ⟨xi,x⟩ a' W hl ⟨r,hr⟩ ⟨⟨v,vs,hv,ho,hp⟩,hT,hU,hB,hs⟩ ⟨Bx,hBx,bX,rfl⟩ hlt
    have e0:W.cell? ⟨Bx,0,none⟩=some (.int .i64 x.kind):=cell_of_row W Bx 0 _ _ _ bX
    have e4:W.cell? ⟨Bx,4,none⟩=some (.int .u32 x.val):=cell_of_row W Bx 4 _ _ _ bX
    have e6:W.cell? ⟨Bx,6,none⟩=some (.int .u32 x.k):=cell_of_row W Bx 6 _ _ _ bX
    have cv:=hv.cell
    have cp:=hp.cell
    have ct:=hT.cell
    have hsn:=callsF_snoc t pre (xi,x)
    have hopen:=callsF_open t pre
    have hlen2:=callsF_len t pre
    obtain⟨⟨ls,op⟩,hst⟩:∃ s,callsF t pre=s:=⟨_,rfl⟩
    rw [hst] at ho hp cp hsn hopen hlen2
    dsimp only at ho hp cp hopen hlen2
    have hres0:callS t (ls,op) (xi,x)=(ls,op)→callsF t (pre++[(xi,x)])=(ls,op):=fun e=>hsn.trans e
    by_cases hk7:x.kind=7
    · have hk7b:(x.kind != 7)=false:=by simpa using hk7
      have hvo:∀ b,v.ownBlock=some b→w.heap.size+5≤b:=fun b hb=>(ho.row.lt b hb).1
      by_cases hk2:x.k.tmod 2=0
      · have hk2b:(x.k.tmod 2 == 0)=true:=by simpa using hk2
        have hres:callsF t (pre++[(xi,x)])=(ls++[⟨x.k.tdiv 2 % 4294967296,t,xi,-1,0,[]⟩],true):=by rw [hsn];unfold callS;simp [hk7,hk2]
        have hor:=ho.row
        have HO:=Lib.hid ho
        have hvl:ls.length≤1000000:=by omega
        obtain⟨k,hk0⟩:∃ k,ls.length=k:=⟨_,rfl⟩
        rw [hk0] at hor hvl
        have hcn:=cells_new W #[.int .i64 (x.k.tdiv 2 % 4294967296),.int .i64 t,.int .i64 (xi:Int),.int .i64 (-1),.int .u32 0,.slice none 0 0] 61 1 6 (by unfold maxLen;omega) rfl
        clear ho hsn hres0 hopen hlen2
        gi_wp2_with (gi_at_builtin;refine wpListIn_append_own_at _ rfl _ _ 57 rfl (w.heap.size+5) 61 iC (.agg #[.int .i64 0,.int .i64 0,.int .i64 0,.int .i64 0,.int .u32 0,.slice none 0 0]) 6 64 Tryz.underlying57 hiC hC0 hC1 hC2 rfl (by decide) v k _ rfl (hor.alloc _) ⟨W.heap.size,0,none⟩ 1 1 [.int .i64 (x.k.tdiv 2 % 4294967296),.int .i64 t,.int .i64 (xi:Int),.int .i64 (-1),.int .u32 0,.slice none 0 0] rfl rfl hcn (by simp [Value.oneCell']) (by unfold maxLen;omega) (by omega) (by simp;omega) ?_;intro v' w1 hown' hgrow _ hwhere;obtain⟨g',cap',rfl⟩:=ownsRow_succ hown';have hv1:=(hv.alloc _).kept hgrow (fun e=>by have:=hvo _ e.symm;omega);have hp1:=(hp.alloc _).kept hgrow (fun e=>by have:=hvo _ e.symm;omega);have cv1:=hv1.cell;have fv1:=hv1.frozen;have cp1:=hp1.cell;have fp1:=hp1.frozen)
        subst hk0
        have hmore:=(HO.out.alloc (.cells #[.int .i64 (x.k.tdiv 2 % 4294967296),.int .i64 t,.int .i64 (xi:Int),.int .i64 (-1),.int .u32 0,.slice none 0 0] 61)).snoc (c:=⟨x.k.tdiv 2 % 4294967296,t,xi,-1,0,[]⟩) rfl hown' hgrow
        have hs1:=hgrow.size
        simp only [World.size_alloc] at hs1
        have bk:∀ {b:Nat} {t:TypeId} {z:Value} (y y':Value),b < w.heap.size+5→b≠w.heap.size+1→b≠w.heap.size+1+1→Boxed W b t z→Boxed ((w1.setCell ⟨w.heap.size+1,0,none⟩ y).setCell ⟨w.heap.size+1+1,0,none⟩ y') b t z:=fun {b t z} y y' hb h1 h2 h=>box_off (box_off ((h.alloc _).kept hgrow (fun e=>by have:=hvo b e.symm;omega)) _ (show w.heap.size+1≠b by omega)) _ (show w.heap.size+1+1≠b by omega)
        have hbel:∀ y y',Below w.heap.size W ((w1.setCell ⟨w.heap.size+1,0,none⟩ y).setCell ⟨w.heap.size+1+1,0,none⟩ y'):=fun y y'=>((Below.refl w.heap.size W).alloc (by omega) _).trans ((below_grown hgrow (fun b hb=>by have:=hvo b hb;omega) (by simp;omega)).trans ((below_grown (grown_set _ _ _) (fun b hb=>by injection hb with hb;subst hb;show w.heap.size≤w.heap.size+1;omega) (by omega)).trans (below_grown (grown_set _ _ _) (fun b hb=>by injection hb with hb;subst hb;show w.heap.size≤w.heap.size+1+1;omega) (by simp;omega))))
        exact⟨((((KeepsOthers.alloc W _).trans (KeepsOthers.of_grownBy hgrow (fun j o ej hj=>row_cells (hor.alloc _) ej hj))).trans (KeepsOthers.setCell _ _ _)).trans (KeepsOthers.setCell _ _ _)).from _,⟨hbel _ _,(bk _ _ (by omega) (by omega) (by omega) hU).trans hU.symm⟩,⟨_,_,box_off (hv1.set _) _ (show w.heap.size+1+1≠w.heap.size+1 by omega),by rw [hres];exact (hmore.box _ _ (show w.heap.size+1 < w.heap.size+5 by omega)).box _ _ (show w.heap.size+1+1 < w.heap.size+5 by omega),by rw [hres];exact (box_off hp1 _ (show w.heap.size+1≠w.heap.size+1+1 by omega)).set _⟩,bk _ _ (by omega) (by omega) (by omega) hT,bk _ _ (by omega) (by omega) (by omega) hU,hB.trans (hbel _ _),by simp;omega⟩
      · have hk2b:(x.k.tmod 2 == 0)=false:=by simpa using hk2
        by_cases hop:op=true
        · subst hop
          obtain⟨l0,c,rfl⟩:=last_form (hopen rfl)
          obtain⟨vs0,u,g,cp',rfl,hl0,rfl,hcells,hfro,hinn,hg5⟩:=ho.last
          obtain⟨k,hk0⟩:∃ k,l0.length=k:=⟨_,rfl⟩
          rw [hk0] at hcells
          have c0:W.cell? ⟨g,k*6,none⟩=some (.int .i64 c.site):=hcells 0 _ rfl
          have c3:W.cell? ⟨g,k*6+3,none⟩=some (.int .i64 c.ended):=hcells 3 _ rfl
          have c4:W.cell? ⟨g,k*6+4,none⟩=some (.int .u32 c.res):=hcells 4 _ rfl
          have f3:=hfro (k*6+3)
          have f4:=hfro (k*6+4)
          have fp:=hp.frozen
          have hk6:k≤1000000:=by simp at hlen2;omega
          obtain⟨hwk,hwk2⟩:=wrap_small hk6
          have hklt:((k:Int) < (k:Int)+1):=Int.lt_succ _
          by_cases hsi:c.site=x.k.tdiv 2 % 4294967296
          · have hsb:(c.site == IntKind.i64.wrap (IntKind.u32.wrap (x.k.tdiv 2)))=true:=by rw [wrap_site];simpa using hsi
            have hres:callsF t (pre++[(xi,x)])=(l0++[{ c with ended:=(xi:Int),res:=x.val }],false):=by rw [hsn];unfold callS;simp [hk7,hk2,hsi]
            have HRES:=Lib.hid hres
            clear hres
            have HO:=Lib.hid ho
            have hBg:Bx≠g:=fun e=>by
              rcases ho.row.2 with⟨h,_⟩ | ⟨g',cap',cur,h,_,hg,_⟩
              · cases h
              · injection h with h;injection h with h;injection h with h
                subst h e
                rw [show W.heap[Bx]? = _ from bX] at hg
                injection hg with hg
                injection hg with _ q _
                exact absurd q (by decide)
            have HBG:=Lib.hid hBg
            clear hBg
            clear ho hsn hres0 hopen hlen2 hcells hfro
            gi_wp2
            refine wpIn_region_quietR (by kernel_rfl) (by kernel_rfl) (by kernel_rfl) ?_
            repeat (quiet_step_in (fail))
            refine wpQuietIn_nil ?_
            rintro _ ⟨nq,rfl⟩
            gi_wp2
            refine wpIn_region_r (fun V=>V.cell? ⟨Bx,4,none⟩=some (.int .u32 x.val)) (by kernel_rfl) ?_
            obtain⟨wd,hwd⟩:∃ wd,({ W.drewN nq with drawn:=(W.drewN nq).drawn+1 }:World)=wd:=⟨_,rfl⟩
            have hwe:wd.heap=W.heap:=by rw [←hwd];rfl
            have cw:∀ a,wd.cell? a=W.cell? a:=fun a=>World.cell?_of_block (by rw [hwe])
            have fw:∀ a,wd.frozen? a=W.frozen? a:=fun a=>World.frozen?_of_block (by rw [hwe])
            have q4:wd.cell? ⟨Bx,4,none⟩=some (.int .u32 x.val):=(cw _).trans e4
            have d3:wd.cell? ⟨g,k*6+3,none⟩=some (.int .i64 c.ended):=(cw _).trans c3
            have g3:wd.frozen? ⟨g,k*6+3,none⟩=false:=(fw _).trans f3
            rw [hwd]
            refine AnyR_take (i:=0) (oi:=_) (v:=?_) (by kernel_rfl) rfl (by kernel_rfl) (fun _ _ _ h=>h) ⟨Or.inl ⟨by rfl,?_⟩,fun _=>by first | rfl | (go_simp;done) | (simp [Oper.about];done)⟩ q4 ?_
            rotate_left
            · intro V hSw;(try dsimp only at hSw);go_simp;first | done | with_reducible rfl
            simp only [Act.put,List.getElem_toArray,List.getElem_cons_zero,List.getElem_cons_succ,List.setIfInBounds_toArray,List.set_cons_zero,List.set_cons_succ]
            refine AnyR_take (i:=1) (oi:=_) (v:=?_) (by kernel_rfl) rfl (by kernel_rfl) (fun _ _ _ h=>h) ⟨Or.inl ⟨by rfl,?_⟩,fun _=>by first | rfl | (go_simp;done) | (simp [Oper.about];done)⟩ q4 ?_
            rotate_left
            · intro V hSw;(try dsimp only at hSw);go_simp;first | done | with_reducible rfl
            simp only [Act.put,List.getElem_toArray,List.getElem_cons_zero,List.getElem_cons_succ,List.setIfInBounds_toArray,List.set_cons_zero,List.set_cons_succ]
            refine AnyR_take (i:=2) (oi:=_) (v:=?_) (by kernel_rfl) rfl (by kernel_rfl) (fun _ _ _ h=>h) ⟨Or.inl ⟨by rfl,?_⟩,fun _=>by first | rfl | (go_simp;done) | (simp [Oper.about];done)⟩ q4 ?_
            rotate_left
            · intro V hSw;(try dsimp only at hSw);go_simp;first | done | with_reducible rfl
            simp only [Act.put,List.getElem_toArray,List.getElem_cons_zero,List.getElem_cons_succ,List.setIfInBounds_toArray,List.set_cons_zero,List.set_cons_succ]
            refine AnyR_take (i:=3) (oi:=_) (v:=?_) (by kernel_rfl) rfl (by kernel_rfl) (fun _ _ _ h=>h) ⟨Or.inl ⟨by rfl,?_⟩,fun _=>by first | rfl | (go_simp;done) | (simp [Oper.about];done)⟩ q4 ?_
            rotate_left
            · intro V hSw;(try dsimp only at hSw);go_simp;first | done | with_reducible rfl
            simp only [Act.put,List.getElem_toArray,List.getElem_cons_zero,List.getElem_cons_succ,List.setIfInBounds_toArray,List.set_cons_zero,List.set_cons_succ]
            refine AnyR_take (i:=4) (oi:=_) (v:=?_) (by kernel_rfl) rfl (by kernel_rfl) (fun _ _ _ h=>h) ⟨Or.inl ⟨by rfl,?_⟩,fun _=>by first | rfl | (go_simp;done) | (simp [Oper.about];done)⟩ q4 ?_
            rotate_left
            · intro V hSw;(try dsimp only at hSw);go_simp;first | done | with_reducible rfl
            simp only [Act.put,List.getElem_toArray,List.getElem_cons_zero,List.getElem_cons_succ,List.setIfInBounds_toArray,List.set_cons_zero,List.set_cons_succ]
            refine AnyR_take (i:=5) (oi:=_) (v:=?_) (by kernel_rfl) rfl (by kernel_rfl) (fun _ _ _ h=>h) ⟨Or.inl ⟨by rfl,?_⟩,fun _=>by first | rfl | (go_simp;done) | (simp [Oper.about];done)⟩ q4 ?_
            rotate_left
            · intro V hSw;(try dsimp only at hSw);go_simp;first | done | with_reducible rfl
            simp only [Act.put,List.getElem_toArray,List.getElem_cons_zero,List.getElem_cons_succ,List.setIfInBounds_toArray,List.set_cons_zero,List.set_cons_succ]
            refine AnyR_take (i:=6) (oi:=_) (v:=?_) (by kernel_rfl) rfl (by kernel_rfl) (fun _ _ _ h=>h) ⟨Or.inl ⟨by rfl,?_⟩,fun _=>by first | rfl | (go_simp;done) | (simp [Oper.about];done)⟩ q4 ?_
            rotate_left
            · intro V hSw;(try dsimp only at hSw);go_simp;first | done | with_reducible rfl
            simp only [Act.put,List.getElem_toArray,List.getElem_cons_zero,List.getElem_cons_succ,List.setIfInBounds_toArray,List.set_cons_zero,List.set_cons_succ]
            refine AnyR_one (i:=7) rfl (by kernel_rfl) ?_
            refine wpOpIn_of rfl rfl ?_
            try simp only [Act.put,List.getElem_toArray,List.getElem_cons_zero,List.getElem_cons_succ,List.setIfInBounds_toArray,List.set_cons_zero,List.set_cons_succ]
            go_simp
            refine⟨(World.cell?_of_block (a:=⟨Bx,4,none⟩) (heap_setCell_other _ _ _ _ HBG.out)).trans q4,?_⟩
            obtain⟨w2,hw2⟩:∃ w2,wd.setCell ⟨g,k*6+3,none⟩ (.int .i64 (xi:Int))=w2:=⟨_,rfl⟩
            have r4:w2.cell? ⟨Bx,4,none⟩=some (.int .u32 x.val):=by rw [←hw2];exact (World.cell?_of_block (a:=⟨Bx,4,none⟩) (heap_setCell_other _ _ _ _ HBG.out)).trans q4
            have hg0:W.grownBy wd none:=by rw [←hwd];exact⟨rfl,rfl,rfl,Nat.le_refl _,fun _ _ _=>rfl⟩
            have ho1:=(HO.out.own hg0 (fun r e=>by cases e)).set hl0 3 (.int .i64 (xi:Int)) (c':={ c with ended:=(xi:Int) }) rfl rfl
            rw [hk0,hw2] at ho1
            obtain⟨vs1,u1,g1,cp1,ev1,el1,es1,hcells1,hfro1,_,_⟩:=ho1.last
            injection es1 with es1
            injection es1 with es1
            injection es1 with es1
            subst es1
            rw [hk0] at hcells1
            have d4:w2.cell? ⟨g,k*6+4,none⟩=some (.int .u32 c.res):=hcells1 4 _ rfl
            have g4:w2.frozen? ⟨g,k*6+4,none⟩=false:=hfro1 _
            have hwd2:w2.heap.size=W.heap.size:=by rw [←hw2,←hwe];simp
            have HO1:=Lib.hid ho1
            have hKO:KeepsOthers W w2:=by rw [←hw2];exact (KeepsOthers.of_grownBy hg0 (fun j o e=>by cases e)).trans (KeepsOthers.setCell _ _ _)
            have hBW:Below w.heap.size W w2:=by rw [←hw2];exact (below_grown hg0 (fun b e=>by cases e) (by omega)).trans (below_grown (grown_set _ _ _) (fun b hb=>by injection hb with hb;subst hb;show w.heap.size≤g;omega) (by rw [hwe];omega))
            have bk:∀ {b:Nat} {t:TypeId} {z:Value},b < w.heap.size+5→Boxed W b t z→Boxed w2 b t z:=fun {b t z} hb h=>by rw [←hw2];exact box_off (h.kept hg0 (by simp)) _ (show g≠b by omega)
            have bO2:=bk (by omega) hv
            have bP2:=bk (by omega) hp
            have bT2:=bk (by omega) hT
            have bU2:=bk (by omega) hU
            clear ho1 hcells1 hfro1
            rw [hw2]
            clear hw2 hwd
            try simp only [Act.put,List.getElem_toArray,List.getElem_cons_zero,List.getElem_cons_succ,List.setIfInBounds_toArray,List.set_cons_zero,List.set_cons_succ]
            refine AnyR_take (i:=8) (oi:=_) (v:=?_) (by kernel_rfl) rfl (by kernel_rfl) (fun _ _ _ h=>h) ⟨Or.inl ⟨by rfl,?_⟩,fun _=>by first | rfl | (go_simp;done) | (simp [Oper.about];done)⟩ r4 ?_
            rotate_left
            · intro V hSw;(try dsimp only at hSw);go_simp;first | done | with_reducible rfl
            simp only [Act.put,List.getElem_toArray,List.getElem_cons_zero,List.getElem_cons_succ,List.setIfInBounds_toArray,List.set_cons_zero,List.set_cons_succ]
            refine AnyR_take (i:=9) (oi:=_) (v:=?_) (by kernel_rfl) rfl (by kernel_rfl) (fun _ _ _ h=>h) ⟨Or.inl ⟨by rfl,?_⟩,fun _=>by first | rfl | (go_simp;done) | (simp [Oper.about];done)⟩ r4 ?_
            rotate_left
            · intro V hSw;(try dsimp only at hSw);go_simp;first | done | with_reducible rfl
            simp only [Act.put,List.getElem_toArray,List.getElem_cons_zero,List.getElem_cons_succ,List.setIfInBounds_toArray,List.set_cons_zero,List.set_cons_succ]
            refine AnyR_one (i:=10) rfl (by kernel_rfl) ?_
            refine wpOpIn_of rfl rfl ?_
            try simp only [Act.put,List.getElem_toArray,List.getElem_cons_zero,List.getElem_cons_succ,List.setIfInBounds_toArray,List.set_cons_zero,List.set_cons_succ]
            go_simp
            refine⟨(World.cell?_of_block (a:=⟨Bx,4,none⟩) (heap_setCell_other _ _ _ _ HBG.out)).trans r4,?_⟩
            refine AnyR_done (by kernel_rfl) ?_ _
            have bP3:=box_off bP2 (a:=⟨g,k*6+4,none⟩) (.int .u32 x.val) (show g≠_ by omega)
            have cp3:=bP3.cell
            have fp3:=bP3.frozen
            gi_wp2
            have ho1:=HO1.out
            rw [ev1] at ho1
            subst hk0
            have ho2:=(ho1.set el1 4 (.int .u32 x.val) (c':={ c with ended:=(xi:Int),res:=x.val }) rfl rfl).box ⟨w.heap.size+1+1,0,none⟩ (.bool false) (show w.heap.size+1+1 < w.heap.size+5 by omega)
            have b2:∀ {b:Nat} {t:TypeId} {z:Value},b < w.heap.size+5→b≠w.heap.size+1+1→Boxed w2 b t z→Boxed ((w2.setCell ⟨g,l0.length*6+4,none⟩ (.int .u32 x.val)).setCell ⟨w.heap.size+1+1,0,none⟩ (.bool false)) b t z:=fun {b t z} hb hne h=>box_off (box_off h _ (show g≠b by omega)) _ (show w.heap.size+1+1≠b by omega)
            have hb3:Below w.heap.size W ((w2.setCell ⟨g,l0.length*6+4,none⟩ (.int .u32 x.val)).setCell ⟨w.heap.size+1+1,0,none⟩ (.bool false)):=(hBW.trans (below_grown (grown_set _ _ _) (fun b hb=>by injection hb with hb;subst hb;show w.heap.size≤g;omega) (by omega))).trans (below_grown (grown_set _ _ _) (fun b hb=>by injection hb with hb;subst hb;show w.heap.size≤w.heap.size+1+1;omega) (by simp;omega))
            exact⟨((hKO.trans (KeepsOthers.setCell _ _ _)).trans (KeepsOthers.setCell _ _ _)).from _,⟨hb3,(b2 (by omega) (by omega) bU2).trans hU.symm⟩,⟨_,_,b2 (by omega) (by omega) bO2,by rw [HRES.out];exact ho2,by rw [HRES.out];exact bP3.set _⟩,b2 (by omega) (by omega) bT2,b2 (by omega) (by omega) bU2,hB.trans hb3,by simp;omega⟩
          · have hsb:(c.site == IntKind.i64.wrap (IntKind.u32.wrap (x.k.tdiv 2)))=false:=by rw [wrap_site];simpa using hsi
            have hres:=hres0 (by unfold callS;simp [hk7,hk2,hsi])
            clear hsn hres0 hcells hfro hopen hlen2
            gi_wp2
            refine wpIn_region_quietR (by kernel_rfl) (by kernel_rfl) (by kernel_rfl) ?_
            repeat (quiet_step_in (fail))
            refine wpQuietIn_nil ?_
            rintro _ ⟨nq,rfl⟩
            gi_wp2
            have hC:CI w.heap.size t W0 (pre++[(xi,x)]) W:=⟨⟨_,_,hv,by rw [hres];exact ho,by rw [hres];exact hp⟩,hT,hU,hB,hs⟩
            exact⟨⟨Nat.le_refl _,fun _ _ _ h _=>h⟩,⟨⟨rfl,rfl,rfl,Nat.le_refl _,fun _ _=>rfl⟩,rfl⟩,hC.drewN nq⟩
        · have hopf:op=false:=by simpa using hop
          subst hopf
          have hres:=hres0 (by unfold callS;simp [hk7,hk2])
          clear hsn hres0
          gi_wp2
          refine wpIn_region_quietR (by kernel_rfl) (by kernel_rfl) (by kernel_rfl) ?_
          repeat (quiet_step_in (fail))
          refine wpQuietIn_nil ?_
          rintro _ ⟨nq,rfl⟩
          gi_wp2
          have hC:CI w.heap.size t W0 (pre++[(xi,x)]) W:=⟨⟨v,vs,hv,by rw [hres];exact ho,by rw [hres];exact hp⟩,hT,hU,hB,hs⟩
          exact⟨⟨Nat.le_refl _,fun _ _ _ h _=>h⟩,⟨⟨rfl,rfl,rfl,Nat.le_refl _,fun _ _=>rfl⟩,rfl⟩,hC.drewN nq⟩
    · have hk7b:(x.kind != 7)=true:=by simpa using hk7
      by_cases hop:op=true
      · subst hop
        by_cases hk3:x.kind=3
        · have hres:=hres0 (by unfold callS;simp [hk7,hk3])
          have hk3b:(x.kind != 3)=false:=by simpa using hk3
          clear hsn hres0
          gi_wp2
          exact⟨KeepsFrom.refl _ _,⟨Below.refl _ _,rfl⟩,⟨v,vs,hv,by rw [hres];exact ho,by rw [hres];exact hp⟩,hT,hU,hB,hs⟩
        · have hk3b:(x.kind != 3)=true:=by simpa using hk3
          obtain⟨l0,c,rfl⟩:=last_form (hopen rfl)
          have hres:callsF t (pre++[(xi,x)])=(l0++[{ c with inner:=c.inner++[(xi:Int)] }],true):=by rw [hsn];unfold callS;simp [hk7,hk3]
          obtain⟨vs0,u,g,cp',rfl,hl0,rfl,hcells,hfro,hinn,hg5⟩:=ho.last
          obtain⟨k,hk0⟩:∃ k,l0.length=k:=⟨_,rfl⟩
          rw [hk0] at hcells
          have c5:W.cell? ⟨g,k*6+5,none⟩=some u:=hcells 5 u rfl
          have f5:=hfro (k*6+5)
          have hk6:k≤1000000:=by simp at hlen2;omega
          obtain⟨hwk,hwk2⟩:=wrap_small hk6
          have hklt:((k:Int) < (k:Int)+1):=Int.lt_succ _
          have hci:c.inner.length≤pre.length:=by have:=callsF_inner t pre c (by rw [hst];simp);exact this
          obtain⟨m,hm⟩:∃ m,c.inner.length=m:=⟨_,rfl⟩
          rw [hm] at hinn hci
          have hul:(vs0++[u])[l0.length]? = some u:=by rw [←hl0];simp
          have hgl:g < W.heap.size:=by have:=block_lt_of_cell c5;exact this
          have hub:∀ b,u.ownBlock=some b→w.heap.size+5≤b:=fun b hb=>(hinn.lt b hb).1
          have HO:=Lib.hid ho
          clear hsn hres0 hcells hk6 ho hfro hlen2 hopen
          gi_wp2_with (gi_at_builtin;refine wpListIn_append_own_at _ rfl _ _ 59 rfl (w.heap.size+5) 3 iI (.int .i64 0) 1 8 Tryz.underlying59 hiI hI0 hI1 hI2 rfl (by decide) _ _ _ rfl (hinn.alloc _) ⟨W.heap.size,0,none⟩ 1 1 [.int .i64 (xi:Int)] rfl rfl (cell_one_new _ _ _) (by simp [Value.oneCell']) (by unfold maxLen;omega) (by omega) (by simp;omega) ?_;intro u' w1 hown' hgrow _ hwhere;obtain⟨g',cap',rfl⟩:=ownsRow_succ hown';have hkc:=HO.out.keepCell hul hgl hgrow c5 f5;have c5':=hkc.1;have f5':=hkc.2;clear hkc c5 f5)
          subst hk0
          subst hm
          have hmore:=(HO.out.alloc (.cells #[.int .i64 (xi:Int)] 3)).more hl0 hown' hgrow (hwhere.imp id (fun e=>⟨_,Nat.le_refl _,e⟩))
          have hs1:=hgrow.size
          simp only [World.size_alloc] at hs1
          have bk:∀ {b:Nat} {t:TypeId} {v:Value} (y:Value),b < w.heap.size+5→Boxed W b t v→Boxed (w1.setCell ⟨g,l0.length*6+5,none⟩ y) b t v:=fun {b t v} y hb h=>box_off ((h.alloc _).kept hgrow (fun e=>by have:=hub b e.symm;omega)) _ (show g≠b by omega)
          have hbel:∀ y,Below w.heap.size W (w1.setCell ⟨g,l0.length*6+5,none⟩ y):=fun y=>((Below.refl w.heap.size W).alloc (by omega) _).trans ((below_grown hgrow (fun b hb=>by have:=hub b hb;omega) (by simp;omega)).trans (below_grown (grown_set _ _ _) (fun b hb=>by injection hb with hb;subst hb;show w.heap.size≤g;omega) (by omega)))
          exact⟨(((KeepsOthers.alloc W _).trans (KeepsOthers.of_grownBy hgrow (fun j o ej hj=>row_cells (hinn.alloc _) ej hj))).trans (KeepsOthers.setCell _ _ _)).from _,⟨hbel _,(bk _ (by omega) hU).trans hU.symm⟩,⟨_,_,bk _ (by omega) hv,by rw [hres];exact hmore,by rw [hres];exact bk _ (by omega) hp⟩,bk _ (by omega) hT,bk _ (by omega) hU,hB.trans (hbel _),by simp;omega⟩
      · have hopf:op=false:=by simpa using hop
        subst hopf
        have hres:=hres0 (by unfold callS;simp [hk7])
        clear hsn hres0
        gi_wp2
        exact⟨KeepsFrom.refl _ _,⟨Below.refl _ _,rfl⟩,⟨v,vs,hv,by rw [hres];exact ho,by rw [hres];exact hp⟩,hT,hU,hB,hs⟩
  case done=>
    rintro D ys W hD rfl ⟨⟨v,vs,hv,ho,hp⟩,hT,hU,hB,hs⟩ hK
    have hc:=hv.cell
    gi_wp2
    refine⟨by simp,.inl ⟨_,_,rfl,run_takeDeferred hK,?_⟩⟩
    exact⟨_,results_tmp rfl _ _ _,v,vs,rfl,(ho.own (grownBy_putObj' W D _) (fun r e=>by cases e;exact⟨_,hK,rfl⟩)).mono (by omega),(hB0.trans hB).trans (belowK_b (w:=w) (Nat.le_refl _) W D _ _ (by omega) hK rfl rfl)⟩
  case stop=>
    rintro D c pre W _ _ h _
    exact h.elim
end Go.Proofs.YtcnmhgblbikfkaaGreatDoor.As
end

section
set_option linter.unusedVariables false
set_option linter.unusedSimpArgs false
namespace Go.Proofs.YtcnmhgblbikfkaaGreatDoor.As

def headB(l:List Cl):Int:=match l with
  | []=>0
  | c::_=>c.began
def bestS(ls:List (List Cl))(b:Option Nat)(t:Nat):Option Nat:=
  match ls.getD t [] with
  | []=>b
  | c::_=>match b with
    | none=>some t
    | some j=>if c.began < headB (ls.getD j []) then some t else some j
def bestP(ls:List (List Cl))(n:Nat):Option Nat:=(List.range n).foldl (bestS ls) none
theorem bestP_succ(ls:List (List Cl))(n:Nat):bestP ls (n+1)=bestS ls (bestP ls n) n:=by
  unfold bestP
  rw [List.range_succ,List.foldl_append];rfl
theorem bestP_spec(ls:List (List Cl)):∀ n,(∀ t,bestP ls n=some t→t < n∧ls.getD t []≠[])∧(bestP ls n=none→∀ t,t < n→ls.getD t []=[])
  | 0=>⟨fun t h=>(by cases h),fun _ t h=>(by omega)⟩
  | n+1=>by
    obtain⟨h1,h2⟩:=bestP_spec ls n
    rw [bestP_succ]
    unfold bestS
    cases hl:ls.getD n [] with
    | nil=>
      refine⟨fun t h=>?_,fun h t ht=>?_⟩
      · have:=h1 t h;exact⟨by omega,this.2⟩
      · by_cases e:t=n
        · subst e;exact hl
        · exact h2 h t (by omega)
    | cons c r=>
      dsimp only
      cases hb:bestP ls n with
      | none=>
        refine⟨fun t h=>?_,fun h=>by cases h⟩
        injection h with h;subst h
        exact⟨by omega,by rw [hl];simp⟩
      | some j=>
        dsimp only
        have hj:=h1 j hb
        split
        · refine⟨fun t h=>?_,fun h=>by cases h⟩
          injection h with h;subst h
          exact⟨by omega,by rw [hl];simp⟩
        · refine⟨fun t h=>?_,fun h=>by cases h⟩
          injection h with h;subst h
          exact⟨by omega,hj.2⟩
def mergeP:Nat→List (List Cl)→List Cl→List Cl
  | 0,_,o=>o
  | f+1,ls,o=>match bestP ls ls.length with
    | none=>o
    | some t=>match ls.getD t [] with
      | []=>o
      | c::r=>mergeP f (ls.set t r) (o++[c])
theorem flat_nil:∀ (ls:List (List Cl)),(∀ t,t < ls.length→ls.getD t []=[])→ls.flatten=[]
  | [],_=>rfl
  | a::ls,h=>by
    have h0:=h 0 (by simp)
    have h1:=flat_nil ls (fun t ht=>by have:=h (t+1) (by simp;omega);simpa using this)
    have ha:a=[]:=by simpa using h0
    rw [List.flatten_cons,ha,h1];rfl
theorem flat_set:∀ (ls:List (List Cl)) (t:Nat) (c:Cl) (r:List Cl),ls.getD t []=c::r→ls.flatten.Perm (c::(ls.set t r).flatten)∧(ls.set t r).flatten.length+1=ls.flatten.length
  | [],t,c,r,h=>by simp at h
  | a::ls,0,c,r,h=>by
    have ha:a=c::r:=by simpa using h
    subst ha
    exact⟨List.Perm.refl _,by simp⟩
  | a::ls,t+1,c,r,h=>by
    obtain⟨h1,h2⟩:=flat_set ls t c r (by simpa using h)
    rw [List.set_cons_succ,List.flatten_cons,List.flatten_cons]
    refine⟨(List.Perm.append_left a h1).trans List.perm_middle,?_⟩
    rw [List.length_append,List.length_append];omega
theorem mergeP_perm:∀ (f:Nat) (ls:List (List Cl)) (o:List Cl),ls.flatten.length≤f→(mergeP f ls o).Perm (o++ls.flatten)
  | 0,ls,o,h=>by
    have:ls.flatten=[]:=List.eq_nil_of_length_eq_zero (by omega)
    rw [this,List.append_nil];exact List.Perm.refl _
  | f+1,ls,o,h=>by
    unfold mergeP
    have hs:=bestP_spec ls ls.length
    cases hb:bestP ls ls.length with
    | none=>
      dsimp only
      rw [flat_nil ls (hs.2 hb),List.append_nil]
    | some t=>
      dsimp only
      have ht:=hs.1 t hb
      cases hl:ls.getD t [] with
      | nil=>exact absurd hl ht.2
      | cons c r=>
        dsimp only
        obtain⟨h1,h2⟩:=flat_set ls t c r hl
        refine (mergeP_perm f (ls.set t r) (o++[c]) (by omega)).trans ?_
        rw [List.append_assoc]
        exact List.Perm.append_left o h1.symm
def perT(evs:List Ev):List (List Cl):=(List.range 8).map fun t:Nat=>(callsF (t:Int) (ofI evs (t:Int) evs.length)).1
def callsAll(evs:List Ev):List Cl:=mergeP (perT evs).flatten.length (perT evs) []
theorem callsAll_perm(evs:List Ev):(callsAll evs).Perm (perT evs).flatten:=by
  have:=mergeP_perm _ (perT evs) [] (Nat.le_refl _)
  simpa [callsAll] using this
end Go.Proofs.YtcnmhgblbikfkaaGreatDoor.As
end

section
set_option linter.unusedVariables false
set_option linter.unusedSimpArgs false
namespace Go.Proofs.YtcnmhgblbikfkaaGreatDoor.As
open Go.RowKit

theorem tcalls_any(v:Value)(len:Nat)(evs:List Ev)(t:Int)(hreach:len≤1000000)(hk:∀ e∈evs,0≤e.k∧e.k≤4294967295)(w:World)(hR:Rd w 8 v len (flatE evs))(hle:evs.length=len):
    Calls Tryz.prog 59 #[v,.int .i64 t] w fun e W'=>∃ v' vs,e=.returned v'∧OutC w.heap.size W' v' (callsF t (ofI evs t len)).1 vs∧Below w.heap.size w W':=
  (callsIn_wide (n:=3)).1 (calls_in Fence.wide 3 trivial trivial trivial rfl (Nat.le_refl _) v len evs t hreach hk w hR hle)
theorem row_below{B e s n:Nat}{W W':World}{v:Value}{xs:List Value}(h:W.ownsRow B e s v n xs)(hb:Below W.heap.size W W'):W'.ownsRow B e s v n xs:=by
  refine⟨h.1,?_⟩
  rcases h.2 with h | ⟨g,cap,cur,rfl,h1,h2,h3⟩
  · exact .inl h
  · exact .inr ⟨g,cap,cur,rfl,h1,(hb.block g (Array.getElem?_eq_some_iff.1 h2).1).trans h2,h3⟩
theorem OutC.below{B:Nat}{W W':World}{v:Value}{l:List Cl}{vs:List Value}(h:OutC B W v l vs)(hb:Below W.heap.size W W'):OutC B W' v l vs:=
  ⟨h.len,row_below h.row hb,fun i c u h1 h2=>row_below (h.inn i c u h1 h2) hb,h.dis⟩
theorem OutC.form{B:Nat}{W:World}{v:Value}{l:List Cl}{vs:List Value}(h:OutC B W v l vs):∃ A cap,v=.slice A l.length cap:=by
  rcases h.row.2 with⟨h1,h2⟩ | ⟨g,cap,cur,h1,_⟩
  · exact⟨none,0,by rw [h1,h2]⟩
  · exact⟨_,_,h1⟩
def InU(B U:Nat)(W:World)(u:Value)(l:List Int):Prop:=W.ownsRow B 3 1 u l.length (l.map (Value.int .i64))∧∀ b,u.ownBlock=some b→b < U
def SufC(B U:Nat)(W:World)(v:Value)(l:List Cl):Prop:=∃ (vs:List Value) (A:Option Addr) (cap:Nat),vs.length=l.length∧v=.slice A l.length cap∧l.length≤cap∧
  (l≠[]→∃ g off,A=some ⟨g,off,none⟩∧B≤g∧g < U∧∀ (j:Nat) (x:Value),(flatC l vs)[j]? = some x→W.cell? ⟨g,off+j,none⟩=some x)∧∀ (i:Nat) (c:Cl) (u:Value),l[i]? = some c→vs[i]? = some u→InU B U W u c.inner
theorem SufC.of{B:Nat}{W:World}{v:Value}{l:List Cl}{vs:List Value}(h:OutC B W v l vs):SufC B W.heap.size W v l:=by
  have hin:∀ (i:Nat) (c:Cl) (u:Value),l[i]? = some c→vs[i]? = some u→InU B W.heap.size W u c.inner:=fun i c u h1 h2=>⟨by rw [show c.inner.length=c.inner.length from rfl];exact h.inn i c u h1 h2,fun b hb=>((h.inn i c u h1 h2).lt b hb).2⟩
  rcases h.row.2 with⟨h1,h2⟩ | ⟨g,cap,cur,h1,hB,hg,hn,_,hcs,ht⟩
  · have hl:l=[]:=List.eq_nil_of_length_eq_zero h2
    subst hl
    exact⟨vs,none,0,h.len,h1,Nat.le_refl _,fun e=>absurd rfl e,hin⟩
  · refine⟨vs,_,cap,h.len,h1,hn,fun _=>⟨g,0,rfl,hB,(Array.getElem?_eq_some_iff.1 hg).1,fun j x hj=>?_⟩,hin⟩
    have hr:=h.row
    rw [h1] at hr
    have hjl:=(List.getElem?_eq_some_iff.1 hj).1
    rw [flatC_len _ _ h.len] at hjl
    rw [Nat.zero_add,hr.cellAt j hjl]
    exact hj
theorem SufC.tail{B U:Nat}{W:World}{v:Value}{c:Cl}{r:List Cl}(h:SufC B U W v (c::r)):∃ g off cap,v=.slice (some ⟨g,off,none⟩) (r.length+1) cap∧r.length+1≤cap∧B≤g∧g < U∧SufC B U W (.slice (some ⟨g,off+6,none⟩) r.length (cap - 1)) r∧
    ∃ u,(∀ (j:Nat) (x:Value),(c.cells u)[j]? = some x→W.cell? ⟨g,off+j,none⟩=some x)∧InU B U W u c.inner:=by
  obtain⟨vs,A,cap,h1,h2,h3,h4,h5⟩:=h
  obtain⟨g,off,rfl,hB,hg,hc⟩:=h4 (by simp)
  cases vs with
  | nil=>simp at h1
  | cons u vs=>
    have hl:vs.length=r.length:=by simpa using h1
    have e:flatC (c::r) (u::vs)=c.cells u++flatC r vs:=rfl
    rw [e] at hc
    refine⟨g,off,cap,h2,by simpa using h3,hB,hg,⟨vs,_,cap - 1,hl,rfl,(by have h3':r.length+1≤cap:=(by simpa using h3);omega),fun _=>⟨g,off+6,rfl,hB,hg,fun j x hj=>?_⟩,fun i d z h6 h7=>h5 (i+1) d z (by simpa using h6) (by simpa using h7)⟩,u,fun j x hj=>?_,h5 0 c u rfl rfl⟩
    · have:=hc (6+j) x (by rw [List.getElem?_append_right (by show 6≤6+j;omega)];show (flatC r vs)[6+j - 6]? = _;rw [show 6+j - 6=j by omega];exact hj)
      rw [Nat.add_assoc];exact this
    · exact hc j x (by rw [List.getElem?_append_left (List.getElem?_eq_some_iff.1 hj).1];exact hj)
theorem InU.grown{B U:Nat}{W W':World}{u:Value}{l:List Int}{row:Option Nat}(h:InU B U W u l)(hg:W.grownBy W' row)(hrow:∀ b,row=some b→U≤b∨b < B):InU B U W' u l:=
  ⟨h.1.kept hg (by
    cases e:u.ownBlock with
    | none=>exact .inl rfl
    | some b=>exact .inr (fun e2=>by have h1:=h.2 b e;have h2:=(h.1.lt b e).1;have:=hrow b e2.symm;omega)),h.2⟩
theorem SufC.grown{B U:Nat}{W W':World}{v:Value}{l:List Cl}{row:Option Nat}(h:SufC B U W v l)(hg:W.grownBy W' row)(hU:U≤W.heap.size)(hrow:∀ b,row=some b→U≤b∨b < B):SufC B U W' v l:=by
  obtain⟨vs,A,cap,h1,h2,h3,h4,h5⟩:=h
  refine⟨vs,A,cap,h1,h2,h3,fun e=>?_,fun i c u p q=>(h5 i c u p q).grown hg hrow⟩
  obtain⟨g,off,ha,hB,hg2,hc⟩:=h4 e
  refine⟨g,off,ha,hB,hg2,fun j y hj=>?_⟩
  exact (World.cell?_of_block (a:=⟨g,off+j,none⟩) (hg.block g (by omega) (fun e2=>by have:=hrow g e2.symm;omega))).trans (hc j y hj)
def RdC(W:World)(v:Value)(l:List Cl):Prop:=∃ vs:List Value,vs.length=l.length∧Rd W 6 v l.length (flatC l vs)∧∀ (i:Nat) (c:Cl) (u:Value),l[i]? = some c→vs[i]? = some u→Rd W 1 u c.inner.length (c.inner.map (Value.int .i64))
theorem perT_get(evs:List Ev){t:Nat}(h:t < 8):(perT evs).getD t []=(callsF (t:Int) (ofI evs (t:Int) evs.length)).1:=by
  unfold perT
  rw [List.getD_eq_getElem?_getD,List.getElem?_map,List.getElem?_range h];rfl
theorem flatC_le{n:Nat}:∀ ls:List (List Cl),(∀ l∈ls,l.length≤n)→ls.flatten.length≤ls.length*n
  | [],_=>Nat.zero_le _
  | a::ls,h=>by
    have h1:=h a (List.mem_cons_self ..)
    have h2:=flatC_le ls (fun l hl=>h l (List.mem_cons_of_mem _ hl))
    rw [List.flatten_cons,List.length_append,List.length_cons,Nat.succ_mul]
    omega
theorem perT_len(evs:List Ev):(perT evs).flatten.length≤8*evs.length:=by
  refine flatC_le (perT evs) (fun l hl=>?_)
  unfold perT at hl
  obtain⟨t,_,rfl⟩:=List.mem_map.1 hl
  exact Nat.le_trans (callsF_len _ _) (ofI_len _ _ _)
def bestV(ls:List (List Cl))(t:Nat):Int:=match bestP ls t with
  | none => -1
  | some j=>(j:Int)
theorem bestV_succ(ls:List (List Cl))(t:Nat):bestV ls (t+1)=match ls.getD t [] with
    | []=>bestV ls t
    | c::_=>if bestV ls t < 0 then (t:Int) else if c.began < headB (ls.getD (bestV ls t).toNat []) then (t:Int) else bestV ls t:=by
  unfold bestV
  rw [bestP_succ]
  unfold bestS
  cases ls.getD t [] with
  | nil=>rfl
  | cons c r=>
    cases bestP ls t with
    | none=>rfl
    | some j=>
      dsimp only
      have hj:¬((j:Int) < 0):=by omega
      have hn:((j:Nat):Int).toNat=j:=rfl
      by_cases h:c.began < headB (ls.getD j [])
      · simp only [h,hj,hn,if_true,if_false]
      · simp only [h,hj,hn,if_true,if_false]
theorem bestV_spec(ls:List (List Cl))(t:Nat) : -1≤bestV ls t∧bestV ls t < t∧(0≤bestV ls t→ls.getD (bestV ls t).toNat []≠[]):=by
  have h:=bestP_spec ls t
  unfold bestV
  cases hb:bestP ls t with
  | none=>exact⟨by decide,(by show (-1:Int) < t;omega),fun e=>absurd e (by decide)⟩
  | some j=>
    have:=h.1 j hb
    exact⟨(by show (-1:Int)≤(j:Int);omega),by simpa using this.1,fun _=>by simpa using this.2⟩
def MgC(w:World)(U:Nat)(evs:List Ev)(ls:List (List Cl))(o:List Cl)(ar:Array Value)(ov:Value)(W:World):Prop:=
  ls.length=8∧ar.size=8∧W.heap[w.heap.size]? = some (.cells ar 57 (0,0))∧(∀ t,t < 8→∃ u,ar[t]? = some u∧SufC (w.heap.size+1) U W u (ls.getD t []))∧Below w.heap.size w W∧mergeP ls.flatten.length ls o=callsAll evs∧
  (∃ vso:List Value,vso.length=o.length∧W.ownsRow U 61 6 ov o.length (flatC o vso)∧∀ (i:Nat) (c:Cl) (u:Value),o[i]? = some c→vso[i]? = some u→InU (w.heap.size+1) U W u c.inner)∧o.length+ls.flatten.length≤8000000∧w.heap.size+1≤U∧U≤W.heap.size
theorem MgC.drewN{w W:World}{U:Nat}{evs:List Ev}{ls:List (List Cl)}{o:List Cl}{ar:Array Value}{ov:Value}(h:MgC w U evs ls o ar ov W)(n:Nat):MgC w U evs ls o ar ov (W.drewN n):=by
  obtain⟨h1,h2,h3,h4,h5,h6,h7,h8⟩:=h
  exact⟨h1,h2,h3,h4,⟨h5.os,h5.tape,h5.output,h5.size,h5.block⟩,h6,h7,h8⟩
theorem MgC.step{w W w1:World}{U j:Nat}{evs:List Ev}{ls:List (List Cl)}{o:List Cl}{ar:Array Value}{ov nv v' uu:Value}{c:Cl}{r:List Cl}{tmp:Obj}
    (h:MgC w U evs ls o ar ov W) (hb:bestP ls 8=some j) (hlj:ls.getD j []=c::r) (hnv:SufC (w.heap.size+1) U W nv r) (hin:InU (w.heap.size+1) U W uu c.inner)
    (hgrow:(W.alloc tmp).grownBy w1 ov.ownBlock) (hov:∀ b,ov.ownBlock=some b→U≤b) (vso:List Value) (hvl:vso.length=o.length) (hvi:∀ (i:Nat) (c:Cl) (u:Value),o[i]? = some c→vso[i]? = some u→InU (w.heap.size+1) U W u c.inner)
    (hown:w1.ownsRow U 61 6 v' (o.length+1) (flatC o vso++c.cells uu)):
    MgC w U evs (ls.set j r) (o++[c]) (ar.setIfInBounds j nv) v' (w1.setCell ⟨w.heap.size,j,none⟩ nv)∧(ls.set j r).flatten.length+1=ls.flatten.length:=by
  obtain⟨h1,h2,h3,h4,h5,h6,_,h8,h9,h10⟩:=h
  obtain⟨f1,f2⟩:=flat_set ls j c r hlj
  have hj8:=((bestP_spec ls 8).1 j hb).1
  have hgl:w.heap.size < W.heap.size:=(Array.getElem?_eq_some_iff.1 h3).1
  have hbx:W.grownBy (W.alloc tmp) none:=⟨rfl,rfl,rfl,by simp,fun k hk _=>Below.heap_alloc _ _ _ hk⟩
  have hst:=grown_set w1 ⟨w.heap.size,j,none⟩ nv
  have hsz:W.heap.size≤w1.heap.size:=by have:=hgrow.size;simp at this;omega
  have hsz2:(w1.setCell ⟨w.heap.size,j,none⟩ nv).heap.size=w1.heap.size:=by simp
  have hr1:w1.heap[w.heap.size]? = some (.cells ar 57 (0,0)):=(hgrow.block w.heap.size (by simp;omega) (fun e=>by have:=hov _ e.symm;omega)).trans ((Below.heap_alloc _ _ _ hgl).trans h3)
  have hS:∀ {v:Value} {l:List Cl},SufC (w.heap.size+1) U W v l→SufC (w.heap.size+1) U (w1.setCell ⟨w.heap.size,j,none⟩ nv) v l:=fun hs=>
    ((hs.grown hbx h10 (fun b e=>by cases e)).grown hgrow (by simp;omega) (fun b e=>.inl (hov b e))).grown hst (by omega) (fun b e=>.inr (by cases e;exact Nat.lt_succ_self _))
  have hI:∀ {u:Value} {l:List Int},InU (w.heap.size+1) U W u l→InU (w.heap.size+1) U (w1.setCell ⟨w.heap.size,j,none⟩ nv) u l:=fun hs=>
    ((hs.grown hbx (fun b e=>by cases e)).grown hgrow (fun b e=>.inl (hov b e))).grown hst (fun b e=>.inr (by cases e;exact Nat.lt_succ_self _))
  refine⟨⟨by simp [h1],by simp [h2],heap_setCell_same _ _ _ _ _ _ hr1,fun t ht=>?_,?_,?_,⟨vso++[uu],by simp [hvl],?_,?_⟩,(by rw [List.length_append];show o.length+1+_≤_;omega),h9,by omega⟩,f2⟩
  · by_cases e:t=j
    · subst e
      exact⟨nv,by rw [Array.getElem?_setIfInBounds_self_of_lt (by omega)],by rw [List.getD_eq_getElem?_getD,List.getElem?_set_self (by omega)];exact hS hnv⟩
    · obtain⟨u,p,q⟩:=h4 t ht
      exact⟨u,by rw [Array.getElem?_setIfInBounds_ne (fun e2=>e e2.symm)];exact p,by rw [List.getD_eq_getElem?_getD,List.getElem?_set_ne (fun e2=>e e2.symm),←List.getD_eq_getElem?_getD];exact hS q⟩
  · exact⟨hgrow.os.trans h5.os,hgrow.tape.trans h5.tape,hgrow.output.trans h5.output,by have:=h5.size;omega,fun k hk=>((hst.block k (by omega) (by intro e;simp at e;omega)).trans (hgrow.block k (by simp;omega) (fun e=>by have:=hov _ e.symm;omega))).trans ((Below.heap_alloc _ _ _ (by omega)).trans (h5.block k hk))⟩
  · have e:mergeP ((ls.set j r).flatten.length+1) ls o=mergeP (ls.set j r).flatten.length (ls.set j r) (o++[c]):=by
      rw [mergeP,h1,hb];dsimp only;rw [hlj]
    rw [←h6,←f2,e]
  · rw [flatC_snoc c uu o vso hvl,List.length_append]
    exact hown.kept hst (by
      cases e:v'.ownBlock with
      | none=>exact .inl rfl
      | some b=>exact .inr (fun e2=>by have:=(hown.lt b e).1;simp at e2;omega))
  · intro i c' u p q
    by_cases hi:i < o.length
    · rw [List.getElem?_append_left hi] at p
      rw [List.getElem?_append_left (by omega)] at q
      exact hI (hvi i c' u p q)
    · have hi2:i=o.length:=by
        have:=(List.getElem?_eq_some_iff.1 p).1
        simp at this;omega
      subst hi2
      have p':c=c':=by simpa using p
      have q':uu=u:=by rw [←hvl] at q;simpa using q
      subst p' q'
      exact hI hin
end Go.Proofs.YtcnmhgblbikfkaaGreatDoor.As
end

section
set_option linter.unusedVariables false
set_option linter.unusedSimpArgs false
namespace Go.Proofs.YtcnmhgblbikfkaaGreatDoor.As
open Go.RowKit

set_option maxRecDepth 100000 in
set_option maxHeartbeats 4000000 in
theorem Calls_any(v:Value)(evs:List Ev)(hreach:evs.length≤1000000)(hk:∀ e∈evs,0≤e.k∧e.k≤4294967295)(w:World)(hR:Rd w 8 v evs.length (flatE evs)):
    Calls Tryz.prog 20 #[v] w fun e W'=>∃ v',e=.returned v'∧RdC W' v' (callsAll evs)∧Below w.heap.size w W':=by
  obtain⟨A,cap,rfl⟩:=hR.form
  have hmk:∀ W,(Instr.makeSlice 137 (.int .i64 8) (.int .i64 8)).run Tryz.prog W=.ok (.slice (some ⟨W.heap.size,0,none⟩) 8 8) (W.alloc (.cells #[.slice none 0 0,.slice none 0 0,.slice none 0 0,.slice none 0 0,.slice none 0 0,.slice none 0 0,.slice none 0 0,.slice none 0 0] 57)):=fun _=>by kernel_rfl
  go_enter Tryz.func20,Tryz.ntmps20
  have hcl:=fun (W:World) (hW:Below w.heap.size w W) (t:Int)=>tcalls_any (.slice A evs.length cap) evs.length evs t hreach hk W (hR.below hW (Nat.le_refl _)) rfl
  have HCL:=Lib.hid hcl
  clear hcl hk hR
  go_wp2_with fail
  go_loopg [11] 8 (fun g iv wr=>∃ (i:Nat) (ar:Array Value),i+g=8∧iv=.int .i64 i∧Hid (ar.size=8∧wr.heap[w.heap.size]? = some (.cells ar 57 (0,0))∧(∀ t,t < i→∃ u vs,ar[t]? = some u∧OutC (w.heap.size+1) wr u (callsF (t:Int) (ofI evs (t:Int) evs.length)).1 vs)∧Below w.heap.size w wr))
  case atStart=>exact⟨0,_,rfl,rfl,Lib.hid ⟨rfl,heap_alloc_new _ _,fun t ht=>by omega,(Below.refl _ w).alloc (Nat.le_refl _) _⟩⟩
  case round=>
    obtain⟨i,ar,hi,rfl,HR⟩:=hrel
    obtain⟨wo,hwo⟩:∃ x,x=wr:=⟨_,rfl⟩
    subst hwo
    by_cases hlt:i < 8
    · obtain⟨g',rfl⟩:∃ g',gk=g'+1:=⟨gk - 1,by omega⟩
      have hil:(i:Int) < 8:=by omega
      have hwi:wrap64 ((i:Int)+1)=(i:Int)+1:=by unfold wrap64;omega
      obtain⟨hwk,hwk2⟩:=wrap_small (k:=i) (by omega)
      have hgl:w.heap.size < wo.heap.size:=(Array.getElem?_eq_some_iff.1 HR.out.2.1).1
      obtain⟨x0,hx0⟩:∃ x0,ar[i]? = some x0:=⟨_,Array.getElem?_eq_getElem (by have:=HR.out.1;omega)⟩
      have c0:wo.cell? ⟨w.heap.size,i,none⟩=some x0:=(cell_of_row wo w.heap.size i _ _ _ HR.out.2.1).trans hx0
      have hci:=HCL.out wo HR.out.2.2.2 (i:Int)
      go_wp2_with (go_at_call 59;refine hci.mono ?_;rintro r w3 ⟨u,vs,rfl,hO,hb3⟩;obtain⟨Au,cu,rfl⟩:=hO.form;have hrow3:=(hb3.block w.heap.size hgl).trans HR.out.2.1;have d0:w3.cell? ⟨w.heap.size,i,none⟩=some x0:=(cell_of_row w3 w.heap.size i _ _ _ hrow3).trans hx0;have f0:=frozen_of_row w3 w.heap.size i _ _ hrow3;have HR3:=Lib.hid hrow3;have HO:=Lib.hid hO;have HB3:=Lib.hid hb3;clear hO hb3 hrow3)
      go_roundg g'
      case rel=>
        have hsz:=HB3.out.size
        refine⟨i+1,ar.setIfInBounds i (.slice Au (callsF (i:Int) (ofI evs (i:Int) evs.length)).1.length cu),by omega,by first | (simp;done) | (simp;exact hwi),Lib.hid ⟨by simp [HR.out.1],heap_setCell_same _ _ _ _ _ _ HR3.out,fun t ht=>?_,(HR.out.2.2.2.trans (HB3.out.mono (by omega))).setCell (Nat.le_refl _) _⟩⟩
        by_cases e:t=i
        · subst e
          exact⟨_,vs,by rw [Array.getElem?_setIfInBounds_self_of_lt (by have:=HR.out.1;omega)],(HO.out.mono (by omega)).box _ _ (Nat.lt_succ_self _)⟩
        · obtain⟨u,vs',h1,h2⟩:=HR.out.2.2.1 t (by omega)
          exact⟨u,vs',by rw [Array.getElem?_setIfInBounds_ne (fun e2=>e e2.symm)];exact h1,(h2.below HB3.out).box _ _ (Nat.lt_succ_self _)⟩
      case measure=>omega
    · obtain rfl:i=8:=by omega
      have hgl0:w.heap.size+1≤wo.heap.size:=(Array.getElem?_eq_some_iff.1 HR.out.2.1).1
      have hM:MgC w wo.heap.size evs (perT evs) [] ar (.slice none 0 0) wo:=⟨rfl,HR.out.1,HR.out.2.1,fun t ht=>by
        obtain⟨u,vs,h1,h2⟩:=HR.out.2.2.1 t ht
        exact⟨u,h1,by rw [perT_get evs ht];exact SufC.of h2⟩,HR.out.2.2.2,rfl,⟨[],rfl,World.ownsRow_nil _ _ _ _,fun i c u h=>by simp at h⟩,(by have:=perT_len evs;show 0+_≤_;omega),hgl0,Nat.le_refl _⟩
      obtain⟨U,hU⟩:∃ U,wo.heap.size=U:=⟨_,rfl⟩
      rw [hU] at hM
      have HM:=Lib.hid hM
      clear HR hM HCL hmk hU hgl0
      go_wp2_with fail
      go_loopg [5] ((perT evs).flatten.length+1) (fun g ov wr=>∃ (ls:List (List Cl)) (o:List Cl) (ar:Array Value),ls.flatten.length+1=g∧Hid (MgC w U evs ls o ar ov wr))
      case atStart=>exact⟨_,_,ar,rfl,HM⟩
      case round=>
        obtain⟨ls,o,ar,hg,HM⟩:=hrel
        obtain⟨we,hwe⟩:∃ x,x=wr:=⟨_,rfl⟩
        subst hwe
        go_wp2_with fail
        go_loopg [23,6] 8 (fun g iv bv wr=>∃ (t:Nat),t+g=8∧iv=.int .i64 t∧bv=.int .i64 (bestV ls t)∧Hid (MgC w U evs ls o ar u5 wr))
        case atStart=>exact⟨0,rfl,rfl,rfl,HM⟩
        case round=>
          obtain⟨t,ht,rfl,rfl,HM2⟩:=hrel
          obtain⟨wi,hwi⟩:∃ x,x=wr:=⟨_,rfl⟩
          subst hwi
          by_cases hlt:t < 8
          · obtain⟨g',rfl⟩:∃ g',gk=g'+1:=⟨gk - 1,by omega⟩
            have hil:(t:Int) < 8:=by omega
            have hwi:wrap64 ((t:Int)+1)=(t:Int)+1:=by unfold wrap64;omega
            obtain⟨hwk,hwk2⟩:=wrap_small (k:=t) (by omega)
            obtain⟨u,hu1,hu2⟩:=HM2.out.2.2.2.1 t hlt
            have hbs:=bestV_succ ls t
            obtain⟨b1,b2,b3⟩:=bestV_spec ls t
            obtain⟨bv,hbv⟩:∃ bv,bestV ls t=bv:=⟨_,rfl⟩
            rw [hbv] at hbs b1 b2 b3
            have ct:wi.cell? ⟨w.heap.size,t,none⟩=some u:=(cell_of_row wi w.heap.size t _ _ _ HM2.out.2.2.1).trans hu1
            cases hl:ls.getD t [] with
            | nil=>
              rw [hl] at hu2 hbs
              obtain⟨vs,A',cap',_,rfl,_⟩:=hu2
              clear b3
              go_wp2_with fail
              go_quiet (fail)
              go_wp2_with fail
              go_roundg g'
              case rel=>exact⟨t+1,by omega,by first | (simp;done) | (simp;exact hwi),by rw [hbs],Lib.hid (HM2.out.drewN nq)⟩
              case measure=>omega
            | cons c r=>
              rw [hl] at hu2 hbs
              obtain⟨g,off,cap',rfl,hcap,hBg,hgl,hS,uu,hcc,_⟩:=hu2.tail
              have k2:wi.cell? ⟨g,off+2,none⟩=some (.int .i64 c.began):=hcc 2 _ rfl
              have hrl:((0:Int) < (r.length:Int)+1):=by omega
              by_cases hneg:bv < 0
              · have hb1:bv = -1:=by omega
                subst hb1
                clear b3 b1 b2 hneg
                go_wp2_with fail
                go_quiet (fail)
                go_wp2_with fail
                go_roundg g'
                case rel=>exact⟨t+1,by omega,by first | (simp;done) | (simp;exact hwi),by rw [hbs];rfl,Lib.hid (HM2.out.drewN nq)⟩
                case measure=>omega
              · obtain⟨j,rfl⟩:=Int.eq_ofNat_of_zero_le (show 0≤bv by omega)
                have hj8:j < 8:=by omega
                have hnej:=b3 (by omega)
                have ej:((j:Nat):Int).toNat=j:=rfl
                rw [ej] at hnej hbs
                obtain⟨v2,hv2,hs2⟩:=HM2.out.2.2.2.1 j hj8
                cases hlj:ls.getD j [] with
                | nil=>exact absurd hlj hnej
                | cons d r2=>
                  rw [hlj] at hs2 hbs
                  obtain⟨g2,off2,cap2,rfl,hcap2,_,_,_,uu2,hcc2,_⟩:=hs2.tail
                  have cj:wi.cell? ⟨w.heap.size,j,none⟩=some (.slice (some ⟨g2,off2,none⟩) (r2.length+1) cap2):=(cell_of_row wi w.heap.size j _ _ _ HM2.out.2.2.1).trans hv2
                  have k2j:wi.cell? ⟨g2,off2+2,none⟩=some (.int .i64 d.began):=hcc2 2 _ rfl
                  have hrl2:((0:Int) < (r2.length:Int)+1):=by omega
                  have hjn:¬((j:Int) < 0):=by omega
                  have hjl:(j:Int) < 8:=by omega
                  obtain⟨hwj,hwj2⟩:=wrap_small (k:=j) (by omega)
                  have hbs2:bestV ls (t+1)=if c.began < d.began then (t:Int) else (j:Int):=by rw [hbs];dsimp only;rw [if_neg hjn];rfl
                  clear b1 b2 b3 hbs hneg hnej hs2 hu2 hcc hcc2
                  by_cases hcd:c.began < d.began
                  · rw [if_pos hcd] at hbs2
                    go_wp2_with fail
                    go_quiet (fail)
                    go_wp2_with fail
                    go_roundg g'
                    case rel=>exact⟨t+1,by omega,by first | (simp;done) | (simp;exact hwi),by rw [hbs2],Lib.hid (HM2.out.drewN nq)⟩
                    case measure=>omega
                  · rw [if_neg hcd] at hbs2
                    have hcf:(c.began < d.began)=False:=eq_false hcd
                    clear hcd
                    go_wp2_with fail
                    go_quiet (fail)
                    go_wp2_with fail
                    go_roundg g'
                    case rel=>exact⟨t+1,by omega,by first | (simp;done) | (simp;exact hwi),by rw [hbs2],Lib.hid (HM2.out.drewN nq)⟩
                    case measure=>omega
          · obtain rfl:t=8:=by omega
            obtain⟨hm1,hm2,hm3,hm4,hm5,hm6,⟨vso,hv1,hv2,hv3⟩,hm8,hm9,hm10⟩:=HM2.out
            have hsp:=bestP_spec ls 8
            have hbv:bestV ls 8=match bestP ls 8 with
              | none => -1
              | some j=>(j:Int):=rfl
            cases hb:bestP ls 8 with
            | none=>
              rw [hb] at hbv
              dsimp only at hbv
              have hfl:ls.flatten=[]:=flat_nil ls (fun t ht=>hsp.2 hb t (by omega))
              have ho:o=callsAll evs:=by rw [←hm6,hfl];rfl
              have HRD:Hid (RdC wi u5 (callsAll evs)):=Lib.hid (by rw [←ho];exact⟨vso,hv1,Rd.of_own hv2,fun i c u h1 h2=>Rd.of_own (hv3 i c u h1 h2).1⟩)
              have HBB:=Lib.hid hm5
              clear hsp hm1 hm2 hm3 hm4 hm5 hm6 hm8 hm9 hm10 hv1 hv2 hv3
              go_wp2_with fail
              go_ret
              exact⟨_,rfl,HRD.out,HBB.out⟩
            | some j=>
              rw [hb] at hbv
              dsimp only at hbv
              obtain⟨hj8,hnej⟩:=hsp.1 j hb
              obtain⟨v2,hj2,hs2⟩:=hm4 j hj8
              cases hlj:ls.getD j [] with
              | nil=>exact absurd hlj hnej
              | cons c r=>
                rw [hlj] at hs2
                obtain⟨g,off,cap2,rfl,hcap2,hBg,hgU,hS,uu,hcc,hin⟩:=hs2.tail
                obtain⟨Au,cu,rfl⟩:∃ Au cu,uu=.slice Au c.inner.length cu:=by
                  rcases hin.1.2 with⟨h1,h2⟩ | ⟨g,cap,cur,h1,_⟩
                  · exact⟨none,0,by rw [h1,h2]⟩
                  · exact⟨_,_,h1⟩
                obtain⟨f1,f2⟩:=flat_set ls j c r hlj
                have cj:wi.cell? ⟨w.heap.size,j,none⟩=some (.slice (some ⟨g,off,none⟩) (r.length+1) cap2):=(cell_of_row wi w.heap.size j _ _ _ hm3).trans hj2
                have q0:wi.cell? ⟨g,off,none⟩=some (.int .i64 c.site):=hcc 0 _ rfl
                have q1:wi.cell? ⟨g,off+1,none⟩=some (.int .i64 c.who):=hcc 1 _ rfl
                have q2:wi.cell? ⟨g,off+2,none⟩=some (.int .i64 c.began):=hcc 2 _ rfl
                have q3:wi.cell? ⟨g,off+3,none⟩=some (.int .i64 c.ended):=hcc 3 _ rfl
                have q4:wi.cell? ⟨g,off+4,none⟩=some (.int .u32 c.res):=hcc 4 _ rfl
                have q5:wi.cell? ⟨g,off+5,none⟩=some (.slice Au c.inner.length cu):=hcc 5 _ rfl
                have hrl:((0:Int) < (r.length:Int)+1):=by omega
                have hjn:¬((j:Int) < 0):=Int.not_lt.2 (Int.natCast_nonneg j)
                have hjl:(j:Int) < 8:=Int.ofNat_lt.2 hj8
                obtain⟨hwj,hwj2⟩:=wrap_small (k:=j) (by clear hin;omega)
                obtain⟨iC,hiC,hC0,hC1,hC2⟩:=info_parts infoCall
                have hcn:=cells_new wi #[.int .i64 c.site,.int .i64 c.who,.int .i64 c.began,.int .i64 c.ended,.int .u32 c.res,.slice Au c.inner.length cu] 61 1 6 (by unfold maxLen;omega) rfl
                have hol:o.length≤8000000:=by omega
                have hgl:w.heap.size < wi.heap.size:=(Array.getElem?_eq_some_iff.1 hm3).1
                have hvo:∀ b,u5.ownBlock=some b→U≤b:=fun b hb=>(hv2.lt b hb).1
                have HJ2:=Lib.hid hj2
                have HALL:=Lib.hid (And.intro hm1 (And.intro hm2 (And.intro hm4 (And.intro hm5 hm6))))
                have HN1:Hid (cap2=1→SufC (w.heap.size+1) U wi (.slice (some ⟨g,off,none⟩) r.length 0) r):=Lib.hid fun e=>by
                  have hr0:r=[]:=List.eq_nil_of_length_eq_zero (by omega)
                  subst hr0
                  exact⟨[],_,0,rfl,rfl,Nat.le_refl _,fun e=>absurd rfl e,fun i c u h=>by simp at h⟩
                have HIN:=Lib.hid (And.intro hin (And.intro hv1 hv3))
                have HF:=Lib.hid (And.intro f1 f2)
                have HSS:=Lib.hid hS
                have H8:=Lib.hid (And.intro hm8 (And.intro hm9 hm10))
                have HV2:=Lib.hid hv2
                have HM3:=Lib.hid hm3
                have HLJ:=Lib.hid hlj
                have HBP:=Lib.hid hb
                have HOB:=Lib.hid (And.intro hol hcap2)
                clear hsp hm1 hm2 hm3 hm4 hm5 hm6 hm8 hv1 hv3 hin f1 f2 hS hs2 hcc hj2 hnej hlj hb hol
                go_wp2_with (at_builtin;refine wpList_append_own_at _ rfl _ _ 57 rfl U 61 iC (.agg #[.int .i64 0,.int .i64 0,.int .i64 0,.int .i64 0,.int .u32 0,.slice none 0 0]) 6 64 Tryz.underlying57 hiC hC0 hC1 hC2 rfl (by decide) u5 o.length _ rfl (hv2.alloc _) ⟨wi.heap.size,0,none⟩ 1 1 [.int .i64 c.site,.int .i64 c.who,.int .i64 c.began,.int .i64 c.ended,.int .u32 c.res,.slice Au c.inner.length cu] rfl rfl hcn (by simp [Value.oneCell']) (by have:=HOB.out.1;unfold maxLen;omega) (by have:=HOB.out.1;omega) (by simp;omega) ?_;intro v' w1 hown' hgrow _ hwhere;obtain⟨g',cap',rfl⟩:=ownsRow_succ hown';have hr1:=(hgrow.block w.heap.size (by simp;omega) (fun e=>by have:=hvo _ e.symm;omega)).trans ((Below.heap_alloc _ _ _ hgl).trans HM3.out);have cj1:w1.cell? ⟨w.heap.size,j,none⟩=some (.slice (some ⟨g,off,none⟩) (r.length+1) cap2):=(cell_of_row w1 w.heap.size j _ _ _ hr1).trans HJ2.out;have fj1:=frozen_of_row w1 w.heap.size j _ _ hr1)
                all_goals
                  have hstep:∀ nv,SufC (w.heap.size+1) U wi nv r→_:=fun nv hnv=>MgC.step (nv:=nv) HM2.out HBP.out HLJ.out hnv HIN.out.1 hgrow hvo vso HIN.out.2.1 HIN.out.2.2 hown'
                  have HST:=Lib.hid hstep
                  clear hstep hgrow hwhere hown' hr1 fj1 cj1
                all_goals go_roundg (ls.flatten.length)
                all_goals first
                  | omega
                  | (have hs:=HST.out _ HSS.out
                     exact⟨_,_,_,hs.2,Lib.hid hs.1⟩)
                  | (have hs:=HST.out _ (HN1.out (by assumption))
                     exact⟨_,_,_,hs.2,Lib.hid hs.1⟩)
end Go.Proofs.YtcnmhgblbikfkaaGreatDoor.As
end

