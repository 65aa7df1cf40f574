/- The law QueueEnds. -/
import Derived.Test.YtckmkaeopnnbbaaGreatDoorNL
import Derived.Test.YtckmkaeopnnbbaaGreatDoorEhQ
set_option linter.unusedVariables false
set_option linter.unusedSimpArgs false
set_option maxRecDepth 20000
namespace Go.Proofs.YtckmkaeopnnbbaaGreatDoor.As.T
open Go.RowKit

theorem wr_k64{x:Int}(h0:0≤x)(h1:x≤1000000):IntKind.i64.wrap x=x:=by rw [IntKind.wrap_i64];omega

theorem Ends1_any(W:World)(k n a b th rr mm ww:Int)(f sv:Value)(h:∀ V,Below W.heap.size W V→Calls Tryz.prog 29 #[.agg #[.int .i64 k,.int .i64 n,.int .i64 a,.int .i64 b],.int .i64 th,.int .i64 rr,.int .i64 mm,f,sv,.int .i64 ww] V fun e w'=>e=.returned (.bool true)∧Below V.heap.size V w'):
  Calls Tryz.prog 32 #[.agg #[.int .i64 k,.int .i64 n,.int .i64 a,.int .i64 b],.int .i64 th,.int .i64 rr,.int .i64 mm,f,sv,.int .i64 ww] W fun e w'=>e=.returned (.int .i64 1)∧Below W.heap.size W w':=by
 have hB0:Below W.heap.size W (W.alloc (.cells #[.int .i64 k,.int .i64 n,.int .i64 a,.int .i64 b] 27)):=(Below.refl _ W).alloc (Nat.le_refl _) _
 have h0:=h _ hB0
 go_enter Tryz.func32,Tryz.ntmps32
 go_wp2_with (go_at_call 29;refine h0.mono ?_;rintro e w1 ⟨rfl,hb1⟩)
 refine (truth_any _).mono ?_;rintro e w2 ⟨rfl,rfl⟩
 go_wp2_with fail
 go_ret
 exact⟨rfl,hB0.trans (hb1.mono hB0.size)⟩
set_option maxHeartbeats 1000000 in
theorem ends16(W:World)(TI:TabI W)(TO:TabO W)(k T R M w0:Nat)(hww:4*T≤w0∧w0≤1000)(hk:k=4∨k=5)(hT:1≤T∧T≤4)(hR:1≤R∧R≤3)(hM:1≤M∧M≤4)(bo bt:Nat)(ho:W.heap[bo]? = some (.cells #[.int .i64 (k:Int),.int .i64 0,.int .i64 0,.int .i64 0] 27 (0,0)))(hbt:W.heap[bt]? = some (.cells #[.int .i64 (T:Int)] 3 (0,0)))(sv:Value)(bs:List Nat)(hs:Rd W 1 sv bs.length (u8s bs))(hb:∀ b∈bs,b≤255)(hn:bs.length≤100000):
  Calls Tryz.prog 32 #[.agg #[.int .i64 (k:Int),.int .i64 0,.int .i64 0,.int .i64 0],.int .i64 T,.int .i64 R,.int .i64 M,.func (.func 37) #[] #[.pointer (some ⟨bo,0,none⟩),.pointer (some ⟨bt,0,none⟩)],sv,.int .i64 (w0:Nat)] W fun e w'=>e=.returned (.int .i64 1)∧Below W.heap.size W w':=by
 have hgo:=que_ends k T R M hk (by omega) hT.2 hR.1 hR.2 (by omega) w0 (bs.map pickB) hww.1
 obtain⟨q,hq⟩:=k_finq hk
 refine Ends1_any W k 0 0 0 T R M w0 _ _ (fun V hV=>?_)
 have ti:=TI.below hV (Nat.le_refl _)
 have to_:=TO.below hV (Nat.le_refl _)
 have k1:=(hV.block bo (Array.getElem?_eq_some_iff.1 ho).1).trans ho
 have k2:=(hV.block bt (Array.getElem?_eq_some_iff.1 hbt).1).trans hbt
 obtain⟨m1,m2,m3⟩:=mem_qu q ⟨T,by omega⟩
 rw [←hq] at m1 m2 m3
 exact ends_any V ti k 0 0 0 T R M w0 37 #[.pointer (some ⟨bo,0,none⟩),.pointer (some ⟨bt,0,none⟩)] (lim (quF k T)) (lim (quG k T)) (quM k T) sv bs
  (fun t ht W' hW'=>qu1 V ti to_ k T t hk hT.2 ht bo bt k1 k2 W' hW')
  (fun t ht W' hW'=>qu2 V ti to_ k T t hk hT.2 ht bo bt k1 k2 W' hW')
  (fun W' hW'=>quFirst V to_ k T hk hT W' hW')
  (fun args w=>enters_of Tryz.func37 (by kernel_rfl) rfl args w) m1 m2 m3 (by omega) (by omega) (by omega) (by omega) (by omega) (by omega) (short_of (fun t=>by rw [hq];exact (short_qu q ⟨T,by omega⟩ t).1)) (short_of (fun t=>by rw [hq];exact (short_qu q ⟨T,by omega⟩ t).2)) (codes_of (fun r t=>by rw [hq];exact fine_qu q ⟨T,by omega⟩ r t) hT.2 hR.1 (by omega)) (hs.below hV (Nat.le_refl _)) hb hn hww.1 hww.2 hgo
set_option maxHeartbeats 4000000 in
theorem queueEnds_any(w:World)(TI:TabI w)(TO:TabO w)(x0 x1 x2 x3:Int)(h0:0≤x0∧x0≤255)(h1:0≤x1∧x1≤255)(h2:0≤x2∧x2≤255)(h3:0≤x3∧x3≤255)(Ad:Option Addr)(cap:Nat)(bs:List Nat)(hl:bs.length≤maxLen)(hs:Rd w 1 (.slice Ad bs.length cap) bs.length (u8s bs))(hb:∀ b∈bs,b≤255)(m0:Int)(hm0:0≤m0∧m0≤255):
  Calls Tryz.prog 10 #[.agg #[.int .u8 x0,.int .u8 x1,.int .u8 x2,.int .u8 x3],.slice Ad bs.length cap,.int .u8 m0] w fun e w'=>e=.returned (.bool true)∧Below w.heap.size w w':=by
 obtain⟨T,hT⟩:∃ T:Nat,1+x1 % 4=(T:Int):=⟨(1+x1 % 4).toNat,by omega⟩
 obtain⟨k,hk⟩:∃ k:Nat,4+x0 % 2=(k:Int):=⟨(4+x0 % 2).toNat,by omega⟩
 have hk2:k=4∨k=5:=by omega
 obtain⟨R,hR⟩:∃ R:Nat,1+x2 % 3=(R:Int):=⟨(1+x2 % 3).toNat,by omega⟩
 obtain⟨M,hM⟩:∃ M:Nat,1+x3 % 4=(M:Int):=⟨(1+x3 % 4).toNat,by omega⟩
 have hT4:1≤T∧T≤4:=by omega
 have hR4:1≤R∧R≤3:=by omega
 have hM5:1≤M∧M≤4:=by omega
 obtain⟨t4,ht4⟩:∃ t4,4*(T:Int)=t4:=⟨_,rfl⟩
 obtain⟨w0,hw0⟩:∃ w0:Nat,t4+m0=(w0:Int):=⟨(t4+m0).toNat,by omega⟩
 have hww9:4*T≤w0∧w0≤1000:=by omega
 have n1:0≤t4∧t4≤1000000∧0≤(w0:Int)∧(w0:Int)≤1000000:=by omega
 have e1:IntKind.i64.wrap (4*(T:Int))=t4:=by rw [ht4];exact wr_k64 n1.1 n1.2.1
 have e2:IntKind.i64.wrap m0=m0:=wr_k64 hm0.1 (by omega)
 have e3:IntKind.i64.wrap (t4+m0)=(w0:Int):=by rw [hw0];exact wr_k64 n1.2.2.1 n1.2.2.2
 have haw:=fun W (hW:Below w.heap.size w W)=>awake16_any W (TI.below hW (Nat.le_refl _)) (TO.below hW (Nat.le_refl _))
 have hob:=fun W=>object16 W x0 x1 x2 x3 h0 h1 h2 h3
 rw [hT,hk,hR,hM] at hob
 have HAL:Hid (∀ W,Below w.heap.size w W→bs.length≤3000→∀ bo bt,W.heap[bo]? = some (.cells #[.int .i64 (k:Int),.int .i64 0,.int .i64 0,.int .i64 0] 27 (0,0))→W.heap[bt]? = some (.cells #[.int .i64 (T:Int)] 3 (0,0))→Calls Tryz.prog 32 #[.agg #[.int .i64 (k:Int),.int .i64 0,.int .i64 0,.int .i64 0],.int .i64 (T:Int),.int .i64 R,.int .i64 M,.func (.func 37) #[] #[.pointer (some ⟨bo,0,none⟩),.pointer (some ⟨bt,0,none⟩)],.slice Ad bs.length cap,.int .i64 (w0:Nat)] W fun e w'=>e=.returned (.int .i64 1)∧Below W.heap.size W w'):=
  Lib.hid fun W hW hn bo bt ho hbt=>ends16 W (TI.below hW (Nat.le_refl _)) (TO.below hW (Nat.le_refl _)) k T R M w0 hww9 hk2 hT4 hR4 hM5 bo bt ho hbt _ bs (hs.below hW (Nat.le_refl _)) hb (by omega)
 obtain⟨n,hn⟩:∃ n:Nat,bs.length=n:=⟨_,rfl⟩
 rw [hn] at HAL hl ⊢
 clear hs hb hT hk hk2 hR hM hT4 hR4 hM5 ht4 hw0 hww9 hm0 n1
 have HL:=Lib.hid hl
 have HAW:=Lib.hid haw
 have HOB:=Lib.hid hob
 clear hl haw hob TI TO hn h0 h1 h2 h3
 go_enter Tryz.func10,Tryz.ntmps10
 have hB0:Below w.heap.size w (w.alloc (.cells #[.int .u8 x0,.int .u8 x1,.int .u8 x2,.int .u8 x3] 23)):=(Below.refl _ w).alloc (Nat.le_refl _) _
 go_wp2_with (first
  | (go_at_call 11;refine (HAW.out _ hB0).mono ?_;rintro r w1 ⟨rfl,hb1⟩;have c0:w1.cell? ⟨w.heap.size,0,none⟩=some (.int .u8 x0):=cell_of_row w1 _ 0 _ _ _ ((hb1.block w.heap.size (by simp)).trans (heap_alloc_new _ _));have c1:w1.cell? ⟨w.heap.size,1,none⟩=some (.int .u8 x1):=cell_of_row w1 _ 1 _ _ _ ((hb1.block w.heap.size (by simp)).trans (heap_alloc_new _ _));have c2:w1.cell? ⟨w.heap.size,2,none⟩=some (.int .u8 x2):=cell_of_row w1 _ 2 _ _ _ ((hb1.block w.heap.size (by simp)).trans (heap_alloc_new _ _));have c3:w1.cell? ⟨w.heap.size,3,none⟩=some (.int .u8 x3):=cell_of_row w1 _ 3 _ _ _ ((hb1.block w.heap.size (by simp)).trans (heap_alloc_new _ _));have hB1:Hid (Below w.heap.size w w1):=Lib.hid (hB0.trans (hb1.mono (by simp)));clear hb1)
  | (go_at_call 11;refine (HAW.out _ hB1.out).mono ?_;rintro r w2 ⟨rfl,hb2⟩)
  | (go_at_call 12;refine (HOB.out _).mono ?_;rintro r w2 ⟨rfl,hb2⟩))
 ·go_ret
  exact⟨rfl,hB1.out.trans (hb2.mono hB1.out.size)⟩
 have hB2:Below w.heap.size w w2:=hB1.out.trans (hb2.mono hB1.out.size)
 obtain⟨WR,hWR⟩:∃ WR,(w2.alloc (.cells #[.int .i64 (k:Int),.int .i64 0,.int .i64 0,.int .i64 0] 27))=WR:=⟨_,rfl⟩
 have hO:WR.heap[w2.heap.size]? = some (.cells #[.int .i64 (k:Int),.int .i64 0,.int .i64 0,.int .i64 0] 27 (0,0)):=by rw [←hWR];exact heap_alloc_new _ _
 have hBR:Below w.heap.size w WR:=by rw [←hWR];exact hB2.alloc hB2.size _
 rw [hWR]
 clear hWR c0 c1 c2 c3 hb2 hB0 hB1 HAW HOB
 have hm:=maker16_any WR.drew k 0 0 0 T
 have hq:=HAL.out ((WR.drew.alloc (.cells #[.int .i64 (k:Int),.int .i64 0,.int .i64 0,.int .i64 0] 27)).alloc (.cells #[.int .i64 (T:Int)] 3)) (((bl_drew hBR).alloc (by have:=hBR.size;simpa using this) _).alloc (by have:=hBR.size;simp;omega) _) (by omega) WR.heap.size (WR.heap.size+1) (at_alloc (at_new rfl)) (at_new (by simp))
 clear HAL
 have S0:WR.drew.heap[w2.heap.size]? = some (.cells #[.int .i64 (k:Int),.int .i64 0,.int .i64 0,.int .i64 0] 27 (0,0)):=hO
 have HBR:=Lib.hid hBR
 clear hO hBR hB2
 refine wp_region_g (fun W=>W.heap[w2.heap.size]? = some (.cells #[.int .i64 (k:Int),.int .i64 0,.int .i64 0,.int .i64 0] 27 (0,0))) 99 (by kernel_rfl) ?_
 refine AnyG_take (i:=0) (oi:=_) (v:=?_) rfl (by kernel_rfl) (fun _ _ _ h=>h) (Or.inl ⟨by rfl,?_⟩) S0 ?_
 rotate_left
 ·intro W hSw;obtain⟨s0,s1,s2,s3⟩:=cellsQ4 hSw;clear hSw;go_simp;first | done | with_reducible rfl
 simp only [Act.put,Zq1,Zq2,Zq3,Zq4,Zq5,Zq6]
 refine AnyG_take (i:=1) (oi:=_) (v:=?_) rfl (by kernel_rfl) (fun _ _ _ h=>h) (Or.inl ⟨by rfl,?_⟩) S0 ?_
 rotate_left
 ·intro W hSw;obtain⟨s0,s1,s2,s3⟩:=cellsQ4 hSw;clear hSw;go_simp;first | done | with_reducible rfl
 simp only [Act.put,Zq1,Zq2,Zq3,Zq4,Zq5,Zq6]
 refine AnyG_take (i:=2) (oi:=_) (v:=?_) rfl (by kernel_rfl) (fun _ _ _ h=>h) (Or.inl ⟨by rfl,?_⟩) S0 ?_
 rotate_left
 ·intro W hSw;obtain⟨s0,s1,s2,s3⟩:=cellsQ4 hSw;clear hSw;go_simp;first | done | with_reducible rfl
 simp only [Act.put,Zq1,Zq2,Zq3,Zq4,Zq5,Zq6]
 refine AnyG_take (i:=3) (oi:=_) (v:=?_) rfl (by kernel_rfl) (fun _ _ _ h=>h) (Or.inl ⟨by rfl,?_⟩) S0 ?_
 rotate_left
 ·intro W hSw;obtain⟨s0,s1,s2,s3⟩:=cellsQ4 hSw;clear hSw;go_simp;first | done | with_reducible rfl
 simp only [Act.put,Zq1,Zq2,Zq3,Zq4,Zq5,Zq6]
 refine AnyG_take (i:=4) (oi:=_) (v:=?_) rfl (by kernel_rfl) (fun _ _ _ h=>h) (Or.inl ⟨by rfl,?_⟩) S0 ?_
 rotate_left
 ·intro W hSw;obtain⟨s0,s1,s2,s3⟩:=cellsQ4 hSw;clear hSw;go_simp;first | done | with_reducible rfl
 simp only [Act.put,Zq1,Zq2,Zq3,Zq4,Zq5,Zq6]
 refine AnyG_take (i:=5) (oi:=_) (v:=?_) rfl (by kernel_rfl) (fun _ _ _ h=>h) (Or.inl ⟨by rfl,?_⟩) S0 ?_
 rotate_left
 ·intro W hSw;obtain⟨s0,s1,s2,s3⟩:=cellsQ4 hSw;clear hSw;go_simp;first | done | with_reducible rfl
 simp only [Act.put,Zq1,Zq2,Zq3,Zq4,Zq5,Zq6]
 refine AnyG_take (i:=7) (oi:=_) (v:=?_) rfl (by kernel_rfl) (fun _ _ _ h=>h) (Or.inl ⟨by rfl,?_⟩) S0 ?_
 rotate_left
 ·intro W hSw;obtain⟨s0,s1,s2,s3⟩:=cellsQ4 hSw;clear hSw;go_simp;first | done | with_reducible rfl
 simp only [Act.put,Zq1,Zq2,Zq3,Zq4,Zq5,Zq6]
 refine AnyG_take (i:=8) (oi:=_) (v:=?_) rfl (by kernel_rfl) (fun _ _ _ h=>h) (Or.inl ⟨by rfl,?_⟩) S0 ?_
 rotate_left
 ·intro W hSw;obtain⟨s0,s1,s2,s3⟩:=cellsQ4 hSw;clear hSw;go_simp;first | done | with_reducible rfl
 simp only [Act.put,Zq1,Zq2,Zq3,Zq4,Zq5,Zq6]
 refine AnyG_take (i:=9) (oi:=_) (v:=?_) rfl (by kernel_rfl) (fun _ _ _ h=>h) (Or.inl ⟨by rfl,?_⟩) S0 ?_
 rotate_left
 ·intro W hSw;obtain⟨s0,s1,s2,s3⟩:=cellsQ4 hSw;clear hSw;go_simp;first | done | with_reducible rfl
 simp only [Act.put,Zq1,Zq2,Zq3,Zq4,Zq5,Zq6]
 refine AnyG_take (i:=10) (oi:=_) (v:=?_) rfl (by kernel_rfl) (fun _ _ _ h=>h) (Or.inl ⟨by rfl,?_⟩) S0 ?_
 rotate_left
 ·intro W hSw;obtain⟨s0,s1,s2,s3⟩:=cellsQ4 hSw;clear hSw;go_simp;first | done | with_reducible rfl
 simp only [Act.put,Zq1,Zq2,Zq3,Zq4,Zq5,Zq6]
 refine AnyG_take (i:=11) (oi:=_) (v:=?_) rfl (by kernel_rfl) (fun _ _ _ h=>h) (Or.inl ⟨by rfl,?_⟩) S0 ?_
 rotate_left
 ·intro W hSw;obtain⟨s0,s1,s2,s3⟩:=cellsQ4 hSw;clear hSw;go_simp;first | done | with_reducible rfl
 simp only [Act.put,Zq1,Zq2,Zq3,Zq4,Zq5,Zq6]
 refine AnyG_take (i:=12) (oi:=_) (v:=?_) rfl (by kernel_rfl) (fun _ _ _ h=>h) (Or.inl ⟨by rfl,?_⟩) S0 ?_
 rotate_left
 ·intro W hSw;obtain⟨s0,s1,s2,s3⟩:=cellsQ4 hSw;clear hSw;go_simp;first | done | with_reducible rfl
 simp only [Act.put,Zq1,Zq2,Zq3,Zq4,Zq5,Zq6]
 refine AnyG_one (i:=6) rfl (by kernel_rfl) ?_
 refine wpOp_of rfl rfl ?_
 try simp only [Act.put,Zq1,Zq2,Zq3,Zq4,Zq5,Zq6]
 go_simp
 refine hm.mono ?_
 rintro _ w3 ⟨rfl,hw3⟩
 subst hw3
 have S1:((WR.drew.alloc (.cells #[.int .i64 (k:Int),.int .i64 0,.int .i64 0,.int .i64 0] 27)).alloc (.cells #[.int .i64 (T:Int)] 3)).heap[w2.heap.size]? = some (.cells #[.int .i64 (k:Int),.int .i64 0,.int .i64 0,.int .i64 0] 27 (0,0)):=at_alloc (at_alloc S0)
 refine⟨S1,?_⟩
 try simp only [Act.put,Zq1,Zq2,Zq3,Zq4,Zq5,Zq6]
 refine AnyG_one (i:=13) rfl (by kernel_rfl) ?_
 refine wpOp_of rfl rfl ?_
 try simp only [Act.put,Zq1,Zq2,Zq3,Zq4,Zq5,Zq6]
 go_simp
 refine hq.mono ?_
 rintro _ w4 ⟨rfl,hb4⟩
 have S2:w4.heap[w2.heap.size]? = some (.cells #[.int .i64 (k:Int),.int .i64 0,.int .i64 0,.int .i64 0] 27 (0,0)):=(hb4.block _ (Array.getElem?_eq_some_iff.1 S1).1).trans S1
 refine⟨S2,?_⟩
 try simp only [Act.put,Zq1,Zq2,Zq3,Zq4,Zq5,Zq6]
 refine AnyG_take (i:=14) (oi:=_) (v:=?_) rfl (by kernel_rfl) (fun _ _ _ h=>h) (Or.inl ⟨by rfl,?_⟩) S2 ?_
 rotate_left
 ·intro W hSw;obtain⟨s0,s1,s2,s3⟩:=cellsQ4 hSw;clear hSw;go_simp;first | done | with_reducible rfl
 simp only [Act.put,Zq1,Zq2,Zq3,Zq4,Zq5,Zq6]
 refine AnyG_one (i:=15) rfl (by kernel_rfl) ?_
 refine wpOp_of rfl rfl ?_
 try simp only [Act.put,Zq1,Zq2,Zq3,Zq4,Zq5,Zq6]
 go_simp
 try simp only [Act.put,Zq1,Zq2,Zq3,Zq4,Zq5,Zq6]
 refine AnyG_done (by kernel_rfl) ?_ _
 go_wp2_with fail
 go_ret
 have hBR:=HBR.out
 exact⟨rfl,(((bl_drew hBR).alloc (by have:=hBR.size;simpa using this) _).alloc (by have:=hBR.size;simp;omega) _).trans (hb4.mono (by have:=hBR.size;simp;omega))⟩
end Go.Proofs.YtckmkaeopnnbbaaGreatDoor.As.T
