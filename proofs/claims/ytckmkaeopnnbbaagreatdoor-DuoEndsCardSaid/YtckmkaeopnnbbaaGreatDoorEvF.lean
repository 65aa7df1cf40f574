/- The walks of container/heap's Push and Fix over a row of dues. -/
import Derived.Test.YtckmkaeopnnbbaaGreatDoorEvE
import Derived.Test.YtckmkaeopnnbbaaGreatDoorGr
set_option linter.unusedVariables false
set_option linter.unusedSimpArgs false
set_option maxRecDepth 20000
namespace Go.Proofs.YtckmkaeopnnbbaaGreatDoor.As.T
open Go.RowKit

structure DuO(W:World)(gd base:Nat)(v:Value)(l:List It):Prop where
 hd:W.heap[gd]? = some (.cells #[v] 156 (0,0))
 own:W.ownsRow base 159 3 v l.length (flatI l)
 ne:v.ownBlock≠some gd
 b1:base≤gd
 b2:base≤W.heap.size
theorem DuO.duH{W:World}{gd base:Nat}{v:Value}{l:List It}(h:DuO W gd base v l)(hn:0 < l.length):∃ gs cap,v=duV gs l.length cap∧base≤gs∧gs < W.heap.size∧cap≤maxLen∧DuH W gd gs cap l:=by
 obtain⟨gs,cap,rfl,h1,h2,h3,h4⟩:=du_of_own h.own hn
 exact⟨gs,cap,rfl,h1,h2,h3,h.hd,h4,fun e=>h.ne (by rw [e];rfl)⟩
theorem DuH.duO{W:World}{gd gs cap base:Nat}{l:List It}(h:DuH W gd gs cap l)(hb:base≤gs)(hm:cap≤maxLen)(hg:base≤gd):DuO W gd base (duV gs l.length cap) l:=
 ⟨h.hd,own_of_du h.is hb hm,fun e=>h.ne (Option.some.inj e),hg,by have:=h.lt.1;omega⟩
theorem after_push{w w3:World}{gd base g cap:Nat}{v:Value}{l:List It}{x:It}(h:DuO w gd base v l)(hd3:w3.heap[gd]? = some (.cells #[duV g (l.length+1) cap] 156 (0,0)))(hown3:w3.ownsRow base 159 3 (duV g (l.length+1) cap) (l.length+1) (flatI (l++[x])))(hg3:v.ownBlock=some g∨w.heap.size≤g)(ho3:Only (fun b=>b=gd∨v.ownBlock=some b) w w3):
  ∃ gs cp,base≤gs∧cp≤maxLen∧DuH w3 gd gs cp (l++[x])∧Only (fun b=>base≤b) w w3:=by
 have hl3:(l++[x]).length=l.length+1:=by simp
 rw [←hl3] at hd3 hown3
 have hlt:=(Array.getElem?_eq_some_iff.1 h.hd).1
 have hO:DuO w3 gd base (duV g (l++[x]).length cap) (l++[x]):=⟨hd3,hown3,fun e=>by
  have e2:g=gd:=Option.some.inj e
  rcases hg3 with c | c
  ·exact h.ne (by rw [c,e2])
  ·omega,h.b1,by have:=ho3.size;have:=h.b2;omega⟩
 obtain⟨gs,cp,hv,hb1,hb2,hb3,hD⟩:=hO.duH (by omega)
 refine⟨gs,cp,hb1,hb3,hD,ho3.mono fun k hk=>?_⟩
 rcases hk with e | e
 ·rw [e];exact h.b1
 ·rcases h.own.2 with⟨c,_⟩ | ⟨g',cap',cur,c,hb,_⟩
  ·rw [c] at e;cases e
  ·rw [c] at e
   have:g'=k:=Option.some.inj e
   omega
set_option maxHeartbeats 4000000 in
theorem hpush_any(w:World)(gd base:Nat)(v:Value)(l:List It)(x:It)(h:DuO w gd base v l)(hn:l.length≤99):
  Calls Tryz.prog 90 #[ifV gd,.iface 159 (.agg #[.int .i64 (x.k:Nat),.int .i64 (x.t:Nat),.int .i64 x.due])] w fun e w'=>e=.returned (.tuple #[])∧(∃ v',DuO w' gd base v' (pushP l x))∧Only (fun b=>base≤b) w w':=by
 unfold ifV
 have hp:=push_any w gd base v l x h.hd h.own h.ne h.b2 (by omega)
 have HP:=Lib.hid hp
 have HH:=Lib.hid h
 have HN:=Lib.hid hn
 have mP:=fun W=>m_push gd W
 simp only [tsz] at mP
 have hl3:(l++[x]).length=l.length+1:=by simp
 have HL3:=Lib.hid hl3
 obtain⟨n,hnn⟩:∃ n,l.length=n:=⟨_,rfl⟩
 obtain⟨n1,hn1⟩:∃ n1,(l++[x]).length=n1:=⟨_,rfl⟩
 have hw:wrap64 ((n1:Int) - 1)=(n:Nat):=by unfold wrap64;omega
 have HNN:=Lib.hid (And.intro hnn hn1)
 clear hp h hn hl3 hnn hn1
 go_enter Tryz.func90,Tryz.ntmps90
 go_wp2_with (first | (go_at_call 191;refine (HP.out).mono ?_;clear HP;rintro r w3 ⟨rfl,g,cap,hd3,hown3,hg3,hlt3,ho3⟩;obtain⟨gs,cp,hb1,hb3,hD,hO3⟩:=after_push HH.out hd3 hown3 hg3 ho3;have mL:=hD.len;rw [tsz] at mL;have hlen:=fun W=>len_any W gs (l++[x]).length cp;have hup:=up_any w3 gd gs cp (l++[x]) n hD (by have:=HNN.out;have:=HL3.out;omega) (by have:=HN.out;have:=HL3.out;omega);rw [HNN.out.2] at mL hlen;unfold ifV at hup;have HD:=Lib.hid (And.intro hD (And.intro hb1 hb3));have HO3:=Lib.hid hO3;have HLEN:=Lib.hid hlen;have HUP:=Lib.hid hup;clear hd3 hown3 hg3 hlt3 ho3 hO3 hb1 hb3 hD hlen hup) | (go_at_call 189;refine (HLEN.out _).mono ?_;rintro r w4 ⟨rfl,rfl⟩) | (go_at_call 137;refine (HUP.out).mono ?_;rintro r w5 ⟨rfl,hD5,ho5⟩;have HD5:=Lib.hid hD5;have HO5:=Lib.hid ho5;clear hD5 ho5))
 go_end0
 obtain⟨hD,hb1,hb3⟩:=HD.out
 have e:upP (n+1) (l++[x]) n=pushP l x:=by unfold pushP;rw [HNN.out.1]
 have h5:=HD5.out
 rw [e] at h5
 exact⟨rfl,⟨_,h5.duO hb1 hb3 HH.out.b1⟩,HO3.out.trans HO5.out (fun k hk=>.inl (by rw [hk];exact hb1))⟩
theorem fixP_eq{l:List It}{i:Nat}(h:HeapP (downP l.length l i l.length).1)(hi:i < l.length):(if i < (downP l.length l i l.length).2 then (downP l.length l i l.length).1 else upP (i+1) (downP l.length l i l.length).1 i)=(downP l.length l i l.length).1:=by
 split
 ·rfl
 ·unfold upP
  rw [if_pos]
  by_cases e:i=0
  ·subst e;exact .inl rfl
  ·refine .inr (Int.not_lt.2 (h i (by omega) (by rw [downP_len];exact hi)))
set_option maxHeartbeats 4000000 in
theorem hfix_any(w:World)(gd gs cap:Nat)(l:List It)(i:Nat)(h:DuH w gd gs cap l)(hi:i < l.length)(hn:l.length≤100):
  Calls Tryz.prog 91 #[ifV gd,.int .i64 (i:Nat)] w fun e w'=>e=.returned (.tuple #[])∧DuH w' gd gs cap (if i < (downP l.length l i l.length).2 then (downP l.length l i l.length).1 else upP (i+1) (downP l.length l i l.length).1 i)∧Only (fun b=>b=gs) w w':=by
 have mL:=h.len
 rw [tsz] at mL
 have hlen:=fun W=>len_any W gs l.length cap
 have hdn:=down_any w gd gs cap l i h hi hn
 unfold ifV at hdn ⊢
 have HLEN:=Lib.hid hlen
 have HDN:=Lib.hid hdn
 have HI:=Lib.hid (And.intro hi hn)
 clear hlen hdn h hi hn
 by_cases hc:i < (downP l.length l i l.length).2
 ·have HC:=Lib.hid hc
  rw [if_pos hc]
  clear hc
  go_enter Tryz.func91,Tryz.ntmps91
  go_wp2_with (first | (go_at_call 189;refine (HLEN.out _).mono ?_;rintro r w4 ⟨rfl,rfl⟩) | (go_at_call 138;refine (HDN.out).mono ?_;rintro r w5 ⟨b,rfl,hb,hD5,ho5⟩;obtain rfl:=hb.2 HC.out;have HD5:=Lib.hid hD5;have HO5:=Lib.hid ho5;clear hb hD5 ho5))
  go_end0
  exact⟨rfl,HD5.out,HO5.out⟩
 ·have HC:=Lib.hid hc
  rw [if_neg hc]
  clear hc
  go_enter Tryz.func91,Tryz.ntmps91
  go_wp2_with (first | (go_at_call 189;refine (HLEN.out _).mono ?_;rintro r w4 ⟨rfl,rfl⟩) | (go_at_call 138;refine (HDN.out).mono ?_;rintro r w5 ⟨b,rfl,hb,hD5,ho5⟩;obtain rfl:b=false:=(by cases b;rfl;exact absurd (hb.1 rfl) HC.out);have hup:=up_any w5 gd gs cap _ i hD5 (by rw [downP_len];exact HI.out.1) (by rw [downP_len];exact HI.out.2);unfold ifV at hup;have HUP:=Lib.hid hup;have HO5:=Lib.hid ho5;clear hb hD5 ho5 hup) | (go_at_call 137;refine (HUP.out).mono ?_;rintro r w6 ⟨rfl,hD6,ho6⟩;have HD6:=Lib.hid hD6;have HO6:=Lib.hid ho6;clear hD6 ho6))
  go_end0
  exact⟨rfl,HD6.out,HO5.out.trans HO6.out (fun k f=>.inl f)⟩
end Go.Proofs.YtckmkaeopnnbbaaGreatDoor.As.T
