/- The loops of DuoBypass: the outer one. -/
import Derived.Test.YtckmkaeopnnbbaaGreatDoorDbD
set_option linter.unusedVariables false
set_option linter.unusedSimpArgs false
set_option maxRecDepth 100000
namespace Go.Proofs.YtckmkaeopnnbbaaGreatDoor.As
open Go.RowKit

noncomputable def outBody : Code := ((Tryz.f5).body.bind firstLoop).getD .skip
set_option maxHeartbeats 16000000 in
/-- The outer loop: nobody is passed twice. -/
theorem out_loop {Q0 : Exit → Act → World → Prop} (w8 : World) (evs : List Ev) (L : List Cl) (Ac Ae : Option Addr) (cc ce NE C : Nat)
    (HAT : Hid (0 < C → ∃ b off, Ac = some ⟨b, off, none⟩ ∧ b < w8.heap.size ∧ ∀ (i : Nat) (c : Cl), L[i]? = some c → ∃ Au cu, CallAt w8 b off i c Au cu)) (HEV : Hid (Rd w8 8 (.slice Ae NE ce) NE (flatE evs))) (HC : Hid (L.length = C)) (HNE : Hid (evs.length = NE)) (HBY : Hid (bypP evs L ∧ ∀ c, c ∈ L → inB NE c)) (HIN : Hid (∀ c, c ∈ L → c.inner.length ≤ 6000)) (HSZ : Hid (NE ≤ 6000 ∧ C ≤ 8 * 6000 ∧ C ≤ 8 * NE))
    (v0 v1 v2 v3 v4 v5 v6 v7 v8 v9 v10 v11 v15 v16 v17 v18 v19 v20 v21 v22 v23 v24 v25 v26 v27 v28 v29 v30 v31 v32 v33 v34 v35 v36 v37 v38 v39 v40 v41 v42 v43 v44 v45 v46 v47 v48 v49 v50 v51 v52 v53 v54 v55 v56 v57 v58 v59 v60 v61 v62 v63 v64 v65 v66 v67 v68 v69 v70 v71 v72 v73 v74 v75 v76 v77 v78 v79 v80 v81 v82 v83 v84 v85 v86 v87 v88 v89 v90 v91 v92 v93 v94 v95 v96 v97 v98 v99 v100 v101 v102 v103 v104 v105 v106 v107 v108 v109 v110 v111 v112 v113 v114 v115 v116 v117 v118 v119 v120 v121 v122 v123 v124 v125 v126 v127 v128 v129 v130 v131 v132 v133 v134 v135 v136 v137 v138 v139 v140 v141 v142 v143 v144 v145 v146 v147 v148 v149 v150 v151 v152 v153 v154 v155 v156 v157 v158 v159 v160 v161 v162 v163 v164 : Value)
    (hexit : ∀ (u4 u14 u15 u16 u17 u18 u19 u67 u68 u69 u70 u71 u72 u73 u74 u75 u76 u77 u78 u79 u80 u81 u82 u83 u84 u85 u86 u87 u88 u89 u90 u91 u92 u93 u94 u95 u96 u97 u98 u99 u100 u101 u102 u103 u104 u105 u106 u107 u108 u109 u110 u111 u112 u113 u114 u115 u116 u117 u118 u119 u120 u121 u122 u123 u124 u125 u126 u127 u128 u129 u130 u131 u132 u133 u134 u135 u136 u137 u138 u139 u140 u141 u142 u143 u144 u145 u146 u147 u148 u149 u150 u151 u152 u153 u154 u155 u156 u157 u158 u159 u160 u161 u162 u163 u164 : Value) (w' : World), Below w8.heap.size w8 w' → Q0 (.exit 0) ⟨#[v0, v1, v2, v3, u4, v5, v6, v7, v8, v9, v10, v11, .slice Ae NE ce, .slice Ac C cc, u14, u15, u16, u17, u18, u19, v20, v21, v22, v23, v24, v25, v26, v27, v28, v29, v30, v31, v32, v33, v34, v35, v36, v37, v38, v39, v40, v41, v42, v43, v44, v45, v46, v47, v48, v49, v50, v51, v52, v53, v54, v55, v56, v57, v58, v59, v60, v61, v62, v63, v64, v65, v66, u67, u68, u69, u70, u71, u72, u73, u74, u75, u76, u77, u78, u79, u80, u81, u82, u83, u84, u85, u86, u87, u88, u89, u90, u91, u92, u93, u94, u95, u96, u97, u98, u99, u100, u101, u102, u103, u104, u105, u106, u107, u108, u109, u110, u111, u112, u113, u114, u115, u116, u117, u118, u119, u120, u121, u122, u123, u124, u125, u126, u127, u128, u129, u130, u131, u132, u133, u134, u135, u136, u137, u138, u139, u140, u141, u142, u143, u144, u145, u146, u147, u148, u149, u150, u151, u152, u153, u154, u155, u156, u157, u158, u159, u160, u161, u162, u163, u164], []⟩ w') :
    (Code.loop outBody).wp Tryz.prog Q0 ⟨#[v0, v1, v2, v3, v4, v5, v6, v7, v8, v9, v10, v11, .slice Ae NE ce, .slice Ac C cc, .int .i64 0, v15, v16, v17, v18, v19, v20, v21, v22, v23, v24, v25, v26, v27, v28, v29, v30, v31, v32, v33, v34, v35, v36, v37, v38, v39, v40, v41, v42, v43, v44, v45, v46, v47, v48, v49, v50, v51, v52, v53, v54, v55, v56, v57, v58, v59, v60, v61, v62, v63, v64, v65, v66, v67, v68, v69, v70, v71, v72, v73, v74, v75, v76, v77, v78, v79, v80, v81, v82, v83, v84, v85, v86, v87, v88, v89, v90, v91, v92, v93, v94, v95, v96, v97, v98, v99, v100, v101, v102, v103, v104, v105, v106, v107, v108, v109, v110, v111, v112, v113, v114, v115, v116, v117, v118, v119, v120, v121, v122, v123, v124, v125, v126, v127, v128, v129, v130, v131, v132, v133, v134, v135, v136, v137, v138, v139, v140, v141, v142, v143, v144, v145, v146, v147, v148, v149, v150, v151, v152, v153, v154, v155, v156, v157, v158, v159, v160, v161, v162, v163, v164], []⟩ w8 := by
  conv =>
    arg 2
    arg 1
    whnf
  dsimp only
  have HEX := Lib.hid hexit
  clear hexit
  go_loopg [14] (C + 1) (fun g iv wr => ∃ (i : Nat), i + g = C + 1 ∧ i ≤ C ∧ iv = .int .i64 i ∧ Hid (Below w8.heap.size w8 wr))
  case atStart => exact ⟨0, by omega, by omega, rfl, Lib.hid (Below.refl _ _)⟩
  case round =>
    obtain ⟨i, hi, hin, rfl, HR⟩ := hrel
    obtain ⟨wo, hwo⟩ : ∃ x, x = wr := ⟨_, rfl⟩
    subst hwo
    obtain ⟨g', rfl⟩ : ∃ g', gk = g' + 1 := ⟨gk - 1, by omega⟩
    by_cases hlt : i < C
    · have hil : (i : Int) < (C : Int) := by omega
      have hC48 : C ≤ 48000 := by have := HSZ.out.2.1; omega
      have hN0 : 0 < NE := by have := HSZ.out.2.2; omega
      have hwi : wrap64 ((i : Int) + 1) = (i : Int) + 1 := by unfold wrap64; omega
      obtain ⟨c, hc⟩ : ∃ c, L[i]? = some c := ⟨_, List.getElem?_eq_getElem (by rw [HC.out]; exact hlt)⟩
      have hC0 : 0 < C := by omega
      obtain ⟨b, off, rfl, _, hat⟩ := HAT.out hC0
      obtain ⟨b0, ofe, rfl, _, hev⟩ := (HEV.out.below HR.out (Nat.le_refl _)).cells hN0
      obtain ⟨Au, cu, xi⟩ := hat i c hc
      have hcm := List.mem_of_getElem? hc
      obtain ⟨n, hn⟩ : ∃ n, c.inner.length = n := ⟨_, rfl⟩
      have hnb := HIN.out c hcm
      rw [hn] at hnb
      have hib := HBY.out.2 c hcm
      obtain ⟨fa, hfa⟩ : ∃ fa, fenP evs c = fa := ⟨_, rfl⟩
      have hle : c.site = 0 → ¬ fa < 0 → L.countP (passP c fa) ≤ 1 := fun h0 h1 => by
        have h := HBY.out.1 c hcm h0 (by rw [hfa]; omega)
        rwa [hfa] at h
      obtain ⟨x0, x1, x2, x3, x4, x5, xr⟩ := xi.below HR.out (Nat.le_refl _)
      rw [hn] at x5 xr
      have h1m : i ≤ 1000000 := by omega
      obtain ⟨hv1, hv2⟩ := wrap_small (k := i) (Nat.le_trans h1m (by decide))
      have HX5 := Lib.hid (And.intro x5 xr)
      have HEVC := Lib.hid hev
      have XI := Lib.hid xi
      have HAT2 := Lib.hid hat
      have HIB := Lib.hid hib
      have HNB := Lib.hid hnb
      have HN := Lib.hid hn
      have HLE := Lib.hid hle
      have HFA := Lib.hid hfa
      clear h1m hev xi hat hib hnb hn hle hfa hcm hc x1 x2 x3 x4 x5 xr hN0 hC0
      go_wp2_with fail
      refine in1_loop wo evs c b off C cc b0 ofe NE ce i n cu Au hlt hC48 HSZ.out.1 HNB.out HN.out HNE.out HX5.out.1 HX5.out.2 HEVC.out HIB.out _ _ _ _ _ _ _ _ _ _ _ _ _ _ _ _ _ _ _ _ _ _ _ _ _ _ _ _ _ _ _ _ _ _ _ _ _ _ _ _ _ _ _ _ _ _ _ _ _ _ _ _ _ _ _ _ _ _ _ _ _ _ _ _ _ _ _ _ _ _ _ _ _ _ _ _ _ _ _ _ _ _ _ _ _ _ _ _ _ _ _ _ _ _ _ _ _ _ _ _ _ _ _ _ _ _ _ _ _ _ _ _ _ _ _ _ _ _ _ _ _ _ _ _ _ _ _ _ _ _ _ _ _ _ _ _ _ _ _ _ _ _ _ _ _ _ _ _ _ _ _ _ _ _ _ _ _ _ _ _ ?_
      intro p73 p74 p75 p76 p77 p78 p79 p80 p81 p82 p83 p84 p85 p86 p87 p88 p89 p90 p91 p92 p93 p94 p95 p96 p97 p98 p99 p100 p101 p102 p103
      rw [HFA.out]
      by_cases s0 : c.site = 0
      · rw [s0] at x0
        by_cases a0 : fa < 0
        · go_wp2_with fail
          go_roundg g'
          case rel => exact ⟨i + 1, by omega, by omega, by first | (simp; done) | (simp; exact hwi), HR⟩
          case measure => omega
        · have hle1 := HLE.out s0 (by omega)
          have HL1 := Lib.hid hle1
          clear hle1
          go_wp2_with fail
          refine in2_loop w8 wo L c b off C cc b0 ofe NE ce i cu Au fa hlt hC48 HC.out HR.out HAT2.out XI.out _ _ _ _ _ _ _ _ _ _ _ _ _ _ _ _ _ _ _ _ _ _ _ _ _ _ _ _ _ _ _ _ _ _ _ _ _ _ _ _ _ _ _ _ _ _ _ _ _ _ _ _ _ _ _ _ _ _ _ _ _ _ _ _ _ _ _ _ _ _ _ _ _ _ _ _ _ _ _ _ _ _ _ _ _ _ _ _ _ _ _ _ _ _ _ _ _ _ _ _ _ _ _ _ _ _ _ _ _ _ _ _ _ _ _ _ _ _ _ _ _ _ _ _ _ _ _ _ _ _ _ _ _ _ _ _ _ _ _ _ _ _ _ _ _ _ _ _ _ _ _ _ _ _ _ _ _ _ _ ?_
          intro q19 q114 q115 q116 q117 q118 q119 q120 q121 q122 q123 q124 q125 q126 q127 q128 q129 q130 q131 q132 q133 q134 q135 q136 q137 q138 q139 q140 q141 q142 q143 q144 q145 q146 q147 q148 q149 q150 q151 q152 q153 q154 q155 q156 q157 q158 q159 q160 q161 q162 w2 hb2
          have HB2 := Lib.hid hb2
          obtain ⟨pc, hpc⟩ : ∃ pc, L.countP (passP c fa) = pc := ⟨_, rfl⟩
          have hp1 : pc ≤ 1 := by rw [← hpc]; exact HL1.out
          rw [hpc]
          have hp2 : ¬ ((1 : Int) < (pc : Int)) := by omega
          clear hpc hp1 hb2
          go_wp2_with fail
          go_roundg g'
          case rel => exact ⟨i + 1, by omega, by omega, by first | (simp; done) | (simp; exact hwi), HB2⟩
          case measure => omega
      · have s1 : (c.site == 0) = false := by simpa using s0
        have s2 : (c.site != 0) = true := by simpa using s0
        go_wp2_with fail
        go_roundg g'
        case rel => exact ⟨i + 1, by omega, by omega, by first | (simp; done) | (simp; exact hwi), HR⟩
        case measure => omega
    · obtain rfl : i = C := by omega
      have hil : ¬ ((i : Int) < (i : Int)) := by omega
      go_wp2_with fail
      exact HEX.out _ _ _ _ _ _ _ _ _ _ _ _ _ _ _ _ _ _ _ _ _ _ _ _ _ _ _ _ _ _ _ _ _ _ _ _ _ _ _ _ _ _ _ _ _ _ _ _ _ _ _ _ _ _ _ _ _ _ _ _ _ _ _ _ _ _ _ _ _ _ _ _ _ _ _ _ _ _ _ _ _ _ _ _ _ _ _ _ _ _ _ _ _ _ _ _ _ _ _ _ _ _ _ _ _ _ HR.out
end Go.Proofs.YtckmkaeopnnbbaaGreatDoor.As
