/- The loops of DuoBypass, cut into declarations: the loop over a call's inner events. -/
import Derived.Test.YtckmkaeopnnbbaaGreatDoorTwD
set_option linter.unusedVariables false
set_option linter.unusedSimpArgs false
set_option maxRecDepth 100000
namespace Go.Proofs.YtckmkaeopnnbbaaGreatDoor.As
open Go.RowKit

/-- The first loop's body in a code. -/
def firstLoop : Code → Option Code
  | .loop c => some c
  | .seq a b => match firstLoop a with
    | some c => some c
    | none => firstLoop b
  | .block _ c => firstLoop c
  | .scope c => firstLoop c
  | .cond _ a b => match firstLoop a with
    | some c => some c
    | none => firstLoop b
  | _ => none
/-- The last one's. -/
def lastLoop : Code → Option Code
  | .loop c => some c
  | .seq a b => match lastLoop b with
    | some c => some c
    | none => lastLoop a
  | .block _ c => lastLoop c
  | .scope c => lastLoop c
  | .cond _ a b => match lastLoop b with
    | some c => some c
    | none => lastLoop a
  | _ => none
noncomputable def in1Body : Code := (((Tryz.f5.body.bind firstLoop).bind firstLoop).getD .skip)
noncomputable def in2Body : Code := (((Tryz.f5.body.bind firstLoop).bind lastLoop).getD .skip)
/-- How far a counter is from its end. -/
def muI (n slot : Nat) (a : Act) : Nat := n + 1 - (match a.tmps.getD slot undef with | .int _ k => k.toNat | _ => 0)
set_option maxHeartbeats 8000000 in
theorem in1_five {Q0 : Exit → Act → World → Prop} {K : Act → World → Prop} (wr : World) (b off C cc b0 ofe NE ce i n bu ofu cu k m : Nat) (fa kd : Int) (hi : i < C) (hC : C ≤ 48000) (hNE : NE ≤ 6000) (hn : n ≤ 6000) (x5 : wr.cell? ⟨b, off + i * 6 + 5, none⟩ = some (.slice (some ⟨bu, ofu, none⟩) n cu)) (hk : k < n) (hm : m < NE) (z0 : wr.cell? ⟨bu, ofu + k, none⟩ = some (.int .i64 (m : Int))) (y0 : wr.cell? ⟨b0, ofe + m * 8, none⟩ = some (.int .i64 5)) (v0 v1 v2 v3 v4 v5 v6 v7 v8 v9 v10 v11 v17 v18 v19 v20 v21 v22 v23 v24 v25 v26 v27 v28 v29 v30 v31 v32 v33 v34 v35 v36 v37 v38 v39 v40 v41 v42 v43 v44 v45 v46 v47 v48 v49 v50 v51 v52 v53 v54 v55 v56 v57 v58 v59 v60 v61 v62 v63 v64 v65 v66 v67 v68 v69 v70 v71 v72 v73 v74 v75 v76 v77 v78 v79 v80 v81 v82 v83 v84 v85 v86 v87 v88 v89 v90 v91 v92 v93 v94 v95 v96 v97 v98 v99 v100 v101 v102 v103 v104 v105 v106 v107 v108 v109 v110 v111 v112 v113 v114 v115 v116 v117 v118 v119 v120 v121 v122 v123 v124 v125 v126 v127 v128 v129 v130 v131 v132 v133 v134 v135 v136 v137 v138 v139 v140 v141 v142 v143 v144 v145 v146 v147 v148 v149 v150 v151 v152 v153 v154 v155 v156 v157 v158 v159 v160 v161 v162 v163 v164 : Value)
    (hK : ∀ (u73 u74 u75 u76 u77 u78 u79 u80 u81 u82 u83 u84 u85 u86 u87 u88 u89 u90 u91 u92 u93 u94 u95 u96 u97 u98 u99 u100 u101 u102 u103 : Value), K ⟨#[v0, v1, v2, v3, v4, v5, v6, v7, v8, v9, v10, v11, .slice (some ⟨b0, ofe, none⟩) NE ce, .slice (some ⟨b, off, none⟩) C cc, .int .i64 (i : Int), .int .i64 (m : Int), .int .i64 ((k : Int) + 1), v17, v18, v19, v20, v21, v22, v23, v24, v25, v26, v27, v28, v29, v30, v31, v32, v33, v34, v35, v36, v37, v38, v39, v40, v41, v42, v43, v44, v45, v46, v47, v48, v49, v50, v51, v52, v53, v54, v55, v56, v57, v58, v59, v60, v61, v62, v63, v64, v65, v66, v67, v68, v69, v70, v71, v72, u73, u74, u75, u76, u77, u78, u79, u80, u81, u82, u83, u84, u85, u86, u87, u88, u89, u90, u91, u92, u93, u94, u95, u96, u97, u98, u99, u100, u101, u102, u103, v104, v105, v106, v107, v108, v109, v110, v111, v112, v113, v114, v115, v116, v117, v118, v119, v120, v121, v122, v123, v124, v125, v126, v127, v128, v129, v130, v131, v132, v133, v134, v135, v136, v137, v138, v139, v140, v141, v142, v143, v144, v145, v146, v147, v148, v149, v150, v151, v152, v153, v154, v155, v156, v157, v158, v159, v160, v161, v162, v163, v164], []⟩ wr) :
    Code.wp Tryz.prog in1Body (Exit.then K Q0) ⟨#[v0, v1, v2, v3, v4, v5, v6, v7, v8, v9, v10, v11, .slice (some ⟨b0, ofe, none⟩) NE ce, .slice (some ⟨b, off, none⟩) C cc, .int .i64 (i : Int), .int .i64 fa, .int .i64 (k : Int), v17, v18, v19, v20, v21, v22, v23, v24, v25, v26, v27, v28, v29, v30, v31, v32, v33, v34, v35, v36, v37, v38, v39, v40, v41, v42, v43, v44, v45, v46, v47, v48, v49, v50, v51, v52, v53, v54, v55, v56, v57, v58, v59, v60, v61, v62, v63, v64, v65, v66, v67, v68, v69, v70, v71, v72, v73, v74, v75, v76, v77, v78, v79, v80, v81, v82, v83, v84, v85, v86, v87, v88, v89, v90, v91, v92, v93, v94, v95, v96, v97, v98, v99, v100, v101, v102, v103, v104, v105, v106, v107, v108, v109, v110, v111, v112, v113, v114, v115, v116, v117, v118, v119, v120, v121, v122, v123, v124, v125, v126, v127, v128, v129, v130, v131, v132, v133, v134, v135, v136, v137, v138, v139, v140, v141, v142, v143, v144, v145, v146, v147, v148, v149, v150, v151, v152, v153, v154, v155, v156, v157, v158, v159, v160, v161, v162, v163, v164], []⟩ wr := by
  have hil : (i : Int) < (C : Int) := by omega
  have hkl : (k : Int) < (n : Int) := by omega
  have hmi : (m : Int) < (NE : Int) := by omega
  have hwk : wrap64 ((k : Int) + 1) = (k : Int) + 1 := by unfold wrap64; omega
  have h1 : i ≤ 1000000 := by omega
  have h2 : k ≤ 1000000 := by omega
  have h3 : m ≤ 1000000 := by omega
  obtain ⟨hv1, hv2⟩ := wrap_small (k := i) (by omega)
  obtain ⟨hu1, hu2⟩ := wrap_small (k := k) (by omega)
  obtain ⟨hwm, hwm2⟩ := wrap_small (k := m) (by omega)
  clear hi hk hm h1 h2 h3 hC hNE hn
  conv => arg 2; whnf
  go_wp2_with fail
  exact hK _ _ _ _ _ _ _ _ _ _ _ _ _ _ _ _ _ _ _ _ _ _ _ _ _ _ _ _ _ _ _
set_option maxHeartbeats 8000000 in
theorem in1_else {Q0 : Exit → Act → World → Prop} {K : Act → World → Prop} (wr : World) (b off C cc b0 ofe NE ce i n bu ofu cu k m : Nat) (fa kd : Int) (hi : i < C) (hC : C ≤ 48000) (hNE : NE ≤ 6000) (hn : n ≤ 6000) (x5 : wr.cell? ⟨b, off + i * 6 + 5, none⟩ = some (.slice (some ⟨bu, ofu, none⟩) n cu)) (hk : k < n) (hm : m < NE) (z0 : wr.cell? ⟨bu, ofu + k, none⟩ = some (.int .i64 (m : Int))) (y0 : wr.cell? ⟨b0, ofe + m * 8, none⟩ = some (.int .i64 kd)) (hkd : kd ≠ 5) (v0 v1 v2 v3 v4 v5 v6 v7 v8 v9 v10 v11 v17 v18 v19 v20 v21 v22 v23 v24 v25 v26 v27 v28 v29 v30 v31 v32 v33 v34 v35 v36 v37 v38 v39 v40 v41 v42 v43 v44 v45 v46 v47 v48 v49 v50 v51 v52 v53 v54 v55 v56 v57 v58 v59 v60 v61 v62 v63 v64 v65 v66 v67 v68 v69 v70 v71 v72 v73 v74 v75 v76 v77 v78 v79 v80 v81 v82 v83 v84 v85 v86 v87 v88 v89 v90 v91 v92 v93 v94 v95 v96 v97 v98 v99 v100 v101 v102 v103 v104 v105 v106 v107 v108 v109 v110 v111 v112 v113 v114 v115 v116 v117 v118 v119 v120 v121 v122 v123 v124 v125 v126 v127 v128 v129 v130 v131 v132 v133 v134 v135 v136 v137 v138 v139 v140 v141 v142 v143 v144 v145 v146 v147 v148 v149 v150 v151 v152 v153 v154 v155 v156 v157 v158 v159 v160 v161 v162 v163 v164 : Value)
    (hK : ∀ (u73 u74 u75 u76 u77 u78 u79 u80 u81 u82 u83 u84 u85 u86 u87 u88 u89 u90 u91 u92 u93 u94 u95 u96 u97 u98 u99 u100 u101 u102 u103 : Value), K ⟨#[v0, v1, v2, v3, v4, v5, v6, v7, v8, v9, v10, v11, .slice (some ⟨b0, ofe, none⟩) NE ce, .slice (some ⟨b, off, none⟩) C cc, .int .i64 (i : Int), .int .i64 fa, .int .i64 ((k : Int) + 1), v17, v18, v19, v20, v21, v22, v23, v24, v25, v26, v27, v28, v29, v30, v31, v32, v33, v34, v35, v36, v37, v38, v39, v40, v41, v42, v43, v44, v45, v46, v47, v48, v49, v50, v51, v52, v53, v54, v55, v56, v57, v58, v59, v60, v61, v62, v63, v64, v65, v66, v67, v68, v69, v70, v71, v72, u73, u74, u75, u76, u77, u78, u79, u80, u81, u82, u83, u84, u85, u86, u87, u88, u89, u90, u91, u92, u93, u94, u95, u96, u97, u98, u99, u100, u101, u102, u103, v104, v105, v106, v107, v108, v109, v110, v111, v112, v113, v114, v115, v116, v117, v118, v119, v120, v121, v122, v123, v124, v125, v126, v127, v128, v129, v130, v131, v132, v133, v134, v135, v136, v137, v138, v139, v140, v141, v142, v143, v144, v145, v146, v147, v148, v149, v150, v151, v152, v153, v154, v155, v156, v157, v158, v159, v160, v161, v162, v163, v164], []⟩ wr) :
    Code.wp Tryz.prog in1Body (Exit.then K Q0) ⟨#[v0, v1, v2, v3, v4, v5, v6, v7, v8, v9, v10, v11, .slice (some ⟨b0, ofe, none⟩) NE ce, .slice (some ⟨b, off, none⟩) C cc, .int .i64 (i : Int), .int .i64 fa, .int .i64 (k : Int), v17, v18, v19, v20, v21, v22, v23, v24, v25, v26, v27, v28, v29, v30, v31, v32, v33, v34, v35, v36, v37, v38, v39, v40, v41, v42, v43, v44, v45, v46, v47, v48, v49, v50, v51, v52, v53, v54, v55, v56, v57, v58, v59, v60, v61, v62, v63, v64, v65, v66, v67, v68, v69, v70, v71, v72, v73, v74, v75, v76, v77, v78, v79, v80, v81, v82, v83, v84, v85, v86, v87, v88, v89, v90, v91, v92, v93, v94, v95, v96, v97, v98, v99, v100, v101, v102, v103, v104, v105, v106, v107, v108, v109, v110, v111, v112, v113, v114, v115, v116, v117, v118, v119, v120, v121, v122, v123, v124, v125, v126, v127, v128, v129, v130, v131, v132, v133, v134, v135, v136, v137, v138, v139, v140, v141, v142, v143, v144, v145, v146, v147, v148, v149, v150, v151, v152, v153, v154, v155, v156, v157, v158, v159, v160, v161, v162, v163, v164], []⟩ wr := by
  have hil : (i : Int) < (C : Int) := by omega
  have hkl : (k : Int) < (n : Int) := by omega
  have hmi : (m : Int) < (NE : Int) := by omega
  have hwk : wrap64 ((k : Int) + 1) = (k : Int) + 1 := by unfold wrap64; omega
  have h1 : i ≤ 1000000 := by omega
  have h2 : k ≤ 1000000 := by omega
  have h3 : m ≤ 1000000 := by omega
  obtain ⟨hv1, hv2⟩ := wrap_small (k := i) (by omega)
  obtain ⟨hu1, hu2⟩ := wrap_small (k := k) (by omega)
  obtain ⟨hwm, hwm2⟩ := wrap_small (k := m) (by omega)
  have d5 : (kd == 5) = false := by simpa using hkd
  clear hkd
  clear hi hk hm h1 h2 h3 hC hNE hn
  conv => arg 2; whnf
  go_wp2_with fail
  exact hK _ _ _ _ _ _ _ _ _ _ _ _ _ _ _ _ _ _ _ _ _ _ _ _ _ _ _ _ _ _ _
set_option maxHeartbeats 8000000 in
theorem in1_exit {Q0 : Exit → Act → World → Prop} {K : Act → World → Prop} (wr : World) (b off C cc b0 ofe NE ce i n cu : Nat) (Au : Option Addr) (fa : Int) (hi : i < C) (hC : C ≤ 48000) (hn : n ≤ 6000) (x5 : wr.cell? ⟨b, off + i * 6 + 5, none⟩ = some (.slice Au n cu)) (v0 v1 v2 v3 v4 v5 v6 v7 v8 v9 v10 v11 v17 v18 v19 v20 v21 v22 v23 v24 v25 v26 v27 v28 v29 v30 v31 v32 v33 v34 v35 v36 v37 v38 v39 v40 v41 v42 v43 v44 v45 v46 v47 v48 v49 v50 v51 v52 v53 v54 v55 v56 v57 v58 v59 v60 v61 v62 v63 v64 v65 v66 v67 v68 v69 v70 v71 v72 v73 v74 v75 v76 v77 v78 v79 v80 v81 v82 v83 v84 v85 v86 v87 v88 v89 v90 v91 v92 v93 v94 v95 v96 v97 v98 v99 v100 v101 v102 v103 v104 v105 v106 v107 v108 v109 v110 v111 v112 v113 v114 v115 v116 v117 v118 v119 v120 v121 v122 v123 v124 v125 v126 v127 v128 v129 v130 v131 v132 v133 v134 v135 v136 v137 v138 v139 v140 v141 v142 v143 v144 v145 v146 v147 v148 v149 v150 v151 v152 v153 v154 v155 v156 v157 v158 v159 v160 v161 v162 v163 v164 : Value)
    (hK : ∀ (u73 u74 u75 u76 u77 u78 u79 u80 u81 u82 u83 u84 u85 u86 u87 u88 u89 u90 u91 u92 u93 u94 u95 u96 u97 u98 u99 u100 u101 u102 u103 : Value), Q0 (.exit 2) ⟨#[v0, v1, v2, v3, v4, v5, v6, v7, v8, v9, v10, v11, .slice (some ⟨b0, ofe, none⟩) NE ce, .slice (some ⟨b, off, none⟩) C cc, .int .i64 (i : Int), .int .i64 fa, .int .i64 (n : Int), v17, v18, v19, v20, v21, v22, v23, v24, v25, v26, v27, v28, v29, v30, v31, v32, v33, v34, v35, v36, v37, v38, v39, v40, v41, v42, v43, v44, v45, v46, v47, v48, v49, v50, v51, v52, v53, v54, v55, v56, v57, v58, v59, v60, v61, v62, v63, v64, v65, v66, v67, v68, v69, v70, v71, v72, u73, u74, u75, u76, u77, u78, u79, u80, u81, u82, u83, u84, u85, u86, u87, u88, u89, u90, u91, u92, u93, u94, u95, u96, u97, u98, u99, u100, u101, u102, u103, v104, v105, v106, v107, v108, v109, v110, v111, v112, v113, v114, v115, v116, v117, v118, v119, v120, v121, v122, v123, v124, v125, v126, v127, v128, v129, v130, v131, v132, v133, v134, v135, v136, v137, v138, v139, v140, v141, v142, v143, v144, v145, v146, v147, v148, v149, v150, v151, v152, v153, v154, v155, v156, v157, v158, v159, v160, v161, v162, v163, v164], []⟩ wr) :
    Code.wp Tryz.prog in1Body (Exit.then K Q0) ⟨#[v0, v1, v2, v3, v4, v5, v6, v7, v8, v9, v10, v11, .slice (some ⟨b0, ofe, none⟩) NE ce, .slice (some ⟨b, off, none⟩) C cc, .int .i64 (i : Int), .int .i64 fa, .int .i64 (n : Int), v17, v18, v19, v20, v21, v22, v23, v24, v25, v26, v27, v28, v29, v30, v31, v32, v33, v34, v35, v36, v37, v38, v39, v40, v41, v42, v43, v44, v45, v46, v47, v48, v49, v50, v51, v52, v53, v54, v55, v56, v57, v58, v59, v60, v61, v62, v63, v64, v65, v66, v67, v68, v69, v70, v71, v72, v73, v74, v75, v76, v77, v78, v79, v80, v81, v82, v83, v84, v85, v86, v87, v88, v89, v90, v91, v92, v93, v94, v95, v96, v97, v98, v99, v100, v101, v102, v103, v104, v105, v106, v107, v108, v109, v110, v111, v112, v113, v114, v115, v116, v117, v118, v119, v120, v121, v122, v123, v124, v125, v126, v127, v128, v129, v130, v131, v132, v133, v134, v135, v136, v137, v138, v139, v140, v141, v142, v143, v144, v145, v146, v147, v148, v149, v150, v151, v152, v153, v154, v155, v156, v157, v158, v159, v160, v161, v162, v163, v164], []⟩ wr := by
  have hil : (i : Int) < (C : Int) := by omega
  have hkl : ¬ ((n : Int) < (n : Int)) := by omega
  have h1 : i ≤ 1000000 := by omega
  obtain ⟨hv1, hv2⟩ := wrap_small (k := i) (by omega)
  clear hi h1 hC hn
  conv => arg 2; whnf
  go_wp2_with fail
  exact hK _ _ _ _ _ _ _ _ _ _ _ _ _ _ _ _ _ _ _ _ _ _ _ _ _ _ _ _ _ _ _
set_option maxHeartbeats 8000000 in
/-- The loop over a call's inner events: where it fenced last. -/
theorem in1_loop {Q0 : Exit → Act → World → Prop} (wr : World) (evs : List Ev) (c : Cl) (b off C cc b0 ofe NE ce i n cu : Nat) (Au : Option Addr) (hi : i < C) (hC : C ≤ 48000) (hNE : NE ≤ 6000) (hn : n ≤ 6000) (hcn : c.inner.length = n) (hen : evs.length = NE) (x5 : wr.cell? ⟨b, off + i * 6 + 5, none⟩ = some (.slice Au n cu)) (xr : Rd wr 1 (.slice Au n cu) n (c.inner.map (Value.int .i64))) (hev : ∀ j u, (flatE evs)[j]? = some u → wr.cell? ⟨b0, ofe + j, none⟩ = some u) (hib : inB NE c) (v0 v1 v2 v3 v4 v5 v6 v7 v8 v9 v10 v11 v17 v18 v19 v20 v21 v22 v23 v24 v25 v26 v27 v28 v29 v30 v31 v32 v33 v34 v35 v36 v37 v38 v39 v40 v41 v42 v43 v44 v45 v46 v47 v48 v49 v50 v51 v52 v53 v54 v55 v56 v57 v58 v59 v60 v61 v62 v63 v64 v65 v66 v67 v68 v69 v70 v71 v72 v73 v74 v75 v76 v77 v78 v79 v80 v81 v82 v83 v84 v85 v86 v87 v88 v89 v90 v91 v92 v93 v94 v95 v96 v97 v98 v99 v100 v101 v102 v103 v104 v105 v106 v107 v108 v109 v110 v111 v112 v113 v114 v115 v116 v117 v118 v119 v120 v121 v122 v123 v124 v125 v126 v127 v128 v129 v130 v131 v132 v133 v134 v135 v136 v137 v138 v139 v140 v141 v142 v143 v144 v145 v146 v147 v148 v149 v150 v151 v152 v153 v154 v155 v156 v157 v158 v159 v160 v161 v162 v163 v164 : Value)
    (hexit : ∀ (u73 u74 u75 u76 u77 u78 u79 u80 u81 u82 u83 u84 u85 u86 u87 u88 u89 u90 u91 u92 u93 u94 u95 u96 u97 u98 u99 u100 u101 u102 u103 : Value), Q0 (.exit 2) ⟨#[v0, v1, v2, v3, v4, v5, v6, v7, v8, v9, v10, v11, .slice (some ⟨b0, ofe, none⟩) NE ce, .slice (some ⟨b, off, none⟩) C cc, .int .i64 (i : Int), .int .i64 (fenP evs c), .int .i64 (n : Int), v17, v18, v19, v20, v21, v22, v23, v24, v25, v26, v27, v28, v29, v30, v31, v32, v33, v34, v35, v36, v37, v38, v39, v40, v41, v42, v43, v44, v45, v46, v47, v48, v49, v50, v51, v52, v53, v54, v55, v56, v57, v58, v59, v60, v61, v62, v63, v64, v65, v66, v67, v68, v69, v70, v71, v72, u73, u74, u75, u76, u77, u78, u79, u80, u81, u82, u83, u84, u85, u86, u87, u88, u89, u90, u91, u92, u93, u94, u95, u96, u97, u98, u99, u100, u101, u102, u103, v104, v105, v106, v107, v108, v109, v110, v111, v112, v113, v114, v115, v116, v117, v118, v119, v120, v121, v122, v123, v124, v125, v126, v127, v128, v129, v130, v131, v132, v133, v134, v135, v136, v137, v138, v139, v140, v141, v142, v143, v144, v145, v146, v147, v148, v149, v150, v151, v152, v153, v154, v155, v156, v157, v158, v159, v160, v161, v162, v163, v164], []⟩ wr) :
    Code.wp Tryz.prog (Code.loop in1Body) Q0 ⟨#[v0, v1, v2, v3, v4, v5, v6, v7, v8, v9, v10, v11, .slice (some ⟨b0, ofe, none⟩) NE ce, .slice (some ⟨b, off, none⟩) C cc, .int .i64 (i : Int), .int .i64 (-1), .int .i64 0, v17, v18, v19, v20, v21, v22, v23, v24, v25, v26, v27, v28, v29, v30, v31, v32, v33, v34, v35, v36, v37, v38, v39, v40, v41, v42, v43, v44, v45, v46, v47, v48, v49, v50, v51, v52, v53, v54, v55, v56, v57, v58, v59, v60, v61, v62, v63, v64, v65, v66, v67, v68, v69, v70, v71, v72, v73, v74, v75, v76, v77, v78, v79, v80, v81, v82, v83, v84, v85, v86, v87, v88, v89, v90, v91, v92, v93, v94, v95, v96, v97, v98, v99, v100, v101, v102, v103, v104, v105, v106, v107, v108, v109, v110, v111, v112, v113, v114, v115, v116, v117, v118, v119, v120, v121, v122, v123, v124, v125, v126, v127, v128, v129, v130, v131, v132, v133, v134, v135, v136, v137, v138, v139, v140, v141, v142, v143, v144, v145, v146, v147, v148, v149, v150, v151, v152, v153, v154, v155, v156, v157, v158, v159, v160, v161, v162, v163, v164], []⟩ wr := by
  refine wp_loop (fun a w' => ∃ (k : Nat) (u73 u74 u75 u76 u77 u78 u79 u80 u81 u82 u83 u84 u85 u86 u87 u88 u89 u90 u91 u92 u93 u94 u95 u96 u97 u98 u99 u100 u101 u102 u103 : Value), k ≤ n ∧ w' = wr ∧ a = ⟨#[v0, v1, v2, v3, v4, v5, v6, v7, v8, v9, v10, v11, .slice (some ⟨b0, ofe, none⟩) NE ce, .slice (some ⟨b, off, none⟩) C cc, .int .i64 (i : Int), .int .i64 (fenL evs (c.inner.take k)), .int .i64 (k : Int), v17, v18, v19, v20, v21, v22, v23, v24, v25, v26, v27, v28, v29, v30, v31, v32, v33, v34, v35, v36, v37, v38, v39, v40, v41, v42, v43, v44, v45, v46, v47, v48, v49, v50, v51, v52, v53, v54, v55, v56, v57, v58, v59, v60, v61, v62, v63, v64, v65, v66, v67, v68, v69, v70, v71, v72, u73, u74, u75, u76, u77, u78, u79, u80, u81, u82, u83, u84, u85, u86, u87, u88, u89, u90, u91, u92, u93, u94, u95, u96, u97, u98, u99, u100, u101, u102, u103, v104, v105, v106, v107, v108, v109, v110, v111, v112, v113, v114, v115, v116, v117, v118, v119, v120, v121, v122, v123, v124, v125, v126, v127, v128, v129, v130, v131, v132, v133, v134, v135, v136, v137, v138, v139, v140, v141, v142, v143, v144, v145, v146, v147, v148, v149, v150, v151, v152, v153, v154, v155, v156, v157, v158, v159, v160, v161, v162, v163, v164], []⟩) (fun a _ => muI n 16 a) ⟨0, v73, v74, v75, v76, v77, v78, v79, v80, v81, v82, v83, v84, v85, v86, v87, v88, v89, v90, v91, v92, v93, v94, v95, v96, v97, v98, v99, v100, v101, v102, v103, Nat.zero_le _, rfl, rfl⟩ ?_
  rintro a w' ⟨k, hI⟩
  obtain ⟨u73, hI⟩ := hI
  obtain ⟨u74, hI⟩ := hI
  obtain ⟨u75, hI⟩ := hI
  obtain ⟨u76, hI⟩ := hI
  obtain ⟨u77, hI⟩ := hI
  obtain ⟨u78, hI⟩ := hI
  obtain ⟨u79, hI⟩ := hI
  obtain ⟨u80, hI⟩ := hI
  obtain ⟨u81, hI⟩ := hI
  obtain ⟨u82, hI⟩ := hI
  obtain ⟨u83, hI⟩ := hI
  obtain ⟨u84, hI⟩ := hI
  obtain ⟨u85, hI⟩ := hI
  obtain ⟨u86, hI⟩ := hI
  obtain ⟨u87, hI⟩ := hI
  obtain ⟨u88, hI⟩ := hI
  obtain ⟨u89, hI⟩ := hI
  obtain ⟨u90, hI⟩ := hI
  obtain ⟨u91, hI⟩ := hI
  obtain ⟨u92, hI⟩ := hI
  obtain ⟨u93, hI⟩ := hI
  obtain ⟨u94, hI⟩ := hI
  obtain ⟨u95, hI⟩ := hI
  obtain ⟨u96, hI⟩ := hI
  obtain ⟨u97, hI⟩ := hI
  obtain ⟨u98, hI⟩ := hI
  obtain ⟨u99, hI⟩ := hI
  obtain ⟨u100, hI⟩ := hI
  obtain ⟨u101, hI⟩ := hI
  obtain ⟨u102, hI⟩ := hI
  obtain ⟨u103, hI⟩ := hI
  obtain ⟨hk, rfl, rfl⟩ := hI
  by_cases hlk : k < n
  · obtain ⟨x, hx⟩ : ∃ x, c.inner[k]? = some x := ⟨_, List.getElem?_eq_getElem (by rw [hcn]; exact hlk)⟩
    obtain ⟨q0, q1⟩ := hib x (List.mem_of_getElem? hx)
    obtain ⟨m, rfl⟩ := Int.eq_ofNat_of_zero_le q0
    have hm : m < NE := by omega
    obtain ⟨e, he⟩ : ∃ e, evs[m]? = some e := ⟨_, List.getElem?_eq_getElem (by rw [hen]; exact hm)⟩
    obtain ⟨bu, ofu, rfl, _, hcu⟩ := xr.cells (by omega)
    have z0 : w'.cell? ⟨bu, ofu + k, none⟩ = some (.int .i64 (m : Int)) := hcu k _ (by rw [List.getElem?_map, hx]; rfl)
    have y0 : w'.cell? ⟨b0, ofe + m * 8, none⟩ = some (.int .i64 e.kind) := hev _ _ (flatMap_get Ev.cells 8 (fun _ => rfl) evs m e he 0 (by decide))
    have hnx := fen_next (evs := evs) hx
    rw [isFe_at he] at hnx
    by_cases k5 : e.kind = 5
    · rw [if_pos (by simpa using k5)] at hnx
      rw [k5] at y0
      refine in1_five w' b off C cc b0 ofe NE ce i n bu ofu cu k m _ 0 hi hC hNE hn x5 hlk hm z0 y0 _ _ _ _ _ _ _ _ _ _ _ _ _ _ _ _ _ _ _ _ _ _ _ _ _ _ _ _ _ _ _ _ _ _ _ _ _ _ _ _ _ _ _ _ _ _ _ _ _ _ _ _ _ _ _ _ _ _ _ _ _ _ _ _ _ _ _ _ _ _ _ _ _ _ _ _ _ _ _ _ _ _ _ _ _ _ _ _ _ _ _ _ _ _ _ _ _ _ _ _ _ _ _ _ _ _ _ _ _ _ _ _ _ _ _ _ _ _ _ _ _ _ _ _ _ _ _ _ _ _ _ _ _ _ _ _ _ _ _ _ _ _ _ _ _ _ _ _ _ _ _ _ _ _ _ _ _ _ _ _ ?_
      intro p73 p74 p75 p76 p77 p78 p79 p80 p81 p82 p83 p84 p85 p86 p87 p88 p89 p90 p91 p92 p93 p94 p95 p96 p97 p98 p99 p100 p101 p102 p103
      exact ⟨⟨k + 1, p73, p74, p75, p76, p77, p78, p79, p80, p81, p82, p83, p84, p85, p86, p87, p88, p89, p90, p91, p92, p93, p94, p95, p96, p97, p98, p99, p100, p101, p102, p103, hlk, rfl, by rw [hnx]; rfl⟩, by simp [muI]; omega⟩
    · rw [if_neg (by simpa using k5)] at hnx
      refine in1_else w' b off C cc b0 ofe NE ce i n bu ofu cu k m _ e.kind hi hC hNE hn x5 hlk hm z0 y0 k5 _ _ _ _ _ _ _ _ _ _ _ _ _ _ _ _ _ _ _ _ _ _ _ _ _ _ _ _ _ _ _ _ _ _ _ _ _ _ _ _ _ _ _ _ _ _ _ _ _ _ _ _ _ _ _ _ _ _ _ _ _ _ _ _ _ _ _ _ _ _ _ _ _ _ _ _ _ _ _ _ _ _ _ _ _ _ _ _ _ _ _ _ _ _ _ _ _ _ _ _ _ _ _ _ _ _ _ _ _ _ _ _ _ _ _ _ _ _ _ _ _ _ _ _ _ _ _ _ _ _ _ _ _ _ _ _ _ _ _ _ _ _ _ _ _ _ _ _ _ _ _ _ _ _ _ _ _ _ _ _ ?_
      intro p73 p74 p75 p76 p77 p78 p79 p80 p81 p82 p83 p84 p85 p86 p87 p88 p89 p90 p91 p92 p93 p94 p95 p96 p97 p98 p99 p100 p101 p102 p103
      exact ⟨⟨k + 1, p73, p74, p75, p76, p77, p78, p79, p80, p81, p82, p83, p84, p85, p86, p87, p88, p89, p90, p91, p92, p93, p94, p95, p96, p97, p98, p99, p100, p101, p102, p103, hlk, rfl, by rw [hnx]; rfl⟩, by simp [muI]; omega⟩
  · obtain rfl : k = n := by omega
    refine in1_exit w' b off C cc b0 ofe NE ce i k cu Au _ hi hC hn x5 _ _ _ _ _ _ _ _ _ _ _ _ _ _ _ _ _ _ _ _ _ _ _ _ _ _ _ _ _ _ _ _ _ _ _ _ _ _ _ _ _ _ _ _ _ _ _ _ _ _ _ _ _ _ _ _ _ _ _ _ _ _ _ _ _ _ _ _ _ _ _ _ _ _ _ _ _ _ _ _ _ _ _ _ _ _ _ _ _ _ _ _ _ _ _ _ _ _ _ _ _ _ _ _ _ _ _ _ _ _ _ _ _ _ _ _ _ _ _ _ _ _ _ _ _ _ _ _ _ _ _ _ _ _ _ _ _ _ _ _ _ _ _ _ _ _ _ _ _ _ _ _ _ _ _ _ _ _ _ _ ?_
    intro p73 p74 p75 p76 p77 p78 p79 p80 p81 p82 p83 p84 p85 p86 p87 p88 p89 p90 p91 p92 p93 p94 p95 p96 p97 p98 p99 p100 p101 p102 p103
    have h := hexit p73 p74 p75 p76 p77 p78 p79 p80 p81 p82 p83 p84 p85 p86 p87 p88 p89 p90 p91 p92 p93 p94 p95 p96 p97 p98 p99 p100 p101 p102 p103
    rw [← fen_all hcn] at h
    exact h
end Go.Proofs.YtckmkaeopnnbbaaGreatDoor.As
