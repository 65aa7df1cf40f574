/- The loops of DuoBypass: cases of the counting loop (2). -/
import Derived.Test.YtckmkaeopnnbbaaGreatDoorDbA
set_option linter.unusedVariables false
set_option linter.unusedSimpArgs false
set_option maxRecDepth 100000
namespace Go.Proofs.YtckmkaeopnnbbaaGreatDoor.As
open Go.RowKit

set_option maxHeartbeats 8000000 in
theorem in2_open {Q0 : Exit → Act → World → Prop} {K : Act → World → Prop} (wr : World) (b off C cc b0 ofe NE ce i k pc di cd : Nat) (Ad : Option Addr) (fa ds dw db de dr qw qe : Int) (hi : i < C) (hk : k < C) (hpc : pc ≤ k) (hC : C ≤ 48000) (x1 : wr.cell? ⟨b, off + i * 6 + 1, none⟩ = some (.int .i64 qw)) (x3 : wr.cell? ⟨b, off + i * 6 + 3, none⟩ = some (.int .i64 qe)) (z0 : wr.cell? ⟨b, off + k * 6, none⟩ = some (.int .i64 0)) (z1 : wr.cell? ⟨b, off + k * 6 + 1, none⟩ = some (.int .i64 dw)) (z2 : wr.cell? ⟨b, off + k * 6 + 2, none⟩ = some (.int .i64 db)) (z3 : wr.cell? ⟨b, off + k * 6 + 3, none⟩ = some (.int .i64 de)) (z4 : wr.cell? ⟨b, off + k * 6 + 4, none⟩ = some (.int .u32 dr)) (z5 : wr.cell? ⟨b, off + k * 6 + 5, none⟩ = some (.slice Ad di cd)) (hw : dw ≠ qw) (he : fa < de) (hq : qe < 0) (v0 v1 v2 v3 v4 v5 v6 v7 v8 v9 v10 v11 v16 v19 v20 v21 v22 v23 v24 v25 v26 v27 v28 v29 v30 v31 v32 v33 v34 v35 v36 v37 v38 v39 v40 v41 v42 v43 v44 v45 v46 v47 v48 v49 v50 v51 v52 v53 v54 v55 v56 v57 v58 v59 v60 v61 v62 v63 v64 v65 v66 v67 v68 v69 v70 v71 v72 v73 v74 v75 v76 v77 v78 v79 v80 v81 v82 v83 v84 v85 v86 v87 v88 v89 v90 v91 v92 v93 v94 v95 v96 v97 v98 v99 v100 v101 v102 v103 v104 v105 v106 v107 v108 v109 v110 v111 v112 v113 v114 v115 v116 v117 v118 v119 v120 v121 v122 v123 v124 v125 v126 v127 v128 v129 v130 v131 v132 v133 v134 v135 v136 v137 v138 v139 v140 v141 v142 v143 v144 v145 v146 v147 v148 v149 v150 v151 v152 v153 v154 v155 v156 v157 v158 v159 v160 v161 v162 v163 v164 : Value)
    (hK : ∀ (u19 u114 u115 u116 u117 u118 u119 u120 u121 u122 u123 u124 u125 u126 u127 u128 u129 u130 u131 u132 u133 u134 u135 u136 u137 u138 u139 u140 u141 u142 u143 u144 u145 u146 u147 u148 u149 u150 u151 u152 u153 u154 u155 u156 u157 u158 u159 u160 u161 u162 : Value) (w' : World), Below wr.heap.size wr w' → K ⟨#[v0, v1, v2, v3, v4, v5, v6, v7, v8, v9, v10, v11, .slice (some ⟨b0, ofe, none⟩) NE ce, .slice (some ⟨b, off, none⟩) C cc, .int .i64 (i : Int), .int .i64 fa, v16, .int .i64 ((pc : Int) + 1), .int .i64 ((k : Int) + 1), u19, v20, v21, v22, v23, v24, v25, v26, v27, v28, v29, v30, v31, v32, v33, v34, v35, v36, v37, v38, v39, v40, v41, v42, v43, v44, v45, v46, v47, v48, v49, v50, v51, v52, v53, v54, v55, v56, v57, v58, v59, v60, v61, v62, v63, v64, v65, v66, v67, v68, v69, v70, v71, v72, v73, v74, v75, v76, v77, v78, v79, v80, v81, v82, v83, v84, v85, v86, v87, v88, v89, v90, v91, v92, v93, v94, v95, v96, v97, v98, v99, v100, v101, v102, v103, v104, v105, v106, v107, v108, v109, v110, v111, v112, v113, u114, u115, u116, u117, u118, u119, u120, u121, u122, u123, u124, u125, u126, u127, u128, u129, u130, u131, u132, u133, u134, u135, u136, u137, u138, u139, u140, u141, u142, u143, u144, u145, u146, u147, u148, u149, u150, u151, u152, u153, u154, u155, u156, u157, u158, u159, u160, u161, u162, v163, v164], []⟩ w') :
    Code.wp Tryz.prog in2Body (Exit.then K Q0) ⟨#[v0, v1, v2, v3, v4, v5, v6, v7, v8, v9, v10, v11, .slice (some ⟨b0, ofe, none⟩) NE ce, .slice (some ⟨b, off, none⟩) C cc, .int .i64 (i : Int), .int .i64 fa, v16, .int .i64 (pc : Int), .int .i64 (k : Int), v19, v20, v21, v22, v23, v24, v25, v26, v27, v28, v29, v30, v31, v32, v33, v34, v35, v36, v37, v38, v39, v40, v41, v42, v43, v44, v45, v46, v47, v48, v49, v50, v51, v52, v53, v54, v55, v56, v57, v58, v59, v60, v61, v62, v63, v64, v65, v66, v67, v68, v69, v70, v71, v72, v73, v74, v75, v76, v77, v78, v79, v80, v81, v82, v83, v84, v85, v86, v87, v88, v89, v90, v91, v92, v93, v94, v95, v96, v97, v98, v99, v100, v101, v102, v103, v104, v105, v106, v107, v108, v109, v110, v111, v112, v113, v114, v115, v116, v117, v118, v119, v120, v121, v122, v123, v124, v125, v126, v127, v128, v129, v130, v131, v132, v133, v134, v135, v136, v137, v138, v139, v140, v141, v142, v143, v144, v145, v146, v147, v148, v149, v150, v151, v152, v153, v154, v155, v156, v157, v158, v159, v160, v161, v162, v163, v164], []⟩ wr := by
  have hkl : (k : Int) < (C : Int) := by omega
  have hil : (i : Int) < (C : Int) := by omega
  have hwk : wrap64 ((k : Int) + 1) = (k : Int) + 1 := by unfold wrap64; omega
  have hwp : wrap64 ((pc : Int) + 1) = (pc : Int) + 1 := by unfold wrap64; omega
  have h1 : i ≤ 1000000 := by omega
  have h2 : k ≤ 1000000 := by omega
  obtain ⟨hv1, hv2⟩ := wrap_small (k := i) (by omega)
  obtain ⟨hu1, hu2⟩ := wrap_small (k := k) (by omega)
  have n1 : (dw == qw) = false := by simpa using hw
  have n2 : (dw != qw) = true := by simpa using hw
  clear hw
  clear hi hk h1 h2 hC hpc
  conv => arg 2; whnf
  go_wp2_with fail
  obtain ⟨WA, hWA⟩ : ∃ WA, wr.alloc (.cells #[.int .i64 0, .int .i64 dw, .int .i64 db, .int .i64 de, .int .u32 dr, .slice Ad di cd] 63) = WA := ⟨_, rfl⟩
  have hX : WA.heap[wr.heap.size]? = some (.cells #[.int .i64 0, .int .i64 dw, .int .i64 db, .int .i64 de, .int .u32 dr, .slice Ad di cd] 63 (0, 0)) := by rw [← hWA]; exact heap_alloc_new _ _
  have HA : Hid (Below wr.heap.size wr WA) := Lib.hid (by rw [← hWA]; exact (Below.refl _ wr).alloc (Nat.le_refl _) _)
  rw [hWA]
  have o0 := cell_of_row WA _ 0 _ _ _ hX
  have o1 := cell_of_row WA _ 1 _ _ _ hX
  have o3 := cell_of_row WA _ 3 _ _ _ hX
  have X1 := (HA.out.cell (block_lt_of_cell x1)).trans x1
  have X3 := (HA.out.cell (block_lt_of_cell x3)).trans x3
  clear hWA hX z0 z1 z2 z3 z4 z5 x1 x3
  go_quiet (fail)
  go_wp2_with fail
  (try simp only [hwk, hwp])
  exact hK _ _ _ _ _ _ _ _ _ _ _ _ _ _ _ _ _ _ _ _ _ _ _ _ _ _ _ _ _ _ _ _ _ _ _ _ _ _ _ _ _ _ _ _ _ _ _ _ _ _ _ (bl_drewN HA.out nq)
set_option maxHeartbeats 8000000 in
theorem in2_in {Q0 : Exit → Act → World → Prop} {K : Act → World → Prop} (wr : World) (b off C cc b0 ofe NE ce i k pc di cd : Nat) (Ad : Option Addr) (fa ds dw db de dr qw qe : Int) (hi : i < C) (hk : k < C) (hpc : pc ≤ k) (hC : C ≤ 48000) (x1 : wr.cell? ⟨b, off + i * 6 + 1, none⟩ = some (.int .i64 qw)) (x3 : wr.cell? ⟨b, off + i * 6 + 3, none⟩ = some (.int .i64 qe)) (z0 : wr.cell? ⟨b, off + k * 6, none⟩ = some (.int .i64 0)) (z1 : wr.cell? ⟨b, off + k * 6 + 1, none⟩ = some (.int .i64 dw)) (z2 : wr.cell? ⟨b, off + k * 6 + 2, none⟩ = some (.int .i64 db)) (z3 : wr.cell? ⟨b, off + k * 6 + 3, none⟩ = some (.int .i64 de)) (z4 : wr.cell? ⟨b, off + k * 6 + 4, none⟩ = some (.int .u32 dr)) (z5 : wr.cell? ⟨b, off + k * 6 + 5, none⟩ = some (.slice Ad di cd)) (hw : dw ≠ qw) (he : fa < de) (hq : ¬ qe < 0) (hd : de < qe) (v0 v1 v2 v3 v4 v5 v6 v7 v8 v9 v10 v11 v16 v19 v20 v21 v22 v23 v24 v25 v26 v27 v28 v29 v30 v31 v32 v33 v34 v35 v36 v37 v38 v39 v40 v41 v42 v43 v44 v45 v46 v47 v48 v49 v50 v51 v52 v53 v54 v55 v56 v57 v58 v59 v60 v61 v62 v63 v64 v65 v66 v67 v68 v69 v70 v71 v72 v73 v74 v75 v76 v77 v78 v79 v80 v81 v82 v83 v84 v85 v86 v87 v88 v89 v90 v91 v92 v93 v94 v95 v96 v97 v98 v99 v100 v101 v102 v103 v104 v105 v106 v107 v108 v109 v110 v111 v112 v113 v114 v115 v116 v117 v118 v119 v120 v121 v122 v123 v124 v125 v126 v127 v128 v129 v130 v131 v132 v133 v134 v135 v136 v137 v138 v139 v140 v141 v142 v143 v144 v145 v146 v147 v148 v149 v150 v151 v152 v153 v154 v155 v156 v157 v158 v159 v160 v161 v162 v163 v164 : Value)
    (hK : ∀ (u19 u114 u115 u116 u117 u118 u119 u120 u121 u122 u123 u124 u125 u126 u127 u128 u129 u130 u131 u132 u133 u134 u135 u136 u137 u138 u139 u140 u141 u142 u143 u144 u145 u146 u147 u148 u149 u150 u151 u152 u153 u154 u155 u156 u157 u158 u159 u160 u161 u162 : Value) (w' : World), Below wr.heap.size wr w' → K ⟨#[v0, v1, v2, v3, v4, v5, v6, v7, v8, v9, v10, v11, .slice (some ⟨b0, ofe, none⟩) NE ce, .slice (some ⟨b, off, none⟩) C cc, .int .i64 (i : Int), .int .i64 fa, v16, .int .i64 ((pc : Int) + 1), .int .i64 ((k : Int) + 1), u19, v20, v21, v22, v23, v24, v25, v26, v27, v28, v29, v30, v31, v32, v33, v34, v35, v36, v37, v38, v39, v40, v41, v42, v43, v44, v45, v46, v47, v48, v49, v50, v51, v52, v53, v54, v55, v56, v57, v58, v59, v60, v61, v62, v63, v64, v65, v66, v67, v68, v69, v70, v71, v72, v73, v74, v75, v76, v77, v78, v79, v80, v81, v82, v83, v84, v85, v86, v87, v88, v89, v90, v91, v92, v93, v94, v95, v96, v97, v98, v99, v100, v101, v102, v103, v104, v105, v106, v107, v108, v109, v110, v111, v112, v113, u114, u115, u116, u117, u118, u119, u120, u121, u122, u123, u124, u125, u126, u127, u128, u129, u130, u131, u132, u133, u134, u135, u136, u137, u138, u139, u140, u141, u142, u143, u144, u145, u146, u147, u148, u149, u150, u151, u152, u153, u154, u155, u156, u157, u158, u159, u160, u161, u162, v163, v164], []⟩ w') :
    Code.wp Tryz.prog in2Body (Exit.then K Q0) ⟨#[v0, v1, v2, v3, v4, v5, v6, v7, v8, v9, v10, v11, .slice (some ⟨b0, ofe, none⟩) NE ce, .slice (some ⟨b, off, none⟩) C cc, .int .i64 (i : Int), .int .i64 fa, v16, .int .i64 (pc : Int), .int .i64 (k : Int), v19, v20, v21, v22, v23, v24, v25, v26, v27, v28, v29, v30, v31, v32, v33, v34, v35, v36, v37, v38, v39, v40, v41, v42, v43, v44, v45, v46, v47, v48, v49, v50, v51, v52, v53, v54, v55, v56, v57, v58, v59, v60, v61, v62, v63, v64, v65, v66, v67, v68, v69, v70, v71, v72, v73, v74, v75, v76, v77, v78, v79, v80, v81, v82, v83, v84, v85, v86, v87, v88, v89, v90, v91, v92, v93, v94, v95, v96, v97, v98, v99, v100, v101, v102, v103, v104, v105, v106, v107, v108, v109, v110, v111, v112, v113, v114, v115, v116, v117, v118, v119, v120, v121, v122, v123, v124, v125, v126, v127, v128, v129, v130, v131, v132, v133, v134, v135, v136, v137, v138, v139, v140, v141, v142, v143, v144, v145, v146, v147, v148, v149, v150, v151, v152, v153, v154, v155, v156, v157, v158, v159, v160, v161, v162, v163, v164], []⟩ wr := by
  have hkl : (k : Int) < (C : Int) := by omega
  have hil : (i : Int) < (C : Int) := by omega
  have hwk : wrap64 ((k : Int) + 1) = (k : Int) + 1 := by unfold wrap64; omega
  have hwp : wrap64 ((pc : Int) + 1) = (pc : Int) + 1 := by unfold wrap64; omega
  have h1 : i ≤ 1000000 := by omega
  have h2 : k ≤ 1000000 := by omega
  obtain ⟨hv1, hv2⟩ := wrap_small (k := i) (by omega)
  obtain ⟨hu1, hu2⟩ := wrap_small (k := k) (by omega)
  have n1 : (dw == qw) = false := by simpa using hw
  have n2 : (dw != qw) = true := by simpa using hw
  clear hw
  clear hi hk h1 h2 hC hpc
  conv => arg 2; whnf
  go_wp2_with fail
  obtain ⟨WA, hWA⟩ : ∃ WA, wr.alloc (.cells #[.int .i64 0, .int .i64 dw, .int .i64 db, .int .i64 de, .int .u32 dr, .slice Ad di cd] 63) = WA := ⟨_, rfl⟩
  have hX : WA.heap[wr.heap.size]? = some (.cells #[.int .i64 0, .int .i64 dw, .int .i64 db, .int .i64 de, .int .u32 dr, .slice Ad di cd] 63 (0, 0)) := by rw [← hWA]; exact heap_alloc_new _ _
  have HA : Hid (Below wr.heap.size wr WA) := Lib.hid (by rw [← hWA]; exact (Below.refl _ wr).alloc (Nat.le_refl _) _)
  rw [hWA]
  have o0 := cell_of_row WA _ 0 _ _ _ hX
  have o1 := cell_of_row WA _ 1 _ _ _ hX
  have o3 := cell_of_row WA _ 3 _ _ _ hX
  have X1 := (HA.out.cell (block_lt_of_cell x1)).trans x1
  have X3 := (HA.out.cell (block_lt_of_cell x3)).trans x3
  clear hWA hX z0 z1 z2 z3 z4 z5 x1 x3
  go_quiet (fail)
  go_wp2_with fail
  (try simp only [hwk, hwp])
  exact hK _ _ _ _ _ _ _ _ _ _ _ _ _ _ _ _ _ _ _ _ _ _ _ _ _ _ _ _ _ _ _ _ _ _ _ _ _ _ _ _ _ _ _ _ _ _ _ _ _ _ _ (bl_drewN HA.out nq)
set_option maxHeartbeats 8000000 in
theorem in2_late {Q0 : Exit → Act → World → Prop} {K : Act → World → Prop} (wr : World) (b off C cc b0 ofe NE ce i k pc di cd : Nat) (Ad : Option Addr) (fa ds dw db de dr qw qe : Int) (hi : i < C) (hk : k < C) (hpc : pc ≤ k) (hC : C ≤ 48000) (x1 : wr.cell? ⟨b, off + i * 6 + 1, none⟩ = some (.int .i64 qw)) (x3 : wr.cell? ⟨b, off + i * 6 + 3, none⟩ = some (.int .i64 qe)) (z0 : wr.cell? ⟨b, off + k * 6, none⟩ = some (.int .i64 0)) (z1 : wr.cell? ⟨b, off + k * 6 + 1, none⟩ = some (.int .i64 dw)) (z2 : wr.cell? ⟨b, off + k * 6 + 2, none⟩ = some (.int .i64 db)) (z3 : wr.cell? ⟨b, off + k * 6 + 3, none⟩ = some (.int .i64 de)) (z4 : wr.cell? ⟨b, off + k * 6 + 4, none⟩ = some (.int .u32 dr)) (z5 : wr.cell? ⟨b, off + k * 6 + 5, none⟩ = some (.slice Ad di cd)) (hw : dw ≠ qw) (he : fa < de) (hq : ¬ qe < 0) (hd : ¬ de < qe) (v0 v1 v2 v3 v4 v5 v6 v7 v8 v9 v10 v11 v16 v19 v20 v21 v22 v23 v24 v25 v26 v27 v28 v29 v30 v31 v32 v33 v34 v35 v36 v37 v38 v39 v40 v41 v42 v43 v44 v45 v46 v47 v48 v49 v50 v51 v52 v53 v54 v55 v56 v57 v58 v59 v60 v61 v62 v63 v64 v65 v66 v67 v68 v69 v70 v71 v72 v73 v74 v75 v76 v77 v78 v79 v80 v81 v82 v83 v84 v85 v86 v87 v88 v89 v90 v91 v92 v93 v94 v95 v96 v97 v98 v99 v100 v101 v102 v103 v104 v105 v106 v107 v108 v109 v110 v111 v112 v113 v114 v115 v116 v117 v118 v119 v120 v121 v122 v123 v124 v125 v126 v127 v128 v129 v130 v131 v132 v133 v134 v135 v136 v137 v138 v139 v140 v141 v142 v143 v144 v145 v146 v147 v148 v149 v150 v151 v152 v153 v154 v155 v156 v157 v158 v159 v160 v161 v162 v163 v164 : Value)
    (hK : ∀ (u19 u114 u115 u116 u117 u118 u119 u120 u121 u122 u123 u124 u125 u126 u127 u128 u129 u130 u131 u132 u133 u134 u135 u136 u137 u138 u139 u140 u141 u142 u143 u144 u145 u146 u147 u148 u149 u150 u151 u152 u153 u154 u155 u156 u157 u158 u159 u160 u161 u162 : Value) (w' : World), Below wr.heap.size wr w' → K ⟨#[v0, v1, v2, v3, v4, v5, v6, v7, v8, v9, v10, v11, .slice (some ⟨b0, ofe, none⟩) NE ce, .slice (some ⟨b, off, none⟩) C cc, .int .i64 (i : Int), .int .i64 fa, v16, .int .i64 (pc : Int), .int .i64 ((k : Int) + 1), u19, v20, v21, v22, v23, v24, v25, v26, v27, v28, v29, v30, v31, v32, v33, v34, v35, v36, v37, v38, v39, v40, v41, v42, v43, v44, v45, v46, v47, v48, v49, v50, v51, v52, v53, v54, v55, v56, v57, v58, v59, v60, v61, v62, v63, v64, v65, v66, v67, v68, v69, v70, v71, v72, v73, v74, v75, v76, v77, v78, v79, v80, v81, v82, v83, v84, v85, v86, v87, v88, v89, v90, v91, v92, v93, v94, v95, v96, v97, v98, v99, v100, v101, v102, v103, v104, v105, v106, v107, v108, v109, v110, v111, v112, v113, u114, u115, u116, u117, u118, u119, u120, u121, u122, u123, u124, u125, u126, u127, u128, u129, u130, u131, u132, u133, u134, u135, u136, u137, u138, u139, u140, u141, u142, u143, u144, u145, u146, u147, u148, u149, u150, u151, u152, u153, u154, u155, u156, u157, u158, u159, u160, u161, u162, v163, v164], []⟩ w') :
    Code.wp Tryz.prog in2Body (Exit.then K Q0) ⟨#[v0, v1, v2, v3, v4, v5, v6, v7, v8, v9, v10, v11, .slice (some ⟨b0, ofe, none⟩) NE ce, .slice (some ⟨b, off, none⟩) C cc, .int .i64 (i : Int), .int .i64 fa, v16, .int .i64 (pc : Int), .int .i64 (k : Int), v19, v20, v21, v22, v23, v24, v25, v26, v27, v28, v29, v30, v31, v32, v33, v34, v35, v36, v37, v38, v39, v40, v41, v42, v43, v44, v45, v46, v47, v48, v49, v50, v51, v52, v53, v54, v55, v56, v57, v58, v59, v60, v61, v62, v63, v64, v65, v66, v67, v68, v69, v70, v71, v72, v73, v74, v75, v76, v77, v78, v79, v80, v81, v82, v83, v84, v85, v86, v87, v88, v89, v90, v91, v92, v93, v94, v95, v96, v97, v98, v99, v100, v101, v102, v103, v104, v105, v106, v107, v108, v109, v110, v111, v112, v113, v114, v115, v116, v117, v118, v119, v120, v121, v122, v123, v124, v125, v126, v127, v128, v129, v130, v131, v132, v133, v134, v135, v136, v137, v138, v139, v140, v141, v142, v143, v144, v145, v146, v147, v148, v149, v150, v151, v152, v153, v154, v155, v156, v157, v158, v159, v160, v161, v162, v163, v164], []⟩ wr := by
  have hkl : (k : Int) < (C : Int) := by omega
  have hil : (i : Int) < (C : Int) := by omega
  have hwk : wrap64 ((k : Int) + 1) = (k : Int) + 1 := by unfold wrap64; omega
  have hwp : wrap64 ((pc : Int) + 1) = (pc : Int) + 1 := by unfold wrap64; omega
  have h1 : i ≤ 1000000 := by omega
  have h2 : k ≤ 1000000 := by omega
  obtain ⟨hv1, hv2⟩ := wrap_small (k := i) (by omega)
  obtain ⟨hu1, hu2⟩ := wrap_small (k := k) (by omega)
  have n1 : (dw == qw) = false := by simpa using hw
  have n2 : (dw != qw) = true := by simpa using hw
  clear hw
  clear hi hk h1 h2 hC hpc
  conv => arg 2; whnf
  go_wp2_with fail
  obtain ⟨WA, hWA⟩ : ∃ WA, wr.alloc (.cells #[.int .i64 0, .int .i64 dw, .int .i64 db, .int .i64 de, .int .u32 dr, .slice Ad di cd] 63) = WA := ⟨_, rfl⟩
  have hX : WA.heap[wr.heap.size]? = some (.cells #[.int .i64 0, .int .i64 dw, .int .i64 db, .int .i64 de, .int .u32 dr, .slice Ad di cd] 63 (0, 0)) := by rw [← hWA]; exact heap_alloc_new _ _
  have HA : Hid (Below wr.heap.size wr WA) := Lib.hid (by rw [← hWA]; exact (Below.refl _ wr).alloc (Nat.le_refl _) _)
  rw [hWA]
  have o0 := cell_of_row WA _ 0 _ _ _ hX
  have o1 := cell_of_row WA _ 1 _ _ _ hX
  have o3 := cell_of_row WA _ 3 _ _ _ hX
  have X1 := (HA.out.cell (block_lt_of_cell x1)).trans x1
  have X3 := (HA.out.cell (block_lt_of_cell x3)).trans x3
  clear hWA hX z0 z1 z2 z3 z4 z5 x1 x3
  go_quiet (fail)
  go_wp2_with fail
  (try simp only [hwk, hwp])
  exact hK _ _ _ _ _ _ _ _ _ _ _ _ _ _ _ _ _ _ _ _ _ _ _ _ _ _ _ _ _ _ _ _ _ _ _ _ _ _ _ _ _ _ _ _ _ _ _ _ _ _ _ (bl_drewN HA.out nq)
end Go.Proofs.YtckmkaeopnnbbaaGreatDoor.As
