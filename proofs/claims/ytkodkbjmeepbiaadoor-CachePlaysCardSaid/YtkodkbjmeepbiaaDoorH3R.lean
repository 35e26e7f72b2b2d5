/- The law's walk: the test behind an operation. Conditions: the state ahead of it. -/
import Derived.Test.YtkodkbjmeepbiaaDoorH3A
set_option linter.unusedVariables false
set_option linter.unusedSimpArgs false
namespace Go.Proofs.YtkodkbjmeepbiaaDoor
open Go.RowKit
set_option maxRecDepth 100000 in
set_option maxHeartbeats 16000000 in
theorem arm_rest (v0 v1 v2 v3 v4 v5 v6 v7 v8 v9 v10 v13 v14 v15 v16 v17 v18 v19 v20 v21 v22 v23 v24 v25 v26 v27 v28 v29 v30 v31 v32 v33 v34 v35 v36 v37 v38 v39 v40 v41 v42 v43 v44 v45 v46 v47 v48 v49 v50 v51 v52 v53 v54 v55 v56 v57 v58 v59 v60 v61 v62 v63 v64 v65 v66 v67 v68 v69 v70 v71 v72 v73 v74 v75 v76 v77 v78 v79 v80 v81 v82 v83 v84 v85 v86 v87 v88 v89 v90 v91 v92 v93 v94 v95 v96 v97 v98 v99 v100 v101 v102 v103 v104 v105 v106 v107 v108 v109 v110 v111 v112 v113 v114 v115 v116 v117 v118 v119 v120 v121 v122 v123 v124 v125 v126 v127 v128 v129 v130 v131 v132 v133 v134 v135 v136 v137 v138 v139 v140 v141 v142 v143 v144 v145 v146 v147 v148 v149 v150 v151 v152 v153 v154 v155 v156 v157 v158 v159 v160 v161 v162 v163 v164 v165 v166 v167 v168 v169 v170 v171 v172 v173 v174 v175 v176 v177 v178 v179 v180 v181 v182 v183 v184 v185 v186 v187 v188 v189 v190 v191 v192 v193 v194 v195 v196 v197 v198 v199 v200 v201 v202 v203 : Value) (w wc : World) (g1 g2 : Nat) (cap : Int) (l : List Page) (A : Option Addr) (c : Nat) (A' : Option Addr) (c' : Nat)
    (K : Act → World → Prop) (hK : ∀ (y184 y185 y186 y187 y188 y189 y190 y191 y192 y193 y194 : Value) (wd : World), PlayInv w g1 g2 wd → K ⟨(v0 :: v1 :: v2 :: v3 :: v4 :: v5 :: v6 :: v7 :: v8 :: v9 :: v10 :: Value.pointer (some ⟨g1, 0, none⟩) :: Value.pointer (some ⟨g2, 0, none⟩) :: v13 :: v14 :: v15 :: v16 :: v17 :: v18 :: v19 :: v20 :: v21 :: v22 :: v23 :: v24 :: v25 :: v26 :: v27 :: v28 :: v29 :: v30 :: v31 :: v32 :: v33 :: v34 :: v35 :: v36 :: v37 :: v38 :: v39 :: v40 :: v41 :: v42 :: v43 :: v44 :: v45 :: v46 :: v47 :: v48 :: v49 :: v50 :: v51 :: v52 :: v53 :: v54 :: v55 :: v56 :: v57 :: v58 :: v59 :: v60 :: v61 :: v62 :: v63 :: v64 :: v65 :: v66 :: v67 :: v68 :: v69 :: v70 :: v71 :: v72 :: v73 :: v74 :: v75 :: v76 :: v77 :: v78 :: v79 :: v80 :: v81 :: v82 :: v83 :: v84 :: v85 :: v86 :: v87 :: v88 :: v89 :: v90 :: v91 :: v92 :: v93 :: v94 :: v95 :: v96 :: v97 :: v98 :: v99 :: v100 :: v101 :: v102 :: v103 :: v104 :: v105 :: v106 :: v107 :: v108 :: v109 :: v110 :: v111 :: v112 :: v113 :: v114 :: v115 :: v116 :: v117 :: v118 :: v119 :: v120 :: v121 :: v122 :: v123 :: v124 :: v125 :: v126 :: v127 :: v128 :: v129 :: v130 :: v131 :: v132 :: v133 :: v134 :: v135 :: v136 :: v137 :: v138 :: v139 :: v140 :: v141 :: v142 :: v143 :: v144 :: v145 :: v146 :: v147 :: v148 :: v149 :: v150 :: v151 :: v152 :: v153 :: v154 :: v155 :: v156 :: v157 :: v158 :: v159 :: v160 :: v161 :: v162 :: v163 :: v164 :: v165 :: v166 :: v167 :: v168 :: v169 :: v170 :: v171 :: v172 :: v173 :: v174 :: v175 :: v176 :: v177 :: v178 :: v179 :: v180 :: v181 :: v182 :: v183 :: y184 :: y185 :: y186 :: y187 :: y188 :: y189 :: y190 :: y191 :: y192 :: y193 :: y194 :: Value.bool false :: v196 :: v197 :: v198 :: v199 :: v200 :: v201 :: v202 :: v203 :: []).toArray, []⟩ wd) (hg : NoneIs w)
    (B : Below w.heap.size w wc) (r1 : wc.heap[g1]? = some (.cells #[.int .i64 cap, .slice A l.length c] 24 (0, 0))) (r2 : wc.heap[g2]? = some (.cells #[.int .i64 cap, .slice A' l.length c'] 30 (0, 0)))
    (a1 : Apart wc g1 g2 A c l) (a2 : Apart wc g1 g2 A' c' l) (hln : l.length ≤ 300) (hok : ∀ p ∈ l, p.ok) :
    Code.wp Tryd.prog restCode (Exit.then K (fun _ _ _ => False)) ⟨(v0 :: v1 :: v2 :: v3 :: v4 :: v5 :: v6 :: v7 :: v8 :: v9 :: v10 :: Value.pointer (some ⟨g1, 0, none⟩) :: Value.pointer (some ⟨g2, 0, none⟩) :: v13 :: v14 :: v15 :: v16 :: v17 :: v18 :: v19 :: v20 :: v21 :: v22 :: v23 :: v24 :: v25 :: v26 :: v27 :: v28 :: v29 :: v30 :: v31 :: v32 :: v33 :: v34 :: v35 :: v36 :: v37 :: v38 :: v39 :: v40 :: v41 :: v42 :: v43 :: v44 :: v45 :: v46 :: v47 :: v48 :: v49 :: v50 :: v51 :: v52 :: v53 :: v54 :: v55 :: v56 :: v57 :: v58 :: v59 :: v60 :: v61 :: v62 :: v63 :: v64 :: v65 :: v66 :: v67 :: v68 :: v69 :: v70 :: v71 :: v72 :: v73 :: v74 :: v75 :: v76 :: v77 :: v78 :: v79 :: v80 :: v81 :: v82 :: v83 :: v84 :: v85 :: v86 :: v87 :: v88 :: v89 :: v90 :: v91 :: v92 :: v93 :: v94 :: v95 :: v96 :: v97 :: v98 :: v99 :: v100 :: v101 :: v102 :: v103 :: v104 :: v105 :: v106 :: v107 :: v108 :: v109 :: v110 :: v111 :: v112 :: v113 :: v114 :: v115 :: v116 :: v117 :: v118 :: v119 :: v120 :: v121 :: v122 :: v123 :: v124 :: v125 :: v126 :: v127 :: v128 :: v129 :: v130 :: v131 :: v132 :: v133 :: v134 :: v135 :: v136 :: v137 :: v138 :: v139 :: v140 :: v141 :: v142 :: v143 :: v144 :: v145 :: v146 :: v147 :: v148 :: v149 :: v150 :: v151 :: v152 :: v153 :: v154 :: v155 :: v156 :: v157 :: v158 :: v159 :: v160 :: v161 :: v162 :: v163 :: v164 :: v165 :: v166 :: v167 :: v168 :: v169 :: v170 :: v171 :: v172 :: v173 :: v174 :: v175 :: v176 :: v177 :: v178 :: v179 :: v180 :: v181 :: v182 :: v183 :: v184 :: v185 :: v186 :: v187 :: v188 :: v189 :: v190 :: v191 :: v192 :: v193 :: v194 :: v195 :: v196 :: v197 :: v198 :: v199 :: v200 :: v201 :: v202 :: v203 :: []).toArray, []⟩ wc := by
  conv => arg 2; whnf
  have hwf : Wf l := fun p hp => (hok p hp).1
  have hhl := hintsL_len cap l
  obtain ⟨k1, f1, z1⟩ := blkw r1
  obtain ⟨k2, f2, z2⟩ := blkw r2
  have B1 : Below wc.heap.size wc wc.drew := bl_drew (Below.refl _ _)
  have z1' : g1 < wc.drew.heap.size := z1
  have z2' : g2 < wc.drew.heap.size := z2
  go_region_law (first
    | (go_simp; go_at_call 17; refine (same_any cap _ _ l _ (a1.1.on B1) (a2.1.on B1) (by omega)).mono ?_
       rintro e w8 ⟨rfl, hb8⟩
       have r18 := blkb hb8 (W := wc.drew) r1 z1
       have r28 := blkb hb8 (W := wc.drew) r2 z2
       obtain ⟨k18, _, _⟩ := blkw r18
       obtain ⟨k28, _, _⟩ := blkw r28
       have b8 := bl_on B1 hb8
       dsimp only)
    | (go_simp; go_at_call 18; refine (hints_any _ cap l w8 (a1.1.on b8) (by omega) hok (hg.on (bl_on B b8))).mono ?_
       rintro e w9 ⟨v9, rfl, O9, hb9⟩
       have r19 := blkb hb9 r18 (blk_lt r18)
       have r29 := blkb hb9 r28 (blk_lt r28)
       obtain ⟨k19, _, _⟩ := blkw r19
       obtain ⟨k29, _, _⟩ := blkw r29
       have b9 := bl_on b8 hb9
       have S9 := Sl.of_own O9
       clear O9
       dsimp only)
    | (go_simp; go_at_call 19; refine (rhints_any _ cap l w9 (a2.1.on b9) (by omega) hok).mono ?_
       rintro e w10 ⟨v10, rfl, O10, hb10⟩
       have b10 := bl_on b9 hb10
       have S10 := Sl.of_own O10
       clear O10
       dsimp only)
    | (go_simp; go_at_call 12; refine (samePages_any v9 v10 (hintsL cap l) w10 (S9.on hb10) S10 (by omega)).mono ?_
       rintro e w11 ⟨rfl, hb11⟩
       have b11 := bl_on b10 hb11
       dsimp only))
  all_goals (have E : PlayInv w g1 g2 w11 := ⟨bl_on B b11, cap, l, A, c, A', c', blkb b11 r1 z1, blkb b11 r2 z2, a1.on b11, a2.on b11, hln, hok⟩)
  all_goals first | exact E | (go_wp2_with fail; exact E)
end Go.Proofs.YtkodkbjmeepbiaaDoor
