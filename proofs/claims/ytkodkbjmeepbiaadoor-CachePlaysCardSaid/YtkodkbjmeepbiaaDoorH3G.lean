/- The law's walk: the arm of Get. Conditions: the state ahead of it. -/
import Derived.Test.YtkodkbjmeepbiaaDoorH3A
set_option linter.unusedVariables false
set_option linter.unusedSimpArgs false
namespace Go.Proofs.YtkodkbjmeepbiaaDoor
open Go.RowKit
set_option maxRecDepth 100000 in
set_option maxHeartbeats 16000000 in
theorem arm_get (v0 v2 v3 v4 v5 v6 v7 v8 v9 v10 v15 v16 v17 v18 v19 v20 v21 v22 v23 v24 v25 v26 v27 v28 v29 v30 v31 v32 v33 v34 v35 v36 v37 v38 v39 v40 v41 v42 v43 v44 v45 v46 v47 v48 v49 v50 v51 v52 v53 v54 v55 v56 v57 v58 v59 v60 v61 v62 v63 v64 v65 v66 v67 v68 v69 v70 v71 v72 v73 v74 v75 v76 v77 v78 v79 v80 v81 v82 v83 v84 v85 v86 v87 v88 v89 v90 v91 v92 v93 v94 v95 v96 v97 v98 v99 v100 v101 v102 v103 v104 v105 v106 v107 v108 v109 v110 v111 v112 v113 v114 v115 v116 v117 v119 v120 v121 v122 v123 v124 v125 v126 v127 v128 v129 v130 v131 v132 v133 v134 v135 v136 v137 v138 v139 v140 v141 v142 v143 v144 v145 v146 v147 v148 v149 v150 v151 v152 v153 v154 v155 v156 v157 v158 v159 v160 v161 v162 v163 v164 v165 v166 v167 v168 v169 v170 v171 v172 v173 v174 v175 v176 v177 v178 v179 v180 v181 v182 v183 v184 v185 v186 v187 v188 v189 v190 v191 v192 v193 v194 v195 v196 v197 v198 v199 v200 v201 v202 v203 : Value) (w W7 : World) (g1 g2 b off k : Nat) (d0 : Nat) (ops : List OpV) (kd : Int) (Ap : Option Addr) (cp : Nat) (ps : List Page) (cap : Int) (l : List Page) (A : Option Addr) (c : Nat) (A' : Option Addr) (c' : Nat) (m : Int) (hm : m = 3)
    (K : Act → World → Prop) (hK : ∀ (y15 y16 y17 y18 y19 y20 y21 y22 y23 y119 y120 y121 y122 y123 y124 y125 y126 y127 y128 y129 y130 y131 y132 y133 y134 y135 y136 y137 y138 y139 y140 y141 y142 y143 y144 y145 y146 y147 y148 y149 y150 y151 y152 y153 y154 y155 y156 y157 y158 y159 y160 y161 y162 y163 y164 y165 y166 y167 y168 y169 y170 y171 y172 y173 y174 y175 y176 y177 y178 y179 y180 y181 y182 y183 : Value) (wc : World), PlayInv w g1 g2 wc → K ⟨(v0 :: Value.slice (some ⟨b, off, none⟩) ops.length d0 :: v2 :: v3 :: v4 :: v5 :: v6 :: v7 :: v8 :: v9 :: v10 :: Value.pointer (some ⟨g1, 0, none⟩) :: Value.pointer (some ⟨g2, 0, none⟩) :: Value.int .i64 k :: Value.slice Ap ps.length cp :: y15 :: y16 :: y17 :: y18 :: y19 :: y20 :: y21 :: y22 :: y23 :: v24 :: v25 :: v26 :: v27 :: v28 :: v29 :: v30 :: v31 :: v32 :: v33 :: v34 :: v35 :: v36 :: v37 :: v38 :: v39 :: v40 :: v41 :: v42 :: v43 :: v44 :: v45 :: v46 :: v47 :: v48 :: v49 :: v50 :: v51 :: v52 :: v53 :: v54 :: v55 :: v56 :: v57 :: v58 :: v59 :: v60 :: v61 :: v62 :: v63 :: v64 :: v65 :: v66 :: v67 :: v68 :: v69 :: v70 :: v71 :: v72 :: v73 :: v74 :: v75 :: v76 :: v77 :: v78 :: v79 :: v80 :: v81 :: v82 :: v83 :: v84 :: v85 :: v86 :: v87 :: v88 :: v89 :: v90 :: v91 :: v92 :: v93 :: v94 :: v95 :: v96 :: v97 :: v98 :: v99 :: v100 :: v101 :: v102 :: v103 :: v104 :: v105 :: v106 :: v107 :: v108 :: v109 :: v110 :: v111 :: v112 :: v113 :: v114 :: v115 :: v116 :: v117 :: Value.int .i64 m :: y119 :: y120 :: y121 :: y122 :: y123 :: y124 :: y125 :: y126 :: y127 :: y128 :: y129 :: y130 :: y131 :: y132 :: y133 :: y134 :: y135 :: y136 :: y137 :: y138 :: y139 :: y140 :: y141 :: y142 :: y143 :: y144 :: y145 :: y146 :: y147 :: y148 :: y149 :: y150 :: y151 :: y152 :: y153 :: y154 :: y155 :: y156 :: y157 :: y158 :: y159 :: y160 :: y161 :: y162 :: y163 :: y164 :: y165 :: y166 :: y167 :: y168 :: y169 :: y170 :: y171 :: y172 :: y173 :: y174 :: y175 :: y176 :: y177 :: y178 :: y179 :: y180 :: y181 :: y182 :: y183 :: v184 :: v185 :: v186 :: v187 :: v188 :: v189 :: v190 :: v191 :: v192 :: v193 :: v194 :: v195 :: v196 :: v197 :: v198 :: v199 :: v200 :: v201 :: v202 :: v203 :: []).toArray, []⟩ wc)
    (zg1 : w.heap.size ≤ g1) (zg2 : g1 < g2) (hj0 : (0 : Int) ≤ (k : Int)) (hj1 : (k : Int) < (ops.length : Int)) (hlt : k < ops.length) (q0 : W7.cell? ⟨b, off + k * 3, none⟩ = some (.int .i64 kd))
    (r1 : W7.heap[g1]? = some (.cells #[.int .i64 cap, .slice A l.length c] 24 (0, 0))) (r2 : W7.heap[g2]? = some (.cells #[.int .i64 cap, .slice A' l.length c'] 30 (0, 0)))
    (a1 : Apart W7 g1 g2 A c l) (a2 : Apart W7 g1 g2 A' c' l) (B : Below w.heap.size w W7) (hps : Sl W7 W7.heap.size 9 (.slice Ap ps.length cp) ps.length (ps.flatMap Page.cells)) (hpo' : ∀ p ∈ ps, p.ok) (hps12 : ps.length ≤ 12)
    (z1 : g1 < W7.heap.size) (z2 : g2 < W7.heap.size) (hln : l.length ≤ 300) (hok : ∀ p ∈ l, p.ok) :
    Code.wp Tryd.prog swCode (Exit.then K (fun _ _ _ => False)) ⟨(v0 :: Value.slice (some ⟨b, off, none⟩) ops.length d0 :: v2 :: v3 :: v4 :: v5 :: v6 :: v7 :: v8 :: v9 :: v10 :: Value.pointer (some ⟨g1, 0, none⟩) :: Value.pointer (some ⟨g2, 0, none⟩) :: Value.int .i64 k :: Value.slice Ap ps.length cp :: v15 :: v16 :: v17 :: v18 :: v19 :: v20 :: v21 :: v22 :: v23 :: v24 :: v25 :: v26 :: v27 :: v28 :: v29 :: v30 :: v31 :: v32 :: v33 :: v34 :: v35 :: v36 :: v37 :: v38 :: v39 :: v40 :: v41 :: v42 :: v43 :: v44 :: v45 :: v46 :: v47 :: v48 :: v49 :: v50 :: v51 :: v52 :: v53 :: v54 :: v55 :: v56 :: v57 :: v58 :: v59 :: v60 :: v61 :: v62 :: v63 :: v64 :: v65 :: v66 :: v67 :: v68 :: v69 :: v70 :: v71 :: v72 :: v73 :: v74 :: v75 :: v76 :: v77 :: v78 :: v79 :: v80 :: v81 :: v82 :: v83 :: v84 :: v85 :: v86 :: v87 :: v88 :: v89 :: v90 :: v91 :: v92 :: v93 :: v94 :: v95 :: v96 :: v97 :: v98 :: v99 :: v100 :: v101 :: v102 :: v103 :: v104 :: v105 :: v106 :: v107 :: v108 :: v109 :: v110 :: v111 :: v112 :: v113 :: v114 :: v115 :: v116 :: v117 :: Value.int .i64 m :: v119 :: v120 :: v121 :: v122 :: v123 :: v124 :: v125 :: v126 :: v127 :: v128 :: v129 :: v130 :: v131 :: v132 :: v133 :: v134 :: v135 :: v136 :: v137 :: v138 :: v139 :: v140 :: v141 :: v142 :: v143 :: v144 :: v145 :: v146 :: v147 :: v148 :: v149 :: v150 :: v151 :: v152 :: v153 :: v154 :: v155 :: v156 :: v157 :: v158 :: v159 :: v160 :: v161 :: v162 :: v163 :: v164 :: v165 :: v166 :: v167 :: v168 :: v169 :: v170 :: v171 :: v172 :: v173 :: v174 :: v175 :: v176 :: v177 :: v178 :: v179 :: v180 :: v181 :: v182 :: v183 :: v184 :: v185 :: v186 :: v187 :: v188 :: v189 :: v190 :: v191 :: v192 :: v193 :: v194 :: v195 :: v196 :: v197 :: v198 :: v199 :: v200 :: v201 :: v202 :: v203 :: []).toArray, []⟩ W7 := by
  have hwf : Wf l := fun p hp => (hok p hp).1
  conv => arg 2; whnf
  subst hm
  obtain ⟨k1, f1, _⟩ := blkw r1
  obtain ⟨k2, f2, _⟩ := blkw r2
  go_wp2_with fail
  generalize wrap64 (kd.tdiv 5) = kq
  refine (pick_any kq 14 W7 (by omega) (by omega)).mono ?_
  rintro e W8 ⟨rfl, rfl⟩
  have hq0 : 0 ≤ kq % 14 := by omega
  have hq1 : kq % 14 < 14 := by omega
  generalize kq % 14 = y at hq0 hq1 ⊢
  go_wp2_with fail
  refine (getA (g1 := g1) (g2 := g2) cap (95 + y) l W7 a1 hln hok z1 z2).mono ?_
  rintro e w8 ⟨A8, c8, rfl, P8, hb8⟩
  have hgl := got_len (cap := cap) (line := 95 + y) (l := l)
  have hgo := got_ok (cap := cap) (line := 95 + y) (l := l) hok
  have hRG := fun t h h2 z1 z2 => rgetA (A := A') (c := c') (g1 := g1) (g2 := g2) cap (95 + y) l t h hln h2 z1 z2
  generalize gotP cap l (95 + y) = p at hRG ⊢
  generalize gotL cap l (95 + y) = l' at P8 hgl hgo hRG ⊢
  generalize gotB cap l (95 + y) = bb at hRG ⊢
  have HRG := hide hRG
  have HLE := hide hgl
  clear hRG hgl
  have r18 := blkb hb8 r1 z1
  have r28 := blkb hb8 r2 z2
  have zz : g1 < w8.heap.size ∧ g2 < w8.heap.size := ⟨blk_lt r18, blk_lt r28⟩
  have t1 := blk_al (new0 w8 (.cells #[.int .i64 cap, .slice A8 l'.length c8] 24 (0, 0))) (.cells #[.int .i64 p.line, .int .u64 p.head, .int .u64 p.d0, .int .u64 p.d1, .int .u64 p.d2, .int .u64 p.d3, .int .u64 p.d4, .int .u64 p.d5, .int .u64 p.d6] 42 (0, 0))
  have x1 := new0 (w8.alloc (.cells #[.int .i64 cap, .slice A8 l'.length c8] 24 (0, 0))) (.cells #[.int .i64 p.line, .int .u64 p.head, .int .u64 p.d0, .int .u64 p.d1, .int .u64 p.d2, .int .u64 p.d3, .int .u64 p.d4, .int .u64 p.d5, .int .u64 p.d6] 42 (0, 0))
  have q1 := blk_al (blk_al r18 (.cells #[.int .i64 cap, .slice A8 l'.length c8] 24 (0, 0))) (.cells #[.int .i64 p.line, .int .u64 p.head, .int .u64 p.d0, .int .u64 p.d1, .int .u64 p.d2, .int .u64 p.d3, .int .u64 p.d4, .int .u64 p.d5, .int .u64 p.d6] 42 (0, 0))
  have q2 := blk_al (blk_al r28 (.cells #[.int .i64 cap, .slice A8 l'.length c8] 24 (0, 0))) (.cells #[.int .i64 p.line, .int .u64 p.head, .int .u64 p.d0, .int .u64 p.d1, .int .u64 p.d2, .int .u64 p.d3, .int .u64 p.d4, .int .u64 p.d5, .int .u64 p.d6] 42 (0, 0))
  have hbA := bl_al (bl_al hb8 (.cells #[.int .i64 cap, .slice A8 l'.length c8] 24 (0, 0))) (.cells #[.int .i64 p.line, .int .u64 p.head, .int .u64 p.d0, .int .u64 p.d1, .int .u64 p.d2, .int .u64 p.d3, .int .u64 p.d4, .int .u64 p.d5, .int .u64 p.d6] 42 (0, 0))
  have P8A := P8.on (bl_al (bl_al (Below.refl _ _) (.cells #[.int .i64 cap, .slice A8 l'.length c8] 24 (0, 0))) (.cells #[.int .i64 p.line, .int .u64 p.head, .int .u64 p.d0, .int .u64 p.d1, .int .u64 p.d2, .int .u64 p.d3, .int .u64 p.d4, .int .u64 p.d5, .int .u64 p.d6] 42 (0, 0)))
  obtain ⟨k28, f28, _⟩ := blkw r28
  clear k1 f1 k2 f2
  have hx : (w8.alloc (.cells #[.int .i64 cap, .slice A8 l'.length c8] 24 (0, 0))).heap.size = w8.heap.size + 1 := by simp
  rw [hx] at x1
  clear hx
  go_wp2_with fail
  generalize hWA : (w8.alloc (.cells #[.int .i64 cap, .slice A8 l'.length c8] 24 (0, 0))).alloc (.cells #[.int .i64 p.line, .int .u64 p.head, .int .u64 p.d0, .int .u64 p.d1, .int .u64 p.d2, .int .u64 p.d3, .int .u64 p.d4, .int .u64 p.d5, .int .u64 p.d6] 42 (0, 0)) = WA at t1 x1 q1 q2 hbA P8A ⊢
  clear hWA k28 f28 r18 r28 P8 hb8
  generalize w8.heap.size = g3 at t1 x1 zz ⊢
  refine (HRG.out WA (a2.on hbA) hok (blk_lt q1) (blk_lt q2)).mono ?_
  rintro e w9 ⟨A9, c9, rfl, P9, hb9⟩
  have PX : ∀ X : World, (X.alloc (.cells #[.int .i64 p.line, .int .u64 p.head, .int .u64 p.d0, .int .u64 p.d1, .int .u64 p.d2, .int .u64 p.d3, .int .u64 p.d4, .int .u64 p.d5, .int .u64 p.d6] 42 (0, 0))).heap.size = X.heap.size + 1 := fun X => by simp
  have CX : ∀ X : World, (X.alloc (.cells #[.int .i64 cap, .slice A9 l'.length c9] 30 (0, 0))).heap.size = X.heap.size + 1 := fun X => by simp
  have t2 := blkb hb9 t1 (blk_lt t1)
  have x2 := blkb hb9 x1 (blk_lt x1)
  have q3 := blkb hb9 q1 (blk_lt q1)
  have q4 := blkb hb9 q2 (blk_lt q2)
  have hbB := bl_on hbA hb9
  have zz4 : g1 < w9.heap.size ∧ g2 < w9.heap.size := ⟨blk_lt q3, blk_lt q4⟩
  have P8B := P8A.on hb9
  clear t1 x1 q1 q2 hbA P8A hb9
  have n1 := blk_al (new0 w9 (.cells #[.int .i64 cap, .slice A9 l'.length c9] 30 (0, 0))) (.cells #[.int .i64 p.line, .int .u64 p.head, .int .u64 p.d0, .int .u64 p.d1, .int .u64 p.d2, .int .u64 p.d3, .int .u64 p.d4, .int .u64 p.d5, .int .u64 p.d6] 42 (0, 0))
  have y1 := new0 (w9.alloc (.cells #[.int .i64 cap, .slice A9 l'.length c9] 30 (0, 0))) (.cells #[.int .i64 p.line, .int .u64 p.head, .int .u64 p.d0, .int .u64 p.d1, .int .u64 p.d2, .int .u64 p.d3, .int .u64 p.d4, .int .u64 p.d5, .int .u64 p.d6] 42 (0, 0))
  rw [CX] at y1
  replace t2 := blk_al (blk_al t2 (.cells #[.int .i64 cap, .slice A9 l'.length c9] 30 (0, 0))) (.cells #[.int .i64 p.line, .int .u64 p.head, .int .u64 p.d0, .int .u64 p.d1, .int .u64 p.d2, .int .u64 p.d3, .int .u64 p.d4, .int .u64 p.d5, .int .u64 p.d6] 42 (0, 0))
  replace x2 := blk_al (blk_al x2 (.cells #[.int .i64 cap, .slice A9 l'.length c9] 30 (0, 0))) (.cells #[.int .i64 p.line, .int .u64 p.head, .int .u64 p.d0, .int .u64 p.d1, .int .u64 p.d2, .int .u64 p.d3, .int .u64 p.d4, .int .u64 p.d5, .int .u64 p.d6] 42 (0, 0))
  replace q3 := blk_al (blk_al q3 (.cells #[.int .i64 cap, .slice A9 l'.length c9] 30 (0, 0))) (.cells #[.int .i64 p.line, .int .u64 p.head, .int .u64 p.d0, .int .u64 p.d1, .int .u64 p.d2, .int .u64 p.d3, .int .u64 p.d4, .int .u64 p.d5, .int .u64 p.d6] 42 (0, 0))
  replace q4 := blk_al (blk_al q4 (.cells #[.int .i64 cap, .slice A9 l'.length c9] 30 (0, 0))) (.cells #[.int .i64 p.line, .int .u64 p.head, .int .u64 p.d0, .int .u64 p.d1, .int .u64 p.d2, .int .u64 p.d3, .int .u64 p.d4, .int .u64 p.d5, .int .u64 p.d6] 42 (0, 0))
  replace hbB := bl_al (bl_al hbB (.cells #[.int .i64 cap, .slice A9 l'.length c9] 30 (0, 0))) (.cells #[.int .i64 p.line, .int .u64 p.head, .int .u64 p.d0, .int .u64 p.d1, .int .u64 p.d2, .int .u64 p.d3, .int .u64 p.d4, .int .u64 p.d5, .int .u64 p.d6] 42 (0, 0))
  have P8C := P8B.on (bl_al (bl_al (Below.refl _ _) (.cells #[.int .i64 cap, .slice A9 l'.length c9] 30 (0, 0))) (.cells #[.int .i64 p.line, .int .u64 p.head, .int .u64 p.d0, .int .u64 p.d1, .int .u64 p.d2, .int .u64 p.d3, .int .u64 p.d4, .int .u64 p.d5, .int .u64 p.d6] 42 (0, 0)))
  have P9C := P9.on (bl_al (bl_al (Below.refl _ _) (.cells #[.int .i64 cap, .slice A9 l'.length c9] 30 (0, 0))) (.cells #[.int .i64 p.line, .int .u64 p.head, .int .u64 p.d0, .int .u64 p.d1, .int .u64 p.d2, .int .u64 p.d3, .int .u64 p.d4, .int .u64 p.d5, .int .u64 p.d6] 42 (0, 0)))
  clear P8B P9
  go_upto_region 22 with fail
  have hsz : ((w9.alloc (.cells #[.int .i64 cap, .slice A9 l'.length c9] 30 (0, 0))).alloc (.cells #[.int .i64 p.line, .int .u64 p.head, .int .u64 p.d0, .int .u64 p.d1, .int .u64 p.d2, .int .u64 p.d3, .int .u64 p.d4, .int .u64 p.d5, .int .u64 p.d6] 42 (0, 0))).heap.size = w9.heap.size + 2 := by simp
  generalize (w9.alloc (.cells #[.int .i64 cap, .slice A9 l'.length c9] 30 (0, 0))).alloc (.cells #[.int .i64 p.line, .int .u64 p.head, .int .u64 p.d0, .int .u64 p.d1, .int .u64 p.d2, .int .u64 p.d3, .int .u64 p.d4, .int .u64 p.d5, .int .u64 p.d6] 42 (0, 0)) = WB at n1 y1 t2 x2 q3 q4 hbB P8C P9C hsz ⊢
  have hne := hide hsz
  clear hsz
  generalize w9.heap.size = g4 at n1 y1 hne zz4 ⊢
  obtain ⟨kx, fx, zx⟩ := blkw x2
  obtain ⟨ky, fy, zy⟩ := blkw y1
  have S1 := (box_page WB p).on (bl_al (Below.refl _ _) (.cells #[.int .i64 p.line, .int .u64 p.head, .int .u64 p.d0, .int .u64 p.d1, .int .u64 p.d2, .int .u64 p.d3, .int .u64 p.d4, .int .u64 p.d5, .int .u64 p.d6] 42 (0, 0)))
  have S2 := box_page (WB.alloc (.cells #[.int .i64 p.line, .int .u64 p.head, .int .u64 p.d0, .int .u64 p.d1, .int .u64 p.d2, .int .u64 p.d3, .int .u64 p.d4, .int .u64 p.d5, .int .u64 p.d6] 42 (0, 0))) p
  rw [PX WB] at S2
  have HSS := hide (And.intro S1 S2)
  clear S1 S2
  have hbb : (bb != bb) = false := by simp
  cases bb
  all_goals go_wp2_with fail
  all_goals refine (samePages_any _ _ [p] _ HSS.out.1 HSS.out.2 (by simp)).mono ?_
  all_goals rintro e w11 ⟨rfl, hb11⟩
  all_goals have n3 := blkb hb11 (blk_al (blk_al n1 (.cells #[.int .i64 p.line, .int .u64 p.head, .int .u64 p.d0, .int .u64 p.d1, .int .u64 p.d2, .int .u64 p.d3, .int .u64 p.d4, .int .u64 p.d5, .int .u64 p.d6] 42 (0, 0))) (.cells #[.int .i64 p.line, .int .u64 p.head, .int .u64 p.d0, .int .u64 p.d1, .int .u64 p.d2, .int .u64 p.d3, .int .u64 p.d4, .int .u64 p.d5, .int .u64 p.d6] 42 (0, 0))) (blk_lt (blk_al (blk_al n1 (.cells #[.int .i64 p.line, .int .u64 p.head, .int .u64 p.d0, .int .u64 p.d1, .int .u64 p.d2, .int .u64 p.d3, .int .u64 p.d4, .int .u64 p.d5, .int .u64 p.d6] 42 (0, 0))) (.cells #[.int .i64 p.line, .int .u64 p.head, .int .u64 p.d0, .int .u64 p.d1, .int .u64 p.d2, .int .u64 p.d3, .int .u64 p.d4, .int .u64 p.d5, .int .u64 p.d6] 42 (0, 0))))
  all_goals have t3 := blkb hb11 (blk_al (blk_al t2 (.cells #[.int .i64 p.line, .int .u64 p.head, .int .u64 p.d0, .int .u64 p.d1, .int .u64 p.d2, .int .u64 p.d3, .int .u64 p.d4, .int .u64 p.d5, .int .u64 p.d6] 42 (0, 0))) (.cells #[.int .i64 p.line, .int .u64 p.head, .int .u64 p.d0, .int .u64 p.d1, .int .u64 p.d2, .int .u64 p.d3, .int .u64 p.d4, .int .u64 p.d5, .int .u64 p.d6] 42 (0, 0))) (blk_lt (blk_al (blk_al t2 (.cells #[.int .i64 p.line, .int .u64 p.head, .int .u64 p.d0, .int .u64 p.d1, .int .u64 p.d2, .int .u64 p.d3, .int .u64 p.d4, .int .u64 p.d5, .int .u64 p.d6] 42 (0, 0))) (.cells #[.int .i64 p.line, .int .u64 p.head, .int .u64 p.d0, .int .u64 p.d1, .int .u64 p.d2, .int .u64 p.d3, .int .u64 p.d4, .int .u64 p.d5, .int .u64 p.d6] 42 (0, 0))))
  all_goals have q5 := blkb hb11 (blk_al (blk_al q3 (.cells #[.int .i64 p.line, .int .u64 p.head, .int .u64 p.d0, .int .u64 p.d1, .int .u64 p.d2, .int .u64 p.d3, .int .u64 p.d4, .int .u64 p.d5, .int .u64 p.d6] 42 (0, 0))) (.cells #[.int .i64 p.line, .int .u64 p.head, .int .u64 p.d0, .int .u64 p.d1, .int .u64 p.d2, .int .u64 p.d3, .int .u64 p.d4, .int .u64 p.d5, .int .u64 p.d6] 42 (0, 0))) (blk_lt (blk_al (blk_al q3 (.cells #[.int .i64 p.line, .int .u64 p.head, .int .u64 p.d0, .int .u64 p.d1, .int .u64 p.d2, .int .u64 p.d3, .int .u64 p.d4, .int .u64 p.d5, .int .u64 p.d6] 42 (0, 0))) (.cells #[.int .i64 p.line, .int .u64 p.head, .int .u64 p.d0, .int .u64 p.d1, .int .u64 p.d2, .int .u64 p.d3, .int .u64 p.d4, .int .u64 p.d5, .int .u64 p.d6] 42 (0, 0))))
  all_goals have q6 := blkb hb11 (blk_al (blk_al q4 (.cells #[.int .i64 p.line, .int .u64 p.head, .int .u64 p.d0, .int .u64 p.d1, .int .u64 p.d2, .int .u64 p.d3, .int .u64 p.d4, .int .u64 p.d5, .int .u64 p.d6] 42 (0, 0))) (.cells #[.int .i64 p.line, .int .u64 p.head, .int .u64 p.d0, .int .u64 p.d1, .int .u64 p.d2, .int .u64 p.d3, .int .u64 p.d4, .int .u64 p.d5, .int .u64 p.d6] 42 (0, 0))) (blk_lt (blk_al (blk_al q4 (.cells #[.int .i64 p.line, .int .u64 p.head, .int .u64 p.d0, .int .u64 p.d1, .int .u64 p.d2, .int .u64 p.d3, .int .u64 p.d4, .int .u64 p.d5, .int .u64 p.d6] 42 (0, 0))) (.cells #[.int .i64 p.line, .int .u64 p.head, .int .u64 p.d0, .int .u64 p.d1, .int .u64 p.d2, .int .u64 p.d3, .int .u64 p.d4, .int .u64 p.d5, .int .u64 p.d6] 42 (0, 0))))
  all_goals have hbC := bl_on (bl_al (bl_al hbB (.cells #[.int .i64 p.line, .int .u64 p.head, .int .u64 p.d0, .int .u64 p.d1, .int .u64 p.d2, .int .u64 p.d3, .int .u64 p.d4, .int .u64 p.d5, .int .u64 p.d6] 42 (0, 0))) (.cells #[.int .i64 p.line, .int .u64 p.head, .int .u64 p.d0, .int .u64 p.d1, .int .u64 p.d2, .int .u64 p.d3, .int .u64 p.d4, .int .u64 p.d5, .int .u64 p.d6] 42 (0, 0))) hb11
  all_goals have hbD := bl_on (bl_al (bl_al (Below.refl WB.heap.size WB) (.cells #[.int .i64 p.line, .int .u64 p.head, .int .u64 p.d0, .int .u64 p.d1, .int .u64 p.d2, .int .u64 p.d3, .int .u64 p.d4, .int .u64 p.d5, .int .u64 p.d6] 42 (0, 0))) (.cells #[.int .i64 p.line, .int .u64 p.head, .int .u64 p.d0, .int .u64 p.d1, .int .u64 p.d2, .int .u64 p.d3, .int .u64 p.d4, .int .u64 p.d5, .int .u64 p.d6] 42 (0, 0))) hb11
  all_goals have P8D := P8C.on hbD
  all_goals have P9D := P9C.on hbD
  all_goals clear n1 t2 q3 q4 hbB P8C P9C hbD hb11 kx fx zx ky fy zy x2 y1 hbb
  all_goals obtain ⟨kn, fn, _⟩ := blkw n3
  all_goals obtain ⟨kt, ft, _⟩ := blkw t3
  all_goals obtain ⟨k1, f1, _⟩ := blkw q5
  all_goals obtain ⟨k2, f2, _⟩ := blkw q6
  all_goals have e31 : ¬ g3 = g1 := by omega
  all_goals have e32 : ¬ g3 = g2 := by omega
  all_goals have e41 : ¬ g4 = g1 := by omega
  all_goals have e42 : ¬ g4 = g2 := by omega
  all_goals have e12 : ¬ g2 = g1 := by omega
  all_goals go_upto_region 24 with fail
  all_goals go_region
  all_goals have E := play_drew (play_end (cap := cap) (bl_on B hbC) zg1 zg2 q5 q6 rfl rfl P8D P9D (by rw [HLE.out]; exact hln) hgo)
  all_goals clear kn fn kt ft k1 f1 k2 f2 n3 t3 q5 q6 P8D P9D
  all_goals go_wp2_with fail
  all_goals exact E
end Go.Proofs.YtkodkbjmeepbiaaDoor
