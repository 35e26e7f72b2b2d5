/- The law's walk: the arm of Drop. Conditions: the state ahead of it. -/
import Derived.Test.YtkodkbjmeepbiaaDoorH3A
set_option linter.unusedVariables false
set_option linter.unusedSimpArgs false
namespace Go.Proofs.YtkodkbjmeepbiaaDoor
open Go.RowKit
set_option maxRecDepth 100000 in
set_option maxHeartbeats 16000000 in
theorem arm_drop (v0 v2 v3 v4 v5 v6 v7 v8 v9 v10 v15 v16 v17 v18 v19 v20 v21 v22 v23 v24 v25 v26 v27 v28 v29 v30 v31 v32 v33 v34 v35 v36 v37 v38 v39 v40 v41 v42 v43 v44 v45 v46 v47 v48 v49 v50 v51 v52 v53 v54 v55 v56 v57 v58 v59 v60 v61 v62 v63 v64 v65 v66 v67 v68 v69 v70 v71 v72 v73 v74 v75 v76 v77 v78 v79 v80 v81 v82 v83 v84 v85 v86 v87 v88 v89 v90 v91 v92 v93 v94 v95 v96 v97 v98 v99 v100 v101 v102 v103 v104 v105 v106 v107 v108 v109 v110 v111 v112 v113 v114 v115 v116 v117 v119 v120 v121 v122 v123 v124 v125 v126 v127 v128 v129 v130 v131 v132 v133 v134 v135 v136 v137 v138 v139 v140 v141 v142 v143 v144 v145 v146 v147 v148 v149 v150 v151 v152 v153 v154 v155 v156 v157 v158 v159 v160 v161 v162 v163 v164 v165 v166 v167 v168 v169 v170 v171 v172 v173 v174 v175 v176 v177 v178 v179 v180 v181 v182 v183 v184 v185 v186 v187 v188 v189 v190 v191 v192 v193 v194 v195 v196 v197 v198 v199 v200 v201 v202 v203 : Value) (w W7 : World) (g1 g2 b off k : Nat) (d0 : Nat) (ops : List OpV) (kd : Int) (Ap : Option Addr) (cp : Nat) (ps : List Page) (cap : Int) (l : List Page) (A : Option Addr) (c : Nat) (A' : Option Addr) (c' : Nat) (m : Int) (hm : m = 4)
    (K : Act → World → Prop) (hK : ∀ (y15 y16 y17 y18 y19 y20 y21 y22 y23 y119 y120 y121 y122 y123 y124 y125 y126 y127 y128 y129 y130 y131 y132 y133 y134 y135 y136 y137 y138 y139 y140 y141 y142 y143 y144 y145 y146 y147 y148 y149 y150 y151 y152 y153 y154 y155 y156 y157 y158 y159 y160 y161 y162 y163 y164 y165 y166 y167 y168 y169 y170 y171 y172 y173 y174 y175 y176 y177 y178 y179 y180 y181 y182 y183 : Value) (wc : World), PlayInv w g1 g2 wc → K ⟨(v0 :: Value.slice (some ⟨b, off, none⟩) ops.length d0 :: v2 :: v3 :: v4 :: v5 :: v6 :: v7 :: v8 :: v9 :: v10 :: Value.pointer (some ⟨g1, 0, none⟩) :: Value.pointer (some ⟨g2, 0, none⟩) :: Value.int .i64 k :: Value.slice Ap ps.length cp :: y15 :: y16 :: y17 :: y18 :: y19 :: y20 :: y21 :: y22 :: y23 :: v24 :: v25 :: v26 :: v27 :: v28 :: v29 :: v30 :: v31 :: v32 :: v33 :: v34 :: v35 :: v36 :: v37 :: v38 :: v39 :: v40 :: v41 :: v42 :: v43 :: v44 :: v45 :: v46 :: v47 :: v48 :: v49 :: v50 :: v51 :: v52 :: v53 :: v54 :: v55 :: v56 :: v57 :: v58 :: v59 :: v60 :: v61 :: v62 :: v63 :: v64 :: v65 :: v66 :: v67 :: v68 :: v69 :: v70 :: v71 :: v72 :: v73 :: v74 :: v75 :: v76 :: v77 :: v78 :: v79 :: v80 :: v81 :: v82 :: v83 :: v84 :: v85 :: v86 :: v87 :: v88 :: v89 :: v90 :: v91 :: v92 :: v93 :: v94 :: v95 :: v96 :: v97 :: v98 :: v99 :: v100 :: v101 :: v102 :: v103 :: v104 :: v105 :: v106 :: v107 :: v108 :: v109 :: v110 :: v111 :: v112 :: v113 :: v114 :: v115 :: v116 :: v117 :: Value.int .i64 m :: y119 :: y120 :: y121 :: y122 :: y123 :: y124 :: y125 :: y126 :: y127 :: y128 :: y129 :: y130 :: y131 :: y132 :: y133 :: y134 :: y135 :: y136 :: y137 :: y138 :: y139 :: y140 :: y141 :: y142 :: y143 :: y144 :: y145 :: y146 :: y147 :: y148 :: y149 :: y150 :: y151 :: y152 :: y153 :: y154 :: y155 :: y156 :: y157 :: y158 :: y159 :: y160 :: y161 :: y162 :: y163 :: y164 :: y165 :: y166 :: y167 :: y168 :: y169 :: y170 :: y171 :: y172 :: y173 :: y174 :: y175 :: y176 :: y177 :: y178 :: y179 :: y180 :: y181 :: y182 :: y183 :: v184 :: v185 :: v186 :: v187 :: v188 :: v189 :: v190 :: v191 :: v192 :: v193 :: v194 :: v195 :: v196 :: v197 :: v198 :: v199 :: v200 :: v201 :: v202 :: v203 :: []).toArray, []⟩ wc)
    (zg1 : w.heap.size ≤ g1) (zg2 : g1 < g2) (hj0 : (0 : Int) ≤ (k : Int)) (hj1 : (k : Int) < (ops.length : Int)) (hlt : k < ops.length) (q0 : W7.cell? ⟨b, off + k * 3, none⟩ = some (.int .i64 kd))
    (r1 : W7.heap[g1]? = some (.cells #[.int .i64 cap, .slice A l.length c] 24 (0, 0))) (r2 : W7.heap[g2]? = some (.cells #[.int .i64 cap, .slice A' l.length c'] 30 (0, 0)))
    (a1 : Apart W7 g1 g2 A c l) (a2 : Apart W7 g1 g2 A' c' l) (B : Below w.heap.size w W7) (hps : Sl W7 W7.heap.size 9 (.slice Ap ps.length cp) ps.length (ps.flatMap Page.cells)) (hpo' : ∀ p ∈ ps, p.ok) (hps12 : ps.length ≤ 12)
    (z1 : g1 < W7.heap.size) (z2 : g2 < W7.heap.size) (hln : l.length ≤ 300) (hok : ∀ p ∈ l, p.ok) :
    Code.wp Tryd.prog swCode (Exit.then K (fun _ _ _ => False)) ⟨(v0 :: Value.slice (some ⟨b, off, none⟩) ops.length d0 :: v2 :: v3 :: v4 :: v5 :: v6 :: v7 :: v8 :: v9 :: v10 :: Value.pointer (some ⟨g1, 0, none⟩) :: Value.pointer (some ⟨g2, 0, none⟩) :: Value.int .i64 k :: Value.slice Ap ps.length cp :: v15 :: v16 :: v17 :: v18 :: v19 :: v20 :: v21 :: v22 :: v23 :: v24 :: v25 :: v26 :: v27 :: v28 :: v29 :: v30 :: v31 :: v32 :: v33 :: v34 :: v35 :: v36 :: v37 :: v38 :: v39 :: v40 :: v41 :: v42 :: v43 :: v44 :: v45 :: v46 :: v47 :: v48 :: v49 :: v50 :: v51 :: v52 :: v53 :: v54 :: v55 :: v56 :: v57 :: v58 :: v59 :: v60 :: v61 :: v62 :: v63 :: v64 :: v65 :: v66 :: v67 :: v68 :: v69 :: v70 :: v71 :: v72 :: v73 :: v74 :: v75 :: v76 :: v77 :: v78 :: v79 :: v80 :: v81 :: v82 :: v83 :: v84 :: v85 :: v86 :: v87 :: v88 :: v89 :: v90 :: v91 :: v92 :: v93 :: v94 :: v95 :: v96 :: v97 :: v98 :: v99 :: v100 :: v101 :: v102 :: v103 :: v104 :: v105 :: v106 :: v107 :: v108 :: v109 :: v110 :: v111 :: v112 :: v113 :: v114 :: v115 :: v116 :: v117 :: Value.int .i64 m :: v119 :: v120 :: v121 :: v122 :: v123 :: v124 :: v125 :: v126 :: v127 :: v128 :: v129 :: v130 :: v131 :: v132 :: v133 :: v134 :: v135 :: v136 :: v137 :: v138 :: v139 :: v140 :: v141 :: v142 :: v143 :: v144 :: v145 :: v146 :: v147 :: v148 :: v149 :: v150 :: v151 :: v152 :: v153 :: v154 :: v155 :: v156 :: v157 :: v158 :: v159 :: v160 :: v161 :: v162 :: v163 :: v164 :: v165 :: v166 :: v167 :: v168 :: v169 :: v170 :: v171 :: v172 :: v173 :: v174 :: v175 :: v176 :: v177 :: v178 :: v179 :: v180 :: v181 :: v182 :: v183 :: v184 :: v185 :: v186 :: v187 :: v188 :: v189 :: v190 :: v191 :: v192 :: v193 :: v194 :: v195 :: v196 :: v197 :: v198 :: v199 :: v200 :: v201 :: v202 :: v203 :: []).toArray, []⟩ W7 := by
  have hwf : Wf l := fun p hp => (hok p hp).1
  conv => arg 2; whnf
  subst hm
  obtain ⟨k1, f1, _⟩ := blkw r1
  obtain ⟨k2, f2, _⟩ := blkw r2
  have hq1 : ((4 : Int) == 3) = false := rfl
  go_wp2_with fail
  have hxl : (ps.map Page.line).length = ps.length := by simp
  go_loopw [22, 23] (fun s i wr => ∃ (k : Nat) (A' : Option Addr) (c' : Nat), k ≤ ps.length ∧ s = .slice A' k c' ∧ i = .int .i64 k ∧ Below W7.heap.size W7 wr ∧ wr.ownsRow W7.heap.size 3 1 (.slice A' k c') k (ints ((ps.map Page.line).take k))) (fun _ i _ => ps.length - (intOf i).toNat)
  case atStart => exact ⟨0, none, 0, by omega, rfl, rfl, Below.refl _ _, World.ownsRow_nil _ _ _ _⟩
  case round =>
    obtain ⟨j, A2, c2, hj, rfl, rfl, hbj, O⟩ := hrel
    clear k1 f1 k2 f2
    have Oh := hide O
    clear O
    by_cases hjl : j < ps.length
    · obtain ⟨bp, offp, rfl, hbp, h0, -⟩ := Page.at_ (by obtain ⟨A'', c'', he, _, _, _, hat⟩ := hps.on hbj; injection he with e1; subst e1; exact hat) hjl
      have hj2 : (0 : Int) ≤ (j : Int) := by omega
      have hj3 : (j : Int) < (ps.length : Int) := by omega
      have hxj : (ps.map Page.line)[j]'(by simpa using hjl) = (ps[j]).line := by simp
      have htk : (ps.map Page.line).take (j + 1) = (ps.map Page.line).take j ++ [(ps[j]).line] := by rw [List.take_succ_eq_append_getElem (by simpa using hjl), hxj]
      have htkh := hide htk
      clear htk hxj
      generalize (ps[j]).line = x at h0 htkh
      have zs := hbj.size
      go_wp2_with (at_builtin; refine wpl_app (wr.alloc (.cells #[.int .i64 x] 3 (0, 0))) rfl (.tmp 170) (.tmp 176) 32 rfl W7.heap.size 3 _ 1 8 Tryd.underlying32 int_info rfl (by omega) (.slice A2 j c2) j (ints ((ps.map Page.line).take j)) rfl (Oh.out.alloc _) (.slice (some ⟨wr.heap.size, 0, none⟩) 1 1) 1 [.int .i64 x] rfl (Sl.box wr _ 1 1 _ rfl (by omega)) (by intro u hu; simp at hu; subst hu; rfl) (by omega) (by omega) (by simp; omega) ?_; intro v6 w6 O6 G6 _; obtain ⟨A6, c6, rfl, hc6⟩ := own_form O6; have O6h := hide O6; clear O6)
      go_roundw
      case rel =>
        exact ⟨j + 1, A6, c6, by omega, rfl, by go_num, (hbj.alloc zs _).grown G6 (by simp; omega) (fun k hk => own_base Oh.out k hk), by rw [htkh.out]; simpa [ints] using O6h.out⟩
      case measure => simp [intOf]; omega
    · obtain rfl : j = ps.length := by omega
      have O := Oh.out
      rw [show (ps.map Page.line).take ps.length = ps.map Page.line from List.take_of_length_le (by simp)] at O
      have SX := Sl.of_own O
      clear O Oh
      have r1' := blkb hbj r1 z1
      have r2' := blkb hbj r2 z2
      obtain ⟨k1, f1, z1'⟩ := blkw r1'
      obtain ⟨k2, f2, z2'⟩ := blkw r2'
      have a1' := a1.on hbj
      have a2' := a2.on hbj
      generalize hxs : ps.map Page.line = xs at SX hxl
      go_wp2_with fail
      go_region_law (first
        | (go_simp; go_at_call 13; refine (dropA (g1 := g1) (g2 := g2) _ cap l xs _ (a1'.on (bl_drew (Below.refl _ _))) hln hok (by rw [hxl]; exact SX.on (bl_drew (Below.refl _ _))) (by omega) z1' z2').mono ?_
           rintro e w8 ⟨A8, c8, rfl, P8, hb8⟩
           have r18 := blkb hb8 (W := wr.drew) r1' z1'
           have r28 := blkb hb8 (W := wr.drew) r2' z2'
           obtain ⟨k18, f18, _⟩ := blkw r18
           obtain ⟨k28, f28, _⟩ := blkw r28
           dsimp only)
        | (go_simp; go_at_call 14; refine (rdropA (g1 := g1) (g2 := g2) _ cap l xs w8 (a2'.on (bl_on (bl_drew (Below.refl _ _)) hb8)) hln hok (by rw [hxl]; exact SX.on (bl_on (bl_drew (Below.refl _ _)) hb8)) (by omega) (blk_lt r18) (blk_lt r28)).mono ?_
           rintro e w9 ⟨A9, c9, rfl, P9, hb9⟩
           have r19 := blkb hb9 r18 (blk_lt r18)
           have r29 := blkb hb9 r28 (blk_lt r28)
           obtain ⟨k19, f19, _⟩ := blkw r19
           obtain ⟨k29, f29, _⟩ := blkw r29
           dsimp only))
      all_goals (have E := play_end (cap := cap) (bl_on (bl_on (bl_drew (bl_on B hbj)) hb8) hb9) zg1 zg2 r19 r29 rfl rfl (P8.on hb9) P9 (dropS_len hln) (dropS_ok hok); clear k1 f1 k2 f2 k18 f18 k28 f28 k19 f19 k29 f29 r18 r28 r19 r29 P8 P9; generalize ((((w9.setCell ⟨g1, 0, none⟩ (.int .i64 cap)).setCell ⟨g1, 1, none⟩ (.slice A8 (dropS cap l xs).length c8)).setCell ⟨g2, 0, none⟩ (.int .i64 cap)).setCell ⟨g2, 1, none⟩ (.slice A9 (dropS cap l xs).length c9)) = W10 at E ⊢)
      all_goals go_wp2_with fail
      all_goals exact E
end Go.Proofs.YtkodkbjmeepbiaaDoor
