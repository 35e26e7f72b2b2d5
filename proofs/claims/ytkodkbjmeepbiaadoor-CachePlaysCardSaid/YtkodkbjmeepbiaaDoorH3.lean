/- The walk of the law CachePlays. Conditions: what every reading gives, and that the package's variable holds the nil pointer. -/
import Derived.Test.YtkodkbjmeepbiaaDoorH3G
import Derived.Test.YtkodkbjmeepbiaaDoorH3D
import Derived.Test.YtkodkbjmeepbiaaDoorH3U
import Derived.Test.YtkodkbjmeepbiaaDoorH3R
import Derived.Deep.DeepCutAuto
import Derived.Deep.CutBlock
import Derived.Deep.RegionLaw
set_option linter.unusedVariables false
set_option linter.unusedSimpArgs false
namespace Go.Proofs.YtkodkbjmeepbiaaDoor
open Go.RowKit

set_option maxRecDepth 100000 in
set_option maxHeartbeats 16000000 in
theorem plays_any (cap0 : Int) (A0 : Option Addr) (c0 : Nat) (pl : List Page) (B0 : Option Addr) (d0 : Nat) (ops : List OpV) (capacity : Int) (raw : Bool) (w : World) (hp : Sl w w.heap.size 9 (.slice A0 pl.length c0) pl.length (pl.flatMap Page.cells)) (hpo : ∀ p ∈ pl, p.ok)
    (ho : Sl w w.heap.size 3 (.slice B0 ops.length d0) ops.length (ops.flatMap OpV.cells)) (hog : ∀ o ∈ ops, o.good w) (hg : NoneIs w) :
    Calls Tryd.prog 3 #[.agg #[.int .i64 cap0, .slice A0 pl.length c0], .slice B0 ops.length d0, .int .i64 capacity, .bool raw] w fun e w' => e = .returned (.bool true) ∧ Below w.heap.size w w' := by
  by_cases hl40 : 40 < ops.length
  · have hl40' : (40 : Int) < (ops.length : Int) := by omega
    go_enter Tryd.func3, Tryd.ntmps3
    go_wp2
    go_ret
    exact ⟨rfl, (by repeat (first | exact Below.refl _ _ | assumption | (refine bl_al ?_ _) | (refine bl_dr ?_ _) | (refine bl_on ?_ (by assumption))))⟩
  have hl40' : ¬ (40 : Int) < (ops.length : Int) := by omega
  by_cases hp20 : 20 < pl.length
  · have hp20' : (20 : Int) < (pl.length : Int) := by omega
    go_enter Tryd.func3, Tryd.ntmps3
    go_wp2
    go_ret
    exact ⟨rfl, (by repeat (first | exact Below.refl _ _ | assumption | (refine bl_al ?_ _) | (refine bl_dr ?_ _) | (refine bl_on ?_ (by assumption))))⟩
  have hp20' : ¬ (20 : Int) < (pl.length : Int) := by omega
  go_enter Tryd.func3, Tryd.ntmps3
  go_wp2_with fail
  refine (new_all capacity _).mono ?_
  rintro e w1 ⟨q, er, rfl, hcase, hb1⟩
  have B1 : Below w.heap.size w w1 := (by repeat (first | exact Below.refl _ _ | assumption | (refine bl_al ?_ _) | (refine bl_dr ?_ _) | (refine bl_on ?_ (by assumption))))
  obtain ⟨k0, f0, z0⟩ := blk hb1 (new0 _ _)
  have HC := hide hcase
  clear hcase
  go_upto_region 4 with fail
  go_cut [10, 70] (fun _ s70 wc => s70 = .bool false ∧ wc = w1.alloc (.cells #[.int .i64 q, .slice none 0 0] 24 (0, 0)))
  case first =>
    rcases HC.out with ⟨rfl, rfl, hc1, hc2⟩ | ⟨rfl, hc | hc⟩
    · go_wp2_with fail
      go_meet
      exact ⟨rfl, rfl⟩
    · have hd : decide (1 ≤ capacity) = false := decide_eq_false (by omega)
      go_wp2_with fail
      go_meet
      exact ⟨rfl, rfl⟩
    · have hd : decide (capacity ≤ 256) = false := decide_eq_false (by omega)
      go_wp2_with fail
      go_meet
      exact ⟨rfl, rfl⟩
  case rest =>
    obtain ⟨rfl, rfl⟩ := hcut
    go_upto_if 73 with fail
    go_cut [3] (fun _ wc => PreInv w (w1.heap.size + 1) wc)
    case first =>
      cases raw with
      | false =>
        go_wp2_with fail
        refine (pick_any capacity 6 _ (by omega) (by omega)).mono ?_
        rintro e w2 ⟨rfl, hw2⟩
        have hn1 : 0 ≤ capacity % 6 := by omega
        have hn2 : capacity % 6 < 6 := by omega
        generalize capacity % 6 = n0 at hn1 hn2 ⊢
        have RC0 : w2.heap[w1.heap.size + 1]? = some (.cells #[.int .i64 cap0, .slice A0 pl.length c0] 24 (0, 0)) := by rw [← hw2]; exact new1' _ _ _
        have B2 : Below w.heap.size w w2 := by rw [← hw2]; exact bl_al (bl_al B1 _) _
        have hs2 : w2.heap.size = w1.heap.size + 2 := by rw [← hw2]; simp
        clear hw2 hb1 k0 f0 z0
        obtain ⟨k0, f0, z0⟩ := blkw RC0
        go_wp2_with fail
        go_meet
        have RC := (blk_set (i := 1) (blk_set (i := 0) RC0 (.int .i64 (n0 + 1))) (.slice none 0 0)).trans (show _ = some (.cells #[.int .i64 (n0 + 1), .slice none 0 0] 24 (0, 0)) by simp)
        have zB := B1.size
        exact ⟨(B2.setCell (by dsimp only; omega) _).setCell (by dsimp only; omega) _, n0 + 1, [], none, 0, RC, Sl.nil _ _ _, by simp, by intro p hp; cases hp⟩
      | true =>
        go_wp2_with fail
        go_meet
        exact ⟨bl_al (bl_al B1 _) _, cap0, pl, A0, c0, new1' _ _ _, hp, by omega, hpo⟩
    case rest =>
      clear hb1 k0 f0 z0 HC
      obtain ⟨B3, cap1, l1, A1, c1, RC, hSl, hl20, hok⟩ := hcut
      have zB := B1.size
      have hg1' : w.heap.size ≤ w1.heap.size + 1 := by omega
      clear zB B1 hp hpo
      generalize w1.heap.size + 1 = g1 at RC hg1' ⊢
      obtain ⟨k0, f0, z0⟩ := blkw RC
      go_wp2_with fail
      refine (ref_any cap1 A1 l1.length c1 _).mono ?_
      rintro e w4 ⟨rfl, hb4⟩
      have R1 := blkb hb4 RC (blk_lt RC)
      have B4 := bl_on B3 hb4
      clear hb4 RC B3 k0 f0 z0
      have zg1 : w.heap.size ≤ g1 := hg1'
      obtain ⟨k0, f0, z0⟩ := blkw R1
      go_upto_block 0 with fail
      have R2 := new0 w4 (.cells #[.int .i64 cap1, .slice A1 l1.length c1] 30 (0, 0))
      replace R1 := blk_al R1 (.cells #[.int .i64 cap1, .slice A1 l1.length c1] 30 (0, 0))
      replace B4 := bl_al B4 (.cells #[.int .i64 cap1, .slice A1 l1.length c1] 30 (0, 0))
      have zg2 : g1 < w4.heap.size := z0
      clear k0 f0 z0
      generalize hg2 : w4.heap.size = g2 at R2 zg2 ⊢
      generalize w4.alloc (.cells #[.int .i64 cap1, .slice A1 l1.length c1] 30 (0, 0)) = W5 at R1 R2 B4 ⊢
      have INV : PlayInv w g1 g2 W5 := ⟨B4, cap1, l1, A1, c1, A1, c1, R1, R2, Apart.of_sl hSl B4 zg1 (by omega), Apart.of_sl hSl B4 zg1 (by omega), by omega, hok⟩
      clear R1 R2 B4 hSl hl20 hok hg1' hg2
      go_wp2_with fail
      go_loopw [13] (fun i wr => ∃ k : Nat, k ≤ ops.length ∧ i = .int .i64 k ∧ PlayInv w g1 g2 wr) (fun i _ => ops.length - (intOf i).toNat)
      case atStart => exact ⟨0, by omega, rfl, INV⟩
      case round =>
        obtain ⟨k, hk, rfl, hinv⟩ := hrel
        clear INV
        obtain ⟨B, cap, l, A, c, A', c', r1, r2, a1, a2, hln, hok⟩ := hinv
        have hwf : Wf l := fun p hp => (hok p hp).1
        by_cases hlt : k < ops.length
        · have hog' := hog ops[k] (List.getElem_mem hlt)
          obtain ⟨b, off, rfl, hbB, q0, q1, q2⟩ := OpV.at_ (by obtain ⟨A'', c'', he, _, _, _, hat⟩ := ho.below B; injection he with e1; subst e1; exact hat) hlt
          generalize ops[k] = o at hog' q0 q1 q2
          obtain ⟨kd, Ao, co, ls, Ah, ch, hs⟩ := o
          dsimp only at q0 q1 q2
          have hj0 : (0 : Int) ≤ (k : Int) := by omega
          have hj1 : (k : Int) < (ops.length : Int) := by omega
          by_cases h12 : 12 < ls.length
          · have h12' : (12 : Int) < (ls.length : Int) := by omega
            have x1 := Hold.cell q1
            go_wp2_with fail
            refine region_hold (by kernel_rfl) (by kernel_rfl) ?_
            repeat (go_big_quiet_step (fail))
            refine wpQuiet_nil ?_
            rintro _ ⟨t, rfl⟩
            have x2 := x1 t
            go_wp2
            go_ret
            exact ⟨rfl, bl_on B t.b⟩
          · have h12' : ¬ (12 : Int) < (ls.length : Int) := by omega
            have h12d : decide ((12 : Int) < (ls.length : Int)) = false := decide_eq_false h12'
            have h12e : decide (12 < ls.length) = false := decide_eq_false h12
            obtain ⟨k1, f1, z1⟩ := blkw r1
            obtain ⟨k2, f2, z2⟩ := blkw r2
            have x1 := Hold.cell q1
            have x2 := Hold.cell (k1 0)
            have x3 := Hold.cell (k1 1)
            have x4 := Hold.cell (k2 0)
            have x5 := Hold.cell (k2 1)
            have H1 : ∀ t : Hold wr, Calls Tryd.prog 7 #[.agg #[.int .i64 cap, .slice A l.length c]] t.W fun e w' => e = .returned (.bool (valid cap l)) ∧ ∃ t' : Hold wr, w' = t'.W := fun t => Hold.call (valid_any _ cap l t.W (a1.1.on t.b) (by omega) hwf.at)
            have H2 : ∀ t : Hold wr, Calls Tryd.prog 8 #[.agg #[.int .i64 cap, .slice A' l.length c']] t.W fun e w' => e = .returned (.bool (valid cap l)) ∧ ∃ t' : Hold wr, w' = t'.W := fun t => Hold.call (rvalid_any _ cap l t.W (a2.1.on t.b) (by omega) hwf.at)
            generalize valid cap l = vb at H1 H2
            go_wp2_with fail
            refine region_hold (by kernel_rfl) (by kernel_rfl) ?_
            repeat (go_big_quiet_step (first | exact H1 _ | exact H2 _))
            refine wpQuiet_nil ?_
            rintro _ ⟨t, rfl⟩
            obtain ⟨W6, hW6⟩ := t
            dsimp only
            replace r1 := blkb hW6 r1 (blk_lt r1)
            replace r2 := blkb hW6 r2 (blk_lt r2)
            have q0' := (hW6.cell (World.block_lt_of_cell? wr _ q0)).trans q0
            have q1' := (hW6.cell (World.block_lt_of_cell? wr _ q1)).trans q1
            have q2' := (hW6.cell (World.block_lt_of_cell? wr _ q2)).trans q2
            replace a1 := a1.on hW6
            replace a2 := a2.on hW6
            replace B := bl_on B hW6
            clear x1 x2 x3 x4 x5 H1 H2 k1 f1 z1 k2 f2 z2 q0 q1 q2 hW6
            go_wp2_with fail
            refine (pages_any kd _ _ ls hs k W6 (hog'.1.on B) (hog'.2.1.on B) (by omega) hj0 (by omega) hog'.2.2).mono ?_
            rintro e W7 ⟨vp, ps, rfl, O7, hpl, hfit, hb7⟩
            obtain ⟨Ap, cp, rfl, _⟩ := own_form O7
            replace r1 := blkb hb7 r1 (blk_lt r1)
            replace r2 := blkb hb7 r2 (blk_lt r2)
            have q0 := (hb7.cell (World.block_lt_of_cell? W6 _ q0')).trans q0'
            replace a1 := a1.on hb7
            replace a2 := a2.on hb7
            replace B := bl_on B hb7
            have hps := Sl.of_own O7
            clear q0' q1' q2' O7 hb7
            have hpo' : ∀ p ∈ ps, p.ok := fun p hp => (hfit p hp).1
            have hps12 : ps.length ≤ 12 := by omega
            clear hpl
            have z1 := blk_lt r1
            have z2 := blk_lt r2
            go_wp2_with fail
            refine (pick_any kd 5 W7 (by omega) (by omega)).mono ?_
            rintro e W8 ⟨rfl, rfl⟩
            have hm0 : 0 ≤ kd % 5 := by omega
            have hm5 : kd % 5 < 5 := by omega
            generalize kd % 5 = m at hm0 hm5 ⊢
            dsimp only
            iterate 4 go_step
            go_cut [14] (fun s14 wc => s14 = .slice Ap ps.length cp ∧ PlayInv w g1 g2 wc)
            case first J K' h1 h2 =>
              by_cases hm3 : m = 3
              · refine wp_mono (arm_get _ _ _ _ _ _ _ _ _ _ _ _ _ _ _ _ _ _ _ _ _ _ _ _ _ _ _ _ _ _ _ _ _ _ _ _ _ _ _ _ _ _ _ _ _ _ _ _ _ _ _ _ _ _ _ _ _ _ _ _ _ _ _ _ _ _ _ _ _ _ _ _ _ _ _ _ _ _ _ _ _ _ _ _ _ _ _ _ _ _ _ _ _ _ _ _ _ _ _ _ _ _ _ _ _ _ _ _ _ _ _ _ _ _ _ _ _ _ _ _ _ _ _ _ _ _ _ _ _ _ _ _ _ _ _ _ _ _ _ _ _ _ _ _ _ _ _ _ _ _ _ _ _ _ _ _ _ _ _ _ _ _ _ _ _ _ _ _ _ _ _ _ _ _ _ _ _ _ _ _ _ _ _ _ _ _ _ _ _ _ _ _ _ _ _ _ _ _ w W7 g1 g2 b off k d0 ops kd Ap cp ps cap l A c A' c' m hm3 K' ?_ zg1 zg2 hj0 hj1 hlt q0 r1 r2 a1 a2 B hps hpo' hps12 z1 z2 hln hok) ?_
                · intro y15 y16 y17 y18 y19 y20 y21 y22 y23 y119 y120 y121 y122 y123 y124 y125 y126 y127 y128 y129 y130 y131 y132 y133 y134 y135 y136 y137 y138 y139 y140 y141 y142 y143 y144 y145 y146 y147 y148 y149 y150 y151 y152 y153 y154 y155 y156 y157 y158 y159 y160 y161 y162 y163 y164 y165 y166 y167 y168 y169 y170 y171 y172 y173 y174 y175 y176 y177 y178 y179 y180 y181 y182 y183 wd h
                  refine h2 _ _ ?_
                  go_meet
                  exact ⟨rfl, h⟩
                · intro e a' w' h
                  cases e <;> first | exact h | exact h.elim
              by_cases hm4 : m = 4
              · refine wp_mono (arm_drop _ _ _ _ _ _ _ _ _ _ _ _ _ _ _ _ _ _ _ _ _ _ _ _ _ _ _ _ _ _ _ _ _ _ _ _ _ _ _ _ _ _ _ _ _ _ _ _ _ _ _ _ _ _ _ _ _ _ _ _ _ _ _ _ _ _ _ _ _ _ _ _ _ _ _ _ _ _ _ _ _ _ _ _ _ _ _ _ _ _ _ _ _ _ _ _ _ _ _ _ _ _ _ _ _ _ _ _ _ _ _ _ _ _ _ _ _ _ _ _ _ _ _ _ _ _ _ _ _ _ _ _ _ _ _ _ _ _ _ _ _ _ _ _ _ _ _ _ _ _ _ _ _ _ _ _ _ _ _ _ _ _ _ _ _ _ _ _ _ _ _ _ _ _ _ _ _ _ _ _ _ _ _ _ _ _ _ _ _ _ _ _ _ _ _ _ _ _ w W7 g1 g2 b off k d0 ops kd Ap cp ps cap l A c A' c' m hm4 K' ?_ zg1 zg2 hj0 hj1 hlt q0 r1 r2 a1 a2 B hps hpo' hps12 z1 z2 hln hok) ?_
                · intro y15 y16 y17 y18 y19 y20 y21 y22 y23 y119 y120 y121 y122 y123 y124 y125 y126 y127 y128 y129 y130 y131 y132 y133 y134 y135 y136 y137 y138 y139 y140 y141 y142 y143 y144 y145 y146 y147 y148 y149 y150 y151 y152 y153 y154 y155 y156 y157 y158 y159 y160 y161 y162 y163 y164 y165 y166 y167 y168 y169 y170 y171 y172 y173 y174 y175 y176 y177 y178 y179 y180 y181 y182 y183 wd h
                  refine h2 _ _ ?_
                  go_meet
                  exact ⟨rfl, h⟩
                · intro e a' w' h
                  cases e <;> first | exact h | exact h.elim
              · refine wp_mono (arm_put _ _ _ _ _ _ _ _ _ _ _ _ _ _ _ _ _ _ _ _ _ _ _ _ _ _ _ _ _ _ _ _ _ _ _ _ _ _ _ _ _ _ _ _ _ _ _ _ _ _ _ _ _ _ _ _ _ _ _ _ _ _ _ _ _ _ _ _ _ _ _ _ _ _ _ _ _ _ _ _ _ _ _ _ _ _ _ _ _ _ _ _ _ _ _ _ _ _ _ _ _ _ _ _ _ _ _ _ _ _ _ _ _ _ _ _ _ _ _ _ _ _ _ _ _ _ _ _ _ _ _ _ _ _ _ _ _ _ _ _ _ _ _ _ _ _ _ _ _ _ _ _ _ _ _ _ _ _ _ _ _ _ _ _ _ _ _ _ _ _ _ _ _ _ _ _ _ _ _ _ _ _ _ _ _ _ _ _ _ _ _ _ _ _ _ _ _ _ w W7 g1 g2 b off k d0 ops kd Ap cp ps cap l A c A' c' m ⟨hm3, hm4⟩ K' ?_ zg1 zg2 hj0 hj1 hlt q0 r1 r2 a1 a2 B hps hpo' hps12 z1 z2 hln hok) ?_
                · intro y15 y16 y17 y18 y19 y20 y21 y22 y23 y119 y120 y121 y122 y123 y124 y125 y126 y127 y128 y129 y130 y131 y132 y133 y134 y135 y136 y137 y138 y139 y140 y141 y142 y143 y144 y145 y146 y147 y148 y149 y150 y151 y152 y153 y154 y155 y156 y157 y158 y159 y160 y161 y162 y163 y164 y165 y166 y167 y168 y169 y170 y171 y172 y173 y174 y175 y176 y177 y178 y179 y180 y181 y182 y183 wd h
                  refine h2 _ _ ?_
                  go_meet
                  exact ⟨rfl, h⟩
                · intro e a' w' h
                  cases e <;> first | exact h | exact h.elim
            case rest =>
              clear r1 r2 a1 a2 B z1 z2 hm0 hm5 q0 hfit hps hpo'
              obtain ⟨rfl, hinv⟩ := hcut
              obtain ⟨B, cap, l, A, c, A', c', r1, r2, a1, a2, hln, hok⟩ := hinv
              go_upto_region 32 with fail
              refine wp_mono (arm_rest _ _ _ _ _ _ _ _ _ _ _ _ _ _ _ _ _ _ _ _ _ _ _ _ _ _ _ _ _ _ _ _ _ _ _ _ _ _ _ _ _ _ _ _ _ _ _ _ _ _ _ _ _ _ _ _ _ _ _ _ _ _ _ _ _ _ _ _ _ _ _ _ _ _ _ _ _ _ _ _ _ _ _ _ _ _ _ _ _ _ _ _ _ _ _ _ _ _ _ _ _ _ _ _ _ _ _ _ _ _ _ _ _ _ _ _ _ _ _ _ _ _ _ _ _ _ _ _ _ _ _ _ _ _ _ _ _ _ _ _ _ _ _ _ _ _ _ _ _ _ _ _ _ _ _ _ _ _ _ _ _ _ _ _ _ _ _ _ _ _ _ _ _ _ _ _ _ _ _ _ _ _ _ _ _ _ _ _ _ _ _ _ _ _ _ _ _ _ _ _ _ _ w wc g1 g2 cap l A c A' c' _ ?_ hg B r1 r2 a1 a2 hln hok) then_false
              intro y184 y185 y186 y187 y188 y189 y190 y191 y192 y193 y194 wd E
              clear r1 r2 a1 a2 B
              go_wp2_with fail
              go_roundw
              case rel => exact ⟨k + 1, by omega, by go_num, E⟩
              case measure => simp [intOf]; omega
        · obtain rfl : k = ops.length := by omega
          obtain ⟨k1, f1, z1⟩ := blkw r1
          obtain ⟨k2, f2, z2⟩ := blkw r2
          have x2 := Hold.cell (k1 0)
          have x3 := Hold.cell (k1 1)
          have x4 := Hold.cell (k2 0)
          have x5 := Hold.cell (k2 1)
          have H0 : ∀ t : Hold wr, Calls Tryd.prog 20 #[] t.W fun e w' => e = .returned (.bool true) ∧ ∃ t' : Hold wr, w' = t'.W := fun t => Hold.call (awake_any t.W)
          have H1 : ∀ t : Hold wr, Calls Tryd.prog 7 #[.agg #[.int .i64 cap, .slice A l.length c]] t.W fun e w' => e = .returned (.bool (valid cap l)) ∧ ∃ t' : Hold wr, w' = t'.W := fun t => Hold.call (valid_any _ cap l t.W (a1.1.on t.b) (by omega) hwf.at)
          have H2 : ∀ t : Hold wr, Calls Tryd.prog 8 #[.agg #[.int .i64 cap, .slice A' l.length c']] t.W fun e w' => e = .returned (.bool (valid cap l)) ∧ ∃ t' : Hold wr, w' = t'.W := fun t => Hold.call (rvalid_any _ cap l t.W (a2.1.on t.b) (by omega) hwf.at)
          generalize valid cap l = vb at H1 H2
          go_wp2_with fail
          refine region_hold (by kernel_rfl) (by kernel_rfl) ?_
          repeat (go_big_quiet_step (first | exact H0 _ | exact H1 _ | exact H2 _))
          refine wpQuiet_nil ?_
          rintro _ ⟨t, rfl⟩
          have Bt := bl_on B t.b
          obtain ⟨W6, hW6⟩ := t
          dsimp only at Bt ⊢
          clear x2 x3 x4 x5 H0 H1 H2 hW6
          go_wp2
          go_ret
          exact ⟨ret_bool (by simp), Bt⟩
end Go.Proofs.YtkodkbjmeepbiaaDoor
