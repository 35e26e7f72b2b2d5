/- Walks: package btree's page of a node. Conditions: as each theorem names them. -/
import Derived.Test.YtkodkbjmeepbiaaDoorG1
set_option linter.unusedVariables false
set_option linter.unusedSimpArgs false
namespace Go.Proofs.YtkodkbjmeepbiaaDoor
open Go.RowKit

/-- An entry as a word. -/
def encE (e : Ent) : Int := packP e.line e.gen + e.key * 4294967296
def encAt (es : List Ent) (k j : Nat) : Int := if h : j < es.length then (if j < k then encE es[j] else 0) else 0
theorem encAt_new {es : List Ent} {k : Nat} (hk : k < es.length) : encAt es (k + 1) k = encE es[k] := by simp [encAt, hk]
theorem encAt_old {es : List Ent} {k j : Nat} (hj : j ≠ k) : encAt es (k + 1) j = encAt es k j := by
  unfold encAt
  split
  · have : j < k + 1 ↔ j < k := by omega
    simp [this]
  · rfl
theorem encAt_zero {es : List Ent} {j : Nat} : encAt es 0 j = 0 := by simp [encAt]
theorem packP_range (l g : Int) : 0 ≤ packP l g ∧ packP l g ≤ 4294967295 := by
  unfold packP
  split
  · rename_i h
    have := okPtr_iff.1 h
    omega
  · omega
def auxOf (L : Int) (n : Nat) (lm dead : Bool) : Int := L + n * 256 + (if lm then 65536 else 0) + (if dead then 131072 else 0)
/-- The page of a node. -/
def fillP (p : Page) (L : Int) (lm dead : Bool) (high rl rg : Int) (es : List Ent) (k : Nat) : Page :=
  ⟨p.line, p.head, p.d0 % 256 + p.d0 / 256 % 16777216 * 256 + auxOf L es.length lm dead * 4294967296, high + packP rl rg * 4294967296, encAt es k 0, encAt es k 1, encAt es k 2, encAt es k 3, encAt es k 4⟩
theorem fillP_zero {p : Page} {L : Int} {lm dead : Bool} {high rl rg : Int} {es : List Ent} : fillP p L lm dead high rl rg es 0 = ⟨p.line, p.head, p.d0 % 256 + p.d0 / 256 % 16777216 * 256 + auxOf L es.length lm dead * 4294967296, high + packP rl rg * 4294967296, 0, 0, 0, 0, 0⟩ := by simp [fillP, encAt_zero]

set_option maxRecDepth 100000 in
set_option maxHeartbeats 8000000 in
theorem fill_any (L : Int) (lm dead : Bool) (high rl rg : Int) (v : Value) (es : List Ent) (p : Page) (w : World) (hL : 0 ≤ L) (hL2 : L ≤ 255) (hh0 : 0 ≤ high) (hh1 : high ≤ 4294967295) (h : Sl w w.heap.size 3 v es.length (es.flatMap Ent.cells)) (hn : es.length ≤ 5)
    (hk0 : ∀ e ∈ es, 0 ≤ e.key ∧ e.key ≤ 4294967295) (hd0 : 0 ≤ p.d0) (hd1 : p.d0 ≤ 18446744073709551615) :
    Calls Tryd.prog 59 #[.agg #[.int .i64 L, .bool lm, .bool dead, .int .u32 high, .int .i64 rl, .int .i64 rg, v], p.v] w fun e w' => e = .returned (fillP p L lm dead high rl rg es es.length).v ∧ Below w.heap.size w w' := by
  have hform : ∃ A c, v = .slice A es.length c := by obtain ⟨A, c, rfl, _⟩ := h; exact ⟨A, c, rfl⟩
  obtain ⟨A, c, rfl⟩ := hform
  have hln0 : (0 : Int) ≤ (es.length : Int) := by omega
  have hln : (es.length : Int) ≤ 5 := by omega
  have e1 := or32 L es.length 8 256 (by decide) hL (by omega) (by omega) (by omega) (by omega)
  generalize ha0 : L + (es.length : Int) * 256 = a0 at e1
  have ha0r : 0 ≤ a0 ∧ a0 < 65536 := by omega
  have e2 := or32 a0 1 16 65536 (by decide) ha0r.1 ha0r.2 (by omega) (by omega) (by omega)
  rw [Int.one_mul] at e2
  have e3 := or32 a0 1 17 131072 (by decide) ha0r.1 (by omega) (by omega) (by omega) (by omega)
  rw [Int.one_mul] at e3
  have e4 := or32 (a0 + 65536) 1 17 131072 (by decide) (by omega) (by omega) (by omega) (by omega) (by omega)
  rw [Int.one_mul] at e4
  have hpp := packP_range rl rg
  have e5 := or64 high (packP rl rg) 32 4294967296 (by decide) hh0 (by omega) hpp.1 (by omega) (by omega)
  have HF := hide (fillP_zero (p := p) (L := L) (lm := lm) (dead := dead) (high := high) (rl := rl) (rg := rg) (es := es))
  have HA : Hid (auxOf L es.length lm dead = a0 + (if lm then 65536 else 0) + (if dead then 131072 else 0)) := hide (by rw [← ha0]; rfl)
  have HKR := hide hk0
  clear hk0 ha0
  obtain ⟨hp0, hp1⟩ := hpp
  obtain ⟨ha1, ha2⟩ := ha0r
  generalize hx1 : high + packP rl rg * 4294967296 = x1 at e5 HF
  have HX1 := hide hx1
  clear hx1
  have HPK : ∀ t, Calls Tryd.prog 66 #[.agg #[.int .i64 rl, .int .i64 rg]] t fun e w' => e = .returned (.int .u32 (packP rl rg)) ∧ Below t.heap.size t w' := fun t => pack_any rl rg t
  generalize packP rl rg = pp at e5 hp0 hp1 HPK
  have hd2 : 0 ≤ p.d0 % 256 ∧ p.d0 % 256 ≤ 255 := by omega
  have hd3 : 0 ≤ p.d0 / 256 % 16777216 ∧ p.d0 / 256 % 16777216 ≤ 16777215 := by omega
  have HU := unpackTag_any p.d0
  generalize p.d0 % 256 = k0 at hd2 HF HU
  generalize p.d0 / 256 % 16777216 = g0 at hd3 HF HU
  generalize p.d0 / 4294967296 = a9 at HU
  cases lm with
  | false =>
    cases dead with
    | false =>
      have hax : a0 = auxOf L es.length false false := by rw [HA.out]; simp
      have hax0 := ha1
      have hax1 : a0 ≤ 300000 := by omega
      have HX0 : Hid (k0 + g0 * 256 + a0 * 4294967296 = k0 + g0 * 256 + auxOf L es.length false false * 4294967296) := hide (by rw [hax])
      generalize k0 + g0 * 256 + auxOf L es.length false false * 4294967296 = x0 at HX0 HF
      clear hax HA
      generalize a0 = ax at *
      go_enter Tryd.func59, Tryd.ntmps59
      go_wp2_with fail
      refine (HU _ hd0 hd1).mono ?_
      rintro e w1 ⟨rfl, hb1⟩
      have R0 := blkb hb1 (new2 _ _ _ _) (by simp; omega)
      have R1 := blkb hb1 (new2' _ _ _ _) (by simp)
      have R2 := blkb hb1 (new2'' _ _ _ _) (by simp)
      have B1 : Below w.heap.size w w1 := (by repeat (with_reducible first | assumption | exact Below.refl _ _ | (refine Below.setCell ?_ (by first | omega | (dsimp only; omega) | (simp; omega)) _) | (refine bl_al ?_ _) | (refine bl_dr ?_ _) | (refine bl_on ?_ (by assumption))))
      obtain ⟨k1, f1, z1⟩ := blkw R0
      go_wp2
      clear k1 f1 z1
      have RT := new0 w1 (.cells #[.int .i64 k0, .int .i64 g0, .int .u32 ax] 89 (0, 0))
      replace R0 := blk_al R0 (.cells #[.int .i64 k0, .int .i64 g0, .int .u32 ax] 89 (0, 0))
      replace R1 := blk_al R1 (.cells #[.int .i64 k0, .int .i64 g0, .int .u32 ax] 89 (0, 0))
      replace R2 := blk_al R2 (.cells #[.int .i64 k0, .int .i64 g0, .int .u32 ax] 89 (0, 0))
      replace B1 := bl_al B1 (.cells #[.int .i64 k0, .int .i64 g0, .int .u32 ax] 89 (0, 0))
      clear hb1
      generalize w1.alloc (.cells #[.int .i64 k0, .int .i64 g0, .int .u32 ax] 89 (0, 0)) = W at RT R0 R1 R2 B1 ⊢
      have H1 : ∀ t : Hold W, Calls Tryd.prog 65 #[.agg #[.int .i64 k0, .int .i64 g0, .int .u32 ax]] t.W fun e w' => e = .returned (.int .u64 x0) ∧ ∃ t' : Hold W, w' = t'.W := fun t => Hold.call (by rw [← HX0.out]; exact packTag_any k0 g0 ax t.W hd2.1 hd2.2 hd3.1 hd3.2 hax0 (by omega))
      have H2 : ∀ t : Hold W, Calls Tryd.prog 66 #[.agg #[.int .i64 rl, .int .i64 rg]] t.W fun e w' => e = .returned (.int .u32 pp) ∧ ∃ t' : Hold W, w' = t'.W := fun t => Hold.call (HPK t.W)
      have c0 := Hold.cell ((blkw RT).1 0)
      have c1 := Hold.cell ((blkw RT).1 1)
      have c2 := Hold.cell ((blkw RT).1 2)
      have c3 := Hold.cell ((blkw R0).1 3)
      have c4 := Hold.cell ((blkw R0).1 4)
      have c5 := Hold.cell ((blkw R0).1 5)
      have z0 := blk_lt R0
      have z1 := blk_lt R1
      have z2 := blk_lt R2
      refine region_hold_tail 13 (by kernel_rfl) (by kernel_rfl) ?_
      simp only [List.take_succ_cons, List.take_zero, List.drop_succ_cons, List.drop_zero]
      repeat (go_big_quiet_step (first | exact H1 _ | exact H2 _))
      refine wpQuiet_nil ?_
      rintro _ ⟨t, rfl⟩
      have R0t := blkb t.b R0 z0
      have R1t := blkb t.b R1 z1
      have R2t := blkb t.b R2 z2
      have Bt := bl_on B1 t.b
      obtain ⟨W3, hW3⟩ := t
      dsimp only at R0t R1t R2t Bt ⊢
      clear c0 c1 c2 c3 c4 c5 H1 H2 R0 R1 R2 RT B1 hW3
      obtain ⟨k1, f1, z3⟩ := blkw R0t
      obtain ⟨k2, f2, z4⟩ := blkw R1t
      go_wp2
      have HR0 := hide R0t
      have R1s := blk_set (i := 8) (blk_set (i := 7) (blk_set (i := 6) (blk_set (i := 5) (blk_set (i := 4) (blk_set (i := 3) (blk_set (i := 2) R1t (.int .u64 x0)) (.int .u64 x1)) (.int .u64 0)) (.int .u64 0)) (.int .u64 0)) (.int .u64 0)) (.int .u64 0)
      have HR1 := hide R1s
      have HR2 := hide (blk_far (a := ⟨w.heap.size + 1, 8, none⟩) (blk_far (a := ⟨w.heap.size + 1, 7, none⟩) (blk_far (a := ⟨w.heap.size + 1, 6, none⟩) (blk_far (a := ⟨w.heap.size + 1, 5, none⟩) (blk_far (a := ⟨w.heap.size + 1, 4, none⟩) (blk_far (a := ⟨w.heap.size + 1, 3, none⟩) (blk_far (a := ⟨w.heap.size + 1, 2, none⟩) R2t (by simp) (.int .u64 x0)) (by simp) (.int .u64 x1)) (by simp) (.int .u64 0)) (by simp) (.int .u64 0)) (by simp) (.int .u64 0)) (by simp) (.int .u64 0)) (by simp) (.int .u64 0))
      have hN1 : es.length ≤ 5 := hn
      go_loopw [50] (fun i wr => ∃ k : Nat, k ≤ es.length ∧ i = .int .i64 k ∧ Below w.heap.size w wr ∧ Hid (wr.heap[w.heap.size + 1]? = some (.cells (fillP p L false false high rl rg es k).cells.toArray 42 (0, 0))) ∧ Hid (wr.heap[w.heap.size + 2]? = some (.cells #[.int .i64 0, .int .u64 0, .int .u64 0, .int .u64 0, .int .u64 0, .int .u64 0, .int .u64 0, .int .u64 0, .int .u64 0] 42 (0, 0)))) (fun i _ => es.length - (intOf i).toNat)
      case atStart =>
        refine ⟨0, by omega, rfl, (by repeat (with_reducible first | assumption | exact Below.refl _ _ | (refine Below.setCell ?_ (by first | omega | (dsimp only; omega) | (simp; omega)) _) | (refine bl_al ?_ _) | (refine bl_dr ?_ _) | (refine bl_on ?_ (by assumption)))), ?_, HR2⟩
        show _ = _
        rw [HF.out, HR1.out]
        simp [Page.cells]
      case round =>
        obtain ⟨k, hk, rfl, hb, hrow, hzero⟩ := hrel
        clear HR1 HR2 R1s R0t R1t R2t Bt k1 f1 k2 f2 HR0
        by_cases hlt : k < es.length
        · obtain ⟨b, off, rfl, hbB, q0, q1, q2⟩ := Ent.at_ ((by obtain ⟨A', c', he, _, _, _, hat⟩ := h.below hb; injection he with e1; subst e1; exact hat : At wr w.heap.size A (es.flatMap Ent.cells))) hlt
          have hkr := HKR.out es[k] (List.getElem_mem hlt)
          have HEN := hide (encAt_new hlt)
          generalize hx : es[k] = x at q0 q1 q2 hkr HEN
          clear hx
          obtain ⟨hk0, hk1⟩ := hkr
          have hq := packP_range x.line x.gen
          have e6 := or64 (packP x.line x.gen) x.key 32 4294967296 (by decide) hq.1 (by omega) hk0 (by omega) (by omega)
          rw [or64_sym _ _ hq.1 (by omega) (by omega) (by omega)] at e6
          have HY : Hid (encE x = packP x.line x.gen + x.key * 4294967296) := hide rfl
          rw [← HY.out] at e6
          have HPX : ∀ t, Calls Tryd.prog 66 #[.agg #[.int .i64 x.line, .int .i64 x.gen]] t fun e w' => e = .returned (.int .u32 (packP x.line x.gen)) ∧ Below t.heap.size t w' := fun t => pack_any x.line x.gen t
          obtain ⟨hq0, hq1⟩ := hq
          generalize packP x.line x.gen = pk at e6 HPX hq0 hq1
          generalize encE x = y at e6 HEN
          have HEO : Hid (∀ j, j ≠ k → encAt es (k + 1) j = encAt es k j) := hide (fun j hj => encAt_old hj)
          clear HY HF
          generalize hfp : fillP p L false false high rl rg es k = q at hrow
          have HFP := hide hfp
          clear hfp
          have zr := blk_lt hrow.out
          have R1w : wr.heap[w.heap.size + 1]? = some (.cells #[.int .i64 q.line, .int .u64 q.head, .int .u64 q.d0, .int .u64 q.d1, .int .u64 q.d2, .int .u64 q.d3, .int .u64 q.d4, .int .u64 q.d5, .int .u64 q.d6] 42 (0, 0)) := hrow.out
          have hk5 : k = 0 ∨ k = 1 ∨ k = 2 ∨ k = 3 ∨ k = 4 := by omega
          rcases hk5 with rfl | rfl | rfl | rfl | rfl
          all_goals (simp at q0 q1 q2)
          all_goals go_wp2
          all_goals (generalize hwz : wr.alloc (.cells #[.int .u32 x.key, .int .i64 x.line, .int .i64 x.gen] 101 (0, 0)) = wz)
          all_goals (have RT : wz.heap[wr.heap.size]? = some (.cells #[.int .u32 x.key, .int .i64 x.line, .int .i64 x.gen] 101 (0, 0)) := by rw [← hwz]; exact new0 wr _)
          all_goals (have R1z : wz.heap[w.heap.size + 1]? = some (.cells #[.int .i64 q.line, .int .u64 q.head, .int .u64 q.d0, .int .u64 q.d1, .int .u64 q.d2, .int .u64 q.d3, .int .u64 q.d4, .int .u64 q.d5, .int .u64 q.d6] 42 (0, 0)) := by rw [← hwz]; exact blk_al R1w _)
          all_goals (have HZ2 : Hid (wz.heap[w.heap.size + 2]? = some (.cells #[.int .i64 0, .int .u64 0, .int .u64 0, .int .u64 0, .int .u64 0, .int .u64 0, .int .u64 0, .int .u64 0, .int .u64 0] 42 (0, 0))) := hide (by rw [← hwz]; exact blk_al hzero.out _))
          all_goals (have Bz : Below w.heap.size w wz := by rw [← hwz]; exact bl_al hb _)
          all_goals (clear hwz)
          all_goals (have c0 := Hold.cell ((blkw RT).1 0))
          all_goals (have c1 := Hold.cell ((blkw RT).1 1))
          all_goals (have c2 := Hold.cell ((blkw RT).1 2))
          all_goals (have H1 : ∀ t : Hold wz, Calls Tryd.prog 66 #[.agg #[.int .i64 x.line, .int .i64 x.gen]] t.W (fun e w' => e = .returned (.int .u32 pk) ∧ ∃ t' : Hold wz, w' = t'.W) := fun t => Hold.call (HPX t.W))
          all_goals (have zz1 := blk_lt R1z)
          all_goals (refine region_hold_tail 13 (by kernel_rfl) (by kernel_rfl) ?_)
          all_goals (simp only [List.take_succ_cons, List.take_zero, List.drop_succ_cons, List.drop_zero])
          all_goals (repeat (go_big_quiet_step (first | exact H1 _)))
          all_goals (refine wpQuiet_nil ?_)
          all_goals (rintro _ ⟨t, rfl⟩)
          all_goals (obtain ⟨k1, f1, z3⟩ := blkw (blkb t.b R1z zz1))
          all_goals (have HZ3 := hide (blkb t.b HZ2.out (blk_lt HZ2.out)))
          all_goals (have Bt := bl_on Bz t.b)
          all_goals (have HR1z := hide R1z)
          all_goals (clear c0 c1 c2 H1 RT R1z)
          all_goals go_wp2
          all_goals go_roundw
          all_goals try (case measure => simp [intOf]; omega)
          all_goals (obtain rfl := HFP.out)
          all_goals (have HEN' := HEN.out)
          all_goals (have HEO' := HEO.out)
          all_goals (simp only [Nat.reduceAdd] at HEN' HEO')
          all_goals (refine ⟨_, hlt, by go_num, Bt.setCell (by simp) _, ?_, blk_far HZ3.out (by simp) _⟩)
          all_goals (refine (blk_set (blkb t.b HR1z.out zz1) _).trans ?_)
          all_goals (simp [Page.cells, fillP, HEN', HEO'])
        · obtain rfl : k = es.length := by omega
          obtain ⟨k1, f1, z3⟩ := blkw (show wr.heap[w.heap.size + 1]? = some (.cells #[.int .i64 (fillP p L false false high rl rg es es.length).line, .int .u64 (fillP p L false false high rl rg es es.length).head, .int .u64 (fillP p L false false high rl rg es es.length).d0, .int .u64 (fillP p L false false high rl rg es es.length).d1, .int .u64 (fillP p L false false high rl rg es es.length).d2, .int .u64 (fillP p L false false high rl rg es es.length).d3, .int .u64 (fillP p L false false high rl rg es es.length).d4, .int .u64 (fillP p L false false high rl rg es es.length).d5, .int .u64 (fillP p L false false high rl rg es es.length).d6] 42 (0, 0)) from hrow.out)
          obtain ⟨k2, f2, z4⟩ := blkw hzero.out
          go_wp2
          refine bodyPost_ret (v := (fillP p L false false high rl rg es es.length).v) (by simp [results, Tryd.results59, go_sem, k2, f2]) rfl ⟨rfl, (by repeat (with_reducible first | assumption | exact Below.refl _ _ | (refine Below.setCell ?_ (by first | omega | (dsimp only; omega) | (simp; omega)) _) | (refine bl_al ?_ _) | (refine bl_dr ?_ _) | (refine bl_on ?_ (by assumption))))⟩
    | true =>
      have hax : a0 + 131072 = auxOf L es.length false true := by rw [HA.out]; simp
      generalize hax2 : a0 + 131072 = ax at e3 hax
      have hax0 : 0 ≤ ax := by omega
      have hax1 : ax ≤ 300000 := by omega
      have HX0 : Hid (k0 + g0 * 256 + ax * 4294967296 = k0 + g0 * 256 + auxOf L es.length false true * 4294967296) := hide (by rw [hax])
      generalize k0 + g0 * 256 + auxOf L es.length false true * 4294967296 = x0 at HX0 HF
      clear hax hax2 HA
      go_enter Tryd.func59, Tryd.ntmps59
      go_wp2_with fail
      refine (HU _ hd0 hd1).mono ?_
      rintro e w1 ⟨rfl, hb1⟩
      have R0 := blkb hb1 (new2 _ _ _ _) (by simp; omega)
      have R1 := blkb hb1 (new2' _ _ _ _) (by simp)
      have R2 := blkb hb1 (new2'' _ _ _ _) (by simp)
      have B1 : Below w.heap.size w w1 := (by repeat (with_reducible first | assumption | exact Below.refl _ _ | (refine Below.setCell ?_ (by first | omega | (dsimp only; omega) | (simp; omega)) _) | (refine bl_al ?_ _) | (refine bl_dr ?_ _) | (refine bl_on ?_ (by assumption))))
      obtain ⟨k1, f1, z1⟩ := blkw R0
      go_wp2
      clear k1 f1 z1
      have RT := new0 w1 (.cells #[.int .i64 k0, .int .i64 g0, .int .u32 ax] 89 (0, 0))
      replace R0 := blk_al R0 (.cells #[.int .i64 k0, .int .i64 g0, .int .u32 ax] 89 (0, 0))
      replace R1 := blk_al R1 (.cells #[.int .i64 k0, .int .i64 g0, .int .u32 ax] 89 (0, 0))
      replace R2 := blk_al R2 (.cells #[.int .i64 k0, .int .i64 g0, .int .u32 ax] 89 (0, 0))
      replace B1 := bl_al B1 (.cells #[.int .i64 k0, .int .i64 g0, .int .u32 ax] 89 (0, 0))
      clear hb1
      generalize w1.alloc (.cells #[.int .i64 k0, .int .i64 g0, .int .u32 ax] 89 (0, 0)) = W at RT R0 R1 R2 B1 ⊢
      have H1 : ∀ t : Hold W, Calls Tryd.prog 65 #[.agg #[.int .i64 k0, .int .i64 g0, .int .u32 ax]] t.W fun e w' => e = .returned (.int .u64 x0) ∧ ∃ t' : Hold W, w' = t'.W := fun t => Hold.call (by rw [← HX0.out]; exact packTag_any k0 g0 ax t.W hd2.1 hd2.2 hd3.1 hd3.2 hax0 (by omega))
      have H2 : ∀ t : Hold W, Calls Tryd.prog 66 #[.agg #[.int .i64 rl, .int .i64 rg]] t.W fun e w' => e = .returned (.int .u32 pp) ∧ ∃ t' : Hold W, w' = t'.W := fun t => Hold.call (HPK t.W)
      have c0 := Hold.cell ((blkw RT).1 0)
      have c1 := Hold.cell ((blkw RT).1 1)
      have c2 := Hold.cell ((blkw RT).1 2)
      have c3 := Hold.cell ((blkw R0).1 3)
      have c4 := Hold.cell ((blkw R0).1 4)
      have c5 := Hold.cell ((blkw R0).1 5)
      have z0 := blk_lt R0
      have z1 := blk_lt R1
      have z2 := blk_lt R2
      refine region_hold_tail 13 (by kernel_rfl) (by kernel_rfl) ?_
      simp only [List.take_succ_cons, List.take_zero, List.drop_succ_cons, List.drop_zero]
      repeat (go_big_quiet_step (first | exact H1 _ | exact H2 _))
      refine wpQuiet_nil ?_
      rintro _ ⟨t, rfl⟩
      have R0t := blkb t.b R0 z0
      have R1t := blkb t.b R1 z1
      have R2t := blkb t.b R2 z2
      have Bt := bl_on B1 t.b
      obtain ⟨W3, hW3⟩ := t
      dsimp only at R0t R1t R2t Bt ⊢
      clear c0 c1 c2 c3 c4 c5 H1 H2 R0 R1 R2 RT B1 hW3
      obtain ⟨k1, f1, z3⟩ := blkw R0t
      obtain ⟨k2, f2, z4⟩ := blkw R1t
      go_wp2
      have HR0 := hide R0t
      have R1s := blk_set (i := 8) (blk_set (i := 7) (blk_set (i := 6) (blk_set (i := 5) (blk_set (i := 4) (blk_set (i := 3) (blk_set (i := 2) R1t (.int .u64 x0)) (.int .u64 x1)) (.int .u64 0)) (.int .u64 0)) (.int .u64 0)) (.int .u64 0)) (.int .u64 0)
      have HR1 := hide R1s
      have HR2 := hide (blk_far (a := ⟨w.heap.size + 1, 8, none⟩) (blk_far (a := ⟨w.heap.size + 1, 7, none⟩) (blk_far (a := ⟨w.heap.size + 1, 6, none⟩) (blk_far (a := ⟨w.heap.size + 1, 5, none⟩) (blk_far (a := ⟨w.heap.size + 1, 4, none⟩) (blk_far (a := ⟨w.heap.size + 1, 3, none⟩) (blk_far (a := ⟨w.heap.size + 1, 2, none⟩) R2t (by simp) (.int .u64 x0)) (by simp) (.int .u64 x1)) (by simp) (.int .u64 0)) (by simp) (.int .u64 0)) (by simp) (.int .u64 0)) (by simp) (.int .u64 0)) (by simp) (.int .u64 0))
      have hN1 : es.length ≤ 5 := hn
      go_loopw [50] (fun i wr => ∃ k : Nat, k ≤ es.length ∧ i = .int .i64 k ∧ Below w.heap.size w wr ∧ Hid (wr.heap[w.heap.size + 1]? = some (.cells (fillP p L false true high rl rg es k).cells.toArray 42 (0, 0))) ∧ Hid (wr.heap[w.heap.size + 2]? = some (.cells #[.int .i64 0, .int .u64 0, .int .u64 0, .int .u64 0, .int .u64 0, .int .u64 0, .int .u64 0, .int .u64 0, .int .u64 0] 42 (0, 0)))) (fun i _ => es.length - (intOf i).toNat)
      case atStart =>
        refine ⟨0, by omega, rfl, (by repeat (with_reducible first | assumption | exact Below.refl _ _ | (refine Below.setCell ?_ (by first | omega | (dsimp only; omega) | (simp; omega)) _) | (refine bl_al ?_ _) | (refine bl_dr ?_ _) | (refine bl_on ?_ (by assumption)))), ?_, HR2⟩
        show _ = _
        rw [HF.out, HR1.out]
        simp [Page.cells]
      case round =>
        obtain ⟨k, hk, rfl, hb, hrow, hzero⟩ := hrel
        clear HR1 HR2 R1s R0t R1t R2t Bt k1 f1 k2 f2 HR0
        by_cases hlt : k < es.length
        · obtain ⟨b, off, rfl, hbB, q0, q1, q2⟩ := Ent.at_ ((by obtain ⟨A', c', he, _, _, _, hat⟩ := h.below hb; injection he with e1; subst e1; exact hat : At wr w.heap.size A (es.flatMap Ent.cells))) hlt
          have hkr := HKR.out es[k] (List.getElem_mem hlt)
          have HEN := hide (encAt_new hlt)
          generalize hx : es[k] = x at q0 q1 q2 hkr HEN
          clear hx
          obtain ⟨hk0, hk1⟩ := hkr
          have hq := packP_range x.line x.gen
          have e6 := or64 (packP x.line x.gen) x.key 32 4294967296 (by decide) hq.1 (by omega) hk0 (by omega) (by omega)
          rw [or64_sym _ _ hq.1 (by omega) (by omega) (by omega)] at e6
          have HY : Hid (encE x = packP x.line x.gen + x.key * 4294967296) := hide rfl
          rw [← HY.out] at e6
          have HPX : ∀ t, Calls Tryd.prog 66 #[.agg #[.int .i64 x.line, .int .i64 x.gen]] t fun e w' => e = .returned (.int .u32 (packP x.line x.gen)) ∧ Below t.heap.size t w' := fun t => pack_any x.line x.gen t
          obtain ⟨hq0, hq1⟩ := hq
          generalize packP x.line x.gen = pk at e6 HPX hq0 hq1
          generalize encE x = y at e6 HEN
          have HEO : Hid (∀ j, j ≠ k → encAt es (k + 1) j = encAt es k j) := hide (fun j hj => encAt_old hj)
          clear HY HF
          generalize hfp : fillP p L false true high rl rg es k = q at hrow
          have HFP := hide hfp
          clear hfp
          have zr := blk_lt hrow.out
          have R1w : wr.heap[w.heap.size + 1]? = some (.cells #[.int .i64 q.line, .int .u64 q.head, .int .u64 q.d0, .int .u64 q.d1, .int .u64 q.d2, .int .u64 q.d3, .int .u64 q.d4, .int .u64 q.d5, .int .u64 q.d6] 42 (0, 0)) := hrow.out
          have hk5 : k = 0 ∨ k = 1 ∨ k = 2 ∨ k = 3 ∨ k = 4 := by omega
          rcases hk5 with rfl | rfl | rfl | rfl | rfl
          all_goals (simp at q0 q1 q2)
          all_goals go_wp2
          all_goals (generalize hwz : wr.alloc (.cells #[.int .u32 x.key, .int .i64 x.line, .int .i64 x.gen] 101 (0, 0)) = wz)
          all_goals (have RT : wz.heap[wr.heap.size]? = some (.cells #[.int .u32 x.key, .int .i64 x.line, .int .i64 x.gen] 101 (0, 0)) := by rw [← hwz]; exact new0 wr _)
          all_goals (have R1z : wz.heap[w.heap.size + 1]? = some (.cells #[.int .i64 q.line, .int .u64 q.head, .int .u64 q.d0, .int .u64 q.d1, .int .u64 q.d2, .int .u64 q.d3, .int .u64 q.d4, .int .u64 q.d5, .int .u64 q.d6] 42 (0, 0)) := by rw [← hwz]; exact blk_al R1w _)
          all_goals (have HZ2 : Hid (wz.heap[w.heap.size + 2]? = some (.cells #[.int .i64 0, .int .u64 0, .int .u64 0, .int .u64 0, .int .u64 0, .int .u64 0, .int .u64 0, .int .u64 0, .int .u64 0] 42 (0, 0))) := hide (by rw [← hwz]; exact blk_al hzero.out _))
          all_goals (have Bz : Below w.heap.size w wz := by rw [← hwz]; exact bl_al hb _)
          all_goals (clear hwz)
          all_goals (have c0 := Hold.cell ((blkw RT).1 0))
          all_goals (have c1 := Hold.cell ((blkw RT).1 1))
          all_goals (have c2 := Hold.cell ((blkw RT).1 2))
          all_goals (have H1 : ∀ t : Hold wz, Calls Tryd.prog 66 #[.agg #[.int .i64 x.line, .int .i64 x.gen]] t.W (fun e w' => e = .returned (.int .u32 pk) ∧ ∃ t' : Hold wz, w' = t'.W) := fun t => Hold.call (HPX t.W))
          all_goals (have zz1 := blk_lt R1z)
          all_goals (refine region_hold_tail 13 (by kernel_rfl) (by kernel_rfl) ?_)
          all_goals (simp only [List.take_succ_cons, List.take_zero, List.drop_succ_cons, List.drop_zero])
          all_goals (repeat (go_big_quiet_step (first | exact H1 _)))
          all_goals (refine wpQuiet_nil ?_)
          all_goals (rintro _ ⟨t, rfl⟩)
          all_goals (obtain ⟨k1, f1, z3⟩ := blkw (blkb t.b R1z zz1))
          all_goals (have HZ3 := hide (blkb t.b HZ2.out (blk_lt HZ2.out)))
          all_goals (have Bt := bl_on Bz t.b)
          all_goals (have HR1z := hide R1z)
          all_goals (clear c0 c1 c2 H1 RT R1z)
          all_goals go_wp2
          all_goals go_roundw
          all_goals try (case measure => simp [intOf]; omega)
          all_goals (obtain rfl := HFP.out)
          all_goals (have HEN' := HEN.out)
          all_goals (have HEO' := HEO.out)
          all_goals (simp only [Nat.reduceAdd] at HEN' HEO')
          all_goals (refine ⟨_, hlt, by go_num, Bt.setCell (by simp) _, ?_, blk_far HZ3.out (by simp) _⟩)
          all_goals (refine (blk_set (blkb t.b HR1z.out zz1) _).trans ?_)
          all_goals (simp [Page.cells, fillP, HEN', HEO'])
        · obtain rfl : k = es.length := by omega
          obtain ⟨k1, f1, z3⟩ := blkw (show wr.heap[w.heap.size + 1]? = some (.cells #[.int .i64 (fillP p L false true high rl rg es es.length).line, .int .u64 (fillP p L false true high rl rg es es.length).head, .int .u64 (fillP p L false true high rl rg es es.length).d0, .int .u64 (fillP p L false true high rl rg es es.length).d1, .int .u64 (fillP p L false true high rl rg es es.length).d2, .int .u64 (fillP p L false true high rl rg es es.length).d3, .int .u64 (fillP p L false true high rl rg es es.length).d4, .int .u64 (fillP p L false true high rl rg es es.length).d5, .int .u64 (fillP p L false true high rl rg es es.length).d6] 42 (0, 0)) from hrow.out)
          obtain ⟨k2, f2, z4⟩ := blkw hzero.out
          go_wp2
          refine bodyPost_ret (v := (fillP p L false true high rl rg es es.length).v) (by simp [results, Tryd.results59, go_sem, k2, f2]) rfl ⟨rfl, (by repeat (with_reducible first | assumption | exact Below.refl _ _ | (refine Below.setCell ?_ (by first | omega | (dsimp only; omega) | (simp; omega)) _) | (refine bl_al ?_ _) | (refine bl_dr ?_ _) | (refine bl_on ?_ (by assumption))))⟩
  | true =>
    cases dead with
    | false =>
      have hax : a0 + 65536 = auxOf L es.length true false := by rw [HA.out]; simp
      generalize hax2 : a0 + 65536 = ax at e2 hax
      have hax0 : 0 ≤ ax := by omega
      have hax1 : ax ≤ 300000 := by omega
      have HX0 : Hid (k0 + g0 * 256 + ax * 4294967296 = k0 + g0 * 256 + auxOf L es.length true false * 4294967296) := hide (by rw [hax])
      generalize k0 + g0 * 256 + auxOf L es.length true false * 4294967296 = x0 at HX0 HF
      clear hax hax2 HA
      go_enter Tryd.func59, Tryd.ntmps59
      go_wp2_with fail
      refine (HU _ hd0 hd1).mono ?_
      rintro e w1 ⟨rfl, hb1⟩
      have R0 := blkb hb1 (new2 _ _ _ _) (by simp; omega)
      have R1 := blkb hb1 (new2' _ _ _ _) (by simp)
      have R2 := blkb hb1 (new2'' _ _ _ _) (by simp)
      have B1 : Below w.heap.size w w1 := (by repeat (with_reducible first | assumption | exact Below.refl _ _ | (refine Below.setCell ?_ (by first | omega | (dsimp only; omega) | (simp; omega)) _) | (refine bl_al ?_ _) | (refine bl_dr ?_ _) | (refine bl_on ?_ (by assumption))))
      obtain ⟨k1, f1, z1⟩ := blkw R0
      go_wp2
      clear k1 f1 z1
      have RT := new0 w1 (.cells #[.int .i64 k0, .int .i64 g0, .int .u32 ax] 89 (0, 0))
      replace R0 := blk_al R0 (.cells #[.int .i64 k0, .int .i64 g0, .int .u32 ax] 89 (0, 0))
      replace R1 := blk_al R1 (.cells #[.int .i64 k0, .int .i64 g0, .int .u32 ax] 89 (0, 0))
      replace R2 := blk_al R2 (.cells #[.int .i64 k0, .int .i64 g0, .int .u32 ax] 89 (0, 0))
      replace B1 := bl_al B1 (.cells #[.int .i64 k0, .int .i64 g0, .int .u32 ax] 89 (0, 0))
      clear hb1
      generalize w1.alloc (.cells #[.int .i64 k0, .int .i64 g0, .int .u32 ax] 89 (0, 0)) = W at RT R0 R1 R2 B1 ⊢
      have H1 : ∀ t : Hold W, Calls Tryd.prog 65 #[.agg #[.int .i64 k0, .int .i64 g0, .int .u32 ax]] t.W fun e w' => e = .returned (.int .u64 x0) ∧ ∃ t' : Hold W, w' = t'.W := fun t => Hold.call (by rw [← HX0.out]; exact packTag_any k0 g0 ax t.W hd2.1 hd2.2 hd3.1 hd3.2 hax0 (by omega))
      have H2 : ∀ t : Hold W, Calls Tryd.prog 66 #[.agg #[.int .i64 rl, .int .i64 rg]] t.W fun e w' => e = .returned (.int .u32 pp) ∧ ∃ t' : Hold W, w' = t'.W := fun t => Hold.call (HPK t.W)
      have c0 := Hold.cell ((blkw RT).1 0)
      have c1 := Hold.cell ((blkw RT).1 1)
      have c2 := Hold.cell ((blkw RT).1 2)
      have c3 := Hold.cell ((blkw R0).1 3)
      have c4 := Hold.cell ((blkw R0).1 4)
      have c5 := Hold.cell ((blkw R0).1 5)
      have z0 := blk_lt R0
      have z1 := blk_lt R1
      have z2 := blk_lt R2
      refine region_hold_tail 13 (by kernel_rfl) (by kernel_rfl) ?_
      simp only [List.take_succ_cons, List.take_zero, List.drop_succ_cons, List.drop_zero]
      repeat (go_big_quiet_step (first | exact H1 _ | exact H2 _))
      refine wpQuiet_nil ?_
      rintro _ ⟨t, rfl⟩
      have R0t := blkb t.b R0 z0
      have R1t := blkb t.b R1 z1
      have R2t := blkb t.b R2 z2
      have Bt := bl_on B1 t.b
      obtain ⟨W3, hW3⟩ := t
      dsimp only at R0t R1t R2t Bt ⊢
      clear c0 c1 c2 c3 c4 c5 H1 H2 R0 R1 R2 RT B1 hW3
      obtain ⟨k1, f1, z3⟩ := blkw R0t
      obtain ⟨k2, f2, z4⟩ := blkw R1t
      go_wp2
      have HR0 := hide R0t
      have R1s := blk_set (i := 8) (blk_set (i := 7) (blk_set (i := 6) (blk_set (i := 5) (blk_set (i := 4) (blk_set (i := 3) (blk_set (i := 2) R1t (.int .u64 x0)) (.int .u64 x1)) (.int .u64 0)) (.int .u64 0)) (.int .u64 0)) (.int .u64 0)) (.int .u64 0)
      have HR1 := hide R1s
      have HR2 := hide (blk_far (a := ⟨w.heap.size + 1, 8, none⟩) (blk_far (a := ⟨w.heap.size + 1, 7, none⟩) (blk_far (a := ⟨w.heap.size + 1, 6, none⟩) (blk_far (a := ⟨w.heap.size + 1, 5, none⟩) (blk_far (a := ⟨w.heap.size + 1, 4, none⟩) (blk_far (a := ⟨w.heap.size + 1, 3, none⟩) (blk_far (a := ⟨w.heap.size + 1, 2, none⟩) R2t (by simp) (.int .u64 x0)) (by simp) (.int .u64 x1)) (by simp) (.int .u64 0)) (by simp) (.int .u64 0)) (by simp) (.int .u64 0)) (by simp) (.int .u64 0)) (by simp) (.int .u64 0))
      have hN1 : es.length ≤ 5 := hn
      go_loopw [50] (fun i wr => ∃ k : Nat, k ≤ es.length ∧ i = .int .i64 k ∧ Below w.heap.size w wr ∧ Hid (wr.heap[w.heap.size + 1]? = some (.cells (fillP p L true false high rl rg es k).cells.toArray 42 (0, 0))) ∧ Hid (wr.heap[w.heap.size + 2]? = some (.cells #[.int .i64 0, .int .u64 0, .int .u64 0, .int .u64 0, .int .u64 0, .int .u64 0, .int .u64 0, .int .u64 0, .int .u64 0] 42 (0, 0)))) (fun i _ => es.length - (intOf i).toNat)
      case atStart =>
        refine ⟨0, by omega, rfl, (by repeat (with_reducible first | assumption | exact Below.refl _ _ | (refine Below.setCell ?_ (by first | omega | (dsimp only; omega) | (simp; omega)) _) | (refine bl_al ?_ _) | (refine bl_dr ?_ _) | (refine bl_on ?_ (by assumption)))), ?_, HR2⟩
        show _ = _
        rw [HF.out, HR1.out]
        simp [Page.cells]
      case round =>
        obtain ⟨k, hk, rfl, hb, hrow, hzero⟩ := hrel
        clear HR1 HR2 R1s R0t R1t R2t Bt k1 f1 k2 f2 HR0
        by_cases hlt : k < es.length
        · obtain ⟨b, off, rfl, hbB, q0, q1, q2⟩ := Ent.at_ ((by obtain ⟨A', c', he, _, _, _, hat⟩ := h.below hb; injection he with e1; subst e1; exact hat : At wr w.heap.size A (es.flatMap Ent.cells))) hlt
          have hkr := HKR.out es[k] (List.getElem_mem hlt)
          have HEN := hide (encAt_new hlt)
          generalize hx : es[k] = x at q0 q1 q2 hkr HEN
          clear hx
          obtain ⟨hk0, hk1⟩ := hkr
          have hq := packP_range x.line x.gen
          have e6 := or64 (packP x.line x.gen) x.key 32 4294967296 (by decide) hq.1 (by omega) hk0 (by omega) (by omega)
          rw [or64_sym _ _ hq.1 (by omega) (by omega) (by omega)] at e6
          have HY : Hid (encE x = packP x.line x.gen + x.key * 4294967296) := hide rfl
          rw [← HY.out] at e6
          have HPX : ∀ t, Calls Tryd.prog 66 #[.agg #[.int .i64 x.line, .int .i64 x.gen]] t fun e w' => e = .returned (.int .u32 (packP x.line x.gen)) ∧ Below t.heap.size t w' := fun t => pack_any x.line x.gen t
          obtain ⟨hq0, hq1⟩ := hq
          generalize packP x.line x.gen = pk at e6 HPX hq0 hq1
          generalize encE x = y at e6 HEN
          have HEO : Hid (∀ j, j ≠ k → encAt es (k + 1) j = encAt es k j) := hide (fun j hj => encAt_old hj)
          clear HY HF
          generalize hfp : fillP p L true false high rl rg es k = q at hrow
          have HFP := hide hfp
          clear hfp
          have zr := blk_lt hrow.out
          have R1w : wr.heap[w.heap.size + 1]? = some (.cells #[.int .i64 q.line, .int .u64 q.head, .int .u64 q.d0, .int .u64 q.d1, .int .u64 q.d2, .int .u64 q.d3, .int .u64 q.d4, .int .u64 q.d5, .int .u64 q.d6] 42 (0, 0)) := hrow.out
          have hk5 : k = 0 ∨ k = 1 ∨ k = 2 ∨ k = 3 ∨ k = 4 := by omega
          rcases hk5 with rfl | rfl | rfl | rfl | rfl
          all_goals (simp at q0 q1 q2)
          all_goals go_wp2
          all_goals (generalize hwz : wr.alloc (.cells #[.int .u32 x.key, .int .i64 x.line, .int .i64 x.gen] 101 (0, 0)) = wz)
          all_goals (have RT : wz.heap[wr.heap.size]? = some (.cells #[.int .u32 x.key, .int .i64 x.line, .int .i64 x.gen] 101 (0, 0)) := by rw [← hwz]; exact new0 wr _)
          all_goals (have R1z : wz.heap[w.heap.size + 1]? = some (.cells #[.int .i64 q.line, .int .u64 q.head, .int .u64 q.d0, .int .u64 q.d1, .int .u64 q.d2, .int .u64 q.d3, .int .u64 q.d4, .int .u64 q.d5, .int .u64 q.d6] 42 (0, 0)) := by rw [← hwz]; exact blk_al R1w _)
          all_goals (have HZ2 : Hid (wz.heap[w.heap.size + 2]? = some (.cells #[.int .i64 0, .int .u64 0, .int .u64 0, .int .u64 0, .int .u64 0, .int .u64 0, .int .u64 0, .int .u64 0, .int .u64 0] 42 (0, 0))) := hide (by rw [← hwz]; exact blk_al hzero.out _))
          all_goals (have Bz : Below w.heap.size w wz := by rw [← hwz]; exact bl_al hb _)
          all_goals (clear hwz)
          all_goals (have c0 := Hold.cell ((blkw RT).1 0))
          all_goals (have c1 := Hold.cell ((blkw RT).1 1))
          all_goals (have c2 := Hold.cell ((blkw RT).1 2))
          all_goals (have H1 : ∀ t : Hold wz, Calls Tryd.prog 66 #[.agg #[.int .i64 x.line, .int .i64 x.gen]] t.W (fun e w' => e = .returned (.int .u32 pk) ∧ ∃ t' : Hold wz, w' = t'.W) := fun t => Hold.call (HPX t.W))
          all_goals (have zz1 := blk_lt R1z)
          all_goals (refine region_hold_tail 13 (by kernel_rfl) (by kernel_rfl) ?_)
          all_goals (simp only [List.take_succ_cons, List.take_zero, List.drop_succ_cons, List.drop_zero])
          all_goals (repeat (go_big_quiet_step (first | exact H1 _)))
          all_goals (refine wpQuiet_nil ?_)
          all_goals (rintro _ ⟨t, rfl⟩)
          all_goals (obtain ⟨k1, f1, z3⟩ := blkw (blkb t.b R1z zz1))
          all_goals (have HZ3 := hide (blkb t.b HZ2.out (blk_lt HZ2.out)))
          all_goals (have Bt := bl_on Bz t.b)
          all_goals (have HR1z := hide R1z)
          all_goals (clear c0 c1 c2 H1 RT R1z)
          all_goals go_wp2
          all_goals go_roundw
          all_goals try (case measure => simp [intOf]; omega)
          all_goals (obtain rfl := HFP.out)
          all_goals (have HEN' := HEN.out)
          all_goals (have HEO' := HEO.out)
          all_goals (simp only [Nat.reduceAdd] at HEN' HEO')
          all_goals (refine ⟨_, hlt, by go_num, Bt.setCell (by simp) _, ?_, blk_far HZ3.out (by simp) _⟩)
          all_goals (refine (blk_set (blkb t.b HR1z.out zz1) _).trans ?_)
          all_goals (simp [Page.cells, fillP, HEN', HEO'])
        · obtain rfl : k = es.length := by omega
          obtain ⟨k1, f1, z3⟩ := blkw (show wr.heap[w.heap.size + 1]? = some (.cells #[.int .i64 (fillP p L true false high rl rg es es.length).line, .int .u64 (fillP p L true false high rl rg es es.length).head, .int .u64 (fillP p L true false high rl rg es es.length).d0, .int .u64 (fillP p L true false high rl rg es es.length).d1, .int .u64 (fillP p L true false high rl rg es es.length).d2, .int .u64 (fillP p L true false high rl rg es es.length).d3, .int .u64 (fillP p L true false high rl rg es es.length).d4, .int .u64 (fillP p L true false high rl rg es es.length).d5, .int .u64 (fillP p L true false high rl rg es es.length).d6] 42 (0, 0)) from hrow.out)
          obtain ⟨k2, f2, z4⟩ := blkw hzero.out
          go_wp2
          refine bodyPost_ret (v := (fillP p L true false high rl rg es es.length).v) (by simp [results, Tryd.results59, go_sem, k2, f2]) rfl ⟨rfl, (by repeat (with_reducible first | assumption | exact Below.refl _ _ | (refine Below.setCell ?_ (by first | omega | (dsimp only; omega) | (simp; omega)) _) | (refine bl_al ?_ _) | (refine bl_dr ?_ _) | (refine bl_on ?_ (by assumption))))⟩
    | true =>
      generalize ha8 : a0 + 65536 = a8 at e2
      have ha8' : a8 = a0 + 65536 := ha8.symm
      clear ha8
      rw [← ha8'] at e4
      have hax : a8 + 131072 = auxOf L es.length true true := by rw [HA.out, ha8']; simp
      generalize hax2 : a8 + 131072 = ax at e4 hax
      have hax0 : 0 ≤ ax := by omega
      have hax1 : ax ≤ 300000 := by omega
      have HX0 : Hid (k0 + g0 * 256 + ax * 4294967296 = k0 + g0 * 256 + auxOf L es.length true true * 4294967296) := hide (by rw [hax])
      generalize k0 + g0 * 256 + auxOf L es.length true true * 4294967296 = x0 at HX0 HF
      clear hax hax2 HA ha8'
      go_enter Tryd.func59, Tryd.ntmps59
      go_wp2_with fail
      refine (HU _ hd0 hd1).mono ?_
      rintro e w1 ⟨rfl, hb1⟩
      have R0 := blkb hb1 (new2 _ _ _ _) (by simp; omega)
      have R1 := blkb hb1 (new2' _ _ _ _) (by simp)
      have R2 := blkb hb1 (new2'' _ _ _ _) (by simp)
      have B1 : Below w.heap.size w w1 := (by repeat (with_reducible first | assumption | exact Below.refl _ _ | (refine Below.setCell ?_ (by first | omega | (dsimp only; omega) | (simp; omega)) _) | (refine bl_al ?_ _) | (refine bl_dr ?_ _) | (refine bl_on ?_ (by assumption))))
      obtain ⟨k1, f1, z1⟩ := blkw R0
      go_wp2
      clear k1 f1 z1
      have RT := new0 w1 (.cells #[.int .i64 k0, .int .i64 g0, .int .u32 ax] 89 (0, 0))
      replace R0 := blk_al R0 (.cells #[.int .i64 k0, .int .i64 g0, .int .u32 ax] 89 (0, 0))
      replace R1 := blk_al R1 (.cells #[.int .i64 k0, .int .i64 g0, .int .u32 ax] 89 (0, 0))
      replace R2 := blk_al R2 (.cells #[.int .i64 k0, .int .i64 g0, .int .u32 ax] 89 (0, 0))
      replace B1 := bl_al B1 (.cells #[.int .i64 k0, .int .i64 g0, .int .u32 ax] 89 (0, 0))
      clear hb1
      generalize w1.alloc (.cells #[.int .i64 k0, .int .i64 g0, .int .u32 ax] 89 (0, 0)) = W at RT R0 R1 R2 B1 ⊢
      have H1 : ∀ t : Hold W, Calls Tryd.prog 65 #[.agg #[.int .i64 k0, .int .i64 g0, .int .u32 ax]] t.W fun e w' => e = .returned (.int .u64 x0) ∧ ∃ t' : Hold W, w' = t'.W := fun t => Hold.call (by rw [← HX0.out]; exact packTag_any k0 g0 ax t.W hd2.1 hd2.2 hd3.1 hd3.2 hax0 (by omega))
      have H2 : ∀ t : Hold W, Calls Tryd.prog 66 #[.agg #[.int .i64 rl, .int .i64 rg]] t.W fun e w' => e = .returned (.int .u32 pp) ∧ ∃ t' : Hold W, w' = t'.W := fun t => Hold.call (HPK t.W)
      have c0 := Hold.cell ((blkw RT).1 0)
      have c1 := Hold.cell ((blkw RT).1 1)
      have c2 := Hold.cell ((blkw RT).1 2)
      have c3 := Hold.cell ((blkw R0).1 3)
      have c4 := Hold.cell ((blkw R0).1 4)
      have c5 := Hold.cell ((blkw R0).1 5)
      have z0 := blk_lt R0
      have z1 := blk_lt R1
      have z2 := blk_lt R2
      refine region_hold_tail 13 (by kernel_rfl) (by kernel_rfl) ?_
      simp only [List.take_succ_cons, List.take_zero, List.drop_succ_cons, List.drop_zero]
      repeat (go_big_quiet_step (first | exact H1 _ | exact H2 _))
      refine wpQuiet_nil ?_
      rintro _ ⟨t, rfl⟩
      have R0t := blkb t.b R0 z0
      have R1t := blkb t.b R1 z1
      have R2t := blkb t.b R2 z2
      have Bt := bl_on B1 t.b
      obtain ⟨W3, hW3⟩ := t
      dsimp only at R0t R1t R2t Bt ⊢
      clear c0 c1 c2 c3 c4 c5 H1 H2 R0 R1 R2 RT B1 hW3
      obtain ⟨k1, f1, z3⟩ := blkw R0t
      obtain ⟨k2, f2, z4⟩ := blkw R1t
      go_wp2
      have HR0 := hide R0t
      have R1s := blk_set (i := 8) (blk_set (i := 7) (blk_set (i := 6) (blk_set (i := 5) (blk_set (i := 4) (blk_set (i := 3) (blk_set (i := 2) R1t (.int .u64 x0)) (.int .u64 x1)) (.int .u64 0)) (.int .u64 0)) (.int .u64 0)) (.int .u64 0)) (.int .u64 0)
      have HR1 := hide R1s
      have HR2 := hide (blk_far (a := ⟨w.heap.size + 1, 8, none⟩) (blk_far (a := ⟨w.heap.size + 1, 7, none⟩) (blk_far (a := ⟨w.heap.size + 1, 6, none⟩) (blk_far (a := ⟨w.heap.size + 1, 5, none⟩) (blk_far (a := ⟨w.heap.size + 1, 4, none⟩) (blk_far (a := ⟨w.heap.size + 1, 3, none⟩) (blk_far (a := ⟨w.heap.size + 1, 2, none⟩) R2t (by simp) (.int .u64 x0)) (by simp) (.int .u64 x1)) (by simp) (.int .u64 0)) (by simp) (.int .u64 0)) (by simp) (.int .u64 0)) (by simp) (.int .u64 0)) (by simp) (.int .u64 0))
      have hN1 : es.length ≤ 5 := hn
      go_loopw [50] (fun i wr => ∃ k : Nat, k ≤ es.length ∧ i = .int .i64 k ∧ Below w.heap.size w wr ∧ Hid (wr.heap[w.heap.size + 1]? = some (.cells (fillP p L true true high rl rg es k).cells.toArray 42 (0, 0))) ∧ Hid (wr.heap[w.heap.size + 2]? = some (.cells #[.int .i64 0, .int .u64 0, .int .u64 0, .int .u64 0, .int .u64 0, .int .u64 0, .int .u64 0, .int .u64 0, .int .u64 0] 42 (0, 0)))) (fun i _ => es.length - (intOf i).toNat)
      case atStart =>
        refine ⟨0, by omega, rfl, (by repeat (with_reducible first | assumption | exact Below.refl _ _ | (refine Below.setCell ?_ (by first | omega | (dsimp only; omega) | (simp; omega)) _) | (refine bl_al ?_ _) | (refine bl_dr ?_ _) | (refine bl_on ?_ (by assumption)))), ?_, HR2⟩
        show _ = _
        rw [HF.out, HR1.out]
        simp [Page.cells]
      case round =>
        obtain ⟨k, hk, rfl, hb, hrow, hzero⟩ := hrel
        clear HR1 HR2 R1s R0t R1t R2t Bt k1 f1 k2 f2 HR0
        by_cases hlt : k < es.length
        · obtain ⟨b, off, rfl, hbB, q0, q1, q2⟩ := Ent.at_ ((by obtain ⟨A', c', he, _, _, _, hat⟩ := h.below hb; injection he with e1; subst e1; exact hat : At wr w.heap.size A (es.flatMap Ent.cells))) hlt
          have hkr := HKR.out es[k] (List.getElem_mem hlt)
          have HEN := hide (encAt_new hlt)
          generalize hx : es[k] = x at q0 q1 q2 hkr HEN
          clear hx
          obtain ⟨hk0, hk1⟩ := hkr
          have hq := packP_range x.line x.gen
          have e6 := or64 (packP x.line x.gen) x.key 32 4294967296 (by decide) hq.1 (by omega) hk0 (by omega) (by omega)
          rw [or64_sym _ _ hq.1 (by omega) (by omega) (by omega)] at e6
          have HY : Hid (encE x = packP x.line x.gen + x.key * 4294967296) := hide rfl
          rw [← HY.out] at e6
          have HPX : ∀ t, Calls Tryd.prog 66 #[.agg #[.int .i64 x.line, .int .i64 x.gen]] t fun e w' => e = .returned (.int .u32 (packP x.line x.gen)) ∧ Below t.heap.size t w' := fun t => pack_any x.line x.gen t
          obtain ⟨hq0, hq1⟩ := hq
          generalize packP x.line x.gen = pk at e6 HPX hq0 hq1
          generalize encE x = y at e6 HEN
          have HEO : Hid (∀ j, j ≠ k → encAt es (k + 1) j = encAt es k j) := hide (fun j hj => encAt_old hj)
          clear HY HF
          generalize hfp : fillP p L true true high rl rg es k = q at hrow
          have HFP := hide hfp
          clear hfp
          have zr := blk_lt hrow.out
          have R1w : wr.heap[w.heap.size + 1]? = some (.cells #[.int .i64 q.line, .int .u64 q.head, .int .u64 q.d0, .int .u64 q.d1, .int .u64 q.d2, .int .u64 q.d3, .int .u64 q.d4, .int .u64 q.d5, .int .u64 q.d6] 42 (0, 0)) := hrow.out
          have hk5 : k = 0 ∨ k = 1 ∨ k = 2 ∨ k = 3 ∨ k = 4 := by omega
          rcases hk5 with rfl | rfl | rfl | rfl | rfl
          all_goals (simp at q0 q1 q2)
          all_goals go_wp2
          all_goals (generalize hwz : wr.alloc (.cells #[.int .u32 x.key, .int .i64 x.line, .int .i64 x.gen] 101 (0, 0)) = wz)
          all_goals (have RT : wz.heap[wr.heap.size]? = some (.cells #[.int .u32 x.key, .int .i64 x.line, .int .i64 x.gen] 101 (0, 0)) := by rw [← hwz]; exact new0 wr _)
          all_goals (have R1z : wz.heap[w.heap.size + 1]? = some (.cells #[.int .i64 q.line, .int .u64 q.head, .int .u64 q.d0, .int .u64 q.d1, .int .u64 q.d2, .int .u64 q.d3, .int .u64 q.d4, .int .u64 q.d5, .int .u64 q.d6] 42 (0, 0)) := by rw [← hwz]; exact blk_al R1w _)
          all_goals (have HZ2 : Hid (wz.heap[w.heap.size + 2]? = some (.cells #[.int .i64 0, .int .u64 0, .int .u64 0, .int .u64 0, .int .u64 0, .int .u64 0, .int .u64 0, .int .u64 0, .int .u64 0] 42 (0, 0))) := hide (by rw [← hwz]; exact blk_al hzero.out _))
          all_goals (have Bz : Below w.heap.size w wz := by rw [← hwz]; exact bl_al hb _)
          all_goals (clear hwz)
          all_goals (have c0 := Hold.cell ((blkw RT).1 0))
          all_goals (have c1 := Hold.cell ((blkw RT).1 1))
          all_goals (have c2 := Hold.cell ((blkw RT).1 2))
          all_goals (have H1 : ∀ t : Hold wz, Calls Tryd.prog 66 #[.agg #[.int .i64 x.line, .int .i64 x.gen]] t.W (fun e w' => e = .returned (.int .u32 pk) ∧ ∃ t' : Hold wz, w' = t'.W) := fun t => Hold.call (HPX t.W))
          all_goals (have zz1 := blk_lt R1z)
          all_goals (refine region_hold_tail 13 (by kernel_rfl) (by kernel_rfl) ?_)
          all_goals (simp only [List.take_succ_cons, List.take_zero, List.drop_succ_cons, List.drop_zero])
          all_goals (repeat (go_big_quiet_step (first | exact H1 _)))
          all_goals (refine wpQuiet_nil ?_)
          all_goals (rintro _ ⟨t, rfl⟩)
          all_goals (obtain ⟨k1, f1, z3⟩ := blkw (blkb t.b R1z zz1))
          all_goals (have HZ3 := hide (blkb t.b HZ2.out (blk_lt HZ2.out)))
          all_goals (have Bt := bl_on Bz t.b)
          all_goals (have HR1z := hide R1z)
          all_goals (clear c0 c1 c2 H1 RT R1z)
          all_goals go_wp2
          all_goals go_roundw
          all_goals try (case measure => simp [intOf]; omega)
          all_goals (obtain rfl := HFP.out)
          all_goals (have HEN' := HEN.out)
          all_goals (have HEO' := HEO.out)
          all_goals (simp only [Nat.reduceAdd] at HEN' HEO')
          all_goals (refine ⟨_, hlt, by go_num, Bt.setCell (by simp) _, ?_, blk_far HZ3.out (by simp) _⟩)
          all_goals (refine (blk_set (blkb t.b HR1z.out zz1) _).trans ?_)
          all_goals (simp [Page.cells, fillP, HEN', HEO'])
        · obtain rfl : k = es.length := by omega
          obtain ⟨k1, f1, z3⟩ := blkw (show wr.heap[w.heap.size + 1]? = some (.cells #[.int .i64 (fillP p L true true high rl rg es es.length).line, .int .u64 (fillP p L true true high rl rg es es.length).head, .int .u64 (fillP p L true true high rl rg es es.length).d0, .int .u64 (fillP p L true true high rl rg es es.length).d1, .int .u64 (fillP p L true true high rl rg es es.length).d2, .int .u64 (fillP p L true true high rl rg es es.length).d3, .int .u64 (fillP p L true true high rl rg es es.length).d4, .int .u64 (fillP p L true true high rl rg es es.length).d5, .int .u64 (fillP p L true true high rl rg es es.length).d6] 42 (0, 0)) from hrow.out)
          obtain ⟨k2, f2, z4⟩ := blkw hzero.out
          go_wp2
          refine bodyPost_ret (v := (fillP p L true true high rl rg es es.length).v) (by simp [results, Tryd.results59, go_sem, k2, f2]) rfl ⟨rfl, (by repeat (with_reducible first | assumption | exact Below.refl _ _ | (refine Below.setCell ?_ (by first | omega | (dsimp only; omega) | (simp; omega)) _) | (refine bl_al ?_ _) | (refine bl_dr ?_ _) | (refine bl_on ?_ (by assumption))))⟩
end Go.Proofs.YtkodkbjmeepbiaaDoor
