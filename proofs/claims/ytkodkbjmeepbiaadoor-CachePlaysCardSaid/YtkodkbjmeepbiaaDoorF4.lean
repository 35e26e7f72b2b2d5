/- Walks: Put and Get of a cache that is not valid. Conditions: as each theorem names them. -/
import Derived.Test.YtkodkbjmeepbiaaDoorC6
set_option linter.unusedVariables false
set_option linter.unusedSimpArgs false
namespace Go.Proofs.YtkodkbjmeepbiaaDoor
open Go.RowKit

set_option maxRecDepth 100000 in
set_option maxHeartbeats 2000000 in
theorem get_bad (v : Value) (cap line : Int) (l : List Page) (w : World) (h : Sl w w.heap.size 9 v l.length (l.flatMap Page.cells)) (hn : l.length ≤ 1000000) (hwf : Wf l) (hv : valid cap l = false) :
    Calls Tryd.prog 10 #[.agg #[.int .i64 cap, v], .int .i64 line] w fun e w' => ∃ v', e = .returned (.tuple #[.agg #[.int .i64 cap, v'], (⟨0, 0, 0, 0, 0, 0, 0, 0, 0⟩ : Page).v, .bool false]) ∧
      w'.ownsRow w.heap.size 42 9 v' l.length (l.flatMap Page.cells) ∧ Below w.heap.size w w' := by
  have hform : ∃ A c, v = .slice A l.length c := by obtain ⟨A, c, rfl, _⟩ := h; exact ⟨A, c, rfl⟩
  obtain ⟨A, c, rfl⟩ := hform
  have HV := hide hv
  clear hv
  go_enter Tryd.func10, Tryd.ntmps10
  go_wp2_with fail
  refine (copied_any _ cap l _ (h.on (bl_al (bl_al (bl_al (Below.refl _ _) _) _) _)) hn).mono ?_
  rintro e w1 ⟨v1, rfl, hown, hb⟩
  obtain ⟨A1, c1, rfl, hc1⟩ := own_form hown
  obtain ⟨k0, f0, z0⟩ := blk hb (new2 _ _ _ _)
  go_wp2_with fail
  have R0 : ((w1.setCell ⟨w.heap.size, 0, none⟩ (.int .i64 cap)).setCell ⟨w.heap.size, 1, none⟩ (.slice A1 l.length c1)).heap[w.heap.size]? = some (.cells #[.int .i64 cap, .slice A1 l.length c1] 24 (0, 0)) := blk_set (blk_set (blkb hb (new2 _ _ _ _) (by simp; omega)) _) _
  have R1 : ((w1.setCell ⟨w.heap.size, 0, none⟩ (.int .i64 cap)).setCell ⟨w.heap.size, 1, none⟩ (.slice A1 l.length c1)).heap[w.heap.size + 1]? = some (.cells #[.int .i64 0, .slice none 0 0] 24 (0, 0)) := blk_far (blk_far (blkb hb (new2' _ _ _ _) (by simp)) (by simp) _) (by simp) _
  have R2 : ((w1.setCell ⟨w.heap.size, 0, none⟩ (.int .i64 cap)).setCell ⟨w.heap.size, 1, none⟩ (.slice A1 l.length c1)).heap[w.heap.size + 2]? = some (.cells #[.int .i64 0, .int .u64 0, .int .u64 0, .int .u64 0, .int .u64 0, .int .u64 0, .int .u64 0, .int .u64 0, .int .u64 0] 42 (0, 0)) := blk_far (blk_far (blkb hb (new2'' _ _ _ _) (by simp)) (by simp) _) (by simp) _
  have O2 : ((w1.setCell ⟨w.heap.size, 0, none⟩ (.int .i64 cap)).setCell ⟨w.heap.size, 1, none⟩ (.slice A1 l.length c1)).ownsRow (w.heap.size + 3) 42 9 (.slice A1 l.length c1) l.length (l.flatMap Page.cells) := by
    have := ownsRow_setCell_below (a := ⟨w.heap.size, 1, none⟩) (ownsRow_setCell_below (a := ⟨w.heap.size, 0, none⟩) hown (by simp; omega) (.int .i64 cap)) (by simp; omega) (.slice A1 l.length c1)
    simpa using this
  have B2 : Below w.heap.size w ((w1.setCell ⟨w.heap.size, 0, none⟩ (.int .i64 cap)).setCell ⟨w.heap.size, 1, none⟩ (.slice A1 l.length c1)) := ((bl_on (bl_al (bl_al (bl_al (Below.refl _ _) _) _) _) hb).setCell (Nat.le_refl _) _).setCell (Nat.le_refl _) _
  generalize ((w1.setCell ⟨w.heap.size, 0, none⟩ (.int .i64 cap)).setCell ⟨w.heap.size, 1, none⟩ (.slice A1 l.length c1)) = W2 at R0 R1 R2 O2 B2 ⊢
  clear hb hown k0 f0 z0
  refine (valid_any _ cap l W2 (Sl.of_own O2) hn hwf.at).mono ?_
  rw [HV.out]
  rintro e w3 ⟨rfl, hb3⟩
  replace R0 := blkb hb3 R0 (blk_lt R0)
  replace R1 := blkb hb3 R1 (blk_lt R1)
  replace R2 := blkb hb3 R2 (blk_lt R2)
  replace O2 := own_below O2 hb3
  replace B2 := bl_on B2 hb3
  clear hb3
  obtain ⟨k0, f0, z0⟩ := blkw R0
  obtain ⟨k1, f1, z1⟩ := blkw R1
  obtain ⟨k2, f2, z2⟩ := blkw R2
  go_wp2
  refine bodyPost_ret (v := .tuple #[.agg #[.int .i64 cap, .slice A1 l.length c1], (⟨0, 0, 0, 0, 0, 0, 0, 0, 0⟩ : Page).v, .bool false]) (by simp [results, Tryd.results10, go_sem, k1, k2, f1, f2]) rfl ?_
  refine ⟨_, rfl, ?_, ?_⟩
  · with_reducible refine own_mono (base := w.heap.size + 3) ?_ (by omega)
    repeat (with_reducible first | exact O2 | refine ownsRow_setCell_below ?_ (by simp) _ | refine World.ownsRow.drew ?_)
  · repeat (with_reducible first | exact B2 | refine Below.setCell ?_ (by first | omega | (dsimp only; omega)) _ | refine Below.drew ?_)

set_option maxRecDepth 100000 in
set_option maxHeartbeats 2000000 in
theorem put_bad (v u : Value) (cap : Int) (l ps : List Page) (w : World) (h : Sl w w.heap.size 9 v l.length (l.flatMap Page.cells)) (hn : l.length ≤ 1000000) (hwf : Wf l)
    (hu : Sl w w.heap.size 9 u ps.length (ps.flatMap Page.cells)) (hv : valid cap l = false) :
    Calls Tryd.prog 15 #[.agg #[.int .i64 cap, v], u] w fun e w' => ∃ v', e = .returned (.agg #[.int .i64 cap, v']) ∧ w'.ownsRow w.heap.size 42 9 v' l.length (l.flatMap Page.cells) ∧ Below w.heap.size w w' := by
  have hform : ∃ A c, v = .slice A l.length c := by obtain ⟨A, c, rfl, _⟩ := h; exact ⟨A, c, rfl⟩
  obtain ⟨A, c, rfl⟩ := hform
  have hform : ∃ A c, u = .slice A ps.length c := by obtain ⟨A, c, rfl, _⟩ := hu; exact ⟨A, c, rfl⟩
  obtain ⟨Au, cu, rfl⟩ := hform
  have HV := hide hv
  clear hv
  go_enter Tryd.func15, Tryd.ntmps15
  go_wp2_with fail
  refine (copied_any _ cap l _ (h.on (bl_al (bl_al (Below.refl _ _) _) _)) hn).mono ?_
  rintro e w1 ⟨v1, rfl, hown, hb⟩
  obtain ⟨A1, c1, rfl, hc1⟩ := own_form hown
  obtain ⟨k0, f0, z0⟩ := blk hb (new1 _ _ _)
  go_wp2_with fail
  have R0 : ((w1.setCell ⟨w.heap.size, 0, none⟩ (.int .i64 cap)).setCell ⟨w.heap.size, 1, none⟩ (.slice A1 l.length c1)).heap[w.heap.size]? = some (.cells #[.int .i64 cap, .slice A1 l.length c1] 24 (0, 0)) := blk_set (blk_set (blkb hb (new1 _ _ _) (by simp; omega)) _) _
  have R2 : ((w1.setCell ⟨w.heap.size, 0, none⟩ (.int .i64 cap)).setCell ⟨w.heap.size, 1, none⟩ (.slice A1 l.length c1)).heap[w.heap.size + 1]? = some (.cells #[.int .i64 0, .slice none 0 0] 24 (0, 0)) := blk_far (blk_far (blkb hb (new1' _ _ _) (by simp)) (by simp) _) (by simp) _
  have O2 : ((w1.setCell ⟨w.heap.size, 0, none⟩ (.int .i64 cap)).setCell ⟨w.heap.size, 1, none⟩ (.slice A1 l.length c1)).ownsRow (w.heap.size + 2) 42 9 (.slice A1 l.length c1) l.length (l.flatMap Page.cells) := by
    have := ownsRow_setCell_below (a := ⟨w.heap.size, 1, none⟩) (ownsRow_setCell_below (a := ⟨w.heap.size, 0, none⟩) hown (by simp; omega) (.int .i64 cap)) (by simp; omega) (.slice A1 l.length c1)
    simpa using this
  have B2 : Below w.heap.size w ((w1.setCell ⟨w.heap.size, 0, none⟩ (.int .i64 cap)).setCell ⟨w.heap.size, 1, none⟩ (.slice A1 l.length c1)) := ((bl_on (bl_al (bl_al (Below.refl _ _) _) _) hb).setCell (Nat.le_refl _) _).setCell (Nat.le_refl _) _
  generalize ((w1.setCell ⟨w.heap.size, 0, none⟩ (.int .i64 cap)).setCell ⟨w.heap.size, 1, none⟩ (.slice A1 l.length c1)) = W2 at R0 R2 O2 B2 ⊢
  clear hb hown k0 f0 z0
  refine (valid_any _ cap l W2 (Sl.of_own O2) hn hwf.at).mono ?_
  rw [HV.out]
  rintro e w3 ⟨rfl, hb3⟩
  replace R0 := blkb hb3 R0 (blk_lt R0)
  replace R2 := blkb hb3 R2 (blk_lt R2)
  have O2h := hide (own_below O2 hb3)
  replace B2 := bl_on B2 hb3
  clear hb3 O2
  obtain ⟨k0, f0, z0⟩ := blkw R0
  obtain ⟨k2, f2, z2⟩ := blkw R2
  go_wp2
  refine bodyPost_ret (v := .agg #[.int .i64 cap, .slice A1 l.length c1]) (by simp [results, Tryd.results15, go_sem, k0, k2, f0, f2]) rfl ⟨_, rfl, ?_, (by repeat (with_reducible first | assumption | exact Below.refl _ _ | (refine Below.setCell ?_ (by first | omega | (dsimp only; omega) | (simp; omega)) _) | (refine bl_al ?_ _) | (refine bl_dr ?_ _) | (refine bl_on ?_ (by assumption))))⟩
  refine own_mono (base := w.heap.size + 2) ?_ (by omega)
  repeat (with_reducible refine ownsRow_setCell_below ?_ (by simp) _)
  exact O2h.out
end Go.Proofs.YtkodkbjmeepbiaaDoor
