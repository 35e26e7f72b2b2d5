/- Walks: cache.Get where the page is not there; the example. Conditions: as each theorem names them. -/
import Derived.Test.YtkodkbjmeepbiaaDoorC6
set_option linter.unusedVariables false
set_option linter.unusedSimpArgs false
namespace Go.Proofs.YtkodkbjmeepbiaaDoor
open Go.RowKit

set_option maxRecDepth 100000 in
set_option maxHeartbeats 2000000 in
theorem get_miss (v : Value) (cap line : Int) (l : List Page) (w : World) (h : Sl w w.heap.size 9 v l.length (l.flatMap Page.cells)) (hn : l.length ≤ 1000000) (hwf : Wf l) (hv : valid cap l = true) (hi : ¬ indexOf l line < l.length) :
    Calls Tryd.prog 10 #[.agg #[.int .i64 cap, v], .int .i64 line] w fun e w' => ∃ v', e = .returned (.tuple #[.agg #[.int .i64 cap, v'], (⟨0, 0, 0, 0, 0, 0, 0, 0, 0⟩ : Page).v, .bool false]) ∧
      w'.ownsRow w.heap.size 42 9 v' l.length (l.flatMap Page.cells) ∧ Below w.heap.size w w' := by
  have hform : ∃ A c, v = .slice A l.length c := by obtain ⟨A, c, rfl, _⟩ := h; exact ⟨A, c, rfl⟩
  obtain ⟨A, c, rfl⟩ := hform
  have HV := hide hv
  clear hv
  go_enter Tryd.func10, Tryd.ntmps10
  go_wp2_with fail
  refine (copied_any _ cap l _ (h.on (bl_al (bl_al (bl_al (Below.refl _ _) _) _) _)) hn).mono ?_
  rintro e w1 ⟨v1, rfl, hown, hb⟩
  obtain ⟨A1, c1, rfl, hc1⟩ := own_form hown
  obtain ⟨k0, f0, z0⟩ := blk hb (new2 _ _ _ _)
  go_wp2_with fail
  have R0 : ((w1.setCell ⟨w.heap.size, 0, none⟩ (.int .i64 cap)).setCell ⟨w.heap.size, 1, none⟩ (.slice A1 l.length c1)).heap[w.heap.size]? = some (.cells #[.int .i64 cap, .slice A1 l.length c1] 24 (0, 0)) := blk_set (blk_set (blkb hb (new2 _ _ _ _) (by simp; omega)) _) _
  have R1 : ((w1.setCell ⟨w.heap.size, 0, none⟩ (.int .i64 cap)).setCell ⟨w.heap.size, 1, none⟩ (.slice A1 l.length c1)).heap[w.heap.size + 1]? = some (.cells #[.int .i64 0, .slice none 0 0] 24 (0, 0)) := blk_far (blk_far (blkb hb (new2' _ _ _ _) (by simp)) (by simp) _) (by simp) _
  have R2 : ((w1.setCell ⟨w.heap.size, 0, none⟩ (.int .i64 cap)).setCell ⟨w.heap.size, 1, none⟩ (.slice A1 l.length c1)).heap[w.heap.size + 2]? = some (.cells #[.int .i64 0, .int .u64 0, .int .u64 0, .int .u64 0, .int .u64 0, .int .u64 0, .int .u64 0, .int .u64 0, .int .u64 0] 42 (0, 0)) := blk_far (blk_far (blkb hb (new2'' _ _ _ _) (by simp)) (by simp) _) (by simp) _
  have O2 : ((w1.setCell ⟨w.heap.size, 0, none⟩ (.int .i64 cap)).setCell ⟨w.heap.size, 1, none⟩ (.slice A1 l.length c1)).ownsRow (w.heap.size + 3) 42 9 (.slice A1 l.length c1) l.length (l.flatMap Page.cells) := by
    have := ownsRow_setCell_below (a := ⟨w.heap.size, 1, none⟩) (ownsRow_setCell_below (a := ⟨w.heap.size, 0, none⟩) hown (by simp; omega) (.int .i64 cap)) (by simp; omega) (.slice A1 l.length c1)
    simpa using this
  have B2 : Below w.heap.size w ((w1.setCell ⟨w.heap.size, 0, none⟩ (.int .i64 cap)).setCell ⟨w.heap.size, 1, none⟩ (.slice A1 l.length c1)) := ((bl_on (bl_al (bl_al (bl_al (Below.refl _ _) _) _) _) hb).setCell (Nat.le_refl _) _).setCell (Nat.le_refl _) _
  generalize ((w1.setCell ⟨w.heap.size, 0, none⟩ (.int .i64 cap)).setCell ⟨w.heap.size, 1, none⟩ (.slice A1 l.length c1)) = W2 at R0 R1 R2 O2 B2 ⊢
  clear hb hown k0 f0 z0
  refine (valid_any _ cap l W2 (Sl.of_own O2) hn hwf.at).mono ?_
  rw [HV.out]
  rintro e w3 ⟨rfl, hb3⟩
  replace R0 := blkb hb3 R0 (blk_lt R0)
  replace R1 := blkb hb3 R1 (blk_lt R1)
  replace R2 := blkb hb3 R2 (blk_lt R2)
  replace O2 := own_below O2 hb3
  replace B2 := bl_on B2 hb3
  clear hb3
  obtain ⟨k0, f0, z0⟩ := blkw R0
  go_wp2_with fail
  refine (index_any _ cap l line w3 (Sl.of_own O2) hn).mono ?_
  rw [idx_miss hi]
  rintro e w4 ⟨rfl, hb4⟩
  replace R0 := blkb hb4 R0 (blk_lt R0)
  replace R1 := blkb hb4 R1 (blk_lt R1)
  replace R2 := blkb hb4 R2 (blk_lt R2)
  replace O2 := own_below O2 hb4
  replace B2 := bl_on B2 hb4
  clear hb4 k0 f0 z0
  obtain ⟨k0, f0, z0⟩ := blkw R0
  obtain ⟨k1, f1, z1⟩ := blkw R1
  obtain ⟨k2, f2, z2⟩ := blkw R2
  go_wp2
  refine bodyPost_ret (v := .tuple #[.agg #[.int .i64 cap, .slice A1 l.length c1], (⟨0, 0, 0, 0, 0, 0, 0, 0, 0⟩ : Page).v, .bool false]) (by simp [results, Tryd.results10, go_sem, k1, k2, f1, f2]) rfl ?_
  refine ⟨_, rfl, ?_, ?_⟩
  · with_reducible refine own_mono (base := w.heap.size + 3) ?_ (by omega)
    repeat (with_reducible first | exact O2 | refine ownsRow_setCell_below ?_ (by simp) _ | refine World.ownsRow.drew ?_)
  · repeat (with_reducible first | exact B2 | refine Below.setCell ?_ (by first | omega | (dsimp only; omega)) _ | refine Below.drew ?_)

def exl : List Page := [⟨110, 256, 0, 0, 0, 0, 0, 0, 0⟩, ⟨111, 256, 0, 0, 0, 0, 0, 0, 0⟩, ⟨112, 256, 0, 0, 0, 0, 0, 0, 0⟩]
theorem exl_put : putAll 2 [] exl = [⟨112, 256, 0, 0, 0, 0, 0, 0, 0⟩, ⟨111, 256, 0, 0, 0, 0, 0, 0, 0⟩] := by decide

set_option maxRecDepth 100000 in
set_option maxHeartbeats 2000000 in
theorem awake_any (w : World) : Calls Tryd.prog 20 #[] w fun e w' => e = .returned (.bool true) ∧ Below w.heap.size w w' := by
  go_enter Tryd.func20, Tryd.ntmps20
  go_wp2_with fail
  refine (new_ok 2 _ (by omega) (by omega)).mono ?_
  rintro e w1 ⟨rfl, hb1⟩
  go_wp2_with fail
  have hS := Sl.box (w1.alloc (.cells #[.int .i64 2, .slice none 0 0] 24)) 42 9 3 (exl.flatMap Page.cells) rfl (by omega)
  rw [World.size_alloc w1 (.cells #[.int .i64 2, .slice none 0 0] 24)] at hS
  change Calls _ _ _ ((w1.alloc (.cells #[.int .i64 2, .slice none 0 0] 24)).alloc (.cells (exl.flatMap Page.cells).toArray 42)) _
  refine (put_any (.slice none 0 0) (.slice (some ⟨w1.heap.size + 1, 0, none⟩) 3 3) 2 [] exl _ (Sl.nil _ _ _) (by simp) (by intro p hp; cases hp) hS (by decide) (by intro p hp; revert p; decide) (by decide)).mono ?_
  rintro e w2 ⟨v2, rfl, O2, hb2⟩
  rw [exl_put] at O2
  obtain ⟨A2, c2, rfl, hc2⟩ := own_form O2
  have B2 := bl_on (bl_al (bl_al hb1 _) _) hb2
  have R0 := blkb hb2 (new1 _ _ _) (by simp; omega)
  have hq0 := Page.at_ (At.of_own O2) (k := 0) (by decide)
  have hq1 := Page.at_ (At.of_own O2) (k := 1) (by decide)
  obtain ⟨g, off, rfl, q0⟩ := hq0
  obtain ⟨g', off', he, q1⟩ := hq1
  injection he with he
  injection he with h1 h2
  subst h1 h2
  have p0 : w2.cell? ⟨g, off, none⟩ = some (.int .i64 112) := q0.2.1
  have p1 : w2.cell? ⟨g, off + 9, none⟩ = some (.int .i64 111) := q1.2.1
  clear q0 q1
  have HG : g ≠ w1.heap.size := fun e => own_ne_lt O2 (show w1.heap.size < _ by simp; omega) (by rw [← e]; rfl)
  have HG' : w1.heap.size ≠ g := fun e => HG e.symm
  obtain ⟨k0, f0, z0⟩ := blkw R0
  clear hS hb2 O2
  go_wp2
  go_ret
  have z9 := hb1.size
  exact ⟨rfl, (B2.setCell (by exact z9) _).setCell (by exact z9) _⟩
end Go.Proofs.YtkodkbjmeepbiaaDoor
