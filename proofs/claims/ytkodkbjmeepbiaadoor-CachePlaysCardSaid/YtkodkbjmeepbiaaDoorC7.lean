/- Walks: cache.Get of a valid cache. Conditions: as each theorem names them. -/
import Derived.Test.YtkodkbjmeepbiaaDoorC6
import Derived.Deep.RegionHeld3
import Derived.Deep.DeepCutAuto
set_option linter.unusedVariables false
set_option linter.unusedSimpArgs false
namespace Go.Proofs.YtkodkbjmeepbiaaDoor
open Go.RowKit

def Page.zero : Page := ⟨0, 0, 0, 0, 0, 0, 0, 0, 0⟩

set_option maxRecDepth 100000 in
set_option maxHeartbeats 8000000 in
theorem get_any (v : Value) (cap line : Int) (l : List Page) (w : World) (h : Sl w w.heap.size 9 v l.length (l.flatMap Page.cells)) (hn : l.length ≤ 1000000) (hwf : Wf l) (hv : valid cap l = true) (hi : indexOf l line < l.length) :
    Calls Tryd.prog 10 #[.agg #[.int .i64 cap, v], .int .i64 line] w fun e w' => ∃ v', e = .returned (.tuple #[.agg #[.int .i64 cap, v'], (l[indexOf l line]).v, .bool true]) ∧
      w'.ownsRow w.heap.size 42 9 v' l.length ((l[indexOf l line] :: l.eraseIdx (indexOf l line)).flatMap Page.cells) ∧ Below w.heap.size w w' := by
  have hform : ∃ A c, v = .slice A l.length c := by obtain ⟨A, c, rfl, _⟩ := h; exact ⟨A, c, rfl⟩
  obtain ⟨A, c, rfl⟩ := hform
  have HV := hide hv
  clear hv
  go_enter Tryd.func10, Tryd.ntmps10
  go_wp2_with fail
  refine (copied_any _ cap l _ (h.on (bl_al (bl_al (bl_al (Below.refl _ _) _) _) _)) hn).mono ?_
  rintro e w1 ⟨v1, rfl, hown, hb⟩
  obtain ⟨A1, c1, rfl, hc1⟩ := own_form hown
  obtain ⟨k0, f0, z0⟩ := blk hb (new2 _ _ _ _)
  go_wp2_with fail
  have R0 : ((w1.setCell ⟨w.heap.size, 0, none⟩ (.int .i64 cap)).setCell ⟨w.heap.size, 1, none⟩ (.slice A1 l.length c1)).heap[w.heap.size]? = some (.cells #[.int .i64 cap, .slice A1 l.length c1] 24 (0, 0)) := blk_set (blk_set (blkb hb (new2 _ _ _ _) (by simp; omega)) _) _
  have R1 : ((w1.setCell ⟨w.heap.size, 0, none⟩ (.int .i64 cap)).setCell ⟨w.heap.size, 1, none⟩ (.slice A1 l.length c1)).heap[w.heap.size + 1]? = some (.cells #[.int .i64 0, .slice none 0 0] 24 (0, 0)) := blk_far (blk_far (blkb hb (new2' _ _ _ _) (by simp)) (by simp) _) (by simp) _
  have R2 : ((w1.setCell ⟨w.heap.size, 0, none⟩ (.int .i64 cap)).setCell ⟨w.heap.size, 1, none⟩ (.slice A1 l.length c1)).heap[w.heap.size + 2]? = some (.cells #[.int .i64 0, .int .u64 0, .int .u64 0, .int .u64 0, .int .u64 0, .int .u64 0, .int .u64 0, .int .u64 0, .int .u64 0] 42 (0, 0)) := blk_far (blk_far (blkb hb (new2'' _ _ _ _) (by simp)) (by simp) _) (by simp) _
  have O2 : ((w1.setCell ⟨w.heap.size, 0, none⟩ (.int .i64 cap)).setCell ⟨w.heap.size, 1, none⟩ (.slice A1 l.length c1)).ownsRow (w.heap.size + 3) 42 9 (.slice A1 l.length c1) l.length (l.flatMap Page.cells) := by
    have := ownsRow_setCell_below (a := ⟨w.heap.size, 1, none⟩) (ownsRow_setCell_below (a := ⟨w.heap.size, 0, none⟩) hown (by simp; omega) (.int .i64 cap)) (by simp; omega) (.slice A1 l.length c1)
    simpa using this
  have B2 : Below w.heap.size w ((w1.setCell ⟨w.heap.size, 0, none⟩ (.int .i64 cap)).setCell ⟨w.heap.size, 1, none⟩ (.slice A1 l.length c1)) := ((bl_on (bl_al (bl_al (bl_al (Below.refl _ _) _) _) _) hb).setCell (Nat.le_refl _) _).setCell (Nat.le_refl _) _
  generalize ((w1.setCell ⟨w.heap.size, 0, none⟩ (.int .i64 cap)).setCell ⟨w.heap.size, 1, none⟩ (.slice A1 l.length c1)) = W2 at R0 R1 R2 O2 B2 ⊢
  clear hb hown k0 f0 z0
  refine (valid_any _ cap l W2 (Sl.of_own O2) hn hwf.at).mono ?_
  rw [HV.out]
  rintro e w3 ⟨rfl, hb3⟩
  replace R0 := blkb hb3 R0 (blk_lt R0)
  replace R1 := blkb hb3 R1 (blk_lt R1)
  replace R2 := blkb hb3 R2 (blk_lt R2)
  replace O2 := own_below O2 hb3
  replace B2 := bl_on B2 hb3
  clear hb3
  obtain ⟨k0, f0, z0⟩ := blkw R0
  go_wp2_with fail
  refine (index_any _ cap l line w3 (Sl.of_own O2) hn).mono ?_
  rw [idx_hit hi]
  rintro e w4 ⟨rfl, hb4⟩
  replace R0 := blkb hb4 R0 (blk_lt R0)
  replace R1 := blkb hb4 R1 (blk_lt R1)
  replace R2 := blkb hb4 R2 (blk_lt R2)
  replace O2 := own_below O2 hb4
  replace B2 := bl_on B2 hb4
  clear hb4 k0 f0 z0
  generalize indexOf l line = i at hi ⊢
  obtain ⟨k0, f0, z0⟩ := blkw R0
  have hj1 : (0 : Int) ≤ (i : Int) := by omega
  have hj2 : (i : Int) < (l.length : Int) := by omega
  obtain ⟨g, off2, rfl, hgB, q0, q1, q2, q3, q4, q5, q6, q7, q8⟩ := Page.at_ (At.of_own O2) hi
  have HL := hide (List.length_eraseIdx_of_lt hi)
  generalize hold : l[i] = old at q0 q1 q2 q3 q4 q5 q6 q7 q8
  have HO := hide hold
  clear hold
  go_wp2_with fail
  have HNE := own_ne_ge O2 (Nat.le_refl _)
  have RP := new0 w4 (.cells #[.int .i64 old.line, .int .u64 old.head, .int .u64 old.d0, .int .u64 old.d1, .int .u64 old.d2, .int .u64 old.d3, .int .u64 old.d4, .int .u64 old.d5, .int .u64 old.d6] 42)
  have z4 := blk_lt R2
  replace R0 := blk_al R0 (.cells #[.int .i64 old.line, .int .u64 old.head, .int .u64 old.d0, .int .u64 old.d1, .int .u64 old.d2, .int .u64 old.d3, .int .u64 old.d4, .int .u64 old.d5, .int .u64 old.d6] 42)
  replace R1 := blk_al R1 (.cells #[.int .i64 old.line, .int .u64 old.head, .int .u64 old.d0, .int .u64 old.d1, .int .u64 old.d2, .int .u64 old.d3, .int .u64 old.d4, .int .u64 old.d5, .int .u64 old.d6] 42)
  replace R2 := blk_al R2 (.cells #[.int .i64 old.line, .int .u64 old.head, .int .u64 old.d0, .int .u64 old.d1, .int .u64 old.d2, .int .u64 old.d3, .int .u64 old.d4, .int .u64 old.d5, .int .u64 old.d6] 42)
  replace O2 := O2.alloc (.cells #[.int .i64 old.line, .int .u64 old.head, .int .u64 old.d0, .int .u64 old.d1, .int .u64 old.d2, .int .u64 old.d3, .int .u64 old.d4, .int .u64 old.d5, .int .u64 old.d6] 42)
  replace B2 := bl_al B2 (.cells #[.int .i64 old.line, .int .u64 old.head, .int .u64 old.d0, .int .u64 old.d1, .int .u64 old.d2, .int .u64 old.d3, .int .u64 old.d4, .int .u64 old.d5, .int .u64 old.d6] 42)
  have HSZ := hide (World.size_alloc w4 (.cells #[.int .i64 old.line, .int .u64 old.head, .int .u64 old.d0, .int .u64 old.d1, .int .u64 old.d2, .int .u64 old.d3, .int .u64 old.d4, .int .u64 old.d5, .int .u64 old.d6] 42))
  clear q0 q1 q2 q3 q4 q5 q6 q7 q8 k0 f0 z0
  change Code.wp _ _ _ _ (w4.alloc (.cells #[.int .i64 old.line, .int .u64 old.head, .int .u64 old.d0, .int .u64 old.d1, .int .u64 old.d2, .int .u64 old.d3, .int .u64 old.d4, .int .u64 old.d5, .int .u64 old.d6] 42))
  generalize w4.alloc (.cells #[.int .i64 old.line, .int .u64 old.head, .int .u64 old.d0, .int .u64 old.d1, .int .u64 old.d2, .int .u64 old.d3, .int .u64 old.d4, .int .u64 old.d5, .int .u64 old.d6] 42) = w5 at R0 R1 R2 RP O2 B2 HSZ ⊢
  generalize w4.heap.size = P0 at RP HNE z4 HSZ ⊢
  obtain ⟨k0, f0, z0⟩ := blkw R0
  obtain ⟨kp, fp, zp⟩ := blkw RP
  go_cut [7] (fun s7 wc => ∃ A' c', s7 = .int .i64 i ∧ wc.heap[w.heap.size]? = some (.cells #[.int .i64 cap, .slice A' l.length c'] 24 (0, 0)) ∧ wc.heap[w.heap.size + 1]? = some (.cells #[.int .i64 0, .slice none 0 0] 24 (0, 0)) ∧
    wc.heap[w.heap.size + 2]? = some (.cells #[.int .i64 0, .int .u64 0, .int .u64 0, .int .u64 0, .int .u64 0, .int .u64 0, .int .u64 0, .int .u64 0, .int .u64 0] 42 (0, 0)) ∧ wc.heap[P0]? = some (.cells #[.int .i64 old.line, .int .u64 old.head, .int .u64 old.d0, .int .u64 old.d1, .int .u64 old.d2, .int .u64 old.d3, .int .u64 old.d4, .int .u64 old.d5, .int .u64 old.d6] 42 (0, 0)) ∧ wc.ownsRow (w.heap.size + 3) 42 9 (.slice A' l.length c') l.length ((old :: l.eraseIdx i).flatMap Page.cells) ∧ Below w.heap.size w wc)
  case first =>
    have e9 : IntKind.i64.wrap ((i : Int) + 1) = (i : Int) + 1 := by rw [IntKind.wrap_i64]; omega
    have HB : ∀ k, Value.ownBlock (.slice (some ⟨g, off2, none⟩) l.length c1) = some k → w.heap.size ≤ k := fun k hk => by have := own_base O2 k hk; omega
    have HL2 : Hid ((l.eraseIdx i).length + 1 = l.length) := hide (by rw [HL.out]; omega)
    have HL1 : (l.eraseIdx i).length ≤ 1000000 := by rw [HL.out]; omega
    go_region_with (first
      | (go_at_call 27; refine (delete_any _ l i _ _ rfl rfl (w.heap.size + 3) _ ?_ hi hn).mono ?_; (first | exact O2 | exact O2.alloc _); rintro e w6 ⟨v6, rfl, O6, G6, hv6⟩; rw [← HL.out] at O6; have O6h := hide O6; clear O6; have RP6 := blkg G6 (by first | exact RP | exact blk_al RP _) HNE; have R06 := blkg G6 (by first | exact R0 | exact blk_al R0 _) (own_ne_lt O2 (by omega)); have R16 := blkg G6 (by first | exact R1 | exact blk_al R1 _) (own_ne_lt O2 (by omega)); have R26 := blkg G6 (by first | exact R2 | exact blk_al R2 _) (own_ne_lt O2 (by omega)); have kp6 := (blkw RP6).1; have k06 := (blkw R06).1; have f06 := (blkw R06).2.1; have B6 : Below w.heap.size w w6 := (by first | exact (bl_dr B2 1).grown G6 B2.size HB | exact (bl_al (bl_dr B2 1) _).grown G6 (by simp; have := B2.size; omega) HB); have z6 := blk_lt R26)
      | (go_at_call 26; refine (insert_any _ (l.eraseIdx i) old 0 _ (w.heap.size + 3) 0 rfl _ (Nat.zero_le _) HL1 ?_ ?_ ?_ ?_).mono ?_; (first | exact O6h.out | exact O6h.out.alloc _); (first | (simp; omega) | omega); (first | exact new0 _ _ | exact blkg G6 (new0 _ _) (own_ne_ge O2 (Nat.le_refl _))); (first | exact own_ne_ge O6h.out (Nat.le_refl _) | (rw [hv6]; exact own_ne_ge O2 (Nat.le_refl _))); rintro e w7 ⟨v7, rfl, O7, G7, hv7⟩; have HF7 := own_form O7; obtain ⟨A7, c7, rfl, hc7⟩ := HF7; have R07 := blkg G7 (by first | exact R06 | exact blk_al R06 _) (own_ne_lt O6h.out (by omega)); have R17 := blkg G7 (by first | exact R16 | exact blk_al R16 _) (own_ne_lt O6h.out (by omega)); have R27 := blkg G7 (by first | exact R26 | exact blk_al R26 _) (own_ne_lt O6h.out (by omega)); have RP7 := blkg G7 (by first | exact RP6 | exact blk_al RP6 _) (by rw [hv6]; exact HNE); have B7 : Below w.heap.size w w7 := (by first | exact B6.grown G7 B6.size (fun k hk => by have := own_base O6h.out k hk; omega) | exact (bl_al B6 _).grown G7 (by simp; omega) (fun k hk => by have := own_base O6h.out k hk; omega)); have k07 := (blkw R07).1; have f07 := (blkw R07).2.1; have O7h := hide O7; clear O7)
      | fail)
    all_goals (go_wp2_with fail; go_meet)
    all_goals rw [HL2.out]
    all_goals exact ⟨A7, c7, rfl, blk_set R07 _, blk_far R17 (by simp) _, blk_far R27 (by simp) _, blk_far RP7 (by simp; omega) _, ownsRow_setCell_below (by have := O7h.out; rw [HL2.out] at this; exact this) (by simp) _, B7.setCell (Nat.le_refl _) _⟩
  case rest =>
    obtain ⟨A', c', rfl, R0', R1', R2', RP', O', B'⟩ := hcut
    clear R0 R1 R2 RP O2 B2 k0 f0 z0 kp fp zp
    obtain ⟨k0, f0, z0⟩ := blkw R0'
    obtain ⟨k1, f1, z1⟩ := blkw R1'
    obtain ⟨k2, f2, z2⟩ := blkw R2'
    obtain ⟨kp, fp, zp⟩ := blkw RP'
    go_wp2
    go_region
    all_goals go_wp2
    all_goals refine bodyPost_ret (v := .tuple #[.agg #[.int .i64 cap, .slice A' l.length c'], old.v, .bool true]) (by simp [results, Tryd.results10, go_sem, k1, k2, f1, f2]) rfl ?_
    all_goals rw [HO.out]
    all_goals refine ⟨_, rfl, ?_, ?_⟩
    all_goals first | with_reducible refine own_mono (base := w.heap.size + 3) ?_ (by omega) | skip
    all_goals repeat (with_reducible first | exact O' | exact B' | refine ownsRow_setCell_below ?_ (by simp) _ | refine World.ownsRow.drew ?_ | refine Below.setCell ?_ (by first | omega | (dsimp only; omega)) _ | refine Below.drew ?_)
end Go.Proofs.YtkodkbjmeepbiaaDoor
