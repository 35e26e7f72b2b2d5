/- Walks: the reference's Get. Conditions: as each theorem names them. -/
import Derived.Test.YtkodkbjmeepbiaaDoorE2
import Derived.Test.YtkodkbjmeepbiaaDoorC7
set_option linter.unusedVariables false
set_option linter.unusedSimpArgs false
namespace Go.Proofs.YtkodkbjmeepbiaaDoor
open Go.RowKit

set_option maxRecDepth 100000 in
theorem rget_miss (v : Value) (cap line : Int) (l : List Page) (w : World) (h : Sl w w.heap.size 9 v l.length (l.flatMap Page.cells)) (hn : l.length ≤ 1000000) (hwf : Wf l) (hm : valid cap l = false ∨ ¬ indexOf l line < l.length) :
    Calls Tryd.prog 11 #[.agg #[.int .i64 cap, v], .int .i64 line] w fun e w' => e = .returned (.tuple #[.agg #[.int .i64 cap, v], Page.zero.v, .bool false]) ∧ Below w.heap.size w w' := by
  have hform : ∃ A c, v = .slice A l.length c := by obtain ⟨A, c, rfl, _⟩ := h; exact ⟨A, c, rfl⟩
  obtain ⟨A, c, rfl⟩ := hform
  go_enter Tryd.func11, Tryd.ntmps11
  go_wp2_with fail
  refine (cached_any _ l line _ (h.on (bl_al (bl_al (bl_al (Below.refl _ _) _) _) _)) hn).mono ?_
  rintro e w1 ⟨rfl, rfl⟩
  generalize hy : idx l line = y
  have Hy := hide hy
  clear hy
  have R0 := new2 w (.cells #[.int .i64 cap, .slice A l.length c] 30 (0, 0)) (.cells #[.int .i64 0, .slice none 0 0] 30 (0, 0)) (.cells #[.int .i64 0, .int .u64 0, .int .u64 0, .int .u64 0, .int .u64 0, .int .u64 0, .int .u64 0, .int .u64 0, .int .u64 0] 42 (0, 0))
  have R1 := new2' w (.cells #[.int .i64 cap, .slice A l.length c] 30 (0, 0)) (.cells #[.int .i64 0, .slice none 0 0] 30 (0, 0)) (.cells #[.int .i64 0, .int .u64 0, .int .u64 0, .int .u64 0, .int .u64 0, .int .u64 0, .int .u64 0, .int .u64 0, .int .u64 0] 42 (0, 0))
  have R2 := new2'' w (.cells #[.int .i64 cap, .slice A l.length c] 30 (0, 0)) (.cells #[.int .i64 0, .slice none 0 0] 30 (0, 0)) (.cells #[.int .i64 0, .int .u64 0, .int .u64 0, .int .u64 0, .int .u64 0, .int .u64 0, .int .u64 0, .int .u64 0, .int .u64 0] 42 (0, 0))
  cases hx : valid cap l with
  | false =>
    have Hx := hide hx
    clear hx hm
    go_wp2_with fail
    refine (rvalid_any _ cap l _ (h.on (bl_al (bl_al (bl_al (Below.refl _ _) _) _) _)) hn hwf.at).mono ?_
    rw [Hx.out]
    rintro e w2 ⟨rfl, hb⟩
    obtain ⟨k0, f0, z0⟩ := blk hb R0
    obtain ⟨k1, f1, z1⟩ := blk hb R1
    obtain ⟨k2, f2, z2⟩ := blk hb R2
    go_wp2
    refine bodyPost_ret (v := .tuple #[.agg #[.int .i64 cap, .slice A l.length c], Page.zero.v, .bool false]) (by simp [results, Tryd.results11, go_sem, k0, k1, k2, f0, f1, f2, Page.zero]) rfl ⟨rfl, (by repeat (with_reducible first | assumption | exact Below.refl _ _ | (refine Below.setCell ?_ (by first | omega | (dsimp only; omega) | (simp; omega)) _) | (refine bl_al ?_ _) | (refine bl_dr ?_ _) | (refine bl_on ?_ (by assumption))))⟩
  | true =>
    have hi : ¬ indexOf l line < l.length := by rcases hm with hm | hm; (rw [hm] at hx; cases hx); exact hm
    obtain rfl : y = -1 := by rw [← Hy.out, idx_miss hi]
    have Hx := hide hx
    clear hx hm hi
    go_wp2_with fail
    refine (rvalid_any _ cap l _ (h.on (bl_al (bl_al (bl_al (Below.refl _ _) _) _) _)) hn hwf.at).mono ?_
    rw [Hx.out]
    rintro e w2 ⟨rfl, hb⟩
    obtain ⟨k0, f0, z0⟩ := blk hb R0
    obtain ⟨k1, f1, z1⟩ := blk hb R1
    obtain ⟨k2, f2, z2⟩ := blk hb R2
    go_wp2
    refine bodyPost_ret (v := .tuple #[.agg #[.int .i64 cap, .slice A l.length c], Page.zero.v, .bool false]) (by simp [results, Tryd.results11, go_sem, k0, k1, k2, f0, f1, f2, Page.zero]) rfl ⟨rfl, (by repeat (with_reducible first | assumption | exact Below.refl _ _ | (refine Below.setCell ?_ (by first | omega | (dsimp only; omega) | (simp; omega)) _) | (refine bl_al ?_ _) | (refine bl_dr ?_ _) | (refine bl_on ?_ (by assumption))))⟩

set_option maxRecDepth 100000 in
set_option maxHeartbeats 16000000 in
theorem rget_hit (v : Value) (cap line : Int) (l : List Page) (w : World) (h : Sl w w.heap.size 9 v l.length (l.flatMap Page.cells)) (hn : l.length ≤ 1000000) (hwf : Wf l) (hv : valid cap l = true) (hi : indexOf l line < l.length) :
    Calls Tryd.prog 11 #[.agg #[.int .i64 cap, v], .int .i64 line] w fun e w' => ∃ v', e = .returned (.tuple #[.agg #[.int .i64 cap, v'], (l[indexOf l line]).v, .bool true]) ∧
      w'.ownsRow w.heap.size 42 9 v' l.length ((l[indexOf l line] :: l.eraseIdx (indexOf l line)).flatMap Page.cells) ∧ Below w.heap.size w w' := by
  have hform : ∃ A c, v = .slice A l.length c := by obtain ⟨A, c, rfl, _⟩ := h; exact ⟨A, c, rfl⟩
  obtain ⟨A, c, rfl⟩ := hform
  have HV := hide hv
  clear hv
  go_enter Tryd.func11, Tryd.ntmps11
  go_wp2_with fail
  refine (cached_any _ l line _ (h.on (bl_al (bl_al (bl_al (Below.refl _ _) _) _) _)) hn).mono ?_
  rw [idx_hit hi]
  rintro e w1 ⟨rfl, rfl⟩
  have R0 := new2 w (.cells #[.int .i64 cap, .slice A l.length c] 30 (0, 0)) (.cells #[.int .i64 0, .slice none 0 0] 30 (0, 0)) (.cells #[.int .i64 0, .int .u64 0, .int .u64 0, .int .u64 0, .int .u64 0, .int .u64 0, .int .u64 0, .int .u64 0, .int .u64 0] 42 (0, 0))
  have R1 := new2' w (.cells #[.int .i64 cap, .slice A l.length c] 30 (0, 0)) (.cells #[.int .i64 0, .slice none 0 0] 30 (0, 0)) (.cells #[.int .i64 0, .int .u64 0, .int .u64 0, .int .u64 0, .int .u64 0, .int .u64 0, .int .u64 0, .int .u64 0, .int .u64 0] 42 (0, 0))
  have R2 := new2'' w (.cells #[.int .i64 cap, .slice A l.length c] 30 (0, 0)) (.cells #[.int .i64 0, .slice none 0 0] 30 (0, 0)) (.cells #[.int .i64 0, .int .u64 0, .int .u64 0, .int .u64 0, .int .u64 0, .int .u64 0, .int .u64 0, .int .u64 0, .int .u64 0] 42 (0, 0))
  go_wp2_with fail
  refine (rvalid_any _ cap l _ (h.on (bl_al (bl_al (bl_al (Below.refl _ _) _) _) _)) hn hwf.at).mono ?_
  rw [HV.out]
  rintro e w2 ⟨rfl, hb⟩
  replace R0 := blkb hb R0 (blk_lt R0)
  replace R1 := blkb hb R1 (blk_lt R1)
  replace R2 := blkb hb R2 (blk_lt R2)
  have B2 : Below w.heap.size w w2 := (by repeat (with_reducible first | assumption | exact Below.refl _ _ | (refine Below.setCell ?_ (by first | omega | (dsimp only; omega) | (simp; omega)) _) | (refine bl_al ?_ _) | (refine bl_dr ?_ _) | (refine bl_on ?_ (by assumption))))
  have hS := h.on B2
  clear hb
  generalize indexOf l line = i at hi ⊢
  have hj1 : (0 : Int) ≤ (i : Int) := by omega
  have hj2 : (i : Int) < (l.length : Int) := by omega
  have hat : At w2 w2.heap.size A (l.flatMap Page.cells) := by obtain ⟨A', c', he, _, _, _, hat⟩ := hS; injection he with e1; subst e1; exact hat
  obtain ⟨b, off, rfl, hgB, q0, q1, q2, q3, q4, q5, q6, q7, q8⟩ := Page.at_ hat hi
  have HL := hide (List.length_eraseIdx_of_lt hi)
  generalize hold : l[i] = old at q0 q1 q2 q3 q4 q5 q6 q7 q8
  have HO := hide hold
  clear hold hat
  obtain ⟨k0, f0, z0⟩ := blkw R0
  go_wp2_with fail
  generalize hpg : (Obj.cells #[.int .i64 old.line, .int .u64 old.head, .int .u64 old.d0, .int .u64 old.d1, .int .u64 old.d2, .int .u64 old.d3, .int .u64 old.d4, .int .u64 old.d5, .int .u64 old.d6] 42 (0, 0)) = pg
  have RP := new0 w2 pg
  rw [← hpg] at RP
  have z4 := blk_lt R2
  replace R0 := blk_al R0 pg
  replace R1 := blk_al R1 pg
  replace R2 := blk_al R2 pg
  replace B2 := bl_al B2 pg
  replace hS := h.on B2
  rw [hpg] at RP
  have RPh := hide RP
  clear RP
  generalize hw5 : w2.alloc pg = w5 at R0 R1 R2 RPh B2 hS ⊢
  generalize hP0 : w2.heap.size = P0 at RPh z4 ⊢
  subst hpg
  clear q0 q1 q2 q3 q4 q5 q6 q7 q8 k0 f0 z0 hw5
  have RP := RPh.out
  obtain ⟨k0, f0, z0⟩ := blkw R0
  obtain ⟨kp, fp, zp⟩ := blkw RP
  have HCS : Hid (∀ W', Cells [(⟨w.heap.size, 0, none⟩, .int .i64 cap), (⟨w.heap.size, 1, none⟩, .slice (some ⟨b, off, none⟩) l.length c), (⟨P0, 0, none⟩, .int .i64 old.line), (⟨P0, 1, none⟩, .int .u64 old.head), (⟨P0, 2, none⟩, .int .u64 old.d0), (⟨P0, 3, none⟩, .int .u64 old.d1), (⟨P0, 4, none⟩, .int .u64 old.d2), (⟨P0, 5, none⟩, .int .u64 old.d3), (⟨P0, 6, none⟩, .int .u64 old.d4), (⟨P0, 7, none⟩, .int .u64 old.d5), (⟨P0, 8, none⟩, .int .u64 old.d6)] W' → Cells [(⟨w.heap.size, 0, none⟩, .int .i64 cap), (⟨w.heap.size, 1, none⟩, .slice (some ⟨b, off, none⟩) l.length c), (⟨P0, 0, none⟩, .int .i64 old.line), (⟨P0, 1, none⟩, .int .u64 old.head), (⟨P0, 2, none⟩, .int .u64 old.d0), (⟨P0, 3, none⟩, .int .u64 old.d1), (⟨P0, 4, none⟩, .int .u64 old.d2), (⟨P0, 5, none⟩, .int .u64 old.d3), (⟨P0, 6, none⟩, .int .u64 old.d4), (⟨P0, 7, none⟩, .int .u64 old.d5), (⟨P0, 8, none⟩, .int .u64 old.d6)] W' ∧ W'.cell? ⟨w.heap.size, 0, none⟩ = some (.int .i64 cap) ∧ W'.cell? ⟨w.heap.size, 1, none⟩ = some (.slice (some ⟨b, off, none⟩) l.length c) ∧ W'.cell? ⟨P0, 0, none⟩ = some (.int .i64 old.line) ∧ W'.cell? ⟨P0, 1, none⟩ = some (.int .u64 old.head) ∧ W'.cell? ⟨P0, 2, none⟩ = some (.int .u64 old.d0) ∧ W'.cell? ⟨P0, 3, none⟩ = some (.int .u64 old.d1) ∧ W'.cell? ⟨P0, 4, none⟩ = some (.int .u64 old.d2) ∧ W'.cell? ⟨P0, 5, none⟩ = some (.int .u64 old.d3) ∧ W'.cell? ⟨P0, 6, none⟩ = some (.int .u64 old.d4) ∧ W'.cell? ⟨P0, 7, none⟩ = some (.int .u64 old.d5) ∧ W'.cell? ⟨P0, 8, none⟩ = some (.int .u64 old.d6)) := hide (fun W' h => ⟨h, h (⟨w.heap.size, 0, none⟩, .int .i64 cap) (by simp), h (⟨w.heap.size, 1, none⟩, .slice (some ⟨b, off, none⟩) l.length c) (by simp), h (⟨P0, 0, none⟩, .int .i64 old.line) (by simp), h (⟨P0, 1, none⟩, .int .u64 old.head) (by simp), h (⟨P0, 2, none⟩, .int .u64 old.d0) (by simp), h (⟨P0, 3, none⟩, .int .u64 old.d1) (by simp), h (⟨P0, 4, none⟩, .int .u64 old.d2) (by simp), h (⟨P0, 5, none⟩, .int .u64 old.d3) (by simp), h (⟨P0, 6, none⟩, .int .u64 old.d4) (by simp), h (⟨P0, 7, none⟩, .int .u64 old.d5) (by simp), h (⟨P0, 8, none⟩, .int .u64 old.d6) (by simp)⟩)
  have HC0 : Hid (Cells [(⟨w.heap.size, 0, none⟩, .int .i64 cap), (⟨w.heap.size, 1, none⟩, .slice (some ⟨b, off, none⟩) l.length c), (⟨P0, 0, none⟩, .int .i64 old.line), (⟨P0, 1, none⟩, .int .u64 old.head), (⟨P0, 2, none⟩, .int .u64 old.d0), (⟨P0, 3, none⟩, .int .u64 old.d1), (⟨P0, 4, none⟩, .int .u64 old.d2), (⟨P0, 5, none⟩, .int .u64 old.d3), (⟨P0, 6, none⟩, .int .u64 old.d4), (⟨P0, 7, none⟩, .int .u64 old.d5), (⟨P0, 8, none⟩, .int .u64 old.d6)] w5) := hide (by intro p hp; simp only [List.mem_cons, List.not_mem_nil, or_false] at hp; rcases hp with rfl | rfl | rfl | rfl | rfl | rfl | rfl | rfl | rfl | rfl | rfl <;> (first | exact k0 _ | exact kp _))
  have hSw := hide hS
  clear hS
  generalize hcs : ([(⟨w.heap.size, 0, none⟩, .int .i64 cap), (⟨w.heap.size, 1, none⟩, .slice (some ⟨b, off, none⟩) l.length c), (⟨P0, 0, none⟩, .int .i64 old.line), (⟨P0, 1, none⟩, .int .u64 old.head), (⟨P0, 2, none⟩, .int .u64 old.d0), (⟨P0, 3, none⟩, .int .u64 old.d1), (⟨P0, 4, none⟩, .int .u64 old.d2), (⟨P0, 5, none⟩, .int .u64 old.d3), (⟨P0, 6, none⟩, .int .u64 old.d4), (⟨P0, 7, none⟩, .int .u64 old.d5), (⟨P0, 8, none⟩, .int .u64 old.d6)] : List (Addr × Value)) = cs at HCS HC0
  have HCN : Hid (∀ g, g ≠ w.heap.size → g ≠ P0 → ∀ p ∈ cs, p.1.block ≠ g) := hide (by subst hcs; intro g h1 h2 p hp; simp only [List.mem_cons, List.not_mem_nil, or_false] at hp; rcases hp with rfl | rfl | rfl | rfl | rfl | rfl | rfl | rfl | rfl | rfl | rfl <;> (dsimp only; first | exact fun e => h1 e.symm | exact fun e => h2 e.symm))
  have HCT : Hid (∀ W g i v, g ≠ w.heap.size → g ≠ P0 → Cells cs W → Cells cs (W.setCell ⟨g, i, none⟩ v)) := hide (fun W g i v h1 h2 h => Cells.set v (HCN.out g h1 h2) h)
  clear hcs
  have z5 := blk_lt R2
  go_region_held3 (fun W' => Cells cs W' ∧ W'.cell? ⟨w.heap.size, 0, none⟩ = some (.int .i64 cap) ∧ W'.cell? ⟨w.heap.size, 1, none⟩ = some (.slice (some ⟨b, off, none⟩) l.length c) ∧ W'.cell? ⟨P0, 0, none⟩ = some (.int .i64 old.line) ∧ W'.cell? ⟨P0, 1, none⟩ = some (.int .u64 old.head) ∧ W'.cell? ⟨P0, 2, none⟩ = some (.int .u64 old.d0) ∧ W'.cell? ⟨P0, 3, none⟩ = some (.int .u64 old.d1) ∧ W'.cell? ⟨P0, 4, none⟩ = some (.int .u64 old.d2) ∧ W'.cell? ⟨P0, 5, none⟩ = some (.int .u64 old.d3) ∧ W'.cell? ⟨P0, 6, none⟩ = some (.int .u64 old.d4) ∧ W'.cell? ⟨P0, 7, none⟩ = some (.int .u64 old.d5) ∧ W'.cell? ⟨P0, 8, none⟩ = some (.int .u64 old.d6))
    (with_reducible first
      | exact HCS.out _ (HCT.out _ _ _ _ (by omega) (by omega) (HCT.out _ _ _ _ (by omega) (by omega) (HCT.out _ _ _ _ (by omega) (by omega) (HCT.out _ _ _ _ (by omega) (by omega) (HCT.out _ _ _ _ (by omega) (by omega) (HCT.out _ _ _ _ (by omega) (by omega) (HCT.out _ _ _ _ (by omega) (by omega) (HCT.out _ _ _ _ (by omega) (by omega) (HCT.out _ _ _ _ (by omega) (by omega) (And.left (by assumption)))))))))))
      | exact HCS.out _ (HCT.out _ _ _ _ (by omega) (by omega) (HCT.out _ _ _ _ (by omega) (by omega) (And.left (by assumption))))
      | exact HCS.out _ (Cells.al (And.left (by assumption)) _)
      | exact HCS.out _ (Cells.drew HC0.out)
      | exact HCS.out _ (Cells.drew (Cells.al HC0.out _))
      | exact HCS.out _ (Cells.below hb6 (And.left (by assumption)))
      | exact HCS.out _ (Cells.grown G7' (fun p hp e => absurd (Option.some.inj e).symm (HCN.out _ (by omega) (by omega) p hp)) (And.left (by assumption))))
    (first
      | (go_at_call 28; refine (without_any _ l i _ rfl _ ?_ hn hi).mono ?_; (first | exact hSw.out.on (by repeat (first | exact Below.refl _ _ | assumption | (refine bl_al ?_ _) | (refine bl_dr ?_ _) | (refine bl_on ?_ (by assumption))))); rintro e w6 ⟨v6, rfl, O6, hb6⟩; rw [HL.out] at O6; have O6h := hide O6; clear O6; have z6 := hb6.size; (try simp at z6); have R16 := hide (blkb hb6 (by first | exact R1 | exact blk_al R1 _) (by first | omega | (simp; omega))); have R26 := hide (blkb hb6 (by first | exact R2 | exact blk_al R2 _) (by first | omega | (simp; omega))); have B6 : Below w.heap.size w w6 := (by repeat (first | exact Below.refl _ _ | assumption | (refine bl_al ?_ _) | (refine bl_dr ?_ _) | (refine bl_on ?_ (by assumption)))); dsimp only)
      | (refine step_app _ rfl (.tmp 30) (.tmp 34) 22 rfl (w.heap.size + 3) 42 _ 9 72 Tryd.underlying22 page_info rfl (by omega) (.slice (some ⟨w5.heap.size, 0, none⟩) 1 1) 1 [.int .i64 old.line, .int .u64 old.head, .int .u64 old.d0, .int .u64 old.d1, .int .u64 old.d2, .int .u64 old.d3, .int .u64 old.d4, .int .u64 old.d5, .int .u64 old.d6] rfl (own_mono (own_below (own_single w5.drew _ 9 _ rfl) hb6) (by show w.heap.size + 3 ≤ w5.heap.size; omega)) v6 (l.length - 1) _ rfl (Sl.of_own O6h.out) (Page.onel _) (by omega) (by omega) (by omega) ?_; intro v7 w7 O7 G7 hv7; have G7' : World.grownBy _ w7 (some w5.heap.size) := G7; have R17 := blkg G7' (R16.out) (fun e => by have := Option.some.inj e; omega); have R27 := blkg G7' (R26.out) (fun e => by have := Option.some.inj e; omega); have k17 := (blkw R17).1; have f17 := (blkw R17).2.1; have k27 := (blkw R27).1; have f27 := (blkw R27).2.1; have B7 : Below w.heap.size w w7 := (B6.grown G7' B6.size (fun k hk => by have := Option.some.inj hk; omega)); have HF7 := own_form O7; obtain ⟨A7, c7, rfl, hc7⟩ := HF7; have O7h := hide O7; clear O7; have R17h := hide R17; have R27h := hide R27; clear R17 R27)
      | (refine step_app _ rfl (.tmp 30) (.tmp 34) 22 rfl (w.heap.size + 3) 42 _ 9 72 Tryd.underlying22 page_info rfl (by omega) (.slice (some ⟨w6.heap.size, 0, none⟩) 1 1) 1 [.int .i64 old.line, .int .u64 old.head, .int .u64 old.d0, .int .u64 old.d1, .int .u64 old.d2, .int .u64 old.d3, .int .u64 old.d4, .int .u64 old.d5, .int .u64 old.d6] rfl (own_mono (own_single w6 _ 9 _ rfl) (by omega)) v6 (l.length - 1) _ rfl (Sl.of_own (O6h.out.alloc _)) (Page.onel _) (by omega) (by omega) (by simp; omega) ?_; intro v7 w7 O7 G7 hv7; have G7' : World.grownBy _ w7 (some w6.heap.size) := G7; have R17 := blkg G7' (blk_al R16.out _) (fun e => by have := Option.some.inj e; omega); have R27 := blkg G7' (blk_al R26.out _) (fun e => by have := Option.some.inj e; omega); have k17 := (blkw R17).1; have f17 := (blkw R17).2.1; have k27 := (blkw R27).1; have f27 := (blkw R27).2.1; have B7 : Below w.heap.size w w7 := ((bl_al B6 _).grown G7' (by simp; omega) (fun k hk => by have := Option.some.inj hk; omega)); have HF7 := own_form O7; obtain ⟨A7, c7, rfl, hc7⟩ := HF7; have O7h := hide O7; clear O7; have R17h := hide R17; have R27h := hide R27; clear R17 R27)
      | fail)
  all_goals go_wp2
  all_goals refine bodyPost_ret (v := .tuple #[.agg #[.int .i64 cap, .slice A7 (1 + (l.length - 1)) c7], old.v, .bool true]) (by simp [results, Tryd.results11, go_sem, k17, k27, f17, f27]) rfl ?_
  all_goals rw [HO.out]
  all_goals refine ⟨_, rfl, ?_, (by repeat (with_reducible first | assumption | exact Below.refl _ _ | (refine Below.setCell ?_ (by first | omega | (dsimp only; omega) | (simp; omega)) _) | (refine bl_al ?_ _) | (refine bl_dr ?_ _) | (refine bl_on ?_ (by assumption))))⟩
  all_goals have e8 : 1 + (l.length - 1) = l.length := by omega
  all_goals have O8 := O7h.out
  all_goals rw [e8] at O8 ⊢
  all_goals refine own_mono (base := w.heap.size + 3) ?_ (by omega)
  all_goals repeat (with_reducible refine ownsRow_setCell_below ?_ (by simp) _)
  all_goals exact O8
end Go.Proofs.YtkodkbjmeepbiaaDoor
