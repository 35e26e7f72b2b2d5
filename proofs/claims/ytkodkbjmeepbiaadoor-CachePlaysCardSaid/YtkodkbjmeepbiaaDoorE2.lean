/- Walks: the reference's list without one page. Conditions: as each theorem names them. -/
import Derived.Test.YtkodkbjmeepbiaaDoorE1
set_option linter.unusedVariables false
set_option linter.unusedSimpArgs false
namespace Go.Proofs.YtkodkbjmeepbiaaDoor
open Go.RowKit

theorem erase_cells (l : List Page) (i : Nat) : (l.take i).flatMap Page.cells ++ (l.drop (i + 1)).flatMap Page.cells = (l.eraseIdx i).flatMap Page.cells := by
  rw [← List.flatMap_append, List.eraseIdx_eq_take_drop_succ]

set_option maxRecDepth 100000 in
theorem without_any (v : Value) (l : List Page) (i : Nat) (I : Int) (hI : I = i) (w : World) (h : Sl w w.heap.size 9 v l.length (l.flatMap Page.cells)) (hn : l.length ≤ 1000000) (hi : i < l.length) :
    Calls Tryd.prog 28 #[v, .int .i64 I] w fun e w' => ∃ v', e = .returned v' ∧ w'.ownsRow w.heap.size 42 9 v' (l.eraseIdx i).length ((l.eraseIdx i).flatMap Page.cells) ∧ Below w.heap.size w w' := by
  subst hI
  have hform : ∃ b off c, v = .slice (some ⟨b, off, none⟩) l.length c ∧ l.length ≤ c := by
    obtain ⟨A, c, rfl, hcc, _, _, hat⟩ := h
    obtain ⟨b, off, rfl, _⟩ := Page.at_ hat hi
    exact ⟨b, off, c, rfl, hcc⟩
  obtain ⟨b, off, c, rfl, hcc⟩ := hform
  have hj0 : (0 : Int) ≤ (i : Int) := by omega
  have hj1 : (i : Int) ≤ (c : Int) := by omega
  have hj2 : IntKind.i64.wrap ((i : Int) + 1) = (i : Int) + 1 := by rw [IntKind.wrap_i64]; omega
  have hj3 : (0 : Int) ≤ (i : Int) + 1 := by omega
  have hj4 : (i : Int) + 1 ≤ (l.length : Int) := by omega
  have hj5 : (l.length : Int) ≤ (c : Int) := by omega
  have HE := hide (List.length_eraseIdx_of_lt hi)
  go_enter Tryd.func28, Tryd.ntmps28
  go_wp2_with fail
  have HT := hide (h.take Page.len (Nat.le_of_lt hi))
  have HD := hide (h.drop Page.len (k := i + 1) hi)
  clear h
  have HL : Hid (0 + i + (l.length - (i + 1)) = (l.eraseIdx i).length) := hide (by rw [HE.out]; omega)
  have HC : Hid ((l.take i).flatMap Page.cells ++ (l.drop (i + 1)).flatMap Page.cells = (l.eraseIdx i).flatMap Page.cells) := hide (erase_cells l i)
  go_region_law (first
    | (refine step_app _ rfl (.tmp 5) (.tmp 8) 22 rfl w.heap.size 42 _ 9 72 Tryd.underlying22 page_info rfl (by omega) _ 0 [] rfl (World.ownsRow.drew (own_empty w _ _)) _ i _ rfl (HT.out.below (bl_dr (bl_al (Below.refl _ _) _) 1)) (Page.onel _) (by omega) (by omega) (by simp) ?_; intro v1 w1 O1 G1 _; have B1 : Below w.heap.size w w1 := (bl_dr (bl_al (Below.refl _ _) _) 1).grown G1 (by simp) (fun k hk => Nat.le_of_eq (Option.some.inj hk)); have O1h := hide O1; clear O1)
    | (refine step_app _ rfl (.tmp 9) (.tmp 13) 22 rfl w.heap.size 42 _ 9 72 Tryd.underlying22 page_info rfl (by omega) _ (0 + i) _ rfl O1h.out _ (l.length - (i + 1)) _ rfl (HD.out.below B1) (Page.onel _) (by omega) (by omega) B1.size ?_; intro v2 w2 O2 G2 _; have B2 : Below w.heap.size w w2 := B1.grown G2 B1.size (fun k hk => own_base O1h.out k hk); rw [HL.out, List.nil_append, HC.out] at O2; have O2h := hide O2; clear O2))
  all_goals go_wp2
  all_goals go_ret
  all_goals exact ⟨_, rfl, O2h.out, B2⟩
end Go.Proofs.YtkodkbjmeepbiaaDoor
