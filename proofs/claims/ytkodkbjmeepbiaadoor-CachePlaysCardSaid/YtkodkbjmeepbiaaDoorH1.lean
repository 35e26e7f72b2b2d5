/- Walks: the law's own small functions. Conditions: as each theorem names them. -/
import Derived.Test.YtkodkbjmeepbiaaDoorC6
import Derived.Test.YtkodkbjmeepbiaaDoorE1
import Derived.Test.YtkodkbjmeepbiaaDoorG4
set_option linter.unusedVariables false
set_option linter.unusedSimpArgs false
namespace Go.Proofs.YtkodkbjmeepbiaaDoor
open Go.RowKit

theorem ref_any (cap : Int) (A : Option Addr) (n c : Nat) (w : World) :
    Calls Tryd.prog 6 #[.agg #[.int .i64 cap, .slice A n c]] w fun e w' => e = .returned (.agg #[.int .i64 cap, .slice A n c]) ∧ Below w.heap.size w w' := by
  go_enter Tryd.func6, Tryd.ntmps6
  go_wp2
  refine bodyPost_ret (v := .agg #[.int .i64 cap, .slice A n c]) (by simp [results, Tryd.results6, go_sem]) rfl ⟨rfl, (by repeat (with_reducible first | assumption | exact Below.refl _ _ | (refine Below.setCell ?_ (by first | omega | (dsimp only; omega) | (simp; omega)) _) | (refine bl_al ?_ _) | (refine bl_dr ?_ _) | (refine bl_on ?_ (by assumption))))⟩

set_option maxRecDepth 100000 in
theorem samePages_any (u v : Value) (l : List Page) (w : World) (h : Sl w w.heap.size 9 u l.length (l.flatMap Page.cells)) (k : Sl w w.heap.size 9 v l.length (l.flatMap Page.cells)) (hn : l.length ≤ 1000000) :
    Calls Tryd.prog 12 #[u, v] w fun e w' => e = .returned (.bool true) ∧ Below w.heap.size w w' := by
  obtain ⟨A, c, rfl, hcc, hm, hl, hat⟩ := h
  obtain ⟨A', c', rfl, hcc', hm', hl', hat'⟩ := k
  go_enter Tryd.func12, Tryd.ntmps12
  go_wp2
  go_loopw [5] (fun i wr => ∃ k : Nat, k ≤ l.length ∧ i = .int .i64 k ∧ Below w.heap.size w wr) (fun i _ => l.length - (intOf i).toNat)
  case atStart => exact ⟨0, by omega, rfl, Below.refl _ _⟩
  case round =>
    obtain ⟨k, hk, rfl, hb⟩ := hrel
    by_cases hlt : k < l.length
    · obtain ⟨b, off, rfl, hbB, h0, h1, h2, h3, h4, h5, h6, h7, h8⟩ := Page.at_ (hat.below hb) hlt
      obtain ⟨b', off', rfl, hbB', g0, g1, g2, g3, g4, g5, g6, g7, g8⟩ := Page.at_ (hat'.below hb) hlt
      generalize l[k] = p at h0 h1 h2 h3 h4 h5 h6 h7 h8 g0 g1 g2 g3 g4 g5 g6 g7 g8
      have hj0 : (0 : Int) ≤ (k : Int) := by omega
      have hj1 : (k : Int) < (l.length : Int) := by omega
      have heq := eq_data p.d0 p.d1 p.d2 p.d3 p.d4 p.d5 p.d6 p.d0 p.d1 p.d2 p.d3 p.d4 p.d5 p.d6
      simp only [beq_self_eq_true, Bool.and_self] at heq
      have c0 := Hold.cell h0
      have c1 := Hold.cell h1
      have c2 := Hold.cell h2
      have c3 := Hold.cell h3
      have c4 := Hold.cell h4
      have c5 := Hold.cell h5
      have c6 := Hold.cell h6
      have c7 := Hold.cell h7
      have c8 := Hold.cell h8
      have d0 := Hold.cell g0
      have d1 := Hold.cell g1
      have d2 := Hold.cell g2
      have d3 := Hold.cell g3
      have d4 := Hold.cell g4
      have d5 := Hold.cell g5
      have d6 := Hold.cell g6
      have d7 := Hold.cell g7
      have d8 := Hold.cell g8
      go_wp2_with fail
      refine region_hold (by kernel_rfl) (by kernel_rfl) ?_
      repeat (go_big_quiet_step (fail))
      refine wpQuiet_nil ?_
      rintro _ ⟨t, rfl⟩
      have Bt := bl_on hb t.b
      go_wp2
      go_roundw
      case rel => exact ⟨k + 1, by omega, by go_num, Bt⟩
      case measure => simp [intOf]; omega
    · go_wp2
      go_ret
      exact ⟨rfl, hb⟩

theorem same_any (cap : Int) (u v : Value) (l : List Page) (w : World) (h : Sl w w.heap.size 9 u l.length (l.flatMap Page.cells)) (k : Sl w w.heap.size 9 v l.length (l.flatMap Page.cells)) (hn : l.length ≤ 1000000) :
    Calls Tryd.prog 17 #[.agg #[.int .i64 cap, u], .agg #[.int .i64 cap, v]] w fun e w' => e = .returned (.bool true) ∧ Below w.heap.size w w' := by
  have hform : ∃ A c, u = .slice A l.length c := by obtain ⟨A, c, rfl, _⟩ := h; exact ⟨A, c, rfl⟩
  obtain ⟨A, c, rfl⟩ := hform
  have hform : ∃ A c, v = .slice A l.length c := by obtain ⟨A, c, rfl, _⟩ := k; exact ⟨A, c, rfl⟩
  obtain ⟨A', c', rfl⟩ := hform
  go_enter Tryd.func17, Tryd.ntmps17
  go_wp2_with fail
  refine (samePages_any _ _ l _ (h.on (bl_al (bl_al (Below.refl _ _) _) _)) (k.on (bl_al (bl_al (Below.refl _ _) _) _)) hn).mono ?_
  rintro e w1 ⟨rfl, hb1⟩
  go_wp2
  go_ret
  exact ⟨rfl, (by repeat (first | exact Below.refl _ _ | assumption | (refine bl_al ?_ _) | (refine bl_dr ?_ _) | (refine bl_on ?_ (by assumption))))⟩
end Go.Proofs.YtkodkbjmeepbiaaDoor
