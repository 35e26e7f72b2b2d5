/- Walks: the pages that the law makes of an operation. Conditions: as each theorem names them. -/
import Derived.Test.YtkodkbjmeepbiaaDoorG8
import Derived.Test.YtkodkbjmeepbiaaDoorE1
set_option linter.unusedVariables false
set_option linter.unusedSimpArgs false
namespace Go.Proofs.YtkodkbjmeepbiaaDoor
open Go.RowKit

abbrev words (xs : List Int) : List Value := xs.map (Value.int .u64)
theorem words_at {w : World} {B : Nat} {A : Option Addr} {xs : List Int} (h : At w B A (words xs)) {k : Nat} (hk : k < xs.length) : ∃ b off, A = some ⟨b, off, none⟩ ∧ b < B ∧ w.cell? ⟨b, off + k, none⟩ = some (.int .u64 xs[k]) :=
  h k _ (by simp [hk])
theorem gb_set1 (w : World) (g i : Nat) (v : Value) : w.grownBy (w.setCell ⟨g, i, none⟩ v) (some g) :=
  ⟨rfl, rfl, rfl, by simp [World.setCell], fun k hk hne => Below.heap_setCell w ⟨g, i, none⟩ v k (fun e => hne (by rw [e]))⟩
set_option maxRecDepth 100000 in
set_option maxHeartbeats 8000000 in
theorem pages_any (kind : Int) (u v : Value) (ls hs : List Int) (n : Int) (w : World) (hu : Sl w w.heap.size 1 u ls.length (ints ls)) (hv : Sl w w.heap.size 1 v hs.length (words hs)) (hl : ls.length ≤ 12) (hn0 : 0 ≤ n) (hn1 : n ≤ 100) (hh : ∀ x ∈ hs, 0 ≤ x ∧ x ≤ 18446744073709551615) :
    Calls Tryd.prog 9 #[.agg #[.int .i64 kind, u, v], .int .i64 n] w fun e w' => ∃ (v' : Value) (ps : List Page), e = .returned v' ∧ w'.ownsRow w.heap.size 42 9 v' ps.length (ps.flatMap Page.cells) ∧ ps.length = ls.length ∧ Fit ps ∧ Below w.heap.size w w' := by
  have hform : ∃ A c, u = .slice A ls.length c := by obtain ⟨A, c, rfl, _⟩ := hu; exact ⟨A, c, rfl⟩
  obtain ⟨A, c, rfl⟩ := hform
  have hform : ∃ A c, v = .slice A hs.length c := by obtain ⟨A, c, rfl, _⟩ := hv; exact ⟨A, c, rfl⟩
  obtain ⟨Ah, ch, rfl⟩ := hform
  go_enter Tryd.func9, Tryd.ntmps9
  go_wp2
  go_loopw [5, 6] (fun s i wr => ∃ (k : Nat) (ps : List Page) (A' : Option Addr) (c' : Nat), k ≤ ls.length ∧ i = .int .i64 k ∧ ps.length = k ∧ s = .slice A' k c' ∧ Fit ps ∧ Below w.heap.size w wr ∧ Hid (wr.heap[w.heap.size]? = some (.cells #[.int .i64 kind, .slice A ls.length c, .slice Ah hs.length ch] 35 (0, 0))) ∧
    wr.ownsRow (w.heap.size + 1) 42 9 (.slice A' k c') k (ps.flatMap Page.cells)) (fun _ i _ => ls.length - (intOf i).toNat)
  case atStart => exact ⟨0, [], none, 0, by omega, rfl, rfl, rfl, Fit.nil, bl_al (Below.refl _ _) _, new0 _ _, World.ownsRow_nil _ _ _ _⟩
  case round =>
    obtain ⟨k, ps, A', c', hk, rfl, hpl, rfl, hfit, hb, hrow, O⟩ := hrel
    obtain ⟨k0, f0, z0⟩ := blkw hrow.out
    have Oh := hide O
    clear O
    by_cases hlt : k < ls.length
    · have hSu := hu.below hb
      have hSv := hv.below hb
      obtain ⟨b, off, rfl, hbB, q0⟩ := ints_at (by obtain ⟨A'', c'', he, _, _, _, hat⟩ := hSu; injection he with e1; subst e1; exact hat) hlt
      generalize ls[k] = x at q0
      have hx1 : 0 ≤ x % 14 := by omega
      have hx2 : x % 14 < 14 := by omega
      have hpk := fun t => pick_any x 14 t (by omega) (by omega)
      generalize x % 14 = y at hx1 hx2 hpk
      have hk2 : (k : Int) ≤ 12 := by omega
      by_cases hkh : k < hs.length
      · obtain ⟨b', off', rfl, hbB', q1⟩ := words_at (by obtain ⟨A'', c'', he, _, _, _, hat⟩ := hSv; injection he with e1; subst e1; exact hat) hkh
        have hhr := hh hs[k] (List.getElem_mem hkh)
        generalize hs[k] = h at q1 hhr
        obtain ⟨hr0, hr1⟩ := hhr
        clear hSu hSv
        have e1 : h.tmod 4 = h % 4 := Int.tmod_eq_emod_of_nonneg hr0
        have e2 : h.tdiv 4 = h / 4 := Int.tdiv_eq_ediv_of_nonneg hr0
        have e3 : (h / 4).tmod 9 = h / 4 % 9 := Int.tmod_eq_emod_of_nonneg (by omega)
        have e4 : (h / 4 % 9).tdiv 8 = h / 4 % 9 / 8 := Int.tdiv_eq_ediv_of_nonneg (by omega)
        have e5 : IntKind.u64.wrap (h % 4 * 256) = h % 4 * 256 := by simp [IntKind.wrap, IntKind.signed, IntKind.bits]; omega
        have e6 : IntKind.u64.wrap (h % 4 * 256 + h / 4 % 9 / 8) = h % 4 * 256 + h / 4 % 9 / 8 := by simp [IntKind.wrap, IntKind.signed, IntKind.bits]; omega
        have hkh2 : (k : Int) < (hs.length : Int) := by omega
        have hj0 : (0 : Int) ≤ (k : Int) := by omega
        go_wp2_with fail
        refine (hpk _).mono ?_
        rintro e w' ⟨rfl, rfl⟩
        go_wp2_with fail
        have RP := new0 wr (.cells #[.int .i64 (95 + y), .int .u64 256, .int .u64 0, .int .u64 0, .int .u64 0, .int .u64 0, .int .u64 0, .int .u64 0, .int .u64 0] 42 (0, 0))
        have RO := blk_al hrow.out (.cells #[.int .i64 (95 + y), .int .u64 256, .int .u64 0, .int .u64 0, .int .u64 0, .int .u64 0, .int .u64 0, .int .u64 0, .int .u64 0] 42 (0, 0))
        have BA := bl_al hb (.cells #[.int .i64 (95 + y), .int .u64 256, .int .u64 0, .int .u64 0, .int .u64 0, .int .u64 0, .int .u64 0, .int .u64 0, .int .u64 0] 42 (0, 0))
        have OA := Oh.out.alloc (.cells #[.int .i64 (95 + y), .int .u64 256, .int .u64 0, .int .u64 0, .int .u64 0, .int .u64 0, .int .u64 0, .int .u64 0, .int .u64 0] 42 (0, 0))
        have HNE := own_ne_ge Oh.out (Nat.le_refl _)
        have c1 := Hold.cell ((blkw RO).1 2)
        have c2 := Hold.cell (cell_al q1 (.cells #[.int .i64 (95 + y), .int .u64 256, .int .u64 0, .int .u64 0, .int .u64 0, .int .u64 0, .int .u64 0, .int .u64 0, .int .u64 0] 42 (0, 0)))
        refine region_hold_tail 17 (by kernel_rfl) (by kernel_rfl) ?_
        simp only [List.take_succ_cons, List.take_zero, List.drop_succ_cons, List.drop_zero]
        repeat (go_big_quiet_step (fail))
        refine wpQuiet_nil ?_
        rintro _ ⟨t, rfl⟩
        have RPt := blkb t.b RP (blk_lt RP)
        have ROt := blkb t.b RO (blk_lt RO)
        have Bt := bl_on BA t.b
        have Ot := own_below OA t.b
        have szt := t.b.size
        obtain ⟨W4, hW4⟩ := t
        dsimp only at RPt ROt Bt Ot szt ⊢
        clear hW4 c1 c2 RP RO BA OA
        have zP := blk_lt RPt
        obtain ⟨kP, fP, _⟩ := blkw RPt
        have RW := blk_far (a := ⟨wr.heap.size, 2, none⟩) (blk_far (a := ⟨wr.heap.size, 1, none⟩) ROt (by dsimp only; omega) (.int .u64 (h % 4 * 256 + h / 4 % 9 / 8))) (by dsimp only; omega) (.int .u64 (n * 100 + (k : Int)))
        have R2 := (blk_set (i := 2) (blk_set (i := 1) RPt (.int .u64 (h % 4 * 256 + h / 4 % 9 / 8))) (.int .u64 (n * 100 + (k : Int)))).trans (show _ = some (.cells #[.int .i64 (95 + y), .int .u64 (h % 4 * 256 + h / 4 % 9 / 8), .int .u64 (n * 100 + (k : Int)), .int .u64 0, .int .u64 0, .int .u64 0, .int .u64 0, .int .u64 0, .int .u64 0] 42 (0, 0)) by simp)
        have BW := (Bt.setCell (p := ⟨wr.heap.size, 1, none⟩) (by dsimp only; omega) (.int .u64 (h % 4 * 256 + h / 4 % 9 / 8))).setCell (p := ⟨wr.heap.size, 2, none⟩) (by dsimp only; omega) (.int .u64 (n * 100 + (k : Int)))
        have OW := (Ot.kept (gb_set1 W4 wr.heap.size 1 (.int .u64 (h % 4 * 256 + h / 4 % 9 / 8))) (.inr HNE)).kept (gb_set1 _ wr.heap.size 2 (.int .u64 (n * 100 + (k : Int)))) (.inr HNE)
        clear RPt ROt Bt Ot
        have hs5 : ((W4.setCell ⟨wr.heap.size, 1, none⟩ (.int .u64 (h % 4 * 256 + h / 4 % 9 / 8))).setCell ⟨wr.heap.size, 2, none⟩ (.int .u64 (n * 100 + (k : Int)))).heap.size = W4.heap.size := by simp [World.setCell]
        have hq := own_single ((W4.setCell ⟨wr.heap.size, 1, none⟩ (.int .u64 (h % 4 * 256 + h / 4 % 9 / 8))).setCell ⟨wr.heap.size, 2, none⟩ (.int .u64 (n * 100 + (k : Int)))) 42 9 (⟨95 + y, (h % 4 * 256 + h / 4 % 9 / 8), n * 100 + (k : Int), 0, 0, 0, 0, 0, 0⟩ : Page).cells rfl
        rw [hs5] at hq
        have HQ := hide hq
        clear hq
        go_wp2_with (at_builtin; refine wpl_app (((W4.setCell ⟨wr.heap.size, 1, none⟩ (.int .u64 (h % 4 * 256 + h / 4 % 9 / 8))).setCell ⟨wr.heap.size, 2, none⟩ (.int .u64 (n * 100 + (k : Int)))).alloc (.cells #[.int .i64 (95 + y), .int .u64 (h % 4 * 256 + h / 4 % 9 / 8), .int .u64 (n * 100 + (k : Int)), .int .u64 0, .int .u64 0, .int .u64 0, .int .u64 0, .int .u64 0, .int .u64 0] 42 (0, 0))) rfl (.tmp 52) (.tmp 54) 22 rfl (w.heap.size + 1) 42 _ 9 72 Tryd.underlying22 page_info rfl (by omega) (.slice A' k c') k (ps.flatMap Page.cells) rfl (OW.alloc _) (.slice (some ⟨W4.heap.size, 0, none⟩) 1 1) 1 (⟨95 + y, (h % 4 * 256 + h / 4 % 9 / 8), n * 100 + (k : Int), 0, 0, 0, 0, 0, 0⟩ : Page).cells rfl (Sl.of_own HQ.out) (⟨95 + y, (h % 4 * 256 + h / 4 % 9 / 8), n * 100 + (k : Int), 0, 0, 0, 0, 0, 0⟩ : Page).one (by omega) (by omega) (by rw [World.size_alloc, hs5]; omega) ?_; intro v6 w6 O6 G6 _; obtain ⟨A6, c6, rfl, hc6⟩ := own_form O6; have O6h := hide O6; clear O6)
        go_roundw
        case rel => exact ⟨k + 1, ps ++ [(⟨95 + y, (h % 4 * 256 + h / 4 % 9 / 8), n * 100 + (k : Int), 0, 0, 0, 0, 0, 0⟩ : Page)], A6, c6, by omega, by go_num, by simp [hpl], rfl, hfit.snoc ⟨⟨⟨by dsimp only; omega, by dsimp only; omega⟩, ⟨by dsimp only; omega, by dsimp only; omega⟩, ⟨by dsimp only; omega, by dsimp only; omega⟩, by intro x hx; simp [wordsP] at hx; omega⟩, by dsimp only; omega, by dsimp only; omega⟩, (bl_al BW _).grown G6 (by rw [World.size_alloc, hs5]; omega) (fun g hg => by have := own_base OW g hg; omega), blkg G6 (blk_al RW _) (own_ne_lt OW (by omega)), by rw [List.flatMap_append]; simpa using O6h.out⟩
        case measure => simp [intOf]; omega
      · clear hSu hSv
        have hkh2 : ¬ (k : Int) < (hs.length : Int) := by omega
        go_wp2_with fail
        refine (hpk _).mono ?_
        rintro e w' ⟨rfl, rfl⟩
        have OW := Oh.out.alloc (.cells #[.int .i64 (95 + y), .int .u64 256, .int .u64 (n * 100 + (k : Int)), .int .u64 0, .int .u64 0, .int .u64 0, .int .u64 0, .int .u64 0, .int .u64 0] 42 (0, 0))
        have RW := blk_al hrow.out (.cells #[.int .i64 (95 + y), .int .u64 256, .int .u64 (n * 100 + (k : Int)), .int .u64 0, .int .u64 0, .int .u64 0, .int .u64 0, .int .u64 0, .int .u64 0] 42 (0, 0))
        have BW := bl_al hb (.cells #[.int .i64 (95 + y), .int .u64 256, .int .u64 (n * 100 + (k : Int)), .int .u64 0, .int .u64 0, .int .u64 0, .int .u64 0, .int .u64 0, .int .u64 0] 42 (0, 0))
        have hq := own_single (wr.alloc (.cells #[.int .i64 (95 + y), .int .u64 256, .int .u64 (n * 100 + (k : Int)), .int .u64 0, .int .u64 0, .int .u64 0, .int .u64 0, .int .u64 0, .int .u64 0] 42 (0, 0))) 42 9 (⟨95 + y, 256, n * 100 + (k : Int), 0, 0, 0, 0, 0, 0⟩ : Page).cells rfl
        rw [World.size_alloc] at hq
        have HQ := hide hq
        clear hq
        go_wp2_with (at_builtin; refine wpl_app ((wr.alloc (.cells #[.int .i64 (95 + y), .int .u64 256, .int .u64 (n * 100 + (k : Int)), .int .u64 0, .int .u64 0, .int .u64 0, .int .u64 0, .int .u64 0, .int .u64 0] 42 (0, 0))).alloc (.cells #[.int .i64 (95 + y), .int .u64 256, .int .u64 (n * 100 + (k : Int)), .int .u64 0, .int .u64 0, .int .u64 0, .int .u64 0, .int .u64 0, .int .u64 0] 42 (0, 0))) rfl (.tmp 52) (.tmp 54) 22 rfl (w.heap.size + 1) 42 _ 9 72 Tryd.underlying22 page_info rfl (by omega) (.slice A' k c') k (ps.flatMap Page.cells) rfl (OW.alloc _) (.slice (some ⟨wr.heap.size + 1, 0, none⟩) 1 1) 1 (⟨95 + y, 256, n * 100 + (k : Int), 0, 0, 0, 0, 0, 0⟩ : Page).cells rfl (Sl.of_own HQ.out) (⟨95 + y, 256, n * 100 + (k : Int), 0, 0, 0, 0, 0, 0⟩ : Page).one (by omega) (by omega) (by first | (simp; done) | (simp; omega)) ?_; intro v6 w6 O6 G6 _; obtain ⟨A6, c6, rfl, hc6⟩ := own_form O6; have O6h := hide O6; clear O6)
        go_roundw
        case rel => exact ⟨k + 1, ps ++ [(⟨95 + y, 256, n * 100 + (k : Int), 0, 0, 0, 0, 0, 0⟩ : Page)], A6, c6, by omega, by go_num, by simp [hpl], rfl, hfit.snoc ⟨⟨⟨by dsimp only; omega, by dsimp only; omega⟩, ⟨by dsimp only; omega, by dsimp only; omega⟩, ⟨by dsimp only; omega, by dsimp only; omega⟩, by intro x hx; simp [wordsP] at hx; omega⟩, by dsimp only; omega, by dsimp only; omega⟩, (bl_al BW _).grown G6 (by simp; omega) (fun g hg => by have := own_base OW g hg; omega), blkg G6 (blk_al RW _) (own_ne_lt OW (by omega)), by rw [List.flatMap_append]; simpa using O6h.out⟩
        case measure => simp [intOf]; omega
    · obtain rfl : k = ls.length := by omega
      go_wp2
      go_ret
      exact ⟨_, ps, rfl, by rw [hpl]; exact own_mono Oh.out (by omega), hpl, hfit, hb⟩
end Go.Proofs.YtkodkbjmeepbiaaDoor
