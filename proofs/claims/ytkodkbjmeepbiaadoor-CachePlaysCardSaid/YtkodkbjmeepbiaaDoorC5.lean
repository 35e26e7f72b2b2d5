/- Walks: slices.Insert of one page: at the end; where a new row is made; all cases. Conditions: as each theorem names them. -/
import Derived.Test.YtkodkbjmeepbiaaDoorC4
set_option linter.unusedVariables false
set_option linter.unusedSimpArgs false
namespace Go.Proofs.YtkodkbjmeepbiaaDoor
open Go.RowKit

set_option maxRecDepth 100000 in
set_option maxHeartbeats 1000000 in
theorem insert_end (v : Value) (l : List Page) (y : Page) (gb base : Nat) (I : Int) (hI : I = l.length) (w : World) (hn : l.length ≤ 1000000) (hown : w.ownsRow base 42 9 v l.length (l.flatMap Page.cells)) (hbase : base ≤ w.heap.size)
    (hy : w.heap[gb]? = some (.cells y.cells.toArray 42 (0, 0))) :
    Calls Tryd.prog 26 #[v, .int .i64 I, .slice (some ⟨gb, 0, none⟩) 1 1] w fun e w' =>
      ∃ v', e = .returned v' ∧ w'.ownsRow base 42 9 v' (l.length + 1) ((l ++ [y]).flatMap Page.cells) ∧ w.grownBy w' v.ownBlock ∧ (v'.ownBlock = v.ownBlock ∨ v'.ownBlock = some w.heap.size) := by
  subst hI
  obtain ⟨i0, hi0, hz0, hz1, hz2⟩ := info_parts page_info
  have hnews : ∀ j u, y.cells[j]? = some u → w.cell? ((⟨gb, 0, none⟩ : Addr).add j) = some u := fun j u hj => by
    rw [add_flat, cell_of_row _ _ _ _ _ _ hy]
    simpa using hj
  obtain ⟨A, c, rfl, hc⟩ := own_form hown
  have hA : A = none → c = 0 ∧ l.length = 0 := fun h => by
    subst h
    rcases hown.2 with ⟨h1, h2⟩ | ⟨g, cap, cur, h1, _⟩
    · injection h1 with _ _ h3
      exact ⟨h3, h2⟩
    · injection h1 with h1
      cases h1
  have HA := hide hA
  clear hA
  go_enter Tryd.func26, Tryd.ntmps26
  go_wp2_with (at_builtin; refine wpList_append_own_at w rfl (.tmp 23) (.tmp 24) 22 rfl base 42 i0 _ 9 72 Tryd.underlying22 hi0 hz0 hz1 hz2 rfl (by omega) (.slice A l.length c) l.length (l.flatMap Page.cells) rfl hown ⟨gb, 0, none⟩ 1 1 y.cells rfl (Page.len y) hnews (Page.one y) (by simp only [maxLen]; omega) (by omega) hbase ?_; intro v1 w1 hown1 hg1 _ hat1)
  all_goals first | subst ‹c = l.length› | skip
  all_goals go_ret
  all_goals exact ⟨v1, rfl, by simpa using hown1, hg1, hat1⟩

set_option maxRecDepth 100000 in
set_option maxHeartbeats 1000000 in
theorem insert_grow (l : List Page) (y : Page) (i g cap gb base : Nat) (cur : List Value) (I : Int) (hI : I = i) (w : World) (hi : i < l.length) (hn : l.length ≤ 1000000) (hbase : base ≤ w.heap.size) (hnc : l.length ≤ cap) (hcap : cap < l.length + 1) (hcm : cap ≤ maxLen)
    (hg : w.heap[g]? = some (.cells cur.toArray 42 (0, 0))) (hcs : cur.length = cap * 9) (htk : cur.take (l.length * 9) = l.flatMap Page.cells) (hy : w.heap[gb]? = some (.cells y.cells.toArray 42 (0, 0))) :
    Calls Tryd.prog 26 #[.slice (some ⟨g, 0, none⟩) l.length cap, .int .i64 I, .slice (some ⟨gb, 0, none⟩) 1 1] w fun e w' =>
      ∃ v', e = .returned v' ∧ w'.ownsRow base 42 9 v' (l.length + 1) ((l.take i ++ y :: l.drop i).flatMap Page.cells) ∧ Below w.heap.size w w' ∧ v'.ownBlock = some w.heap.size := by
  subst hI
  obtain rfl : cap = l.length := by omega
  obtain ⟨i0, hi0, hz0, hz1, hz2⟩ := info_parts page_info
  have HO : Hid (∀ j u, ((l.take i).flatMap Page.cells)[j]? = some u → w.cell? ⟨g, 0 + j, none⟩ = some u) := hide (fun j u hj => by
    rw [Nat.zero_add, cell_of_row _ _ _ _ _ _ hg]
    rw [flat_take Page.cells 9 Page.len, ← htk, List.take_take, List.getElem?_take] at hj
    split at hj
    · simpa using hj
    · cases hj)
  obtain ⟨C, w3, X, hC1, hC2, hrun, hR3, hB3, hXl, hXt⟩ := zeros_row (P := Tryd.prog) (w := w) 22 3 22 42 i0 _ Tryd.underlying22 Tryd.underlying3 hi0 hz0 (by rw [hz1]; rfl) g 0 i l.length (l.length + 1 - i) ((l.length : Int) + 1 - i) (by omega) ((l.take i).flatMap Page.cells) (by rw [Page.lenl, hz1]; simp; omega) HO.out (by rw [hz1]; omega) (by omega) (by rw [hz2]; omega) (by omega) (by rw [hz2]; omega) (by rw [hz2]; omega)
  rw [hz1] at hXl hXt
  have hadd : i + (l.length + 1 - i) = l.length + 1 := by omega
  rw [hadd] at hC1 hrun
  have HR := hide hrun
  have R3 := hide hR3
  obtain ⟨q1, q2, q3, q4⟩ := ins_row2 (f := Page.cells) (sz := 9) Page.len y (Nat.le_of_lt hi) hC1 hXl hXt
  have Q1 := hide q1
  have Q2 := hide q2
  have Q3 := hide q3
  have Q4 := hide q4
  have HX := hide hXl
  have hcb : C ≤ 9223372036854775807 := by unfold maxLen at hC2; omega
  have HC := hide hC2
  have HZ : Hid ((Tryd.prog.info? 42).map (·.size) = some 9) := hide (by rw [hi0]; simp [hz1])
  have HY : Hid (∀ j u, y.cells[j]? = some u → ∃ b off, some (⟨gb, 0, none⟩ : Addr) = some ⟨b, off, none⟩ ∧ w3.cell? ⟨b, off + j, none⟩ = some u) := hide (fun j u hj => ⟨gb, 0, rfl, by
    have h2 : w3.heap[gb]? = some (.cells y.cells.toArray 42 (0, 0)) := (hB3.block gb (Array.getElem?_eq_some_iff.1 hy).1).trans hy
    rw [cell_of_row _ _ _ _ _ _ h2]
    simpa using hj⟩)
  have HM : Hid (y.cells.length = Nat.min 1 (l.length + 1 - i) * 9) := hide (by rw [Page.len, show Nat.min 1 (l.length + 1 - i) = 1 from by show min _ _ = _; omega])
  have HS : Hid (∀ w4 : World, Below w.heap.size w w4 → ∀ j u, ((l.drop i).flatMap Page.cells)[j]? = some u → w4.cell? ⟨g, i * 9 + j, none⟩ = some u) := hide (fun w4 hb4 j u hj => by
    have h2 : w4.heap[g]? = some (.cells cur.toArray 42 (0, 0)) := (hb4.block g (Array.getElem?_eq_some_iff.1 hg).1).trans hg
    rw [cell_of_row _ _ _ _ _ _ h2]
    have h1 := flat_drop Page.cells 9 Page.len l i
    rw [h1, ← htk, List.getElem?_drop, List.getElem?_take] at hj
    split at hj
    · simpa using hj
    · cases hj)
  have HN : Hid (((l.drop i).flatMap Page.cells).length = Nat.min (l.length - i) (l.length - i) * 9) := hide (by
    rw [Page.lenl, List.length_drop, show Nat.min (l.length - i) (l.length - i) = l.length - i from by show min _ _ = _; omega])
  clear hrun hR3 hXl hXt q1 q2 q3 q4 hC2 hadd hg hcs htk hy
  have e1 : (1 : Int) ≠ 0 := by omega
  have e2 : ((i : Int) == (l.length : Int)) = false := by simp; omega
  have e3 : (0 : Int) ≤ (i : Int) + 1 := by omega
  have e4 : (i : Int) + 1 ≤ (l.length : Int) + 1 := by omega
  have e5 : i ≤ l.length + 1 := by omega
  have e6 : ¬ C = i := by omega
  have e7 : ¬ C = i + 1 := by omega
  have e13 : i ≤ l.length := by omega
  go_enter Tryd.func26, Tryd.ntmps26
  go_wp2_with (first
    | (at_builtin; refine wpList_append_run rfl (x := .tmp 34) (y := .tmp 39) rfl rfl rfl HR.out ?_)
    | (with_reducible refine wpList_copy_run rfl (x := .tmp 43) (y := .tmp 44) rfl rfl rfl (run_copy_n _ _ _ 42 9 Tryd.underlying22 HZ.out _ _ _ _ _ _ w.heap.size (i * 9) 42 X y.cells R3.out HM.out (fun _ => rfl) HY.out Q1.out (Page.one y)) ?_))
  have R4 := row_set (cs := spl X (i * 9) y.cells) R3.out
  have B4 : Below w.heap.size w (w3.setRow w.heap.size (spl X (i * 9) y.cells).toArray) := hB3.grown (row_grown _ _ _) hB3.size (by intro k hk; injection hk with hk; omega)
  generalize (w3.setRow w.heap.size (spl X (i * 9) y.cells).toArray) = w4 at R4 B4 ⊢
  have HS4 := hide (HS.out w4.drew B4.drew)
  have R4 := hide R4
  have R4' : Hid (w4.drew.heap[w.heap.size]? = some (.cells (spl X (i * 9) y.cells).toArray 42 (0, 0))) := R4
  have Q3' : Hid ((i + 1) * 9 + ((l.drop i).flatMap Page.cells).length ≤ (spl X (i * 9) y.cells).length) := hide (by rw [Q2.out]; exact Q3.out)
  have e9 : IntKind.i64.wrap ((i : Int) + 1) = (i : Int) + 1 := by rw [IntKind.wrap_i64]; omega
  have e10 : ((i : Int) + 1).toNat = i + 1 := by clear e9; omega
  go_still_tail 8, (by kernel_rfl)
  change wpList _ _ _ _ _ w4.drew
  clear e9 e10
  refine wpList_copy_run rfl (x := .tmp 50) (y := .tmp 53) rfl rfl rfl (run_copy_n _ _ _ 42 9 Tryd.underlying22 HZ.out _ _ _ _ _ _ w.heap.size ((i + 1) * 9) 42 (spl X (i * 9) y.cells) ((l.drop i).flatMap Page.cells) R4'.out HN.out (fun _ => rfl) (fun j v hj => ⟨_, _, if_neg (by omega), HS4.out j v hj⟩) Q3'.out (Page.onel _)) ?_
  have R5 := row_set (cs := spl (spl X (i * 9) y.cells) ((i + 1) * 9) (List.flatMap Page.cells (List.drop i l))) R4'.out
  have B5 : Below w.heap.size w (w4.drew.setRow w.heap.size (spl (spl X (i * 9) y.cells) ((i + 1) * 9) (List.flatMap Page.cells (List.drop i l))).toArray) := B4.drew.grown (row_grown _ _ _) B4.size (by intro k hk; injection hk with hk; omega)
  have L5 : (spl (spl X (i * 9) y.cells) ((i + 1) * 9) (List.flatMap Page.cells (List.drop i l))).length = C * 9 := by rw [spl_len _ _ _ Q3'.out, Q2.out]
  generalize (w4.drew.setRow w.heap.size (spl (spl X (i * 9) y.cells) ((i + 1) * 9) (List.flatMap Page.cells (List.drop i l))).toArray) = w5 at R5 B5 ⊢
  have R5 := hide R5
  have L5 := hide L5
  go_wp2
  go_ret
  have Q := own_of_row R5.out hbase hC1 HC.out L5.out Q4.out (by rw [Page.lenl]; simp; omega)
  exact ⟨_, rfl, by simpa using Q, B5, rfl⟩

/-- slices.Insert of one page that lies in a block of its own. -/
theorem insert_any (v : Value) (l : List Page) (y : Page) (i gb base : Nat) (I : Int) (hI : I = i) (w : World) (hi : i ≤ l.length) (hn : l.length ≤ 1000000) (hown : w.ownsRow base 42 9 v l.length (l.flatMap Page.cells)) (hbase : base ≤ w.heap.size)
    (hy : w.heap[gb]? = some (.cells y.cells.toArray 42 (0, 0))) (hne : v.ownBlock ≠ some gb) :
    Calls Tryd.prog 26 #[v, .int .i64 I, .slice (some ⟨gb, 0, none⟩) 1 1] w fun e w' =>
      ∃ v', e = .returned v' ∧ w'.ownsRow base 42 9 v' (l.length + 1) ((l.take i ++ y :: l.drop i).flatMap Page.cells) ∧ w.grownBy w' v.ownBlock ∧ (v'.ownBlock = v.ownBlock ∨ v'.ownBlock = some w.heap.size) := by
  rcases Nat.lt_or_ge i l.length with h | h
  · rcases hown.2 with ⟨_, h0⟩ | ⟨g, cap, cur, rfl, hbg, hg, hnc, hcm, hcs, htk⟩
    · omega
    · have hgn : gb ≠ g := fun e => hne (by simp [Value.ownBlock, e])
      rcases Nat.lt_or_ge cap (l.length + 1) with hc | hc
      · refine (insert_grow l y i g cap gb base cur.toList I hI w h hn hbase hnc hc hcm (by exact hg) (by simpa using hcs) htk hy).mono ?_
        rintro e w' ⟨v', he, h1, h2, h3⟩
        exact ⟨v', he, h1, ⟨h2.os, h2.tape, h2.output, h2.size, fun k hk _ => h2.block k hk⟩, .inr h3⟩
      · refine (insert_room l y i g cap gb base cur.toList I hI w h hn hbg hc hcm (by exact hg) (by simpa using hcs) htk hy hgn).mono ?_
        rintro e w' ⟨v', he, h1, h2, h3⟩
        exact ⟨v', he, h1, h2, .inl h3⟩
  · obtain rfl : i = l.length := by omega
    refine (insert_end v l y gb base I hI w hn hown hbase hy).mono ?_
    rintro e w' ⟨v', he, h1, h2, h3⟩
    refine ⟨v', he, ?_, h2, h3⟩
    simpa using h1

end Go.Proofs.YtkodkbjmeepbiaaDoor
