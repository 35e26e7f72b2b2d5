/- Walks: slices.Insert of one page. Conditions: as each theorem names them. -/
import Derived.Test.YtkodkbjmeepbiaaDoorC3
import Derived.Lib.Overlaps
set_option linter.unusedVariables false
set_option linter.unusedSimpArgs false
namespace Go.Proofs.YtkodkbjmeepbiaaDoor
open Go.RowKit

theorem page_size : ∀ w : World, (Go.sizeOf 42).run Tryd.prog w = .ok 9 w := fun _ => by kernel_rfl

set_option maxRecDepth 100000 in
set_option maxHeartbeats 1000000 in
theorem insert_room (l : List Page) (y : Page) (i g cap gb base : Nat) (cur : List Value) (I : Int) (hI : I = i) (w : World) (hi : i < l.length) (hn : l.length ≤ 1000000) (hbg : base ≤ g) (hnc : l.length + 1 ≤ cap) (hcm : cap ≤ maxLen)
    (hg : w.heap[g]? = some (.cells cur.toArray 42 (0, 0))) (hcs : cur.length = cap * 9) (htk : cur.take (l.length * 9) = l.flatMap Page.cells) (hy : w.heap[gb]? = some (.cells y.cells.toArray 42 (0, 0))) (hne : gb ≠ g) :
    Calls Tryd.prog 26 #[.slice (some ⟨g, 0, none⟩) l.length cap, .int .i64 I, .slice (some ⟨gb, 0, none⟩) 1 1] w fun e w' =>
      ∃ v', e = .returned v' ∧ w'.ownsRow base 42 9 v' (l.length + 1) ((l.take i ++ y :: l.drop i).flatMap Page.cells) ∧ w.grownBy w' (some g) ∧ v'.ownBlock = some g := by
  subst hI
  obtain ⟨i0, hi0, hz0, hz1, hz2⟩ := info_parts page_info
  have hcb : cap ≤ 9223372036854775807 := by unfold maxLen at hcm; omega
  have HC := hide hcm
  clear hcm
  obtain ⟨hfit, hX, h7, hT⟩ := ins_row (sz := 9) (f := Page.cells) Page.len y (Nat.le_of_lt hi) hnc hcs htk
  have hov : ∀ lb cb, (callFunc 43 #[.slice (some ⟨gb, 0, none⟩) 1 1, .slice (some ⟨g, (i + 1) * 9, none⟩) lb cb]).run Tryd.prog w = .ok (.value (.bool false)) w := fun lb cb => by
    rw [run_callFunc_extern Tryd.func43 (by kernel_rfl) (by kernel_rfl) (by kernel_rfl) (e := Extern.SlicesOverlaps.overlaps #[22, 22] #[4]) (by kernel_rfl),
      Lib.run_overlaps_apart w 22 4 42 Tryd.underlying22 9 page_size ⟨gb, 0, none⟩ ⟨g, (i + 1) * 9, none⟩ 1 1 lb cb hne 42 42 9 cur.length (by simp [World.shape?, hy]; rfl) (by simp [World.shape?, hg]) (by omega) (by simp [World.frozen?, hy]) (by simp [World.frozen?, hy])]
    rfl
  have HX := hide hX; clear hX
  have HT := hide hT; clear hT
  have HF := hide hfit; clear hfit
  have H7 := hide h7; clear h7
  have HS : Hid (∀ j u, ((l.drop i).flatMap Page.cells)[j]? = some u → w.drew.cell? ⟨g, i * 9 + j, none⟩ = some u) := hide (fun j u hj => by
    show w.cell? _ = _
    rw [cell_of_row _ _ _ _ _ _ hg]
    have h1 := flat_drop Page.cells 9 Page.len l i
    rw [h1, ← htk, List.getElem?_drop, List.getElem?_take] at hj
    split at hj
    · simpa using hj
    · cases hj)
  have HN : Hid (((l.drop i).flatMap Page.cells).length = Nat.min (l.length + 1 - i) (l.length - i) * 9) := hide (by
    rw [Page.lenl, List.length_drop, show Nat.min (l.length + 1 - i) (l.length - i) = l.length - i from by show min _ _ = _; omega])
  have HZ : Hid ((Tryd.prog.info? 42).map (·.size) = some 9) := hide (by rw [hi0]; simp [hz1])
  have HG : Hid (w.drew.heap[g]? = some (.cells cur.toArray 42 (0, 0))) := hide (by exact hg)
  have HY := hide hy
  have e1 : (1 : Int) ≠ 0 := by omega
  have e2 : ((i : Int) == (l.length : Int)) = false := by simp; omega
  have e3 : (0 : Int) ≤ (i : Int) + 1 := by omega
  have e4 : (i : Int) + 1 ≤ (l.length : Int) + 1 := by omega
  have e5 : i ≤ l.length + 1 := by omega
  have e6 : ¬ cap = i + 1 := by omega
  have e7 : ¬ cap = i := by omega
  have e8 : i ≤ cap := by omega
  have e11 : (i : Int) ≤ (l.length : Int) + 1 := by omega
  have e12 : ((i : Int) ≤ ((l.length + 1 : Nat) : Int)) := by omega
  have e13 : i ≤ l.length := by omega
  clear hg hcs htk hy
  go_enter Tryd.func26, Tryd.ntmps26
  go_wp2
  have e9 : IntKind.i64.wrap ((i : Int) + 1) = (i : Int) + 1 := by rw [IntKind.wrap_i64]; omega
  have e10 : ((i : Int) + 1).toNat = i + 1 := by clear e9; omega
  go_still_tail 8, (by kernel_rfl)
  change wpList _ _ _ _ _ w.drew
  clear e9 e10
  refine wpList_copy_run rfl (x := .tmp 73) (y := .tmp 76) rfl rfl rfl (run_copy_n _ _ _ 42 9 Tryd.underlying22 HZ.out _ _ _ _ _ _ g ((i + 1) * 9) 42 cur ((l.drop i).flatMap Page.cells) HG.out HN.out (fun _ => rfl) (fun j v hj => ⟨_, _, rfl, HS.out j v hj⟩) HF.out (Page.onel _)) ?_
  have R2 := row_set (cs := spl cur ((i + 1) * 9) (List.flatMap Page.cells (List.drop i l))) HG.out
  have G2 : w.grownBy (w.drew.setRow g (spl cur ((i + 1) * 9) (List.flatMap Page.cells (List.drop i l))).toArray) (some g) := World.grownBy.trans (gb_drew w _) (row_grown _ _ _)
  generalize (w.drew.setRow g (spl cur ((i + 1) * 9) (List.flatMap Page.cells (List.drop i l))).toArray) = w2 at R2 G2 ⊢
  have H7' : Hid (i * 9 + y.cells.length ≤ (spl cur ((i + 1) * 9) (List.flatMap Page.cells (List.drop i l))).length) := hide (by rw [HX.out]; exact H7.out)
  generalize spl cur ((i + 1) * 9) (List.flatMap Page.cells (List.drop i l)) = X at R2 HX HT H7'
  have R2 := hide R2
  have HY2 : Hid (∀ j u, y.cells[j]? = some u → ∃ b off, some (⟨gb, 0, none⟩ : Addr) = some ⟨b, off, none⟩ ∧ w2.cell? ⟨b, off + j, none⟩ = some u) := hide (fun j u hj => ⟨gb, 0, rfl, by
    have h2 : w2.heap[gb]? = some (.cells y.cells.toArray 42 (0, 0)) := (G2.block gb (Array.getElem?_eq_some_iff.1 HY.out).1 (fun e => hne (by injection e))).trans HY.out
    rw [cell_of_row _ _ _ _ _ _ h2]
    simpa using hj⟩)
  have HM : Hid (y.cells.length = Nat.min 1 (l.length + 1 - i) * 9) := hide (by rw [Page.len, show Nat.min 1 (l.length + 1 - i) = 1 from by show min _ _ = _; omega])
  go_wp2_with (with_reducible refine wpList_copy_run rfl (x := .tmp 80) (y := .tmp 81) rfl rfl rfl (run_copy_n _ _ _ 42 9 Tryd.underlying22 HZ.out _ _ _ _ _ _ g (i * 9) 42 X y.cells R2.out HM.out (fun _ => rfl) HY2.out H7'.out (Page.one y)) ?_)
  go_ret
  refine ⟨_, rfl, own_of_row (row_set R2.out) hbg hnc HC.out ?_ HT.out (by rw [Page.lenl]; simp; omega), World.grownBy.trans G2 (row_grown _ _ _), rfl⟩
  rw [spl_len _ _ _ H7'.out, HX.out]

end Go.Proofs.YtkodkbjmeepbiaaDoor
