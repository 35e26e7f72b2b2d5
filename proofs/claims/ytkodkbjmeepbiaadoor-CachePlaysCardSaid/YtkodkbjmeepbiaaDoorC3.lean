/- Walks: slices.Delete of one page, slices.Insert of one page. Conditions: as each theorem names them. -/
import Derived.Test.YtkodkbjmeepbiaaDoorC2
import Derived.StillTailTactics
set_option linter.unusedVariables false
set_option linter.unusedSimpArgs false
namespace Go.Proofs.YtkodkbjmeepbiaaDoor
open Go.RowKit

set_option maxRecDepth 100000 in
set_option maxHeartbeats 1000000 in
theorem delete_any (v : Value) (l : List Page) (i : Nat) (I J : Int) (hI : I = i) (hJ : J = i + 1) (base : Nat) (w : World) (hown : w.ownsRow base 42 9 v l.length (l.flatMap Page.cells)) (hi : i < l.length) (hn : l.length ≤ 1000000) :
    Calls Tryd.prog 27 #[v, .int .i64 I, .int .i64 J] w fun e w' =>
      ∃ v', e = .returned v' ∧ w'.ownsRow base 42 9 v' (l.length - 1) ((l.eraseIdx i).flatMap Page.cells) ∧ w.grownBy w' v.ownBlock ∧ v'.ownBlock = v.ownBlock := by
  subst hI hJ
  rcases hown.2 with ⟨_, h0⟩ | ⟨g, cap, cur, rfl, hbg, hg, hnc, hcm, hcs, htk⟩
  · omega
  obtain ⟨i0, hi0, hz0, hz1, hz2⟩ := info_parts page_info
  have hsrc : ∀ sp : Option Addr, (cap ≠ i + 1 → sp = some ⟨g, (i + 1) * 9, none⟩) → ∀ j u, ((l.drop (i + 1)).flatMap Page.cells)[j]? = some u → ∃ b off, sp = some ⟨b, off, none⟩ ∧ w.drew.cell? ⟨b, off + j, none⟩ = some u := fun sp hsp j u hj => by
    by_cases hcap : cap = i + 1
    · rw [List.drop_of_length_le (by omega)] at hj
      simp at hj
    · refine ⟨_, _, hsp hcap, ?_⟩
      show w.cell? _ = _
      rw [cell_of_row _ _ _ _ _ _ hg]
      have h1 := flat_drop Page.cells 9 Page.len l (i + 1)
      rw [h1, ← htk, List.getElem?_drop, List.getElem?_take] at hj
      split at hj
      · simpa using hj
      · cases hj
  obtain ⟨hfit, hX, hT⟩ := del_row (sz := 9) Page.len hi hnc (by simpa using hcs) htk
  have HX := hide hX; clear hX
  have HT := hide hT; clear hT
  have HS := hide hsrc; clear hsrc
  have HF : Hid (i * i0.size + ((l.drop (i + 1)).flatMap Page.cells).length ≤ cur.toList.length) := hide (by rw [hz1]; exact hfit)
  have HN : Hid (((l.drop (i + 1)).flatMap Page.cells).length = (l.length - (i + 1)) * i0.size) := hide (by rw [Page.lenl, List.length_drop, hz1])
  have HZ := hide hz1
  have HC := hide hcm
  have hcb : cap ≤ 9223372036854775807 := by unfold maxLen at hcm; omega
  clear hcm hz1
  have HG : Hid (w.drew.heap[g]? = some (.cells cur.toList.toArray 42 (0, 0))) := hide (by exact hg)
  have HT2 := hide htk
  have HL := hide hown.1
  clear hcs htk hown
  have hB : (i == i + 1) = false := by simp
  have e1 : i ≤ cap := by omega
  have e2 : i + 1 ≤ l.length := hi
  have e3 : (0 : Int) ≤ (i : Int) + 1 := by omega
  have e4 : (i : Int) + 1 ≤ (l.length : Int) := by omega
  have e6 : ((l.length - 1 : Nat) : Int) = (l.length : Int) - 1 := by omega
  have e5 : Hid (i + (l.length - (i + 1)) = l.length - 1) := hide (by omega)
  go_enter Tryd.func27, Tryd.ntmps27
  go_wp2
  go_still_tail 6, (by kernel_rfl)
  change wpList _ _ _ _ _ w.drew
  refine wpList_append_run rfl (x := .tmp 22) (y := .tmp 25) rfl rfl rfl (run_append_room_n _ _ 42 i0 Tryd.underlying22 hi0 g i cap (l.length - (i + 1)) _ _ 42 cur.toList ((l.drop (i + 1)).flatMap Page.cells) HG.out HN.out (HS.out _ (fun h => by first | rfl | exact if_neg h)) (by omega) HF.out (Page.onel _)) ?_
  rw [e5.out, HZ.out]
  have R2 := row_set (cs := spl cur.toList (i * 9) (List.flatMap Page.cells (List.drop (i + 1) l))) HG.out
  have G2 : w.grownBy (w.drew.setRow g (spl cur.toList (i * 9) (List.flatMap Page.cells (List.drop (i + 1) l))).toArray) (some g) := World.grownBy.trans (gb_drew w _) (row_grown _ _ _)
  generalize (w.drew.setRow g (spl cur.toList (i * 9) (List.flatMap Page.cells (List.drop (i + 1) l))).toArray) = w2 at R2 G2 ⊢
  generalize spl cur.toList (i * 9) (List.flatMap Page.cells (List.drop (i + 1) l)) = X at R2 HX HT
  have R2 := hide R2
  have HSZ : Hid ((l.length - 1) * 9 + (l.length - (l.length - 1)) * 9 ≤ X.length) := hide (by rw [HX.out]; omega)
  go_wp2_with (with_reducible refine wpList_clear_run rfl (x := .tmp 31) (t := 22) rfl rfl (run_clear_row _ _ 42 i0 _ Tryd.underlying22 hi0 hz0 (by decide) (by decide) g ((l.length - 1) * 9) _ _ _ 42 X R2.out (fun _ => rfl) HSZ.out) ?_)
  all_goals first | subst ‹cap = i + 1› | skip
  all_goals go_ret
  all_goals refine ⟨_, rfl, own_of_row (row_set R2.out) hbg (by omega) HC.out ?_ ?_ (by rw [Page.lenl, List.length_eraseIdx_of_lt hi]), World.grownBy.trans G2 (row_grown _ _ _), rfl⟩
  all_goals first | (rw [spl_len _ _ _ (by rw [HX.out]; simp [size_zeroCells]; omega), HX.out]; done) | (rw [spl_low _ _ _ _ (Nat.le_refl _) (by rw [HX.out]; omega)]; exact HT.out)

end Go.Proofs.YtkodkbjmeepbiaaDoor
