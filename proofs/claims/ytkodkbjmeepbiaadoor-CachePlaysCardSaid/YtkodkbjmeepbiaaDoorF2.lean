/- Walks: slices.DeleteFunc at pages, for whatever test that only makes memory. Conditions: as each theorem names them. -/
import Derived.Test.YtkodkbjmeepbiaaDoorF1
set_option linter.unusedVariables false
set_option linter.unusedSimpArgs false
namespace Go.Proofs.YtkodkbjmeepbiaaDoor
open Go.RowKit

/-- A page stored at a place of a row. -/
def put9o (w : World) (g o : Nat) (p : Page) : World :=
  ((((((((w.setCell ⟨g, o, none⟩ (.int .i64 p.line)).setCell ⟨g, o + 1, none⟩ (.int .u64 p.head)).setCell ⟨g, o + 2, none⟩ (.int .u64 p.d0)).setCell ⟨g, o + 3, none⟩ (.int .u64 p.d1)).setCell ⟨g, o + 4, none⟩ (.int .u64 p.d2)).setCell ⟨g, o + 5, none⟩ (.int .u64 p.d3)).setCell ⟨g, o + 6, none⟩ (.int .u64 p.d4)).setCell ⟨g, o + 7, none⟩ (.int .u64 p.d5)).setCell ⟨g, o + 8, none⟩ (.int .u64 p.d6)
theorem spl_set (l : List Value) (o : Nat) (v : Value) (vs : List Value) (h : o < l.length) : spl (l.set o v) (o + 1) vs = spl l o (v :: vs) := by
  unfold spl
  have h1 : (l.set o v).take (o + 1) = l.take o ++ [v] := by
    rw [List.take_succ_eq_append_getElem (by simpa using h), List.take_set_of_le (Nat.le_refl _)]
    simp
  have h2 : (l.set o v).drop (o + 1 + vs.length) = l.drop (o + (v :: vs).length) := by
    rw [List.drop_set_of_lt (by omega)]
    congr 1
    simp; omega
  rw [h1, h2]
  simp
theorem row_set1 {w : World} {g o : Nat} {cur : List Value} {t : TypeId} (h : w.heap[g]? = some (.cells cur.toArray t (0, 0))) (v : Value) : (w.setCell ⟨g, o, none⟩ v).heap[g]? = some (.cells (cur.set o v).toArray t (0, 0)) := by
  have := blk_set h (i := o) v
  rw [this]
  simp
theorem put9o_row {w : World} {g o : Nat} {cur : List Value} {t : TypeId} (h : w.heap[g]? = some (.cells cur.toArray t (0, 0))) (p : Page) (hl : o + 9 ≤ cur.length) : (put9o w g o p).heap[g]? = some (.cells (spl cur o p.cells).toArray t (0, 0)) := by
  have e : spl cur o p.cells = ((((((((cur.set o (.int .i64 p.line)).set (o + 1) (.int .u64 p.head)).set (o + 2) (.int .u64 p.d0)).set (o + 3) (.int .u64 p.d1)).set (o + 4) (.int .u64 p.d2)).set (o + 5) (.int .u64 p.d3)).set (o + 6) (.int .u64 p.d4)).set (o + 7) (.int .u64 p.d5)).set (o + 8) (.int .u64 p.d6) := by
    unfold Page.cells
    rw [← spl_set _ _ _ _ (by omega), ← spl_set _ _ _ _ (by simp; omega), ← spl_set _ _ _ _ (by simp; omega), ← spl_set _ _ _ _ (by simp; omega), ← spl_set _ _ _ _ (by simp; omega), ← spl_set _ _ _ _ (by simp; omega), ← spl_set _ _ _ _ (by simp; omega), ← spl_set _ _ _ _ (by simp; omega), ← spl_set _ _ _ _ (by simp; omega), spl_nil]
  rw [e]
  exact row_set1 (row_set1 (row_set1 (row_set1 (row_set1 (row_set1 (row_set1 (row_set1 (row_set1 h _) _) _) _) _) _) _) _) _
theorem put9o_grown (w : World) (g o : Nat) (p : Page) : w.grownBy (put9o w g o p) (some g) := by
  have hs : ∀ (w w' : World) (i : Nat) (v : Value), w.grownBy w' (some g) → w.grownBy (w'.setCell ⟨g, i, none⟩ v) (some g) := fun w w' i v h =>
    ⟨h.os, h.tape, h.output, by simpa [World.setCell] using h.size, fun k hk hne => (Below.heap_setCell w' ⟨g, i, none⟩ v k (fun e => hne (by rw [e]))).trans (h.block k hk hne)⟩
  unfold put9o
  exact hs _ _ _ _ (hs _ _ _ _ (hs _ _ _ _ (hs _ _ _ _ (hs _ _ _ _ (hs _ _ _ _ (hs _ _ _ _ (hs _ _ _ _ (hs _ _ _ _ ⟨rfl, rfl, rfl, Nat.le_refl _, fun _ _ _ => rfl⟩))))))))

/-- From page j on the row holds l's pages. -/
def Rest (cur : List Value) (l : List Page) (j : Nat) : Prop := ∀ k (hk : k < l.length), j ≤ k → ∀ m, m < 9 → cur[k * 9 + m]? = (l[k].cells)[m]?
theorem rest_start {cur : List Value} {l : List Page} (h : cur.take (l.length * 9) = l.flatMap Page.cells) : Rest cur l 0 := fun k hk _ m hm => by
  have h1 := flat_get Page.cells 9 Page.len l k m hk hm
  rw [← h1, ← h, List.getElem?_take, if_pos (by omega)]
theorem rest_store {cur : List Value} {l : List Page} {i j : Nat} (h : Rest cur l j) (hij : i ≤ j) (p : Page) (hc : i * 9 + 9 ≤ cur.length) : Rest (spl cur (i * 9) p.cells) l (j + 1) := fun k hk hj m hm => by
  rw [← h k hk (by omega) m hm]
  unfold spl
  have hp : p.cells.length = 9 := Page.len p
  rw [List.getElem?_append_right (by simp [hp]; omega)]
  simp only [List.length_append, List.length_take, hp, List.getElem?_drop]
  congr 1
  omega
theorem rest_next {cur : List Value} {l : List Page} {j : Nat} (h : Rest cur l j) : Rest cur l (j + 1) := fun k hk hj m hm => h k hk (by omega) m hm
theorem take_store {cur : List Value} {i : Nat} (p : Page) (hc : i * 9 + 9 ≤ cur.length) : (spl cur (i * 9) p.cells).take ((i + 1) * 9) = cur.take (i * 9) ++ p.cells := by
  have hp : p.cells.length = 9 := Page.len p
  rw [spl_take _ _ _ _ (by omega) (by omega), List.drop_eq_nil_of_le (by simp [hp]; omega), List.append_nil]

/-- What is left of the first k pages. -/
def left (q : Page → Bool) (l : List Page) (k : Nat) : List Page := (l.take k).filter (fun p => !q p)
theorem left_succ {q : Page → Bool} {l : List Page} {k : Nat} (hk : k < l.length) : left q l (k + 1) = if q l[k] then left q l k else left q l k ++ [l[k]] := by
  unfold left
  rw [List.take_succ_eq_append_getElem hk, List.filter_append]
  cases h : q l[k] <;> simp [h]
theorem left_le (q : Page → Bool) (l : List Page) (k : Nat) : (left q l k).length ≤ k := Nat.le_trans (List.length_filter_le _ _) (by simp; omega)
theorem left_first {q : Page → Bool} {l : List Page} (h : l.findIdx q < l.length) : left q l (l.findIdx q + 1) = l.take (l.findIdx q) := by
  have h1 : q l[l.findIdx q] = true := List.findIdx_getElem (w := h)
  rw [left_succ h, if_pos h1]
  unfold left
  rw [List.filter_eq_self]
  intro p hp
  obtain ⟨k, hk, rfl⟩ := List.getElem_of_mem hp
  rw [List.length_take] at hk
  rw [List.getElem_take]
  have := List.not_of_lt_findIdx (p := q) (xs := l) (i := k) (by omega)
  simpa using this
theorem left_none {q : Page → Bool} {l : List Page} (h : ¬ l.findIdx q < l.length) : l.filter (fun p => !q p) = l := by
  rw [List.filter_eq_self]
  intro p hp
  cases hq : q p with
  | false => rfl
  | true => exact absurd (List.findIdx_lt_length.2 ⟨p, hp, hq⟩) h
theorem left_all {q : Page → Bool} {l : List Page} : left q l l.length = l.filter (fun p => !q p) := by unfold left; rw [List.take_length]

set_option maxRecDepth 100000 in
set_option maxHeartbeats 8000000 in
theorem deleteBy_any (F : FuncId) (hF : ∀ (args : Array Value) (W : World), (callFunc F args).run Tryd.prog W = .ok (.enter F args) W) (cap0 : List Value) (q : Page → Bool) (v : Value) (l : List Page) (base : Nat) (w : World) (hown : w.ownsRow base 42 9 v l.length (l.flatMap Page.cells)) (hn : l.length ≤ 1000000) (hq : Tests F cap0 q l w v.ownBlock) :
    Calls Tryd.prog 29 #[v, .func (.func F) #[] cap0.toArray] w fun e w' => ∃ v', e = .returned v' ∧ w'.ownsRow base 42 9 v' (l.filter (fun p => !q p)).length ((l.filter (fun p => !q p)).flatMap Page.cells) ∧ w.grownBy w' v.ownBlock := by
  have hS := Sl.of_own hown
  by_cases hi : l.findIdx q < l.length
  · have hn0 : 0 < l.length := by omega
    rcases hown.2 with ⟨_, h0⟩ | ⟨g, cap, cur0, rfl, hbg, hg, hnc, hcm, hcs, htk⟩
    · omega
    obtain ⟨i0, hi0, hz0, hz1, hz2⟩ := info_parts page_info
    have HCM := hide hcm
    have hcb : cap ≤ 9223372036854775807 := by unfold maxLen at hcm; omega
    have HZ := hide hz1
    clear hcm hz1
    have hcl : cur0.toList.length = cap * 9 := by simpa using hcs
    have HF0 := hide (left_first hi)
    have HR0 := hide (rest_next (rest_start htk))
    have HG0 : Hid (w.heap[g]? = some (.cells cur0.toList.toArray 42 (0, 0))) := hide (by simpa using hg)
    have HFI : Hid (find q l = (l.findIdx q : Int)) := hide (if_pos hi)
    have hR := rest_start htk
    have hT : cur0.toList.take (l.findIdx q * 9) = (l.take (l.findIdx q)).flatMap Page.cells := by
      rw [flat_take _ _ Page.len, ← htk, List.take_take, Nat.min_eq_left (by omega)]
    have HT0 := hide hT
    have HR := hide hR
    clear hT hR htk hcs hown HR0
    generalize l.findIdx q = i1 at hi HF0 HFI HT0
    generalize cur0.toList = cur1 at HG0 hcl HT0 HR
    clear hg
    go_enter Tryd.func29, Tryd.ntmps29
    go_wp2_with fail
    refine (indexBy_any F hF cap0 q _ l w (some g) hS hn hq).mono ?_
    rw [HFI.out]
    rintro e w1 ⟨rfl, hb1⟩
    have e1 : ((i1 : Int) == -1) = false := by simp
    have e2 : IntKind.i64.wrap ((i1 : Int) + 1) = (i1 : Int) + 1 := by rw [IntKind.wrap_i64]; omega
    go_wp2
    go_loopw [5, 6] (fun a b wr => ∃ (j : Nat) (cur : List Value), j ≤ l.length ∧ i1 + 1 ≤ j ∧ a = .int .i64 ((left q l j).length : Nat) ∧ b = .int .i64 j ∧ (left q l j).length < j ∧ cur.length = cap * 9 ∧ Hid (wr.heap[g]? = some (.cells cur.toArray 42 (0, 0))) ∧ Hid (cur.take ((left q l j).length * 9) = (left q l j).flatMap Page.cells) ∧ Hid (Rest cur l j) ∧ w.grownBy wr (some g)) (fun _ b _ => l.length - (intOf b).toNat)
    case atStart =>
      refine ⟨i1 + 1, cur1, by omega, by omega, ?_, by go_num, ?_, hcl, ?_, ?_, rest_next (fun k hk _ => HR.out k hk (by omega)), gb_of_below hb1 _⟩
      · rw [HF0.out, List.length_take, Nat.min_eq_left (by omega)]
      · rw [HF0.out, List.length_take]; omega
      · exact (hb1.block g (Array.getElem?_eq_some_iff.1 HG0.out).1).trans HG0.out
      · show _ = _
        rw [HF0.out, List.length_take, Nat.min_eq_left (by omega)]
        exact HT0.out
    case round =>
      obtain ⟨j, cur, hj, hij, rfl, rfl, hlj, hcl', hG, hT, hR, hgr⟩ := hrel
      clear HG0 hcl HT0 HR HF0
      have HL := hide (left_le q l j)
      by_cases hlt : j < l.length
      · have HS := hide (left_succ (q := q) hlt)
        have g0 : wr.cell? ⟨g, j * 9, none⟩ = some (.int .i64 l[j].line) := by rw [cell_of_row _ _ _ _ _ _ hG.out]; simpa [Page.cells] using hR.out j hlt (Nat.le_refl _) 0 (by omega)
        have g1 : wr.cell? ⟨g, j * 9 + 1, none⟩ = some (.int .u64 l[j].head) := by rw [cell_of_row _ _ _ _ _ _ hG.out]; simpa [Page.cells] using hR.out j hlt (Nat.le_refl _) 1 (by omega)
        have g2 : wr.cell? ⟨g, j * 9 + 2, none⟩ = some (.int .u64 l[j].d0) := by rw [cell_of_row _ _ _ _ _ _ hG.out]; simpa [Page.cells] using hR.out j hlt (Nat.le_refl _) 2 (by omega)
        have g3 : wr.cell? ⟨g, j * 9 + 3, none⟩ = some (.int .u64 l[j].d1) := by rw [cell_of_row _ _ _ _ _ _ hG.out]; simpa [Page.cells] using hR.out j hlt (Nat.le_refl _) 3 (by omega)
        have g4 : wr.cell? ⟨g, j * 9 + 4, none⟩ = some (.int .u64 l[j].d2) := by rw [cell_of_row _ _ _ _ _ _ hG.out]; simpa [Page.cells] using hR.out j hlt (Nat.le_refl _) 4 (by omega)
        have g5 : wr.cell? ⟨g, j * 9 + 5, none⟩ = some (.int .u64 l[j].d3) := by rw [cell_of_row _ _ _ _ _ _ hG.out]; simpa [Page.cells] using hR.out j hlt (Nat.le_refl _) 5 (by omega)
        have g6 : wr.cell? ⟨g, j * 9 + 6, none⟩ = some (.int .u64 l[j].d4) := by rw [cell_of_row _ _ _ _ _ _ hG.out]; simpa [Page.cells] using hR.out j hlt (Nat.le_refl _) 6 (by omega)
        have g7 : wr.cell? ⟨g, j * 9 + 7, none⟩ = some (.int .u64 l[j].d5) := by rw [cell_of_row _ _ _ _ _ _ hG.out]; simpa [Page.cells] using hR.out j hlt (Nat.le_refl _) 7 (by omega)
        have g8 : wr.cell? ⟨g, j * 9 + 8, none⟩ = some (.int .u64 l[j].d6) := by rw [cell_of_row _ _ _ _ _ _ hG.out]; simpa [Page.cells] using hR.out j hlt (Nat.le_refl _) 8 (by omega)
        have hc := hq (wr.alloc (.cells #[.int .i64 l[j].line, .int .u64 l[j].head, .int .u64 l[j].d0, .int .u64 l[j].d1, .int .u64 l[j].d2, .int .u64 l[j].d3, .int .u64 l[j].d4, .int .u64 l[j].d5, .int .u64 l[j].d6] 42 (0, 0))) (gb_below hgr (bl_al (Below.refl _ _) _)) l[j] (List.getElem_mem hlt)
        have hj0 : (0 : Int) ≤ (j : Int) := by omega
        have hj1 : (j : Int) < (l.length : Int) := by omega
        have hgl := (Array.getElem?_eq_some_iff.1 hG.out).1
        generalize hp : l[j] = p at g0 g1 g2 g3 g4 g5 g6 g7 g8 HS hc
        have Hp := hide hp
        clear hp
        generalize hL1 : left q l j = L1 at hlj hT HL HS
        have HL1 := hide hL1
        clear hL1
        cases hx : q p with
        | true =>
          have Hx := hide hx
          rw [hx] at hc
          clear hx
          go_wp2_with fail
          refine hc.mono ?_
          rintro e w2 ⟨rfl, hb2⟩
          have hG2 : w2.heap[g]? = _ := (hb2.block g (by simp; omega)).trans ((heap_alloc_old wr _ hgl).trans hG.out)
          have HG2 := hide hG2
          clear hG2
          go_wp2
          go_roundw
          case rel =>
            have e9 : left q l (j + 1) = L1 := by rw [HS.out, if_pos Hx.out]
            refine ⟨j + 1, cur, by omega, by omega, ?_, by go_num, ?_, hcl', HG2.out, ?_, rest_next hR.out, gb_below (gb_below hgr (bl_al (Below.refl _ _) _)) hb2⟩
            · rw [e9]
            · rw [e9]; omega
            · show _ = _; rw [e9]; exact hT.out
          case measure => simp [intOf]; omega
        | false =>
          have Hx := hide hx
          rw [hx] at hc
          clear hx
          go_wp2_with fail
          refine hc.mono ?_
          rintro e w2 ⟨rfl, hb2⟩
          have hG2 : w2.heap[g]? = some (.cells cur.toArray 42 (0, 0)) := (hb2.block g (by simp; omega)).trans ((heap_alloc_old wr _ hgl).trans hG.out)
          obtain ⟨kp, fp, zp⟩ := blk hb2 (new0 _ _)
          have hsp : ∀ m, m < 9 → ∃ u, w2.cell? ⟨g, L1.length * 9 + m, none⟩ = some u := fun m hm => by
            rw [cell_of_row _ _ _ _ _ _ hG2]
            have : L1.length * 9 + m < cur.length := by rw [hcl']; omega
            exact ⟨cur[L1.length * 9 + m], by simp [this]⟩
          obtain ⟨u0, s0⟩ := hsp 0 (by omega)
          obtain ⟨u1, s1⟩ := hsp 1 (by omega)
          obtain ⟨u2, s2⟩ := hsp 2 (by omega)
          obtain ⟨u3, s3⟩ := hsp 3 (by omega)
          obtain ⟨u4, s4⟩ := hsp 4 (by omega)
          obtain ⟨u5, s5⟩ := hsp 5 (by omega)
          obtain ⟨u6, s6⟩ := hsp 6 (by omega)
          obtain ⟨u7, s7⟩ := hsp 7 (by omega)
          obtain ⟨u8, s8⟩ := hsp 8 (by omega)
          rw [Nat.add_zero] at s0
          have f9 : ∀ i, w2.frozen? ⟨g, i, none⟩ = false := fun i => (blkw hG2).2.1 i
          have HG2 := hide hG2
          have hfit : L1.length * 9 + 9 ≤ cur.length := by rw [hcl']; omega
          have HFIT := hide hfit
          have hi0 : (0 : Int) ≤ (L1.length : Int) := by omega
          have hi1 : (L1.length : Int) < (l.length : Int) := by omega
          clear hG2 hsp hfit g0 g1 g2 g3 g4 g5 g6 g7 g8
          go_wp2
          go_roundw
          case rel =>
            have e9 : left q l (j + 1) = L1 ++ [p] := by rw [HS.out, if_neg (by rw [Hx.out]; simp)]
            have e8 : (left q l (j + 1)).length = L1.length + 1 := by rw [e9]; simp
            refine ⟨j + 1, spl cur (L1.length * 9) p.cells, by omega, by omega, ?_, by go_num, by omega, ?_, put9o_row HG2.out p HFIT.out, ?_, rest_store hR.out (by omega) p HFIT.out, World.grownBy.trans (gb_below (gb_below hgr (bl_al (Below.refl _ _) _)) hb2) (put9o_grown _ _ _ _)⟩
            · rw [e8]; go_num
            · rw [spl_len _ _ _ (by rw [Page.len]; exact HFIT.out)]; exact hcl'
            · show _ = _; rw [e8, e9, take_store p HFIT.out, hT.out, List.flatMap_append]; simp
          case measure => simp [intOf]; omega
      · obtain rfl : j = l.length := by omega
        have HLA := hide (left_all (q := q) (l := l))
        have HLL : Hid ((left q l l.length).length = (l.filter (fun p => !q p)).length) := hide (by rw [HLA.out])
        generalize hL1 : left q l l.length = L1 at hlj hT HL HLA HLL
        have HL1 := hide hL1
        clear hL1
        have hi0' : (0 : Int) ≤ (L1.length : Int) := by omega
        have hi1 : (L1.length : Int) ≤ (l.length : Int) := by omega
        have hi2 : (L1.length : Int) ≤ (cap : Int) := by omega
        have hi3 : (l.length : Int) ≤ (cap : Int) := by omega
        have HSZ : Hid (L1.length * 9 + (l.length - L1.length) * 9 ≤ cur.length) := hide (by rw [hcl']; omega)
        go_wp2_with (with_reducible refine wpList_clear_run rfl (x := .tmp 38) (t := 22) rfl rfl (run_clear_row _ _ 42 i0 _ Tryd.underlying22 hi0 hz0 (by decide) (by decide) g (L1.length * 9) _ _ _ 42 cur hG.out (fun h => by first | rfl | exact if_neg (by omega)) HSZ.out) ?_)
        all_goals first | subst ‹cap = L1.length› | skip
        all_goals go_ret
        all_goals refine ⟨_, rfl, ?_, World.grownBy.trans hgr (row_grown _ _ _)⟩
        all_goals rw [← HLA.out]
        all_goals refine own_of_row (row_set hG.out) hbg (by omega) HCM.out ?_ ?_ (Page.lenl _)
        all_goals first | (rw [spl_len _ _ _ (by rw [hcl']; simp [size_zeroCells]; omega), hcl']; done) | (rw [spl_low _ _ _ _ (Nat.le_refl _) (by rw [hcl']; omega)]; exact hT.out)
  · have HFI : Hid (find q l = -1) := hide (if_neg hi)
    have HE := hide (left_none hi)
    go_enter Tryd.func29, Tryd.ntmps29
    go_wp2_with fail
    refine (indexBy_any F hF cap0 q v l w _ hS hn hq).mono ?_
    rw [HFI.out]
    rintro e w1 ⟨rfl, hb1⟩
    go_wp2
    go_ret
    rw [HE.out]
    exact ⟨_, rfl, own_below hown hb1, gb_of_below hb1 _⟩
end Go.Proofs.YtkodkbjmeepbiaaDoor
