/- Walks: Drop of the program and of the reference. Conditions: as each theorem names them. -/
import Derived.Test.YtkodkbjmeepbiaaDoorF2
import Derived.Test.YtkodkbjmeepbiaaDoorC3
import Derived.Test.YtkodkbjmeepbiaaDoorC6
set_option linter.unusedVariables false
set_option linter.unusedSimpArgs false
namespace Go.Proofs.YtkodkbjmeepbiaaDoor
open Go.RowKit

def idxI (xs : List Int) (x : Int) : Int := if xs.findIdx (fun y => x == y) < xs.length then (xs.findIdx (fun y => x == y) : Int) else -1
theorem idxI_has (xs : List Int) (x : Int) : decide (0 ≤ idxI xs x) = hasI xs x := by
  rw [Bool.eq_iff_iff, decide_eq_true_iff]
  unfold idxI hasI
  rw [List.contains_iff_mem]
  by_cases h : xs.findIdx (fun y => x == y) < xs.length
  · rw [if_pos h]
    refine ⟨fun _ => ?_, fun _ => by omega⟩
    have := List.findIdx_getElem (w := h)
    rw [beq_iff_eq.1 this]
    exact List.getElem_mem h
  · rw [if_neg h]
    refine ⟨fun h => by omega, fun hm => ?_⟩
    exact absurd (List.findIdx_lt_length.2 ⟨x, hm, by simp⟩) h
theorem sindex_any (v : Value) (xs : List Int) (x : Int) (w : World) (h : Sl w w.heap.size 1 v xs.length (ints xs)) (hn : xs.length ≤ 1000000) :
    Calls Tryd.prog 45 #[v, .int .i64 x] w fun e w' => e = .returned (.int .i64 (idxI xs x)) ∧ w = w' := by
  obtain ⟨A, c, rfl, hcc, hm, hl, hat⟩ := h
  go_enter Tryd.func45, Tryd.ntmps45
  go_wp2
  go_loop [8] (fun i => ∃ k : Nat, k ≤ xs.length ∧ i = .int .i64 k ∧ Hid (∀ j (hj : j < xs.length), j < k → (x == xs[j]) = false)) (fun i => xs.length - (intOf i).toNat)
  case atStart => exact ⟨0, by omega, rfl, fun j _ h => by omega⟩
  case round =>
    obtain ⟨k, hk, rfl, hno⟩ := hrel
    by_cases hlt : k < xs.length
    · obtain ⟨b, off, rfl, hbB, h0⟩ := ints_at hat hlt
      cases hx : (x == xs[k]) with
      | true =>
        have Hx := hide hx
        go_wp2
        go_ret
        have hi : xs.findIdx (fun y => x == y) = k := by
          rw [List.findIdx_eq hlt]
          exact ⟨Hx.out, fun j hj => hno.out j (by omega) hj⟩
        exact ⟨ret_int (by rw [idxI, hi, if_pos hlt]), rfl⟩
      | false =>
        have Hx := hide hx
        go_wp2
        go_round
        case rel =>
          refine ⟨k + 1, by omega, by go_num, fun j hj hjk => ?_⟩
          rcases Nat.lt_or_ge j k with h | h
          · exact hno.out j hj h
          · obtain rfl : j = k := by omega
            exact Hx.out
        case measure => simp [intOf]; omega
    · go_wp2
      go_ret
      obtain rfl : k = xs.length := by omega
      have hi : xs.findIdx (fun y => x == y) = xs.length := by
        rw [List.findIdx_eq_length]
        intro y hy
        obtain ⟨j, hj, rfl⟩ := List.getElem_of_mem hy
        exact hno.out j hj hj
      exact ⟨ret_int (by rw [idxI, hi, if_neg (by omega)]), rfl⟩
theorem contains_any (v : Value) (xs : List Int) (x : Int) (w : World) (h : Sl w w.heap.size 1 v xs.length (ints xs)) (hn : xs.length ≤ 1000000) :
    Calls Tryd.prog 31 #[v, .int .i64 x] w fun e w' => e = .returned (.bool (hasI xs x)) ∧ w = w' := by
  have HI := hide (idxI_has xs x)
  have hform : ∃ A c, v = .slice A xs.length c := by obtain ⟨A, c, rfl, _⟩ := h; exact ⟨A, c, rfl⟩
  obtain ⟨A, c, rfl⟩ := hform
  go_enter Tryd.func31, Tryd.ntmps31
  go_wp2_with fail
  refine (sindex_any _ xs x w h hn).mono ?_
  rintro e w1 ⟨rfl, rfl⟩
  generalize idxI xs x = y at HI ⊢
  go_wp2
  go_ret
  exact ⟨ret_bool HI.out, rfl⟩
/-- The test of Drop. -/
theorem drop1_any (p : Page) (g : Nat) (v : Value) (xs : List Int) (w : World) (hc : w.cell? ⟨g, 0, none⟩ = some v) (h : Sl w w.heap.size 1 v xs.length (ints xs)) (hn : xs.length ≤ 1000000) :
    Calls Tryd.prog 30 #[p.v, .pointer (some ⟨g, 0, none⟩)] w fun e w' => e = .returned (.bool (hasI xs p.line)) ∧ Below w.heap.size w w' := by
  have hc' := cell_al hc
  have hform : ∃ A c, v = .slice A xs.length c := by obtain ⟨A, c, rfl, _⟩ := h; exact ⟨A, c, rfl⟩
  obtain ⟨A, c, rfl⟩ := hform
  go_enter Tryd.func30, Tryd.ntmps30
  go_wp2_with fail
  refine (contains_any _ xs p.line _ (h.on (bl_al (Below.refl _ _) _)) hn).mono ?_
  rintro e w1 ⟨rfl, rfl⟩
  generalize hy : hasI xs p.line = y
  have Hy := hide hy
  clear hy
  go_wp2
  go_ret
  exact ⟨ret_bool Hy.out.symm, bl_al (Below.refl _ _) _⟩
theorem drop1_enter : ∀ (args : Array Value) (W : World), (callFunc 30 args).run Tryd.prog W = .ok (.enter 30 args) W := fun _ _ => rfl

def dropL (l : List Page) (xs : List Int) : List Page := l.filter (fun p => !hasI xs p.line)

set_option maxRecDepth 100000 in
set_option maxHeartbeats 4000000 in
theorem drop_any (v u : Value) (cap : Int) (l : List Page) (xs : List Int) (w : World) (h : Sl w w.heap.size 9 v l.length (l.flatMap Page.cells)) (hn : l.length ≤ 1000000) (hwf : Wf l)
    (hu : Sl w w.heap.size 1 u xs.length (ints xs)) (hun : xs.length ≤ 1000000) (hv : valid cap l = true) :
    Calls Tryd.prog 13 #[.agg #[.int .i64 cap, v], u] w fun e w' => ∃ v', e = .returned (.agg #[.int .i64 cap, v']) ∧ w'.ownsRow w.heap.size 42 9 v' (dropL l xs).length ((dropL l xs).flatMap Page.cells) ∧ Below w.heap.size w w' := by
  have hmf : ∀ (fn : Fn) (first cap : Array Value) (w : World), (Instr.makeFunc fn first cap).run Tryd.prog w = .ok (.func fn first cap) w := fun _ _ _ _ => rfl
  have hform : ∃ A c, v = .slice A l.length c := by obtain ⟨A, c, rfl, _⟩ := h; exact ⟨A, c, rfl⟩
  obtain ⟨A, c, rfl⟩ := hform
  have hform : ∃ A c, u = .slice A xs.length c := by obtain ⟨A, c, rfl, _⟩ := hu; exact ⟨A, c, rfl⟩
  obtain ⟨Au, cu, rfl⟩ := hform
  have HV := hide hv
  clear hv
  go_enter Tryd.func13, Tryd.ntmps13
  go_wp2_with fail
  refine (copied_any _ cap l _ (h.on (bl_al (bl_al (bl_al (Below.refl _ _) _) _) _)) hn).mono ?_
  rintro e w1 ⟨v1, rfl, hown, hb⟩
  obtain ⟨A1, c1, rfl, hc1⟩ := own_form hown
  obtain ⟨k0, f0, z0⟩ := blk hb (new2 _ _ _ _)
  go_wp2_with fail
  have R0 : ((w1.setCell ⟨w.heap.size, 0, none⟩ (.int .i64 cap)).setCell ⟨w.heap.size, 1, none⟩ (.slice A1 l.length c1)).heap[w.heap.size]? = some (.cells #[.int .i64 cap, .slice A1 l.length c1] 24 (0, 0)) := blk_set (blk_set (blkb hb (new2 _ _ _ _) (by simp; omega)) _) _
  have R1 : ((w1.setCell ⟨w.heap.size, 0, none⟩ (.int .i64 cap)).setCell ⟨w.heap.size, 1, none⟩ (.slice A1 l.length c1)).heap[w.heap.size + 1]? = some (.cells #[.slice Au xs.length cu] 32 (0, 0)) := blk_far (blk_far (blkb hb (new2' _ _ _ _) (by simp)) (by simp) _) (by simp) _
  have R2 : ((w1.setCell ⟨w.heap.size, 0, none⟩ (.int .i64 cap)).setCell ⟨w.heap.size, 1, none⟩ (.slice A1 l.length c1)).heap[w.heap.size + 2]? = some (.cells #[.int .i64 0, .slice none 0 0] 24 (0, 0)) := blk_far (blk_far (blkb hb (new2'' _ _ _ _) (by simp)) (by simp) _) (by simp) _
  have O2 : ((w1.setCell ⟨w.heap.size, 0, none⟩ (.int .i64 cap)).setCell ⟨w.heap.size, 1, none⟩ (.slice A1 l.length c1)).ownsRow (w.heap.size + 3) 42 9 (.slice A1 l.length c1) l.length (l.flatMap Page.cells) := by
    have := ownsRow_setCell_below (a := ⟨w.heap.size, 1, none⟩) (ownsRow_setCell_below (a := ⟨w.heap.size, 0, none⟩) hown (by simp; omega) (.int .i64 cap)) (by simp; omega) (.slice A1 l.length c1)
    simpa using this
  have B2 : Below w.heap.size w ((w1.setCell ⟨w.heap.size, 0, none⟩ (.int .i64 cap)).setCell ⟨w.heap.size, 1, none⟩ (.slice A1 l.length c1)) := ((bl_on (bl_al (bl_al (bl_al (Below.refl _ _) _) _) _) hb).setCell (Nat.le_refl _) _).setCell (Nat.le_refl _) _
  generalize ((w1.setCell ⟨w.heap.size, 0, none⟩ (.int .i64 cap)).setCell ⟨w.heap.size, 1, none⟩ (.slice A1 l.length c1)) = W2 at R0 R1 R2 O2 B2 ⊢
  clear hb hown k0 f0 z0
  refine (valid_any _ cap l W2 (Sl.of_own O2) hn hwf.at).mono ?_
  rw [HV.out]
  rintro e w3 ⟨rfl, hb3⟩
  replace R0 := blkb hb3 R0 (blk_lt R0)
  replace R1 := blkb hb3 R1 (blk_lt R1)
  replace R2 := blkb hb3 R2 (blk_lt R2)
  replace O2 := own_below O2 hb3
  replace B2 := bl_on B2 hb3
  clear hb3
  obtain ⟨k0, f0, z0⟩ := blkw R0
  have z2 := blk_lt R2
  have HT : Hid (Tests 30 [.pointer (some ⟨w.heap.size + 1, 0, none⟩)] (fun p => hasI xs p.line) l w3 (Value.ownBlock (.slice A1 l.length c1))) := hide (fun W' hg p hp => by
    have R1' := blkg hg R1 (own_ne_lt O2 (by omega))
    have hB : Below w.heap.size w W' := B2.grown hg B2.size (fun k hk => by have := own_base O2 k hk; omega)
    exact drop1_any p (w.heap.size + 1) (.slice Au xs.length cu) xs W' ((blkw R1').1 0) (hu.on hB) hun)
  clear R1
  go_wp2_with fail
  refine (deleteBy_any 30 drop1_enter [.pointer (some ⟨w.heap.size + 1, 0, none⟩)] (fun p => hasI xs p.line) _ l (w.heap.size + 3) w3 O2 hn HT.out).mono ?_
  rintro e w4 ⟨v4, rfl, O4, G4⟩
  have O4h : Hid (w4.ownsRow (w.heap.size + 3) 42 9 v4 (dropL l xs).length ((dropL l xs).flatMap Page.cells)) := hide O4
  clear O4
  obtain ⟨A4, c4, rfl, hc4⟩ := own_form O4h.out
  replace R0 := blkg G4 R0 (own_ne_lt O2 (by omega))
  replace R2 := blkg G4 R2 (own_ne_lt O2 (by omega))
  have B4 : Below w.heap.size w w4 := B2.grown G4 B2.size (fun k hk => by have := own_base O2 k hk; omega)
  clear k0 f0 z0 O2 B2 HT
  obtain ⟨k0, f0, z0⟩ := blkw R0
  obtain ⟨k2, f2, z2⟩ := blkw R2
  go_wp2
  refine bodyPost_ret (v := .agg #[.int .i64 cap, .slice A4 (dropL l xs).length c4]) (by simp [results, Tryd.results13, go_sem, k0, k2, f0, f2]) rfl ⟨_, rfl, ?_, (by repeat (with_reducible first | assumption | exact Below.refl _ _ | (refine Below.setCell ?_ (by first | omega | (dsimp only; omega) | (simp; omega)) _) | (refine bl_al ?_ _) | (refine bl_dr ?_ _) | (refine bl_on ?_ (by assumption))))⟩
  refine own_mono (base := w.heap.size + 3) ?_ (by omega)
  repeat (with_reducible refine ownsRow_setCell_below ?_ (by simp) _)
  exact O4h.out

set_option maxRecDepth 100000 in
set_option maxHeartbeats 4000000 in
theorem drop_bad (v u : Value) (cap : Int) (l : List Page) (xs : List Int) (w : World) (h : Sl w w.heap.size 9 v l.length (l.flatMap Page.cells)) (hn : l.length ≤ 1000000) (hwf : Wf l)
    (hu : Sl w w.heap.size 1 u xs.length (ints xs)) (hv : valid cap l = false) :
    Calls Tryd.prog 13 #[.agg #[.int .i64 cap, v], u] w fun e w' => ∃ v', e = .returned (.agg #[.int .i64 cap, v']) ∧ w'.ownsRow w.heap.size 42 9 v' l.length (l.flatMap Page.cells) ∧ Below w.heap.size w w' := by
  have hform : ∃ A c, v = .slice A l.length c := by obtain ⟨A, c, rfl, _⟩ := h; exact ⟨A, c, rfl⟩
  obtain ⟨A, c, rfl⟩ := hform
  have hform : ∃ A c, u = .slice A xs.length c := by obtain ⟨A, c, rfl, _⟩ := hu; exact ⟨A, c, rfl⟩
  obtain ⟨Au, cu, rfl⟩ := hform
  have HV := hide hv
  clear hv
  go_enter Tryd.func13, Tryd.ntmps13
  go_wp2_with fail
  refine (copied_any _ cap l _ (h.on (bl_al (bl_al (bl_al (Below.refl _ _) _) _) _)) hn).mono ?_
  rintro e w1 ⟨v1, rfl, hown, hb⟩
  obtain ⟨A1, c1, rfl, hc1⟩ := own_form hown
  obtain ⟨k0, f0, z0⟩ := blk hb (new2 _ _ _ _)
  go_wp2_with fail
  have R0 : ((w1.setCell ⟨w.heap.size, 0, none⟩ (.int .i64 cap)).setCell ⟨w.heap.size, 1, none⟩ (.slice A1 l.length c1)).heap[w.heap.size]? = some (.cells #[.int .i64 cap, .slice A1 l.length c1] 24 (0, 0)) := blk_set (blk_set (blkb hb (new2 _ _ _ _) (by simp; omega)) _) _
  have R2 : ((w1.setCell ⟨w.heap.size, 0, none⟩ (.int .i64 cap)).setCell ⟨w.heap.size, 1, none⟩ (.slice A1 l.length c1)).heap[w.heap.size + 2]? = some (.cells #[.int .i64 0, .slice none 0 0] 24 (0, 0)) := blk_far (blk_far (blkb hb (new2'' _ _ _ _) (by simp)) (by simp) _) (by simp) _
  have O2 : ((w1.setCell ⟨w.heap.size, 0, none⟩ (.int .i64 cap)).setCell ⟨w.heap.size, 1, none⟩ (.slice A1 l.length c1)).ownsRow (w.heap.size + 3) 42 9 (.slice A1 l.length c1) l.length (l.flatMap Page.cells) := by
    have := ownsRow_setCell_below (a := ⟨w.heap.size, 1, none⟩) (ownsRow_setCell_below (a := ⟨w.heap.size, 0, none⟩) hown (by simp; omega) (.int .i64 cap)) (by simp; omega) (.slice A1 l.length c1)
    simpa using this
  have B2 : Below w.heap.size w ((w1.setCell ⟨w.heap.size, 0, none⟩ (.int .i64 cap)).setCell ⟨w.heap.size, 1, none⟩ (.slice A1 l.length c1)) := ((bl_on (bl_al (bl_al (bl_al (Below.refl _ _) _) _) _) hb).setCell (Nat.le_refl _) _).setCell (Nat.le_refl _) _
  generalize ((w1.setCell ⟨w.heap.size, 0, none⟩ (.int .i64 cap)).setCell ⟨w.heap.size, 1, none⟩ (.slice A1 l.length c1)) = W2 at R0 R2 O2 B2 ⊢
  clear hb hown k0 f0 z0
  refine (valid_any _ cap l W2 (Sl.of_own O2) hn hwf.at).mono ?_
  rw [HV.out]
  rintro e w3 ⟨rfl, hb3⟩
  replace R0 := blkb hb3 R0 (blk_lt R0)
  replace R2 := blkb hb3 R2 (blk_lt R2)
  have O2h := hide (own_below O2 hb3)
  replace B2 := bl_on B2 hb3
  clear hb3 O2
  obtain ⟨k0, f0, z0⟩ := blkw R0
  obtain ⟨k2, f2, z2⟩ := blkw R2
  go_wp2
  refine bodyPost_ret (v := .agg #[.int .i64 cap, .slice A1 l.length c1]) (by simp [results, Tryd.results13, go_sem, k0, k2, f0, f2]) rfl ⟨_, rfl, ?_, (by repeat (with_reducible first | assumption | exact Below.refl _ _ | (refine Below.setCell ?_ (by first | omega | (dsimp only; omega) | (simp; omega)) _) | (refine bl_al ?_ _) | (refine bl_dr ?_ _) | (refine bl_on ?_ (by assumption))))⟩
  refine own_mono (base := w.heap.size + 3) ?_ (by omega)
  repeat (with_reducible refine ownsRow_setCell_below ?_ (by simp) _)
  exact O2h.out

set_option maxRecDepth 100000 in
theorem rdrop_bad (v u : Value) (cap : Int) (l : List Page) (xs : List Int) (w : World) (h : Sl w w.heap.size 9 v l.length (l.flatMap Page.cells)) (hn : l.length ≤ 1000000) (hwf : Wf l)
    (hu : Sl w w.heap.size 1 u xs.length (ints xs)) (hv : valid cap l = false) :
    Calls Tryd.prog 14 #[.agg #[.int .i64 cap, v], u] w fun e w' => e = .returned (.agg #[.int .i64 cap, v]) ∧ Below w.heap.size w w' := by
  have hform : ∃ A c, v = .slice A l.length c := by obtain ⟨A, c, rfl, _⟩ := h; exact ⟨A, c, rfl⟩
  obtain ⟨A, c, rfl⟩ := hform
  have hform : ∃ A c, u = .slice A xs.length c := by obtain ⟨A, c, rfl, _⟩ := hu; exact ⟨A, c, rfl⟩
  obtain ⟨Au, cu, rfl⟩ := hform
  have HV := hide hv
  clear hv
  go_enter Tryd.func14, Tryd.ntmps14
  go_wp2_with fail
  refine (rvalid_any _ cap l _ (h.on (bl_al (bl_al (Below.refl _ _) _) _)) hn hwf.at).mono ?_
  rw [HV.out]
  rintro e w2 ⟨rfl, hb⟩
  obtain ⟨k0, f0, z0⟩ := blk hb (new1 _ _ _)
  obtain ⟨k1, f1, z1⟩ := blk hb (new1' _ _ _)
  go_wp2
  refine bodyPost_ret (v := .agg #[.int .i64 cap, .slice A l.length c]) (by simp [results, Tryd.results14, go_sem, k0, k1, f0, f1]) rfl ⟨rfl, (by repeat (with_reducible first | assumption | exact Below.refl _ _ | (refine Below.setCell ?_ (by first | omega | (dsimp only; omega) | (simp; omega)) _) | (refine bl_al ?_ _) | (refine bl_dr ?_ _) | (refine bl_on ?_ (by assumption))))⟩

theorem drop_succ {l : List Page} {xs : List Int} {k : Nat} (hk : k < l.length) : dropL (l.take (k + 1)) xs = if hasI xs l[k].line then dropL (l.take k) xs else dropL (l.take k) xs ++ [l[k]] := by
  unfold dropL
  rw [List.take_succ_eq_append_getElem hk, List.filter_append]
  cases h : hasI xs l[k].line <;> simp [h]
theorem drop_len (l : List Page) (xs : List Int) : (dropL l xs).length ≤ l.length := List.length_filter_le _ _

set_option maxRecDepth 100000 in
set_option maxHeartbeats 4000000 in
theorem rdrop_any (v u : Value) (cap : Int) (l : List Page) (xs : List Int) (w : World) (h : Sl w w.heap.size 9 v l.length (l.flatMap Page.cells)) (hn : l.length ≤ 1000000) (hwf : Wf l)
    (hu : Sl w w.heap.size 1 u xs.length (ints xs)) (hun : xs.length ≤ 1000000) (hv : valid cap l = true) :
    Calls Tryd.prog 14 #[.agg #[.int .i64 cap, v], u] w fun e w' => ∃ v', e = .returned (.agg #[.int .i64 cap, v']) ∧ w'.ownsRow w.heap.size 42 9 v' (dropL l xs).length ((dropL l xs).flatMap Page.cells) ∧ Below w.heap.size w w' := by
  have hform : ∃ A c, v = .slice A l.length c := by obtain ⟨A, c, rfl, _⟩ := h; exact ⟨A, c, rfl⟩
  obtain ⟨A, c, rfl⟩ := hform
  have hform : ∃ A c, u = .slice A xs.length c := by obtain ⟨A, c, rfl, _⟩ := hu; exact ⟨A, c, rfl⟩
  obtain ⟨Au, cu, rfl⟩ := hform
  have HV := hide hv
  clear hv
  go_enter Tryd.func14, Tryd.ntmps14
  go_wp2_with fail
  refine (rvalid_any _ cap l _ (h.on (bl_al (bl_al (Below.refl _ _) _) _)) hn hwf.at).mono ?_
  rw [HV.out]
  rintro e w2 ⟨rfl, hb⟩
  have R0 := hide (blkb hb (new1 _ _ _) (by simp; omega))
  have R1 := hide (blkb hb (new1' _ _ _) (by simp))
  have B2 : Below w.heap.size w w2 := (by repeat (with_reducible first | assumption | exact Below.refl _ _ | (refine Below.setCell ?_ (by first | omega | (dsimp only; omega) | (simp; omega)) _) | (refine bl_al ?_ _) | (refine bl_dr ?_ _) | (refine bl_on ?_ (by assumption))))
  clear hb
  go_wp2
  go_loopw [5, 6] (fun s i wr => ∃ (k : Nat) (A' : Option Addr) (c' : Nat), k ≤ l.length ∧ i = .int .i64 k ∧ s = .slice A' (dropL (l.take k) xs).length c' ∧ Hid (wr.heap[w.heap.size]? = some (.cells #[.int .i64 cap, .slice A l.length c] 30 (0, 0))) ∧ Hid (wr.heap[w.heap.size + 1]? = some (.cells #[.int .i64 0, .slice none 0 0] 30 (0, 0))) ∧
    wr.ownsRow (w.heap.size + 2) 42 9 (.slice A' (dropL (l.take k) xs).length c') (dropL (l.take k) xs).length ((dropL (l.take k) xs).flatMap Page.cells) ∧ Below w.heap.size w wr) (fun _ i _ => l.length - (intOf i).toNat)
  case atStart => exact ⟨0, none, 0, by omega, rfl, rfl, R0, R1, World.ownsRow_nil _ _ _ _, B2⟩
  case round =>
    obtain ⟨k, A', c', hk, rfl, rfl, r0, r1, o1, B⟩ := hrel
    clear R0 R1 B2
    obtain ⟨k0, f0, z0⟩ := blkw r0.out
    have z1 := blk_lt r1.out
    by_cases hlt : k < l.length
    · have HS := hide (drop_succ (xs := xs) hlt)
      have HD := hide (drop_len (l.take k) xs)
      have hd : (dropL (l.take k) xs).length ≤ k := Nat.le_trans HD.out (by simp; omega)
      generalize dropL (l.take k) xs = l1 at o1 HS hd
      have hS := h.on B
      obtain ⟨b, off, rfl, hbB, g0, g1, g2, g3, g4, g5, g6, g7, g8⟩ := Page.at_ (by obtain ⟨A'', c'', he, _, _, _, hat⟩ := hS; injection he with e1; subst e1; exact hat) hlt
      clear hS
      generalize l[k] = p at g0 g1 g2 g3 g4 g5 g6 g7 g8 HS
      have o1h := hide o1
      clear o1
      cases hx : hasI xs p.line with
      | true =>
        have Hx := hide hx
        clear hx
        go_wp2_with (go_at_call 32; refine (has_any _ xs p.line wr (hu.on B) hun).mono ?_; rw [Hx.out]; rintro e w3 ⟨rfl, rfl⟩)
        go_roundw
        case rel => exact ⟨k + 1, A', c', by omega, by go_num, by rw [HS.out, if_pos Hx.out], r0, r1, by rw [HS.out, if_pos Hx.out]; exact o1h.out, B⟩
        case measure => simp [intOf]; omega
      | false =>
        have Hx := hide hx
        clear hx
        go_wp2_with fail
        refine (has_any _ xs p.line wr (hu.on B) hun).mono ?_
        rw [Hx.out]
        rintro e w3 ⟨rfl, rfl⟩
        have hne := own_ne_lt o1h.out (g := w.heap.size) (by omega)
        have hne1 := own_ne_lt o1h.out (g := w.heap.size + 1) (by omega)
        go_wp2_with (at_builtin; refine wpl_app (wr.alloc (.cells #[.int .i64 p.line, .int .u64 p.head, .int .u64 p.d0, .int .u64 p.d1, .int .u64 p.d2, .int .u64 p.d3, .int .u64 p.d4, .int .u64 p.d5, .int .u64 p.d6] 42 (0, 0))) rfl (.tmp 27) (.tmp 33) 22 rfl (w.heap.size + 2) 42 _ 9 72 Tryd.underlying22 page_info rfl (by omega) (.slice A' l1.length c') l1.length (l1.flatMap Page.cells) rfl (o1h.out.alloc _) (.slice (some ⟨wr.heap.size, 0, none⟩) 1 1) 1 p.cells rfl (Sl.of_own (own_single wr _ 9 p.cells rfl)) p.one (by omega) (by omega) (by simp; omega) ?_; intro v6 w6 O6 G6 _; obtain ⟨A6, c6, rfl, hc6⟩ := own_form O6; have O6h := hide O6; clear O6)
        go_roundw
        case rel =>
          have e9 : dropL (l.take (k + 1)) xs = l1 ++ [p] := by rw [HS.out, if_neg (by rw [Hx.out]; simp)]
          have e8 : (dropL (l.take (k + 1)) xs).length = l1.length + 1 := by rw [e9]; simp
          refine ⟨k + 1, A6, c6, by omega, by go_num, by rw [e8], blkg G6 (blk_al r0.out _) hne, blkg G6 (blk_al r1.out _) hne1, ?_, (bl_al B _).grown G6 (by simp; omega) (fun g hg => by have := own_base o1h.out g hg; omega)⟩
          rw [e8, e9, List.flatMap_append]
          simpa using O6h.out
        case measure => simp [intOf]; omega
    · obtain rfl : k = l.length := by omega
      rw [List.take_length] at o1
      obtain ⟨k1, f1, z1⟩ := blkw r1.out
      have o1h := hide o1
      clear o1
      rw [List.take_length]
      go_wp2
      refine bodyPost_ret (v := .agg #[.int .i64 cap, .slice A' (dropL l xs).length c']) (by simp [results, Tryd.results14, go_sem, k0, k1, f0, f1]) rfl ⟨_, rfl, ?_, (by repeat (with_reducible first | assumption | exact Below.refl _ _ | (refine Below.setCell ?_ (by first | omega | (dsimp only; omega) | (simp; omega)) _) | (refine bl_al ?_ _) | (refine bl_dr ?_ _) | (refine bl_on ?_ (by assumption))))⟩
      refine own_mono (base := w.heap.size + 2) ?_ (by omega)
      repeat (with_reducible refine ownsRow_setCell_below ?_ (by simp) _)
      exact o1h.out
end Go.Proofs.YtkodkbjmeepbiaaDoor
