/- Walks: cache.Valid. Conditions: as each theorem names them. -/
import Derived.Test.YtkodkbjmeepbiaaDoorC1
set_option linter.unusedVariables false
set_option linter.unusedSimpArgs false
namespace Go.Proofs.YtkodkbjmeepbiaaDoor
open Go.RowKit

/-- The array of the lines that were seen. -/
def seenArr (s : List Int) : Array Value := (Array.range 256).map fun (i : Nat) => .bool (s.contains (i : Int))
theorem seenArr_size (s : List Int) : (seenArr s).size = 256 := by simp [seenArr]
theorem seenArr_get (s : List Int) (x : Int) (h0 : 0 ≤ x) (h1 : x < 256) : (seenArr s)[x.toNat]? = some (.bool (s.contains x)) := by
  have : x.toNat < 256 := by omega
  simp [seenArr, this, Int.toNat_of_nonneg h0]
theorem seenArr_set (s : List Int) (x : Int) (h0 : 0 ≤ x) (h1 : x < 256) : (seenArr s).setIfInBounds x.toNat (.bool true) = seenArr (x :: s) := by
  apply Array.ext_getElem?
  intro i
  rw [Array.getElem?_setIfInBounds]
  by_cases h : x.toNat = i
  · subst h
    rw [if_pos rfl, if_pos (by simp [seenArr]; omega), seenArr_get _ _ h0 h1]
    simp
  · rw [if_neg h]
    have : ((i : Int) == x) = false := by simp; omega
    simp only [seenArr, Array.getElem?_map, List.contains_cons]
    rcases Nat.lt_or_ge i 256 with hi | hi
    · simp [Array.getElem?_range, hi, this]
    · simp [Array.getElem?_range, hi]
theorem zero_seen : ∀ W : World, (zeroValue 57).run Tryd.prog W = .ok (.agg (seenArr [])) W := fun _ => by kernel_rfl

theorem row_on {B : Nat} {wr w1 : World} {o : Obj} {s : List Int} (h : Hid (wr.heap[B]? = some (.cells (seenArr s) 57 (0, 0)))) (hb : Below (wr.alloc o).heap.size (wr.alloc o) w1) : Hid (w1.heap[B]? = some (.cells (seenArr s) 57 (0, 0))) := by
  have hlt : B < wr.heap.size := (Array.getElem?_eq_some_iff.1 h.out).1
  exact (hb.block B (by simp; omega)).trans ((heap_alloc_old wr o hlt).trans h.out)
theorem row_cell {B : Nat} {w : World} {s : List Int} {x : Int} {t : Bool} (h : Hid (w.heap[B]? = some (.cells (seenArr s) 57 (0, 0)))) (hx : Hid (s.contains x = t)) (h0 : 96 ≤ x) (h1 : x < 256) : w.cell? ⟨B, x.toNat, none⟩ = some (.bool t) := by
  rw [cell_of_row _ _ _ _ _ _ h.out, seenArr_get s x (by omega) h1, hx.out]
theorem row_frozen {B : Nat} {w : World} {s : List Int} (h : Hid (w.heap[B]? = some (.cells (seenArr s) 57 (0, 0)))) (i : Nat) : w.frozen? ⟨B, i, none⟩ = false := by
  have h := h.out
  simp [World.frozen?, h]
theorem row_put {B : Nat} {w : World} {s : List Int} {x : Int} (h : Hid (w.heap[B]? = some (.cells (seenArr s) 57 (0, 0)))) (h0 : 96 ≤ x) (h1 : x < 256) : Hid ((w.setCell ⟨B, x.toNat, none⟩ (.bool true)).heap[B]? = some (.cells (seenArr (x :: s)) 57 (0, 0))) := by
  have h := h.out
  have e := seenArr_set s x (by omega) h1
  show (w.setCell ⟨B, x.toNat, none⟩ (.bool true)).heap[B]? = _
  simp [World.setCell, Array.getElem?_modify, h, e]

def seenL (l : List Page) (k : Nat) : List Int := ((l.take k).map Page.line).reverse
theorem seenL_succ {l : List Page} {k : Nat} (hk : k < l.length) : seenL l (k + 1) = l[k].line :: seenL l k := by
  unfold seenL
  rw [List.take_succ_eq_append_getElem hk, List.map_append, List.reverse_append]
  rfl
theorem fine_step {l : List Page} {k : Nat} (hk : k < l.length) : fine (l.drop k) (seenL l k) = (cachable l[k] && !(seenL l k).contains l[k].line && fine (l.drop (k + 1)) (seenL l (k + 1))) := by
  rw [List.drop_eq_getElem_cons hk, seenL_succ hk]
  rfl
theorem valid_big {cap : Int} {l : List Page} (h : ¬ (1 ≤ cap ∧ cap ≤ 256 ∧ (l.length : Int) ≤ cap)) : valid cap l = false := by
  unfold valid
  by_cases a : 1 ≤ cap
  · by_cases b : cap ≤ 256
    · have c : ¬ (l.length : Int) ≤ cap := fun c => h ⟨a, b, c⟩
      simp [c]
    · simp [b]
  · simp [a]
theorem valid_small {cap : Int} {l : List Page} (h : 1 ≤ cap ∧ cap ≤ 256 ∧ (l.length : Int) ≤ cap) : valid cap l = fine l [] := by
  unfold valid
  simp [h.1, h.2.1, h.2.2]

set_option maxRecDepth 100000 in
set_option maxHeartbeats 1000000 in
theorem valid_any (v : Value) (cap : Int) (l : List Page) (w : World) (h : Sl w w.heap.size 9 v l.length (l.flatMap Page.cells)) (hn : l.length ≤ 1000000)
    (hwf : ∀ k (hk : k < l.length), 0 ≤ l[k].head ∧ l[k].head ≤ 18446744073709551615) :
    Calls Tryd.prog 7 #[.agg #[.int .i64 cap, v]] w fun e w' => e = .returned (.bool (valid cap l)) ∧ Below w.heap.size w w' := by
  obtain ⟨A, c, rfl, hcc, hm, hl, hat⟩ := h
  have hz := zero_seen
  by_cases h1 : 1 ≤ cap ∧ cap ≤ 256 ∧ (l.length : Int) ≤ cap
  · have HV := hide (valid_small h1)
    obtain ⟨h1, h2, h3⟩ := h1
    have h4 : ¬ cap < 1 := by omega
    have h5 : ¬ 256 < cap := by omega
    have h6 : ¬ cap < (l.length : Int) := by omega
    go_enter Tryd.func7, Tryd.ntmps7
    go_wp2
    go_loopw [25] (fun i wr => ∃ k : Nat, k ≤ l.length ∧ i = .int .i64 k ∧ Below w.heap.size w wr ∧ Hid (wr.heap[w.heap.size + 1]? = some (.cells (seenArr (seenL l k)) 57 (0, 0))) ∧ Hid (fine (l.drop k) (seenL l k) = fine l [])) (fun i _ => l.length - (intOf i).toNat)
    case atStart => exact ⟨0, by omega, rfl, bl_al (bl_al (Below.refl _ _) _) _, new1' _ _ _, rfl⟩
    case round =>
      obtain ⟨k, hk, rfl, hb, hrow, hfine⟩ := hrel
      by_cases hlt : k < l.length
      · obtain ⟨b, off, rfl, hbB, g0, g1, g2, g3, g4, g5, g6, g7, g8⟩ := Page.at_ (hat.below hb) hlt
        have hw := hwf k hlt
        have hs := hide (fine_step hlt)
        cases hx : cachable l[k] with
        | false =>
          have Hx := hide hx; clear hx
          go_wp2_with (go_at_call 21; refine (cachable_any l[k] _ hw.1 hw.2).mono ?_; rw [Hx.out]; rintro e w1 ⟨rfl, hb1⟩)
          go_ret
          refine ⟨ret_bool ?_, (by repeat (first | exact Below.refl _ _ | assumption | (refine bl_al ?_ _) | (refine bl_dr ?_ _) | (refine bl_on ?_ (by assumption))))⟩
          rw [HV.out, ← hfine.out, hs.out, Hx.out]
          rfl
        | true =>
          have Hx := hide hx; clear hx
          have hc : 96 ≤ l[k].line ∧ l[k].line < 256 := by have := Hx.out; simp [cachable] at this; omega
          obtain ⟨hc1, hc2⟩ := hc
          cases hy : (seenL l k).contains l[k].line with
          | true =>
            have Hy := hide hy; clear hy
            go_wp2_with (go_at_call 21; refine (cachable_any l[k] _ hw.1 hw.2).mono ?_; rw [Hx.out]; rintro e w1 ⟨rfl, hb1⟩; obtain ⟨k0, f0, z0⟩ := blk hb1 (new0 _ _); have R1 := row_on hrow hb1; have q0 := row_cell R1 Hy hc1 hc2; have q1 := row_frozen R1)
            go_ret
            refine ⟨ret_bool ?_, (by repeat (first | exact Below.refl _ _ | assumption | (refine bl_al ?_ _) | (refine bl_dr ?_ _) | (refine bl_on ?_ (by assumption))))⟩
            rw [HV.out, ← hfine.out, hs.out, Hx.out, Hy.out]
            rfl
          | false =>
            have Hy := hide hy; clear hy
            go_wp2_with (go_at_call 21; refine (cachable_any l[k] _ hw.1 hw.2).mono ?_; rw [Hx.out]; rintro e w1 ⟨rfl, hb1⟩; obtain ⟨k0, f0, z0⟩ := blk hb1 (new0 _ _); have R1 := row_on hrow hb1; have q0 := row_cell R1 Hy hc1 hc2; have q1 := row_frozen R1)
            go_roundw
            case rel => exact ⟨k + 1, by omega, by go_num, (bl_on (bl_al hb _) hb1).setCell (by show w.heap.size ≤ w.heap.size + 1; omega) _, by rw [seenL_succ hlt]; exact row_put R1 hc1 hc2, by show fine _ _ = _; rw [← hfine.out, hs.out, Hx.out, Hy.out]; rfl⟩
            case measure => simp [intOf]; omega
      · go_wp2
        go_ret
        obtain rfl : k = l.length := by omega
        refine ⟨ret_bool ?_, hb⟩
        rw [HV.out, ← hfine.out, List.drop_length]
        rfl
  · have HV := hide (valid_big h1)
    have h7 : (decide (cap < 1) || decide (256 < cap) || decide (cap < (l.length : Int))) = true := by simp; omega
    go_enter Tryd.func7, Tryd.ntmps7
    go_wp2
    all_goals go_ret
    all_goals exact ⟨ret_bool HV.out.symm, (by repeat (first | exact Below.refl _ _ | assumption | (refine bl_al ?_ _) | (refine bl_dr ?_ _) | (refine bl_on ?_ (by assumption))))⟩

end Go.Proofs.YtkodkbjmeepbiaaDoor
