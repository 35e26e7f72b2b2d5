/- Walks: the reference's search, test of a cache, and membership. Conditions: as each theorem names them. -/
import Derived.Test.YtkodkbjmeepbiaaDoorC2
import Derived.Test.YtkodkbjmeepbiaaDoorD1
import Derived.Test.YtkodkbjmeepbiaaDoorQ
import Derived.Test.YtkodkbjmeepbiaaDoorA
set_option linter.unusedVariables false
set_option linter.unusedSimpArgs false
namespace Go.Proofs.YtkodkbjmeepbiaaDoor
open Go.RowKit

abbrev ints (xs : List Int) : List Value := xs.map (Value.int .i64)
theorem ints_at {w : World} {B : Nat} {A : Option Addr} {xs : List Int} (h : At w B A (ints xs)) {k : Nat} (hk : k < xs.length) : ∃ b off, A = some ⟨b, off, none⟩ ∧ b < B ∧ w.cell? ⟨b, off + k, none⟩ = some (.int .i64 xs[k]) :=
  h k _ (by simp [hk])

theorem cached_any (v : Value) (l : List Page) (line : Int) (w : World) (h : Sl w w.heap.size 9 v l.length (l.flatMap Page.cells)) (hn : l.length ≤ 1000000) :
    Calls Tryd.prog 23 #[v, .int .i64 line] w fun e w' => e = .returned (.int .i64 (idx l line)) ∧ w = w' := by
  obtain ⟨A, c, rfl, hcc, hm, hl, hat⟩ := h
  go_enter Tryd.func23, Tryd.ntmps23
  go_wp2
  go_loop [5] (fun i => ∃ k : Nat, k ≤ l.length ∧ i = .int .i64 k ∧ Hid (∀ j (hj : j < l.length), j < k → (l[j].line == line) = false)) (fun i => l.length - (intOf i).toNat)
  case atStart => exact ⟨0, by omega, rfl, fun j _ h => by omega⟩
  case round =>
    obtain ⟨k, hk, rfl, hno⟩ := hrel
    by_cases hlt : k < l.length
    · obtain ⟨b, off, rfl, hbB, h0, h1, h2, h3, h4, h5, h6, h7, h8⟩ := Page.at_ hat hlt
      cases hx : (l[k].line == line) with
      | true =>
        have Hx := hide hx
        go_wp2
        go_ret
        have hi := indexOf_hit hlt Hx.out hno.out
        exact ⟨ret_int (by rw [idx_hit (by omega), hi]), rfl⟩
      | false =>
        have Hx := hide hx
        go_wp2
        go_round
        case rel => exact ⟨k + 1, by omega, by go_num, below_succ (q := fun p => p.line == line) hno.out Hx.out⟩
        case measure => simp [intOf]; omega
    · go_wp2
      go_ret
      obtain rfl : k = l.length := by omega
      have hi := indexOf_miss hno.out
      exact ⟨ret_int (by rw [idx_miss (by omega)]), rfl⟩

/-- Is x among the first k? -/
def hasTo (xs : List Int) (x : Int) (k : Nat) : Bool := (xs.take k).contains x
theorem hasTo_succ {xs : List Int} {x : Int} {k : Nat} (hk : k < xs.length) : hasTo xs x (k + 1) = (hasTo xs x k || (xs[k] == x)) := by
  unfold hasTo
  rw [List.take_succ_eq_append_getElem hk, Bool.eq_iff_iff]
  simp only [List.contains_iff_mem, List.mem_append, List.mem_singleton, Bool.or_eq_true, beq_iff_eq]
  constructor
  · rintro (h | h)
    · exact .inl h
    · exact .inr h.symm
  · rintro (h | h)
    · exact .inl h
    · exact .inr h.symm
/-- Is x in the list? -/
def hasI (xs : List Int) (x : Int) : Bool := xs.contains x
theorem hasI_at {xs : List Int} {x : Int} {k : Nat} (hk : k < xs.length) (h : (xs[k] == x) = true) : hasI xs x = true := by
  unfold hasI
  rw [List.contains_iff_mem, ← beq_iff_eq.1 h]
  exact List.getElem_mem hk
theorem has_any (v : Value) (xs : List Int) (x : Int) (w : World) (h : Sl w w.heap.size 1 v xs.length (ints xs)) (hn : xs.length ≤ 1000000) :
    Calls Tryd.prog 32 #[v, .int .i64 x] w fun e w' => e = .returned (.bool (hasI xs x)) ∧ w = w' := by
  obtain ⟨A, c, rfl, hcc, hm, hl, hat⟩ := h
  have HT := hide (show hasTo xs x xs.length = hasI xs x by simp [hasTo, hasI])
  go_enter Tryd.func32, Tryd.ntmps32
  go_wp2
  go_loop [5] (fun i => ∃ k : Nat, k ≤ xs.length ∧ i = .int .i64 k ∧ Hid (hasTo xs x k = false)) (fun i => xs.length - (intOf i).toNat)
  case atStart => exact ⟨0, by omega, rfl, by simp [hasTo, Hid]⟩
  case round =>
    obtain ⟨k, hk, rfl, hno⟩ := hrel
    by_cases hlt : k < xs.length
    · obtain ⟨b, off, rfl, hbB, h0⟩ := ints_at hat hlt
      have HS := hide (hasTo_succ (x := x) hlt)
      cases hx : (xs[k] == x) with
      | true =>
        have Hx := hide hx
        go_wp2
        go_ret
        refine ⟨ret_bool ?_, rfl⟩
        exact (hasI_at hlt hx).symm
      | false =>
        have Hx := hide hx
        go_wp2
        go_round
        case rel => exact ⟨k + 1, by omega, by go_num, by show hasTo xs x (k + 1) = false; rw [HS.out, hno.out, Hx.out]; rfl⟩
        case measure => simp [intOf]; omega
    · go_wp2
      go_ret
      obtain rfl : k = xs.length := by omega
      exact ⟨ret_bool (by rw [← HT.out, hno.out]), rfl⟩
theorem seen_idx {l : List Page} {k : Nat} (hk : k < l.length) : decide (0 ≤ idx (l.take k) l[k].line) = (seenL l k).contains l[k].line := by
  rw [Bool.eq_iff_iff, decide_eq_true_iff, List.contains_iff_mem]
  unfold idx seenL
  by_cases h : indexOf (l.take k) l[k].line < (l.take k).length
  · rw [if_pos h]
    refine ⟨fun _ => ?_, fun _ => by omega⟩
    unfold indexOf at h
    have := List.findIdx_getElem (w := h)
    simp only [List.mem_reverse, List.mem_map]
    exact ⟨_, List.getElem_mem h, by simpa using this⟩
  · rw [if_neg h]
    refine ⟨fun h => by omega, fun hm => ?_⟩
    simp only [List.mem_reverse, List.mem_map] at hm
    obtain ⟨p, hp, he⟩ := hm
    exact absurd (List.findIdx_lt_length.2 ⟨p, hp, by simp [he]⟩) h

set_option maxRecDepth 100000 in
set_option maxHeartbeats 1000000 in
theorem rvalid_any (v : Value) (cap : Int) (l : List Page) (w : World) (h : Sl w w.heap.size 9 v l.length (l.flatMap Page.cells)) (hn : l.length ≤ 1000000)
    (hwf : ∀ k (hk : k < l.length), 0 ≤ l[k].head ∧ l[k].head ≤ 18446744073709551615) :
    Calls Tryd.prog 8 #[.agg #[.int .i64 cap, v]] w fun e w' => e = .returned (.bool (valid cap l)) ∧ Below w.heap.size w w' := by
  have hform : ∃ A c, v = .slice A l.length c := by obtain ⟨A, c, rfl, _⟩ := h; exact ⟨A, c, rfl⟩
  obtain ⟨A, c, rfl⟩ := hform
  by_cases h1 : 1 ≤ cap ∧ cap ≤ 256 ∧ (l.length : Int) ≤ cap
  · have HV := hide (valid_small h1)
    obtain ⟨h1, h2, h3⟩ := h1
    have h4 : ¬ cap < 1 := by omega
    have h5 : ¬ 256 < cap := by omega
    have h6 : ¬ cap < (l.length : Int) := by omega
    go_enter Tryd.func8, Tryd.ntmps8
    go_wp2
    go_loopw [3] (fun i wr => ∃ k : Nat, k ≤ l.length ∧ i = .int .i64 k ∧ Below w.heap.size w wr ∧ Hid (wr.heap[w.heap.size]? = some (.cells #[.int .i64 cap, .slice A l.length c] 30 (0, 0))) ∧ Hid (fine (l.drop k) (seenL l k) = fine l [])) (fun i _ => l.length - (intOf i).toNat)
    case atStart => exact ⟨0, by omega, rfl, bl_al (Below.refl _ _) _, new0 _ _, rfl⟩
    case round =>
      obtain ⟨k, hk, rfl, hb, hrow, hfine⟩ := hrel
      have z := blk_lt hrow.out
      obtain ⟨k0, f0, z0⟩ := blkw hrow.out
      by_cases hlt : k < l.length
      · have hS := (h.below hb).mono (Nat.le_of_lt z)
        obtain ⟨b, off, rfl, hbB, g0, g1, g2, g3, g4, g5, g6, g7, g8⟩ := Page.at_ (by obtain ⟨A', c', he, _, _, _, hat⟩ := hS; injection he with e1; subst e1; exact hat) hlt
        have hw := hwf k hlt
        have hs := hide (fine_step hlt)
        have ht := hide (seen_idx hlt)
        have hST := hS.take Page.len (Nat.le_of_lt hlt)
        generalize hp : l[k] = p at g0 g1 g2 g3 g4 g5 g6 g7 g8 hs ht hw
        have c1 := Hold.cell (k0 1)
        have c2 := Hold.cell g0
        have c3 := Hold.cell g1
        have c4 := Hold.cell g2
        have c5 := Hold.cell g3
        have c6 := Hold.cell g4
        have c7 := Hold.cell g5
        have c8 := Hold.cell g6
        have c9 := Hold.cell g7
        have c10 := Hold.cell g8
        generalize hx : cachable p = x at hs
        generalize hy : idx (l.take k) p.line = y at ht
        have Hp := hide hp
        have Hx := hide hx
        have Hy := hide hy
        clear hp hx hy
        have hj0 : (0 : Int) ≤ (k : Int) := by omega
        have hj1 : (k : Int) ≤ (c : Int) := by obtain ⟨A', c', he, hcc, _⟩ := hS; injection he with e1 e2 e3; subst e3; omega
        have hj2 : (k : Int) < (l.length : Int) := by omega
        have H1 : ∀ t : Hold wr, Calls Tryd.prog 22 #[p.v] t.W fun e w' => e = .returned (.bool x) ∧ ∃ t' : Hold wr, w' = t'.W := fun t => Hold.call (by rw [← Hx.out]; exact cacheable_any p _ hw.1 hw.2)
        have H2 : ∀ t : Hold wr, Calls Tryd.prog 23 #[.slice (some ⟨b, off, none⟩) k c, .int .i64 p.line] t.W fun e w' => e = .returned (.int .i64 y) ∧ ∃ t' : Hold wr, w' = t'.W := fun t => Hold.call_same (by
          have := cached_any _ (l.take k) p.line t.W (by rw [List.length_take, Nat.min_eq_left (Nat.le_of_lt hlt)]; exact (hST.below t.b).mono t.b.size) (by rw [List.length_take]; omega)
          rw [Hy.out] at this
          exact this)
        cases x with
        | false =>
          go_wp2_with fail
          refine region_hold (by kernel_rfl) (by kernel_rfl) ?_
          repeat (go_big_quiet_step (first | exact H1 _ | exact H2 _))
          refine wpQuiet_nil ?_
          rintro _ ⟨t, rfl⟩
          go_wp2
          go_ret
          refine ⟨ret_bool ?_, bl_on hb t.b⟩
          rw [HV.out, ← hfine.out, hs.out]
          rfl
        | true =>
          go_wp2_with fail
          refine region_hold (by kernel_rfl) (by kernel_rfl) ?_
          repeat (go_big_quiet_step (first | exact H1 _ | exact H2 _))
          refine wpQuiet_nil ?_
          rintro _ ⟨t, rfl⟩
          go_wp2
          · rename_i hy
            go_ret
            refine ⟨ret_bool ?_, bl_on hb t.b⟩
            rw [HV.out, ← hfine.out, hs.out, ← ht.out]
            simp [hy]
          · rename_i hy
            go_roundw
            case rel =>
              refine ⟨k + 1, by omega, by go_num, bl_on hb t.b, blkb t.b hrow.out z, ?_⟩
              show fine _ _ = _
              rw [← hfine.out, hs.out, ← ht.out]
              simp; omega
            case measure => simp [intOf]; omega
      · go_wp2
        go_ret
        obtain rfl : k = l.length := by omega
        refine ⟨ret_bool ?_, hb⟩
        rw [HV.out, ← hfine.out, List.drop_length]
        rfl
  · have HV := hide (valid_big h1)
    have h7 : (decide (cap < 1) || decide (256 < cap) || decide (cap < (l.length : Int))) = true := by simp; omega
    go_enter Tryd.func8, Tryd.ntmps8
    go_wp2
    all_goals go_ret
    all_goals exact ⟨ret_bool HV.out.symm, (by repeat (first | exact Below.refl _ _ | assumption | (refine bl_al ?_ _) | (refine bl_dr ?_ _) | (refine bl_on ?_ (by assumption))))⟩
end Go.Proofs.YtkodkbjmeepbiaaDoor
