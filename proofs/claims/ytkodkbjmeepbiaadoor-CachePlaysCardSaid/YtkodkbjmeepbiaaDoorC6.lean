/- Walks: cache.New, cache.Put. Conditions: as each theorem names them. -/
import Derived.Test.YtkodkbjmeepbiaaDoorC5
set_option linter.unusedVariables false
set_option linter.unusedSimpArgs false
namespace Go.Proofs.YtkodkbjmeepbiaaDoor
open Go.RowKit

theorem new_ok (cap : Int) (w : World) (h1 : 1 ≤ cap) (h2 : cap ≤ 256) :
    Calls Tryd.prog 4 #[.int .i64 cap] w fun e w' => e = .returned (.tuple #[.agg #[.int .i64 cap, .slice none 0 0], .int .i64 0]) ∧ Below w.heap.size w w' := by
  go_enter Tryd.func4, Tryd.ntmps4
  go_wp2
  refine bodyPost_ret (v := .tuple #[.agg #[.int .i64 cap, .slice none 0 0], .int .i64 0]) (by simp [results, Tryd.results4, go_sem]) rfl ⟨rfl, (by repeat (first | exact Below.refl _ _ | assumption | (refine bl_al ?_ _) | (refine bl_dr ?_ _) | (refine bl_on ?_ (by assumption))))⟩

/-- All pages' headers are 64-bit words. -/
def Wf (l : List Page) : Prop := ∀ p ∈ l, 0 ≤ p.head ∧ p.head ≤ 18446744073709551615
theorem Wf.at {l : List Page} (h : Wf l) (k : Nat) (hk : k < l.length) : 0 ≤ l[k].head ∧ l[k].head ≤ 18446744073709551615 := h _ (List.getElem_mem hk)

theorem put1_miss {cap : Int} {l : List Page} {p : Page} (hx : cachable p = true) (hi : ¬ indexOf l p.line < l.length) : put1 cap l p = (p :: l).take cap.toNat := by
  unfold put1
  rw [if_pos hx]
  dsimp only
  rw [dif_neg hi]
theorem put1_hit {cap : Int} {l : List Page} {p : Page} (hx : cachable p = true) (hi : indexOf l p.line < l.length) : put1 cap l p = ((if p.head < l[indexOf l p.line].head then l[indexOf l p.line] else p) :: l.eraseIdx (indexOf l p.line)).take cap.toNat := by
  unfold put1
  rw [if_pos hx]
  dsimp only
  rw [dif_pos hi]
theorem put1_len {cap : Int} {l : List Page} (p : Page) (h : (l.length : Int) ≤ cap) : ((put1 cap l p).length : Int) ≤ cap := by
  unfold put1
  split
  · dsimp only
    split <;> simp <;> omega
  · exact h
theorem putAll_len {cap : Int} (ps : List Page) : ∀ {l : List Page}, (l.length : Int) ≤ cap → ((putAll cap l ps).length : Int) ≤ cap := by
  induction ps with
  | nil => intro l h; exact h
  | cons p r ih => intro l h; exact ih (put1_len p h)
theorem put1_wf {cap : Int} {l : List Page} {p : Page} (h : Wf l) (hp : 0 ≤ p.head ∧ p.head ≤ 18446744073709551615) : Wf (put1 cap l p) := by
  unfold put1
  split
  · dsimp only
    split
    · rename_i hi
      intro q hq
      rcases List.mem_cons.1 (List.mem_of_mem_take hq) with rfl | hq
      · split
        · exact h.at _ hi
        · exact hp
      · exact h q (List.mem_of_mem_eraseIdx hq)
    · intro q hq
      rcases List.mem_cons.1 (List.mem_of_mem_take hq) with rfl | hq
      · exact hp
      · exact h q hq
  · exact h
theorem putAll_wf {cap : Int} (ps : List Page) : ∀ {l : List Page}, Wf l → Wf ps → Wf (putAll cap l ps) := by
  induction ps with
  | nil => intro l h _; exact h
  | cons p r ih => intro l h hp; exact ih (put1_wf h (hp p (by simp))) (fun q hq => hp q (by simp [hq]))
theorem putAll_succ {cap : Int} {l ps : List Page} {k : Nat} (hk : k < ps.length) : putAll cap l (ps.take (k + 1)) = put1 cap (putAll cap l (ps.take k)) ps[k] := by
  unfold putAll
  rw [List.take_succ_eq_append_getElem hk, List.foldl_append]
  rfl

/-- What holds ahead of each round of Put. -/
def PutInv (w : World) (cap : Int) (l' : List Page) (wr : World) : Prop := Below w.heap.size w wr ∧ ∃ A c, wr.heap[w.heap.size]? = some (.cells #[.int .i64 cap, .slice A l'.length c] 24 (0, 0)) ∧
  wr.heap[w.heap.size + 1]? = some (.cells #[.int .i64 0, .slice none 0 0] 24 (0, 0)) ∧ wr.ownsRow (w.heap.size + 2) 42 9 (.slice A l'.length c) l'.length (l'.flatMap Page.cells)

/-- A page stored cell by cell. -/
def put9 (w : World) (g : Nat) (p : Page) : World :=
  ((((((((w.setCell ⟨g, 0, none⟩ (.int .i64 p.line)).setCell ⟨g, 1, none⟩ (.int .u64 p.head)).setCell ⟨g, 2, none⟩ (.int .u64 p.d0)).setCell ⟨g, 3, none⟩ (.int .u64 p.d1)).setCell ⟨g, 4, none⟩ (.int .u64 p.d2)).setCell ⟨g, 5, none⟩ (.int .u64 p.d3)).setCell ⟨g, 6, none⟩ (.int .u64 p.d4)).setCell ⟨g, 7, none⟩ (.int .u64 p.d5)).setCell ⟨g, 8, none⟩ (.int .u64 p.d6)
theorem gb_set {w w' : World} {g i : Nat} (h : w.grownBy w' (some g)) (v : Value) : w.grownBy (w'.setCell ⟨g, i, none⟩ v) (some g) :=
  ⟨h.os, h.tape, h.output, by simpa [World.setCell] using h.size, fun k hk hne => (Below.heap_setCell w' ⟨g, i, none⟩ v k (fun e => hne (by rw [e]))).trans (h.block k hk hne)⟩
theorem put9_grown (w : World) (n g : Nat) (p : Page) : w.grownBy (put9 (w.drewN n) g p) (some g) := by
  unfold put9
  refine gb_set (gb_set (gb_set (gb_set (gb_set (gb_set (gb_set (gb_set (gb_set ?_ _) _) _) _) _) _) _) _) _
  exact ⟨rfl, rfl, rfl, Nat.le_refl _, fun _ _ _ => rfl⟩
theorem put9_blk {w : World} {n g : Nat} {q p : Page} {t : TypeId} (h : w.heap[g]? = some (.cells #[.int .i64 q.line, .int .u64 q.head, .int .u64 q.d0, .int .u64 q.d1, .int .u64 q.d2, .int .u64 q.d3, .int .u64 q.d4, .int .u64 q.d5, .int .u64 q.d6] t (0, 0))) :
    (put9 (w.drewN n) g p).heap[g]? = some (.cells #[.int .i64 p.line, .int .u64 p.head, .int .u64 p.d0, .int .u64 p.d1, .int .u64 p.d2, .int .u64 p.d3, .int .u64 p.d4, .int .u64 p.d5, .int .u64 p.d6] t (0, 0)) :=
  by
  have h0 : (w.drewN n).heap[g]? = _ := h
  have h1 := blk_set (i := 0) h0 (.int .i64 p.line)
  have h2 := blk_set (i := 1) h1 (.int .u64 p.head)
  have h3 := blk_set (i := 2) h2 (.int .u64 p.d0)
  have h4 := blk_set (i := 3) h3 (.int .u64 p.d1)
  have h5 := blk_set (i := 4) h4 (.int .u64 p.d2)
  have h6 := blk_set (i := 5) h5 (.int .u64 p.d3)
  have h7 := blk_set (i := 6) h6 (.int .u64 p.d4)
  have h8 := blk_set (i := 7) h7 (.int .u64 p.d5)
  have h9 := blk_set (i := 8) h8 (.int .u64 p.d6)
  unfold put9
  rw [h9]
  simp
theorem gb_drewN (w : World) (n : Nat) (row : Option Nat) : w.grownBy (w.drewN n) row := ⟨rfl, rfl, rfl, Nat.le_refl _, fun _ _ _ => rfl⟩

theorem put_close {w w6 : World} {cap : Int} {l3 : List Page} {p3 : Page} {A6 : Option Addr} {c6 : Nat} {x y : Value} (hcap : 1 ≤ cap) (B6 : Below w.heap.size w w6)
    (R0 : w6.heap[w.heap.size]? = some (.cells #[.int .i64 cap, x] 24 (0, 0))) (R1 : w6.heap[w.heap.size + 1]? = some (.cells #[.int .i64 0, .slice none 0 0] 24 (0, 0)))
    (O6 : w6.ownsRow (w.heap.size + 2) 42 9 (.slice A6 (l3.length + 1) c6) (l3.length + 1) ((l3.take 0 ++ p3 :: l3.drop 0).flatMap Page.cells)) :
    PutInv w cap ((p3 :: l3).take cap.toNat) ((w6.setCell ⟨w.heap.size, 1, none⟩ y).setCell ⟨w.heap.size, 1, none⟩ (.slice A6 (if cap < (l3.length : Int) + 1 then cap else (l3.length : Int) + 1).toNat c6)) := by
  have hn : (if cap < (l3.length : Int) + 1 then cap else (l3.length : Int) + 1).toNat = ((p3 :: l3).take cap.toNat).length := by
    simp only [List.length_take, List.length_cons]
    split <;> omega
  have hle : ((p3 :: l3).take cap.toNat).length ≤ l3.length + 1 := by simp; omega
  have hc := own_cut O6 hle
  have hx : ((l3.take 0 ++ p3 :: l3.drop 0).flatMap Page.cells).take (((p3 :: l3).take cap.toNat).length * 9) = ((p3 :: l3).take cap.toNat).flatMap Page.cells := by
    rw [← flat_take Page.cells 9 Page.len]
    congr 1
    simp only [List.take_zero, List.nil_append, List.drop_zero]
    rw [List.take_eq_take_iff]
    simp
  rw [hx] at hc
  rw [hn]
  refine ⟨(B6.setCell (Nat.le_refl _) _).setCell (Nat.le_refl _) _, A6, c6, blk_set (blk_set R0 _) _, blk_far (blk_far R1 (by simp) _) (by simp) _, ownsRow_setCell_below (ownsRow_setCell_below hc (by simp) _) (by simp) _⟩

set_option maxRecDepth 100000 in
set_option maxHeartbeats 16000000 in
theorem put_any (v u : Value) (cap : Int) (l ps : List Page) (w : World) (h : Sl w w.heap.size 9 v l.length (l.flatMap Page.cells)) (hn : l.length ≤ 1000000) (hwf : Wf l)
    (hu : Sl w w.heap.size 9 u ps.length (ps.flatMap Page.cells)) (hpn : ps.length ≤ 1000000) (hpw : Wf ps) (hv : valid cap l = true) :
    Calls Tryd.prog 15 #[.agg #[.int .i64 cap, v], u] w fun e w' => ∃ v', e = .returned (.agg #[.int .i64 cap, v']) ∧ w'.ownsRow w.heap.size 42 9 v' (putAll cap l ps).length ((putAll cap l ps).flatMap Page.cells) ∧ Below w.heap.size w w' := by
  have hform : ∃ A c, v = .slice A l.length c := by obtain ⟨A, c, rfl, _⟩ := h; exact ⟨A, c, rfl⟩
  obtain ⟨A, c, rfl⟩ := hform
  obtain ⟨Au, cu, rfl, hcu, hmu, hlu, hau⟩ := hu
  have HV := hide hv
  clear hv
  have HMU := hide hmu
  clear hmu
  go_enter Tryd.func15, Tryd.ntmps15
  go_wp2_with fail
  refine (copied_any _ cap l _ (h.on (bl_al (bl_al (Below.refl _ _) _) _)) hn).mono ?_
  rintro e w1 ⟨v1, rfl, hown, hb⟩
  obtain ⟨A1, c1, rfl, hc1⟩ := own_form hown
  obtain ⟨k0, f0, z0⟩ := blk hb (new1 _ _ _)
  go_wp2_with fail
  have R0 : ((w1.setCell ⟨w.heap.size, 0, none⟩ (.int .i64 cap)).setCell ⟨w.heap.size, 1, none⟩ (.slice A1 l.length c1)).heap[w.heap.size]? = some (.cells #[.int .i64 cap, .slice A1 l.length c1] 24 (0, 0)) := blk_set (blk_set (blkb hb (new1 _ _ _) (by simp; omega)) _) _
  have R1 : ((w1.setCell ⟨w.heap.size, 0, none⟩ (.int .i64 cap)).setCell ⟨w.heap.size, 1, none⟩ (.slice A1 l.length c1)).heap[w.heap.size + 1]? = some (.cells #[.int .i64 0, .slice none 0 0] 24 (0, 0)) := blk_far (blk_far (blkb hb (new1' _ _ _) (by simp)) (by simp) _) (by simp) _
  have O2 : ((w1.setCell ⟨w.heap.size, 0, none⟩ (.int .i64 cap)).setCell ⟨w.heap.size, 1, none⟩ (.slice A1 l.length c1)).ownsRow (w.heap.size + 2) 42 9 (.slice A1 l.length c1) l.length (l.flatMap Page.cells) := by
    have := ownsRow_setCell_below (a := ⟨w.heap.size, 1, none⟩) (ownsRow_setCell_below (a := ⟨w.heap.size, 0, none⟩) hown (by simp; omega) (.int .i64 cap)) (by simp; omega) (.slice A1 l.length c1)
    simpa using this
  have B2 : Below w.heap.size w ((w1.setCell ⟨w.heap.size, 0, none⟩ (.int .i64 cap)).setCell ⟨w.heap.size, 1, none⟩ (.slice A1 l.length c1)) := ((bl_on (bl_al (bl_al (Below.refl _ _) _) _) hb).setCell (Nat.le_refl _) _).setCell (Nat.le_refl _) _
  generalize ((w1.setCell ⟨w.heap.size, 0, none⟩ (.int .i64 cap)).setCell ⟨w.heap.size, 1, none⟩ (.slice A1 l.length c1)) = W2 at R0 R1 O2 B2 ⊢
  clear hb hown k0 f0 z0
  refine (valid_any _ cap l W2 (Sl.of_own O2) hn hwf.at).mono ?_
  rw [HV.out]
  rintro e w3 ⟨rfl, hb3⟩
  have R0' := hide (blkb hb3 R0 (blk_lt R0))
  have R1' := hide (blkb hb3 R1 (blk_lt R1))
  have O3 := own_below O2 hb3
  have B3 := bl_on B2 hb3
  clear hb3 R0 R1 O2 B2
  have hcap : 1 ≤ cap ∧ cap ≤ 256 ∧ (l.length : Int) ≤ cap := by have := HV.out; simp [valid] at this; omega
  obtain ⟨hcap1, hcap2, hcap3⟩ := hcap
  go_wp2
  go_loopw [16] (fun i wr => ∃ k : Nat, k ≤ ps.length ∧ i = .int .i64 k ∧ PutInv w cap (putAll cap l (ps.take k)) wr) (fun i _ => ps.length - (intOf i).toNat)
  case atStart => exact ⟨0, by omega, rfl, B3, A1, c1, R0'.out, R1'.out, O3⟩
  case round =>
    obtain ⟨k, hk, rfl, hinv⟩ := hrel
    clear R0' R1' O3 B3
    by_cases hlt : k < ps.length
    · have HS := hide (putAll_succ (cap := cap) (l := l) hlt)
      have hl1 := putAll_len (ps.take k) hcap3
      have hw1 := putAll_wf (cap := cap) (ps.take k) hwf (fun q hq => hpw q (List.mem_of_mem_take hq))
      generalize putAll cap l (ps.take k) = l1 at hinv HS hl1 hw1
      have hp := hpw.at k hlt
      obtain ⟨B, A', c', r0, r1, o1⟩ := hinv
      obtain ⟨b, off, rfl, hbB, g0, g1, g2, g3, g4, g5, g6, g7, g8⟩ := Page.at_ (hau.below B) hlt
      generalize ps[k] = p at g0 g1 g2 g3 g4 g5 g6 g7 g8 hp HS
      cases hx : cachable p with
      | false =>
        have Hx := hide hx; clear hx
        have O' := o1.alloc (.cells p.cells.toArray 42)
        go_wp2_with (go_at_call 21; refine (cachable_any p _ hp.1 hp.2).mono ?_; rw [Hx.out]; rintro e w4 ⟨rfl, hb4⟩)
        go_roundw
        case rel => exact ⟨k + 1, by omega, by go_num, by rw [HS.out]; unfold put1; rw [Hx.out]; exact ⟨bl_on (bl_al B _) hb4, A', c', blkb hb4 (blk_al r0 _) (by have := blk_lt r0; simp; omega), blkb hb4 (blk_al r1 _) (by have := blk_lt r1; simp; omega), own_below O' hb4⟩⟩
        case measure => simp [intOf]; omega
      | true =>
        have Hx := hide hx; clear hx
        have O' := o1.alloc (.cells p.cells.toArray 42)
        have HNE := own_ne_ge o1 (Nat.le_refl _)
        go_wp2_with fail
        refine (cachable_any p _ hp.1 hp.2).mono ?_
        rw [Hx.out]
        rintro e w4 ⟨rfl, hb4⟩
        have Rp := blkb hb4 (new0 wr _) (by simp)
        have R0 := blkb hb4 (blk_al r0 _) (by have := blk_lt r0; simp; omega)
        have R1 := blkb hb4 (blk_al r1 _) (by have := blk_lt r1; simp; omega)
        have O4 := own_below O' hb4
        have B4 := bl_on (bl_al B _) hb4
        have z1 := blk_lt r1
        have z2 : w.heap.size + 1 < wr.heap.size := z1
        clear r0 r1 o1 O' hb4 B g0 g1 g2 g3 g4 g5 g6 g7 g8
        obtain ⟨k0, f0, z0⟩ := blkw R0
        obtain ⟨kp, fp, zp⟩ := blkw Rp
        go_wp2_with fail
        refine (index_any _ cap l1 p.line w4 (Sl.of_own O4) (by omega)).mono ?_
        by_cases hi : indexOf l1 p.line < l1.length
        · rw [idx_hit hi]
          rintro e w5 ⟨rfl, hb5⟩
          have HP := hide (put1_hit (cap := cap) Hx.out hi)
          generalize indexOf l1 p.line = j at hi HP ⊢
          replace Rp := blkb hb5 Rp (blk_lt Rp)
          replace R0 := blkb hb5 R0 (blk_lt R0)
          replace R1 := blkb hb5 R1 (blk_lt R1)
          replace O4 := own_below O4 hb5
          replace B4 := bl_on B4 hb5
          clear hb5 k0 f0 z0 kp fp zp
          obtain ⟨k0, f0, z0⟩ := blkw R0
          obtain ⟨kp, fp, zp⟩ := blkw Rp
          have hj1 : (0 : Int) ≤ (j : Int) := by omega
          have hj2 : (j : Int) < (l1.length : Int) := by omega
          obtain ⟨g, off2, rfl, hgB, q0, q1, q2, q3, q4, q5, q6, q7, q8⟩ := Page.at_ (At.of_own O4) hi
          generalize l1[j] = old at q0 q1 q2 q3 q4 q5 q6 q7 q8 HP
          by_cases hh : p.head < old.head
          · go_wp2
            go_quiet (fail)
            go_wp2_with fail
            change Calls _ _ _ (put9 (w5.drewN nq) wr.heap.size old) _
            have RW := put9_blk (n := nq) (p := old) Rp
            have GW := put9_grown w5 nq wr.heap.size old
            replace R0 := blkg GW R0 (by intro e; injection e; omega)
            replace R1 := blkg GW R1 (by intro e; injection e; omega)
            have OW := O4.kept GW (by rcases h9 : Value.ownBlock (.slice (some ⟨g, off2, none⟩) l1.length c') with _ | x; exact .inl rfl; exact .inr (by rw [← h9]; exact HNE))
            have BW := B4.grown GW B4.size (fun k hk => by injection hk; omega)
            generalize put9 (w5.drewN nq) wr.heap.size old = W at RW R0 R1 OW BW ⊢
            clear GW
            have HIF : Hid ((if p.head < old.head then old else p) = old) := hide (if_pos hh)
            have HL := List.length_eraseIdx_of_lt hi
            refine (delete_any _ l1 j _ _ rfl rfl (w.heap.size + 2) _ OW hi (by omega)).mono ?_
            rintro e w7 ⟨v7, rfl, O7, G7, hv7⟩
            rw [← HL] at O7
            have Hlen : (l1.eraseIdx j).length ≤ 256 := by omega
            clear HL
            generalize l1.eraseIdx j = l3 at O7 HP Hlen
            obtain ⟨A7, c7, rfl, hc7⟩ := own_form O7
            replace RW := blkg G7 RW HNE
            replace R0 := blkg G7 R0 (own_ne_lt OW (by omega))
            replace R1 := blkg G7 R1 (own_ne_lt OW (by omega))
            have B7 := BW.grown G7 BW.size (fun k hk => by have := own_base OW k hk; omega)
            have O8 := ownsRow_setCell_below (a := ⟨w.heap.size, 1, none⟩) O7 (by simp) (.slice A7 l3.length c7)
            have B8 := B7.setCell (p := ⟨w.heap.size, 1, none⟩) (Nat.le_refl _) (.slice A7 l3.length c7)
            have R8 : (w7.setCell ⟨w.heap.size, 1, none⟩ (.slice A7 l3.length c7)).heap[w.heap.size]? = some (.cells #[.int .i64 cap, .slice A7 l3.length c7] 24 (0, 0)) := blk_set R0 _
            have R9 := blk_far R1 (a := ⟨w.heap.size, 1, none⟩) (by simp) (.slice A7 l3.length c7)
            clear hv7 BW OW Rp O4 B4 q0 q1 q2 q3 q4 q5 q6 q7 q8 k0 f0 z0 kp fp zp
            obtain ⟨k0, f0, z0⟩ := blkw R0
            obtain ⟨kp, fp, zp⟩ := blkw RW
            have z7 := blk_lt R1
            go_wp2_with fail
            clear k0 f0 z0 kp fp zp
            have hsz : (w7.setCell ⟨w.heap.size, 1, none⟩ (.slice A7 l3.length c7)).heap.size = w7.heap.size := by simp [World.setCell]
            generalize (w7.setCell ⟨w.heap.size, 1, none⟩ (.slice A7 l3.length c7)) = w8 at R8 R9 O8 B8 hsz ⊢
            rw [← hsz]
            clear hsz
            have z8 := blk_lt R9
            refine (insert_any _ l3 old 0 w8.heap.size (w.heap.size + 2) 0 rfl _ (Nat.zero_le _) (by omega) (O8.alloc _) (by simp; omega) (new0 _ _) (own_ne_ge O8 (Nat.le_refl _))).mono ?_
            rintro e w6 ⟨v6, rfl, O6, G6, hv6⟩
            obtain ⟨A6, c6, rfl, hc6⟩ := own_form O6
            replace R8 := blkg G6 (blk_al R8 _) (own_ne_lt O8 (by omega))
            replace R9 := blkg G6 (blk_al R9 _) (own_ne_lt O8 (by omega))
            have B6 := (bl_al B8 (.cells old.cells.toArray 42)).grown G6 (by simp; omega) (fun k hk => by have := own_base O8 k hk; omega)
            clear RW R0 R1 O8 B8 O7 G7 G6 hv6 B7
            have z6 := blk_lt R9
            have hcm6 := own_cap O6
            obtain ⟨k0, f0, z0⟩ := blkw R8
            go_wp2
            go_roundw
            case rel => exact ⟨k + 1, by omega, by go_num, by rw [HS.out, HP.out, HIF.out]; exact put_close hcap1 B6 R8 R9 O6⟩
            case measure => simp [intOf]; omega
          · go_wp2
            go_quiet (fail)
            go_wp2_with fail
            have RW : (w5.drewN nq).heap[wr.heap.size]? = some (.cells #[.int .i64 p.line, .int .u64 p.head, .int .u64 p.d0, .int .u64 p.d1, .int .u64 p.d2, .int .u64 p.d3, .int .u64 p.d4, .int .u64 p.d5, .int .u64 p.d6] 42 (0, 0)) := Rp
            replace R0 : (w5.drewN nq).heap[w.heap.size]? = _ := R0
            replace R1 : (w5.drewN nq).heap[w.heap.size + 1]? = _ := R1
            have OW := O4.kept (gb_drewN w5 nq none) (by rcases h9 : Value.ownBlock (.slice (some ⟨g, off2, none⟩) l1.length c') with _ | x; exact .inl rfl; exact .inr (by intro e; cases e))
            have BW := bl_dr B4 nq
            generalize w5.drewN nq = W at RW R0 R1 OW BW ⊢
            have HIF : Hid ((if p.head < old.head then old else p) = p) := hide (if_neg (by omega))
            have HL := List.length_eraseIdx_of_lt hi
            refine (delete_any _ l1 j _ _ rfl rfl (w.heap.size + 2) _ OW hi (by omega)).mono ?_
            rintro e w7 ⟨v7, rfl, O7, G7, hv7⟩
            rw [← HL] at O7
            have Hlen : (l1.eraseIdx j).length ≤ 256 := by omega
            clear HL
            generalize l1.eraseIdx j = l3 at O7 HP Hlen
            obtain ⟨A7, c7, rfl, hc7⟩ := own_form O7
            replace RW := blkg G7 RW HNE
            replace R0 := blkg G7 R0 (own_ne_lt OW (by omega))
            replace R1 := blkg G7 R1 (own_ne_lt OW (by omega))
            have B7 := BW.grown G7 BW.size (fun k hk => by have := own_base OW k hk; omega)
            have O8 := ownsRow_setCell_below (a := ⟨w.heap.size, 1, none⟩) O7 (by simp) (.slice A7 l3.length c7)
            have B8 := B7.setCell (p := ⟨w.heap.size, 1, none⟩) (Nat.le_refl _) (.slice A7 l3.length c7)
            have R8 : (w7.setCell ⟨w.heap.size, 1, none⟩ (.slice A7 l3.length c7)).heap[w.heap.size]? = some (.cells #[.int .i64 cap, .slice A7 l3.length c7] 24 (0, 0)) := blk_set R0 _
            have R9 := blk_far R1 (a := ⟨w.heap.size, 1, none⟩) (by simp) (.slice A7 l3.length c7)
            clear hv7 BW OW Rp O4 B4 q0 q1 q2 q3 q4 q5 q6 q7 q8 k0 f0 z0 kp fp zp
            obtain ⟨k0, f0, z0⟩ := blkw R0
            obtain ⟨kp, fp, zp⟩ := blkw RW
            have z7 := blk_lt R1
            go_wp2_with fail
            clear k0 f0 z0 kp fp zp
            have hsz : (w7.setCell ⟨w.heap.size, 1, none⟩ (.slice A7 l3.length c7)).heap.size = w7.heap.size := by simp [World.setCell]
            generalize (w7.setCell ⟨w.heap.size, 1, none⟩ (.slice A7 l3.length c7)) = w8 at R8 R9 O8 B8 hsz ⊢
            rw [← hsz]
            clear hsz
            have z8 := blk_lt R9
            refine (insert_any _ l3 p 0 w8.heap.size (w.heap.size + 2) 0 rfl _ (Nat.zero_le _) (by omega) (O8.alloc _) (by simp; omega) (new0 _ _) (own_ne_ge O8 (Nat.le_refl _))).mono ?_
            rintro e w6 ⟨v6, rfl, O6, G6, hv6⟩
            obtain ⟨A6, c6, rfl, hc6⟩ := own_form O6
            replace R8 := blkg G6 (blk_al R8 _) (own_ne_lt O8 (by omega))
            replace R9 := blkg G6 (blk_al R9 _) (own_ne_lt O8 (by omega))
            have B6 := (bl_al B8 (.cells p.cells.toArray 42)).grown G6 (by simp; omega) (fun k hk => by have := own_base O8 k hk; omega)
            clear RW R0 R1 O8 B8 O7 G7 G6 hv6 B7
            have z6 := blk_lt R9
            have hcm6 := own_cap O6
            obtain ⟨k0, f0, z0⟩ := blkw R8
            go_wp2
            go_roundw
            case rel => exact ⟨k + 1, by omega, by go_num, by rw [HS.out, HP.out, HIF.out]; exact put_close hcap1 B6 R8 R9 O6⟩
            case measure => simp [intOf]; omega
        · rw [idx_miss hi]
          rintro e w5 ⟨rfl, hb5⟩
          replace Rp := blkb hb5 Rp (blk_lt Rp)
          replace R0 := blkb hb5 R0 (blk_lt R0)
          replace R1 := blkb hb5 R1 (blk_lt R1)
          replace O4 := own_below O4 hb5
          replace B4 := bl_on B4 hb5
          clear hb5 k0 f0 z0 kp fp zp
          obtain ⟨k0, f0, z0⟩ := blkw R0
          obtain ⟨kp, fp, zp⟩ := blkw Rp
          go_wp2_with fail
          refine (insert_any _ l1 p 0 w5.heap.size (w.heap.size + 2) 0 rfl _ (Nat.zero_le _) (by omega) (O4.alloc _) (by simp; omega) (new0 _ _) (own_ne_ge O4 (Nat.le_refl _))).mono ?_
          rintro e w6 ⟨v6, rfl, O6, G6, hv6⟩
          obtain ⟨A6, c6, rfl, hc6⟩ := own_form O6
          replace R0 := blkg G6 (blk_al R0 _) (own_ne_lt O4 (by omega))
          replace R1 := blkg G6 (blk_al R1 _) (own_ne_lt O4 (by omega))
          have B6 := (bl_al B4 (.cells p.cells.toArray 42)).grown G6 (by simp; omega) (fun k hk => by have := own_base O4 k hk; omega)
          clear Rp O4 B4 G6 hv6 k0 f0 z0 kp fp zp
          have z6 := blk_lt R1
          have hcm6 := own_cap O6
          obtain ⟨k0, f0, z0⟩ := blkw R0
          go_wp2
          go_roundw
          case rel => exact ⟨k + 1, by omega, by go_num, by rw [HS.out, put1_miss Hx.out hi]; exact put_close hcap1 B6 R0 R1 O6⟩
          case measure => simp [intOf]; omega
    · obtain ⟨B, A', c', r0, r1, o1⟩ := hinv
      obtain ⟨k0, f0, z0⟩ := blkw r0
      obtain ⟨k1, f1, z1⟩ := blkw r1
      obtain rfl : k = ps.length := by omega
      rw [List.take_length] at *
      have oo := ownsRow_setCell_below (a := ⟨w.heap.size + 1, 1, none⟩) (ownsRow_setCell_below (a := ⟨w.heap.size + 1, 0, none⟩) o1 (by simp) (.int .i64 cap)) (by simp) (.slice A' (putAll cap l ps).length c')
      have bb := (B.setCell (p := ⟨w.heap.size + 1, 0, none⟩) (by simp) (.int .i64 cap)).setCell (p := ⟨w.heap.size + 1, 1, none⟩) (by simp) (.slice A' (putAll cap l ps).length c')
      go_wp2
      refine bodyPost_ret (v := .agg #[.int .i64 cap, .slice A' (putAll cap l ps).length c']) (by simp [results, Tryd.results15, go_sem, k0, k1, f0, f1]) rfl ⟨_, rfl, own_mono oo (by omega), bb⟩
end Go.Proofs.YtkodkbjmeepbiaaDoor
