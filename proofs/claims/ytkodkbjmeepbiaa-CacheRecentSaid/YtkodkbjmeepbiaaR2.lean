/- The walk of the law CacheRecent. Conditions: none on the lines and the capacity but what every reading gives. -/
import Derived.Test.YtkodkbjmeepbiaaC7
import Derived.Test.YtkodkbjmeepbiaaC8
import Derived.Test.YtkodkbjmeepbiaaR1
set_option linter.unusedVariables false
set_option linter.unusedSimpArgs false
namespace Go.Proofs.Ytkodkbjmeepbiaa
open Go.RowKit

abbrev ints (xs : List Int) : List Value := xs.map (Value.int .i64)
theorem ints_at {w : World} {B : Nat} {A : Option Addr} {xs : List Int} (h : At w B A (ints xs)) {k : Nat} (hk : k < xs.length) : ∃ b off, A = some ⟨b, off, none⟩ ∧ b < B ∧ w.cell? ⟨b, off + k, none⟩ = some (.int .i64 xs[k]) :=
  h k _ (by simp [hk])
theorem int_info : (Try.prog.info? 3).map (fun i => (i.zero, i.size, i.bytes)) = some (some (.int .i64 0), 1, 8) := by kernel_rfl

/-- What holds ahead of each round of the law's loop. -/
def RecInv (w : World) (B0 : Nat) (n : Int) (r : Value) (wr : World) : Prop := Below w.heap.size w wr ∧ ∃ (l : List Page) (A : Option Addr) (c : Nat) (Ar : Option Addr) (cr : Nat), r = .slice Ar l.length cr ∧
  wr.heap[B0]? = some (.cells #[.int .i64 n, .slice A l.length c] 26 (0, 0)) ∧ wr.ownsRow (B0 + 1) 33 9 (.slice A l.length c) l.length (l.flatMap Page.cells) ∧
  wr.ownsRow (B0 + 1) 3 1 (.slice Ar l.length cr) l.length (ints (lines l)) ∧ valid n l = true ∧ Wf l

theorem rec_close {w Wb wz : World} {B0 : Nat} {n line : Int} {l l' : List Page} {A5 : Option Addr} {c5 : Nat} {An : Option Addr} {cn : Nat} (hB0 : w.heap.size ≤ B0) (B : Below w.heap.size w Wb)
    (R0 : Wb.heap[B0]? = some (.cells #[.int .i64 n, .slice A5 l'.length c5] 26 (0, 0))) (O : Wb.ownsRow (B0 + 1) 33 9 (.slice A5 l'.length c5) l'.length (l'.flatMap Page.cells)) (hb : Below Wb.heap.size Wb wz)
    (On : wz.ownsRow Wb.heap.size 3 1 (.slice An (nextL line n (lines l) l.length).length cn) (nextL line n (lines l) l.length).length (ints (nextL line n (lines l) l.length)))
    (hl : lines l' = (line :: (lines l).filter (fun x => x != line)).take n.toNat) (hv : valid n l' = true) (hw : Wf l') : RecInv w B0 n (.slice An (nextL line n (lines l) l.length).length cn) wz := by
  have e : nextL line n (lines l) l.length = lines l' := by
    have := nextL_all (line := line) (n := n) (r := lines l)
    rw [show (lines l).length = l.length by simp [lines]] at this
    rw [this, hl]
  have e2 : (nextL line n (lines l) l.length).length = l'.length := by rw [e]; simp [lines]
  rw [e2, e] at On
  rw [e2]
  have hz := blk_lt R0
  exact ⟨bl_on B hb, l', A5, c5, An, cn, rfl, blkb hb R0 hz, own_below O hb, own_mono On (by omega), hv, hw⟩

set_option maxRecDepth 100000 in
set_option maxHeartbeats 8000000 in
theorem recent_any (v : Value) (xs : List Int) (cap : Int) (w : World) (h : Sl w w.heap.size 1 v xs.length (ints xs)) :
    Calls Try.prog 3 #[v, .int .i64 cap] w fun e w' => e = .returned (.bool true) ∧ Below w.heap.size w w' := by
  obtain ⟨A, c, rfl, hcc, hcm, hl, hat⟩ := h
  have HCM := hide hcm
  clear hcm
  by_cases hlen : xs.length ≤ 60
  · have hn1 : 1 ≤ cap % 10 + 1 := by omega
    have hn2 : cap % 10 + 1 ≤ 10 := by omega
    go_enter Try.func3, Try.ntmps3
    go_wp2_with fail
    refine (pick_any cap 10 w (by omega) (by omega)).mono ?_
    rintro e w' ⟨rfl, rfl⟩
    go_wp2_with fail
    have hn3 : IntKind.i64.wrap (cap % 10 + 1) = cap % 10 + 1 := by rw [IntKind.wrap_i64]; omega
    clear hn3
    generalize cap % 10 + 1 = n at hn1 hn2 ⊢
    refine (new_ok n w (by omega) (by omega)).mono ?_
    rintro e w1 ⟨rfl, hb1⟩
    have z1 := hb1.size
    go_wp2_with fail
    go_loopw [8, 9] (fun r i wr => ∃ k : Nat, k ≤ xs.length ∧ i = .int .i64 k ∧ RecInv w w1.heap.size n r wr) (fun _ i _ => xs.length - (intOf i).toNat)
    case atStart => exact ⟨0, by omega, rfl, bl_al hb1 _, [], none, 0, none, 0, rfl, new0 _ _, World.ownsRow_nil _ _ _ _, World.ownsRow_nil _ _ _ _, by rw [valid_iff]; simp; omega, by intro p hp; cases hp⟩
    case round =>
      obtain ⟨k, hk, rfl, hinv⟩ := hrel
      obtain ⟨B, l, A', c', Ar, cr, rfl, r0, o1, o2, hv, hw⟩ := hinv
      have HV := hide hv
      have hln : (l.length : Int) ≤ n := ((valid_iff n l).1 hv).2.2.1
      clear hv
      have z2 := blk_lt r0
      obtain ⟨k0, f0, z0⟩ := blkw r0
      by_cases hlt : k < xs.length
      · obtain ⟨b, off, rfl, hbB, g0⟩ := ints_at (hat.below B) hlt
        generalize xs[k] = x at g0
        go_wp2_with fail
        refine (pick_any x 20 wr (by omega) (by omega)).mono ?_
        rintro e w' ⟨rfl, rfl⟩
        have hx1 : 0 ≤ x % 20 := by omega
        have hx2 : x % 20 < 20 := by omega
        generalize x % 20 = y at hx1 hx2 ⊢
        by_cases hm : k % 3 = 2
        · by_cases hi : indexOf l (96 + y) < l.length
          · have HL := hide (get_lines HV.out hi)
            have HV2 := hide (get_valid HV.out hi)
            have HI := hide (indexOf_line hi)
            have hw2 : Wf (l[indexOf l (96 + y)] :: l.eraseIdx (indexOf l (96 + y))) := by
              intro q hq
              rcases List.mem_cons.1 hq with rfl | hq
              · exact hw _ (List.getElem_mem hi)
              · exact hw _ (List.mem_of_mem_eraseIdx hq)
            have hz3 : (l[indexOf l (96 + y)] :: l.eraseIdx (indexOf l (96 + y))).length = l.length := by
              rw [List.length_cons, List.length_eraseIdx_of_lt hi]; omega
            go_wp2_with fail
            refine (get_any (.slice A' l.length c') n (96 + y) l wr (Sl.of_own o1) (by omega) hw HV.out hi).mono ?_
            rintro e w5 ⟨v5, rfl, O5, hb5⟩
            generalize l.eraseIdx (indexOf l (96 + y)) = lt at O5 HL HV2 hw2 hz3
            generalize l[indexOf l (96 + y)] = p at O5 HL HV2 HI hw2 hz3 ⊢
            obtain ⟨p0, p1, p2, p3, p4, p5, p6, p7, p8⟩ := p
            have e0 := HI.out
            dsimp only at e0
            subst e0
            clear HI
            rw [← hz3] at O5
            generalize hl5 : (⟨96 + y, p1, p2, p3, p4, p5, p6, p7, p8⟩ :: lt : List Page) = l5 at O5 HL HV2 hw2 hz3
            clear hl5
            obtain ⟨A5, c5, rfl, hc5⟩ := own_form O5
            have R5 := blkb hb5 r0 (blk_lt r0)
            clear k0 f0 z0
            obtain ⟨k0, f0, z0⟩ := blkw R5
            have z6 := hb5.size
            have HZ3 := hide hz3
            clear hz3
            go_wp2
            have R0 : ((((w5.setCell ⟨w1.heap.size, 0, none⟩ (.int .i64 n)).setCell ⟨w1.heap.size, 1, none⟩ (.slice A5 l5.length c5)).alloc (.cells #[.int .i64 n, .slice A5 l5.length c5] 26 (0, 0))).alloc (.cells #[.int .i64 (96 + y), .int .u64 p1, .int .u64 p2, .int .u64 p3, .int .u64 p4, .int .u64 p5, .int .u64 p6, .int .u64 p7, .int .u64 p8] 33 (0, 0))).heap[w1.heap.size]? = some (.cells #[.int .i64 n, .slice A5 l5.length c5] 26 (0, 0)) := blk_al (blk_al (blk_set (blk_set R5 (i := 0) (.int .i64 n)) (i := 1) (.slice A5 l5.length c5)) _) _
            have O := ((own_mono (base' := w1.heap.size + 1) (ownsRow_setCell_below (a := ⟨w1.heap.size, 1, none⟩) (ownsRow_setCell_below (a := ⟨w1.heap.size, 0, none⟩) O5 (by simp; omega) (.int .i64 n)) (by simp; omega) (.slice A5 l5.length c5)) (by omega)).alloc (.cells #[.int .i64 n, .slice A5 l5.length c5] 26 (0, 0))).alloc (.cells #[.int .i64 (96 + y), .int .u64 p1, .int .u64 p2, .int .u64 p3, .int .u64 p4, .int .u64 p5, .int .u64 p6, .int .u64 p7, .int .u64 p8] 33 (0, 0))
            have Or := ((ownsRow_setCell_below (a := ⟨w1.heap.size, 1, none⟩) (ownsRow_setCell_below (a := ⟨w1.heap.size, 0, none⟩) (own_below o2 hb5) (by simp) (.int .i64 n)) (by simp) (.slice A5 l5.length c5)).alloc (.cells #[.int .i64 n, .slice A5 l5.length c5] 26 (0, 0))).alloc (.cells #[.int .i64 (96 + y), .int .u64 p1, .int .u64 p2, .int .u64 p3, .int .u64 p4, .int .u64 p5, .int .u64 p6, .int .u64 p7, .int .u64 p8] 33 (0, 0))
            have B5 := bl_al (bl_al (((bl_on B hb5).setCell (p := ⟨w1.heap.size, 0, none⟩) z1 (.int .i64 n)).setCell (p := ⟨w1.heap.size, 1, none⟩) z1 (.slice A5 l5.length c5)) (.cells #[.int .i64 n, .slice A5 l5.length c5] 26 (0, 0))) (.cells #[.int .i64 (96 + y), .int .u64 p1, .int .u64 p2, .int .u64 p3, .int .u64 p4, .int .u64 p5, .int .u64 p6, .int .u64 p7, .int .u64 p8] 33 (0, 0))
            clear B
            have B := B5
            have hsz : ((((w5.setCell ⟨w1.heap.size, 0, none⟩ (.int .i64 n)).setCell ⟨w1.heap.size, 1, none⟩ (.slice A5 l5.length c5)).alloc (.cells #[.int .i64 n, .slice A5 l5.length c5] 26 (0, 0))).alloc (.cells #[.int .i64 (96 + y), .int .u64 p1, .int .u64 p2, .int .u64 p3, .int .u64 p4, .int .u64 p5, .int .u64 p6, .int .u64 p7, .int .u64 p8] 33 (0, 0))).heap.size = w5.heap.size + 1 + 1 := by simp [World.setCell, World.alloc]
            clear k0 f0 z0 R5 O5 hb5 r0 o1 o2 g0 B5
            generalize ((((w5.setCell ⟨w1.heap.size, 0, none⟩ (.int .i64 n)).setCell ⟨w1.heap.size, 1, none⟩ (.slice A5 l5.length c5)).alloc (.cells #[.int .i64 n, .slice A5 l5.length c5] 26 (0, 0))).alloc (.cells #[.int .i64 (96 + y), .int .u64 p1, .int .u64 p2, .int .u64 p3, .int .u64 p4, .int .u64 p5, .int .u64 p6, .int .u64 p7, .int .u64 p8] 33 (0, 0))) = Wb at R0 O Or B hsz ⊢
            rw [← hsz]
            clear hsz
            have z5 := blk_lt R0
            have hlines : (lines l).length = l.length := by simp [lines]
            have HLN := hide hlines
            clear hlines
            have Oat := At.of_own Or
            have HZ : Hid (nextL (96 + y) n (lines l) 0 = [96 + y]) := hide (nextL_zero hn1)
            go_loopw [14, 15] (fun nx j w2 => ∃ (m : Nat) (An : Option Addr) (cn : Nat), m ≤ l.length ∧ j = .int .i64 m ∧ nx = .slice An (nextL (96 + y) n (lines l) m).length cn ∧ w2.ownsRow Wb.heap.size 3 1 (.slice An (nextL (96 + y) n (lines l) m).length cn) (nextL (96 + y) n (lines l) m).length (ints (nextL (96 + y) n (lines l) m)) ∧ Below Wb.heap.size Wb w2) (fun _ j _ => l.length - (intOf j).toNat)
            case atStart =>
              refine ⟨0, some ⟨Wb.heap.size, 0, none⟩, 1, by omega, rfl, by rw [HZ.out]; rfl, ?_, (Below.refl _ _).alloc (Nat.le_refl _) _⟩
              rw [HZ.out]
              exact own_of_row (X := [.int .i64 (96 + y)]) (cap := 1) (new0 Wb _) (Nat.le_refl _) (Nat.le_refl _) (by simp [maxLen]) rfl rfl rfl
            case round =>
              obtain ⟨m, An, cn, hm1, rfl, rfl, On, Bn⟩ := hrel
              by_cases hmt : m < l.length
              · have hmt2 : m < (lines l).length := by rw [HLN.out]; exact hmt
                obtain ⟨gr, offr, rfl, hgr, q0⟩ := ints_at (Oat.below Bn) hmt2
                have hnl := nextL_len (line := 96 + y) (n := n) (r := lines l) (k := m) (by omega)
                have HS1 := hide (nextL_skip (line := 96 + y) (n := n) hmt2)
                have HS2 := hide (nextL_put (line := 96 + y) (n := n) hmt2)
                generalize hq : (lines l)[m] = q at q0 HS1 HS2
                have HQ := hide hq
                clear hq
                by_cases hc1 : q = 96 + y
                · have hc1' : (q == 96 + y) = true := by simp [hc1]
                  have hc2' : (q != 96 + y) = false := by simp [hc1]
                  have HC1 := hide hc1
                  clear hc1
                  go_wp2
                  go_roundw
                  case rel => exact ⟨m + 1, An, cn, by omega, by go_num, by rw [HS1.out (.inl HC1.out)], by rw [HS1.out (.inl HC1.out)]; exact On, Bn⟩
                  case measure => simp [intOf]; omega
                · have hc1' : (q == 96 + y) = false := by simp [hc1]
                  have hc2' : (q != 96 + y) = true := by simp [hc1]
                  have HC1 := hide hc1
                  clear hc1
                  by_cases hc3 : ((nextL (96 + y) n (lines l) m).length : Int) < n
                  · have HP := hide (HS2.out HC1.out hc3)
                    generalize hN2 : nextL (96 + y) n (lines l) (m + 1) = N2 at HP HS1 HS2 ⊢
                    have HN := hide hN2
                    clear hN2
                    generalize nextL (96 + y) n (lines l) m = N1 at On hnl hc3 HP HS1 HS2 ⊢
                    go_wp2_with (at_builtin; refine app_one (w0 := Wb) (W := wr) Wb.heap.size rfl (.tmp 91) (.tmp 96) 22 3 _ 1 8 rfl Try.underlying22 int_info rfl (by omega) (by omega) _ N1.length (ints N1) [.int .i64 q] rfl rfl rfl (by intro u hu; simp at hu; subst hu; rfl) On Bn Bn.size (by omega) ?_; intro v7 w7 O7 B7 _ _; have HF := own_form O7; obtain ⟨A7, c7, rfl, hc7⟩ := HF)
                    go_roundw
                    case rel => exact ⟨m + 1, A7, c7, by omega, by go_num, by rw [HN.out, HP.out]; simp, by rw [HN.out, HP.out]; simpa [ints] using O7, B7⟩
                    case measure => simp [intOf]; omega
                  · go_wp2
                    go_roundw
                    case rel => exact ⟨m + 1, An, cn, by omega, by go_num, by rw [HS1.out (.inr (by omega))], by rw [HS1.out (.inr (by omega))]; exact On, Bn⟩
                    case measure => simp [intOf]; omega
              · obtain rfl : m = l.length := by omega
                go_wp2
                go_roundw
                case rel => exact ⟨k + 1, by omega, by go_num, rec_close z1 B R0 O Bn On HL.out HV2.out hw2⟩
                case measure => simp [intOf]; omega
          · go_wp2_with fail
            refine (get_miss (.slice A' l.length c') n (96 + y) l wr (Sl.of_own o1) (by omega) hw HV.out hi).mono ?_
            rintro e w5 ⟨v5, rfl, O5, hb5⟩
            obtain ⟨A5, c5, rfl, hc5⟩ := own_form O5
            have R5 := blkb hb5 r0 (blk_lt r0)
            clear k0 f0 z0
            obtain ⟨k0, f0, z0⟩ := blkw R5
            have z6 := hb5.size
            go_wp2
            refine ⟨⟨k + 1, by omega, by go_num, bl_al (bl_al (((bl_on B hb5).setCell (p := ⟨w1.heap.size, 0, none⟩) z1 (.int .i64 n)).setCell (p := ⟨w1.heap.size, 1, none⟩) z1 (.slice A5 l.length c5)) _) _, l, A5, c5, Ar, cr, rfl, ?_, ?_, ?_, HV.out, hw⟩, by simp [intOf]; omega⟩
            · exact blk_al (blk_al (blk_set (blk_set R5 (i := 0) (.int .i64 n)) (i := 1) (.slice A5 l.length c5)) _) _
            · exact ((own_mono (base' := w1.heap.size + 1) (ownsRow_setCell_below (a := ⟨w1.heap.size, 1, none⟩) (ownsRow_setCell_below (a := ⟨w1.heap.size, 0, none⟩) O5 (by simp; omega) (.int .i64 n)) (by simp; omega) (.slice A5 l.length c5)) (by omega)).alloc _).alloc _
            · exact ((ownsRow_setCell_below (a := ⟨w1.heap.size, 1, none⟩) (ownsRow_setCell_below (a := ⟨w1.heap.size, 0, none⟩) (own_below o2 hb5) (by simp) (.int .i64 n)) (by simp) (.slice A5 l.length c5)).alloc _).alloc _
        · have hp : cachable ⟨96 + y, ((k : Int) + 1) * 256, 0, 0, 0, 0, 0, 0, 0⟩ = true := by simp [cachable]; omega
          have HL := hide (put1_lines HV.out hp)
          have HV2 := hide (put1_valid HV.out hp)
          have hw2 : Wf (put1 n l ⟨96 + y, ((k : Int) + 1) * 256, 0, 0, 0, 0, 0, 0, 0⟩) := put1_wf hw (by simp; omega)
          go_wp2_with fail
          have hS := Sl.box wr 33 9 1 ([(⟨96 + y, ((k : Int) + 1) * 256, 0, 0, 0, 0, 0, 0, 0⟩ : Page)].flatMap Page.cells) rfl (by omega)
          refine (put_any (.slice A' l.length c') (.slice (some ⟨wr.heap.size, 0, none⟩) 1 1) n l [⟨96 + y, ((k : Int) + 1) * 256, 0, 0, 0, 0, 0, 0, 0⟩] _ ((Sl.of_own o1).on (bl_al (Below.refl _ _) _)) (by omega) hw hS (by simp) (by intro q hq; simp at hq; subst hq; simp; omega) HV.out).mono ?_
          rintro e w5 ⟨v5, rfl, O5, hb5⟩
          change w5.ownsRow _ _ _ v5 (put1 n l ⟨96 + y, ((k : Int) + 1) * 256, 0, 0, 0, 0, 0, 0, 0⟩).length ((put1 n l ⟨96 + y, ((k : Int) + 1) * 256, 0, 0, 0, 0, 0, 0, 0⟩).flatMap Page.cells) at O5
          generalize put1 n l ⟨96 + y, ((k : Int) + 1) * 256, 0, 0, 0, 0, 0, 0, 0⟩ = l5 at O5 HL HV2 hw2
          obtain ⟨A5, c5, rfl, hc5⟩ := own_form O5
          have R5 := blkb hb5 (blk_al r0 _) (by simp; omega)
          have R0 : ((w5.setCell ⟨w1.heap.size, 0, none⟩ (.int .i64 n)).setCell ⟨w1.heap.size, 1, none⟩ (.slice A5 l5.length c5)).heap[w1.heap.size]? = some (.cells #[.int .i64 n, .slice A5 l5.length c5] 26 (0, 0)) := blk_set (blk_set R5 _) _
          have O := own_mono (base' := w1.heap.size + 1) (ownsRow_setCell_below (a := ⟨w1.heap.size, 1, none⟩) (ownsRow_setCell_below (a := ⟨w1.heap.size, 0, none⟩) O5 (by simp; omega) (.int .i64 n)) (by simp; omega) (.slice A5 l5.length c5)) (by simp; omega)
          have Or := ownsRow_setCell_below (a := ⟨w1.heap.size, 1, none⟩) (ownsRow_setCell_below (a := ⟨w1.heap.size, 0, none⟩) (own_below (o2.alloc _) hb5) (by simp) (.int .i64 n)) (by simp) (.slice A5 l5.length c5)
          have B5 := ((bl_on (bl_al B _) hb5).setCell (p := ⟨w1.heap.size, 0, none⟩) z1 (.int .i64 n)).setCell (p := ⟨w1.heap.size, 1, none⟩) z1 (.slice A5 l5.length c5)
          clear k0 f0 z0
          obtain ⟨k0, f0, z0⟩ := blkw R5
          go_wp2
          clear B
          have B := B5
          have hsz : ((w5.setCell ⟨w1.heap.size, 0, none⟩ (.int .i64 n)).setCell ⟨w1.heap.size, 1, none⟩ (.slice A5 l5.length c5)).heap.size = w5.heap.size := by simp [World.setCell]
          clear k0 f0 z0 R5 O5 hb5 hS r0 o1 o2 g0 B5
          generalize ((w5.setCell ⟨w1.heap.size, 0, none⟩ (.int .i64 n)).setCell ⟨w1.heap.size, 1, none⟩ (.slice A5 l5.length c5)) = Wb at R0 O Or B hsz ⊢
          rw [← hsz]
          clear hsz
          have z5 := blk_lt R0
          have hlines : (lines l).length = l.length := by simp [lines]
          have HLN := hide hlines
          clear hlines
          have Oat := At.of_own Or
          have HZ : Hid (nextL (96 + y) n (lines l) 0 = [96 + y]) := hide (nextL_zero hn1)
          go_loopw [14, 15] (fun nx j w2 => ∃ (m : Nat) (An : Option Addr) (cn : Nat), m ≤ l.length ∧ j = .int .i64 m ∧ nx = .slice An (nextL (96 + y) n (lines l) m).length cn ∧ w2.ownsRow Wb.heap.size 3 1 (.slice An (nextL (96 + y) n (lines l) m).length cn) (nextL (96 + y) n (lines l) m).length (ints (nextL (96 + y) n (lines l) m)) ∧ Below Wb.heap.size Wb w2) (fun _ j _ => l.length - (intOf j).toNat)
          case atStart =>
            refine ⟨0, some ⟨Wb.heap.size, 0, none⟩, 1, by omega, rfl, by rw [HZ.out]; rfl, ?_, (Below.refl _ _).alloc (Nat.le_refl _) _⟩
            rw [HZ.out]
            exact own_of_row (X := [.int .i64 (96 + y)]) (cap := 1) (new0 Wb _) (Nat.le_refl _) (Nat.le_refl _) (by simp [maxLen]) rfl rfl rfl
          case round =>
            obtain ⟨m, An, cn, hm1, rfl, rfl, On, Bn⟩ := hrel
            by_cases hmt : m < l.length
            · have hmt2 : m < (lines l).length := by rw [HLN.out]; exact hmt
              obtain ⟨gr, offr, rfl, hgr, q0⟩ := ints_at (Oat.below Bn) hmt2
              have hnl := nextL_len (line := 96 + y) (n := n) (r := lines l) (k := m) (by omega)
              have HS1 := hide (nextL_skip (line := 96 + y) (n := n) hmt2)
              have HS2 := hide (nextL_put (line := 96 + y) (n := n) hmt2)
              generalize hq : (lines l)[m] = q at q0 HS1 HS2
              have HQ := hide hq
              clear hq
              by_cases hc1 : q = 96 + y
              · have hc1' : (q == 96 + y) = true := by simp [hc1]
                have hc2' : (q != 96 + y) = false := by simp [hc1]
                have HC1 := hide hc1
                clear hc1
                go_wp2
                go_roundw
                case rel => exact ⟨m + 1, An, cn, by omega, by go_num, by rw [HS1.out (.inl HC1.out)], by rw [HS1.out (.inl HC1.out)]; exact On, Bn⟩
                case measure => simp [intOf]; omega
              · have hc1' : (q == 96 + y) = false := by simp [hc1]
                have hc2' : (q != 96 + y) = true := by simp [hc1]
                have HC1 := hide hc1
                clear hc1
                by_cases hc3 : ((nextL (96 + y) n (lines l) m).length : Int) < n
                · have HP := hide (HS2.out HC1.out hc3)
                  generalize hN2 : nextL (96 + y) n (lines l) (m + 1) = N2 at HP HS1 HS2 ⊢
                  have HN := hide hN2
                  clear hN2
                  generalize nextL (96 + y) n (lines l) m = N1 at On hnl hc3 HP HS1 HS2 ⊢
                  go_wp2_with (at_builtin; refine app_one (w0 := Wb) (W := wr) Wb.heap.size rfl (.tmp 91) (.tmp 96) 22 3 _ 1 8 rfl Try.underlying22 int_info rfl (by omega) (by omega) _ N1.length (ints N1) [.int .i64 q] rfl rfl rfl (by intro u hu; simp at hu; subst hu; rfl) On Bn Bn.size (by omega) ?_; intro v7 w7 O7 B7 _ _; have HF := own_form O7; obtain ⟨A7, c7, rfl, hc7⟩ := HF)
                  go_roundw
                  case rel => exact ⟨m + 1, A7, c7, by omega, by go_num, by rw [HN.out, HP.out]; simp, by rw [HN.out, HP.out]; simpa [ints] using O7, B7⟩
                  case measure => simp [intOf]; omega
                · go_wp2
                  go_roundw
                  case rel => exact ⟨m + 1, An, cn, by omega, by go_num, by rw [HS1.out (.inr (by omega))], by rw [HS1.out (.inr (by omega))]; exact On, Bn⟩
                  case measure => simp [intOf]; omega
            · obtain rfl : m = l.length := by omega
              go_wp2
              go_roundw
              case rel => exact ⟨k + 1, by omega, by go_num, rec_close z1 B R0 O Bn On HL.out HV2.out hw2⟩
              case measure => simp [intOf]; omega
      · obtain rfl : k = xs.length := by omega
        have hll : (lines l).length = l.length := by simp [lines]
        have HLL := hide hll
        clear hll
        go_wp2
        go_loopw [16] (fun j w2 => ∃ m : Nat, m ≤ l.length ∧ j = .int .i64 m ∧ Below wr.heap.size wr w2) (fun j _ => l.length - (intOf j).toNat)
        case atStart => exact ⟨0, by omega, rfl, Below.refl _ _⟩
        case round =>
          obtain ⟨m, hm1, rfl, B2⟩ := hrel
          have R2 := blkb B2 r0 z2
          clear k0 f0 z0
          obtain ⟨k0, f0, z0⟩ := blkw R2
          by_cases hmt : m < l.length
          · obtain ⟨g, off2, rfl, hgB, q0, q1, q2, q3, q4, q5, q6, q7, q8⟩ := Page.at_ ((At.of_own o1).below B2) hmt
            obtain ⟨gr, offr, rfl, hgr, q9⟩ := ints_at ((At.of_own o2).below B2) (k := m) (by rw [HLL.out]; exact hmt)
            rw [show (lines l)[m]'(by rw [HLL.out]; exact hmt) = l[m].line by simp [lines]] at q9
            clear q1 q2 q3 q4 q5 q6 q7 q8
            generalize l[m].line = y at q0 q9
            go_wp2
            go_quiet (fail)
            go_wp2_with fail
            go_roundw
            case rel => exact ⟨m + 1, by omega, by go_num, bl_dr B2 _⟩
            case measure => simp [intOf]; omega
          · obtain rfl : m = l.length := by omega
            go_wp2_with fail
            refine (awake_any _).mono ?_
            rintro e w9 ⟨rfl, hb9⟩
            go_wp2_with fail
            refine bodyPost_ret (v := .bool true) (by simp [results, Try.results3, go_sem]) rfl ⟨rfl, ?_⟩
            exact bl_on (bl_on B B2) hb9
  · go_enter Try.func3, Try.ntmps3
    go_wp2_with (go_at_call 4; refine (pick_any cap 10 w (by omega) (by omega)).mono ?_; rintro e w' ⟨rfl, rfl⟩)
    go_ret
    exact ⟨rfl, Below.refl _ _⟩
end Go.Proofs.Ytkodkbjmeepbiaa
