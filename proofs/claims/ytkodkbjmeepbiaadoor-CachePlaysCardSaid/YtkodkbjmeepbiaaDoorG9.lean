/- Walks: the reference's hints. Conditions: as each theorem names them. -/
import Derived.Test.YtkodkbjmeepbiaaDoorG8
set_option linter.unusedVariables false
set_option linter.unusedSimpArgs false
namespace Go.Proofs.YtkodkbjmeepbiaaDoor
open Go.RowKit

theorem filter_succ {l : List Page} {k : Nat} (hk : k < l.length) : (l.take (k + 1)).filter hintP = if hintP l[k] then (l.take k).filter hintP ++ [l[k]] else (l.take k).filter hintP := by
  rw [List.take_succ_eq_append_getElem hk, List.filter_append]
  cases h : hintP l[k] <;> simp [h]

set_option maxRecDepth 100000 in
set_option maxHeartbeats 8000000 in
theorem rhints_any (v : Value) (cap : Int) (l : List Page) (w : World) (h : Sl w w.heap.size 9 v l.length (l.flatMap Page.cells)) (hn : l.length ≤ 1000000) (hok : ∀ p ∈ l, p.ok) :
    Calls Tryd.prog 19 #[.agg #[.int .i64 cap, v]] w fun e w' => ∃ v', e = .returned v' ∧ w'.ownsRow w.heap.size 42 9 v' (hintsL cap l).length ((hintsL cap l).flatMap Page.cells) ∧ Below w.heap.size w w' := by
  have hform : ∃ A c, v = .slice A l.length c := by obtain ⟨A, c, rfl, _⟩ := h; exact ⟨A, c, rfl⟩
  obtain ⟨A, c, rfl⟩ := hform
  have hwf : Wf l := fun p hp => (hok p hp).1
  cases hv : valid cap l with
  | false =>
    have HV := hide hv
    have HL : Hid (hintsL cap l = []) := hide (by simp [hintsL, hv])
    clear hv
    go_enter Tryd.func19, Tryd.ntmps19
    go_wp2_with fail
    refine (rvalid_any _ cap l _ (h.on (bl_al (Below.refl _ _) _)) hn hwf.at).mono ?_
    rw [HV.out]
    rintro e w1 ⟨rfl, hb1⟩
    go_wp2
    go_ret
    exact ⟨_, rfl, by rw [HL.out]; exact World.ownsRow_nil _ _ _ _, (by repeat (first | exact Below.refl _ _ | assumption | (refine bl_al ?_ _) | (refine bl_dr ?_ _) | (refine bl_on ?_ (by assumption))))⟩
  | true =>
    have hfit := fit_valid hv hok
    have HV := hide hv
    have HL : Hid (hintsL cap l = l.filter hintP) := hide (by simp [hintsL, hv])
    clear hv
    go_enter Tryd.func19, Tryd.ntmps19
    go_wp2_with fail
    refine (rvalid_any _ cap l _ (h.on (bl_al (Below.refl _ _) _)) hn hwf.at).mono ?_
    rw [HV.out]
    rintro e w1 ⟨rfl, hb1⟩
    have R0i := hide (blkb hb1 (new0 _ _) (by simp))
    have B1 : Below w.heap.size w w1 := (by repeat (first | exact Below.refl _ _ | assumption | (refine bl_al ?_ _) | (refine bl_dr ?_ _) | (refine bl_on ?_ (by assumption))))
    clear hb1
    go_wp2
    go_loopw [3, 4] (fun s i wr => ∃ (k : Nat) (A' : Option Addr) (c' : Nat), k ≤ l.length ∧ i = .int .i64 k ∧ s = .slice A' ((l.take k).filter hintP).length c' ∧ Below w.heap.size w wr ∧ Hid (wr.heap[w.heap.size]? = some (.cells #[.int .i64 cap, .slice A l.length c] 30 (0, 0))) ∧
      wr.ownsRow (w.heap.size + 1) 42 9 (.slice A' ((l.take k).filter hintP).length c') ((l.take k).filter hintP).length (((l.take k).filter hintP).flatMap Page.cells)) (fun _ i _ => l.length - (intOf i).toNat)
    case atStart => exact ⟨0, none, 0, by omega, rfl, rfl, B1, R0i, World.ownsRow_nil _ _ _ _⟩
    case round =>
      obtain ⟨k, A', c', hk, rfl, rfl, hb, hrow, O⟩ := hrel
      clear R0i B1
      obtain ⟨k0, f0, z0⟩ := blkw hrow.out
      by_cases hlt : k < l.length
      · have HS := hide (filter_succ hlt)
        have hl1 : ((l.take k).filter hintP).length ≤ k := Nat.le_trans (List.length_filter_le _ _) (by simp; omega)
        generalize (l.take k).filter hintP = l1 at O HS hl1
        have hS := h.on hb
        obtain ⟨b, off, rfl, hbB, g0, g1, g2, g3, g4, g5, g6, g7, g8⟩ := Page.at_ (by obtain ⟨A'', c'', he, _, _, _, hat⟩ := hS; injection he with e1; subst e1; exact hat) hlt
        clear hS
        have hpf := hfit l[k] (List.getElem_mem hlt)
        generalize l[k] = p at g0 g1 g2 g3 g4 g5 g6 g7 g8 HS hpf
        obtain ⟨hpok, hp0, hp1⟩ := hpf
        have hd := hpok.2.1
        have HAG := hide (hints_agree p hpok)
        have Oh := hide O
        clear O
        go_wp2_with fail
        refine (rreadNode_any p _ hpok).mono ?_
        rintro e w2 ⟨L', b1, b2, hi, rl, rg, sA, sn, sc, code, rfl, hth, hb2⟩
        have HTH := hide hth
        clear hth
        have RP := blkb hb2 (new0 wr _) (by simp)
        have R0 := blkb hb2 (blk_al hrow.out _) (by simp; omega)
        have OW0 := own_below (Oh.out.alloc _) hb2
        have BW0 := bl_on (bl_al hb _) hb2
        clear hb2 k0 f0 z0 g0 g1 g2 g3 g4 g5 g6 g7 g8
        obtain ⟨k0, f0, z0⟩ := blkw R0
        obtain ⟨kp, fp, zp⟩ := blkw RP
        go_wp2_with fail
        refine (rlocate_any p.line _ hp0 hp1).mono ?_
        rintro e w4 ⟨s, i, rfl, hw4⟩
        have RNd : w4.heap[w2.heap.size]? = some (.cells #[.int .i64 L', .bool b1, .bool b2, .int .u32 hi, .int .i64 rl, .int .i64 rg, .slice sA sn sc] 73 (0, 0)) := by rw [← hw4]; exact new0 _ _
        have RP' := blk_al RP (.cells #[.int .i64 L', .bool b1, .bool b2, .int .u32 hi, .int .i64 rl, .int .i64 rg, .slice sA sn sc] 73 (0, 0))
        have R0' := blk_al R0 (.cells #[.int .i64 L', .bool b1, .bool b2, .int .u32 hi, .int .i64 rl, .int .i64 rg, .slice sA sn sc] 73 (0, 0))
        have OW := OW0.alloc (.cells #[.int .i64 L', .bool b1, .bool b2, .int .u32 hi, .int .i64 rl, .int .i64 rg, .slice sA sn sc] 73 (0, 0))
        have BW := bl_al BW0 (.cells #[.int .i64 L', .bool b1, .bool b2, .int .u32 hi, .int .i64 rl, .int .i64 rg, .slice sA sn sc] 73 (0, 0))
        rw [hw4] at RP' R0' OW BW
        clear hw4 RP R0 OW0 BW0 k0 f0 z0 kp fp zp
        have RP := RP'
        have R0 := R0'
        clear RP' R0'
        obtain ⟨k0, f0, z0⟩ := blkw R0
        obtain ⟨kp, fp, zp⟩ := blkw RP
        obtain ⟨kn, fn, zn⟩ := blkw RNd
        cases hl : (p.line == 96) with
        | true =>
          have HL1 := hide hl
          have R05 := R0
          have RP5 := RP
          have RNd5 := RNd
          have B5 := BW
          have O5 := OW
          generalize w4 = w5 at R05 RP5 RNd5 B5 O5 ⊢
          clear R0 RP RNd BW OW k0 f0 z0 kp fp zp kn fn zn
          obtain ⟨k0, f0, z0⟩ := blkw R05
          obtain ⟨kp, fp, zp⟩ := blkw RP5
          obtain ⟨kn, fn, zn⟩ := blkw RNd5
          have HP : Hid (hintP p = true) := hide (by simp [hintP, HL1.out])
          have hq := own_single w5 42 9 p.cells rfl
          have HQ := hide hq
          clear hq
          go_wp2_with (at_builtin; refine wpl_app (w5.alloc (.cells #[.int .i64 p.line, .int .u64 p.head, .int .u64 p.d0, .int .u64 p.d1, .int .u64 p.d2, .int .u64 p.d3, .int .u64 p.d4, .int .u64 p.d5, .int .u64 p.d6] 42 (0, 0))) rfl (.tmp 58) (.tmp 60) 22 rfl (w.heap.size + 1) 42 _ 9 72 Tryd.underlying22 page_info rfl (by omega) (.slice A' l1.length c') l1.length (l1.flatMap Page.cells) rfl (O5.alloc _) (.slice (some ⟨w5.heap.size, 0, none⟩) 1 1) 1 p.cells rfl (Sl.of_own HQ.out) p.one (by omega) (by omega) (by first | (simp; done) | (simp; omega)) ?_; intro v6 w6 O6 G6 _; obtain ⟨A6, c6, rfl, hc6⟩ := own_form O6; have O6h := hide O6; clear O6)
          go_roundw
          case rel =>
            have e9 : (l.take (k + 1)).filter hintP = l1 ++ [p] := by rw [HS.out, if_pos HP.out]
            refine ⟨k + 1, A6, c6, by omega, by go_num, by rw [e9]; simp, (bl_al B5 _).grown G6 (by first | (simp; done) | (simp; omega)) (fun g hg => by have := own_base O5 g hg; omega), blkg G6 (blk_al R05 _) (own_ne_lt O5 (by omega)), ?_⟩
            rw [e9, List.flatMap_append]
            simpa using O6h.out
          case measure => simp [intOf]; omega
        | false =>
          have HL1 := hide hl
          cases hs : inSeg p.line with
          | false =>
            have HS1 := hide hs
            have R05 := R0
            have RP5 := RP
            have RNd5 := RNd
            have B5 := BW
            have O5 := OW
            generalize w4 = w5 at R05 RP5 RNd5 B5 O5 ⊢
            clear R0 RP RNd BW OW k0 f0 z0 kp fp zp kn fn zn
            obtain ⟨k0, f0, z0⟩ := blkw R05
            obtain ⟨kp, fp, zp⟩ := blkw RP5
            obtain ⟨kn, fn, zn⟩ := blkw RNd5
            have HP : Hid (hintP p = false) := hide (by simp [hintP, HL1.out, HS1.out])
            have O5h := hide O5
            clear O5
            go_wp2
            go_roundw
            case rel =>
              have e9 : (l.take (k + 1)).filter hintP = l1 := by rw [HS.out, if_neg (by rw [HP.out]; simp)]
              exact ⟨k + 1, A', c', by omega, by go_num, by rw [e9], B5, R05, by rw [e9]; exact O5h.out⟩
            case measure => simp [intOf]; omega
          | true =>
            have HS1 := hide hs
            cases hk3 : (p.d0 % 256 == 3) with
            | true =>
              have HK1 := hide hk3
              go_wp2_with fail
              refine (kind_any p _ hd.1 hd.2).mono ?_
              rintro e w5 ⟨rfl, hb5⟩
              have R05 := blkb hb5 R0 (blk_lt R0)
              have RP5 := blkb hb5 RP (blk_lt RP)
              have RNd5 := blkb hb5 RNd (blk_lt RNd)
              have B5 := bl_on BW hb5
              have O5 := own_below OW hb5
              clear R0 RP RNd BW OW k0 f0 z0 kp fp zp kn fn zn
              obtain ⟨k0, f0, z0⟩ := blkw R05
              obtain ⟨kp, fp, zp⟩ := blkw RP5
              obtain ⟨kn, fn, zn⟩ := blkw RNd5
              have HP : Hid (hintP p = true) := hide (by simp [hintP, HL1.out, HS1.out, HK1.out])
              have hq := own_single w5 42 9 p.cells rfl
              have HQ := hide hq
              clear hq
              go_wp2_with (at_builtin; refine wpl_app (w5.alloc (.cells #[.int .i64 p.line, .int .u64 p.head, .int .u64 p.d0, .int .u64 p.d1, .int .u64 p.d2, .int .u64 p.d3, .int .u64 p.d4, .int .u64 p.d5, .int .u64 p.d6] 42 (0, 0))) rfl (.tmp 58) (.tmp 60) 22 rfl (w.heap.size + 1) 42 _ 9 72 Tryd.underlying22 page_info rfl (by omega) (.slice A' l1.length c') l1.length (l1.flatMap Page.cells) rfl (O5.alloc _) (.slice (some ⟨w5.heap.size, 0, none⟩) 1 1) 1 p.cells rfl (Sl.of_own HQ.out) p.one (by omega) (by omega) (by first | (simp; done) | (simp; omega)) ?_; intro v6 w6 O6 G6 _; obtain ⟨A6, c6, rfl, hc6⟩ := own_form O6; have O6h := hide O6; clear O6)
              go_roundw
              case rel =>
                have e9 : (l.take (k + 1)).filter hintP = l1 ++ [p] := by rw [HS.out, if_pos HP.out]
                refine ⟨k + 1, A6, c6, by omega, by go_num, by rw [e9]; simp, (bl_al B5 _).grown G6 (by first | (simp; done) | (simp; omega)) (fun g hg => by have := own_base O5 g hg; omega), blkg G6 (blk_al R05 _) (own_ne_lt O5 (by omega)), ?_⟩
                rw [e9, List.flatMap_append]
                simpa using O6h.out
              case measure => simp [intOf]; omega
            | false =>
              have HK1 := hide hk3
              by_cases hc : code = 0
              · by_cases hLv : 0 < L'
                · have HT1 : Hid (treeHint p = true) := hide (by rw [HAG.out, ← HTH.out]; simp [hc, hLv])
                  go_wp2_with fail
                  refine (kind_any p _ hd.1 hd.2).mono ?_
                  rintro e w5 ⟨rfl, hb5⟩
                  have R05 := blkb hb5 R0 (blk_lt R0)
                  have RP5 := blkb hb5 RP (blk_lt RP)
                  have RNd5 := blkb hb5 RNd (blk_lt RNd)
                  have B5 := bl_on BW hb5
                  have O5 := own_below OW hb5
                  clear R0 RP RNd BW OW k0 f0 z0 kp fp zp kn fn zn
                  obtain ⟨k0, f0, z0⟩ := blkw R05
                  obtain ⟨kp, fp, zp⟩ := blkw RP5
                  obtain ⟨kn, fn, zn⟩ := blkw RNd5
                  have HP : Hid (hintP p = true) := hide (by simp [hintP, HL1.out, HS1.out, HK1.out, HT1.out])
                  have hq := own_single w5 42 9 p.cells rfl
                  have HQ := hide hq
                  clear hq
                  go_wp2_with (at_builtin; refine wpl_app (w5.alloc (.cells #[.int .i64 p.line, .int .u64 p.head, .int .u64 p.d0, .int .u64 p.d1, .int .u64 p.d2, .int .u64 p.d3, .int .u64 p.d4, .int .u64 p.d5, .int .u64 p.d6] 42 (0, 0))) rfl (.tmp 58) (.tmp 60) 22 rfl (w.heap.size + 1) 42 _ 9 72 Tryd.underlying22 page_info rfl (by omega) (.slice A' l1.length c') l1.length (l1.flatMap Page.cells) rfl (O5.alloc _) (.slice (some ⟨w5.heap.size, 0, none⟩) 1 1) 1 p.cells rfl (Sl.of_own HQ.out) p.one (by omega) (by omega) (by first | (simp; done) | (simp; omega)) ?_; intro v6 w6 O6 G6 _; obtain ⟨A6, c6, rfl, hc6⟩ := own_form O6; have O6h := hide O6; clear O6)
                  go_roundw
                  case rel =>
                    have e9 : (l.take (k + 1)).filter hintP = l1 ++ [p] := by rw [HS.out, if_pos HP.out]
                    refine ⟨k + 1, A6, c6, by omega, by go_num, by rw [e9]; simp, (bl_al B5 _).grown G6 (by first | (simp; done) | (simp; omega)) (fun g hg => by have := own_base O5 g hg; omega), blkg G6 (blk_al R05 _) (own_ne_lt O5 (by omega)), ?_⟩
                    rw [e9, List.flatMap_append]
                    simpa using O6h.out
                  case measure => simp [intOf]; omega
                · have HT1 : Hid (treeHint p = false) := hide (by rw [HAG.out, ← HTH.out]; simp [hLv])
                  go_wp2_with fail
                  refine (kind_any p _ hd.1 hd.2).mono ?_
                  rintro e w5 ⟨rfl, hb5⟩
                  have R05 := blkb hb5 R0 (blk_lt R0)
                  have RP5 := blkb hb5 RP (blk_lt RP)
                  have RNd5 := blkb hb5 RNd (blk_lt RNd)
                  have B5 := bl_on BW hb5
                  have O5 := own_below OW hb5
                  clear R0 RP RNd BW OW k0 f0 z0 kp fp zp kn fn zn
                  obtain ⟨k0, f0, z0⟩ := blkw R05
                  obtain ⟨kp, fp, zp⟩ := blkw RP5
                  obtain ⟨kn, fn, zn⟩ := blkw RNd5
                  have HP : Hid (hintP p = false) := hide (by simp [hintP, HL1.out, HS1.out, HK1.out, HT1.out])
                  have O5h := hide O5
                  clear O5
                  go_wp2
                  go_roundw
                  case rel =>
                    have e9 : (l.take (k + 1)).filter hintP = l1 := by rw [HS.out, if_neg (by rw [HP.out]; simp)]
                    exact ⟨k + 1, A', c', by omega, by go_num, by rw [e9], B5, R05, by rw [e9]; exact O5h.out⟩
                  case measure => simp [intOf]; omega
              · have HT1 : Hid (treeHint p = false) := hide (by rw [HAG.out, ← HTH.out]; simp [hc])
                have hc2 : (code == 0) = false := by simp [hc]
                go_wp2_with fail
                refine (kind_any p _ hd.1 hd.2).mono ?_
                rintro e w5 ⟨rfl, hb5⟩
                have R05 := blkb hb5 R0 (blk_lt R0)
                have RP5 := blkb hb5 RP (blk_lt RP)
                have RNd5 := blkb hb5 RNd (blk_lt RNd)
                have B5 := bl_on BW hb5
                have O5 := own_below OW hb5
                clear R0 RP RNd BW OW k0 f0 z0 kp fp zp kn fn zn
                obtain ⟨k0, f0, z0⟩ := blkw R05
                obtain ⟨kp, fp, zp⟩ := blkw RP5
                obtain ⟨kn, fn, zn⟩ := blkw RNd5
                have HP : Hid (hintP p = false) := hide (by simp [hintP, HL1.out, HS1.out, HK1.out, HT1.out])
                have O5h := hide O5
                clear O5
                go_wp2
                go_roundw
                case rel =>
                  have e9 : (l.take (k + 1)).filter hintP = l1 := by rw [HS.out, if_neg (by rw [HP.out]; simp)]
                  exact ⟨k + 1, A', c', by omega, by go_num, by rw [e9], B5, R05, by rw [e9]; exact O5h.out⟩
                case measure => simp [intOf]; omega
      · obtain rfl : k = l.length := by omega
        rw [List.take_length] at O
        have Oh := hide O
        clear O
        go_wp2
        go_ret
        refine ⟨_, rfl, ?_, hb⟩
        rw [HL.out]
        rw [List.take_length]
        exact own_mono Oh.out (by omega)
end Go.Proofs.YtkodkbjmeepbiaaDoor
