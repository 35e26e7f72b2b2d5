/- Walks: the reference's Put. Conditions: as each theorem names them. -/
import Derived.Test.YtkodkbjmeepbiaaDoorE2
import Derived.Test.YtkodkbjmeepbiaaDoorC6
set_option linter.unusedVariables false
set_option linter.unusedSimpArgs false
namespace Go.Proofs.YtkodkbjmeepbiaaDoor
open Go.RowKit

/-- What holds ahead of each round of the reference's Put. -/
def RPutInv (w : World) (cap : Int) (A : Option Addr) (n c : Nat) (l' : List Page) (s : Value) (wr : World) : Prop := Below w.heap.size w wr ∧ ∃ A' c', s = .slice A' l'.length c' ∧ wr.heap[w.heap.size]? = some (.cells #[.int .i64 cap, .slice A n c] 30 (0, 0)) ∧
  wr.heap[w.heap.size + 1]? = some (.cells #[.int .i64 0, .slice none 0 0] 30 (0, 0)) ∧ wr.ownsRow (w.heap.size + 2) 42 9 (.slice A' l'.length c') l'.length (l'.flatMap Page.cells)

theorem rput_close {w w6 : World} {cap : Int} {A : Option Addr} {n0 c0 m : Nat} {l3 : List Page} {p3 : Page} {A6 : Option Addr} {c6 : Nat} (hcap : 1 ≤ cap) (B6 : Below w.heap.size w w6)
    (R0 : w6.heap[w.heap.size]? = some (.cells #[.int .i64 cap, .slice A n0 c0] 30 (0, 0))) (R1 : w6.heap[w.heap.size + 1]? = some (.cells #[.int .i64 0, .slice none 0 0] 30 (0, 0)))
    (O6 : w6.ownsRow (w.heap.size + 2) 42 9 (.slice A6 (l3.length + 1) c6) (l3.length + 1) ((p3 :: l3).flatMap Page.cells)) (hm : m = if cap < (l3.length : Int) + 1 then cap.toNat else l3.length + 1) :
    RPutInv w cap A n0 c0 ((p3 :: l3).take cap.toNat) (.slice A6 m c6) w6 := by
  have hn : m = ((p3 :: l3).take cap.toNat).length := by
    rw [hm]
    simp only [List.length_take, List.length_cons]
    split <;> omega
  have hle : ((p3 :: l3).take cap.toNat).length ≤ l3.length + 1 := by simp; omega
  have hc := own_cut O6 hle
  have hx : ((p3 :: l3).flatMap Page.cells).take (((p3 :: l3).take cap.toNat).length * 9) = ((p3 :: l3).take cap.toNat).flatMap Page.cells := by
    rw [← flat_take Page.cells 9 Page.len]
    congr 1
    rw [List.take_eq_take_iff]
    simp
  rw [hx] at hc
  subst hn
  exact ⟨B6, A6, c6, rfl, R0, R1, hc⟩

set_option maxRecDepth 100000 in
theorem rput_bad (v u : Value) (cap : Int) (l ps : List Page) (w : World) (h : Sl w w.heap.size 9 v l.length (l.flatMap Page.cells)) (hn : l.length ≤ 1000000) (hwf : Wf l)
    (hu : Sl w w.heap.size 9 u ps.length (ps.flatMap Page.cells)) (hv : valid cap l = false) :
    Calls Tryd.prog 16 #[.agg #[.int .i64 cap, v], u] w fun e w' => e = .returned (.agg #[.int .i64 cap, v]) ∧ Below w.heap.size w w' := by
  have hform : ∃ A c, v = .slice A l.length c := by obtain ⟨A, c, rfl, _⟩ := h; exact ⟨A, c, rfl⟩
  obtain ⟨A, c, rfl⟩ := hform
  obtain ⟨Au, cu, rfl, hcu, hmu, hlu, hau⟩ := hu
  have HV := hide hv
  clear hv hmu
  go_enter Tryd.func16, Tryd.ntmps16
  go_wp2_with fail
  refine (rvalid_any _ cap l _ (h.on (bl_al (bl_al (Below.refl _ _) _) _)) hn hwf.at).mono ?_
  rw [HV.out]
  rintro e w2 ⟨rfl, hb⟩
  obtain ⟨k0, f0, z0⟩ := blk hb (new1 _ _ _)
  obtain ⟨k1, f1, z1⟩ := blk hb (new1' _ _ _)
  go_wp2
  refine bodyPost_ret (v := .agg #[.int .i64 cap, .slice A l.length c]) (by simp [results, Tryd.results16, go_sem, k0, k1, f0, f1]) rfl ⟨rfl, (by repeat (with_reducible first | assumption | exact Below.refl _ _ | (refine Below.setCell ?_ (by first | omega | (dsimp only; omega) | (simp; omega)) _) | (refine bl_al ?_ _) | (refine bl_dr ?_ _) | (refine bl_on ?_ (by assumption))))⟩

set_option maxRecDepth 100000 in
set_option maxHeartbeats 16000000 in
theorem rput_any (v u : Value) (cap : Int) (l ps : List Page) (w : World) (h : Sl w w.heap.size 9 v l.length (l.flatMap Page.cells)) (hn : l.length ≤ 1000000) (hwf : Wf l)
    (hu : Sl w w.heap.size 9 u ps.length (ps.flatMap Page.cells)) (hpn : ps.length ≤ 1000000) (hpw : Wf ps) (hv : valid cap l = true) :
    Calls Tryd.prog 16 #[.agg #[.int .i64 cap, v], u] w fun e w' => ∃ v', e = .returned (.agg #[.int .i64 cap, v']) ∧ w'.ownsRow w.heap.size 42 9 v' (putAll cap l ps).length ((putAll cap l ps).flatMap Page.cells) ∧ Below w.heap.size w w' := by
  have hform : ∃ A c, v = .slice A l.length c := by obtain ⟨A, c, rfl, _⟩ := h; exact ⟨A, c, rfl⟩
  obtain ⟨A, c, rfl⟩ := hform
  obtain ⟨Au, cu, rfl, hcu, hmu, hlu, hau⟩ := hu
  have HV := hide hv
  clear hv
  have HMU := hide hmu
  clear hmu
  go_enter Tryd.func16, Tryd.ntmps16
  go_wp2_with fail
  refine (rvalid_any _ cap l _ (h.on (bl_al (bl_al (Below.refl _ _) _) _)) hn hwf.at).mono ?_
  rw [HV.out]
  rintro e w3 ⟨rfl, hb3⟩
  have R0 := blkb hb3 (new1 _ _ _) (by simp; omega)
  have R1 := blkb hb3 (new1' _ _ _) (by simp)
  have B3 : Below w.heap.size w w3 := (by repeat (with_reducible first | assumption | exact Below.refl _ _ | (refine Below.setCell ?_ (by first | omega | (dsimp only; omega) | (simp; omega)) _) | (refine bl_al ?_ _) | (refine bl_dr ?_ _) | (refine bl_on ?_ (by assumption))))
  have hS3 := hide (h.on B3)
  clear hb3 h
  have hcap : 1 ≤ cap ∧ cap ≤ 256 ∧ (l.length : Int) ≤ cap := by have := HV.out; simp [valid] at this; omega
  obtain ⟨hcap1, hcap2, hcap3⟩ := hcap
  obtain ⟨k0, f0, z0⟩ := blkw R0
  have z3 := blk_lt R1
  go_wp2_with (at_builtin; refine wpl_app (w3.alloc (.cells #[] 42 (0, 0))) rfl (.tmp 13) (.tmp 15) 22 rfl (w.heap.size + 2) 42 _ 9 72 Tryd.underlying22 page_info rfl (by omega) (.slice (some ⟨w3.heap.size, 0, none⟩) 0 0) 0 [] rfl (own_mono (own_empty w3 _ 9) (by omega)) (.slice A l.length c) l.length (l.flatMap Page.cells) rfl (hS3.out.on (bl_al (Below.refl _ _) _)) (Page.onel _) (by omega) (by omega) (by simp; omega) ?_; intro v4 w4 O4 G4 _; rw [List.nil_append, Nat.zero_add] at O4; obtain ⟨A4, c4, rfl, hc4⟩ := own_form O4)
  have G4' : World.grownBy _ w4 (some w3.heap.size) := G4
  have R0' := hide (blkg G4' (blk_al R0 _) (fun e => by have := Option.some.inj e; omega))
  have R1' := hide (blkg G4' (blk_al R1 _) (fun e => by have := Option.some.inj e; omega))
  have B4 : Below w.heap.size w w4 := (bl_al B3 _).grown G4' (by simp; omega) (fun k hk => by have := Option.some.inj hk; omega)
  have O4h := hide O4
  clear G4 G4' R0 R1 O4 k0 f0 z0 B3 hS3
  go_loopw [5, 6] (fun s i wr => ∃ k : Nat, k ≤ ps.length ∧ i = .int .i64 k ∧ RPutInv w cap A l.length c (putAll cap l (ps.take k)) s wr) (fun _ i _ => ps.length - (intOf i).toNat)
  case atStart => exact ⟨0, by omega, rfl, B4, A4, c4, rfl, R0'.out, R1'.out, O4h.out⟩
  case round =>
    obtain ⟨k, hk, rfl, hinv⟩ := hrel
    clear R0' R1' O4h B4
    by_cases hlt : k < ps.length
    · have HS := hide (putAll_succ (cap := cap) (l := l) hlt)
      have hl1 := putAll_len (ps.take k) hcap3
      have hw1 := putAll_wf (cap := cap) (ps.take k) hwf (fun q hq => hpw q (List.mem_of_mem_take hq))
      generalize putAll cap l (ps.take k) = l1 at hinv HS hl1 hw1
      have hp := hpw.at k hlt
      obtain ⟨B, A', c', rfl, r0, r1, o1⟩ := hinv
      obtain ⟨b, off, rfl, hbB, g0, g1, g2, g3, g4, g5, g6, g7, g8⟩ := Page.at_ (hau.below B) hlt
      generalize ps[k] = p at g0 g1 g2 g3 g4 g5 g6 g7 g8 hp HS
      cases hx : cachable p with
      | false =>
        have Hx := hide hx; clear hx
        have O' := o1.alloc (.cells p.cells.toArray 42)
        go_wp2_with (go_at_call 22; refine (cacheable_any p _ hp.1 hp.2).mono ?_; rw [Hx.out]; rintro e w4 ⟨rfl, hb4⟩)
        go_roundw
        case rel => exact ⟨k + 1, by omega, by go_num, by rw [HS.out]; unfold put1; rw [Hx.out]; exact ⟨bl_on (bl_al B _) hb4, A', c', rfl, blkb hb4 (blk_al r0 _) (by have := blk_lt r0; simp; omega), blkb hb4 (blk_al r1 _) (by have := blk_lt r1; simp; omega), own_below O' hb4⟩⟩
        case measure => simp [intOf]; omega
      | true =>
        have Hx := hide hx; clear hx
        have O' := o1.alloc (.cells p.cells.toArray 42)
        have HNE := own_ne_ge o1 (Nat.le_refl _)
        go_wp2_with fail
        refine (cacheable_any p _ hp.1 hp.2).mono ?_
        rw [Hx.out]
        rintro e w4 ⟨rfl, hb4⟩
        have Rp := blkb hb4 (new0 wr _) (by simp)
        have R0 := blkb hb4 (blk_al r0 _) (by have := blk_lt r0; simp; omega)
        have R1 := blkb hb4 (blk_al r1 _) (by have := blk_lt r1; simp; omega)
        have O4 := own_below O' hb4
        have B4 := bl_on (bl_al B _) hb4
        have z1 := blk_lt r1
        have z2 : w.heap.size + 1 < wr.heap.size := z1
        clear r0 r1 o1 O' hb4 B g0 g1 g2 g3 g4 g5 g6 g7 g8
        obtain ⟨k0, f0, z0⟩ := blkw R0
        obtain ⟨kp, fp, zp⟩ := blkw Rp
        go_wp2_with fail
        refine (cached_any _ l1 p.line w4 (Sl.of_own O4) (by omega)).mono ?_
        by_cases hi : indexOf l1 p.line < l1.length
        · rw [idx_hit hi]
          rintro e w5 ⟨rfl, rfl⟩
          have HP := hide (put1_hit (cap := cap) Hx.out hi)
          generalize indexOf l1 p.line = j at hi HP ⊢
          have hj1 : (0 : Int) ≤ (j : Int) := by omega
          have hj2 : (j : Int) < (l1.length : Int) := by omega
          obtain ⟨g, off2, rfl, hgB, q0, q1, q2, q3, q4, q5, q6, q7, q8⟩ := Page.at_ (At.of_own O4) hi
          generalize l1[j] = old at q0 q1 q2 q3 q4 q5 q6 q7 q8 HP
          by_cases hh : p.head < old.head
          · go_wp2
            go_quiet (fail)
            go_wp2_with fail
            change Calls _ _ _ (put9 (w4.drewN nq) wr.heap.size old) _
            have RW := put9_blk (n := nq) (p := old) Rp
            have GW := put9_grown w4 nq wr.heap.size old
            replace R0 := blkg GW R0 (by intro e; injection e; omega)
            replace R1 := blkg GW R1 (by intro e; injection e; omega)
            have OW := O4.kept GW (by rcases h9 : Value.ownBlock (.slice (some ⟨g, off2, none⟩) l1.length c') with _ | x; exact .inl rfl; exact .inr (by rw [← h9]; exact HNE))
            have BW := B4.grown GW B4.size (fun k hk => by injection hk; omega)
            generalize put9 (w4.drewN nq) wr.heap.size old = W at RW R0 R1 OW BW ⊢
            clear GW
            have HIF : Hid ((if p.head < old.head then old else p) = old) := hide (if_pos hh)
            have zW := blk_lt R1
            have HL := List.length_eraseIdx_of_lt hi
            refine (without_any _ l1 j _ rfl _ (Sl.of_own OW) (by omega) hi).mono ?_
            rintro e w7 ⟨v7, rfl, O7, hb7⟩
            have Hlen : (l1.eraseIdx j).length ≤ 256 := by omega
            have OL7 := own_mono (base' := w.heap.size + 2) O7 (by omega)
            clear HL O7
            generalize l1.eraseIdx j = l3 at OL7 HP Hlen
            obtain ⟨A7, c7, rfl, hc7⟩ := own_form OL7
            replace RW := blkb hb7 RW (blk_lt RW)
            replace R0 := blkb hb7 R0 (blk_lt R0)
            replace R1 := blkb hb7 R1 (blk_lt R1)
            replace BW := bl_on BW hb7
            have OW' := OL7
            clear OW hb7 OL7
            have OW := OW'
            clear OW'
            clear Rp O4 B4 q0 q1 q2 q3 q4 q5 q6 q7 q8 k0 f0 z0 kp fp zp
            obtain ⟨kp, fp, zp⟩ := blkw RW
            have z7 := blk_lt R1
            by_cases hgt : cap < (l3.length : Int) + 1
            · have hb1 : (0 : Int) ≤ cap := by omega
              go_wp2_with (at_builtin; refine wpl_app (w7.alloc (.cells #[.int .i64 old.line, .int .u64 old.head, .int .u64 old.d0, .int .u64 old.d1, .int .u64 old.d2, .int .u64 old.d3, .int .u64 old.d4, .int .u64 old.d5, .int .u64 old.d6] 42 (0, 0))) rfl (.tmp 52) (.tmp 53) 22 rfl (w.heap.size + 2) 42 _ 9 72 Tryd.underlying22 page_info rfl (by omega) (.slice (some ⟨w7.heap.size, 0, none⟩) 1 1) 1 old.cells rfl (own_mono (own_single w7 _ 9 old.cells rfl) (by omega)) (.slice A7 l3.length c7) l3.length (l3.flatMap Page.cells) rfl (Sl.of_own (OW.alloc _)) (Page.onel _) (by omega) (by omega) (by simp; omega) ?_; intro v6 w6 O6 G6 _; obtain ⟨A6, c6, rfl, hc6⟩ := own_form O6; rw [Nat.add_comm 1 l3.length] at O6 hc6 ⊢; have G6' : World.grownBy _ w6 (some w7.heap.size) := G6; have R06 := blkg G6' (blk_al R0 _) (fun e => by have := Option.some.inj e; omega); have R16 := blkg G6' (blk_al R1 _) (fun e => by have := Option.some.inj e; omega); have B6 := (bl_al BW (.cells #[.int .i64 old.line, .int .u64 old.head, .int .u64 old.d0, .int .u64 old.d1, .int .u64 old.d2, .int .u64 old.d3, .int .u64 old.d4, .int .u64 old.d5, .int .u64 old.d6] 42 (0, 0))).grown G6' (by simp; omega) (fun k hk => by have := Option.some.inj hk; omega); have hcm6 := own_cap O6; have O6h : Hid (w6.ownsRow (w.heap.size + 2) 42 9 (.slice A6 (l3.length + 1) c6) (l3.length + 1) ((old :: l3).flatMap Page.cells)) := hide O6; have R06h := hide R06; have R16h := hide R16; have k06 := (blkw R06).1; have f06 := (blkw R06).2.1; clear G6 G6' O6 R06 R16; have hb2 : cap ≤ (c6 : Int) := by omega)
              go_roundw
              case rel => exact ⟨k + 1, by omega, by go_num, by rw [HS.out, HP.out, HIF.out]; exact rput_close hcap1 B6 R06h.out R16h.out O6h.out (by split <;> omega)⟩
              case measure => simp [intOf]; omega
            · go_wp2_with (at_builtin; refine wpl_app (w7.alloc (.cells #[.int .i64 old.line, .int .u64 old.head, .int .u64 old.d0, .int .u64 old.d1, .int .u64 old.d2, .int .u64 old.d3, .int .u64 old.d4, .int .u64 old.d5, .int .u64 old.d6] 42 (0, 0))) rfl (.tmp 52) (.tmp 53) 22 rfl (w.heap.size + 2) 42 _ 9 72 Tryd.underlying22 page_info rfl (by omega) (.slice (some ⟨w7.heap.size, 0, none⟩) 1 1) 1 old.cells rfl (own_mono (own_single w7 _ 9 old.cells rfl) (by omega)) (.slice A7 l3.length c7) l3.length (l3.flatMap Page.cells) rfl (Sl.of_own (OW.alloc _)) (Page.onel _) (by omega) (by omega) (by simp; omega) ?_; intro v6 w6 O6 G6 _; obtain ⟨A6, c6, rfl, hc6⟩ := own_form O6; rw [Nat.add_comm 1 l3.length] at O6 hc6 ⊢; have G6' : World.grownBy _ w6 (some w7.heap.size) := G6; have R06 := blkg G6' (blk_al R0 _) (fun e => by have := Option.some.inj e; omega); have R16 := blkg G6' (blk_al R1 _) (fun e => by have := Option.some.inj e; omega); have B6 := (bl_al BW (.cells #[.int .i64 old.line, .int .u64 old.head, .int .u64 old.d0, .int .u64 old.d1, .int .u64 old.d2, .int .u64 old.d3, .int .u64 old.d4, .int .u64 old.d5, .int .u64 old.d6] 42 (0, 0))).grown G6' (by simp; omega) (fun k hk => by have := Option.some.inj hk; omega); have hcm6 := own_cap O6; have O6h : Hid (w6.ownsRow (w.heap.size + 2) 42 9 (.slice A6 (l3.length + 1) c6) (l3.length + 1) ((old :: l3).flatMap Page.cells)) := hide O6; have R06h := hide R06; have R16h := hide R16; have k06 := (blkw R06).1; have f06 := (blkw R06).2.1; clear G6 G6' O6 R06 R16)
              go_roundw
              case rel => exact ⟨k + 1, by omega, by go_num, by rw [HS.out, HP.out, HIF.out]; exact rput_close hcap1 B6 R06h.out R16h.out O6h.out (by split <;> omega)⟩
              case measure => simp [intOf]; omega
          · go_wp2
            go_quiet (fail)
            go_wp2_with fail
            have RW : (w4.drewN nq).heap[wr.heap.size]? = some (.cells #[.int .i64 p.line, .int .u64 p.head, .int .u64 p.d0, .int .u64 p.d1, .int .u64 p.d2, .int .u64 p.d3, .int .u64 p.d4, .int .u64 p.d5, .int .u64 p.d6] 42 (0, 0)) := Rp
            replace R0 : (w4.drewN nq).heap[w.heap.size]? = _ := R0
            replace R1 : (w4.drewN nq).heap[w.heap.size + 1]? = _ := R1
            have OW := O4.kept (gb_drewN w4 nq none) (by rcases h9 : Value.ownBlock (.slice (some ⟨g, off2, none⟩) l1.length c') with _ | x; exact .inl rfl; exact .inr (by intro e; cases e))
            have BW := bl_dr B4 nq
            generalize w4.drewN nq = W at RW R0 R1 OW BW ⊢
            have HIF : Hid ((if p.head < old.head then old else p) = p) := hide (if_neg (by omega))
            have zW := blk_lt R1
            have HL := List.length_eraseIdx_of_lt hi
            refine (without_any _ l1 j _ rfl _ (Sl.of_own OW) (by omega) hi).mono ?_
            rintro e w7 ⟨v7, rfl, O7, hb7⟩
            have Hlen : (l1.eraseIdx j).length ≤ 256 := by omega
            have OL7 := own_mono (base' := w.heap.size + 2) O7 (by omega)
            clear HL O7
            generalize l1.eraseIdx j = l3 at OL7 HP Hlen
            obtain ⟨A7, c7, rfl, hc7⟩ := own_form OL7
            replace RW := blkb hb7 RW (blk_lt RW)
            replace R0 := blkb hb7 R0 (blk_lt R0)
            replace R1 := blkb hb7 R1 (blk_lt R1)
            replace BW := bl_on BW hb7
            have OW' := OL7
            clear OW hb7 OL7
            have OW := OW'
            clear OW'
            clear Rp O4 B4 q0 q1 q2 q3 q4 q5 q6 q7 q8 k0 f0 z0 kp fp zp
            obtain ⟨kp, fp, zp⟩ := blkw RW
            have z7 := blk_lt R1
            by_cases hgt : cap < (l3.length : Int) + 1
            · have hb1 : (0 : Int) ≤ cap := by omega
              go_wp2_with (at_builtin; refine wpl_app (w7.alloc (.cells #[.int .i64 p.line, .int .u64 p.head, .int .u64 p.d0, .int .u64 p.d1, .int .u64 p.d2, .int .u64 p.d3, .int .u64 p.d4, .int .u64 p.d5, .int .u64 p.d6] 42 (0, 0))) rfl (.tmp 52) (.tmp 53) 22 rfl (w.heap.size + 2) 42 _ 9 72 Tryd.underlying22 page_info rfl (by omega) (.slice (some ⟨w7.heap.size, 0, none⟩) 1 1) 1 p.cells rfl (own_mono (own_single w7 _ 9 p.cells rfl) (by omega)) (.slice A7 l3.length c7) l3.length (l3.flatMap Page.cells) rfl (Sl.of_own (OW.alloc _)) (Page.onel _) (by omega) (by omega) (by simp; omega) ?_; intro v6 w6 O6 G6 _; obtain ⟨A6, c6, rfl, hc6⟩ := own_form O6; rw [Nat.add_comm 1 l3.length] at O6 hc6 ⊢; have G6' : World.grownBy _ w6 (some w7.heap.size) := G6; have R06 := blkg G6' (blk_al R0 _) (fun e => by have := Option.some.inj e; omega); have R16 := blkg G6' (blk_al R1 _) (fun e => by have := Option.some.inj e; omega); have B6 := (bl_al BW (.cells #[.int .i64 p.line, .int .u64 p.head, .int .u64 p.d0, .int .u64 p.d1, .int .u64 p.d2, .int .u64 p.d3, .int .u64 p.d4, .int .u64 p.d5, .int .u64 p.d6] 42 (0, 0))).grown G6' (by simp; omega) (fun k hk => by have := Option.some.inj hk; omega); have hcm6 := own_cap O6; have O6h : Hid (w6.ownsRow (w.heap.size + 2) 42 9 (.slice A6 (l3.length + 1) c6) (l3.length + 1) ((p :: l3).flatMap Page.cells)) := hide O6; have R06h := hide R06; have R16h := hide R16; have k06 := (blkw R06).1; have f06 := (blkw R06).2.1; clear G6 G6' O6 R06 R16; have hb2 : cap ≤ (c6 : Int) := by omega)
              go_roundw
              case rel => exact ⟨k + 1, by omega, by go_num, by rw [HS.out, HP.out, HIF.out]; exact rput_close hcap1 B6 R06h.out R16h.out O6h.out (by split <;> omega)⟩
              case measure => simp [intOf]; omega
            · go_wp2_with (at_builtin; refine wpl_app (w7.alloc (.cells #[.int .i64 p.line, .int .u64 p.head, .int .u64 p.d0, .int .u64 p.d1, .int .u64 p.d2, .int .u64 p.d3, .int .u64 p.d4, .int .u64 p.d5, .int .u64 p.d6] 42 (0, 0))) rfl (.tmp 52) (.tmp 53) 22 rfl (w.heap.size + 2) 42 _ 9 72 Tryd.underlying22 page_info rfl (by omega) (.slice (some ⟨w7.heap.size, 0, none⟩) 1 1) 1 p.cells rfl (own_mono (own_single w7 _ 9 p.cells rfl) (by omega)) (.slice A7 l3.length c7) l3.length (l3.flatMap Page.cells) rfl (Sl.of_own (OW.alloc _)) (Page.onel _) (by omega) (by omega) (by simp; omega) ?_; intro v6 w6 O6 G6 _; obtain ⟨A6, c6, rfl, hc6⟩ := own_form O6; rw [Nat.add_comm 1 l3.length] at O6 hc6 ⊢; have G6' : World.grownBy _ w6 (some w7.heap.size) := G6; have R06 := blkg G6' (blk_al R0 _) (fun e => by have := Option.some.inj e; omega); have R16 := blkg G6' (blk_al R1 _) (fun e => by have := Option.some.inj e; omega); have B6 := (bl_al BW (.cells #[.int .i64 p.line, .int .u64 p.head, .int .u64 p.d0, .int .u64 p.d1, .int .u64 p.d2, .int .u64 p.d3, .int .u64 p.d4, .int .u64 p.d5, .int .u64 p.d6] 42 (0, 0))).grown G6' (by simp; omega) (fun k hk => by have := Option.some.inj hk; omega); have hcm6 := own_cap O6; have O6h : Hid (w6.ownsRow (w.heap.size + 2) 42 9 (.slice A6 (l3.length + 1) c6) (l3.length + 1) ((p :: l3).flatMap Page.cells)) := hide O6; have R06h := hide R06; have R16h := hide R16; have k06 := (blkw R06).1; have f06 := (blkw R06).2.1; clear G6 G6' O6 R06 R16)
              go_roundw
              case rel => exact ⟨k + 1, by omega, by go_num, by rw [HS.out, HP.out, HIF.out]; exact rput_close hcap1 B6 R06h.out R16h.out O6h.out (by split <;> omega)⟩
              case measure => simp [intOf]; omega
        · rw [idx_miss hi]
          rintro e w5 ⟨rfl, rfl⟩
          have HP := hide (put1_miss (cap := cap) Hx.out hi)
          have RW := Rp
          have OW := O4
          have BW := B4
          clear Rp O4 B4 HNE
          have z7 := blk_lt R1
          have Hlen : l1.length ≤ 256 := by omega
          by_cases hgt : cap < (l1.length : Int) + 1
          · have hb1 : (0 : Int) ≤ cap := by omega
            go_wp2_with (at_builtin; refine wpl_app (w4.alloc (.cells #[.int .i64 p.line, .int .u64 p.head, .int .u64 p.d0, .int .u64 p.d1, .int .u64 p.d2, .int .u64 p.d3, .int .u64 p.d4, .int .u64 p.d5, .int .u64 p.d6] 42 (0, 0))) rfl (.tmp 52) (.tmp 53) 22 rfl (w.heap.size + 2) 42 _ 9 72 Tryd.underlying22 page_info rfl (by omega) (.slice (some ⟨w4.heap.size, 0, none⟩) 1 1) 1 p.cells rfl (own_mono (own_single w4 _ 9 p.cells rfl) (by omega)) (.slice A' l1.length c') l1.length (l1.flatMap Page.cells) rfl (Sl.of_own (OW.alloc _)) (Page.onel _) (by omega) (by omega) (by simp; omega) ?_; intro v6 w6 O6 G6 _; obtain ⟨A6, c6, rfl, hc6⟩ := own_form O6; rw [Nat.add_comm 1 l1.length] at O6 hc6 ⊢; have G6' : World.grownBy _ w6 (some w4.heap.size) := G6; have R06 := blkg G6' (blk_al R0 _) (fun e => by have := Option.some.inj e; omega); have R16 := blkg G6' (blk_al R1 _) (fun e => by have := Option.some.inj e; omega); have B6 := (bl_al BW (.cells #[.int .i64 p.line, .int .u64 p.head, .int .u64 p.d0, .int .u64 p.d1, .int .u64 p.d2, .int .u64 p.d3, .int .u64 p.d4, .int .u64 p.d5, .int .u64 p.d6] 42 (0, 0))).grown G6' (by simp; omega) (fun k hk => by have := Option.some.inj hk; omega); have hcm6 := own_cap O6; have O6h : Hid (w6.ownsRow (w.heap.size + 2) 42 9 (.slice A6 (l1.length + 1) c6) (l1.length + 1) ((p :: l1).flatMap Page.cells)) := hide O6; have R06h := hide R06; have R16h := hide R16; have k06 := (blkw R06).1; have f06 := (blkw R06).2.1; clear G6 G6' O6 R06 R16; have hb2 : cap ≤ (c6 : Int) := by omega)
            go_roundw
            case rel => exact ⟨k + 1, by omega, by go_num, by rw [HS.out, HP.out]; exact rput_close hcap1 B6 R06h.out R16h.out O6h.out (by split <;> omega)⟩
            case measure => simp [intOf]; omega
          · go_wp2_with (at_builtin; refine wpl_app (w4.alloc (.cells #[.int .i64 p.line, .int .u64 p.head, .int .u64 p.d0, .int .u64 p.d1, .int .u64 p.d2, .int .u64 p.d3, .int .u64 p.d4, .int .u64 p.d5, .int .u64 p.d6] 42 (0, 0))) rfl (.tmp 52) (.tmp 53) 22 rfl (w.heap.size + 2) 42 _ 9 72 Tryd.underlying22 page_info rfl (by omega) (.slice (some ⟨w4.heap.size, 0, none⟩) 1 1) 1 p.cells rfl (own_mono (own_single w4 _ 9 p.cells rfl) (by omega)) (.slice A' l1.length c') l1.length (l1.flatMap Page.cells) rfl (Sl.of_own (OW.alloc _)) (Page.onel _) (by omega) (by omega) (by simp; omega) ?_; intro v6 w6 O6 G6 _; obtain ⟨A6, c6, rfl, hc6⟩ := own_form O6; rw [Nat.add_comm 1 l1.length] at O6 hc6 ⊢; have G6' : World.grownBy _ w6 (some w4.heap.size) := G6; have R06 := blkg G6' (blk_al R0 _) (fun e => by have := Option.some.inj e; omega); have R16 := blkg G6' (blk_al R1 _) (fun e => by have := Option.some.inj e; omega); have B6 := (bl_al BW (.cells #[.int .i64 p.line, .int .u64 p.head, .int .u64 p.d0, .int .u64 p.d1, .int .u64 p.d2, .int .u64 p.d3, .int .u64 p.d4, .int .u64 p.d5, .int .u64 p.d6] 42 (0, 0))).grown G6' (by simp; omega) (fun k hk => by have := Option.some.inj hk; omega); have hcm6 := own_cap O6; have O6h : Hid (w6.ownsRow (w.heap.size + 2) 42 9 (.slice A6 (l1.length + 1) c6) (l1.length + 1) ((p :: l1).flatMap Page.cells)) := hide O6; have R06h := hide R06; have R16h := hide R16; have k06 := (blkw R06).1; have f06 := (blkw R06).2.1; clear G6 G6' O6 R06 R16)
            go_roundw
            case rel => exact ⟨k + 1, by omega, by go_num, by rw [HS.out, HP.out]; exact rput_close hcap1 B6 R06h.out R16h.out O6h.out (by split <;> omega)⟩
            case measure => simp [intOf]; omega
    · obtain ⟨B, A', c', rfl, r0, r1, o1⟩ := hinv
      obtain ⟨k0, f0, z0⟩ := blkw r0
      obtain ⟨k1, f1, z1⟩ := blkw r1
      obtain rfl : k = ps.length := by omega
      rw [List.take_length] at *
      have oo := ownsRow_setCell_below (a := ⟨w.heap.size + 1, 1, none⟩) (ownsRow_setCell_below (a := ⟨w.heap.size + 1, 0, none⟩) o1 (by simp) (.int .i64 cap)) (by simp) (.slice A' (putAll cap l ps).length c')
      have bb := (B.setCell (p := ⟨w.heap.size + 1, 0, none⟩) (by simp) (.int .i64 cap)).setCell (p := ⟨w.heap.size + 1, 1, none⟩) (by simp) (.slice A' (putAll cap l ps).length c')
      go_wp2
      refine bodyPost_ret (v := .agg #[.int .i64 cap, .slice A' (putAll cap l ps).length c']) (by simp [results, Tryd.results16, go_sem, k0, k1, f0, f1]) rfl ⟨_, rfl, own_mono oo (by omega), bb⟩
end Go.Proofs.YtkodkbjmeepbiaaDoor
