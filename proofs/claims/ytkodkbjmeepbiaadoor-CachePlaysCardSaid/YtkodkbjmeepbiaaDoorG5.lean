/- Walks: the reference's test of a node. Conditions: as each theorem names them. -/
import Derived.Test.YtkodkbjmeepbiaaDoorG1
set_option linter.unusedVariables false
set_option linter.unusedSimpArgs false
namespace Go.Proofs.YtkodkbjmeepbiaaDoor
open Go.RowKit

def entBad (L high : Int) (prev : Int) (fst : Bool) (e : Ent) : Bool := decide (e.key < 1) || decide (high < e.key) || !okPtr e.line e.gen || (decide (L = 0) && decide (4294967294 < e.key)) || (!fst && decide (e.key ≤ prev))
def goodL (L high : Int) : Int → Bool → List Ent → Bool
  | _, _, [] => true
  | prev, fst, e :: r => !entBad L high prev fst e && goodL L high e.key false r
theorem good_step {L high : Int} {es : List Ent} {k : Nat} (hk : k < es.length) (prev : Int) (fst : Bool) : goodL L high prev fst (es.drop k) = (!entBad L high prev fst es[k] && goodL L high es[k].key false (es.drop (k + 1))) := by
  rw [List.drop_eq_getElem_cons hk]
  rfl
def prevK (es : List Ent) (k : Nat) : Int := if h : k - 1 < es.length then es[k - 1].key else 0
def rnodeOk (L : Int) (lm dead : Bool) (high rl rg : Int) (es : List Ent) : Bool :=
  decide (L ≤ 8) && decide (1 ≤ high) && (decide (rl = 0 ∧ rg = 0) == decide (high = 4294967295)) && (decide (rl = 0 ∧ rg = 0) || okPtr rl rg) && decide (es.length ≤ 5) && goodL L high 0 true es &&
  !(decide (0 < L) && (decide (es.length = 0) || !decide (lastKey 0 es = high))) && (!dead || (decide (L = 0) && decide (es.length = 0) && !lm && !decide (rl = 0 ∧ rg = 0)))

set_option maxRecDepth 100000 in
set_option maxHeartbeats 8000000 in
theorem rvalidNode_any (L : Int) (lm dead : Bool) (high rl rg : Int) (v : Value) (es : List Ent) (w : World) (hL : 0 ≤ L) (h : Sl w w.heap.size 3 v es.length (es.flatMap Ent.cells)) (hn : es.length ≤ 5) :
    Calls Tryd.prog 52 #[.agg #[.int .i64 L, .bool lm, .bool dead, .int .u32 high, .int .i64 rl, .int .i64 rg, v]] w fun e w' => e = .returned (.bool (rnodeOk L lm dead high rl rg es)) ∧ Below w.heap.size w w' := by
  have hform : ∃ A c, v = .slice A es.length c := by obtain ⟨A, c, rfl, _⟩ := h; exact ⟨A, c, rfl⟩
  obtain ⟨A, c, rfl⟩ := hform
  have HN : Hid (rnodeOk L lm dead high rl rg es = (decide (L ≤ 8) && decide (1 ≤ high) && (decide (rl = 0 ∧ rg = 0) == decide (high = 4294967295)) && (decide (rl = 0 ∧ rg = 0) || okPtr rl rg) && decide (es.length ≤ 5) && goodL L high 0 true es &&
    !(decide (0 < L) && (decide (es.length = 0) || !decide (lastKey 0 es = high))) && (!dead || (decide (L = 0) && decide (es.length = 0) && !lm && !decide (rl = 0 ∧ rg = 0))))) := hide rfl
  have HK : Hid (∀ hk : 0 < es.length, lastKey 0 es = (es[es.length - 1]'(by omega)).key) := hide (lastKey_get es 0)
  generalize hlk : lastKey 0 es = lk at HN HK
  generalize hgd : goodL L high 0 true es = gd at HN
  have HGD := hide hgd
  clear hlk hgd
  generalize hres : rnodeOk L lm dead high rl rg es = res at HN ⊢
  clear hres
  have hOK : ∀ t, Calls Tryd.prog 51 #[.agg #[.int .i64 rl, .int .i64 rg]] t fun e w' => e = .returned (.bool (okPtr rl rg)) ∧ Below t.heap.size t w' := fun t => rokPtr_any rl rg t
  generalize okPtr rl rg = ok at HN hOK
  have hn5 : ¬ (5 : Int) < (es.length : Int) := by omega
  have hL0 : ¬ L < 0 := by omega
  have hgt : ∀ b, decide (rl = 0 ∧ rg = 0) = b → (rl == 0 && rg == 0) = b := fun b hb => by rw [← hb]; by_cases h1 : rl = 0 <;> by_cases h2 : rg = 0 <;> simp [h1, h2]
  by_cases hL8 : 8 < L
  · go_enter Tryd.func52, Tryd.ntmps52
    go_wp2
    all_goals go_ret
    all_goals exact ⟨ret_bool (by rw [HN.out]; simp; omega), (by repeat (first | exact Below.refl _ _ | assumption | (refine bl_al ?_ _) | (refine bl_dr ?_ _) | (refine bl_on ?_ (by assumption))))⟩
  by_cases hh1 : high < 1
  · go_enter Tryd.func52, Tryd.ntmps52
    go_wp2
    all_goals go_ret
    all_goals exact ⟨ret_bool (by rw [HN.out]; simp; omega), (by repeat (first | exact Below.refl _ _ | assumption | (refine bl_al ?_ _) | (refine bl_dr ?_ _) | (refine bl_on ?_ (by assumption))))⟩
  by_cases hz : rl = 0 ∧ rg = 0
  · obtain ⟨rfl, rfl⟩ := hz
    cases hm : (high == 4294967295) with
    | false =>
      have hm2 : ¬ high = 4294967295 := by simpa using hm
      go_enter Tryd.func52, Tryd.ntmps52
      go_wp2
      go_ret
      exact ⟨ret_bool (by rw [HN.out]; simp [hm2]), (by repeat (first | exact Below.refl _ _ | assumption | (refine bl_al ?_ _) | (refine bl_dr ?_ _) | (refine bl_on ?_ (by assumption))))⟩
    | true =>
      have hm3 := hm
      go_enter Tryd.func52, Tryd.ntmps52
      go_wp2_with fail
      have RW := new0 w (.cells #[.int .i64 L, .bool lm, .bool dead, .int .u32 high, .int .i64 0, .int .i64 0, .slice A es.length c] 73 (0, 0))
      have BW := bl_al (Below.refl _ w) (.cells #[.int .i64 L, .bool lm, .bool dead, .int .u32 high, .int .i64 0, .int .i64 0, .slice A es.length c] 73 (0, 0))
      have HR0 := hide RW
      clear RW
      go_loopw [4] (fun i wr => ∃ k : Nat, k ≤ es.length ∧ i = .int .i64 k ∧ Below w.heap.size w wr ∧ Hid (wr.heap[w.heap.size]? = some (.cells #[.int .i64 L, .bool lm, .bool dead, .int .u32 high, .int .i64 0, .int .i64 0, .slice A es.length c] 73 (0, 0))) ∧ Hid (goodL L high (prevK es k) (k == 0) (es.drop k) = gd)) (fun i _ => es.length - (intOf i).toNat)
      case atStart => exact ⟨0, by omega, rfl, BW, HR0, by show _ = _; rw [← HGD.out]; cases es <;> rfl⟩
      case round =>
        obtain ⟨k, hk, rfl, hb, hrow, hgood⟩ := hrel
        clear HR0 BW
        obtain ⟨kN, fN, zN⟩ := blkw hrow.out
        by_cases hlt : k < es.length
        · have hat : At wr w.heap.size A (es.flatMap Ent.cells) := by obtain ⟨A', c', he, _, _, _, hat⟩ := h.below hb; injection he with e1; subst e1; exact hat
          have hprev : k ≠ 0 → ∃ b off, A = some ⟨b, off, none⟩ ∧ b < w.heap.size ∧ (wr.alloc (.cells #[.int .u32 es[k].key, .int .i64 es[k].line, .int .i64 es[k].gen] 96 (0, 0))).cell? ⟨b, off + (k - 1) * 3, none⟩ = some (.int .u32 (prevK es k)) := fun hk0 => by
            obtain ⟨b, off, rfl, hbB, h0, _, _⟩ := Ent.at_ hat (k := k - 1) (by omega)
            exact ⟨b, off, rfl, hbB, cell_al (by rw [h0, prevK, dif_pos (by omega)]) _⟩
          obtain ⟨b, off, rfl, hbB, h0, h1, h2⟩ := Ent.at_ hat hlt
          have HS := hide (good_step (L := L) (high := high) hlt (prevK es k) (k == 0))
          have HPV : Hid (goodL L high (prevK es (k + 1)) (k + 1 == 0) (es.drop (k + 1)) = goodL L high es[k].key false (es.drop (k + 1))) := hide (by rw [prevK]; simp [hlt])
          have HPK : Hid (k ≠ 0 → ((k == 0) = false)) := hide (fun h => by simp [h])
          clear hat
          generalize es[k] = x at h0 h1 h2 HS HPV hprev
          generalize prevK es k = pk at HS hgood hprev
          have H1 : ∀ t : Hold (wr.alloc (.cells #[.int .u32 x.key, .int .i64 x.line, .int .i64 x.gen] 96 (0, 0))), Calls Tryd.prog 51 #[.agg #[.int .i64 x.line, .int .i64 x.gen]] t.W fun e w' => e = .returned (.bool (okPtr x.line x.gen)) ∧ ∃ t' : Hold (wr.alloc (.cells #[.int .u32 x.key, .int .i64 x.line, .int .i64 x.gen] 96 (0, 0))), w' = t'.W := fun t => Hold.call (rokPtr_any x.line x.gen t.W)
          generalize hxo : okPtr x.line x.gen = xo at H1
          have Bz := bl_al hb (.cells #[.int .u32 x.key, .int .i64 x.line, .int .i64 x.gen] 96 (0, 0))
          have RE := new0 wr (.cells #[.int .u32 x.key, .int .i64 x.line, .int .i64 x.gen] 96 (0, 0))
          have RZ := blk_al hrow.out (.cells #[.int .u32 x.key, .int .i64 x.line, .int .i64 x.gen] 96 (0, 0))
          have HRz := hide RZ
          have c0 := Hold.cell ((blkw RE).1 0)
          have c1 := Hold.cell ((blkw RE).1 1)
          have c2 := Hold.cell ((blkw RE).1 2)
          have c3 := Hold.cell ((blkw RZ).1 0)
          have c4 := Hold.cell ((blkw RZ).1 3)
          have c5 := Hold.cell ((blkw RZ).1 6)
          have HXO := hide hxo
          clear RE RZ hxo
          go_wp2_with fail
          by_cases hx1 : x.key < 1
          · refine region_hold (by kernel_rfl) (by kernel_rfl) ?_
            repeat (go_big_quiet_step (first | exact H1 _))
            refine wpQuiet_nil ?_
            rintro _ ⟨t, rfl⟩
            go_wp2
            go_ret
            have hgd : gd = false := by rw [← hgood.out, HS.out]; simp [entBad, hx1]
            exact ⟨ret_bool (by rw [HN.out, hgd]; simp), bl_on Bz t.b⟩
          by_cases hx2 : high < x.key
          · refine region_hold (by kernel_rfl) (by kernel_rfl) ?_
            repeat (go_big_quiet_step (first | exact H1 _))
            refine wpQuiet_nil ?_
            rintro _ ⟨t, rfl⟩
            go_wp2
            go_ret
            have hgd : gd = false := by rw [← hgood.out, HS.out]; simp [entBad, hx2]
            exact ⟨ret_bool (by rw [HN.out, hgd]; simp), bl_on Bz t.b⟩
          cases xo with
          | false =>
            refine region_hold (by kernel_rfl) (by kernel_rfl) ?_
            repeat (go_big_quiet_step (first | exact H1 _))
            refine wpQuiet_nil ?_
            rintro _ ⟨t, rfl⟩
            go_wp2
            go_ret
            have hgd : gd = false := by rw [← hgood.out, HS.out]; simp [entBad, HXO.out]
            exact ⟨ret_bool (by rw [HN.out, hgd]; simp), bl_on Bz t.b⟩
          | true =>
            have hx1' : ¬ x.key < 1 := hx1
            have hx3 := HXO.out
            by_cases hLz : L = 0
            · subst hLz
              by_cases hx4 : 4294967294 < x.key
              · refine region_hold (by kernel_rfl) (by kernel_rfl) ?_
                repeat (go_big_quiet_step (first | exact H1 _))
                refine wpQuiet_nil ?_
                rintro _ ⟨t, rfl⟩
                go_wp2
                go_ret
                have hgd : gd = false := by rw [← hgood.out, HS.out]; simp [entBad, hx4]
                exact ⟨ret_bool (by rw [HN.out, hgd]; simp), bl_on Bz t.b⟩
              · by_cases hk0 : k = 0
                · subst hk0
                  have hk1 : ((0 : Nat) : Int) = 0 := rfl
                  refine region_hold (by kernel_rfl) (by kernel_rfl) ?_
                  repeat (go_big_quiet_step (first | exact H1 _))
                  refine wpQuiet_nil ?_
                  rintro _ ⟨t, rfl⟩
                  go_wp2
                  go_roundw
                  case rel =>
                    refine ⟨0 + 1, by omega, by go_num, bl_on Bz t.b, blkb t.b HRz.out (blk_lt HRz.out), ?_⟩
                    show _ = _
                    rw [HPV.out, ← hgood.out, HS.out]
                    simp [entBad, hx1, hx2, HXO.out, hx4]
                  case measure => simp [intOf]; omega
                · obtain ⟨pb, poff, hpe, hpB, hpc⟩ := hprev hk0
                  obtain ⟨rfl, rfl⟩ : pb = b ∧ poff = off := by injection hpe with hpe; injection hpe with h1 h2; exact ⟨h1.symm, h2.symm⟩
                  have c7 := Hold.cell hpc
                  have hk1 : (0 : Int) < (k : Int) := by omega
                  have hk5 : 0 < k := by omega
                  have hk2 : (k : Int) - 1 = ((k - 1 : Nat) : Int) := by omega
                  have hk3 : ((k - 1 : Nat) : Int) < (es.length : Int) := by omega
                  have hk4 : IntKind.i64.wrap (((k - 1 : Nat) : Int)) = ((k - 1 : Nat) : Int) := by rw [IntKind.wrap_i64]; omega
                  refine region_hold (by kernel_rfl) (by kernel_rfl) ?_
                  repeat (go_big_quiet_step (first | exact H1 _))
                  refine wpQuiet_nil ?_
                  rintro _ ⟨t, rfl⟩
                  go_wp2
                  · rename_i hpv
                    go_ret
                    have hgd : gd = false := by rw [← hgood.out, HS.out, HPK.out hk0]; simp [entBad, hx1, hx2, HXO.out, hx4, hk0, hpv]
                    exact ⟨ret_bool (by rw [HN.out, hgd]; simp), bl_on Bz t.b⟩
                  · rename_i hpv
                    go_roundw
                    case rel =>
                      refine ⟨k + 1, by omega, by go_num, bl_on Bz t.b, blkb t.b HRz.out (blk_lt HRz.out), ?_⟩
                      show _ = _
                      rw [HPV.out, ← hgood.out, HS.out, HPK.out hk0]
                      have hpv2 : ¬ x.key ≤ pk := by omega
                      simp [entBad, hx1, hx2, HXO.out, hx4, hk0, hpv2]
                    case measure => simp [intOf]; omega
            · have hLz2 : (L == 0) = false := by simp [hLz]
              by_cases hk0 : k = 0
              · subst hk0
                have hk1 : ((0 : Nat) : Int) = 0 := rfl
                refine region_hold (by kernel_rfl) (by kernel_rfl) ?_
                repeat (go_big_quiet_step (first | exact H1 _))
                refine wpQuiet_nil ?_
                rintro _ ⟨t, rfl⟩
                go_wp2
                go_roundw
                case rel =>
                  refine ⟨0 + 1, by omega, by go_num, bl_on Bz t.b, blkb t.b HRz.out (blk_lt HRz.out), ?_⟩
                  show _ = _
                  rw [HPV.out, ← hgood.out, HS.out]
                  simp [entBad, hx1, hx2, HXO.out, hLz]
                case measure => simp [intOf]; omega
              · obtain ⟨pb, poff, hpe, hpB, hpc⟩ := hprev hk0
                obtain ⟨rfl, rfl⟩ : pb = b ∧ poff = off := by injection hpe with hpe; injection hpe with h1 h2; exact ⟨h1.symm, h2.symm⟩
                have c7 := Hold.cell hpc
                have hk1 : (0 : Int) < (k : Int) := by omega
                have hk5 : 0 < k := by omega
                have hk2 : (k : Int) - 1 = ((k - 1 : Nat) : Int) := by omega
                have hk3 : ((k - 1 : Nat) : Int) < (es.length : Int) := by omega
                have hk4 : IntKind.i64.wrap (((k - 1 : Nat) : Int)) = ((k - 1 : Nat) : Int) := by rw [IntKind.wrap_i64]; omega
                refine region_hold (by kernel_rfl) (by kernel_rfl) ?_
                repeat (go_big_quiet_step (first | exact H1 _))
                refine wpQuiet_nil ?_
                rintro _ ⟨t, rfl⟩
                go_wp2
                · rename_i hpv
                  go_ret
                  have hgd : gd = false := by rw [← hgood.out, HS.out, HPK.out hk0]; simp [entBad, hx1, hx2, HXO.out, hLz, hk0, hpv]
                  exact ⟨ret_bool (by rw [HN.out, hgd]; simp), bl_on Bz t.b⟩
                · rename_i hpv
                  go_roundw
                  case rel =>
                    refine ⟨k + 1, by omega, by go_num, bl_on Bz t.b, blkb t.b HRz.out (blk_lt HRz.out), ?_⟩
                    show _ = _
                    rw [HPV.out, ← hgood.out, HS.out, HPK.out hk0]
                    have hpv2 : ¬ x.key ≤ pk := by omega
                    simp [entBad, hx1, hx2, HXO.out, hLz, hk0, hpv2]
                  case measure => simp [intOf]; omega
        · obtain rfl : k = es.length := by omega
          have hgd : gd = true := by rw [← hgood.out, List.drop_length]; rfl
          subst hgd
          have c3 := Hold.cell (kN 0)
          have c4 := Hold.cell (kN 3)
          have c5 := Hold.cell (kN 6)
          have hcell : 0 < es.length → ∃ b off, A = some ⟨b, off, none⟩ ∧ b < wr.heap.size ∧ wr.cell? ⟨b, off + (es.length - 1) * 3, none⟩ = some (.int .u32 lk) := fun hk => by
            obtain ⟨A', c', he, _, _, _, hat⟩ := h.below hb
            injection he with e1
            subst e1
            obtain ⟨b, off, rfl, hbB, h0, _, _⟩ := Ent.at_ hat (k := es.length - 1) (by omega)
            exact ⟨b, off, rfl, Nat.lt_of_lt_of_le hbB hb.size, by rw [h0, ← HK.out hk]⟩
          have hsz : Hid (res = res) := hide rfl
          go_wp2_with fail
          by_cases hLp : 0 < L
          · by_cases hk : 0 < es.length
            · obtain ⟨b, off, rfl, hbB, q0⟩ := hcell hk
              have c6 := Hold.cell q0
              have e6 : (es.length : Int) - 1 = ((es.length - 1 : Nat) : Int) := by omega
              have e7 : ((es.length - 1 : Nat) : Int) < (es.length : Int) := by omega
              have e8 : IntKind.i64.wrap (((es.length - 1 : Nat) : Int)) = ((es.length - 1 : Nat) : Int) := by rw [IntKind.wrap_i64]; omega
              have e9 : es.length - 1 < es.length := by omega
              have e10 : ¬ (es.length : Int) = 0 := by omega
              have e11 : ((es.length : Int) == 0) = false := beq_eq_false_iff_ne.2 e10
              have e12 : ¬ es.length = 0 := by omega
              have e13 : (es.length == 0) = false := beq_eq_false_iff_ne.2 e12
              clear hcell q0
              refine region_hold (by kernel_rfl) (by kernel_rfl) ?_
              repeat (go_big_quiet_step (fail))
              refine wpQuiet_nil ?_
              rintro _ ⟨t, rfl⟩
              obtain ⟨k9, f9, z9⟩ := blkw (blkb t.b hrow.out zN)
              clear c3 c4 c5 c6
              go_wp2
              all_goals go_ret
              all_goals exact ⟨ret_bool (by rw [HN.out]; clear HN HK HGD; simp_all; try first | rfl | omega | (rw [Bool.eq_iff_iff]; simp; omega) | (split <;> omega)), bl_on hb t.b⟩
            · have e12 : es.length = 0 := by omega
              have e10 : (es.length : Int) = 0 := by omega
              clear hcell
              refine region_hold (by kernel_rfl) (by kernel_rfl) ?_
              repeat (go_big_quiet_step (fail))
              refine wpQuiet_nil ?_
              rintro _ ⟨t, rfl⟩
              go_wp2
              all_goals go_ret
              all_goals exact ⟨ret_bool (by rw [HN.out]; clear HN HK HGD; simp_all; try first | rfl | omega | (rw [Bool.eq_iff_iff]; simp; omega) | (split <;> omega)), bl_on hb t.b⟩
          · have hL00 : L = 0 := by omega
            have hd0 : decide (0 < L) = false := by simp; omega
            clear hcell
            refine region_hold (by kernel_rfl) (by kernel_rfl) ?_
            repeat (go_big_quiet_step (fail))
            refine wpQuiet_nil ?_
            rintro _ ⟨t, rfl⟩
            obtain ⟨k9, f9, z9⟩ := blkw (blkb t.b hrow.out zN)
            clear c3 c4 c5
            go_wp2
            all_goals go_ret
            all_goals exact ⟨ret_bool (by rw [HN.out]; clear HN HK HGD; simp_all; try first | rfl | omega | (rw [Bool.eq_iff_iff]; simp; omega) | (split <;> omega)), bl_on hb t.b⟩
  · by_cases hr0 : rl = 0
    · subst hr0
      have hrg : (rg == 0) = false := by simp at hz ⊢; exact hz
      have hrg' : rg ≠ 0 := by simp at hz; exact hz
      cases hm : (high == 4294967295) with
      | true =>
        go_enter Tryd.func52, Tryd.ntmps52
        go_wp2
        go_ret
        exact ⟨ret_bool (by rw [HN.out]; clear HN HK HGD; simp_all; try first | rfl | omega | (rw [Bool.eq_iff_iff]; simp; omega) | (split <;> omega)), (by repeat (first | exact Below.refl _ _ | assumption | (refine bl_al ?_ _) | (refine bl_dr ?_ _) | (refine bl_on ?_ (by assumption))))⟩
      | false =>
        cases ok with
        | false =>
          go_enter Tryd.func52, Tryd.ntmps52
          go_wp2_with fail
          refine (hOK _).mono ?_
          rintro e w1 ⟨rfl, hb1⟩
          obtain ⟨k0, f0, z0⟩ := blk hb1 (new0 _ _)
          go_wp2
          go_ret
          exact ⟨ret_bool (by rw [HN.out]; clear HN HK HGD; simp_all; try first | rfl | omega | (rw [Bool.eq_iff_iff]; simp; omega) | (split <;> omega)), (by repeat (first | exact Below.refl _ _ | assumption | (refine bl_al ?_ _) | (refine bl_dr ?_ _) | (refine bl_on ?_ (by assumption))))⟩
        | true =>
          go_enter Tryd.func52, Tryd.ntmps52
          go_wp2_with fail
          refine (hOK _).mono ?_
          rintro e w1 ⟨rfl, hb1⟩
          have RW := blkb hb1 (new0 w (.cells #[.int .i64 L, .bool lm, .bool dead, .int .u32 high, .int .i64 0, .int .i64 rg, .slice A es.length c] 73 (0, 0))) (by simp)
          have BW : Below w.heap.size w w1 := (by repeat (first | exact Below.refl _ _ | assumption | (refine bl_al ?_ _) | (refine bl_dr ?_ _) | (refine bl_on ?_ (by assumption))))
          obtain ⟨k0, f0, z0⟩ := blkw RW
          go_wp2_with fail
          clear k0 f0 z0 hb1
          have HR0 := hide RW
          clear RW
          go_loopw [4] (fun i wr => ∃ k : Nat, k ≤ es.length ∧ i = .int .i64 k ∧ Below w.heap.size w wr ∧ Hid (wr.heap[w.heap.size]? = some (.cells #[.int .i64 L, .bool lm, .bool dead, .int .u32 high, .int .i64 0, .int .i64 rg, .slice A es.length c] 73 (0, 0))) ∧ Hid (goodL L high (prevK es k) (k == 0) (es.drop k) = gd)) (fun i _ => es.length - (intOf i).toNat)
          case atStart => exact ⟨0, by omega, rfl, BW, HR0, by show _ = _; rw [← HGD.out]; cases es <;> rfl⟩
          case round =>
            obtain ⟨k, hk, rfl, hb, hrow, hgood⟩ := hrel
            clear HR0 BW
            obtain ⟨kN, fN, zN⟩ := blkw hrow.out
            by_cases hlt : k < es.length
            · have hat : At wr w.heap.size A (es.flatMap Ent.cells) := by obtain ⟨A', c', he, _, _, _, hat⟩ := h.below hb; injection he with e1; subst e1; exact hat
              have hprev : k ≠ 0 → ∃ b off, A = some ⟨b, off, none⟩ ∧ b < w.heap.size ∧ (wr.alloc (.cells #[.int .u32 es[k].key, .int .i64 es[k].line, .int .i64 es[k].gen] 96 (0, 0))).cell? ⟨b, off + (k - 1) * 3, none⟩ = some (.int .u32 (prevK es k)) := fun hk0 => by
                obtain ⟨b, off, rfl, hbB, h0, _, _⟩ := Ent.at_ hat (k := k - 1) (by omega)
                exact ⟨b, off, rfl, hbB, cell_al (by rw [h0, prevK, dif_pos (by omega)]) _⟩
              obtain ⟨b, off, rfl, hbB, h0, h1, h2⟩ := Ent.at_ hat hlt
              have HS := hide (good_step (L := L) (high := high) hlt (prevK es k) (k == 0))
              have HPV : Hid (goodL L high (prevK es (k + 1)) (k + 1 == 0) (es.drop (k + 1)) = goodL L high es[k].key false (es.drop (k + 1))) := hide (by rw [prevK]; simp [hlt])
              have HPK : Hid (k ≠ 0 → ((k == 0) = false)) := hide (fun h => by simp [h])
              clear hat
              generalize es[k] = x at h0 h1 h2 HS HPV hprev
              generalize prevK es k = pk at HS hgood hprev
              have H1 : ∀ t : Hold (wr.alloc (.cells #[.int .u32 x.key, .int .i64 x.line, .int .i64 x.gen] 96 (0, 0))), Calls Tryd.prog 51 #[.agg #[.int .i64 x.line, .int .i64 x.gen]] t.W fun e w' => e = .returned (.bool (okPtr x.line x.gen)) ∧ ∃ t' : Hold (wr.alloc (.cells #[.int .u32 x.key, .int .i64 x.line, .int .i64 x.gen] 96 (0, 0))), w' = t'.W := fun t => Hold.call (rokPtr_any x.line x.gen t.W)
              generalize hxo : okPtr x.line x.gen = xo at H1
              have Bz := bl_al hb (.cells #[.int .u32 x.key, .int .i64 x.line, .int .i64 x.gen] 96 (0, 0))
              have RE := new0 wr (.cells #[.int .u32 x.key, .int .i64 x.line, .int .i64 x.gen] 96 (0, 0))
              have RZ := blk_al hrow.out (.cells #[.int .u32 x.key, .int .i64 x.line, .int .i64 x.gen] 96 (0, 0))
              have HRz := hide RZ
              have c0 := Hold.cell ((blkw RE).1 0)
              have c1 := Hold.cell ((blkw RE).1 1)
              have c2 := Hold.cell ((blkw RE).1 2)
              have c3 := Hold.cell ((blkw RZ).1 0)
              have c4 := Hold.cell ((blkw RZ).1 3)
              have c5 := Hold.cell ((blkw RZ).1 6)
              have HXO := hide hxo
              clear RE RZ hxo
              go_wp2_with fail
              by_cases hx1 : x.key < 1
              · refine region_hold (by kernel_rfl) (by kernel_rfl) ?_
                repeat (go_big_quiet_step (first | exact H1 _))
                refine wpQuiet_nil ?_
                rintro _ ⟨t, rfl⟩
                go_wp2
                go_ret
                have hgd : gd = false := by rw [← hgood.out, HS.out]; simp [entBad, hx1]
                exact ⟨ret_bool (by rw [HN.out, hgd]; simp), bl_on Bz t.b⟩
              by_cases hx2 : high < x.key
              · refine region_hold (by kernel_rfl) (by kernel_rfl) ?_
                repeat (go_big_quiet_step (first | exact H1 _))
                refine wpQuiet_nil ?_
                rintro _ ⟨t, rfl⟩
                go_wp2
                go_ret
                have hgd : gd = false := by rw [← hgood.out, HS.out]; simp [entBad, hx2]
                exact ⟨ret_bool (by rw [HN.out, hgd]; simp), bl_on Bz t.b⟩
              cases xo with
              | false =>
                refine region_hold (by kernel_rfl) (by kernel_rfl) ?_
                repeat (go_big_quiet_step (first | exact H1 _))
                refine wpQuiet_nil ?_
                rintro _ ⟨t, rfl⟩
                go_wp2
                go_ret
                have hgd : gd = false := by rw [← hgood.out, HS.out]; simp [entBad, HXO.out]
                exact ⟨ret_bool (by rw [HN.out, hgd]; simp), bl_on Bz t.b⟩
              | true =>
                have hx1' : ¬ x.key < 1 := hx1
                have hx3 := HXO.out
                by_cases hLz : L = 0
                · subst hLz
                  by_cases hx4 : 4294967294 < x.key
                  · refine region_hold (by kernel_rfl) (by kernel_rfl) ?_
                    repeat (go_big_quiet_step (first | exact H1 _))
                    refine wpQuiet_nil ?_
                    rintro _ ⟨t, rfl⟩
                    go_wp2
                    go_ret
                    have hgd : gd = false := by rw [← hgood.out, HS.out]; simp [entBad, hx4]
                    exact ⟨ret_bool (by rw [HN.out, hgd]; simp), bl_on Bz t.b⟩
                  · by_cases hk0 : k = 0
                    · subst hk0
                      have hk1 : ((0 : Nat) : Int) = 0 := rfl
                      refine region_hold (by kernel_rfl) (by kernel_rfl) ?_
                      repeat (go_big_quiet_step (first | exact H1 _))
                      refine wpQuiet_nil ?_
                      rintro _ ⟨t, rfl⟩
                      go_wp2
                      go_roundw
                      case rel =>
                        refine ⟨0 + 1, by omega, by go_num, bl_on Bz t.b, blkb t.b HRz.out (blk_lt HRz.out), ?_⟩
                        show _ = _
                        rw [HPV.out, ← hgood.out, HS.out]
                        simp [entBad, hx1, hx2, HXO.out, hx4]
                      case measure => simp [intOf]; omega
                    · obtain ⟨pb, poff, hpe, hpB, hpc⟩ := hprev hk0
                      obtain ⟨rfl, rfl⟩ : pb = b ∧ poff = off := by injection hpe with hpe; injection hpe with h1 h2; exact ⟨h1.symm, h2.symm⟩
                      have c7 := Hold.cell hpc
                      have hk1 : (0 : Int) < (k : Int) := by omega
                      have hk5 : 0 < k := by omega
                      have hk2 : (k : Int) - 1 = ((k - 1 : Nat) : Int) := by omega
                      have hk3 : ((k - 1 : Nat) : Int) < (es.length : Int) := by omega
                      have hk4 : IntKind.i64.wrap (((k - 1 : Nat) : Int)) = ((k - 1 : Nat) : Int) := by rw [IntKind.wrap_i64]; omega
                      refine region_hold (by kernel_rfl) (by kernel_rfl) ?_
                      repeat (go_big_quiet_step (first | exact H1 _))
                      refine wpQuiet_nil ?_
                      rintro _ ⟨t, rfl⟩
                      go_wp2
                      · rename_i hpv
                        go_ret
                        have hgd : gd = false := by rw [← hgood.out, HS.out, HPK.out hk0]; simp [entBad, hx1, hx2, HXO.out, hx4, hk0, hpv]
                        exact ⟨ret_bool (by rw [HN.out, hgd]; simp), bl_on Bz t.b⟩
                      · rename_i hpv
                        go_roundw
                        case rel =>
                          refine ⟨k + 1, by omega, by go_num, bl_on Bz t.b, blkb t.b HRz.out (blk_lt HRz.out), ?_⟩
                          show _ = _
                          rw [HPV.out, ← hgood.out, HS.out, HPK.out hk0]
                          have hpv2 : ¬ x.key ≤ pk := by omega
                          simp [entBad, hx1, hx2, HXO.out, hx4, hk0, hpv2]
                        case measure => simp [intOf]; omega
                · have hLz2 : (L == 0) = false := by simp [hLz]
                  by_cases hk0 : k = 0
                  · subst hk0
                    have hk1 : ((0 : Nat) : Int) = 0 := rfl
                    refine region_hold (by kernel_rfl) (by kernel_rfl) ?_
                    repeat (go_big_quiet_step (first | exact H1 _))
                    refine wpQuiet_nil ?_
                    rintro _ ⟨t, rfl⟩
                    go_wp2
                    go_roundw
                    case rel =>
                      refine ⟨0 + 1, by omega, by go_num, bl_on Bz t.b, blkb t.b HRz.out (blk_lt HRz.out), ?_⟩
                      show _ = _
                      rw [HPV.out, ← hgood.out, HS.out]
                      simp [entBad, hx1, hx2, HXO.out, hLz]
                    case measure => simp [intOf]; omega
                  · obtain ⟨pb, poff, hpe, hpB, hpc⟩ := hprev hk0
                    obtain ⟨rfl, rfl⟩ : pb = b ∧ poff = off := by injection hpe with hpe; injection hpe with h1 h2; exact ⟨h1.symm, h2.symm⟩
                    have c7 := Hold.cell hpc
                    have hk1 : (0 : Int) < (k : Int) := by omega
                    have hk5 : 0 < k := by omega
                    have hk2 : (k : Int) - 1 = ((k - 1 : Nat) : Int) := by omega
                    have hk3 : ((k - 1 : Nat) : Int) < (es.length : Int) := by omega
                    have hk4 : IntKind.i64.wrap (((k - 1 : Nat) : Int)) = ((k - 1 : Nat) : Int) := by rw [IntKind.wrap_i64]; omega
                    refine region_hold (by kernel_rfl) (by kernel_rfl) ?_
                    repeat (go_big_quiet_step (first | exact H1 _))
                    refine wpQuiet_nil ?_
                    rintro _ ⟨t, rfl⟩
                    go_wp2
                    · rename_i hpv
                      go_ret
                      have hgd : gd = false := by rw [← hgood.out, HS.out, HPK.out hk0]; simp [entBad, hx1, hx2, HXO.out, hLz, hk0, hpv]
                      exact ⟨ret_bool (by rw [HN.out, hgd]; simp), bl_on Bz t.b⟩
                    · rename_i hpv
                      go_roundw
                      case rel =>
                        refine ⟨k + 1, by omega, by go_num, bl_on Bz t.b, blkb t.b HRz.out (blk_lt HRz.out), ?_⟩
                        show _ = _
                        rw [HPV.out, ← hgood.out, HS.out, HPK.out hk0]
                        have hpv2 : ¬ x.key ≤ pk := by omega
                        simp [entBad, hx1, hx2, HXO.out, hLz, hk0, hpv2]
                      case measure => simp [intOf]; omega
            · obtain rfl : k = es.length := by omega
              have hgd : gd = true := by rw [← hgood.out, List.drop_length]; rfl
              subst hgd
              have c3 := Hold.cell (kN 0)
              have c4 := Hold.cell (kN 3)
              have c5 := Hold.cell (kN 6)
              have hcell : 0 < es.length → ∃ b off, A = some ⟨b, off, none⟩ ∧ b < wr.heap.size ∧ wr.cell? ⟨b, off + (es.length - 1) * 3, none⟩ = some (.int .u32 lk) := fun hk => by
                obtain ⟨A', c', he, _, _, _, hat⟩ := h.below hb
                injection he with e1
                subst e1
                obtain ⟨b, off, rfl, hbB, h0, _, _⟩ := Ent.at_ hat (k := es.length - 1) (by omega)
                exact ⟨b, off, rfl, Nat.lt_of_lt_of_le hbB hb.size, by rw [h0, ← HK.out hk]⟩
              have hsz : Hid (res = res) := hide rfl
              go_wp2_with fail
              by_cases hLp : 0 < L
              · by_cases hk : 0 < es.length
                · obtain ⟨b, off, rfl, hbB, q0⟩ := hcell hk
                  have c6 := Hold.cell q0
                  have e6 : (es.length : Int) - 1 = ((es.length - 1 : Nat) : Int) := by omega
                  have e7 : ((es.length - 1 : Nat) : Int) < (es.length : Int) := by omega
                  have e8 : IntKind.i64.wrap (((es.length - 1 : Nat) : Int)) = ((es.length - 1 : Nat) : Int) := by rw [IntKind.wrap_i64]; omega
                  have e9 : es.length - 1 < es.length := by omega
                  have e10 : ¬ (es.length : Int) = 0 := by omega
                  have e11 : ((es.length : Int) == 0) = false := beq_eq_false_iff_ne.2 e10
                  have e12 : ¬ es.length = 0 := by omega
                  have e13 : (es.length == 0) = false := beq_eq_false_iff_ne.2 e12
                  clear hcell q0
                  refine region_hold (by kernel_rfl) (by kernel_rfl) ?_
                  repeat (go_big_quiet_step (fail))
                  refine wpQuiet_nil ?_
                  rintro _ ⟨t, rfl⟩
                  obtain ⟨k9, f9, z9⟩ := blkw (blkb t.b hrow.out zN)
                  clear c3 c4 c5 c6
                  go_wp2
                  all_goals go_ret
                  all_goals exact ⟨ret_bool (by rw [HN.out]; clear HN HK HGD; simp_all; try first | rfl | omega | (rw [Bool.eq_iff_iff]; simp; omega) | (split <;> omega)), bl_on hb t.b⟩
                · have e12 : es.length = 0 := by omega
                  have e10 : (es.length : Int) = 0 := by omega
                  clear hcell
                  refine region_hold (by kernel_rfl) (by kernel_rfl) ?_
                  repeat (go_big_quiet_step (fail))
                  refine wpQuiet_nil ?_
                  rintro _ ⟨t, rfl⟩
                  go_wp2
                  all_goals go_ret
                  all_goals exact ⟨ret_bool (by rw [HN.out]; clear HN HK HGD; simp_all; try first | rfl | omega | (rw [Bool.eq_iff_iff]; simp; omega) | (split <;> omega)), bl_on hb t.b⟩
              · have hL00 : L = 0 := by omega
                have hd0 : decide (0 < L) = false := by simp; omega
                clear hcell
                refine region_hold (by kernel_rfl) (by kernel_rfl) ?_
                repeat (go_big_quiet_step (fail))
                refine wpQuiet_nil ?_
                rintro _ ⟨t, rfl⟩
                obtain ⟨k9, f9, z9⟩ := blkw (blkb t.b hrow.out zN)
                clear c3 c4 c5
                go_wp2
                all_goals go_ret
                all_goals exact ⟨ret_bool (by rw [HN.out]; clear HN HK HGD; simp_all; try first | rfl | omega | (rw [Bool.eq_iff_iff]; simp; omega) | (split <;> omega)), bl_on hb t.b⟩
    · have hrl : (rl == 0) = false := by simp [hr0]
      cases hm : (high == 4294967295) with
      | true =>
        go_enter Tryd.func52, Tryd.ntmps52
        go_wp2
        go_ret
        exact ⟨ret_bool (by rw [HN.out]; clear HN HK HGD; simp_all; try first | rfl | omega | (rw [Bool.eq_iff_iff]; simp; omega) | (split <;> omega)), (by repeat (first | exact Below.refl _ _ | assumption | (refine bl_al ?_ _) | (refine bl_dr ?_ _) | (refine bl_on ?_ (by assumption))))⟩
      | false =>
        cases ok with
        | false =>
          go_enter Tryd.func52, Tryd.ntmps52
          go_wp2_with fail
          refine (hOK _).mono ?_
          rintro e w1 ⟨rfl, hb1⟩
          obtain ⟨k0, f0, z0⟩ := blk hb1 (new0 _ _)
          go_wp2
          go_ret
          exact ⟨ret_bool (by rw [HN.out]; clear HN HK HGD; simp_all; try first | rfl | omega | (rw [Bool.eq_iff_iff]; simp; omega) | (split <;> omega)), (by repeat (first | exact Below.refl _ _ | assumption | (refine bl_al ?_ _) | (refine bl_dr ?_ _) | (refine bl_on ?_ (by assumption))))⟩
        | true =>
          go_enter Tryd.func52, Tryd.ntmps52
          go_wp2_with fail
          refine (hOK _).mono ?_
          rintro e w1 ⟨rfl, hb1⟩
          have RW := blkb hb1 (new0 w (.cells #[.int .i64 L, .bool lm, .bool dead, .int .u32 high, .int .i64 rl, .int .i64 rg, .slice A es.length c] 73 (0, 0))) (by simp)
          have BW : Below w.heap.size w w1 := (by repeat (first | exact Below.refl _ _ | assumption | (refine bl_al ?_ _) | (refine bl_dr ?_ _) | (refine bl_on ?_ (by assumption))))
          obtain ⟨k0, f0, z0⟩ := blkw RW
          go_wp2_with fail
          clear k0 f0 z0 hb1
          have HR0 := hide RW
          clear RW
          go_loopw [4] (fun i wr => ∃ k : Nat, k ≤ es.length ∧ i = .int .i64 k ∧ Below w.heap.size w wr ∧ Hid (wr.heap[w.heap.size]? = some (.cells #[.int .i64 L, .bool lm, .bool dead, .int .u32 high, .int .i64 rl, .int .i64 rg, .slice A es.length c] 73 (0, 0))) ∧ Hid (goodL L high (prevK es k) (k == 0) (es.drop k) = gd)) (fun i _ => es.length - (intOf i).toNat)
          case atStart => exact ⟨0, by omega, rfl, BW, HR0, by show _ = _; rw [← HGD.out]; cases es <;> rfl⟩
          case round =>
            obtain ⟨k, hk, rfl, hb, hrow, hgood⟩ := hrel
            clear HR0 BW
            obtain ⟨kN, fN, zN⟩ := blkw hrow.out
            by_cases hlt : k < es.length
            · have hat : At wr w.heap.size A (es.flatMap Ent.cells) := by obtain ⟨A', c', he, _, _, _, hat⟩ := h.below hb; injection he with e1; subst e1; exact hat
              have hprev : k ≠ 0 → ∃ b off, A = some ⟨b, off, none⟩ ∧ b < w.heap.size ∧ (wr.alloc (.cells #[.int .u32 es[k].key, .int .i64 es[k].line, .int .i64 es[k].gen] 96 (0, 0))).cell? ⟨b, off + (k - 1) * 3, none⟩ = some (.int .u32 (prevK es k)) := fun hk0 => by
                obtain ⟨b, off, rfl, hbB, h0, _, _⟩ := Ent.at_ hat (k := k - 1) (by omega)
                exact ⟨b, off, rfl, hbB, cell_al (by rw [h0, prevK, dif_pos (by omega)]) _⟩
              obtain ⟨b, off, rfl, hbB, h0, h1, h2⟩ := Ent.at_ hat hlt
              have HS := hide (good_step (L := L) (high := high) hlt (prevK es k) (k == 0))
              have HPV : Hid (goodL L high (prevK es (k + 1)) (k + 1 == 0) (es.drop (k + 1)) = goodL L high es[k].key false (es.drop (k + 1))) := hide (by rw [prevK]; simp [hlt])
              have HPK : Hid (k ≠ 0 → ((k == 0) = false)) := hide (fun h => by simp [h])
              clear hat
              generalize es[k] = x at h0 h1 h2 HS HPV hprev
              generalize prevK es k = pk at HS hgood hprev
              have H1 : ∀ t : Hold (wr.alloc (.cells #[.int .u32 x.key, .int .i64 x.line, .int .i64 x.gen] 96 (0, 0))), Calls Tryd.prog 51 #[.agg #[.int .i64 x.line, .int .i64 x.gen]] t.W fun e w' => e = .returned (.bool (okPtr x.line x.gen)) ∧ ∃ t' : Hold (wr.alloc (.cells #[.int .u32 x.key, .int .i64 x.line, .int .i64 x.gen] 96 (0, 0))), w' = t'.W := fun t => Hold.call (rokPtr_any x.line x.gen t.W)
              generalize hxo : okPtr x.line x.gen = xo at H1
              have Bz := bl_al hb (.cells #[.int .u32 x.key, .int .i64 x.line, .int .i64 x.gen] 96 (0, 0))
              have RE := new0 wr (.cells #[.int .u32 x.key, .int .i64 x.line, .int .i64 x.gen] 96 (0, 0))
              have RZ := blk_al hrow.out (.cells #[.int .u32 x.key, .int .i64 x.line, .int .i64 x.gen] 96 (0, 0))
              have HRz := hide RZ
              have c0 := Hold.cell ((blkw RE).1 0)
              have c1 := Hold.cell ((blkw RE).1 1)
              have c2 := Hold.cell ((blkw RE).1 2)
              have c3 := Hold.cell ((blkw RZ).1 0)
              have c4 := Hold.cell ((blkw RZ).1 3)
              have c5 := Hold.cell ((blkw RZ).1 6)
              have HXO := hide hxo
              clear RE RZ hxo
              go_wp2_with fail
              by_cases hx1 : x.key < 1
              · refine region_hold (by kernel_rfl) (by kernel_rfl) ?_
                repeat (go_big_quiet_step (first | exact H1 _))
                refine wpQuiet_nil ?_
                rintro _ ⟨t, rfl⟩
                go_wp2
                go_ret
                have hgd : gd = false := by rw [← hgood.out, HS.out]; simp [entBad, hx1]
                exact ⟨ret_bool (by rw [HN.out, hgd]; simp), bl_on Bz t.b⟩
              by_cases hx2 : high < x.key
              · refine region_hold (by kernel_rfl) (by kernel_rfl) ?_
                repeat (go_big_quiet_step (first | exact H1 _))
                refine wpQuiet_nil ?_
                rintro _ ⟨t, rfl⟩
                go_wp2
                go_ret
                have hgd : gd = false := by rw [← hgood.out, HS.out]; simp [entBad, hx2]
                exact ⟨ret_bool (by rw [HN.out, hgd]; simp), bl_on Bz t.b⟩
              cases xo with
              | false =>
                refine region_hold (by kernel_rfl) (by kernel_rfl) ?_
                repeat (go_big_quiet_step (first | exact H1 _))
                refine wpQuiet_nil ?_
                rintro _ ⟨t, rfl⟩
                go_wp2
                go_ret
                have hgd : gd = false := by rw [← hgood.out, HS.out]; simp [entBad, HXO.out]
                exact ⟨ret_bool (by rw [HN.out, hgd]; simp), bl_on Bz t.b⟩
              | true =>
                have hx1' : ¬ x.key < 1 := hx1
                have hx3 := HXO.out
                by_cases hLz : L = 0
                · subst hLz
                  by_cases hx4 : 4294967294 < x.key
                  · refine region_hold (by kernel_rfl) (by kernel_rfl) ?_
                    repeat (go_big_quiet_step (first | exact H1 _))
                    refine wpQuiet_nil ?_
                    rintro _ ⟨t, rfl⟩
                    go_wp2
                    go_ret
                    have hgd : gd = false := by rw [← hgood.out, HS.out]; simp [entBad, hx4]
                    exact ⟨ret_bool (by rw [HN.out, hgd]; simp), bl_on Bz t.b⟩
                  · by_cases hk0 : k = 0
                    · subst hk0
                      have hk1 : ((0 : Nat) : Int) = 0 := rfl
                      refine region_hold (by kernel_rfl) (by kernel_rfl) ?_
                      repeat (go_big_quiet_step (first | exact H1 _))
                      refine wpQuiet_nil ?_
                      rintro _ ⟨t, rfl⟩
                      go_wp2
                      go_roundw
                      case rel =>
                        refine ⟨0 + 1, by omega, by go_num, bl_on Bz t.b, blkb t.b HRz.out (blk_lt HRz.out), ?_⟩
                        show _ = _
                        rw [HPV.out, ← hgood.out, HS.out]
                        simp [entBad, hx1, hx2, HXO.out, hx4]
                      case measure => simp [intOf]; omega
                    · obtain ⟨pb, poff, hpe, hpB, hpc⟩ := hprev hk0
                      obtain ⟨rfl, rfl⟩ : pb = b ∧ poff = off := by injection hpe with hpe; injection hpe with h1 h2; exact ⟨h1.symm, h2.symm⟩
                      have c7 := Hold.cell hpc
                      have hk1 : (0 : Int) < (k : Int) := by omega
                      have hk5 : 0 < k := by omega
                      have hk2 : (k : Int) - 1 = ((k - 1 : Nat) : Int) := by omega
                      have hk3 : ((k - 1 : Nat) : Int) < (es.length : Int) := by omega
                      have hk4 : IntKind.i64.wrap (((k - 1 : Nat) : Int)) = ((k - 1 : Nat) : Int) := by rw [IntKind.wrap_i64]; omega
                      refine region_hold (by kernel_rfl) (by kernel_rfl) ?_
                      repeat (go_big_quiet_step (first | exact H1 _))
                      refine wpQuiet_nil ?_
                      rintro _ ⟨t, rfl⟩
                      go_wp2
                      · rename_i hpv
                        go_ret
                        have hgd : gd = false := by rw [← hgood.out, HS.out, HPK.out hk0]; simp [entBad, hx1, hx2, HXO.out, hx4, hk0, hpv]
                        exact ⟨ret_bool (by rw [HN.out, hgd]; simp), bl_on Bz t.b⟩
                      · rename_i hpv
                        go_roundw
                        case rel =>
                          refine ⟨k + 1, by omega, by go_num, bl_on Bz t.b, blkb t.b HRz.out (blk_lt HRz.out), ?_⟩
                          show _ = _
                          rw [HPV.out, ← hgood.out, HS.out, HPK.out hk0]
                          have hpv2 : ¬ x.key ≤ pk := by omega
                          simp [entBad, hx1, hx2, HXO.out, hx4, hk0, hpv2]
                        case measure => simp [intOf]; omega
                · have hLz2 : (L == 0) = false := by simp [hLz]
                  by_cases hk0 : k = 0
                  · subst hk0
                    have hk1 : ((0 : Nat) : Int) = 0 := rfl
                    refine region_hold (by kernel_rfl) (by kernel_rfl) ?_
                    repeat (go_big_quiet_step (first | exact H1 _))
                    refine wpQuiet_nil ?_
                    rintro _ ⟨t, rfl⟩
                    go_wp2
                    go_roundw
                    case rel =>
                      refine ⟨0 + 1, by omega, by go_num, bl_on Bz t.b, blkb t.b HRz.out (blk_lt HRz.out), ?_⟩
                      show _ = _
                      rw [HPV.out, ← hgood.out, HS.out]
                      simp [entBad, hx1, hx2, HXO.out, hLz]
                    case measure => simp [intOf]; omega
                  · obtain ⟨pb, poff, hpe, hpB, hpc⟩ := hprev hk0
                    obtain ⟨rfl, rfl⟩ : pb = b ∧ poff = off := by injection hpe with hpe; injection hpe with h1 h2; exact ⟨h1.symm, h2.symm⟩
                    have c7 := Hold.cell hpc
                    have hk1 : (0 : Int) < (k : Int) := by omega
                    have hk5 : 0 < k := by omega
                    have hk2 : (k : Int) - 1 = ((k - 1 : Nat) : Int) := by omega
                    have hk3 : ((k - 1 : Nat) : Int) < (es.length : Int) := by omega
                    have hk4 : IntKind.i64.wrap (((k - 1 : Nat) : Int)) = ((k - 1 : Nat) : Int) := by rw [IntKind.wrap_i64]; omega
                    refine region_hold (by kernel_rfl) (by kernel_rfl) ?_
                    repeat (go_big_quiet_step (first | exact H1 _))
                    refine wpQuiet_nil ?_
                    rintro _ ⟨t, rfl⟩
                    go_wp2
                    · rename_i hpv
                      go_ret
                      have hgd : gd = false := by rw [← hgood.out, HS.out, HPK.out hk0]; simp [entBad, hx1, hx2, HXO.out, hLz, hk0, hpv]
                      exact ⟨ret_bool (by rw [HN.out, hgd]; simp), bl_on Bz t.b⟩
                    · rename_i hpv
                      go_roundw
                      case rel =>
                        refine ⟨k + 1, by omega, by go_num, bl_on Bz t.b, blkb t.b HRz.out (blk_lt HRz.out), ?_⟩
                        show _ = _
                        rw [HPV.out, ← hgood.out, HS.out, HPK.out hk0]
                        have hpv2 : ¬ x.key ≤ pk := by omega
                        simp [entBad, hx1, hx2, HXO.out, hLz, hk0, hpv2]
                      case measure => simp [intOf]; omega
            · obtain rfl : k = es.length := by omega
              have hgd : gd = true := by rw [← hgood.out, List.drop_length]; rfl
              subst hgd
              have c3 := Hold.cell (kN 0)
              have c4 := Hold.cell (kN 3)
              have c5 := Hold.cell (kN 6)
              have hcell : 0 < es.length → ∃ b off, A = some ⟨b, off, none⟩ ∧ b < wr.heap.size ∧ wr.cell? ⟨b, off + (es.length - 1) * 3, none⟩ = some (.int .u32 lk) := fun hk => by
                obtain ⟨A', c', he, _, _, _, hat⟩ := h.below hb
                injection he with e1
                subst e1
                obtain ⟨b, off, rfl, hbB, h0, _, _⟩ := Ent.at_ hat (k := es.length - 1) (by omega)
                exact ⟨b, off, rfl, Nat.lt_of_lt_of_le hbB hb.size, by rw [h0, ← HK.out hk]⟩
              have hsz : Hid (res = res) := hide rfl
              go_wp2_with fail
              by_cases hLp : 0 < L
              · by_cases hk : 0 < es.length
                · obtain ⟨b, off, rfl, hbB, q0⟩ := hcell hk
                  have c6 := Hold.cell q0
                  have e6 : (es.length : Int) - 1 = ((es.length - 1 : Nat) : Int) := by omega
                  have e7 : ((es.length - 1 : Nat) : Int) < (es.length : Int) := by omega
                  have e8 : IntKind.i64.wrap (((es.length - 1 : Nat) : Int)) = ((es.length - 1 : Nat) : Int) := by rw [IntKind.wrap_i64]; omega
                  have e9 : es.length - 1 < es.length := by omega
                  have e10 : ¬ (es.length : Int) = 0 := by omega
                  have e11 : ((es.length : Int) == 0) = false := beq_eq_false_iff_ne.2 e10
                  have e12 : ¬ es.length = 0 := by omega
                  have e13 : (es.length == 0) = false := beq_eq_false_iff_ne.2 e12
                  clear hcell q0
                  refine region_hold (by kernel_rfl) (by kernel_rfl) ?_
                  repeat (go_big_quiet_step (fail))
                  refine wpQuiet_nil ?_
                  rintro _ ⟨t, rfl⟩
                  obtain ⟨k9, f9, z9⟩ := blkw (blkb t.b hrow.out zN)
                  clear c3 c4 c5 c6
                  go_wp2
                  all_goals go_ret
                  all_goals exact ⟨ret_bool (by rw [HN.out]; clear HN HK HGD; simp_all; try first | rfl | omega | (rw [Bool.eq_iff_iff]; simp; omega) | (split <;> omega)), bl_on hb t.b⟩
                · have e12 : es.length = 0 := by omega
                  have e10 : (es.length : Int) = 0 := by omega
                  clear hcell
                  refine region_hold (by kernel_rfl) (by kernel_rfl) ?_
                  repeat (go_big_quiet_step (fail))
                  refine wpQuiet_nil ?_
                  rintro _ ⟨t, rfl⟩
                  go_wp2
                  all_goals go_ret
                  all_goals exact ⟨ret_bool (by rw [HN.out]; clear HN HK HGD; simp_all; try first | rfl | omega | (rw [Bool.eq_iff_iff]; simp; omega) | (split <;> omega)), bl_on hb t.b⟩
              · have hL00 : L = 0 := by omega
                have hd0 : decide (0 < L) = false := by simp; omega
                clear hcell
                refine region_hold (by kernel_rfl) (by kernel_rfl) ?_
                repeat (go_big_quiet_step (fail))
                refine wpQuiet_nil ?_
                rintro _ ⟨t, rfl⟩
                obtain ⟨k9, f9, z9⟩ := blkw (blkb t.b hrow.out zN)
                clear c3 c4 c5
                go_wp2
                all_goals go_ret
                all_goals exact ⟨ret_bool (by rw [HN.out]; clear HN HK HGD; simp_all; try first | rfl | omega | (rw [Bool.eq_iff_iff]; simp; omega) | (split <;> omega)), bl_on hb t.b⟩
end Go.Proofs.YtkodkbjmeepbiaaDoor
