/- Walks: the reference's reading of a node. Conditions: as each theorem names them. -/
import Derived.Test.YtkodkbjmeepbiaaDoorG3
import Derived.Test.YtkodkbjmeepbiaaDoorG5
set_option linter.unusedVariables false
set_option linter.unusedSimpArgs false
namespace Go.Proofs.YtkodkbjmeepbiaaDoor
open Go.RowKit

/-- Are the words from n to k zero? -/
def zeroTo (p : Page) (n k : Nat) : Bool := (((wordsP p).take k).drop n).all (fun x => x == 0)
theorem zeroTo_lo {p : Page} {n k : Nat} (h : k ≤ n) : zeroTo p n k = true := by
  unfold zeroTo
  rw [List.drop_eq_nil_of_le (by rw [List.length_take]; omega)]
  rfl
theorem zeroTo_hi {p : Page} {n k : Nat} (h : n ≤ k) (hk : k < (wordsP p).length) : zeroTo p n (k + 1) = (zeroTo p n k && ((wordsP p)[k] == 0)) := by
  unfold zeroTo
  rw [List.take_succ_eq_append_getElem hk, List.drop_append_of_le_length (by rw [List.length_take]; omega), List.all_append]
  simp
theorem zeroTo_bad {p : Page} {n k : Nat} (h : n ≤ k) (hk : k < 5) (hw : k < (wordsP p).length) (hx : (wordsP p)[k] ≠ 0) : zeroTo p n 5 = false := by
  unfold zeroTo
  rw [List.all_eq_false]
  refine ⟨(wordsP p)[k], ?_, by simpa using hx⟩
  rw [List.take_of_length_le (by simp [wordsP])]
  have : ((wordsP p).drop n)[k - n]? = some (wordsP p)[k] := by rw [List.getElem?_drop, show n + (k - n) = k by omega, List.getElem?_eq_getElem hw]
  exact List.mem_of_getElem? this
/-- What the reference asks. -/
def refHint (p : Page) : Bool :=
  decide (p.d0 % 256 = 4) && decide (p.d0 / 4294967296 / 262144 = 0) && decide (cntP p ≤ 5) && (decide (p.d1 / 4294967296 = 0) || okPtr (rlP p) (rgP p)) && zeroTo p (cntP p).toNat 5 &&
  rnodeOk (levP p) (lmP p) (deadP p) (highP p) (rlP p) (rgP p) (entsP p (cntP p).toNat) && decide (0 < levP p)
theorem rent_info : (Tryd.prog.info? 96).map (fun i => (i.zero, i.size, i.bytes)) = some (some (.agg #[.int .u32 0, .int .i64 0, .int .i64 0]), 3, 24) := by kernel_rfl

set_option maxRecDepth 100000 in
set_option maxHeartbeats 16000000 in
theorem rreadNode_any (p : Page) (w : World) (hp : p.ok) :
    Calls Tryd.prog 36 #[p.v] w fun e w' => ∃ (L' : Int) (b1 b2 : Bool) (hi rl rg : Int) (sA : Option Addr) (sn sc : Nat) (code : Int), e = .returned (.tuple #[.agg #[.int .i64 L', .bool b1, .bool b2, .int .u32 hi, .int .i64 rl, .int .i64 rg, .slice sA sn sc], .int .i64 code]) ∧ (decide (code = 0) && decide (0 < L')) = refHint p ∧ Below w.heap.size w w' := by
  obtain ⟨⟨hh0, hh1⟩, ⟨hd0, hd1⟩, ⟨he0, he1⟩, hws⟩ := hp
  have HT : Hid (refHint p = (decide (p.d0 % 256 = 4) && decide (p.d0 / 4294967296 / 262144 = 0) && decide (cntP p ≤ 5) && (decide (p.d1 / 4294967296 = 0) || okPtr (rlP p) (rgP p)) && zeroTo p (cntP p).toNat 5 &&
    rnodeOk (levP p) (lmP p) (deadP p) (highP p) (rlP p) (rgP p) (entsP p (cntP p).toNat) && decide (0 < levP p))) := hide rfl
  have hKD : ∀ t, Calls Tryd.prog 38 #[p.v] t fun e w' => e = .returned (.int .i64 (p.d0 % 256)) ∧ Below t.heap.size t w' := fun t => kind_any p t hd0 hd1
  have hAX : ∀ t, Calls Tryd.prog 49 #[p.v] t fun e w' => e = .returned (.int .u32 (p.d0 / 4294967296)) ∧ Below t.heap.size t w' := fun t => aux_any p t hd0 hd1
  have hOK := fun t => rokPtr_any (rlP p) (rgP p) t
  have HRW : Hid (p.d1 / 4294967296 = 0 → rlP p = 0 ∧ rgP p = 0) := hide (by unfold rlP rgP; omega)
  have HU2 : ∀ t, Calls Tryd.prog 50 #[.int .u32 (p.d1 / 4294967296)] t fun e w' => e = .returned (.agg #[.int .i64 (rlP p), .int .i64 (rgP p)]) ∧ Below t.heap.size t w' := fun t => runpack_any (p.d1 / 4294967296) t (by omega) (by omega)
  have e5 : IntKind.u32.wrap p.d1 = highP p := by simp [IntKind.wrap, IntKind.signed, IntKind.bits, highP]
  have hrw0 : 0 ≤ p.d1 / 4294967296 ∧ p.d1 / 4294967296 ≤ 4294967295 := by omega
  have ha0 : 0 ≤ p.d0 / 4294967296 ∧ p.d0 / 4294967296 < 4294967296 := by omega
  have HLEV : Hid (p.d0 / 4294967296 % 256 = levP p) := hide rfl
  have HCNT : Hid (p.d0 / 4294967296 / 256 % 256 = cntP p) := hide rfl
  have e6 : bits .and .u32 (p.d0 / 4294967296 / 65536) 1 = p.d0 / 4294967296 / 65536 % 2 := mask32 _ 1 1 (by decide) (by omega) (by omega) (by omega)
  have e7 : bits .and .u32 (p.d0 / 4294967296 / 131072) 1 = p.d0 / 4294967296 / 131072 % 2 := mask32 _ 1 1 (by decide) (by omega) (by omega) (by omega)
  have HLM : Hid ((p.d0 / 4294967296 / 65536 % 2 == 1) = lmP p) := hide (by unfold lmP; rfl)
  have HDD : Hid ((p.d0 / 4294967296 / 131072 % 2 == 1) = deadP p) := hide (by unfold deadP; rfl)
  generalize hkk : p.d0 % 256 = kk at HT hKD
  generalize hrw : p.d1 / 4294967296 = rw' at HT HRW HU2 hrw0
  generalize hres : refHint p = res at HT ⊢
  clear hkk hres
  generalize highP p = hi at HT e5
  generalize rlP p = rl at HT hOK HRW HU2
  generalize rgP p = rg at HT hOK HRW HU2
  generalize hok : okPtr rl rg = ok at HT hOK
  generalize lmP p = lm at HT HLM
  generalize deadP p = dd at HT HDD
  generalize haux : p.d0 / 4294967296 = aux at HT hAX ha0 HLEV HCNT e6 e7 HLM HDD
  generalize hcnt : cntP p = cnt at HT HCNT
  generalize hlev : levP p = lev at HT HLEV
  clear haux hcnt hlev hok
  have e8 := HLEV.out
  have e9 := HCNT.out
  have e10 : (bits .and .u32 (aux / 65536) 1 == 1) = lm := by rw [e6]; exact HLM.out
  have e11 : (bits .and .u32 (aux / 131072) 1 == 1) = dd := by rw [e7]; exact HDD.out
  clear e6 e7
  have e12 : p.d1 / 4294967296 = rw' := hrw
  have e13 : IntKind.u32.wrap rw' = rw' := by simp [IntKind.wrap, IntKind.signed, IntKind.bits]; omega
  have hc0 : 0 ≤ cnt ∧ cnt ≤ 255 := by omega
  have hl0 : 0 ≤ lev ∧ lev ≤ 255 := by omega
  have e14 : aux.tdiv 256 = aux / 256 := Int.tdiv_eq_ediv_of_nonneg ha0.1
  have e15 : (aux / 256).tmod 256 = aux / 256 % 256 := Int.tmod_eq_emod_of_nonneg (by omega)
  have e16 : aux.tmod 256 = aux % 256 := Int.tmod_eq_emod_of_nonneg ha0.1
  have hbad : kk ≠ 4 ∨ aux / 262144 ≠ 0 ∨ 5 < cnt ∨ (kk = 4 ∧ aux / 262144 = 0 ∧ cnt ≤ 5) := by omega
  go_enter Tryd.func36, Tryd.ntmps36
  go_wp2_with fail
  refine (hAX _).mono ?_
  rintro e w1 ⟨rfl, hb1⟩
  have R0 := blkb hb1 (new1 _ _ _) (by simp; omega)
  have R1 := blkb hb1 (new1' _ _ _) (by simp)
  have B1 : Below w.heap.size w w1 := (by repeat (with_reducible first | assumption | exact Below.refl _ _ | (refine Below.setCell ?_ (by first | omega | (dsimp only; omega) | (simp; omega)) _) | (refine bl_al ?_ _) | (refine bl_dr ?_ _) | (refine bl_on ?_ (by assumption))))
  obtain ⟨k1, f1, z1⟩ := blkw R0
  clear hb1
  go_wp2_with fail
  have RN := new0 w1 (.cells #[.int .i64 lev, .bool lm, .bool dd, .int .u32 hi, .int .i64 0, .int .i64 0, .slice none 0 0] 73 (0, 0))
  have zz := blk_lt R1
  replace R0 := blk_al R0 (.cells #[.int .i64 lev, .bool lm, .bool dd, .int .u32 hi, .int .i64 0, .int .i64 0, .slice none 0 0] 73 (0, 0))
  replace R1 := blk_al R1 (.cells #[.int .i64 lev, .bool lm, .bool dd, .int .u32 hi, .int .i64 0, .int .i64 0, .slice none 0 0] 73 (0, 0))
  replace B1 := bl_al B1 (.cells #[.int .i64 lev, .bool lm, .bool dd, .int .u32 hi, .int .i64 0, .int .i64 0, .slice none 0 0] 73 (0, 0))
  have hsz : w1.heap.size < (w1.alloc (.cells #[.int .i64 lev, .bool lm, .bool dd, .int .u32 hi, .int .i64 0, .int .i64 0, .slice none 0 0] 73 (0, 0))).heap.size := by simp
  change Calls _ _ _ (w1.alloc (.cells #[.int .i64 lev, .bool lm, .bool dd, .int .u32 hi, .int .i64 0, .int .i64 0, .slice none 0 0] 73 (0, 0))) _
  clear k1 f1 z1
  generalize w1.alloc (.cells #[.int .i64 lev, .bool lm, .bool dd, .int .u32 hi, .int .i64 0, .int .i64 0, .slice none 0 0] 73 (0, 0)) = W at RN R0 R1 B1 hsz ⊢
  generalize w1.heap.size = gN at RN zz hsz ⊢
  refine (hKD _).mono ?_
  rintro e w2 ⟨rfl, hb2⟩
  replace R0 := blkb hb2 R0 (blk_lt R0)
  replace R1 := blkb hb2 R1 (blk_lt R1)
  replace RN := blkb hb2 RN (blk_lt RN)
  replace B1 := bl_on B1 hb2
  clear hb2 hbad
  obtain ⟨k3, f3, z3⟩ := blkw R1
  by_cases hk4 : kk = 4
  · subst hk4
    by_cases hax : aux / 262144 = 0
    · by_cases hc5 : cnt ≤ 5
      · obtain ⟨n, rfl⟩ : ∃ n : Nat, cnt = (n : Int) := ⟨cnt.toNat, by omega⟩
        have hn5 : n ≤ 5 := by omega
        have HNI : Hid ((n : Int).toNat = n) := hide (by simp)
        have hc6 : ¬ (5 : Int) < (n : Int) := by omega
        have hx4 : (aux / 262144 == 0) = true := by simp [hax]
        by_cases hr0 : rw' = 0
        · subst hr0
          obtain ⟨rfl, rfl⟩ := HRW.out rfl
          obtain ⟨k0, f0, z0⟩ := blkw R0
          obtain ⟨kR, fR, zR⟩ := blkw RN
          go_wp2_with fail
          clear k3 f3 z3 k0 f0 z0 kR fR zR
          have Bv := B1
          clear B1
          generalize w2 = wv at *
          have HR0 := hide R0
          have HR1 := hide R1
          have HRN := hide RN
          have zv := blk_lt RN
          have zv1 : w.heap.size + 1 < wv.heap.size := blk_lt R1
          clear R0 R1 RN
          go_loopw [8] (fun i wr => ∃ (k : Nat) (A : Option Addr) (c : Nat), k ≤ 5 ∧ i = .int .i64 k ∧ Below w.heap.size w wr ∧ Hid (wr.heap[w.heap.size]? = some (.cells #[.int .i64 p.line, .int .u64 p.head, .int .u64 p.d0, .int .u64 p.d1, .int .u64 p.d2, .int .u64 p.d3, .int .u64 p.d4, .int .u64 p.d5, .int .u64 p.d6] 42 (0, 0))) ∧ Hid (wr.heap[w.heap.size + 1]? = some (.cells #[.int .i64 0, .bool false, .bool false, .int .u32 0, .int .i64 0, .int .i64 0, .slice none 0 0] 73 (0, 0))) ∧
            Hid (wr.heap[gN]? = some (.cells #[.int .i64 lev, .bool lm, .bool dd, .int .u32 hi, .int .i64 0, .int .i64 0, .slice A (min k n) c] 73 (0, 0))) ∧ wr.ownsRow wv.heap.size 96 3 (.slice A (min k n) c) (min k n) ((entsP p (min k n)).flatMap Ent.cells) ∧ wv.heap.size ≤ wr.heap.size ∧ Hid (zeroTo p n k = true)) (fun i _ => 5 - (intOf i).toNat)
          case atStart => exact ⟨0, none, 0, by omega, rfl, Bv, HR0, HR1, by rw [Nat.zero_min]; exact HRN, by rw [Nat.zero_min]; exact World.ownsRow_nil _ _ _ _, Nat.le_refl _, zeroTo_lo (Nat.zero_le _)⟩
          case round =>
            obtain ⟨k, A, c, hk, rfl, hb, hR0, hR1, hRN, O, hsize, hzr⟩ := hrel
            clear HR0 HR1 HRN Bv
            have z6 := blk_lt hRN.out
            have z1' := blk_lt hR1.out
            have zw0 := blk_lt hR0.out
            by_cases hlt : k < 5
            · have hwl : k < (wordsP p).length := by simp [wordsP]; omega
              have hwx := hws (wordsP p)[k] (List.getElem_mem hwl)
              have HES := hide (entsP_succ hwl)
              have hZH : Hid (n ≤ k → zeroTo p n (k + 1) = (zeroTo p n k && ((wordsP p)[k] == 0))) := hide (fun h => zeroTo_hi h hwl)
              have hZB : Hid (n ≤ k → (wordsP p)[k] ≠ 0 → zeroTo p n 5 = false) := hide (fun h hx => zeroTo_bad h hlt hwl hx)
              have q0 : wr.cell? ⟨w.heap.size, 2 + (2 + k), none⟩ = some (.int .u64 (wordsP p)[k]) := by
                rw [(blkw hR0.out).1 (2 + (2 + k))]
                have hk5 : k = 0 ∨ k = 1 ∨ k = 2 ∨ k = 3 ∨ k = 4 := by omega
                rcases hk5 with rfl | rfl | rfl | rfl | rfl <;> rfl
              have q0' : wr.cell? ⟨w.heap.size, 4 + k, none⟩ = some (.int .u64 (wordsP p)[k]) := by
                rw [show 4 + k = 2 + (2 + k) by omega]
                exact q0
              generalize (wordsP p)[k] = x at hwx HES q0 q0' hZH hZB
              obtain ⟨hx0, hx1⟩ := hwx
              have f1 : IntKind.i64.wrap (2 + (k : Int)) = 2 + (k : Int) := by rw [IntKind.wrap_i64]; omega
              have f2 : (0 : Int) ≤ 2 + (k : Int) := by omega
              have f3 : 2 + (k : Int) < 7 := by omega
              by_cases hkn : k < n
              · have hm1 : min k n = k := Nat.min_eq_left (by omega)
                have hm2 : min (k + 1) n = k + 1 := Nat.min_eq_left (by omega)
                rw [hm1] at hRN O
                obtain ⟨kN, fN, zN'⟩ := blkw hRN.out
                have e20 : IntKind.u32.wrap x = x % 4294967296 := by simp [IntKind.wrap, IntKind.signed, IntKind.bits]
                have e21 : IntKind.u32.wrap (x / 4294967296) = x / 4294967296 := by simp [IntKind.wrap, IntKind.signed, IntKind.bits]; omega
                have HU3 : ∀ t, Calls Tryd.prog 50 #[.int .u32 (x % 4294967296)] t fun e w' => e = .returned (.agg #[.int .i64 (x % 256), .int .i64 (x % 4294967296 / 256)]) ∧ Below t.heap.size t w' := fun t => by rw [show x % 256 = x % 4294967296 % 256 by omega]; exact runpack_any (x % 4294967296) t (by omega) (by omega)
                have Oh := hide O
                clear O
                have hkn2 : (k : Int) < (n : Int) := by omega
                have hkn3 : ¬ (n : Int) ≤ (k : Int) := by omega
                go_wp2
                go_region_law (first
                  | (refine step_app _ rfl (.tmp 81) (.tmp 89) 71 rfl wv.heap.size 96 _ 3 24 Tryd.underlying71 rent_info rfl (by omega) (.slice A k c) k _ rfl (O6.out.alloc _) (.slice (some ⟨w6.heap.size, 0, none⟩) 1 1) 1 (decE x).cells rfl (Sl.of_own (own_single w6 _ 3 (decE x).cells rfl)) (decE x).one (by omega) (by omega) (by first | (simp; done) | (simp; omega)) ?_; intro v7 w7 O7 G7 _; have HF7 := own_form O7; obtain ⟨A7, c7, rfl, hc7⟩ := HF7; have O7h := hide O7; clear O7; have RN7 := blkg G7 (blk_al RN6.out _) (own_ne_lt O6.out (by omega)); have kN7 := (blkw RN7).1; have fN7 := (blkw RN7).2.1; have RN7h := hide RN7; clear RN7; have B7 := hide ((bl_al (bl_on (bl_drew hb) hb6) (.cells (decE x).cells.toArray 96 (0, 0))).grown G7 (by first | (simp; done) | (simp; omega)) (fun g hg => by have := own_base O6.out g hg; omega)); have R07 := hide (blkg G7 (blk_al (blkb hb6 (show wr.drew.heap[w.heap.size]? = _ from hR0.out) zw0) _) (own_ne_lt O6.out (by omega))); have R17 := hide (blkg G7 (blk_al (blkb hb6 (show wr.drew.heap[w.heap.size + 1]? = _ from hR1.out) z1') _) (own_ne_lt O6.out (by omega))); have s7 := G7.size; (try simp at s7))
                  | (go_simp; go_at_call 50; refine (HU3 _).mono ?_; rintro e w6 ⟨rfl, hb6⟩; have O6 := hide (own_below (World.ownsRow.drew Oh.out) hb6); have RN6 := hide (blkb hb6 (show wr.drew.heap[gN]? = _ from hRN.out) z6); have z66 := blk_lt RN6.out; have z67 : gN ≠ w6.heap.size := Nat.ne_of_lt z66; have kN6 := (blkw RN6.out).1; have fN6 := (blkw RN6.out).2.1; have s6 := hb6.size; (try simp at s6); dsimp only))
                all_goals go_wp2
                all_goals go_roundw
                all_goals try (case measure => simp [intOf]; omega)
                all_goals refine ⟨k + 1, A7, c7, by omega, by go_num, B7.out.setCell (by dsimp only; omega) _, blk_far R07.out (by dsimp only; omega) _, blk_far R17.out (by dsimp only; omega) _, by rw [hm2]; exact (blk_set (i := 6) RN7h.out (.slice A7 (k + 1) c7)).trans (by simp), ?_, by simp [World.setCell]; omega, zeroTo_lo (by omega)⟩
                all_goals (rw [hm2, HES.out, List.flatMap_append]; refine ownsRow_setCell_below ?_ (by dsimp only; omega) _; simpa using O7h.out)
              · have hm1 : min k n = n := Nat.min_eq_right (by omega)
                have hm2 : min (k + 1) n = n := Nat.min_eq_right (by omega)
                rw [hm1] at hRN O
                obtain ⟨kN, fN, zN'⟩ := blkw hRN.out
                have Oh := hide O
                clear O
                have hkn2 : (n : Int) ≤ (k : Int) := by omega
                by_cases hxz : x = 0
                · subst hxz
                  go_wp2
                  go_roundw
                  case rel => exact ⟨k + 1, A, c, by omega, by go_num, hb, hR0, hR1, by rw [hm2]; exact hRN, by rw [hm2]; exact Oh.out, hsize, by show _ = _; rw [hZH.out (by omega), hzr.out]; rfl⟩
                  case measure => simp [intOf]; omega
                · have hxb : (x == 0) = false := by simp [hxz]
                  obtain ⟨k3, f3', z3⟩ := blkw hR1.out
                  go_wp2
                  have hzb := hZB.out (by omega) hxz
                  refine bodyPost_ret (v := .tuple #[.agg #[.int .i64 0, .bool false, .bool false, .int .u32 0, .int .i64 0, .int .i64 0, .slice none 0 0], .int .i64 14]) (by simp [results, Tryd.results36, go_sem, k3, f3']) rfl ⟨0, false, false, 0, 0, 0, none, 0, 0, 14, rfl, ?_, (by repeat (with_reducible first | assumption | exact Below.refl _ _ | (refine Below.setCell ?_ (by first | omega | (dsimp only; omega) | (simp; omega)) _) | (refine bl_al ?_ _) | (refine bl_dr ?_ _) | (refine bl_on ?_ (by assumption))))⟩
                  rw [HT.out]
                  rw [HNI.out, hzb]
                  simp
            · obtain rfl : k = 5 := by omega
              have hm1 : min 5 n = n := Nat.min_eq_right (by omega)
              rw [hm1] at hRN O
              have hlen := entsP_len (p := p) hn5
              obtain ⟨kN, fN, zN'⟩ := blkw hRN.out
              obtain ⟨k3, f3', z3⟩ := blkw hR1.out
              have hSl : Sl wr wr.heap.size 3 (.slice A n c) n ((entsP p n).flatMap Ent.cells) := Sl.of_own O
              have H1 := rvalidNode_any lev lm dd hi 0 0 (.slice A n c) (entsP p n) wr hl0.1 (by rw [hlen]; exact hSl) (by omega)
              generalize hnn : rnodeOk lev lm dd hi 0 0 (entsP p n) = nn at H1
              have HNN := hide hnn
              clear hnn hSl
              have Oh := hide O
              clear O
              go_wp2_with fail
              refine H1.mono ?_
              rintro e w6 ⟨rfl, hb6⟩
              have R16 := blkb hb6 hR1.out z1'
              have RN6 := blkb hb6 hRN.out z6
              have B6 := bl_on hb hb6
              obtain ⟨k6, f6, z66⟩ := blkw R16
              obtain ⟨k7, f7, z67⟩ := blkw RN6
              clear kN fN k3 f3' hb6
              cases nn with
              | false =>
                go_wp2
                refine bodyPost_ret (v := .tuple #[.agg #[.int .i64 0, .bool false, .bool false, .int .u32 0, .int .i64 0, .int .i64 0, .slice none 0 0], .int .i64 14]) (by simp [results, Tryd.results36, go_sem, k6, f6]) rfl ⟨0, false, false, 0, 0, 0, none, 0, 0, 14, rfl, ?_, (by repeat (with_reducible first | assumption | exact Below.refl _ _ | (refine Below.setCell ?_ (by first | omega | (dsimp only; omega) | (simp; omega)) _) | (refine bl_al ?_ _) | (refine bl_dr ?_ _) | (refine bl_on ?_ (by assumption))))⟩
                rw [HT.out]
                rw [HNI.out, HNN.out]
                simp
              | true =>
                go_wp2
                refine bodyPost_ret (v := .tuple #[.agg #[.int .i64 lev, .bool lm, .bool dd, .int .u32 hi, .int .i64 0, .int .i64 0, .slice A n c], .int .i64 0]) (by simp [results, Tryd.results36, go_sem, k6, f6]) rfl ⟨lev, lm, dd, hi, 0, 0, A, n, c, 0, rfl, ?_, (by repeat (with_reducible first | assumption | exact Below.refl _ _ | (refine Below.setCell ?_ (by first | omega | (dsimp only; omega) | (simp; omega)) _) | (refine bl_al ?_ _) | (refine bl_dr ?_ _) | (refine bl_on ?_ (by assumption))))⟩
                rw [HT.out, HNI.out, HNN.out, hzr.out]
                simp [hax, hc5]
        · have hr1 : (rw' == 0) = false := by simp [hr0]
          obtain ⟨k0, f0, z0⟩ := blkw R0
          obtain ⟨kR, fR, zR⟩ := blkw RN
          go_wp2_with fail
          refine (HU2 _).mono ?_
          rintro e w3 ⟨rfl, hb3⟩
          replace R0 := blkb hb3 R0 (blk_lt R0)
          replace R1 := blkb hb3 R1 (blk_lt R1)
          replace RN := blkb hb3 RN (blk_lt RN)
          replace B1 := bl_on B1 hb3
          clear hb3 k0 f0 z0 kR fR zR k3 f3 z3
          obtain ⟨kR, fR, zR⟩ := blkw RN
          go_wp2_with fail
          have RN' := (blk_set (i := 5) (blk_set (i := 4) RN (.int .i64 rl)) (.int .i64 rg)).trans (show _ = some (.cells #[.int .i64 lev, .bool lm, .bool dd, .int .u32 hi, .int .i64 rl, .int .i64 rg, .slice none 0 0] 73 (0, 0)) by simp)
          have R0' := blk_far (a := ⟨gN, 5, none⟩) (blk_far (a := ⟨gN, 4, none⟩) R0 (by dsimp only; omega) (.int .i64 rl)) (by dsimp only; omega) (.int .i64 rg)
          have R1' := blk_far (a := ⟨gN, 5, none⟩) (blk_far (a := ⟨gN, 4, none⟩) R1 (by dsimp only; omega) (.int .i64 rl)) (by dsimp only; omega) (.int .i64 rg)
          have B1' : Below w.heap.size w ((w3.setCell ⟨gN, 4, none⟩ (.int .i64 rl)).setCell ⟨gN, 5, none⟩ (.int .i64 rg)) := (B1.setCell (by dsimp only; omega) _).setCell (by dsimp only; omega) _
          clear kR fR zR RN R0 R1 B1
          generalize ((w3.setCell ⟨gN, 4, none⟩ (.int .i64 rl)).setCell ⟨gN, 5, none⟩ (.int .i64 rg)) = W4 at RN' R0' R1' B1' ⊢
          refine (hOK _).mono ?_
          rintro e wv ⟨rfl, hb4⟩
          have R0 := blkb hb4 R0' (blk_lt R0')
          have R1 := blkb hb4 R1' (blk_lt R1')
          have RN := blkb hb4 RN' (blk_lt RN')
          have Bv := bl_on B1' hb4
          clear hb4 RN' R0' R1' B1'
          obtain ⟨k3, f3, z3⟩ := blkw R1
          cases ok with
          | false =>
            go_wp2
            refine bodyPost_ret (v := .tuple #[.agg #[.int .i64 0, .bool false, .bool false, .int .u32 0, .int .i64 0, .int .i64 0, .slice none 0 0], .int .i64 14]) (by simp [results, Tryd.results36, go_sem, k3, f3]) rfl ⟨0, false, false, 0, 0, 0, none, 0, 0, 14, rfl, ?_, (by repeat (with_reducible first | assumption | exact Below.refl _ _ | (refine Below.setCell ?_ (by first | omega | (dsimp only; omega) | (simp; omega)) _) | (refine bl_al ?_ _) | (refine bl_dr ?_ _) | (refine bl_on ?_ (by assumption))))⟩
            rw [HT.out]
            simp [hr0]
          | true =>
            go_wp2_with fail
            clear k3 f3 z3
            have HR0 := hide R0
            have HR1 := hide R1
            have HRN := hide RN
            have zv := blk_lt RN
            have zv1 : w.heap.size + 1 < wv.heap.size := blk_lt R1
            clear R0 R1 RN
            go_loopw [8] (fun i wr => ∃ (k : Nat) (A : Option Addr) (c : Nat), k ≤ 5 ∧ i = .int .i64 k ∧ Below w.heap.size w wr ∧ Hid (wr.heap[w.heap.size]? = some (.cells #[.int .i64 p.line, .int .u64 p.head, .int .u64 p.d0, .int .u64 p.d1, .int .u64 p.d2, .int .u64 p.d3, .int .u64 p.d4, .int .u64 p.d5, .int .u64 p.d6] 42 (0, 0))) ∧ Hid (wr.heap[w.heap.size + 1]? = some (.cells #[.int .i64 0, .bool false, .bool false, .int .u32 0, .int .i64 0, .int .i64 0, .slice none 0 0] 73 (0, 0))) ∧
              Hid (wr.heap[gN]? = some (.cells #[.int .i64 lev, .bool lm, .bool dd, .int .u32 hi, .int .i64 rl, .int .i64 rg, .slice A (min k n) c] 73 (0, 0))) ∧ wr.ownsRow wv.heap.size 96 3 (.slice A (min k n) c) (min k n) ((entsP p (min k n)).flatMap Ent.cells) ∧ wv.heap.size ≤ wr.heap.size ∧ Hid (zeroTo p n k = true)) (fun i _ => 5 - (intOf i).toNat)
            case atStart => exact ⟨0, none, 0, by omega, rfl, Bv, HR0, HR1, by rw [Nat.zero_min]; exact HRN, by rw [Nat.zero_min]; exact World.ownsRow_nil _ _ _ _, Nat.le_refl _, zeroTo_lo (Nat.zero_le _)⟩
            case round =>
              obtain ⟨k, A, c, hk, rfl, hb, hR0, hR1, hRN, O, hsize, hzr⟩ := hrel
              clear HR0 HR1 HRN Bv
              have z6 := blk_lt hRN.out
              have z1' := blk_lt hR1.out
              have zw0 := blk_lt hR0.out
              by_cases hlt : k < 5
              · have hwl : k < (wordsP p).length := by simp [wordsP]; omega
                have hwx := hws (wordsP p)[k] (List.getElem_mem hwl)
                have HES := hide (entsP_succ hwl)
                have hZH : Hid (n ≤ k → zeroTo p n (k + 1) = (zeroTo p n k && ((wordsP p)[k] == 0))) := hide (fun h => zeroTo_hi h hwl)
                have hZB : Hid (n ≤ k → (wordsP p)[k] ≠ 0 → zeroTo p n 5 = false) := hide (fun h hx => zeroTo_bad h hlt hwl hx)
                have q0 : wr.cell? ⟨w.heap.size, 2 + (2 + k), none⟩ = some (.int .u64 (wordsP p)[k]) := by
                  rw [(blkw hR0.out).1 (2 + (2 + k))]
                  have hk5 : k = 0 ∨ k = 1 ∨ k = 2 ∨ k = 3 ∨ k = 4 := by omega
                  rcases hk5 with rfl | rfl | rfl | rfl | rfl <;> rfl
                have q0' : wr.cell? ⟨w.heap.size, 4 + k, none⟩ = some (.int .u64 (wordsP p)[k]) := by
                  rw [show 4 + k = 2 + (2 + k) by omega]
                  exact q0
                generalize (wordsP p)[k] = x at hwx HES q0 q0' hZH hZB
                obtain ⟨hx0, hx1⟩ := hwx
                have f1 : IntKind.i64.wrap (2 + (k : Int)) = 2 + (k : Int) := by rw [IntKind.wrap_i64]; omega
                have f2 : (0 : Int) ≤ 2 + (k : Int) := by omega
                have f3 : 2 + (k : Int) < 7 := by omega
                by_cases hkn : k < n
                · have hm1 : min k n = k := Nat.min_eq_left (by omega)
                  have hm2 : min (k + 1) n = k + 1 := Nat.min_eq_left (by omega)
                  rw [hm1] at hRN O
                  obtain ⟨kN, fN, zN'⟩ := blkw hRN.out
                  have e20 : IntKind.u32.wrap x = x % 4294967296 := by simp [IntKind.wrap, IntKind.signed, IntKind.bits]
                  have e21 : IntKind.u32.wrap (x / 4294967296) = x / 4294967296 := by simp [IntKind.wrap, IntKind.signed, IntKind.bits]; omega
                  have HU3 : ∀ t, Calls Tryd.prog 50 #[.int .u32 (x % 4294967296)] t fun e w' => e = .returned (.agg #[.int .i64 (x % 256), .int .i64 (x % 4294967296 / 256)]) ∧ Below t.heap.size t w' := fun t => by rw [show x % 256 = x % 4294967296 % 256 by omega]; exact runpack_any (x % 4294967296) t (by omega) (by omega)
                  have Oh := hide O
                  clear O
                  have hkn2 : (k : Int) < (n : Int) := by omega
                  have hkn3 : ¬ (n : Int) ≤ (k : Int) := by omega
                  go_wp2
                  go_region_law (first
                    | (refine step_app _ rfl (.tmp 81) (.tmp 89) 71 rfl wv.heap.size 96 _ 3 24 Tryd.underlying71 rent_info rfl (by omega) (.slice A k c) k _ rfl (O6.out.alloc _) (.slice (some ⟨w6.heap.size, 0, none⟩) 1 1) 1 (decE x).cells rfl (Sl.of_own (own_single w6 _ 3 (decE x).cells rfl)) (decE x).one (by omega) (by omega) (by first | (simp; done) | (simp; omega)) ?_; intro v7 w7 O7 G7 _; have HF7 := own_form O7; obtain ⟨A7, c7, rfl, hc7⟩ := HF7; have O7h := hide O7; clear O7; have RN7 := blkg G7 (blk_al RN6.out _) (own_ne_lt O6.out (by omega)); have kN7 := (blkw RN7).1; have fN7 := (blkw RN7).2.1; have RN7h := hide RN7; clear RN7; have B7 := hide ((bl_al (bl_on (bl_drew hb) hb6) (.cells (decE x).cells.toArray 96 (0, 0))).grown G7 (by first | (simp; done) | (simp; omega)) (fun g hg => by have := own_base O6.out g hg; omega)); have R07 := hide (blkg G7 (blk_al (blkb hb6 (show wr.drew.heap[w.heap.size]? = _ from hR0.out) zw0) _) (own_ne_lt O6.out (by omega))); have R17 := hide (blkg G7 (blk_al (blkb hb6 (show wr.drew.heap[w.heap.size + 1]? = _ from hR1.out) z1') _) (own_ne_lt O6.out (by omega))); have s7 := G7.size; (try simp at s7))
                    | (go_simp; go_at_call 50; refine (HU3 _).mono ?_; rintro e w6 ⟨rfl, hb6⟩; have O6 := hide (own_below (World.ownsRow.drew Oh.out) hb6); have RN6 := hide (blkb hb6 (show wr.drew.heap[gN]? = _ from hRN.out) z6); have z66 := blk_lt RN6.out; have z67 : gN ≠ w6.heap.size := Nat.ne_of_lt z66; have kN6 := (blkw RN6.out).1; have fN6 := (blkw RN6.out).2.1; have s6 := hb6.size; (try simp at s6); dsimp only))
                  all_goals go_wp2
                  all_goals go_roundw
                  all_goals try (case measure => simp [intOf]; omega)
                  all_goals refine ⟨k + 1, A7, c7, by omega, by go_num, B7.out.setCell (by dsimp only; omega) _, blk_far R07.out (by dsimp only; omega) _, blk_far R17.out (by dsimp only; omega) _, by rw [hm2]; exact (blk_set (i := 6) RN7h.out (.slice A7 (k + 1) c7)).trans (by simp), ?_, by simp [World.setCell]; omega, zeroTo_lo (by omega)⟩
                  all_goals (rw [hm2, HES.out, List.flatMap_append]; refine ownsRow_setCell_below ?_ (by dsimp only; omega) _; simpa using O7h.out)
                · have hm1 : min k n = n := Nat.min_eq_right (by omega)
                  have hm2 : min (k + 1) n = n := Nat.min_eq_right (by omega)
                  rw [hm1] at hRN O
                  obtain ⟨kN, fN, zN'⟩ := blkw hRN.out
                  have Oh := hide O
                  clear O
                  have hkn2 : (n : Int) ≤ (k : Int) := by omega
                  by_cases hxz : x = 0
                  · subst hxz
                    go_wp2
                    go_roundw
                    case rel => exact ⟨k + 1, A, c, by omega, by go_num, hb, hR0, hR1, by rw [hm2]; exact hRN, by rw [hm2]; exact Oh.out, hsize, by show _ = _; rw [hZH.out (by omega), hzr.out]; rfl⟩
                    case measure => simp [intOf]; omega
                  · have hxb : (x == 0) = false := by simp [hxz]
                    obtain ⟨k3, f3', z3⟩ := blkw hR1.out
                    go_wp2
                    have hzb := hZB.out (by omega) hxz
                    refine bodyPost_ret (v := .tuple #[.agg #[.int .i64 0, .bool false, .bool false, .int .u32 0, .int .i64 0, .int .i64 0, .slice none 0 0], .int .i64 14]) (by simp [results, Tryd.results36, go_sem, k3, f3']) rfl ⟨0, false, false, 0, 0, 0, none, 0, 0, 14, rfl, ?_, (by repeat (with_reducible first | assumption | exact Below.refl _ _ | (refine Below.setCell ?_ (by first | omega | (dsimp only; omega) | (simp; omega)) _) | (refine bl_al ?_ _) | (refine bl_dr ?_ _) | (refine bl_on ?_ (by assumption))))⟩
                    rw [HT.out]
                    rw [HNI.out, hzb]
                    simp
              · obtain rfl : k = 5 := by omega
                have hm1 : min 5 n = n := Nat.min_eq_right (by omega)
                rw [hm1] at hRN O
                have hlen := entsP_len (p := p) hn5
                obtain ⟨kN, fN, zN'⟩ := blkw hRN.out
                obtain ⟨k3, f3', z3⟩ := blkw hR1.out
                have hSl : Sl wr wr.heap.size 3 (.slice A n c) n ((entsP p n).flatMap Ent.cells) := Sl.of_own O
                have H1 := rvalidNode_any lev lm dd hi rl rg (.slice A n c) (entsP p n) wr hl0.1 (by rw [hlen]; exact hSl) (by omega)
                generalize hnn : rnodeOk lev lm dd hi rl rg (entsP p n) = nn at H1
                have HNN := hide hnn
                clear hnn hSl
                have Oh := hide O
                clear O
                go_wp2_with fail
                refine H1.mono ?_
                rintro e w6 ⟨rfl, hb6⟩
                have R16 := blkb hb6 hR1.out z1'
                have RN6 := blkb hb6 hRN.out z6
                have B6 := bl_on hb hb6
                obtain ⟨k6, f6, z66⟩ := blkw R16
                obtain ⟨k7, f7, z67⟩ := blkw RN6
                clear kN fN k3 f3' hb6
                cases nn with
                | false =>
                  go_wp2
                  refine bodyPost_ret (v := .tuple #[.agg #[.int .i64 0, .bool false, .bool false, .int .u32 0, .int .i64 0, .int .i64 0, .slice none 0 0], .int .i64 14]) (by simp [results, Tryd.results36, go_sem, k6, f6]) rfl ⟨0, false, false, 0, 0, 0, none, 0, 0, 14, rfl, ?_, (by repeat (with_reducible first | assumption | exact Below.refl _ _ | (refine Below.setCell ?_ (by first | omega | (dsimp only; omega) | (simp; omega)) _) | (refine bl_al ?_ _) | (refine bl_dr ?_ _) | (refine bl_on ?_ (by assumption))))⟩
                  rw [HT.out]
                  rw [HNI.out, HNN.out]
                  simp
                | true =>
                  go_wp2
                  refine bodyPost_ret (v := .tuple #[.agg #[.int .i64 lev, .bool lm, .bool dd, .int .u32 hi, .int .i64 rl, .int .i64 rg, .slice A n c], .int .i64 0]) (by simp [results, Tryd.results36, go_sem, k6, f6]) rfl ⟨lev, lm, dd, hi, rl, rg, A, n, c, 0, rfl, ?_, (by repeat (with_reducible first | assumption | exact Below.refl _ _ | (refine Below.setCell ?_ (by first | omega | (dsimp only; omega) | (simp; omega)) _) | (refine bl_al ?_ _) | (refine bl_dr ?_ _) | (refine bl_on ?_ (by assumption))))⟩
                  rw [HT.out, HNI.out, HNN.out, hzr.out]
                  simp [hax, hc5]
      · have hc6 : 5 < cnt := by omega
        have hx4 : (aux / 262144 == 0) = true := by simp [hax]
        go_wp2
        refine bodyPost_ret (v := .tuple #[.agg #[.int .i64 0, .bool false, .bool false, .int .u32 0, .int .i64 0, .int .i64 0, .slice none 0 0], .int .i64 14]) (by simp [results, Tryd.results36, go_sem, k3, f3]) rfl ⟨0, false, false, 0, 0, 0, none, 0, 0, 14, rfl, ?_, (by repeat (with_reducible first | assumption | exact Below.refl _ _ | (refine Below.setCell ?_ (by first | omega | (dsimp only; omega) | (simp; omega)) _) | (refine bl_al ?_ _) | (refine bl_dr ?_ _) | (refine bl_on ?_ (by assumption))))⟩
        rw [HT.out]
        simp
        omega
    · have hx4 : (aux / 262144 == 0) = false := by simp [hax]
      go_wp2
      refine bodyPost_ret (v := .tuple #[.agg #[.int .i64 0, .bool false, .bool false, .int .u32 0, .int .i64 0, .int .i64 0, .slice none 0 0], .int .i64 14]) (by simp [results, Tryd.results36, go_sem, k3, f3]) rfl ⟨0, false, false, 0, 0, 0, none, 0, 0, 14, rfl, ?_, (by repeat (with_reducible first | assumption | exact Below.refl _ _ | (refine Below.setCell ?_ (by first | omega | (dsimp only; omega) | (simp; omega)) _) | (refine bl_al ?_ _) | (refine bl_dr ?_ _) | (refine bl_on ?_ (by assumption))))⟩
      rw [HT.out]
      simp [hax]
  · have hk5 : (kk == 4) = false := by simp [hk4]
    go_wp2
    refine bodyPost_ret (v := .tuple #[.agg #[.int .i64 0, .bool false, .bool false, .int .u32 0, .int .i64 0, .int .i64 0, .slice none 0 0], .int .i64 14]) (by simp [results, Tryd.results36, go_sem, k3, f3]) rfl ⟨0, false, false, 0, 0, 0, none, 0, 0, 14, rfl, ?_, (by repeat (with_reducible first | assumption | exact Below.refl _ _ | (refine Below.setCell ?_ (by first | omega | (dsimp only; omega) | (simp; omega)) _) | (refine bl_al ?_ _) | (refine bl_dr ?_ _) | (refine bl_on ?_ (by assumption))))⟩
    rw [HT.out]
    simp [hk4]
end Go.Proofs.YtkodkbjmeepbiaaDoor
