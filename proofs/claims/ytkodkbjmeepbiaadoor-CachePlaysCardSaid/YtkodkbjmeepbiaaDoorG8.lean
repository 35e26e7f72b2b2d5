/- Walks: which pages are hints, in the program and in the reference. Conditions: as each theorem names them. -/
import Derived.Test.YtkodkbjmeepbiaaDoorG7
import Derived.Test.YtkodkbjmeepbiaaDoorF2
import Derived.Test.YtkodkbjmeepbiaaDoorC6
set_option linter.unusedVariables false
set_option linter.unusedSimpArgs false
namespace Go.Proofs.YtkodkbjmeepbiaaDoor
open Go.RowKit

theorem rlocate_any (l : Int) (w : World) (h0 : 0 ≤ l) (h1 : l ≤ 1000) :
    Calls Tryd.prog 37 #[.int .i64 256, .int .i64 l] w fun e w' => ∃ s i : Int, e = .returned (.tuple #[.int .i64 s, .int .i64 i, .bool (inSeg l)]) ∧ w = w' := by
  go_enter Tryd.func37, Tryd.ntmps37
  go_wp2
  go_loop [7] (fun i => ∃ k : Nat, k ≤ 9 ∧ i = .int .i64 k ∧ Hid (∀ j : Nat, j < k → ¬ (104 + 16 * (j : Int) < l ∧ l < 104 + 16 * (j : Int) + 16))) (fun i => 9 - (intOf i).toNat)
  case atStart => exact ⟨0, by omega, rfl, fun j hj => by omega⟩
  case round =>
    obtain ⟨k, hk, rfl, hno⟩ := hrel
    by_cases hlt : k < 9
    · have hk0 : (0 : Int) ≤ (k : Int) := by omega
      have hk8 : (k : Int) ≤ 8 := by omega
      have hk9 : (k : Int) < 9 := by omega
      by_cases ha : 104 + 16 * (k : Int) < l
      · by_cases hb : l < 104 + 16 * (k : Int) + 16
        · have hin : inSeg l = true := by simp [inSeg]; omega
          have HIN := hide hin
          clear hin
          go_wp2_with (first | (go_at_call 53; refine (rcount_any _).mono ?_; rintro e w1 ⟨rfl, rfl⟩) | (go_at_call 54; refine (header_any k _ hk0 hk8).mono ?_; rintro e w1 ⟨rfl, rfl⟩))
          refine bodyPost_ret (v := .tuple #[.int .i64 k, .int .i64 (l - (104 + 16 * (k : Int))), .bool true]) (by simp [results, Tryd.results37, go_sem]) rfl ⟨k, l - (104 + 16 * (k : Int)), ?_, rfl⟩
          rw [HIN.out]
        · go_wp2_with (first | (go_at_call 53; refine (rcount_any _).mono ?_; rintro e w1 ⟨rfl, rfl⟩) | (go_at_call 54; refine (header_any k _ hk0 hk8).mono ?_; rintro e w1 ⟨rfl, rfl⟩))
          go_round
          case rel =>
            refine ⟨k + 1, by omega, by go_num, fun j hj => ?_⟩
            rcases Nat.lt_or_ge j k with h | h
            · exact hno.out j h
            · obtain rfl : j = k := by omega
              omega
          case measure => simp [intOf]; omega
      · go_wp2_with (first | (go_at_call 53; refine (rcount_any _).mono ?_; rintro e w1 ⟨rfl, rfl⟩) | (go_at_call 54; refine (header_any k _ hk0 hk8).mono ?_; rintro e w1 ⟨rfl, rfl⟩))
        go_round
        case rel =>
          refine ⟨k + 1, by omega, by go_num, fun j hj => ?_⟩
          rcases Nat.lt_or_ge j k with h | h
          · exact hno.out j h
          · obtain rfl : j = k := by omega
            omega
        case measure => simp [intOf]; omega
    · obtain rfl : k = 9 := by omega
      have hin : inSeg l = false := by
        rw [Bool.eq_false_iff]
        intro hc
        simp [inSeg] at hc
        have := hno.out ((l - 104) / 16).toNat (by omega)
        omega
      have HIN := hide hin
      clear hin
      go_wp2_with (go_at_call 53; refine (rcount_any _).mono ?_; rintro e w1 ⟨rfl, rfl⟩)
      refine bodyPost_ret (v := .tuple #[.int .i64 0, .int .i64 0, .bool false]) (by simp [results, Tryd.results37, go_sem]) rfl ⟨0, 0, ?_, rfl⟩
      rw [HIN.out]

/-- A page that only guides a search. -/
def hintP (p : Page) : Bool := (p.line == 96) || (inSeg p.line && ((p.d0 % 256 == 3) || treeHint p))

theorem field_kind (a b c : Int) (W : World) : (Instr.field 89 (.agg #[.int .i64 a, .int .i64 b, .int .u32 c]) 0).run Tryd.prog W = .ok (.int .i64 a) W := by kernel_rfl
set_option maxRecDepth 100000 in
set_option maxHeartbeats 4000000 in
theorem isHint_any (p : Page) (w : World) (hp : p.ok) (hg : NoneIs w) (h0 : 0 ≤ p.line) (h1 : p.line ≤ 1000) :
    Calls Tryd.prog 35 #[p.v] w fun e w' => e = .returned (.bool (hintP p)) ∧ Below w.heap.size w w' := by
  have HH : Hid (hintP p = ((p.line == 96) || (inSeg p.line && ((p.d0 % 256 == 3) || treeHint p)))) := hide rfl
  have hd := hp.2.1
  have HLO := fun t => locate_any p.line t h0 h1
  generalize hres : hintP p = res at HH ⊢
  clear hres
  cases hl : (p.line == 96) with
  | true =>
    have HL := hide hl
    go_enter Tryd.func35, Tryd.ntmps35
    go_wp2
    go_ret
    exact ⟨ret_bool (by rw [HH.out, HL.out]; rfl), (by repeat (first | exact Below.refl _ _ | assumption | (refine bl_al ?_ _) | (refine bl_dr ?_ _) | (refine bl_on ?_ (by assumption))))⟩
  | false =>
    have HL := hide hl
    cases hs : inSeg p.line with
    | false =>
      have HS := hide hs
      rw [hs] at HLO
      clear hs
      go_enter Tryd.func35, Tryd.ntmps35
      go_wp2_with fail
      refine (HLO _).mono ?_
      rintro e w1 ⟨s, i, rfl, rfl⟩
      go_wp2
      go_ret
      exact ⟨ret_bool (by rw [HH.out, HL.out, HS.out]; rfl), (by repeat (first | exact Below.refl _ _ | assumption | (refine bl_al ?_ _) | (refine bl_dr ?_ _) | (refine bl_on ?_ (by assumption))))⟩
    | true =>
      have HS := hide hs
      rw [hs] at HLO
      clear hs
      go_enter Tryd.func35, Tryd.ntmps35
      go_wp2_with fail
      refine (HLO _).mono ?_
      rintro e w1 ⟨s, i, rfl, rfl⟩
      go_wp2_with fail
      refine (readNode_any p _ hp (hg.on (bl_al (Below.refl _ _) _))).mono ?_
      rintro e w2 ⟨L', b1, b2, hi, rl, rg, sA, sn, sc, code, rfl, hth, hb⟩
      obtain ⟨k0, f0, z0⟩ := blk hb (new0 _ _)
      have HTH := hide hth
      clear hth
      go_wp2_with fail
      refine (unpackTag_any p.d0 _ hd.1 hd.2).mono ?_
      rintro e w3 ⟨rfl, hb3⟩
      obtain ⟨k1, f1, z1⟩ := blk hb3 (new0 _ _)
      have hfk := field_kind
      go_wp2
      · rename_i hk
        go_ret
        exact ⟨ret_bool (by rw [HH.out, HL.out, HS.out]; simp [hk]), (by repeat (first | exact Below.refl _ _ | assumption | (refine bl_al ?_ _) | (refine bl_dr ?_ _) | (refine bl_on ?_ (by assumption))))⟩
      · rename_i hk hc
        go_ret
        exact ⟨ret_bool (by rw [HH.out, HL.out, HS.out, ← HTH.out]; simp [hk, hc]), (by repeat (first | exact Below.refl _ _ | assumption | (refine bl_al ?_ _) | (refine bl_dr ?_ _) | (refine bl_on ?_ (by assumption))))⟩
      · rename_i hk hc
        go_ret
        exact ⟨ret_bool (by rw [HH.out, HL.out, HS.out, ← HTH.out]; simp [hk, hc]), (by repeat (first | exact Below.refl _ _ | assumption | (refine bl_al ?_ _) | (refine bl_dr ?_ _) | (refine bl_on ?_ (by assumption))))⟩

theorem NoneIs.grown {w w1 : World} {row : Option Nat} (h : NoneIs w) (hg : w.grownBy w1 row) (hr : row ≠ some 0) : NoneIs w1 :=
  ⟨(cell_same (a := ⟨0, 0, none⟩) (hg.block 0 (World.block_lt_of_cell? w _ h.1) (fun e => hr e.symm))).trans h.1, (cell_same (a := ⟨0, 1, none⟩) (hg.block 0 (World.block_lt_of_cell? w _ h.2) (fun e => hr e.symm))).trans h.2⟩
theorem hints1_any (p : Page) (w : World) (hp : p.ok) (hg : NoneIs w) (h0 : 0 ≤ p.line) (h1 : p.line ≤ 1000) :
    Calls Tryd.prog 34 #[p.v] w fun e w' => e = .returned (.bool (!hintP p)) ∧ Below w.heap.size w w' := by
  have HI := fun t (h : NoneIs t) => isHint_any p t hp h h0 h1
  generalize hintP p = r at HI ⊢
  go_enter Tryd.func34, Tryd.ntmps34
  go_wp2_with fail
  refine (HI _ (hg.on (bl_al (Below.refl _ _) _))).mono ?_
  rintro e w1 ⟨rfl, hb1⟩
  go_wp2
  go_ret
  exact ⟨rfl, (by repeat (first | exact Below.refl _ _ | assumption | (refine bl_al ?_ _) | (refine bl_dr ?_ _) | (refine bl_on ?_ (by assumption))))⟩
theorem hints1_enter : ∀ (args : Array Value) (W : World), (callFunc 34 args).run Tryd.prog W = .ok (.enter 34 args) W := fun _ _ => rfl

/-- The hints of a cache. -/
def hintsL (cap : Int) (l : List Page) : List Page := if valid cap l then l.filter hintP else []
def Fit (l : List Page) : Prop := ∀ p ∈ l, p.ok ∧ 0 ≤ p.line ∧ p.line ≤ 1000
theorem Fit.wf {l : List Page} (h : Fit l) : Wf l := fun p hp => (h p hp).1.1
theorem Fit.nil : Fit [] := fun p hp => by cases hp
theorem Fit.snoc {l : List Page} {p : Page} (h : Fit l) (hp : p.ok ∧ 0 ≤ p.line ∧ p.line ≤ 1000) : Fit (l ++ [p]) := fun q hq => by
  rcases List.mem_append.1 hq with hq | hq
  · exact h q hq
  · rw [List.mem_singleton] at hq; subst hq; exact hp

/-- Valid lines are in range: any page of a valid cache fits. -/
theorem fit_valid {cap : Int} {l : List Page} (hv : valid cap l = true) (hok : ∀ p ∈ l, p.ok) : Fit l := fun p hp => by
  have h1 : ∀ (l : List Page) (seen : List Int), fine l seen = true → ∀ p ∈ l, cachable p = true := by
    intro l
    induction l with
    | nil => intro _ _ p hp; cases hp
    | cons a r ih =>
      intro seen h p hp
      simp only [fine, Bool.and_eq_true] at h
      rcases List.mem_cons.1 hp with rfl | hp
      · exact h.1.1
      · exact ih _ h.2 p hp
  have h2 := h1 l [] (by simp only [valid, Bool.and_eq_true] at hv; exact hv.2) p hp
  simp only [cachable, Bool.and_eq_true, decide_eq_true_eq] at h2
  exact ⟨hok p hp, by omega, by omega⟩

set_option maxRecDepth 100000 in
set_option maxHeartbeats 4000000 in
theorem hints_any (v : Value) (cap : Int) (l : List Page) (w : World) (h : Sl w w.heap.size 9 v l.length (l.flatMap Page.cells)) (hn : l.length ≤ 1000000) (hok : ∀ p ∈ l, p.ok) (hg : NoneIs w) :
    Calls Tryd.prog 18 #[.agg #[.int .i64 cap, v]] w fun e w' => ∃ v', e = .returned v' ∧ w'.ownsRow w.heap.size 42 9 v' (hintsL cap l).length ((hintsL cap l).flatMap Page.cells) ∧ Below w.heap.size w w' := by
  have hform : ∃ A c, v = .slice A l.length c := by obtain ⟨A, c, rfl, _⟩ := h; exact ⟨A, c, rfl⟩
  obtain ⟨A, c, rfl⟩ := hform
  have hwf : Wf l := fun p hp => (hok p hp).1
  cases hv : valid cap l with
  | false =>
    have HV := hide hv
    have HL : Hid (hintsL cap l = []) := hide (by simp [hintsL, hv])
    clear hv
    go_enter Tryd.func18, Tryd.ntmps18
    go_wp2_with fail
    refine (valid_any _ cap l _ (h.on (bl_al (Below.refl _ _) _)) hn hwf.at).mono ?_
    rw [HV.out]
    rintro e w1 ⟨rfl, hb1⟩
    go_wp2
    go_ret
    exact ⟨_, rfl, by rw [HL.out]; exact World.ownsRow_nil _ _ _ _, (by repeat (first | exact Below.refl _ _ | assumption | (refine bl_al ?_ _) | (refine bl_dr ?_ _) | (refine bl_on ?_ (by assumption))))⟩
  | true =>
    have hfit := fit_valid hv hok
    have HV := hide hv
    have HL : Hid (hintsL cap l = l.filter (fun p => !(!hintP p))) := hide (by simp [hintsL, hv])
    clear hv
    go_enter Tryd.func18, Tryd.ntmps18
    go_wp2_with fail
    refine (valid_any _ cap l _ (h.on (bl_al (Below.refl _ _) _)) hn hwf.at).mono ?_
    rw [HV.out]
    rintro e w1 ⟨rfl, hb1⟩
    obtain ⟨k0, f0, z0⟩ := blk hb1 (new0 _ _)
    have B1 : Below w.heap.size w w1 := (by repeat (first | exact Below.refl _ _ | assumption | (refine bl_al ?_ _) | (refine bl_dr ?_ _) | (refine bl_on ?_ (by assumption))))
    clear hb1
    go_wp2_with fail
    refine (clone_any _ l _ (h.on B1) hn).mono ?_
    rintro e w2 ⟨v2, rfl, O2, hb2⟩
    have B2 := bl_on B1 hb2
    have hg2 := hg.on B2
    have hT : Tests 34 [] (fun p => !hintP p) l w2 v2.ownBlock := fun W' hgr p hp => by
      have hne : v2.ownBlock ≠ some 0 := fun e => by
        have := own_base O2 0 e
        have := World.block_lt_of_cell? w _ hg.1
        omega
      exact hints1_any p W' (hfit p hp).1 (hg2.grown hgr hne) (hfit p hp).2.1 (hfit p hp).2.2
    have HT := hide hT
    have O2h := hide O2
    clear hT O2 hb2 k0 f0 z0
    go_wp2_with fail
    refine (deleteBy_any 34 hints1_enter [] (fun p => !hintP p) v2 l w1.heap.size w2 O2h.out hn HT.out).mono ?_
    rintro e w3 ⟨v3, rfl, O3, G3⟩
    rw [← HL.out] at O3
    have O3h := hide O3
    clear O3
    have B3 := B2.grown G3 B2.size (fun k hk => by have := own_base O2h.out k hk; have := B1.size; omega)
    go_wp2
    go_ret
    exact ⟨_, rfl, own_mono O3h.out B1.size, B3⟩
end Go.Proofs.YtkodkbjmeepbiaaDoor
