/- Proved: Rows.CachePlaysCardSaid: the law CachePlays of package bodega/bodegalaw25 returns true and leaves its input as it read. Conditions: none beyond the card's own: the listed variable is tied to the program's text. -/
import Derived.Test.YtkodkbjmeepbiaaDoorRows
import Derived.Test.YtkodkbjmeepbiaaDoorTie
import Derived.Test.YtkodkbjmeepbiaaDoorCards
import Derived.Test.YtkodkbjmeepbiaaDoorH3
import Derived.Test.YtkodkbjmeepbiaaDoorO
import Derived.WalkKit
import Derived.ProofKit
import Derived.LaidMore
import Derived.OpenShut
import Derived.ShutString
import Derived.ChangeOld
import Derived.Below
import Derived.Stop.Joined
import Derived.SevenTiedAt
namespace Go.Proofs.YtkodkbjmeepbiaaDoor.cachePlays
open Go.ChangeShapes Go.WideShapes Go.ChangeAt Go.RowKit
set_option linter.unusedVariables false

theorem own : ownKnob Tryd.prog.godebug = none := by kernel_rfl
theorem laidOut : laidOutB Tryd.prog = true := by kernel_rfl
theorem gNone : Tryd.prog.globalNamed "bodega/btree.none" = some 0 := by kernel_rfl

/-! ### What the arguments read as -/
section
variable {H : Type} {enc : TypeId × Value → H} {w : World} {base : Nat} {spare : Nat → Bool} {held : Bool}
theorem page_open {fuel : Nat} {cs : List Value} {x : DataW H × List MemPlace} (h : DataW.trod enc Tryd.prog w base spare held fuel 42 cs = some x) : ∃ p : Page, p.ok ∧ cs = p.cells := by
  obtain ⟨hl, hc⟩ := leaf_open 5 42 [3, 39, 39, 39, 39, 39, 39, 39, 39] fuel cs x (by kernel_rfl) h
  match cs, hl with
  | [c0, c1, c2, c3, c4, c5, c6, c7, c8], _ =>
    obtain ⟨n0, rfl, _⟩ := leaf_int Tryd.underlying3 (hc 0 _ _ rfl rfl)
    obtain ⟨n1, rfl, w1⟩ := leaf_int Tryd.underlying39 (hc 1 _ _ rfl rfl)
    obtain ⟨n2, rfl, w2⟩ := leaf_int Tryd.underlying39 (hc 2 _ _ rfl rfl)
    obtain ⟨n3, rfl, w3⟩ := leaf_int Tryd.underlying39 (hc 3 _ _ rfl rfl)
    obtain ⟨n4, rfl, w4⟩ := leaf_int Tryd.underlying39 (hc 4 _ _ rfl rfl)
    obtain ⟨n5, rfl, w5⟩ := leaf_int Tryd.underlying39 (hc 5 _ _ rfl rfl)
    obtain ⟨n6, rfl, w6⟩ := leaf_int Tryd.underlying39 (hc 6 _ _ rfl rfl)
    obtain ⟨n7, rfl, w7⟩ := leaf_int Tryd.underlying39 (hc 7 _ _ rfl rfl)
    obtain ⟨n8, rfl, w8⟩ := leaf_int Tryd.underlying39 (hc 8 _ _ rfl rfl)
    refine ⟨⟨n0, n1, n2, n3, n4, n5, n6, n7, n8⟩, ⟨bounds_u64 w1, bounds_u64 w2, bounds_u64 w3, ?_⟩, rfl⟩
    intro x hx
    simp only [wordsP, List.mem_cons, List.not_mem_nil, or_false] at hx
    rcases hx with rfl | rfl | rfl | rfl | rfl <;> (first | exact bounds_u64 w4 | exact bounds_u64 w5 | exact bounds_u64 w6 | exact bounds_u64 w7 | exact bounds_u64 w8 | exact bounds_u64 w3 | exact bounds_u64 w2)
theorem int_open {fuel : Nat} {cs : List Value} {x : DataW H × List MemPlace} (h : DataW.trod enc Tryd.prog w base spare held fuel 3 cs = some x) : ∃ n : Int, True ∧ cs = [.int .i64 n] := by
  obtain ⟨n, rfl, _, _⟩ := DataW.trod_int Tryd.underlying3 h
  exact ⟨n, trivial, rfl⟩
theorem word_open {fuel : Nat} {cs : List Value} {x : DataW H × List MemPlace} (h : DataW.trod enc Tryd.prog w base spare held fuel 39 cs = some x) : ∃ n : Int, (0 ≤ n ∧ n ≤ 18446744073709551615) ∧ cs = [.int .u64 n] := by
  obtain ⟨n, rfl, _, hw⟩ := DataW.trod_int Tryd.underlying39 h
  exact ⟨n, bounds_u64 hw, rfl⟩
theorem flat_one {α : Type} (f : α → Value) (l : List α) : l.flatMap (fun a => [f a]) = l.map f := by
  induction l with
  | nil => rfl
  | cons a l ih => simp only [List.flatMap_cons, List.map_cons, ih]; rfl
theorem op_open {fuel : Nat} {cs : List Value} {x : DataW H × List MemPlace} (h : DataW.trod enc Tryd.prog w base spare held fuel 35 cs = some x) : ∃ o : OpV, o.good w ∧ cs = o.cells := by
  obtain ⟨hl, hc⟩ := leaf_open 5 35 [3, 32, 33] fuel cs x (by kernel_rfl) h
  match cs, hl with
  | [c0, c1, c2], _ =>
    obtain ⟨n0, rfl, _⟩ := leaf_int Tryd.underlying3 (hc 0 _ _ rfl rfl)
    obtain ⟨A, ls, c, rfl, _, h1⟩ := leaf_slice (f := fun n : Int => [.int .i64 n]) (sz := 1) (fun _ => rfl) (by omega) Tryd.underlying32 (by kernel_rfl) (fun _ _ _ h => int_open h) (hc 1 _ _ rfl rfl)
    obtain ⟨Ah, hs, ch, rfl, hq, h2⟩ := leaf_slice (f := fun n : Int => [.int .u64 n]) (sz := 1) (fun _ => rfl) (by omega) Tryd.underlying33 (by kernel_rfl) (fun _ _ _ h => word_open h) (hc 2 _ _ rfl rfl)
    rw [flat_one] at h1 h2
    exact ⟨⟨n0, A, c, ls, Ah, ch, hs⟩, ⟨h1, h2, hq⟩, rfl⟩
end

theorem len2 {α : Type} {l : List α} (h : l.length = 2) : ∃ a b, l = [a, b] := by
  match l, h with
  | [a, b], _ => exact ⟨a, b, rfl⟩
/-- What the condition gives the walk. -/
theorem none_is {W : World} (h : laidMetH Tryd.prog Rows.cachePlaysRow.laid W) : NoneIs W := by
  rw [MakeChecks.laidMetH_plain _ _ _ (by kernel_rfl)] at h
  obtain ⟨ps, ⟨g0, t0, cs0, f0, p0, q0, hg0, ht0, hv0, hd0, _, _⟩, _, _⟩ := h
  obtain rfl := Option.some.inj (gNone.symm.trans hg0)
  have htt : t0 = 82 := by
    have := ht0.symm.trans (show (Tryd.prog.globals[0]?).map (·.type) = some 82 by kernel_rfl)
    exact Option.some.inj this
  subst htt
  obtain ⟨y0, y1, n, hx, hlen, h0, h1⟩ := trod_struct2 Tryd.underlying82 hd0
  obtain ⟨a, e1, e2, _⟩ := DataW.trod_int Tryd.underlying3 (show DataW.trod _ Tryd.prog W 0 _ _ n 3 _ = some y0 from h0)
  obtain ⟨b, e3, e4, _⟩ := DataW.trod_int Tryd.underlying3 (show DataW.trod _ Tryd.prog W 0 _ _ n 3 _ = some y1 from h1)
  have hlen2 : cs0.toList.length = 2 := hlen.trans (by kernel_rfl)
  have hc3 : Tryd.prog.cellsOf 3 = 1 := by kernel_rfl
  have hv := World.var?_cell hg0 hv0
  obtain ⟨l0⟩ := cs0
  rw [hc3] at e1 e3
  obtain ⟨c0, c1, rfl⟩ := len2 hlen2
  simp at e1 e3
  subst e1 e3
  simp only [Prod.mk.injEq] at hx
  have hx1 := hx.1
  rw [e2, e4] at hx1
  have hab : a = 0 ∧ b = 0 := by
    simp only [Rows.laid_bodega_btree_none, DataW.agg.injEq, List.cons.injEq, DataW.lit.injEq, Lit.int.injEq] at hx1
    exact ⟨hx1.1.2.symm, hx1.2.1.2.symm⟩
  obtain ⟨rfl, rfl⟩ := hab
  exact ⟨by simpa using hv 0, by simpa using hv 1⟩

/-- The door's own heap meets the condition. -/
theorem door_met (os : Os) (args : Array Value) : laidMetH Tryd.prog Rows.cachePlaysRow.laid ((World.doorLaid Tryd.prog 400 os).forCall (fun _ _ => 0) ⟨#[], args, []⟩).memory :=
  laidMetH_of_parts3 (fuel := 8) (laidMet_of_run' 8 (by kernel_rfl) (by kernel_rfl)) (by kernel_rfl) (by kernel_rfl)

set_option maxRecDepth 100000 in
theorem lifted (os : Os) (started : os.Started) (H : Type) (enc : TypeId × Value → H) :
    ReturnsInHanded {} Tryd.checked os 3 .any (fun w args => (Rows.cachePlaysSpec.pre enc Tryd.prog Tryd.f3 [] false w args ∧ laidMetH Tryd.prog Rows.cachePlaysRow.laid w) ∧ sizedMet enc Tryd.prog Tryd.f3 (OpenSpec.ofChange Rows.cachePlaysSpec) false w args)
      (Rows.cachePlaysSpec.post enc Tryd.prog Tryd.f3 false true false false) := by
  refine returnsInHanded_of_change_and (C := Tryd.checked) (X := fun w _ => laidMetH Tryd.prog Rows.cachePlaysRow.laid w) (fun _ _ _ hh h => h.of_heap hh) own started (by kernel_rfl) Tryd.func3
    (ChangeSpec.witness_shaped (enc := enc) (C := Tryd.checked) (os := os) (X := fun w _ => laidMetH Tryd.prog Rows.cachePlaysRow.laid w) false (World.doorLaid Tryd.prog 400 os) #[.agg #[.int .i64 0, .slice none 0 0], .slice none 0 0, .int .i64 0, .bool false] 8 rfl (World.shaped_of_RefB (by kernel_rfl) (by kernel_rfl)) (by kernel_rfl) (by kernel_rfl) (by kernel_rfl) (door_met os _)) ?_
  intro W base args ds gs before hval0 hW _ _ hL _
  have hval : ∀ (j : Nat) t v, Tryd.f3.params[j]? = some t → args[j]? = some v → Value.okWide Tryd.prog W .any base t v := hval0
  have hW' := hW
  obtain ⟨p, q, hA0, hV, rfl, hfz, hnd⟩ := hW
  have hA : DataW.TrodAll enc Tryd.prog W 0 (fun _ => true) true Tryd.f3.params.toList args.toList ds p := hA0
  rw [Tryd.params3] at hA hval
  obtain ⟨v0, vs0, d0, ds0, p0, q0, hargs, rfl, rfl, h0, r0⟩ := trodAll_cons hA
  obtain ⟨v1, vs1, d1, ds1, p1, q1, rfl, rfl, rfl, h1, r1⟩ := trodAll_cons r0
  obtain ⟨v2, vs2, d2, ds2, p2, q2, rfl, rfl, rfl, h2, r2⟩ := trodAll_cons r1
  obtain ⟨v3, vs3, d3, ds3, p3, q3, rfl, rfl, rfl, h3, r3⟩ := trodAll_cons r2
  obtain ⟨rfl, rfl, rfl⟩ := trodAll_nil r3
  obtain rfl : args = #[v0, v1, v2, v3] := by cases args; simp_all
  obtain ⟨rfl, rfl⟩ := trodVars_none hV
  have lt0 : ∀ x ∈ p0, x.block < W.heap.size := by obtain ⟨m, hm⟩ := h0; exact DataW.trod_lt m _ _ _ hm
  have lt1 : ∀ x ∈ p1, x.block < W.heap.size := by obtain ⟨m, hm⟩ := h1; exact DataW.trod_lt m _ _ _ hm
  have lt2 : ∀ x ∈ p2, x.block < W.heap.size := by obtain ⟨m, hm⟩ := h2; exact DataW.trod_lt m _ _ _ hm
  have lt3 : ∀ x ∈ p3, x.block < W.heap.size := by obtain ⟨m, hm⟩ := h3; exact DataW.trod_lt m _ _ _ hm
  have HW : ∃ (cap0 : Int) (A0 : Option Addr) (c0 : Nat) (pl : List Page) (B0 : Option Addr) (e0 : Nat) (ops : List OpV) (capacity : Int) (raw : Bool), v0 = .agg #[.int .i64 cap0, .slice A0 pl.length c0] ∧ v1 = .slice B0 ops.length e0 ∧ v2 = .int .i64 capacity ∧ v3 = .bool raw ∧
      Sl W W.heap.size 9 (.slice A0 pl.length c0) pl.length (pl.flatMap Page.cells) ∧ (∀ p ∈ pl, p.ok) ∧ Sl W W.heap.size 3 (.slice B0 ops.length e0) ops.length (ops.flatMap OpV.cells) ∧ ∀ o ∈ ops, o.good W := by
    obtain ⟨cs, rfl, hl, hc⟩ := struct_leaves (n := 5) (ts := [3, 22]) Tryd.underlying24 (by kernel_rfl) (hval 0 24 v0 rfl rfl) h0
    obtain ⟨a1, len1, cap1, rfl⟩ := okWide_slice Tryd.underlying25 (hval 1 25 v1 rfl rfl)
    obtain ⟨n2, rfl, _, _, _⟩ := open_int Tryd.underlying3 (hval 2 3 v2 rfl rfl) h2
    obtain ⟨raw, rfl, _, _⟩ := open_bool Tryd.underlying4 (hval 3 4 v3 rfl rfl) h3
    obtain ⟨c0, c1, rfl⟩ := len2 hl
    obtain ⟨n0, rfl, _⟩ := leaf_int Tryd.underlying3 (hc 0 _ _ rfl rfl)
    obtain ⟨A, pl, c, rfl, hq, hs⟩ := leaf_slice (f := Page.cells) Page.len (by omega) Tryd.underlying22 (by kernel_rfl) (fun _ _ _ h => page_open h) (hc 1 _ _ rfl rfl)
    obtain ⟨B, ops, e, he, hq2, hs2⟩ := leaf_slice (f := OpV.cells) OpV.len (by omega) Tryd.underlying25 (by kernel_rfl) (fun _ _ _ h => op_open h) (one_leaf rfl h1)
    injection he with e1 e2 e3
    subst e1 e2 e3
    exact ⟨n0, A, c, pl, _, _, ops, n2, raw, rfl, rfl, rfl, rfl, hs, hq, hs2, hq2⟩
  obtain ⟨cap0, A0, c0, pl, B0, e0, ops, capacity, raw, rfl, rfl, rfl, rfl, hs, hq, hs2, hq2⟩ := HW
  have hN := none_is hL
  clear hA0 hval0 hA hval
  refine (plays_any cap0 A0 c0 pl B0 e0 ops capacity raw W hs hq hs2 hq2 hN).mono fun e W' ⟨he, bel⟩ => ?_
  subst he
  exact ⟨_, rfl, _, _, _, [], _, [], hW', trodAll_mk1 (shut_bool Tryd.underlying4 _),
    (trodAll_cons_mk (Below.trod laidOut (by kernel_rfl) (of_decide_eq_true (by kernel_rfl)) h0 bel lt0) (trodAll_cons_mk (Below.trod laidOut (by kernel_rfl) (of_decide_eq_true (by kernel_rfl)) h1 bel lt1)
      (trodAll_cons_mk (Below.trod laidOut (by kernel_rfl) (of_decide_eq_true (by kernel_rfl)) h2 bel lt2) (trodAll_cons_mk (Below.trod laidOut (by kernel_rfl) (of_decide_eq_true (by kernel_rfl)) h3 bel lt3) trodAll_mk0)))), rfl, bel.frame _, fun h => by cases h⟩

theorem row_holds : Rows.CachePlaysSaid :=
  OpenClaim.holds_of_wide 3 Tryd.f3 rfl rfl rfl rfl rfl rfl rfl ⟨rfl, rfl, rfl, rfl, rfl⟩ rfl rfl rfl rfl rfl (by kernel_rfl) Tryd.func3 (by kernel_rfl)
    (of_decide_eq_true (by kernel_rfl)) (by unfold Func.isWrapper; first | (rw [if_pos (by decide +kernel)]; kernel_rfl) | (rw [if_neg (by decide +kernel)]; exact ⟨rfl, rfl⟩))
    (fun os started H enc _ => lifted os started H enc)

theorem card_holds : Rows.CachePlaysCardSaid :=
  Claim7.holds_tied_plain_at .later [] [.data] true (true, "5d5b94dd78431b7f25d301994553de5c3a1e019ef9e93967e5d9416b8c9b2c03") false
    row_holds (fun _ h => by cases h) (by kernel_rfl) (fun _ h => by cases h) cachePlays_row_tie rfl ⟨rfl, rfl⟩ (by kernel_rfl) rfl
    (fun f fn hf hfn => by
      obtain rfl : f = 3 := Option.some.inj ((show Tryd.prog.funcNamed "bodega/bodegalaw25.CachePlays" = some 3 by kernel_rfl).symm.trans hf) |>.symm
      obtain rfl : fn = Tryd.f3 := (Option.some.inj (Tryd.func3.symm.trans hfn)).symm
      exact ⟨by kernel_rfl, fun j t ht => by
        rw [Tryd.params3] at ht
        have hm : t ∈ [24, 25, 3, 4] := by simpa using Array.mem_of_getElem? ht
        have hall : ([24, 25, 3, 4].all fun u => !Tryd.prog.wantsStandIn u) = true := by kernel_rfl
        exact (show Tryd.prog.wantsStandIn t = false by simpa using List.all_eq_true.1 hall t hm)⟩)
    (by kernel_rfl)
end Go.Proofs.YtkodkbjmeepbiaaDoor.cachePlays
namespace Go.Proofs.YtkodkbjmeepbiaaDoor
theorem cachePlays_card : Rows.CachePlaysCardSaid := cachePlays.card_holds
#print axioms cachePlays_card
end Go.Proofs.YtkodkbjmeepbiaaDoor
