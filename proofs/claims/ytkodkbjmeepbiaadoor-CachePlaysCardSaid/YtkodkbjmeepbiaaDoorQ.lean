/- Own laws on regions that draw their order: operations and callees that make memory but leave what was there alone ('Hold'), walked once in the text's order; with or without a forced tail. No condition but those written out. -/
import Derived.Test.YtkodkbjmeepbiaaDoorB
import Derived.Deep.Quiet
import Derived.BigQuiet
import Derived.Deep.QuietTactic
import Derived.StillTail
set_option linter.unusedVariables false
set_option linter.unusedSimpArgs false
namespace Go.Proofs.YtkodkbjmeepbiaaDoor
open Go.RowKit

/-- A world in which all that stood in w stands. -/
structure Hold (w : World) where
  W : World
  b : Below w.heap.size w W
instance (w : World) : Nonempty (Hold w) := ⟨⟨w, Below.refl _ _⟩⟩
theorem Hold.on {w w1 : World} (t : Hold w) (h : Below t.W.heap.size t.W w1) : Below w.heap.size w w1 := bl_on t.b h
theorem Hold.cell {w : World} {a : Addr} {v : Value} (h : w.cell? a = some v) (t : Hold w) : t.W.cell? a = some v := (t.b.cell (World.block_lt_of_cell? w a h)).trans h
theorem Hold.frozen {w : World} {a : Addr} {b : Bool} (ha : a.block < w.heap.size) (h : w.frozen? a = b) (t : Hold w) : t.W.frozen? a = b := by
  have := t.b.block a.block ha
  unfold World.frozen? at h ⊢
  rw [this]
  exact h
/-- A contract met in any such world. -/
theorem Hold.call {P : Program} {f : FuncId} {args : Array Value} {w : World} {t : Hold w} {v : Value} (h : Calls P f args t.W fun e w' => e = .returned v ∧ Below t.W.heap.size t.W w') :
    Calls P f args t.W fun e w' => e = .returned v ∧ ∃ t' : Hold w, w' = t'.W := h.mono fun _ _ ⟨he, hb⟩ => ⟨he, ⟨⟨_, t.on hb⟩, rfl⟩⟩
theorem Hold.call_same {P : Program} {f : FuncId} {args : Array Value} {w : World} {t : Hold w} {v : Value} (h : Calls P f args t.W fun e w' => e = .returned v ∧ t.W = w') :
    Calls P f args t.W fun e w' => e = .returned v ∧ ∃ t' : Hold w, w' = t'.W := h.mono fun _ _ ⟨he, hb⟩ => ⟨he, ⟨t, hb.symm⟩⟩

theorem region_hold {P : Program} {id : Nat} {Q : Exit → Act → World → Prop} {a : Act} {w : World} {l : List Oper} (hm : P.follows .mixedOrders = true) (hB : Region.lexB .any l.toArray = true)
    (h : wpQuiet P l.toArray (fun w' => ∃ t : Hold w, w' = t.W) (fun a' => ∀ w', (∃ t : Hold w, w' = t.W) → Q .normal a' w') l a) : (Code.region id l.toArray true).wp P Q a w :=
  wp_region_quiet (C := fun w' => ∃ t : Hold w, w' = t.W) hm hB ⟨⟨{ w with drawn := w.drawn + 1 }, bl_dr (Below.refl _ _) 1⟩, rfl⟩ (by simpa using h)

section
variable {P : Program} {ops : Array Oper} {md : Region.Mode} {C : World → Prop}
/-- The first f operations come up in whatever order, each numbered below n; then L. -/
def wpFront (P : Program) (md : Region.Mode) (ops : Array Oper) (C : World → Prop) (n : Nat) (L : Array Bool → Act → Prop) : Nat → Array Bool → Act → Prop
  | 0, done, a => L done a
  | f + 1, done, a => Region.ready md ops done ≠ [] ∧ ∀ i ∈ Region.ready md ops done, i < n ∧ qOp P ops C i (wpFront P md ops C n L f (done.setIfInBounds i true)) a

theorem front_any {n g : Nat} {L : Array Bool → Act → Prop} {Q : Exit → Act → World → Prop} (hL : ∀ done a w, C w → L done a → wpAny P md ops Q g done a w) :
    ∀ (f : Nat) (done : Array Bool) (a : Act) (w : World), C w → wpFront P md ops C n L f done a → wpAny P md ops Q (f + g) done a w
  | 0, done, a, w, hw, h => by simpa using hL done a w hw h
  | f + 1, done, a, w, hw, h => by
    have e : f + 1 + g = (f + g) + 1 := by omega
    rw [e]
    exact ⟨fun h0 => absurd h0 h.1, fun i hi => wpOp_of_qOp hw (fun a' w' hw' h' => front_any hL f _ a' w' hw' h') (h.2 i hi).2⟩

theorem front_first {n i : Nat} {oi : Oper} {v : Value} {L : Array Bool → Act → Prop} (hi : ops[i]? = some oi) (hsel : ∀ (j : Nat) (o : Oper) cs b, ops[j]? = some o → o.op ≠ .select cs b)
    (hs : Region.sinkB md ops n = true) (hc : Region.chainB md ops n = true) (hn : n < ops.size) (hin : i < n) (hend : ∀ done a, L done a → ∀ j ∈ Region.ready md ops done, n ≤ j) :
    ∀ (f : Nat) (done : Array Bool) (a : Act), HeadInv md ops n done →
      (∀ j oj, ops[j]? = some oj → j ≠ i → done.getD j true = false → (∀ e ∈ oj.after, Region.binds md e = true → e.on ≠ i) → oi.apart ops oj = true) →
      i ∈ Region.ready md ops done → YieldsIn P ops C oi v a →
      wpFront P md ops C n L f (done.setIfInBounds i true) (a.put oi.dst v) → wpFront P md ops C n L (f + 1) done a := by
  intro f
  induction f with
  | zero =>
    intro done a inv _ hr hy H
    have hun := (mem_ready.1 hr).1
    refine ⟨List.ne_nil_of_mem hr, fun j hj => ?_⟩
    have hjn : j < n := Nat.lt_of_not_le fun h => tail_waits hs hc hn inv _ i rfl hin hun j h hj
    refine ⟨hjn, ?_⟩
    by_cases e : j = i
    · subst e; exact hy.qOp hi H
    · exact absurd (hend _ _ H j (ready_mono hj e)) (by omega)
  | succ f ih =>
    intro done a inv hfree hr hy H
    have hun := (mem_ready.1 hr).1
    refine ⟨List.ne_nil_of_mem hr, fun j hj => ?_⟩
    have hjn : j < n := Nat.lt_of_not_le fun h => tail_waits hs hc hn inv _ i rfl hin hun j h hj
    refine ⟨hjn, ?_⟩
    by_cases e : j = i
    · subst e; exact hy.qOp hi H
    · have h1 := (H.2 j (ready_mono hj e)).2
      obtain ⟨hjun, oj, hoj, hall⟩ := mem_ready.1 hj
      have hnot : ∀ x ∈ oj.after, Region.binds md x = true → x.on ≠ i := fun x hx hb hq => by
        have h1 := hall x hx hb
        rw [hq, getD_both hun] at h1
        cases h1
      have h2 := qOp_put hoj (hfree j oj hoj e hjun hnot) (fun cs b => hsel i oi cs b hi) (fun cs b => hsel j oj cs b hoj) hy h1
      refine qOp_mono (fun a' h3 => ih (done.setIfInBounds j true) a' (inv.set hj hjn) (fun k ok hk hki hku hno => ?_) (ready_mono hr (Ne.symm e)) h3.1 ?_) h2
      · refine hfree k ok hk hki ?_ hno
        by_cases hjk : j = k
        · subst hjk; exact hjun
        · rw [getD_set_ne true hjk] at hku; exact hku
      · rw [Array.setIfInBounds_comm _ _ e]
        exact h3.2

theorem front_lex {n g : Nat} {K : Act → Prop} (hsel : Region.noSelect ops = true) (hs : Region.sinkB md ops n = true) (hc : Region.chainB md ops n = true) (hn : n < ops.size) :
    ∀ (l : List Oper) (k : Nat) (done : Array Bool) (a : Act), (∀ j, j < l.length → l[j]? = ops[k + j]?) → k + l.length = n → HeadInv md ops n done →
    Region.lexHead md ops g l.length k done = true → wpQuiet P ops C K l a → wpFront P md ops C n (fun done' a' => Region.seqB md ops g n done' = true ∧ K a') l.length done a
  | [], k, done, a, _, hk, _, hB, h => by
    obtain rfl : k = n := by simpa using hk
    exact ⟨by simpa [Region.lexHead] using hB, h⟩
  | o :: l, k, done, a, hl, hk, inv, hB, h => by
    have h0 : ops[k]? = some o := by simpa using (hl 0 (by simp)).symm
    simp only [List.length_cons, Region.lexHead, Bool.and_eq_true] at hB hk
    obtain ⟨⟨hr, hf⟩, hB'⟩ := hB
    have hkn : k < n := by omega
    have hr' : k ∈ Region.ready md ops done := by simpa using hr
    have hst : qOp P ops C k (wpQuiet P ops C K l) a := by unfold qOp; simp only [h0]; exact h
    obtain ⟨v, hy, hK⟩ := yieldsIn_of_qOp h0 hst
    exact front_first h0 (Region.noSelect_spec hsel) hs hc hn hkn (fun _ _ hL => seqB_ready hL.1) l.length done a inv (Region.free_spec h0 hf) hr' hy
      (front_lex hsel hs hc hn l (k + 1) _ _ (fun j hj => by have := hl (j + 1) (by simp; omega); simpa [Nat.add_assoc, Nat.add_comm 1 j] using this) (by omega) (inv.set hr' hkn) hB' hK)

theorem region_hold_tail {id : Nat} {Q : Exit → Act → World → Prop} {a : Act} {w : World} {l : List Oper} (n : Nat) (hm : P.follows .mixedOrders = true) (hB : Region.lexTailB .any l.toArray n = true)
    (h : wpQuiet P l.toArray (fun w' => ∃ t : Hold w, w' = t.W) (fun a' => ∀ w', (∃ t : Hold w, w' = t.W) → wpList P l.toArray Q (l.drop n) a' w') (l.take n) a) : (Code.region id l.toArray true).wp P Q a w := by
  simp only [Region.lexTailB, Bool.and_eq_true, decide_eq_true_eq] at hB
  obtain ⟨⟨⟨⟨hsel, hn⟩, hs⟩, hc⟩, hlex⟩ := hB
  have hn' : n < l.length := by simpa using hn
  have htl : (l.take n).length = n := by simp; omega
  have hdl : (l.drop n).length = l.toArray.size - n := by simp
  have inv0 : HeadInv .any l.toArray n (Array.replicate l.toArray.size false) :=
    ⟨by simp, fun j oj _ hl => (by rw [getD_replicate_false] at hl; cases hl), fun t _ ht => getD_in (by simpa using ht) (getD_replicate_false _ _)⟩
  have H := front_lex (md := .any) (g := l.toArray.size - n) hsel hs hc hn (l.take n) 0 _ a (fun j hj => by
    have hj' : j < n := by rw [htl] at hj; exact hj
    simp [hj']) (by simpa using htl) inv0 (by rw [htl]; exact hlex) h
  refine wp_region_any hm ?_
  have := front_any (C := fun w' => ∃ t : Hold w, w' = t.W) (Q := Q) (g := l.toArray.size - n) (fun done a' w' hw' hL => by
    have := wpAny_of_seq (md := .any) (Q' := Q) (l.drop n) n done a' w' (fun j => by simp [List.getElem?_drop]) (by rw [hdl]; exact hL.1) (hL.2 w' hw')
    rwa [hdl] at this) _ _ _ { w with drawn := w.drawn + 1 } ⟨⟨_, bl_dr (Below.refl _ _) 1⟩, rfl⟩ H
  rw [htl, show n + (l.toArray.size - n) = l.toArray.size by omega] at this
  exact this
end

/-- These cells hold these values. -/
def Cells (cs : List (Addr × Value)) (W : World) : Prop := ∀ p ∈ cs, W.cell? p.1 = some p.2
theorem cell_same {W W' : World} {a : Addr} (h : W'.heap[a.block]? = W.heap[a.block]?) : W'.cell? a = W.cell? a := by unfold World.cell?; rw [h]
theorem Cells.drew {cs : List (Addr × Value)} {W : World} (h : Cells cs W) : Cells cs W.drew := fun p hp => h p hp
theorem Cells.al {cs : List (Addr × Value)} {W : World} (h : Cells cs W) (o : Obj) : Cells cs (W.alloc o) := fun p hp =>
  (cell_same (heap_alloc_old W o (World.block_lt_of_cell? W _ (h p hp)))).trans (h p hp)
theorem Cells.below {cs : List (Addr × Value)} {W W' : World} (hb : Below W.heap.size W W') (h : Cells cs W) : Cells cs W' := fun p hp =>
  (cell_same (hb.block _ (World.block_lt_of_cell? W _ (h p hp)))).trans (h p hp)
theorem Cells.grown {cs : List (Addr × Value)} {W W' : World} {row : Option Nat} (hg : W.grownBy W' row) (hn : ∀ p ∈ cs, row ≠ some p.1.block) (h : Cells cs W) : Cells cs W' := fun p hp =>
  (cell_same (hg.block _ (World.block_lt_of_cell? W _ (h p hp)) (fun e => hn p hp e.symm))).trans (h p hp)
theorem Cells.set {cs : List (Addr × Value)} {W : World} {a : Addr} (v : Value) (hn : ∀ p ∈ cs, p.1.block ≠ a.block) (h : Cells cs W) : Cells cs (W.setCell a v) := fun p hp =>
  (cell_same (Below.heap_setCell W a v _ (hn p hp))).trans (h p hp)
end Go.Proofs.YtkodkbjmeepbiaaDoor
