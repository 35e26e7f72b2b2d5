/- Walks: slices.IndexFunc and slices.DeleteFunc at pages, for whatever test that only makes memory. Conditions: as each theorem names them. -/
import Derived.Test.YtkodkbjmeepbiaaDoorE1
set_option linter.unusedVariables false
set_option linter.unusedSimpArgs false
namespace Go.Proofs.YtkodkbjmeepbiaaDoor
open Go.RowKit

/-- The test F (with what it holds) says q of these pages, in every world in which w's blocks but one stand. -/
def Tests (F : FuncId) (cap : List Value) (q : Page → Bool) (l : List Page) (w : World) (row : Option Nat) : Prop :=
  ∀ W', w.grownBy W' row → ∀ p ∈ l, Calls Tryd.prog F (p.v :: cap).toArray W' fun e w' => e = .returned (.bool (q p)) ∧ Below W'.heap.size W' w'
def find (q : Page → Bool) (l : List Page) : Int := if l.findIdx q < l.length then (l.findIdx q : Int) else -1

theorem find_hit {q : Page → Bool} {l : List Page} {k : Nat} (hk : k < l.length) (h : q l[k] = true) (hno : ∀ j (hj : j < l.length), j < k → q l[j] = false) : l.findIdx q = k := by
  rw [List.findIdx_eq hk]
  exact ⟨h, fun j hj => hno j (by omega) hj⟩
theorem find_miss {q : Page → Bool} {l : List Page} (hno : ∀ j (hj : j < l.length), j < l.length → q l[j] = false) : l.findIdx q = l.length := by
  rw [List.findIdx_eq_length]
  intro x hx
  obtain ⟨j, hj, rfl⟩ := List.getElem_of_mem hx
  exact hno j hj hj
theorem gb_below {w w1 w2 : World} {row : Option Nat} (h : w.grownBy w1 row) (hb : Below w1.heap.size w1 w2) : w.grownBy w2 row :=
  ⟨hb.os.trans h.os, hb.tape.trans h.tape, hb.output.trans h.output, Nat.le_trans h.size hb.size, fun k hk hne => (hb.block k (Nat.lt_of_lt_of_le hk h.size)).trans (h.block k hk hne)⟩
theorem gb_of_below {w w1 : World} (hb : Below w.heap.size w w1) (row : Option Nat) : w.grownBy w1 row := ⟨hb.os, hb.tape, hb.output, hb.size, fun k hk _ => hb.block k hk⟩

theorem indexBy_any (F : FuncId) (hF : ∀ (args : Array Value) (W : World), (callFunc F args).run Tryd.prog W = .ok (.enter F args) W) (cap : List Value) (q : Page → Bool) (v : Value) (l : List Page) (w : World) (row : Option Nat) (h : Sl w w.heap.size 9 v l.length (l.flatMap Page.cells)) (hn : l.length ≤ 1000000) (hq : Tests F cap q l w row) :
    Calls Tryd.prog 41 #[v, .func (.func F) #[] cap.toArray] w fun e w' => e = .returned (.int .i64 (find q l)) ∧ Below w.heap.size w w' := by
  obtain ⟨A, c, rfl, hcc, hm, hl, hat⟩ := h
  go_enter Tryd.func41, Tryd.ntmps41
  go_wp2
  go_loopw [8] (fun i wr => ∃ k : Nat, k ≤ l.length ∧ i = .int .i64 k ∧ Below w.heap.size w wr ∧ Hid (∀ j (hj : j < l.length), j < k → q l[j] = false)) (fun i _ => l.length - (intOf i).toNat)
  case atStart => exact ⟨0, by omega, rfl, Below.refl _ _, fun j _ h => by omega⟩
  case round =>
    obtain ⟨k, hk, rfl, hb, hno⟩ := hrel
    by_cases hlt : k < l.length
    · obtain ⟨b, off, rfl, hbB, h0, h1, h2, h3, h4, h5, h6, h7, h8⟩ := Page.at_ (hat.below hb) hlt
      have hc := hq wr (gb_of_below hb row) l[k] (List.getElem_mem hlt)
      cases hx : q l[k] with
      | true =>
        have Hx := hide hx
        rw [hx] at hc
        clear hx
        go_wp2_with fail
        refine hc.mono ?_
        rintro e w1 ⟨rfl, hb1⟩
        go_wp2
        go_ret
        have hi := find_hit hlt Hx.out hno.out
        exact ⟨ret_int (by rw [find, hi, if_pos hlt]), bl_on hb hb1⟩
      | false =>
        have Hx := hide hx
        rw [hx] at hc
        clear hx
        go_wp2_with fail
        refine hc.mono ?_
        rintro e w1 ⟨rfl, hb1⟩
        go_wp2
        go_roundw
        case rel => exact ⟨k + 1, by omega, by go_num, bl_on hb hb1, below_succ (q := q) hno.out Hx.out⟩
        case measure => simp [intOf]; omega
    · go_wp2
      go_ret
      obtain rfl : k = l.length := by omega
      have hi := find_miss hno.out
      exact ⟨ret_int (by simp [find, hi]), hb⟩
end Go.Proofs.YtkodkbjmeepbiaaDoor
