/- Walks: small functions of package cache and of slices at pages. Conditions: as each theorem names them. -/
import Derived.Test.YtkodkbjmeepbiaaDoorP
import Derived.Test.YtkodkbjmeepbiaaDoorRows
set_option linter.unusedVariables false
set_option linter.unusedSimpArgs false
namespace Go.Proofs.YtkodkbjmeepbiaaDoor
open Go.RowKit

theorem page_info : (Tryd.prog.info? 42).map (fun i => (i.zero, i.size, i.bytes)) = some (some (.agg #[.int .i64 0, .int .u64 0, .int .u64 0, .int .u64 0, .int .u64 0, .int .u64 0, .int .u64 0, .int .u64 0, .int .u64 0]), 9, 72) := by kernel_rfl

theorem pick_any (n m : Int) (w : World) (h0 : 1 ≤ m) (h1 : m ≤ 4294967296) :
    Calls Tryd.prog 5 #[.int .i64 n, .int .i64 m] w fun e w' => e = .returned (.int .i64 (n % m)) ∧ w = w' := by
  have HM := hide (pick_mod n m h0 h1)
  go_enter Tryd.func5, Tryd.ntmps5
  go_wp2
  go_ret
  exact ⟨ret_int HM.out, rfl⟩

theorem locked_any (p : Page) (w : World) (h0 : 0 ≤ p.head) (h1 : p.head ≤ 18446744073709551615) :
    Calls Tryd.prog 39 #[p.v] w fun e w' => e = .returned (.bool (p.head % 256 != 0)) ∧ Below w.heap.size w w' := by
  go_enter Tryd.func39, Tryd.ntmps39
  go_wp2
  go_ret
  exact ⟨ret_bool (by rw [and255 _ h0 h1]), bl_al (Below.refl _ _) _⟩

theorem cachable_any (p : Page) (w : World) (h0 : 0 ≤ p.head) (h1 : p.head ≤ 18446744073709551615) :
    Calls Tryd.prog 21 #[p.v] w fun e w' => e = .returned (.bool (cachable p)) ∧ Below w.heap.size w w' := by
  go_enter Tryd.func21, Tryd.ntmps21
  go_wp2_with (go_at_call 39; refine (locked_any p _ h0 h1).mono ?_; rintro e w1 ⟨rfl, hb1⟩)
  all_goals go_ret
  all_goals refine ⟨ret_bool (by first | (simp [cachable, *, bne]; done) | (have hq := ‹256 ≤ p.line›; simp [cachable]; omega) | (have hq := ‹p.line < 96›; simp [cachable]; omega) | (simp_all [cachable]; done) | (simp_all [cachable]; omega) | (simp [cachable]; omega)), (by repeat (first | exact Below.refl _ _ | assumption | (refine bl_al ?_ _) | (refine bl_dr ?_ _) | (refine bl_on ?_ (by assumption))))⟩

theorem index1_any (p : Page) (g : Nat) (line : Int) (w : World) (hc : w.cell? ⟨g, 0, none⟩ = some (.int .i64 line)) :
    Calls Tryd.prog 42 #[p.v, .pointer (some ⟨g, 0, none⟩)] w fun e w' => e = .returned (.bool (p.line == line)) ∧ Below w.heap.size w w' := by
  have hc' := cell_al hc
  go_enter Tryd.func42, Tryd.ntmps42
  go_wp2
  go_ret
  exact ⟨rfl, bl_al (Below.refl _ _) _⟩

theorem indexOf_hit {l : List Page} {line : Int} {k : Nat} (hk : k < l.length) (h : (l[k].line == line) = true) (hno : ∀ j (hj : j < l.length), j < k → (l[j].line == line) = false) : indexOf l line = k := by
  unfold indexOf
  rw [List.findIdx_eq hk]
  exact ⟨h, fun j hj => hno j (by omega) hj⟩
theorem indexOf_miss {l : List Page} {line : Int} (hno : ∀ j (hj : j < l.length), j < l.length → (l[j].line == line) = false) : indexOf l line = l.length := by
  unfold indexOf
  rw [List.findIdx_eq_length]
  intro x hx
  obtain ⟨j, hj, rfl⟩ := List.getElem_of_mem hx
  exact hno j hj hj

theorem below_succ {l : List Page} {q : Page → Bool} {k : Nat} (hno : ∀ j (hj : j < l.length), j < k → q l[j] = false) {hk : k < l.length} (hx : q l[k] = false) : ∀ j (hj : j < l.length), j < k + 1 → q l[j] = false := fun j hj hjk => by
  rcases Nat.lt_or_ge j k with h | h
  · exact hno j hj h
  · obtain rfl : j = k := by omega
    exact hx

theorem indexFunc_any (v : Value) (l : List Page) (g : Nat) (line : Int) (w : World) (h : Sl w w.heap.size 9 v l.length (l.flatMap Page.cells)) (hn : l.length ≤ 1000000) (hc : w.cell? ⟨g, 0, none⟩ = some (.int .i64 line)) :
    Calls Tryd.prog 41 #[v, .func (.func 42) #[] #[.pointer (some ⟨g, 0, none⟩)]] w fun e w' =>
      e = .returned (.int .i64 (idx l line)) ∧ Below w.heap.size w w' := by
  obtain ⟨A, c, rfl, hcc, hm, hl, hat⟩ := h
  go_enter Tryd.func41, Tryd.ntmps41
  go_wp2
  go_loopw [8] (fun i wr => ∃ k : Nat, k ≤ l.length ∧ i = .int .i64 k ∧ Below w.heap.size w wr ∧ Hid (∀ j (hj : j < l.length), j < k → (l[j].line == line) = false)) (fun i _ => l.length - (intOf i).toNat)
  case atStart => exact ⟨0, by omega, rfl, Below.refl _ _, fun j _ h => by omega⟩
  case round =>
    obtain ⟨k, hk, rfl, hb, hno⟩ := hrel
    by_cases hlt : k < l.length
    · obtain ⟨b, off, rfl, hbB, h0, h1, h2, h3, h4, h5, h6, h7, h8⟩ := Page.at_ (hat.below hb) hlt
      cases hx : (l[k].line == line) with
      | true =>
        have Hx := hide hx; clear hx
        go_wp2_with (go_at_call 42; refine (index1_any l[k] g line wr ((hb.cell (p := ⟨g, 0, none⟩) (World.block_lt_of_cell? w _ hc)).trans hc)).mono ?_; rw [Hx.out]; rintro e w1 ⟨rfl, hb1⟩)
        go_ret
        have hi := indexOf_hit hlt Hx.out hno.out
        exact ⟨ret_int (by rw [idx_hit (by omega), hi]), bl_on hb hb1⟩
      | false =>
        have Hx := hide hx; clear hx
        go_wp2_with (go_at_call 42; refine (index1_any l[k] g line wr ((hb.cell (p := ⟨g, 0, none⟩) (World.block_lt_of_cell? w _ hc)).trans hc)).mono ?_; rw [Hx.out]; rintro e w1 ⟨rfl, hb1⟩)
        go_roundw
        case rel => exact ⟨k + 1, by omega, by go_num, bl_on hb hb1, below_succ (q := fun p => p.line == line) hno.out Hx.out⟩
        case measure => simp [intOf]; omega
    · go_wp2
      go_ret
      obtain rfl : k = l.length := by omega
      have hi := indexOf_miss hno.out
      exact ⟨ret_int (by rw [idx_miss (by omega)]), hb⟩

theorem index_any (v : Value) (cap : Int) (l : List Page) (line : Int) (w : World) (h : Sl w w.heap.size 9 v l.length (l.flatMap Page.cells)) (hn : l.length ≤ 1000000) :
    Calls Tryd.prog 25 #[.agg #[.int .i64 cap, v], .int .i64 line] w fun e w' =>
      e = .returned (.int .i64 (idx l line)) ∧ Below w.heap.size w w' := by
  have hmf : ∀ (fn : Fn) (first cap : Array Value) (w : World), (Instr.makeFunc fn first cap).run Tryd.prog w = .ok (.func fn first cap) w := fun _ _ _ _ => rfl
  obtain ⟨A, c, rfl, hcc, hm, hl, hat⟩ := h
  have hS : Sl w w.heap.size 9 (.slice A l.length c) l.length (l.flatMap Page.cells) := ⟨A, c, rfl, hcc, hm, hl, hat⟩
  go_enter Tryd.func25, Tryd.ntmps25
  go_wp2_with fail
  refine (indexFunc_any _ l _ line _ (hS.on (bl_al (bl_al (Below.refl _ _) _) _)) hn (by go_simp)).mono ?_
  rintro e w1 ⟨rfl, hb1⟩
  go_wp2
  go_ret
  exact ⟨rfl, (by repeat (first | exact Below.refl _ _ | assumption | (refine bl_al ?_ _) | (refine bl_dr ?_ _) | (refine bl_on ?_ (by assumption))))⟩

set_option maxRecDepth 100000 in
theorem clone_any (v : Value) (l : List Page) (w : World) (h : Sl w w.heap.size 9 v l.length (l.flatMap Page.cells)) (hn : l.length ≤ 1000000) :
    Calls Tryd.prog 33 #[v] w fun e w' => ∃ v', e = .returned v' ∧ w'.ownsRow w.heap.size 42 9 v' l.length (l.flatMap Page.cells) ∧ Below w.heap.size w w' := by
  obtain ⟨A, c, rfl, hcc, hm, hl, hat⟩ := h
  have hnil := fun (W : World) (a : Option Addr) (n c n' c' : Nat) => Lib.run_eql_slice_nil (P := Tryd.prog) W 22 42 a n c n' c' Tryd.underlying22
  obtain ⟨i0, hi0, hz0, hz1, hz2⟩ := info_parts page_info
  cases A with
  | none =>
    have hl0 : l.length = 0 := by
      rcases Nat.eq_zero_or_pos l.length with h0 | h0
      · exact h0
      · obtain ⟨b, off, he, _⟩ := hat 0 _ (List.getElem?_eq_getElem (by omega))
        cases he
    have hl1 : l = [] := List.eq_nil_of_length_eq_zero hl0
    subst hl1
    go_enter Tryd.func33, Tryd.ntmps33
    go_wp2
    go_ret
    exact ⟨_, rfl, World.ownsRow_nil _ _ _ _, Below.refl _ _⟩
  | some ad =>
    have hown0 : (w.alloc (.cells #[] 42)).ownsRow w.heap.size 42 9 (.slice (some ⟨w.heap.size, 0, none⟩) 0 0) 0 [] :=
      ⟨by simp, .inr ⟨w.heap.size, 0, #[], rfl, Nat.le_refl _, heap_alloc_new w _, Nat.le_refl _, by simp [maxLen], by simp, by simp⟩⟩
    have hnews : ∀ j u, (l.flatMap Page.cells)[j]? = some u → (w.alloc (.cells #[] 42)).cell? (ad.add j) = some u := by
      intro j u hj
      obtain ⟨b, off, he, _, hc⟩ := hat.below (bl_al (Below.refl _ _) (.cells #[] 42)) j u hj
      injection he with he
      subst he
      rw [add_flat']
      exact hc
    go_enter Tryd.func33, Tryd.ntmps33
    go_wp2_with (at_builtin; refine wpList_append_own_at (w.alloc (.cells #[] 42)) rfl (.tmp 5) (.tmp 6) 22 rfl w.heap.size 42 i0 _ 9 72 Tryd.underlying22 hi0 hz0 hz1 hz2 rfl (by omega) (.slice (some ⟨w.heap.size, 0, none⟩) 0 0) 0 [] rfl hown0 ad l.length c (l.flatMap Page.cells) rfl (Page.lenl l) hnews (Page.onel l) (by simp only [maxLen]; omega) (by omega) (by simp) ?_; intro v1 w1 hown1 hg1 _ hat1)
    go_ret
    exact ⟨v1, rfl, by simpa using hown1, ((Below.refl _ _).alloc (Nat.le_refl _) _).grown hg1 (by simp) (by intro k hk; simp [Value.ownBlock] at hk; omega)⟩

/-- The receiver's memory is copied. -/
theorem copied_any (v : Value) (cap : Int) (l : List Page) (w : World) (h : Sl w w.heap.size 9 v l.length (l.flatMap Page.cells)) (hn : l.length ≤ 1000000) :
    Calls Tryd.prog 24 #[.agg #[.int .i64 cap, v]] w fun e w' => ∃ v', e = .returned (.agg #[.int .i64 cap, v']) ∧ w'.ownsRow w.heap.size 42 9 v' l.length (l.flatMap Page.cells) ∧ Below w.heap.size w w' := by
  have hform : ∃ A c, v = .slice A l.length c := by obtain ⟨A, c, rfl, _⟩ := h; exact ⟨A, c, rfl⟩
  obtain ⟨A, c, rfl⟩ := hform
  go_enter Tryd.func24, Tryd.ntmps24
  go_wp2_with fail
  refine (clone_any _ l _ (h.on (bl_al (bl_al (Below.refl _ _) _) _)) hn).mono ?_
  rintro e w1 ⟨v1, rfl, hown, hb⟩
  obtain ⟨A1, c1, hv1, _⟩ := own_form hown
  rw [hv1] at hown ⊢
  obtain ⟨k0, f0, z0⟩ := blk hb (new1 _ _ _)
  obtain ⟨k1, f1, z1⟩ := blk hb (new1' _ _ _)
  go_wp2
  refine bodyPost_ret (v := .agg #[.int .i64 cap, .slice A1 l.length c1]) (by simp [results, Tryd.results24, go_sem, k0, k1, f0, f1]) rfl ⟨_, rfl, ?_, ?_⟩
  · exact own_mono (ownsRow_setCell_below (ownsRow_setCell_below (ownsRow_setCell_below hown (by simp; omega) _) (by simp) _) (by simp) _) (by simp; omega)
  · exact (((bl_on (bl_al (bl_al (Below.refl _ _) _) _) hb).setCell (Nat.le_refl _) _).setCell (by simp) _).setCell (by simp) _

end Go.Proofs.YtkodkbjmeepbiaaDoor
