/- The operations of both packages at a list that lies apart, valid or not. Conditions: as each theorem names them. -/
import Derived.Test.YtkodkbjmeepbiaaDoorE3
import Derived.Test.YtkodkbjmeepbiaaDoorE4
import Derived.Test.YtkodkbjmeepbiaaDoorF3
import Derived.Test.YtkodkbjmeepbiaaDoorF4
import Derived.Test.YtkodkbjmeepbiaaDoorG9
import Derived.Test.YtkodkbjmeepbiaaDoorC7
import Derived.Test.YtkodkbjmeepbiaaDoorC8
set_option linter.unusedVariables false
set_option linter.unusedSimpArgs false
namespace Go.Proofs.YtkodkbjmeepbiaaDoor
open Go.RowKit

/-- A list of pages that lies in other blocks than g1 and g2. -/
def Apart (w : World) (g1 g2 : Nat) (A : Option Addr) (c : Nat) (l : List Page) : Prop := Sl w w.heap.size 9 (.slice A l.length c) l.length (l.flatMap Page.cells) ∧ (l ≠ [] → ∀ b off, A = some ⟨b, off, none⟩ → b ≠ g1 ∧ b ≠ g2)
theorem Apart.on {w w' : World} {g1 g2 : Nat} {A : Option Addr} {c : Nat} {l : List Page} (h : Apart w g1 g2 A c l) (hb : Below w.heap.size w w') : Apart w' g1 g2 A c l := ⟨h.1.on hb, h.2⟩
theorem Apart.set {w : World} {g1 g2 : Nat} {A : Option Addr} {c : Nat} {l : List Page} (h : Apart w g1 g2 A c l) {g i : Nat} (v : Value) (hg : g = g1 ∨ g = g2) : Apart (w.setCell ⟨g, i, none⟩ v) g1 g2 A c l := by
  refine ⟨?_, h.2⟩
  obtain ⟨A', c', he, hcc, hm, hl, hat⟩ := h.1
  injection he with e1 e2 e3
  subst e1 e3
  refine ⟨A, c, rfl, hcc, hm, hl, fun j u hj => ?_⟩
  obtain ⟨b, off, hA, hb, hc⟩ := hat j u hj
  have hne := h.2 (by rintro rfl; simp at hj) b off hA
  refine ⟨b, off, hA, by simpa [World.setCell] using hb, ?_⟩
  rw [cell_same (a := ⟨b, off + j, none⟩) (Below.heap_setCell w ⟨g, i, none⟩ v b (by rcases hg with rfl | rfl; exact hne.1; exact hne.2))]
  exact hc
theorem Apart.of_own {w : World} {g1 g2 base : Nat} {e : TypeId} {A : Option Addr} {c : Nat} {l : List Page} (h : w.ownsRow base e 9 (.slice A l.length c) l.length (l.flatMap Page.cells)) (h1 : g1 < base) (h2 : g2 < base) : Apart w g1 g2 A c l :=
  ⟨Sl.of_own h, fun _ b off hA => by
    have := own_base h b (by rw [hA]; rfl)
    omega⟩
theorem Apart.nil (w : World) (g1 g2 : Nat) : Apart w g1 g2 none 0 [] := ⟨Sl.nil _ _ _, fun _ b off h => by cases h⟩

theorem Apart.of_sl {w W : World} {g1 g2 : Nat} {A : Option Addr} {c : Nat} {l : List Page} (h : Sl w w.heap.size 9 (.slice A l.length c) l.length (l.flatMap Page.cells)) (hb : Below w.heap.size w W) (h1 : w.heap.size ≤ g1) (h2 : w.heap.size ≤ g2) : Apart W g1 g2 A c l := by
  refine ⟨h.on hb, fun hne b off hA => ?_⟩
  obtain ⟨A', c', he, hcc, hm, hl, hat⟩ := h
  injection he with e1 e2 e3
  subst e1 e3
  cases l with
  | nil => exact absurd rfl hne
  | cons p l =>
    obtain ⟨b', off', hA', hb', _⟩ := hat 0 (.int .i64 p.line) (by simp [Page.cells])
    rw [hA] at hA'
    injection hA' with hA'
    injection hA' with h3 h4
    omega

def dropS (cap : Int) (l : List Page) (xs : List Int) : List Page := if valid cap l then dropL l xs else l
theorem valid_len {cap : Int} {l : List Page} (h : valid cap l = true) : (l.length : Int) ≤ cap ∧ cap ≤ 256 := by simp [valid] at h; omega

theorem put1_mem {cap : Int} {l : List Page} {p q : Page} (h : q ∈ put1 cap l p) : q ∈ l ∨ q = p := by
  unfold put1 at h
  split at h
  · simp only at h
    split at h
    · have := List.mem_of_mem_take h
      rcases List.mem_cons.1 this with rfl | h2
      · split
        · exact .inl (List.getElem_mem _)
        · exact .inr rfl
      · exact .inl (List.mem_of_mem_eraseIdx h2)
    · have := List.mem_of_mem_take h
      rcases List.mem_cons.1 this with rfl | h2
      · exact .inr rfl
      · exact .inl h2
  · exact .inl h
theorem putAll_mem {cap : Int} (ps : List Page) : ∀ {l : List Page} {q : Page}, q ∈ putAll cap l ps → q ∈ l ∨ q ∈ ps := by
  induction ps with
  | nil => intro l q h; exact .inl h
  | cons p r ih =>
    intro l q h
    rcases ih (l := put1 cap l p) h with h | h
    · rcases put1_mem h with h | h
      · exact .inl h
      · exact .inr (by rw [h]; simp)
    · exact .inr (List.mem_cons_of_mem _ h)
theorem put_ok {cap : Int} {l ps : List Page} (hl : ∀ p ∈ l, p.ok) (hps : ∀ p ∈ ps, p.ok) : ∀ p ∈ put cap l ps, p.ok := fun p hp => by
  unfold put at hp
  split at hp
  · rcases putAll_mem ps hp with h | h
    · exact hl p h
    · exact hps p h
  · exact hl p hp
theorem put_len {cap : Int} {l : List Page} (ps : List Page) (hl : l.length ≤ 300) : (put cap l ps).length ≤ 300 := by
  unfold put
  split
  · rename_i h
    have := valid_len h
    have := putAll_len ps (l := l) this.1
    omega
  · exact hl
theorem dropS_ok {cap : Int} {l : List Page} {xs : List Int} (hl : ∀ p ∈ l, p.ok) : ∀ p ∈ dropS cap l xs, p.ok := fun p hp => by
  unfold dropS dropL at hp
  split at hp
  · exact hl p (List.mem_filter.1 hp).1
  · exact hl p hp
theorem dropS_len {cap : Int} {l : List Page} {xs : List Int} (hl : l.length ≤ 300) : (dropS cap l xs).length ≤ 300 := by
  unfold dropS
  split
  · exact Nat.le_trans (drop_len l xs) hl
  · exact hl

theorem putA {g1 g2 : Nat} {A : Option Addr} {c : Nat} (u : Value) (cap : Int) (l ps : List Page) (w : World) (h : Apart w g1 g2 A c l) (hn : l.length ≤ 300) (hok : ∀ p ∈ l, p.ok) (hu : Sl w w.heap.size 9 u ps.length (ps.flatMap Page.cells)) (hpn : ps.length ≤ 1000) (hpo : ∀ p ∈ ps, p.ok) (h1 : g1 < w.heap.size) (h2 : g2 < w.heap.size) :
    Calls Tryd.prog 15 #[.agg #[.int .i64 cap, .slice A l.length c], u] w fun e w' => ∃ A2 c2, e = .returned (.agg #[.int .i64 cap, .slice A2 (put cap l ps).length c2]) ∧ Apart w' g1 g2 A2 c2 (put cap l ps) ∧ Below w.heap.size w w' := by
  cases hv : valid cap l with
  | true =>
    have e : put cap l ps = putAll cap l ps := by simp [put, hv]
    rw [e]
    refine (put_any _ u cap l ps w h.1 (by omega) (fun p hp => (hok p hp).1) hu (by omega) (fun p hp => (hpo p hp).1) hv).mono ?_
    rintro e w' ⟨v', rfl, O, hb⟩
    obtain ⟨A2, c2, rfl, _⟩ := own_form O
    exact ⟨A2, c2, rfl, Apart.of_own O h1 h2, hb⟩
  | false =>
    have e : put cap l ps = l := by simp [put, hv]
    rw [e]
    refine (put_bad _ u cap l ps w h.1 (by omega) (fun p hp => (hok p hp).1) hu hv).mono ?_
    rintro e w' ⟨v', rfl, O, hb⟩
    obtain ⟨A2, c2, rfl, _⟩ := own_form O
    exact ⟨A2, c2, rfl, Apart.of_own O h1 h2, hb⟩
theorem rputA {g1 g2 : Nat} {A : Option Addr} {c : Nat} (u : Value) (cap : Int) (l ps : List Page) (w : World) (h : Apart w g1 g2 A c l) (hn : l.length ≤ 300) (hok : ∀ p ∈ l, p.ok) (hu : Sl w w.heap.size 9 u ps.length (ps.flatMap Page.cells)) (hpn : ps.length ≤ 1000) (hpo : ∀ p ∈ ps, p.ok) (h1 : g1 < w.heap.size) (h2 : g2 < w.heap.size) :
    Calls Tryd.prog 16 #[.agg #[.int .i64 cap, .slice A l.length c], u] w fun e w' => ∃ A2 c2, e = .returned (.agg #[.int .i64 cap, .slice A2 (put cap l ps).length c2]) ∧ Apart w' g1 g2 A2 c2 (put cap l ps) ∧ Below w.heap.size w w' := by
  cases hv : valid cap l with
  | true =>
    have e : put cap l ps = putAll cap l ps := by simp [put, hv]
    rw [e]
    refine (rput_any _ u cap l ps w h.1 (by omega) (fun p hp => (hok p hp).1) hu (by omega) (fun p hp => (hpo p hp).1) hv).mono ?_
    rintro e w' ⟨v', rfl, O, hb⟩
    obtain ⟨A2, c2, rfl, _⟩ := own_form O
    exact ⟨A2, c2, rfl, Apart.of_own O h1 h2, hb⟩
  | false =>
    have e : put cap l ps = l := by simp [put, hv]
    rw [e]
    refine (rput_bad _ u cap l ps w h.1 (by omega) (fun p hp => (hok p hp).1) hu hv).mono ?_
    rintro e w' ⟨rfl, hb⟩
    exact ⟨A, c, rfl, h.on hb, hb⟩
theorem dropA {g1 g2 : Nat} {A : Option Addr} {c : Nat} (u : Value) (cap : Int) (l : List Page) (xs : List Int) (w : World) (h : Apart w g1 g2 A c l) (hn : l.length ≤ 300) (hok : ∀ p ∈ l, p.ok) (hu : Sl w w.heap.size 1 u xs.length (ints xs)) (hun : xs.length ≤ 1000) (h1 : g1 < w.heap.size) (h2 : g2 < w.heap.size) :
    Calls Tryd.prog 13 #[.agg #[.int .i64 cap, .slice A l.length c], u] w fun e w' => ∃ A2 c2, e = .returned (.agg #[.int .i64 cap, .slice A2 (dropS cap l xs).length c2]) ∧ Apart w' g1 g2 A2 c2 (dropS cap l xs) ∧ Below w.heap.size w w' := by
  cases hv : valid cap l with
  | true =>
    have e : dropS cap l xs = dropL l xs := by simp [dropS, hv]
    rw [e]
    refine (drop_any _ u cap l xs w h.1 (by omega) (fun p hp => (hok p hp).1) hu (by omega) hv).mono ?_
    rintro e w' ⟨v', rfl, O, hb⟩
    obtain ⟨A2, c2, rfl, _⟩ := own_form O
    exact ⟨A2, c2, rfl, Apart.of_own O h1 h2, hb⟩
  | false =>
    have e : dropS cap l xs = l := by simp [dropS, hv]
    rw [e]
    refine (drop_bad _ u cap l xs w h.1 (by omega) (fun p hp => (hok p hp).1) hu hv).mono ?_
    rintro e w' ⟨v', rfl, O, hb⟩
    obtain ⟨A2, c2, rfl, _⟩ := own_form O
    exact ⟨A2, c2, rfl, Apart.of_own O h1 h2, hb⟩
theorem rdropA {g1 g2 : Nat} {A : Option Addr} {c : Nat} (u : Value) (cap : Int) (l : List Page) (xs : List Int) (w : World) (h : Apart w g1 g2 A c l) (hn : l.length ≤ 300) (hok : ∀ p ∈ l, p.ok) (hu : Sl w w.heap.size 1 u xs.length (ints xs)) (hun : xs.length ≤ 1000) (h1 : g1 < w.heap.size) (h2 : g2 < w.heap.size) :
    Calls Tryd.prog 14 #[.agg #[.int .i64 cap, .slice A l.length c], u] w fun e w' => ∃ A2 c2, e = .returned (.agg #[.int .i64 cap, .slice A2 (dropS cap l xs).length c2]) ∧ Apart w' g1 g2 A2 c2 (dropS cap l xs) ∧ Below w.heap.size w w' := by
  cases hv : valid cap l with
  | true =>
    have e : dropS cap l xs = dropL l xs := by simp [dropS, hv]
    rw [e]
    refine (rdrop_any _ u cap l xs w h.1 (by omega) (fun p hp => (hok p hp).1) hu (by omega) hv).mono ?_
    rintro e w' ⟨v', rfl, O, hb⟩
    obtain ⟨A2, c2, rfl, _⟩ := own_form O
    exact ⟨A2, c2, rfl, Apart.of_own O h1 h2, hb⟩
  | false =>
    have e : dropS cap l xs = l := by simp [dropS, hv]
    rw [e]
    refine (rdrop_bad _ u cap l xs w h.1 (by omega) (fun p hp => (hok p hp).1) hu hv).mono ?_
    rintro e w' ⟨rfl, hb⟩
    exact ⟨A, c, rfl, h.on hb, hb⟩

/-- What Get makes of a list, what it hands back, and whether it was there. -/
def gotL (cap : Int) (l : List Page) (line : Int) : List Page := if h : valid cap l = true ∧ indexOf l line < l.length then l[indexOf l line]'h.2 :: l.eraseIdx (indexOf l line) else l
def gotP (cap : Int) (l : List Page) (line : Int) : Page := if h : valid cap l = true ∧ indexOf l line < l.length then l[indexOf l line]'h.2 else Page.zero
def gotB (cap : Int) (l : List Page) (line : Int) : Bool := decide (valid cap l = true ∧ indexOf l line < l.length)
theorem got_len {cap line : Int} {l : List Page} : (gotL cap l line).length = l.length := by
  unfold gotL
  split
  · rename_i h
    rw [List.length_cons, List.length_eraseIdx_of_lt h.2]
    omega
  · rfl
theorem got_ok {cap line : Int} {l : List Page} (hl : ∀ p ∈ l, p.ok) : ∀ p ∈ gotL cap l line, p.ok := fun p hp => by
  unfold gotL at hp
  split at hp
  · rcases List.mem_cons.1 hp with rfl | h
    · exact hl _ (List.getElem_mem _)
    · exact hl p (List.mem_of_mem_eraseIdx h)
  · exact hl p hp
theorem getA {g1 g2 : Nat} {A : Option Addr} {c : Nat} (cap line : Int) (l : List Page) (w : World) (h : Apart w g1 g2 A c l) (hn : l.length ≤ 300) (hok : ∀ p ∈ l, p.ok) (h1 : g1 < w.heap.size) (h2 : g2 < w.heap.size) :
    Calls Tryd.prog 10 #[.agg #[.int .i64 cap, .slice A l.length c], .int .i64 line] w fun e w' => ∃ A2 c2, e = .returned (.tuple #[.agg #[.int .i64 cap, .slice A2 (gotL cap l line).length c2], (gotP cap l line).v, .bool (gotB cap l line)]) ∧ Apart w' g1 g2 A2 c2 (gotL cap l line) ∧ Below w.heap.size w w' := by
  by_cases hh : valid cap l = true ∧ indexOf l line < l.length
  · have e1 : gotL cap l line = l[indexOf l line]'hh.2 :: l.eraseIdx (indexOf l line) := dif_pos hh
    have e2 : gotP cap l line = l[indexOf l line]'hh.2 := dif_pos hh
    have e3 : gotB cap l line = true := decide_eq_true hh
    have e4 := got_len (cap := cap) (line := line) (l := l)
    refine (get_any _ cap line l w h.1 (by omega) (fun p hp => (hok p hp).1) hh.1 hh.2).mono ?_
    rintro e w' ⟨v', rfl, O, hb⟩
    obtain ⟨A2, c2, rfl, _⟩ := own_form O
    rw [← e1, ← e4] at O
    refine ⟨A2, c2, by rw [e2, e3, e4], Apart.of_own O h1 h2, hb⟩
  · have e1 : gotL cap l line = l := dif_neg hh
    have e2 : gotP cap l line = Page.zero := dif_neg hh
    have e3 : gotB cap l line = false := decide_eq_false hh
    rw [e1, e2, e3]
    cases hv : valid cap l with
    | true =>
      have hi : ¬ indexOf l line < l.length := fun hi => hh ⟨hv, hi⟩
      refine (get_miss _ cap line l w h.1 (by omega) (fun p hp => (hok p hp).1) hv hi).mono ?_
      rintro e w' ⟨v', rfl, O, hb⟩
      obtain ⟨A2, c2, rfl, _⟩ := own_form O
      exact ⟨A2, c2, rfl, Apart.of_own O h1 h2, hb⟩
    | false =>
      refine (get_bad _ cap line l w h.1 (by omega) (fun p hp => (hok p hp).1) hv).mono ?_
      rintro e w' ⟨v', rfl, O, hb⟩
      obtain ⟨A2, c2, rfl, _⟩ := own_form O
      exact ⟨A2, c2, rfl, Apart.of_own O h1 h2, hb⟩
theorem rgetA {g1 g2 : Nat} {A : Option Addr} {c : Nat} (cap line : Int) (l : List Page) (w : World) (h : Apart w g1 g2 A c l) (hn : l.length ≤ 300) (hok : ∀ p ∈ l, p.ok) (h1 : g1 < w.heap.size) (h2 : g2 < w.heap.size) :
    Calls Tryd.prog 11 #[.agg #[.int .i64 cap, .slice A l.length c], .int .i64 line] w fun e w' => ∃ A2 c2, e = .returned (.tuple #[.agg #[.int .i64 cap, .slice A2 (gotL cap l line).length c2], (gotP cap l line).v, .bool (gotB cap l line)]) ∧ Apart w' g1 g2 A2 c2 (gotL cap l line) ∧ Below w.heap.size w w' := by
  by_cases hh : valid cap l = true ∧ indexOf l line < l.length
  · have e1 : gotL cap l line = l[indexOf l line]'hh.2 :: l.eraseIdx (indexOf l line) := dif_pos hh
    have e2 : gotP cap l line = l[indexOf l line]'hh.2 := dif_pos hh
    have e3 : gotB cap l line = true := decide_eq_true hh
    have e4 := got_len (cap := cap) (line := line) (l := l)
    refine (rget_hit _ cap line l w h.1 (by omega) (fun p hp => (hok p hp).1) hh.1 hh.2).mono ?_
    rintro e w' ⟨v', rfl, O, hb⟩
    obtain ⟨A2, c2, rfl, _⟩ := own_form O
    rw [← e1, ← e4] at O
    refine ⟨A2, c2, by rw [e2, e3, e4], Apart.of_own O h1 h2, hb⟩
  · have e1 : gotL cap l line = l := dif_neg hh
    have e2 : gotP cap l line = Page.zero := dif_neg hh
    have e3 : gotB cap l line = false := decide_eq_false hh
    rw [e1, e2, e3]
    have hm : valid cap l = false ∨ ¬ indexOf l line < l.length := by
      cases hv : valid cap l with
      | true => exact .inr (fun hi => hh ⟨hv, hi⟩)
      | false => exact .inl rfl
    refine (rget_miss _ cap line l w h.1 (by omega) (fun p hp => (hok p hp).1) hm).mono ?_
    rintro e w' ⟨rfl, hb⟩
    exact ⟨A, c, rfl, h.on hb, hb⟩
end Go.Proofs.YtkodkbjmeepbiaaDoor
