/- Plain laws of lists: the lines of a cache behind Put and Get. No program in sight. -/
import Derived.Test.YtkodkbjmeepbiaaP
set_option linter.unusedVariables false
set_option linter.unusedSimpArgs false
namespace Go.Proofs.Ytkodkbjmeepbiaa
open Go.RowKit

abbrev lines (l : List Page) : List Int := l.map Page.line

theorem fine_iff (l : List Page) : ∀ seen : List Int, fine l seen = true ↔ (∀ p ∈ l, cachable p = true) ∧ (lines l).Nodup ∧ ∀ p ∈ l, p.line ∉ seen := by
  induction l with
  | nil => intro seen; simp [fine]
  | cons a l ih =>
    intro seen
    simp only [fine, Bool.and_eq_true, ih, lines, List.map_cons, List.nodup_cons, List.forall_mem_cons, Bool.not_eq_true', List.contains_eq_mem, decide_eq_false_iff_not]
    simp only [List.mem_cons, not_or]
    constructor
    · rintro ⟨⟨h1, h2⟩, h3, h4, h5⟩
      refine ⟨⟨h1, h3⟩, ⟨?_, h4⟩, h2, fun p hp => (h5 p hp).2⟩
      intro hm
      obtain ⟨p, hp, he⟩ := List.mem_map.1 hm
      exact (h5 p hp).1 he
    · rintro ⟨⟨h1, h3⟩, ⟨h6, h4⟩, h2, h5⟩
      exact ⟨⟨h1, h2⟩, h3, h4, fun p hp => ⟨fun e => h6 (List.mem_map.2 ⟨p, hp, e⟩), h5 p hp⟩⟩

theorem valid_iff (n : Int) (l : List Page) : valid n l = true ↔ 1 ≤ n ∧ n ≤ 256 ∧ (l.length : Int) ≤ n ∧ (∀ p ∈ l, cachable p = true) ∧ (lines l).Nodup := by
  unfold valid
  simp only [Bool.and_eq_true, decide_eq_true_eq, fine_iff, List.not_mem_nil, not_false_eq_true, implies_true, and_true]
  constructor
  · rintro ⟨⟨⟨a, b⟩, c⟩, d, e⟩; exact ⟨a, b, c, d, e⟩
  · rintro ⟨a, b, c, d, e⟩; exact ⟨⟨⟨a, b⟩, c⟩, d, e⟩

theorem indexOf_line {l : List Page} {line : Int} (h : indexOf l line < l.length) : l[indexOf l line].line = line := by
  have h2 : ((fun p : Page => p.line == line) (l[l.findIdx (fun p => p.line == line)]'h)) = true := List.findIdx_getElem (w := h)
  exact beq_iff_eq.1 h2
theorem indexOf_lt {l : List Page} {line : Int} : indexOf l line < l.length ↔ line ∈ lines l := by
  unfold indexOf
  rw [List.findIdx_lt_length]
  simp only [lines, List.mem_map, beq_iff_eq]
theorem erase_lines {line : Int} : ∀ {l : List Page}, (lines l).Nodup → lines (l.eraseIdx (indexOf l line)) = (lines l).filter (fun x => x != line)
  | [], _ => rfl
  | a :: l, h => by
    simp only [lines, List.map_cons, List.nodup_cons] at h
    obtain ⟨h1, h2⟩ := h
    by_cases e : a.line = line
    · have h0 : indexOf (a :: l) line = 0 := by simp [indexOf, List.findIdx_cons, e]
      rw [h0, List.eraseIdx_cons_zero]
      simp only [lines, List.map_cons, List.filter_cons]
      have : (a.line != line) = false := by simp [e]
      rw [this]
      simp only [Bool.false_eq_true, if_false]
      symm
      rw [List.filter_eq_self]
      intro x hx
      simp only [bne_iff_ne, ne_eq]
      intro e2
      subst e2
      rw [e] at h1
      exact h1 hx
    · have h0 : indexOf (a :: l) line = indexOf l line + 1 := by
        have : (a.line == line) = false := by simp [e]
        simp [indexOf, List.findIdx_cons, this]
      rw [h0, List.eraseIdx_cons_succ]
      have := erase_lines (line := line) (l := l) h2
      simp only [lines, List.map_cons, List.filter_cons] at this ⊢
      have e3 : (a.line != line) = true := by simp [e]
      rw [e3, this]
      simp
theorem filter_none {line : Int} {r : List Int} (h : line ∉ r) : r.filter (fun x => x != line) = r := by
  rw [List.filter_eq_self]
  intro x hx
  simp only [bne_iff_ne, ne_eq]
  intro e
  subst e
  exact h hx
theorem nodup_filter_cons {line : Int} {r : List Int} (h : r.Nodup) : (line :: r.filter (fun x => x != line)).Nodup := by
  rw [List.nodup_cons]
  refine ⟨?_, h.filter _⟩
  simp

theorem put1_lines {n : Int} {l : List Page} {p : Page} (hv : valid n l = true) (hp : cachable p = true) : lines (put1 n l p) = (p.line :: (lines l).filter (fun x => x != p.line)).take n.toNat := by
  obtain ⟨h1, h2, h3, h4, h5⟩ := (valid_iff n l).1 hv
  unfold put1
  rw [if_pos hp]
  dsimp only
  by_cases hi : indexOf l p.line < l.length
  · rw [dif_pos hi]
    have hl := indexOf_line hi
    have he : (if p.head < l[indexOf l p.line].head then l[indexOf l p.line] else p).line = p.line := by split <;> simp [hl]
    simp only [lines, List.map_take, List.map_cons]
    rw [he]
    congr 2
    exact erase_lines h5
  · rw [dif_neg hi]
    simp only [lines, List.map_take, List.map_cons]
    congr 2
    exact (filter_none (fun hm => hi (indexOf_lt.2 hm))).symm
theorem put1_valid {n : Int} {l : List Page} {p : Page} (hv : valid n l = true) (hp : cachable p = true) : valid n (put1 n l p) = true := by
  have hl := put1_lines hv hp
  obtain ⟨h1, h2, h3, h4, h5⟩ := (valid_iff n l).1 hv
  refine (valid_iff n _).2 ⟨h1, h2, ?_, ?_, ?_⟩
  · have : (put1 n l p).length = (lines (put1 n l p)).length := by simp [lines]
    rw [this, hl, List.length_take]
    omega
  · unfold put1
    rw [if_pos hp]
    dsimp only
    split
    · rename_i hi
      intro q hq
      rcases List.mem_cons.1 (List.mem_of_mem_take hq) with rfl | hq
      · split
        · exact h4 _ (List.getElem_mem hi)
        · exact hp
      · exact h4 q (List.mem_of_mem_eraseIdx hq)
    · intro q hq
      rcases List.mem_cons.1 (List.mem_of_mem_take hq) with rfl | hq
      · exact hp
      · exact h4 q hq
  · rw [hl]
    exact (nodup_filter_cons h5).sublist (List.take_sublist _ _)
theorem get_lines {n line : Int} {l : List Page} (hv : valid n l = true) (hi : indexOf l line < l.length) : lines (l[indexOf l line] :: l.eraseIdx (indexOf l line)) = (line :: (lines l).filter (fun x => x != line)).take n.toNat := by
  obtain ⟨h1, h2, h3, h4, h5⟩ := (valid_iff n l).1 hv
  have hlen : (lines (l[indexOf l line] :: l.eraseIdx (indexOf l line))).length = l.length := by
    simp only [lines, List.length_map, List.length_cons, List.length_eraseIdx_of_lt hi]; omega
  have he : lines (l[indexOf l line] :: l.eraseIdx (indexOf l line)) = line :: (lines l).filter (fun x => x != line) := by
    have := erase_lines (line := line) h5
    simp only [lines, List.map_cons] at this ⊢
    rw [indexOf_line hi, this]
  rw [← he, List.take_of_length_le (by rw [hlen]; omega)]
theorem get_valid {n line : Int} {l : List Page} (hv : valid n l = true) (hi : indexOf l line < l.length) : valid n (l[indexOf l line] :: l.eraseIdx (indexOf l line)) = true := by
  have hl := get_lines hv hi
  obtain ⟨h1, h2, h3, h4, h5⟩ := (valid_iff n l).1 hv
  refine (valid_iff n _).2 ⟨h1, h2, ?_, ?_, ?_⟩
  · rw [List.length_cons, List.length_eraseIdx_of_lt hi]; omega
  · intro q hq
    rcases List.mem_cons.1 hq with rfl | hq
    · exact h4 _ (List.getElem_mem hi)
    · exact h4 q (List.mem_of_mem_eraseIdx hq)
  · rw [hl]
    exact (nodup_filter_cons h5).sublist (List.take_sublist _ _)

/-- The law's own list behind k of the old ones. -/
def nextL (line : Int) (n : Int) (r : List Int) (k : Nat) : List Int := (line :: (r.take k).filter (fun x => x != line)).take n.toNat
theorem nextL_zero {line n : Int} {r : List Int} (h : 1 ≤ n) : nextL line n r 0 = [line] := by
  have : ∃ m, n.toNat = m + 1 := ⟨n.toNat - 1, by omega⟩
  obtain ⟨m, hm⟩ := this
  simp [nextL, hm]
theorem nextL_skip {line n : Int} {r : List Int} {k : Nat} (hk : k < r.length) (h : r[k] = line ∨ n ≤ ((nextL line n r k).length : Int)) : nextL line n r (k + 1) = nextL line n r k := by
  unfold nextL at h ⊢
  rw [List.take_succ_eq_append_getElem hk, List.filter_append]
  rcases h with h | h
  · simp [h]
  · rw [← List.cons_append, List.take_append_of_le_length]
    rw [List.length_take] at h
    omega
theorem nextL_put {line n : Int} {r : List Int} {k : Nat} (hk : k < r.length) (h1 : r[k] ≠ line) (h2 : ((nextL line n r k).length : Int) < n) : nextL line n r (k + 1) = nextL line n r k ++ [r[k]] := by
  unfold nextL at h2 ⊢
  rw [List.length_take] at h2
  have hle : (line :: (r.take k).filter (fun x => x != line)).length < n.toNat := by omega
  rw [List.take_succ_eq_append_getElem hk, List.filter_append]
  have : [r[k]].filter (fun x => x != line) = [r[k]] := by simp [h1]
  have hA : (line :: (r.take k).filter (fun x => x != line)).take n.toNat = line :: (r.take k).filter (fun x => x != line) := List.take_of_length_le (by omega)
  have hB : ((line :: (r.take k).filter (fun x => x != line)) ++ [r[k]]).take n.toNat = (line :: (r.take k).filter (fun x => x != line)) ++ [r[k]] := List.take_of_length_le (by rw [List.length_append, List.length_singleton]; omega)
  rw [this, ← List.cons_append, hA, hB]
theorem nextL_all {line n : Int} {r : List Int} : nextL line n r r.length = (line :: r.filter (fun x => x != line)).take n.toNat := by
  unfold nextL
  rw [List.take_length]
theorem nextL_len {line n : Int} {r : List Int} {k : Nat} (h : n ≤ 256) : (nextL line n r k).length ≤ 256 := by
  unfold nextL
  rw [List.length_take]
  omega

end Go.Proofs.Ytkodkbjmeepbiaa
