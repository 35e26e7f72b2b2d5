/- Laws of this claim's own, over any program: the built-in copy, append and clear at elements of several cells, told by the row that they write. No condition but those that each law names. -/
import Derived.Test.YtkodkbjmeepbiaaDoorB
import Derived.Laws.CopyOwn
import Derived.Deep.RegionLaw
set_option linter.unusedVariables false
set_option linter.unusedSimpArgs false
namespace Go.Proofs.YtkodkbjmeepbiaaDoor
open Go.RowKit

/-- vs in the place of as many cells from o on. -/
def spl (l : List Value) (o : Nat) (vs : List Value) : List Value := l.take o ++ vs ++ l.drop (o + vs.length)
theorem spl_len (l : List Value) (o : Nat) (vs : List Value) (h : o + vs.length ≤ l.length) : (spl l o vs).length = l.length := by simp [spl]; omega
theorem spl_take (l : List Value) (o : Nat) (vs : List Value) (n : Nat) (hn : o + vs.length ≤ n) (h : o + vs.length ≤ l.length) : (spl l o vs).take n = l.take o ++ vs ++ (l.take n).drop (o + vs.length) := by
  unfold spl
  rw [List.take_append, List.take_of_length_le (by simp; omega)]
  congr 1
  rw [List.drop_take]
  congr 1
  simp; omega
theorem spl_low (l : List Value) (o : Nat) (vs : List Value) (n : Nat) (hn : n ≤ o) (h : o ≤ l.length) : (spl l o vs).take n = l.take n := by
  unfold spl
  rw [List.append_assoc, List.take_append_of_le_length (by simp; omega), List.take_take]
  congr 1
  omega
/-- A row that is known whole, as what the slice at its head owns. -/
theorem own_of_row {w : World} {base g n cap sz : Nat} {e : TypeId} {X cs : List Value} (h : w.heap[g]? = some (.cells X.toArray e (0, 0))) (hb : base ≤ g) (hn : n ≤ cap) (hc : cap ≤ maxLen) (hX : X.length = cap * sz) (hT : X.take (n * sz) = cs) (hl : cs.length = n * sz) :
    w.ownsRow base e sz (.slice (some ⟨g, 0, none⟩) n cap) n cs := ⟨hl, .inr ⟨g, cap, X.toArray, rfl, hb, h, hn, hc, by simpa using hX, by simpa using hT⟩⟩
/-- Taking element i out of a row. -/
theorem del_row {α : Type} {f : α → List Value} {sz : Nat} (hf : ∀ x, (f x).length = sz) {cur : List Value} {l : List α} {i cap : Nat} (hi : i < l.length) (hl : l.length ≤ cap) (hcs : cur.length = cap * sz) (htk : cur.take (l.length * sz) = l.flatMap f) :
    i * sz + ((l.drop (i + 1)).flatMap f).length ≤ cur.length ∧ (spl cur (i * sz) ((l.drop (i + 1)).flatMap f)).length = cap * sz ∧ (spl cur (i * sz) ((l.drop (i + 1)).flatMap f)).take ((l.length - 1) * sz) = (l.eraseIdx i).flatMap f := by
  have h1 : ((l.drop (i + 1)).flatMap f).length = (l.length - (i + 1)) * sz := by rw [flat_len f sz hf, List.length_drop]
  have h2 : i * sz + (l.length - (i + 1)) * sz = (l.length - 1) * sz := by rw [← Nat.add_mul]; congr 1; omega
  have h3 : (l.length - 1) * sz ≤ cap * sz := Nat.mul_le_mul_right _ (by omega)
  have h4 : i * sz ≤ l.length * sz := Nat.mul_le_mul_right _ (by omega)
  have hfit : i * sz + ((l.drop (i + 1)).flatMap f).length ≤ cur.length := by rw [h1, h2, hcs]; exact h3
  refine ⟨hfit, by rw [spl_len _ _ _ hfit, hcs], ?_⟩
  rw [spl_take _ _ _ _ (by rw [h1, h2]; exact Nat.le_refl _) hfit, h1, h2]
  have h5 : (List.take ((l.length - 1) * sz) cur).drop ((l.length - 1) * sz) = [] := List.drop_of_length_le (by rw [List.length_take]; exact Nat.min_le_left _ _)
  rw [h5, List.append_nil, List.eraseIdx_eq_take_drop_succ, List.flatMap_append, flat_take f sz hf, ← htk, List.take_take, Nat.min_eq_left h4]
/-- Making room at i and putting y there. -/
theorem ins_row {α : Type} {f : α → List Value} {sz : Nat} (hf : ∀ x, (f x).length = sz) {cur : List Value} {l : List α} {i cap : Nat} (y : α) (hi : i ≤ l.length) (hl : l.length + 1 ≤ cap) (hcs : cur.length = cap * sz) (htk : cur.take (l.length * sz) = l.flatMap f) :
    (i + 1) * sz + ((l.drop i).flatMap f).length ≤ cur.length ∧ (spl cur ((i + 1) * sz) ((l.drop i).flatMap f)).length = cap * sz ∧ i * sz + (f y).length ≤ cap * sz ∧
    (spl (spl cur ((i + 1) * sz) ((l.drop i).flatMap f)) (i * sz) (f y)).take ((l.length + 1) * sz) = (l.take i ++ y :: l.drop i).flatMap f := by
  have h1 : ((l.drop i).flatMap f).length = (l.length - i) * sz := by rw [flat_len f sz hf, List.length_drop]
  have h2 : (i + 1) * sz + (l.length - i) * sz = (l.length + 1) * sz := by rw [← Nat.add_mul]; congr 1; omega
  have h3 : (l.length + 1) * sz ≤ cap * sz := Nat.mul_le_mul_right _ (by omega)
  have h4 : i * sz ≤ l.length * sz := Nat.mul_le_mul_right _ (by omega)
  have h6 : (i + 1) * sz = i * sz + sz := by rw [Nat.add_mul]; omega
  have hfit : (i + 1) * sz + ((l.drop i).flatMap f).length ≤ cur.length := by rw [h1, h2, hcs]; exact h3
  have hX : (spl cur ((i + 1) * sz) ((l.drop i).flatMap f)).length = cap * sz := by rw [spl_len _ _ _ hfit, hcs]
  have h7 : i * sz + (f y).length ≤ cap * sz := by rw [hf, ← h6]; exact Nat.mul_le_mul_right _ (by omega)
  refine ⟨hfit, hX, h7, ?_⟩
  have h8 : i * sz + (f y).length ≤ (l.length + 1) * sz := by rw [hf, ← h6]; exact Nat.mul_le_mul_right _ (by omega)
  have hA := spl_take cur ((i + 1) * sz) ((l.drop i).flatMap f) ((l.length + 1) * sz) (by rw [h1, h2]; exact Nat.le_refl _) hfit
  have hB := spl_low cur ((i + 1) * sz) ((l.drop i).flatMap f) (i * sz) (by rw [h6]; omega) (by omega)
  rw [spl_take _ _ _ _ h8 (by rw [hX]; exact h7), hA, hB, h1, h2]
  have h5 : (List.take ((l.length + 1) * sz) cur).drop ((l.length + 1) * sz) = [] := List.drop_of_length_le (by rw [List.length_take]; exact Nat.min_le_left _ _)
  rw [h5, List.append_nil]
  have h9 : (List.take ((i + 1) * sz) cur).length = i * sz + (f y).length := by rw [List.length_take, hf, ← h6, Nat.min_eq_left (by omega)]
  rw [List.drop_append, List.drop_of_length_le (by omega), h9, Nat.sub_self, List.drop_zero, List.nil_append]
  have h10 : List.take (i * sz) cur = (l.take i).flatMap f := by rw [flat_take f sz hf, ← htk, List.take_take, Nat.min_eq_left h4]
  rw [h10, List.flatMap_append, List.flatMap_cons, List.append_assoc]
/-- A new row: what stood ahead of i, y, what stood from i on. -/
theorem ins_row2 {α : Type} {f : α → List Value} {sz : Nat} (hf : ∀ x, (f x).length = sz) {X : List Value} {l : List α} {i C : Nat} (y : α) (hi : i ≤ l.length) (hl : l.length + 1 ≤ C) (hX : X.length = C * sz) (hT : X.take (i * sz) = (l.take i).flatMap f) :
    i * sz + (f y).length ≤ X.length ∧ (spl X (i * sz) (f y)).length = C * sz ∧ (i + 1) * sz + ((l.drop i).flatMap f).length ≤ C * sz ∧
    (spl (spl X (i * sz) (f y)) ((i + 1) * sz) ((l.drop i).flatMap f)).take ((l.length + 1) * sz) = (l.take i ++ y :: l.drop i).flatMap f := by
  have h1 : ((l.drop i).flatMap f).length = (l.length - i) * sz := by rw [flat_len f sz hf, List.length_drop]
  have h2 : (i + 1) * sz + (l.length - i) * sz = (l.length + 1) * sz := by rw [← Nat.add_mul]; congr 1; omega
  have h3 : (l.length + 1) * sz ≤ C * sz := Nat.mul_le_mul_right _ (by omega)
  have h6 : (i + 1) * sz = i * sz + sz := by rw [Nat.add_mul]; omega
  have h7 : i * sz + (f y).length ≤ X.length := by rw [hf, ← h6, hX]; exact Nat.mul_le_mul_right _ (by omega)
  have hL : (spl X (i * sz) (f y)).length = C * sz := by rw [spl_len _ _ _ h7, hX]
  have h8 : (i + 1) * sz + ((l.drop i).flatMap f).length ≤ C * sz := by rw [h1, h2]; exact h3
  refine ⟨h7, hL, h8, ?_⟩
  have hA := spl_take (spl X (i * sz) (f y)) ((i + 1) * sz) ((l.drop i).flatMap f) ((l.length + 1) * sz) (by rw [h1, h2]; exact Nat.le_refl _) (by rw [hL]; exact h8)
  have hB := spl_take X (i * sz) (f y) ((i + 1) * sz) (by rw [hf, h6]; exact Nat.le_refl _) h7
  have h5 : (List.take ((l.length + 1) * sz) (spl X (i * sz) (f y))).drop ((l.length + 1) * sz) = [] := List.drop_of_length_le (by rw [List.length_take]; exact Nat.min_le_left _ _)
  have h9 : (List.take ((i + 1) * sz) X).drop (i * sz + sz) = [] := List.drop_of_length_le (by rw [List.length_take, h6]; exact Nat.min_le_left _ _)
  rw [hA, h1, h2, h5, List.append_nil, hB, hf, h9, List.append_nil, hT, List.flatMap_append, List.flatMap_cons, List.append_assoc]
theorem spl_nil (l : List Value) (o : Nat) : spl l o [] = l := by simp [spl]

section
variable {P : Program} {w : World}

theorem run_store_row (g o : Nat) (t : TypeId) (vs cur : List Value) (hg : w.heap[g]? = some (.cells cur.toArray t (0, 0))) (hl : o + vs.length ≤ cur.length) (h1 : ∀ v ∈ vs, v.oneCell' = true) :
    (storeCells ⟨g, o, none⟩ vs).run P w = .ok () (w.setRow g (spl cur o vs).toArray) := by
  have h := run_storeCells_at (P := P) g o t vs 0 cur.toArray w hg (by simpa using hl) h1
  simpa [spl] using h

/-- copy(d, s), whatever the elements' size. -/
theorem run_copy_n (dT sT ty e : TypeId) (sz : Nat) (hu : P.underlying dT = some (.slice e)) (hsz : (P.info? e).map (·.size) = some sz)
    (dp sp : Option Addr) (dLen dCap sLen sCap g o : Nat) (t : TypeId) (cur cs : List Value) (hg : w.heap[g]? = some (.cells cur.toArray t (0, 0)))
    (hn : cs.length = Nat.min sLen dLen * sz) (hd : 0 < cs.length → dp = some ⟨g, o, none⟩) (hs : ∀ j v, cs[j]? = some v → ∃ b off, sp = some ⟨b, off, none⟩ ∧ w.cell? ⟨b, off + j, none⟩ = some v)
    (hfit : o + cs.length ≤ cur.length) (h1 : ∀ v ∈ cs, v.oneCell' = true) :
    (Builtin.copy_ #[dT, sT] ty #[.slice dp dLen dCap, .slice sp sLen sCap]).run P w = .ok (goInt (Nat.min sLen dLen)) (w.setRow g (spl cur o cs).toArray) := by
  obtain ⟨i, hi, hi2⟩ := Option.map_eq_some_iff.1 hsz
  have hset : w.setRow g cur.toArray = w := setRow_self w g _ t _ hg
  rcases Nat.eq_zero_or_pos cs.length with h0 | h0
  · obtain rfl : cs = [] := List.eq_nil_of_length_eq_zero h0
    rw [spl_nil, hset]
    have hz : Nat.min sLen dLen * i.size = 0 := by rw [hi2]; simpa using hn.symm
    have hf : ∀ x : Option Addr, (Builtin.firstCells i.size (Nat.min sLen dLen) (.slice x sLen sCap)).run P w = .ok #[] w := by
      intro x
      cases x with
      | none => simp [Builtin.firstCells]
      | some x => exact run_firstCells_some w i.size _ x _ _ [] (by simpa using hz.symm) (by intro j v hj; simp at hj)
    cases dp with
    | none => simp [Builtin.copy_, run_underlying hu, sizeOf, typeInfo, hi, Builtin.lenOf, hf]
    | some d => simp [Builtin.copy_, run_underlying hu, sizeOf, typeInfo, hi, Builtin.lenOf, hf, storeCells]
  · obtain rfl := hd h0
    obtain ⟨b, off, rfl, _⟩ := hs 0 _ (List.getElem?_eq_getElem h0)
    have hf := run_firstCells_some (P := P) w i.size (Nat.min sLen dLen) ⟨b, off, none⟩ sLen sCap cs (by rw [hi2]; exact hn) (fun j v hj => by
      obtain ⟨b', off', he, hc⟩ := hs j v hj
      injection he with he
      injection he with h1 h2
      subst h1 h2
      rwa [add_flat'])
    have hst := run_store_row (P := P) (w := w) g o t cs cur hg hfit h1
    simp [Builtin.copy_, run_underlying hu, sizeOf, typeInfo, hi, Builtin.lenOf, hf, hst]

/-- append(s, make([]T, m)...): where it must grow. -/
theorem run_append_zeros (t u ty e : TypeId) (i : TypeInfo) (z : Value) (ht : P.underlying t = some (.slice e)) (hu : P.underlying u = some (.int .i64)) (hi : P.info? e = some i) (hz : i.zero = some z) (hzs : z.cells.size = i.size)
    (g o n cap m : Nat) (M : Int) (hM : M = m) (olds : List Value) (hlo : olds.length = n * i.size) (holds : ∀ j v, olds[j]? = some v → w.cell? ⟨g, o + j, none⟩ = some v) (hm : 0 < m * i.size)
    (hg : cap < n + m) (hb0 : 0 < i.bytes) (h63 : n + m ≤ 140737488355328) (hbytes : (n + m) * i.bytes ≤ 140737488355328) (hmb : m * i.bytes ≤ 281474976710656) :
    ∃ C, n + m ≤ C ∧ C ≤ maxLen ∧ (Builtin.append_ #[t, u] ty #[.slice (some ⟨g, o, none⟩) n cap, .int .i64 M]).run P w =
      .ok (.slice (some ⟨w.heap.size, 0, none⟩) (n + m) C) (w.drew.alloc (.cells (olds ++ (Builtin.zeroCells z.cells (C - n)).toList).toArray e)) := by
  subst hM
  refine ⟨grownCap w (n + m) cap e, grownCap_ge w (n + m) cap e, grownCap_le_maxLen w (n + m) cap e (by simp only [maxLen]; omega), ?_⟩
  have hge := grownCap_ge w (n + m) cap e
  have hn : ¬ (n + m ≤ cap) := by omega
  have hfit := growslice_fits (bytes := i.bytes) hg hbytes
  have h63' : ¬ (9223372036854775807 < ((n : Int) + (m : Int))) := by omega
  have h48' : ¬ (281474976710656 < Builtin.nextslicecap (n + m) cap * i.bytes) := by omega
  have hw : IntKind.i64.wrap (m : Int) = m := by rw [IntKind.wrap_i64]; omega
  have hm' : ¬ (m * i.size = 0) := by omega
  have hmb' : ¬ (281474976710656 < (m : Int) * (i.bytes : Int)) := by
    have : ((m * i.bytes : Nat) : Int) ≤ 281474976710656 := by omega
    rw [Int.natCast_mul] at this
    omega
  have hml : ¬ ((m : Int) < 0) := by omega
  have hfo := run_firstCells_some (P := P) w.drew i.size n ⟨g, o, none⟩ n cap olds hlo (fun j v hj => by rw [add_flat']; simpa using holds j v hj)
  have hcells : Builtin.zeroCells z.cells m ++ Builtin.zeroCells z.cells (grownCap w (n + m) cap e - (n + m)) = Builtin.zeroCells z.cells (grownCap w (n + m) cap e - n) := by
    apply Array.ext
    · simp only [Array.size_append, size_zeroCells]
      rw [← Nat.add_mul]
      congr 1
      omega
    · intro k h1 h2
      simp only [Builtin.zeroCells, Array.getElem_append, Array.size_map, Array.size_range, Array.getElem_map, Array.getElem_range]
      split
      · rfl
      · congr 1
        have : k - m * z.cells.size + m * z.cells.size = k := by omega
        rw [← this, Nat.add_mul_mod_self_right]
        rw [this]
  have hz' : (Builtin.zeroCells z.cells (grownCap w (n + m) cap e - n)).toList = (Builtin.zeroCells z.cells m).toList ++ (Builtin.zeroCells z.cells (grownCap w (n + m) cap e - (n + m))).toList := by rw [← hcells]; simp
  rw [hz']
  unfold grownCap
  simp [Builtin.append_, run_underlying ht, run_underlying hu, sizeOf, typeInfo, zeroValue, hi, hz, hw, hml, hmb', hm', asInt, asIntOf, hn, h63', h48', Question.forced, hfo, newRow]
  congr 2
  apply Array.ext'
  simp

/-- append(s, x...) where there is room, s at the head of a row. -/
theorem run_append_room_n (t ty e : TypeId) (i : TypeInfo) (ht : P.underlying t = some (.slice e)) (hi : P.info? e = some i)
    (g n cap m c : Nat) (sp : Option Addr) (et : TypeId) (cur news : List Value) (hg : w.heap[g]? = some (.cells cur.toArray et (0, 0))) (hn : news.length = m * i.size)
    (hs : ∀ j v, news[j]? = some v → ∃ b off, sp = some ⟨b, off, none⟩ ∧ w.cell? ⟨b, off + j, none⟩ = some v) (hroom : n + m ≤ cap) (hfit : n * i.size + news.length ≤ cur.length) (h1 : ∀ v ∈ news, v.oneCell' = true) :
    (Builtin.append_ #[t, t] ty #[.slice (some ⟨g, 0, none⟩) n cap, .slice sp m c]).run P w = .ok (.slice (some ⟨g, 0, none⟩) (n + m) cap) (w.setRow g (spl cur (n * i.size) news).toArray) := by
  have hst := run_store_row (P := P) (w := w) g (n * i.size) et news cur hg hfit h1
  have hf : (Builtin.firstCells i.size m (.slice sp m c)).run P w = .ok news.toArray w := by
    cases sp with
    | none =>
      have : news = [] := by
        rcases Nat.eq_zero_or_pos news.length with h0 | h0
        · exact List.eq_nil_of_length_eq_zero h0
        · obtain ⟨_, _, he, _⟩ := hs 0 _ (List.getElem?_eq_getElem h0)
          cases he
      subst this
      simp [Builtin.firstCells]
    | some ad => exact run_firstCells_some w i.size m ad m c news hn (fun j v hj => by
        obtain ⟨b', off', he, hc⟩ := hs j v hj
        injection he with he
        subst he
        rwa [add_flat'])
  have ha : (⟨g, 0, none⟩ : Addr).add (n * i.size) = ⟨g, n * i.size, none⟩ := add_flat _ _
  simp [Builtin.append_, run_underlying ht, sizeOf, typeInfo, hi, Builtin.lenOf, hroom, hf, ha, hst]

theorem zeros_row (t u ty e : TypeId) (i : TypeInfo) (z : Value) (ht : P.underlying t = some (.slice e)) (hu : P.underlying u = some (.int .i64)) (hi : P.info? e = some i) (hz : i.zero = some z) (hzs : z.cells.size = i.size)
    (g o n cap m : Nat) (M : Int) (hM : M = m) (olds : List Value) (hlo : olds.length = n * i.size) (holds : ∀ j v, olds[j]? = some v → w.cell? ⟨g, o + j, none⟩ = some v) (hm : 0 < m * i.size)
    (hg : cap < n + m) (hb0 : 0 < i.bytes) (h63 : n + m ≤ 140737488355328) (hbytes : (n + m) * i.bytes ≤ 140737488355328) (hmb : m * i.bytes ≤ 281474976710656) :
    ∃ (C : Nat) (w3 : World) (X : List Value), n + m ≤ C ∧ C ≤ maxLen ∧ (Builtin.append_ #[t, u] ty #[.slice (some ⟨g, o, none⟩) n cap, .int .i64 M]).run P w = .ok (.slice (some ⟨w.heap.size, 0, none⟩) (n + m) C) w3 ∧
      w3.heap[w.heap.size]? = some (.cells X.toArray e (0, 0)) ∧ Below w.heap.size w w3 ∧ X.length = C * i.size ∧ X.take (n * i.size) = olds := by
  obtain ⟨C, h1, h2, h3⟩ := run_append_zeros (P := P) (w := w) t u ty e i z ht hu hi hz hzs g o n cap m M hM olds hlo holds hm hg hb0 h63 hbytes hmb
  refine ⟨C, _, _, h1, h2, h3, heap_alloc_new w.drew _, (Below.refl _ _).drew.alloc (Nat.le_refl _) _, ?_, ?_⟩
  · rw [List.length_append, hlo, Array.length_toList, size_zeroCells, hzs, ← Nat.add_mul]
    congr 1
    omega
  · rw [List.take_append_of_le_length (by omega), List.take_of_length_le (by omega)]

/-- clear(s): zero cells. -/
theorem run_clear_row (t ty e : TypeId) (i : TypeInfo) (z : Value) (ht : P.underlying t = some (.slice e)) (hi : P.info? e = some i) (hz : i.zero = some z) (h1 : ∀ v ∈ z.cells, v.oneCell' = true) (hzs : 0 < z.cells.size)
    (g o n c : Nat) (sp : Option Addr) (et : TypeId) (cur : List Value) (hg : w.heap[g]? = some (.cells cur.toArray et (0, 0))) (hsp : 0 < n → sp = some ⟨g, o, none⟩) (hfit : o + n * z.cells.size ≤ cur.length) :
    (Builtin.clear_ #[t] ty #[.slice sp n c]).run P w = .ok (.tuple #[]) (w.setRow g (spl cur o (Builtin.zeroCells z.cells n).toList).toArray) := by
  have hset : w.setRow g cur.toArray = w := setRow_self w g _ et _ hg
  rcases Nat.eq_zero_or_pos n with rfl | h0
  · have : (Builtin.zeroCells z.cells 0).toList = [] := by simp [Builtin.zeroCells]
    rw [this, spl_nil, hset]
    cases sp <;> simp [Builtin.clear_, run_underlying ht]
  · obtain rfl := hsp h0
    have hl : (Builtin.zeroCells z.cells n).toList.length = n * z.cells.size := by simp [size_zeroCells]
    have hst := run_store_row (P := P) (w := w) g o et (Builtin.zeroCells z.cells n).toList cur hg (by rw [hl]; exact hfit) (fun v hv => by
      simp only [Builtin.zeroCells, Array.toList_map, List.mem_map] at hv
      obtain ⟨k, hk, rfl⟩ := hv
      have hlt : k % z.cells.size < z.cells.size := Nat.mod_lt _ hzs
      rw [getElem!_pos z.cells _ hlt]
      exact h1 _ (Array.getElem_mem hlt))
    have hn : ∃ m, n = m + 1 := ⟨n - 1, by omega⟩
    obtain ⟨m, rfl⟩ := hn
    simp [Builtin.clear_, run_underlying ht, zeroValue, typeInfo, hi, hz, hst]

end

section
variable {P : Program} {w : World} {ops : Array Oper} {rest : List Oper} {o : Oper} {a : Act} {Q : Exit → Act → World → Prop} {K : Act → World → Prop} {E : Prop}

theorem step_bi {bi : Builtin} {x y : Operand} {t u : TypeId} (hgd : o.guard = none) (ho : o.op = .call { callee := .builtin bi, args := #[x, y], argTypes := #[t, u] })
    (h : Oper.wp P o a w K Q) : if Region.wanted o (yielded ops a.tmps) = true then Oper.wp P o a w K Q else E := by
  have hw : Region.wanted o (yielded ops a.tmps) = true := by simp [Region.wanted, hgd]
  rw [if_pos hw]
  exact h
theorem wp_copy_run {x y : Operand} {t u : TypeId} (ho : o.op = .call { callee := .builtin .copy, args := #[x, y], argTypes := #[t, u] }) {v1 v2 v : Value} {w' : World} (hx : a.eval x = v1) (hy : a.eval y = v2)
    (hrun : (Builtin.copy_ #[t, u] o.type #[v1, v2]).run P w = .ok v w') (h : K (a.put o.dst v) w') : Oper.wp P o a w K Q := by
  unfold Oper.wp
  simp [execOp, ho, resolve, invoke, builtin, hx, hy, hrun, Result.andThen]
  exact h
theorem wp_append_run {x y : Operand} {t u : TypeId} (ho : o.op = .call { callee := .builtin .append, args := #[x, y], argTypes := #[t, u] }) {v1 v2 v : Value} {w' : World} (hx : a.eval x = v1) (hy : a.eval y = v2)
    (hrun : (Builtin.append_ #[t, u] o.type #[v1, v2]).run P w = .ok v w') (h : K (a.put o.dst v) w') : Oper.wp P o a w K Q := by
  unfold Oper.wp
  simp [execOp, ho, resolve, invoke, builtin, hx, hy, hrun, Result.andThen]
  exact h
theorem wp_clear_run {x : Operand} {t : TypeId} (ho : o.op = .call { callee := .builtin .clear, args := #[x], argTypes := #[t] }) {v1 v : Value} {w' : World} (hx : a.eval x = v1)
    (hrun : (Builtin.clear_ #[t] o.type #[v1]).run P w = .ok v w') (h : K (a.put o.dst v) w') : Oper.wp P o a w K Q := by
  unfold Oper.wp
  simp [execOp, ho, resolve, invoke, builtin, hx, hrun, Result.andThen]
  exact h
theorem wpList_copy_run {x y : Operand} {t u : TypeId} (hgd : o.guard = none) (ho : o.op = .call { callee := .builtin .copy, args := #[x, y], argTypes := #[t, u] }) {v1 v2 v : Value} {w' : World} (hx : a.eval x = v1) (hy : a.eval y = v2)
    (hrun : (Builtin.copy_ #[t, u] o.type #[v1, v2]).run P w = .ok v w') (h : wpList P ops Q rest (a.put o.dst v) w') : wpList P ops Q (o :: rest) a w :=
  wpList_plain hgd fun _ hK => wp_copy_run ho hx hy hrun (hK _ _ h)
theorem wpList_append_run {x y : Operand} {t u : TypeId} (hgd : o.guard = none) (ho : o.op = .call { callee := .builtin .append, args := #[x, y], argTypes := #[t, u] }) {v1 v2 v : Value} {w' : World} (hx : a.eval x = v1) (hy : a.eval y = v2)
    (hrun : (Builtin.append_ #[t, u] o.type #[v1, v2]).run P w = .ok v w') (h : wpList P ops Q rest (a.put o.dst v) w') : wpList P ops Q (o :: rest) a w :=
  wpList_plain hgd fun _ hK => wp_append_run ho hx hy hrun (hK _ _ h)
theorem wpList_clear_run {x : Operand} {t : TypeId} (hgd : o.guard = none) (ho : o.op = .call { callee := .builtin .clear, args := #[x], argTypes := #[t] }) {v1 v : Value} {w' : World} (hx : a.eval x = v1)
    (hrun : (Builtin.clear_ #[t] o.type #[v1]).run P w = .ok v w') (h : wpList P ops Q rest (a.put o.dst v) w') : wpList P ops Q (o :: rest) a w :=
  wpList_plain hgd fun _ hK => wp_clear_run ho hx hrun (hK _ _ h)
end

section
variable {w : World} {g : Nat} {t : TypeId} {cur cs : List Value}
theorem row_set (hg : w.heap[g]? = some (.cells cur.toArray t (0, 0))) : (w.setRow g cs.toArray).heap[g]? = some (.cells cs.toArray t (0, 0)) := setRow_heap w g _ _ t _ hg
theorem row_other {k : Nat} (hk : k ≠ g) : (w.setRow g cs.toArray).heap[k]? = w.heap[k]? := by
  simp only [World.setRow, Array.getElem?_modify]
  rw [if_neg (fun e => hk e.symm)]
theorem row_size : (w.setRow g cs.toArray).heap.size = w.heap.size := by simp [World.setRow]
theorem gb_drew (w : World) (row : Option Nat) : w.grownBy w.drew row := ⟨rfl, rfl, rfl, Nat.le_refl _, fun _ _ _ => rfl⟩
theorem row_grown (w : World) (g : Nat) (cs : List Value) : w.grownBy (w.setRow g cs.toArray) (some g) :=
  ⟨rfl, rfl, rfl, by rw [row_size]; exact Nat.le_refl _, fun k _ hk => row_other (fun e => hk (by rw [e]))⟩
end
end Go.Proofs.YtkodkbjmeepbiaaDoor
