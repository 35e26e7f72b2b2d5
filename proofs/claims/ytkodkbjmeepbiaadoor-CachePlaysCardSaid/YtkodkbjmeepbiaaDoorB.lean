/- Words of this claim's own: what a slice reads; what a call owns; flat elements as cells. No condition; no program in sight. -/
import Derived.WalkKit
import Derived.WalkSpells
import Derived.WalkLawsBesides
import Derived.Deep.QuietTactic
import Derived.BigQuiet
import Derived.Maps.AppendAt
import Derived.Deep.LoopGhost
set_option linter.unusedVariables false
set_option linter.unusedSimpArgs false
namespace Go.Proofs.YtkodkbjmeepbiaaDoor
open Go.RowKit

/-! ### Hiding a fact from the walk -/
theorem hide {p : Prop} (h : p) : Hid p := h
theorem unhide {p : Prop} (h : Hid p) : p := h

/-! ### A slice that reads as a list of cells -/
/-- The cells at A read cs, in blocks below B. -/
def At (w : World) (B : Nat) (A : Option Addr) (cs : List Value) : Prop :=
  ∀ j u, cs[j]? = some u → ∃ b off, A = some ⟨b, off, none⟩ ∧ b < B ∧ w.cell? ⟨b, off + j, none⟩ = some u
/-- The value v is a slice of n elements of sz cells each that reads cs. -/
def Sl (w : World) (B sz : Nat) (v : Value) (n : Nat) (cs : List Value) : Prop :=
  ∃ A c, v = .slice A n c ∧ n ≤ c ∧ c ≤ maxLen ∧ cs.length = n * sz ∧ At w B A cs

theorem blk_add' (a : Addr) (n : Nat) : (a.add n).block = a.block := by unfold Addr.add; split <;> rfl
theorem add_add' (a : Addr) (i j : Nat) : (a.add i).add j = a.add (i + j) := by
  unfold Addr.add
  by_cases hi : i = 0 <;> by_cases hj : j = 0 <;> simp [hi, hj, Nat.add_assoc]
theorem add_flat (g i : Nat) : (⟨g, 0, none⟩ : Addr).add i = ⟨g, i, none⟩ := by unfold Addr.add; split <;> simp_all
theorem add_flat' (g o i : Nat) : (⟨g, o, none⟩ : Addr).add i = ⟨g, o + i, none⟩ := by unfold Addr.add; split <;> simp_all

section
variable {w w' : World} {B B' sz n : Nat} {A : Option Addr} {v : Value} {cs : List Value}
theorem At.keep (h : At w B A cs) (hk : ∀ k, k < B → w'.heap[k]? = w.heap[k]?) : At w' B A cs := fun j u hj => by
  obtain ⟨b, off, rfl, hb, hc⟩ := h j u hj
  exact ⟨b, off, rfl, hb, (World.cell?_of_block (w := w) (w' := w') (a := ⟨b, off + j, none⟩) (hk _ hb)).trans hc⟩
theorem At.below (h : At w B A cs) (hb : Below B w w') : At w' B A cs := h.keep hb.block
theorem At.mono (h : At w B A cs) (hB : B ≤ B') : At w B' A cs := fun j u hj => by
  obtain ⟨b, off, rfl, hb, hc⟩ := h j u hj
  exact ⟨b, off, rfl, by omega, hc⟩
theorem Sl.below (h : Sl w B sz v n cs) (hb : Below B w w') : Sl w' B sz v n cs := by
  obtain ⟨A, c, rfl, h1, h2, h3, h4⟩ := h
  exact ⟨A, c, rfl, h1, h2, h3, h4.below hb⟩
theorem Sl.mono (h : Sl w B sz v n cs) (hB : B ≤ B') : Sl w B' sz v n cs := by
  obtain ⟨A, c, rfl, h1, h2, h3, h4⟩ := h
  exact ⟨A, c, rfl, h1, h2, h3, h4.mono hB⟩
/-- On, in the callee's world. -/
theorem Sl.on (h : Sl w w.heap.size sz v n cs) (hb : Below w.heap.size w w') : Sl w' w'.heap.size sz v n cs := (h.below hb).mono hb.size
theorem Sl.nil (w : World) (B sz : Nat) : Sl w B sz (.slice none 0 0) 0 [] :=
  ⟨none, 0, rfl, Nat.le_refl _, by simp [maxLen], by simp, fun j u hj => by simp at hj⟩
theorem At.of_own {base : Nat} {e : TypeId} {c : Nat} (h : w.ownsRow base e sz (.slice A n c) n cs) : At w w.heap.size A cs := fun j u hj => by
  rcases h.2 with ⟨h0, h1⟩ | ⟨g, cap, cur, hv, hg, hh, _⟩
  · have hl : cs.length = 0 := by rw [h.1, h1, Nat.zero_mul]
    rw [List.eq_nil_of_length_eq_zero hl] at hj
    simp at hj
  · have hA : A = some ⟨g, 0, none⟩ := by injection hv
    subst hA
    have hc := h.cells (g := g) rfl j u hj
    rw [add_flat'] at hc
    exact ⟨_, _, rfl, (Array.getElem?_eq_some_iff.1 hh).1, hc⟩
theorem Sl.of_own {base : Nat} {e : TypeId} (h : w.ownsRow base e sz v n cs) : Sl w w.heap.size sz v n cs := by
  have h' := h
  rcases h.2 with ⟨rfl, rfl⟩ | ⟨g, cap, cur, rfl, _, _, h3, h4, _⟩
  · exact ⟨none, 0, rfl, Nat.le_refl _, by simp [maxLen], h.1, At.of_own h'⟩
  · exact ⟨_, cap, rfl, h3, h4, h.1, At.of_own h'⟩
end

/-- A literal slice: a new block. -/
theorem Sl.box (w : World) (e : TypeId) (sz n : Nat) (cs : List Value) (hl : cs.length = n * sz) (hn : n ≤ 1000000) : Sl (w.alloc (.cells cs.toArray e)) (w.alloc (.cells cs.toArray e)).heap.size sz (.slice (some ⟨w.heap.size, 0, none⟩) n n) n cs :=
  ⟨_, n, rfl, Nat.le_refl _, by simp only [maxLen]; omega, hl, fun j u hj => ⟨_, _, rfl, by simp, by
    rw [Nat.zero_add, cell_of_row _ _ _ _ _ _ (heap_alloc_new w _)]
    simpa using hj⟩⟩

/-! ### Flat elements -/
section
variable {α : Type} (f : α → List Value) (sz : Nat)
theorem flat_len (hf : ∀ x, (f x).length = sz) (l : List α) : (l.flatMap f).length = l.length * sz := by
  induction l with
  | nil => simp
  | cons a l ih => simp [hf, ih, Nat.add_mul]; omega
theorem flat_get (hf : ∀ x, (f x).length = sz) (l : List α) (k j : Nat) (hk : k < l.length) (hj : j < sz) : (l.flatMap f)[k * sz + j]? = (f l[k])[j]? := by
  induction l generalizing k with
  | nil => simp at hk
  | cons a l ih =>
    cases k with
    | zero => simp only [List.flatMap_cons, Nat.zero_mul, Nat.zero_add, List.getElem_cons_zero]; rw [List.getElem?_append_left (by rw [hf]; exact hj)]
    | succ k =>
      simp only [List.flatMap_cons, List.getElem_cons_succ]
      rw [List.getElem?_append_right (by rw [hf, Nat.add_mul]; omega), hf, show (k + 1) * sz + j - sz = k * sz + j by rw [Nat.add_mul]; omega]
      exact ih k (by simpa using hk)
theorem flat_drop (hf : ∀ x, (f x).length = sz) (l : List α) (k : Nat) : (l.drop k).flatMap f = (l.flatMap f).drop (k * sz) := by
  induction k generalizing l with
  | zero => simp
  | succ k ih =>
    cases l with
    | nil => simp
    | cons a l =>
      have h1 : List.drop ((k + 1) * sz) (f a) = [] := List.drop_of_length_le (by rw [hf, Nat.add_mul]; omega)
      have h2 : (k + 1) * sz - (f a).length = k * sz := by rw [hf, Nat.add_mul]; omega
      rw [List.drop_succ_cons, List.flatMap_cons, List.drop_append, h1, h2, List.nil_append, ih]
theorem flat_take (hf : ∀ x, (f x).length = sz) (l : List α) (k : Nat) : (l.take k).flatMap f = (l.flatMap f).take (k * sz) := by
  induction k generalizing l with
  | zero => simp
  | succ k ih =>
    cases l with
    | nil => simp
    | cons a l =>
      have h1 : List.take ((k + 1) * sz) (f a) = f a := List.take_of_length_le (by rw [hf, Nat.add_mul]; omega)
      have h2 : (k + 1) * sz - (f a).length = k * sz := by rw [hf, Nat.add_mul]; omega
      rw [List.take_succ_cons, List.flatMap_cons, List.flatMap_cons, List.take_append, h1, h2, ih]
end
/-- Cell j of element k. -/
theorem At.get {α : Type} {f : α → List Value} {sz : Nat} (hf : ∀ x, (f x).length = sz) {w : World} {B : Nat} {A : Option Addr} {l : List α} (h : At w B A (l.flatMap f)) {k : Nat} (hk : k < l.length) (hs : 0 < sz) :
    ∃ b off, A = some ⟨b, off, none⟩ ∧ b < B ∧ ∀ j u, j < sz → (f l[k])[j]? = some u → w.cell? ⟨b, off + k * sz + j, none⟩ = some u := by
  have h0 : (f l[k])[0]? = some ((f l[k])[0]'(by rw [hf]; exact hs)) := List.getElem?_eq_getElem _
  obtain ⟨b, off, rfl, hb, _⟩ := h (k * sz + 0) _ ((flat_get f sz hf l k 0 hk hs).trans h0)
  refine ⟨b, off, rfl, hb, fun j u hj hu => ?_⟩
  obtain ⟨b', off', he, _, hc⟩ := h (k * sz + j) u ((flat_get f sz hf l k j hk hj).trans hu)
  injection he with he
  injection he with he1 he2
  subst he1 he2
  rw [Nat.add_assoc]
  exact hc

/-! ### A row of the call's own -/
theorem own_base {w : World} {base : Nat} {e : TypeId} {size n : Nat} {v : Value} {xs : List Value} (h : w.ownsRow base e size v n xs) (k : Nat) (hk : v.ownBlock = some k) : base ≤ k := by
  rcases h.2 with ⟨rfl, _⟩ | ⟨g, cap, cur, rfl, hb, _⟩
  · simp [Value.ownBlock] at hk
  · have : g = k := by simpa [Value.ownBlock] using hk
    omega
theorem own_lt {w : World} {base : Nat} {e : TypeId} {size n : Nat} {v : Value} {xs : List Value} (h : w.ownsRow base e size v n xs) (k : Nat) (hk : v.ownBlock = some k) : k < w.heap.size := (h.lt k hk).2
theorem own_form {w : World} {base : Nat} {e : TypeId} {size n : Nat} {v : Value} {xs : List Value} (h : w.ownsRow base e size v n xs) : ∃ A c, v = .slice A n c ∧ n ≤ c := by
  rcases h.2 with ⟨rfl, rfl⟩ | ⟨g, cap, cur, rfl, _, _, h3, _⟩
  · exact ⟨none, 0, rfl, Nat.le_refl _⟩
  · exact ⟨_, cap, rfl, h3⟩
theorem own_cap {w : World} {base : Nat} {e : TypeId} {size n c : Nat} {A : Option Addr} {xs : List Value} (h : w.ownsRow base e size (.slice A n c) n xs) : c ≤ 9223372036854775807 := by
  rcases h.2 with ⟨h1, _⟩ | ⟨g, cap, cur, h1, _, _, _, h4, _⟩
  · injection h1 with _ _ h3
    omega
  · injection h1 with _ _ h3
    unfold maxLen at h4
    omega
/-- A shorter slice over the same row. -/
theorem own_cut {w : World} {base : Nat} {e : TypeId} {size n c m : Nat} {A : Option Addr} {xs : List Value} (h : w.ownsRow base e size (.slice A n c) n xs) (hm : m ≤ n) : w.ownsRow base e size (.slice A m c) m (xs.take (m * size)) := by
  have hle : m * size ≤ n * size := Nat.mul_le_mul_right _ hm
  refine ⟨by rw [List.length_take, h.1]; omega, ?_⟩
  rcases h.2 with ⟨h1, h2⟩ | ⟨g, cap, cur, h1, h2, h3, h4, h5, h6, h7⟩
  · injection h1 with h1 h3 h4
    subst h1 h4
    exact .inl ⟨by rw [show m = 0 by omega], by omega⟩
  · injection h1 with h1 _ h8
    subst h1 h8
    exact .inr ⟨g, c, cur, rfl, h2, h3, by omega, h5, h6, by rw [← h7, List.take_take, Nat.min_eq_left hle]⟩
theorem own_below {w w1 : World} {base : Nat} {e : TypeId} {size n : Nat} {v : Value} {xs : List Value} (h : w.ownsRow base e size v n xs) (hb : Below w.heap.size w w1) : w1.ownsRow base e size v n xs :=
  h.kept (row := none) ⟨hb.os, hb.tape, hb.output, hb.size, fun i hi _ => hb.block i hi⟩ (by cases v.ownBlock <;> simp)
theorem own_mono {w : World} {base base' : Nat} {e : TypeId} {size n : Nat} {v : Value} {xs : List Value} (h : w.ownsRow base e size v n xs) (hb : base' ≤ base) : w.ownsRow base' e size v n xs := by
  refine ⟨h.1, ?_⟩
  rcases h.2 with h2 | ⟨g, cap, cur, hv, hg, r⟩
  · exact .inl h2
  · exact .inr ⟨g, cap, cur, hv, Nat.le_trans hb hg, r⟩
theorem below_then {B : Nat} {w w1 w2 : World} (h : Below B w w1) (hB : B ≤ w1.heap.size) (k : Below w1.heap.size w1 w2) : Below B w w2 :=
  h.trans ⟨k.os, k.tape, k.output, k.size, fun i hi => k.block i (Nat.lt_of_lt_of_le hi hB)⟩
theorem bl_on {w w1 w2 : World} (h : Below w.heap.size w w1) (k : Below w1.heap.size w1 w2) : Below w.heap.size w w2 := below_then h h.size k
theorem bl_al {w w1 : World} (h : Below w.heap.size w w1) (o : Obj) : Below w.heap.size w (w1.alloc o) := h.alloc h.size o
theorem bl_dr {B : Nat} {w w1 : World} (h : Below B w w1) (n : Nat) : Below B w (w1.drewN n) := ⟨h.os, h.tape, h.output, h.size, h.block⟩

/-- append(v, y): the walk stands behind 'at_builtin'; the variadic's box has been laid. -/
theorem app_one {P : Program} {ops : Array Oper} {rest : List Oper} {o : Oper} {a : Act} {Q : Exit → Act → World → Prop} {w0 W : World} (base : Nat) (hgd : o.guard = none) (s x : Operand) (t e : TypeId) (z : Value) (size bytes : Nat)
    (ho : o.op = .call { callee := .builtin .append, args := #[s, x], argTypes := #[t, t] })
    (ht : P.underlying t = some (.slice e)) (hinfo : (P.info? e).map (fun i => (i.zero, i.size, i.bytes)) = some (some z, size, bytes)) (hz : z.cells.size = size) (hs0 : 0 < size) (hb0 : 0 < bytes)
    (v : Value) (n : Nat) (xs ys : List Value) (hs : a.eval s = v) (hx : a.eval x = .slice (some ⟨W.heap.size, 0, none⟩) 1 1) (hy : ys.length = size) (h1 : ∀ u ∈ ys, u.oneCell' = true)
    (HO : W.ownsRow base e size v n xs) (HB : Below base w0 W) (hbase : base ≤ W.heap.size) (hl : (n + 1) * bytes ≤ 140737488355328)
    (h : ∀ v1 w1, w1.ownsRow base e size v1 (n + 1) (xs ++ ys) → Below base w0 w1 → W.grownBy w1 v.ownBlock → (v1.ownBlock = v.ownBlock ∨ ∃ b, v1.ownBlock = some b ∧ W.heap.size ≤ b) → wpList P ops Q rest (a.put o.dst v1) w1) :
    wpList P ops Q (o :: rest) a (W.alloc (.cells ys.toArray e)) := by
  obtain ⟨i0, hi, hzz⟩ := Option.map_eq_some_iff.1 hinfo
  simp only [Prod.mk.injEq] at hzz
  obtain ⟨hz0, hz1, hz2⟩ := hzz
  have hlen : n + 1 ≤ 140737488355328 := Nat.le_trans (Nat.le_mul_of_pos_right _ hb0) hl
  refine wpList_append_own_at (W.alloc (.cells ys.toArray e)) hgd s x t ho base e i0 z size bytes ht hi hz0 hz1 hz2 hz hs0 v n xs hs (HO.alloc _) ⟨W.heap.size, 0, none⟩ 1 1 ys hx (by rw [hy, Nat.one_mul])
    (fun j u hj => by rw [add_flat, cell_of_row _ _ _ _ _ _ (heap_alloc_new W _)]; simpa using hj) h1 (by simp only [maxLen]; omega) hl (by simp; omega) ?_
  intro v1 w1 hown hg _ hat
  refine h v1 w1 hown ((HB.alloc hbase _).grown hg (by simp; omega) (own_base HO)) (World.grownBy.trans (World.grownBy_alloc W _ _) hg) ?_
  rcases hat with hat | hat
  · exact .inl hat
  · exact .inr ⟨_, hat, by simp⟩

/-! ### Numbers -/
theorem pick_mod (n m : Int) (h0 : 1 ≤ m) (h1 : m ≤ 4294967296) : (wrap64 (n.tmod m + m)).tmod m = n % m := by
  have hlt := Int.tmod_lt_of_pos n (show 0 < m by omega)
  have hge : -m < n.tmod m := by
    rcases Int.le_total 0 n with hn | hn
    · have := Int.tmod_nonneg m hn; omega
    · have h := Int.tmod_lt_of_pos (-n) (show 0 < m by omega)
      rw [Int.neg_tmod] at h
      omega
  have hw : wrap64 (n.tmod m + m) = n.tmod m + m := by unfold wrap64; omega
  rw [hw, Int.tmod_eq_emod_of_nonneg (by omega), Int.add_emod_right]
  have hd : n = m * n.tdiv m + n.tmod m := (Int.mul_tdiv_add_tmod n m).symm
  rw [show n % m = (n.tmod m + m * n.tdiv m) % m by rw [Int.add_comm, ← hd], Int.add_mul_emod_self_left]
theorem and255 (a : Int) (h0 : 0 ≤ a) (h1 : a ≤ 18446744073709551615) : bits .and .u64 a 255 = a % 256 := by
  rw [u64_and a 255 h0 (by omega) (by omega) (by omega)]
  have : a.toNat &&& (255 : Int).toNat = a.toNat % 256 := Nat.and_two_pow_sub_one_eq_mod a.toNat 8
  rw [this]
  omega
theorem cell_al {w : World} {g i : Nat} {v : Value} (h : w.cell? ⟨g, i, none⟩ = some v) (o : Obj) : (w.alloc o).cell? ⟨g, i, none⟩ = some v := by
  rw [World.cell?_alloc_lt _ _ _ (World.block_lt_of_cell? w _ h)]; exact h
/-- Behind a call that leaves what was there: its cells and marks, as rules for the walk. -/
theorem bcell {W w1 : World} (hb : Below W.heap.size W w1) : (∀ b o, b < W.heap.size → w1.cell? ⟨b, o, none⟩ = W.cell? ⟨b, o, none⟩) ∧ (∀ b o, b < W.heap.size → w1.frozen? ⟨b, o, none⟩ = W.frozen? ⟨b, o, none⟩) :=
  ⟨fun b o h => hb.cell (p := ⟨b, o, none⟩) h, fun b o h => hb.frozen (p := ⟨b, o, none⟩) h⟩
/-- Behind a call that leaves what was there: a block known whole, as rules for the walk. -/
theorem blk {W w1 : World} (hb : Below W.heap.size W w1) {g : Nat} {cs : Array Value} {t : TypeId} (h : W.heap[g]? = some (.cells cs t (0, 0))) :
    (∀ i, w1.cell? ⟨g, i, none⟩ = cs[i]?) ∧ (∀ i, w1.frozen? ⟨g, i, none⟩ = false) ∧ g < w1.heap.size := by
  have hlt : g < W.heap.size := (Array.getElem?_eq_some_iff.1 h).1
  have h1 : w1.heap[g]? = some (.cells cs t (0, 0)) := (hb.block g hlt).trans h
  exact ⟨fun i => cell_of_row _ _ _ _ _ _ h1, fun i => by simp [World.frozen?, h1], Nat.lt_of_lt_of_le hlt hb.size⟩
/-- The same behind a call that writes one row of its own. -/
theorem blkg {W w1 : World} {row : Option Nat} (hb : W.grownBy w1 row) {g : Nat} {cs : Array Value} {t : TypeId} (h : W.heap[g]? = some (.cells cs t (0, 0))) (hne : row ≠ some g) : w1.heap[g]? = some (.cells cs t (0, 0)) :=
  (hb.block g (Array.getElem?_eq_some_iff.1 h).1 (fun e => hne e.symm)).trans h
theorem blkb {W w1 : World} {B : Nat} (hb : Below B W w1) {g : Nat} {cs : Array Value} {t : TypeId} (h : W.heap[g]? = some (.cells cs t (0, 0))) (hlt : g < B) : w1.heap[g]? = some (.cells cs t (0, 0)) := (hb.block g hlt).trans h
/-- A block known whole, as rules for the walk. -/
theorem blkw {w1 : World} {g : Nat} {cs : Array Value} {t : TypeId} (h : w1.heap[g]? = some (.cells cs t (0, 0))) :
    (∀ i, w1.cell? ⟨g, i, none⟩ = cs[i]?) ∧ (∀ i, w1.frozen? ⟨g, i, none⟩ = false) ∧ g < w1.heap.size :=
  ⟨fun i => cell_of_row _ _ _ _ _ _ h, fun i => by simp [World.frozen?, h], (Array.getElem?_eq_some_iff.1 h).1⟩
theorem blk_lt {w : World} {g : Nat} {cs : Array Value} {t : TypeId} (h : w.heap[g]? = some (.cells cs t (0, 0))) : g < w.heap.size := (Array.getElem?_eq_some_iff.1 h).1
theorem blk_al {w : World} {g : Nat} {cs : Array Value} {t : TypeId} (h : w.heap[g]? = some (.cells cs t (0, 0))) (o : Obj) : (w.alloc o).heap[g]? = some (.cells cs t (0, 0)) := (heap_alloc_old w o (blk_lt h)).trans h
theorem blk_set {w : World} {g i : Nat} {cs : Array Value} {t : TypeId} (h : w.heap[g]? = some (.cells cs t (0, 0))) (v : Value) : (w.setCell ⟨g, i, none⟩ v).heap[g]? = some (.cells (cs.setIfInBounds i v) t (0, 0)) := by
  simp [World.setCell, Array.getElem?_modify, h]
theorem blk_far {w : World} {g : Nat} {cs : Array Value} {t : TypeId} (h : w.heap[g]? = some (.cells cs t (0, 0))) {a : Addr} (hne : g ≠ a.block) (v : Value) : (w.setCell a v).heap[g]? = some (.cells cs t (0, 0)) := (Below.heap_setCell w a v g hne).trans h
/-- Rows of different kinds are different rows. -/
theorem own_ne_blk {w : World} {base g : Nat} {e t : TypeId} {sz n : Nat} {v : Value} {xs : List Value} {cs : Array Value} (h : w.ownsRow base e sz v n xs) (hg : w.heap[g]? = some (.cells cs t (0, 0))) (hne : e ≠ t) : v.ownBlock ≠ some g := by
  rcases h.2 with ⟨rfl, _⟩ | ⟨g', cap, cur, rfl, _, hh, _⟩
  · simp [Value.ownBlock]
  · intro he
    have : g' = g := by simpa [Value.ownBlock] using he
    subst this
    rw [hh] at hg
    injection hg with hg
    injection hg with _ ht
    exact hne ht
theorem own_ne_lt {w : World} {base g : Nat} {e : TypeId} {sz n : Nat} {v : Value} {xs : List Value} (h : w.ownsRow base e sz v n xs) (hg : g < base) : v.ownBlock ≠ some g := fun e => by have := own_base h g e; omega
theorem own_ne_ge {w : World} {base g : Nat} {e : TypeId} {sz n : Nat} {v : Value} {xs : List Value} (h : w.ownsRow base e sz v n xs) (hg : w.heap.size ≤ g) : v.ownBlock ≠ some g := fun e => by have := own_lt h g e; omega
theorem new0 (w : World) (o : Obj) : (w.alloc o).heap[w.heap.size]? = some o := heap_alloc_new w o
theorem new1 (w : World) (o o1 : Obj) : ((w.alloc o).alloc o1).heap[w.heap.size]? = some o := (heap_alloc_old (w.alloc o) o1 (by simp)).trans (new0 w o)
theorem new1' (w : World) (o o1 : Obj) : ((w.alloc o).alloc o1).heap[w.heap.size + 1]? = some o1 := by have := heap_alloc_new (w.alloc o) o1; simpa using this
theorem new2 (w : World) (o o1 o2 : Obj) : (((w.alloc o).alloc o1).alloc o2).heap[w.heap.size]? = some o := (heap_alloc_old ((w.alloc o).alloc o1) o2 (by simp; omega)).trans (new1 w o o1)
theorem new2' (w : World) (o o1 o2 : Obj) : (((w.alloc o).alloc o1).alloc o2).heap[w.heap.size + 1]? = some o1 := (heap_alloc_old ((w.alloc o).alloc o1) o2 (by simp)).trans (new1' w o o1)
theorem new2'' (w : World) (o o1 o2 : Obj) : (((w.alloc o).alloc o1).alloc o2).heap[w.heap.size + 2]? = some o2 := by have := heap_alloc_new ((w.alloc o).alloc o1) o2; simpa using this
theorem ret_bool {a b : Bool} (h : a = b) : Ending.returned (.bool a) = .returned (.bool b) := by rw [h]
theorem ret_int {k : IntKind} {a b : Int} (h : a = b) : Ending.returned (.int k a) = .returned (.int k b) := by rw [h]
end Go.Proofs.YtkodkbjmeepbiaaDoor
