/- Own laws on append: what is appended may be nil or any slice that can be read; the old slice is a row of the call's own. -/
import Derived.Test.YtkodkbjmeepbiaaDoorS
import Derived.Maps.AppendAt
import Derived.Deep.RegionLaw
set_option linter.unusedVariables false
set_option linter.unusedSimpArgs false
namespace Go.Proofs.YtkodkbjmeepbiaaDoor
open Go.RowKit

theorem run_app {P : Program} (w : World) (base : Nat) (t ty e : TypeId) (i : TypeInfo) (z : Value) (size bytes : Nat) (ht : P.underlying t = some (.slice e)) (hi : P.info? e = some i) (hz : i.zero = some z)
    (hsize : i.size = size) (hby : i.bytes = bytes) (hzs : z.cells.size = size) (hsz : 0 < size)
    (v : Value) (n : Nat) (xs : List Value) (hown : w.ownsRow base e size v n xs) {B : Nat} (x : Value) (m : Nat) (news : List Value) (hx : Sl w B size x m news) (h1 : ∀ u ∈ news, u.oneCell' = true)
    (h63 : n + m ≤ maxLen) (hbytes : (n + m) * bytes ≤ 140737488355328) (hbase : base ≤ w.heap.size) :
    ∃ v' w', (Builtin.append_ #[t, t] ty #[v, x]).run P w = .ok v' w' ∧ w'.ownsRow base e size v' (n + m) (xs ++ news) ∧ w.grownBy w' v.ownBlock ∧ (v'.ownBlock = v.ownBlock ∨ v'.ownBlock = some w.heap.size) := by
  obtain ⟨A, c, rfl, hcc, hm, hl, hat⟩ := hx
  cases A with
  | some ad =>
    obtain ⟨v', w', hr, h2, h3, _, h5⟩ := run_append_own_at (P := P) w base t ty e i z size bytes ht hi hz hsize hby hzs hsz v n xs hown ad m c news hl (fun j u hj => by
      obtain ⟨b, off, he, _, hc⟩ := hat j u hj
      injection he with he
      subst he
      rw [add_flat']
      exact hc) h1 h63 hbytes hbase
    exact ⟨v', w', hr, h2, h3, h5⟩
  | none =>
    have hnil : news = [] := by
      rcases news with _ | ⟨u, r⟩
      · rfl
      · obtain ⟨b, off, he, _⟩ := hat 0 u rfl
        cases he
    subst hnil
    have hm0 : m = 0 := by
      rcases Nat.eq_zero_or_pos m with h | h
      · exact h
      · have h2 := Nat.mul_pos h hsz
        simp at hl
        omega
    subst hm0
    obtain ⟨A', c', rfl, hnc⟩ := own_form hown
    refine ⟨.slice A' n c', w, ?_, by simpa using hown, ⟨rfl, rfl, rfl, Nat.le_refl _, fun _ _ _ => rfl⟩, .inl rfl⟩
    cases A' with
    | none => 
      rcases hown.2 with ⟨hv, h0⟩ | ⟨g, cap, cur, hv, _⟩
      · injection hv with _ e2 e3
        subst e2 e3
        simp [Builtin.append_, run_underlying ht, sizeOf, typeInfo, hi, Builtin.lenOf, Builtin.firstCells, loadCells, loadCellsFrom]
      · cases hv
    | some ad =>
      simp [Builtin.append_, run_underlying ht, sizeOf, typeInfo, hi, Builtin.lenOf, Builtin.firstCells, loadCells, loadCellsFrom, hnc, storeCells]

section
variable {P : Program} (w : World)
theorem wp_app {o : Oper} {a : Act} {K : Act → World → Prop} {Q : Exit → Act → World → Prop} (s x : Operand) (t : TypeId)
    (ho : o.op = .call { callee := .builtin .append, args := #[s, x], argTypes := #[t, t] })
    (base : Nat) (e : TypeId) (z : Value) (size bytes : Nat) (ht : P.underlying t = some (.slice e)) (hinfo : (P.info? e).map (fun i => (i.zero, i.size, i.bytes)) = some (some z, size, bytes)) (hzs : z.cells.size = size) (hsz : 0 < size)
    (v : Value) (n : Nat) (xs : List Value) (hs : a.eval s = v) (hown : w.ownsRow base e size v n xs) {B : Nat} (y : Value) (m : Nat) (news : List Value) (hy : a.eval x = y) (hx : Sl w B size y m news) (h1 : ∀ u ∈ news, u.oneCell' = true)
    (h63 : n + m ≤ 1000000000) (hbytes : (n + m) * bytes ≤ 140737488355328) (hbase : base ≤ w.heap.size)
    (h : ∀ v' w', w'.ownsRow base e size v' (n + m) (xs ++ news) → w.grownBy w' v.ownBlock → (v'.ownBlock = v.ownBlock ∨ v'.ownBlock = some w.heap.size) → K (a.put o.dst v') w') : o.wp P a w K Q := by
  obtain ⟨i0, hi, hzz⟩ := Option.map_eq_some_iff.1 hinfo
  simp only [Prod.mk.injEq] at hzz
  obtain ⟨hz0, hz1, hz2⟩ := hzz
  obtain ⟨v', w', hr, h2, h3, h4⟩ := run_app w base t o.type e i0 z size bytes ht hi hz0 hz1 hz2 hzs hsz v n xs hown y m news hx h1 (by simp only [maxLen]; omega) hbytes hbase
  unfold Oper.wp execOp
  simp only [ho, resolve, invoke, builtin, Sem.run_bind, Sem.run_pure, Result.andThen_ok, List.map_toArray, List.map_cons, List.map_nil, hs, hy, hr]
  exact h v' w' h2 h3 h4
/-- At the list of a plain region's operations. -/
theorem wpl_app {ops : Array Oper} {rest : List Oper} {o : Oper} {a : Act} {Q : Exit → Act → World → Prop} (hgd : o.guard = none) (s x : Operand) (t : TypeId)
    (ho : o.op = .call { callee := .builtin .append, args := #[s, x], argTypes := #[t, t] })
    (base : Nat) (e : TypeId) (z : Value) (size bytes : Nat) (ht : P.underlying t = some (.slice e)) (hinfo : (P.info? e).map (fun i => (i.zero, i.size, i.bytes)) = some (some z, size, bytes)) (hzs : z.cells.size = size) (hsz : 0 < size)
    (v : Value) (n : Nat) (xs : List Value) (hs : a.eval s = v) (hown : w.ownsRow base e size v n xs) {B : Nat} (y : Value) (m : Nat) (news : List Value) (hy : a.eval x = y) (hx : Sl w B size y m news) (h1 : ∀ u ∈ news, u.oneCell' = true)
    (h63 : n + m ≤ 1000000000) (hbytes : (n + m) * bytes ≤ 140737488355328) (hbase : base ≤ w.heap.size)
    (h : ∀ v' w', w'.ownsRow base e size v' (n + m) (xs ++ news) → w.grownBy w' v.ownBlock → (v'.ownBlock = v.ownBlock ∨ v'.ownBlock = some w.heap.size) → wpList P ops Q rest (a.put o.dst v') w') : wpList P ops Q (o :: rest) a w :=
  wpList_plain hgd fun _ hK => wp_app w s x t ho base e z size bytes ht hinfo hzs hsz v n xs hs hown y m news hy hx h1 h63 hbytes hbase fun v' w' h2 h3 h4 => hK _ _ (h v' w' h2 h3 h4)
/-- At a step of a region that draws its order. -/
theorem step_app {ops : Array Oper} {o : Oper} {a : Act} {K : Act → World → Prop} {Q : Exit → Act → World → Prop} {E : Prop} (hgd : o.guard = none) (s x : Operand) (t : TypeId)
    (ho : o.op = .call { callee := .builtin .append, args := #[s, x], argTypes := #[t, t] })
    (base : Nat) (e : TypeId) (z : Value) (size bytes : Nat) (ht : P.underlying t = some (.slice e)) (hinfo : (P.info? e).map (fun i => (i.zero, i.size, i.bytes)) = some (some z, size, bytes)) (hzs : z.cells.size = size) (hsz : 0 < size)
    (v : Value) (n : Nat) (xs : List Value) (hs : a.eval s = v) (hown : w.ownsRow base e size v n xs) {B : Nat} (y : Value) (m : Nat) (news : List Value) (hy : a.eval x = y) (hx : Sl w B size y m news) (h1 : ∀ u ∈ news, u.oneCell' = true)
    (h63 : n + m ≤ 1000000000) (hbytes : (n + m) * bytes ≤ 140737488355328) (hbase : base ≤ w.heap.size)
    (h : ∀ v' w', w'.ownsRow base e size v' (n + m) (xs ++ news) → w.grownBy w' v.ownBlock → (v'.ownBlock = v.ownBlock ∨ v'.ownBlock = some w.heap.size) → K (a.put o.dst v') w') :
    if Region.wanted o (yielded ops a.tmps) = true then Oper.wp P o a w K Q else E := by
  have hw : Region.wanted o (yielded ops a.tmps) = true := by simp [Region.wanted, hgd]
  rw [if_pos hw]
  exact wp_app w s x t ho base e z size bytes ht hinfo hzs hsz v n xs hs hown y m news hy hx h1 h63 hbytes hbase h
end
/-- An empty row of one's own. -/
theorem own_empty (w : World) (e : TypeId) (size : Nat) : (w.alloc (.cells #[] e)).ownsRow w.heap.size e size (.slice (some ⟨w.heap.size, 0, none⟩) 0 0) 0 [] :=
  ⟨by simp, .inr ⟨w.heap.size, 0, #[], rfl, Nat.le_refl _, heap_alloc_new w _, Nat.le_refl _, by simp [maxLen], by simp, by simp⟩⟩
/-- One element of one's own. -/
theorem own_single (w : World) (e : TypeId) (size : Nat) (cs : List Value) (h : cs.length = size) : (w.alloc (.cells cs.toArray e)).ownsRow w.heap.size e size (.slice (some ⟨w.heap.size, 0, none⟩) 1 1) 1 cs :=
  own_of_row (X := cs) (cap := 1) (new0 w _) (Nat.le_refl _) (Nat.le_refl _) (by simp [maxLen]) (by omega) (by rw [Nat.one_mul, ← h]; exact List.take_length) (by omega)
theorem Sl.take {α : Type} {f : α → List Value} {w : World} {B sz n c : Nat} {A : Option Addr} {l : List α} (hf : ∀ x, (f x).length = sz) (h : Sl w B sz (.slice A n c) l.length (l.flatMap f)) {k : Nat} (hk : k ≤ l.length) : Sl w B sz (.slice A k c) k ((l.take k).flatMap f) := by
  obtain ⟨A', c', he, hcc, hm, hl, hat⟩ := h
  injection he with e1 e2 e3
  subst e1 e3
  refine ⟨A, c, rfl, by omega, hm, ?_, ?_⟩
  · rw [flat_len _ _ hf, List.length_take, Nat.min_eq_left hk]
  · rw [flat_take _ _ hf]
    intro j u hj
    exact hat j u (by rw [List.getElem?_take] at hj; split at hj <;> simp_all)
theorem Sl.drop {α : Type} {f : α → List Value} {w : World} {B sz n c b off : Nat} {l : List α} (hf : ∀ x, (f x).length = sz) (h : Sl w B sz (.slice (some ⟨b, off, none⟩) n c) l.length (l.flatMap f)) {k : Nat} (hk : k ≤ l.length) :
    Sl w B sz (.slice (if c = k then some ⟨b, off, none⟩ else some ⟨b, off + k * sz, none⟩) (l.length - k) (c - k)) (l.length - k) ((l.drop k).flatMap f) := by
  obtain ⟨A', c', he, hcc, hm, hl, hat⟩ := h
  injection he with e1 e2 e3
  subst e1 e3
  refine ⟨_, _, rfl, by omega, by omega, ?_, ?_⟩
  · rw [flat_len _ _ hf, List.length_drop]
  · by_cases hck : c = k
    · have : l.drop k = [] := List.drop_eq_nil_of_le (by omega)
      rw [this]
      intro j u hj
      simp at hj
    · rw [if_neg hck, flat_drop _ _ hf]
      intro j u hj
      rw [List.getElem?_drop] at hj
      obtain ⟨b', off', he', hb', hc'⟩ := hat _ u hj
      injection he' with he'
      injection he' with h1 h2
      subst h1 h2
      exact ⟨_, _, rfl, hb', by rw [Nat.add_assoc]; exact hc'⟩
end Go.Proofs.YtkodkbjmeepbiaaDoor
