/- Opening arguments: a type's cells down to its leaves; a slice of structs as a list. No condition but those written out; no program in sight. -/
import Derived.Test.YtkodkbjmeepbiaaDoorB
import Derived.OpenShut
import Derived.Deep.Slices
set_option linter.unusedVariables false
set_option linter.unusedSimpArgs false
namespace Go.Proofs.YtkodkbjmeepbiaaDoor
open Go.RowKit

/-- The leaves lie one behind the other. -/
def okOff (P : Program) : Nat → List Field → List (List TypeId) → Bool
  | _, [], [] => true
  | o, f :: fs, l :: ls => f.offset == o && P.cellsOf f.type == l.length && okOff P (o + l.length) fs ls
  | _, _, _ => false
/-- The types of a type's cells. -/
def leafT (P : Program) : Nat → TypeId → Option (List TypeId)
  | 0, _ => none
  | n + 1, t =>
    match P.underlying t with
    | some (.struct fs) =>
      match fs.toList.mapM (fun f => leafT P n f.type) with
      | some ls => if okOff P 0 fs.toList ls && P.cellsOf t == ls.flatten.length then some ls.flatten else none
      | none => none
    | some (.array m e) =>
      match leafT P n e with
      | some l => if P.cellsOf e == l.length && P.cellsOf t == (List.replicate m l).flatten.length then some (List.replicate m l).flatten else none
      | none => none
    | some _ => if P.cellsOf t == 1 then some [t] else none
    | none => none

section
variable {H : Type} {enc : TypeId × Value → H} {P : Program} {w : World} {base : Nat} {spare : Nat → Bool} {held : Bool}

/-- A cell that reads as a datum of type t. -/
def Leaf (enc : TypeId × Value → H) (P : Program) (w : World) (base : Nat) (spare : Nat → Bool) (held : Bool) (t : TypeId) (v : Value) : Prop := ∃ m y, DataW.trod enc P w base spare held m t [v] = some y

theorem off_join {R : TypeId → Value → Prop} {cs : List Value} : ∀ (fs : List Field) (ls : List (List TypeId)) (o : Nat), okOff P o fs ls = true →
    (∀ (i : Nat) (f : Field) (l : List TypeId), fs[i]? = some f → ls[i]? = some l → ∀ (j : Nat) t v, l[j]? = some t → cs[f.offset + j]? = some v → R t v) →
    ∀ (j : Nat) t v, ls.flatten[j]? = some t → cs[o + j]? = some v → R t v
  | [], [], _, _, _, j, t, v, hj, _ => by simp at hj
  | [], _ :: _, _, h, _, _, _, _, _, _ => by simp [okOff] at h
  | _ :: _, [], _, h, _, _, _, _, _, _ => by simp [okOff] at h
  | f :: fs, l :: ls, o, h, hall, j, t, v, hj, hv => by
    simp only [okOff, Bool.and_eq_true, beq_iff_eq] at h
    obtain ⟨⟨h1, h2⟩, h3⟩ := h
    rw [List.flatten_cons] at hj
    by_cases hlt : j < l.length
    · rw [List.getElem?_append_left hlt] at hj
      exact hall 0 f l rfl rfl j t v hj (by rw [h1]; exact hv)
    · rw [List.getElem?_append_right (by omega)] at hj
      refine off_join fs ls (o + l.length) h3 (fun i f' l' hf hl => hall (i + 1) f' l' (by simpa using hf) (by simpa using hl)) (j - l.length) t v hj ?_
      rw [show o + l.length + (j - l.length) = o + j by omega]; exact hv

theorem flatten_rep {α : Type} (l : List α) : ∀ (m j : Nat) (x : α), (List.replicate m l).flatten[j]? = some x → ∃ i k, i < m ∧ k < l.length ∧ j = i * l.length + k ∧ l[k]? = some x
  | 0, j, x, h => by simp at h
  | m + 1, j, x, h => by
    rw [List.replicate_succ, List.flatten_cons] at h
    by_cases hlt : j < l.length
    · rw [List.getElem?_append_left hlt] at h
      exact ⟨0, j, by omega, hlt, by omega, h⟩
    · rw [List.getElem?_append_right (by omega)] at h
      obtain ⟨i, k, hi, hk, he, hx⟩ := flatten_rep l m (j - l.length) x h
      exact ⟨i + 1, k, by omega, hk, by rw [Nat.add_mul]; omega, hx⟩

theorem piece {cs : List Value} {o n j : Nat} (hj : j < n) : ((cs.drop o).take n)[j]? = cs[o + j]? := by
  rw [List.getElem?_take, if_pos hj, List.getElem?_drop]

theorem leaf_open : ∀ (n : Nat) (t : TypeId) (ts : List TypeId) (fuel : Nat) (cs : List Value) (x : DataW H × List MemPlace), leafT P n t = some ts → DataW.trod enc P w base spare held fuel t cs = some x →
    cs.length = ts.length ∧ ∀ (i : Nat) t' v, ts[i]? = some t' → cs[i]? = some v → Leaf enc P w base spare held t' v
  | 0, _, _, _, _, _, hl, _ => by simp [leafT] at hl
  | n + 1, t, ts, fuel, cs, x, hl, h => by
    have one : P.cellsOf t = 1 → cs.length = 1 → ts = [t] → cs.length = ts.length ∧ ∀ (i : Nat) t' v, ts[i]? = some t' → cs[i]? = some v → Leaf enc P w base spare held t' v := by
      intro _ hc hts
      subst hts
      refine ⟨by simpa using hc, fun i t' v h1 h2 => ?_⟩
      match cs, hc with
      | [c], _ =>
        cases i with
        | zero => simp at h1 h2; subst h1 h2; exact ⟨fuel, x, h⟩
        | succ i => simp at h1
    unfold leafT at hl
    cases hu : P.underlying t with
    | none => rw [hu] at hl; simp at hl
    | some T =>
      rw [hu] at hl
      cases T with
      | struct fs =>
        simp only at hl
        split at hl
        · rename_i ls hls
          split at hl
          · rename_i hchk
            simp only [Bool.and_eq_true, beq_iff_eq] at hchk
            obtain ⟨xs, m, _, _, hlen, hxl, hf⟩ := DataW.trod_struct hu h
            injection hl with hl
            subst hl
            refine ⟨by rw [hlen, hchk.2], fun j t' v h1 h2 => ?_⟩
            refine off_join (R := Leaf enc P w base spare held) fs.toList ls 0 hchk.1 (fun i f l hfi hli => ?_) j t' v h1 (by simpa using h2)
            have hleaf : leafT P n f.type = some l := by
              have := mapM_some_get hls i f hfi
              rw [this]; exact hli
            have hx := hf i f (by simpa using hfi)
            have hi : i < xs.length := by
              rw [hxl]
              have := List.getElem?_eq_some_iff.1 hfi
              obtain ⟨h3, _⟩ := this
              simpa using h3
            rw [List.getElem?_eq_getElem hi] at hx
            obtain ⟨e1, e2⟩ := leaf_open n f.type l m _ _ hleaf hx
            intro k t2 v2 h3 h4
            refine e2 k t2 v2 h3 ?_
            have hk : k < l.length := by
              have := List.getElem?_eq_some_iff.1 h3
              exact this.1
            rw [← e1] at hk
            rw [piece (by simp at hk; omega)]
            exact h4
          · simp at hl
        · simp at hl
      | array m e =>
        simp only at hl
        split at hl
        · rename_i l hle
          split at hl
          · rename_i hchk
            simp only [Bool.and_eq_true, beq_iff_eq] at hchk
            obtain ⟨xs, m', _, _, hlen, hxl, hf⟩ := DataW.trod_array hu h
            injection hl with hl
            subst hl
            refine ⟨by rw [hlen, hchk.2], fun j t' v h1 h2 => ?_⟩
            obtain ⟨i, k, hi, hk, rfl, hlk⟩ := flatten_rep l m j t' h1
            have hx := hf i hi
            rw [List.getElem?_eq_getElem (by omega)] at hx
            obtain ⟨e1, e2⟩ := leaf_open n e l m' _ _ hle hx
            refine e2 k t' v hlk ?_
            rw [hchk.1, piece hk]
            exact h2
          · simp at hl
        · simp at hl
      | _ =>
        simp only at hl
        split at hl
        · rename_i hc
          simp only [beq_iff_eq] at hc
          injection hl with hl
          refine one hc ?_ hl.symm
          cases fuel with
          | zero => simp [DataW.trod] at h
          | succ m =>
            unfold DataW.trod at h
            rw [hu] at h
            split at h <;> first | rfl | simp_all
        · simp at hl

theorem leaf_int {t : TypeId} {k : IntKind} {v : Value} (ht : P.underlying t = some (.int k)) (h : Leaf enc P w base spare held t v) : ∃ n, v = .int k n ∧ (Lit.int k n).wf = true := by
  obtain ⟨m, y, h⟩ := h
  obtain ⟨n, e, _, hw⟩ := DataW.trod_int ht h
  injection e with e
  exact ⟨n, e, hw⟩
theorem leaf_string {t : TypeId} {v : Value} (ht : P.underlying t = some .string) (h : Leaf enc P w base spare held t v) : ∃ s : ByteArray, v = .string s ∧ s.size ≤ maxLen := by
  obtain ⟨m, y, h⟩ := h
  obtain ⟨s, e, _, hs⟩ := DataW.trod_string ht h
  injection e with e
  exact ⟨s, e, hs⟩

open Go.WideShapes in
/-- A struct handed by value: its cells. -/
theorem struct_leaves {r : Reach} {b0 n : Nat} {t : TypeId} {fs : Array Field} {ts : List TypeId} {v : Value} {d : DataW H} {ps : List MemPlace} (ht : P.underlying t = some (.struct fs)) (hl : leafT P n t = some ts) (hv : Value.okWide P w r b0 t v) (h : DataW.Trod enc P w base spare held t v d ps) :
    ∃ cs : List Value, v = .agg cs.toArray ∧ cs.length = ts.length ∧ ∀ (i : Nat) t' u, ts[i]? = some t' → cs[i]? = some u → Leaf enc P w base spare held t' u := by
  obtain ⟨cs, rfl, _⟩ := okWide_struct ht hv
  obtain ⟨fuel, hf⟩ := h
  obtain ⟨h1, h2⟩ := leaf_open n t ts fuel _ _ hl hf
  exact ⟨cs.toList, rfl, h1, h2⟩
/-- A datum of one cell. -/
theorem one_leaf {t : TypeId} {v : Value} {d : DataW H} {ps : List MemPlace} (hc : v.cells = #[v]) (h : DataW.Trod enc P w base spare held t v d ps) : Leaf enc P w base spare held t v := by
  obtain ⟨fuel, hf⟩ := h
  rw [hc] at hf
  exact ⟨fuel, _, hf⟩

/-- A slice whose elements open as α: it reads as a list. -/
theorem leaf_slice {α : Type} {f : α → List Value} {sz : Nat} (hf : ∀ a, (f a).length = sz) (hs : 0 < sz) {Q : α → Prop} {t e : TypeId} {v : Value} (ht : P.underlying t = some (.slice e)) (hc : P.cellsOf e = sz)
    (hel : ∀ fuel cs x, DataW.trod enc P w base spare held fuel e cs = some x → ∃ a, Q a ∧ cs = f a) (h : Leaf enc P w base spare held t v) :
    ∃ (A : Option Addr) (l : List α) (c : Nat), v = .slice A l.length c ∧ (∀ a ∈ l, Q a) ∧ Sl w w.heap.size sz (.slice A l.length c) l.length (l.flatMap f) := by
  obtain ⟨m, y, h⟩ := h
  rcases Go.Deep.open_slice ht h with ⟨e, _⟩ | ⟨a, len, cap, m', n, D, Pl, e, _, hlc, hcm, hmm, _, hx⟩
  · injection e with e
    subst e
    exact ⟨none, [], 0, rfl, by simp, Sl.nil _ _ _⟩
  · injection e with e
    subst e
    have hle : len ≤ m' := by rw [hmm]; split <;> omega
    have hall : ∀ i, i < len → ∃ b : α, Q b ∧ ∀ j u, (f b)[j]? = some u → w.cell? ((a.add (i * sz)).add j) = some u := fun i hi => by
      obtain ⟨cs', h1, h2⟩ := hx i (by omega)
      obtain ⟨b, hb, rfl⟩ := hel _ _ _ h2
      refine ⟨b, hb, fun j u hj => ?_⟩
      obtain ⟨_, h3, h4⟩ := World.cells?_some h1
      rw [hc] at h3 h4
      rw [h4 j (by have := (List.getElem?_eq_some_iff.1 hj).1; omega)]
      exact hj
    have hlist : ∃ l : List α, l.length = len ∧ ∀ i (hi : i < l.length), Q l[i] ∧ ∀ j u, (f l[i])[j]? = some u → w.cell? ((a.add (i * sz)).add j) = some u := by
      refine ⟨List.ofFn (fun i : Fin len => (hall i.1 i.2).choose), by simp, fun i hi => ?_⟩
      rw [List.getElem_ofFn]
      exact (hall i (by simpa using hi)).choose_spec
    obtain ⟨l, rfl, hl⟩ := hlist
    refine ⟨some a, l, cap, rfl, fun b hb => ?_, some a, cap, rfl, hlc, hcm, flat_len f sz hf l, ?_⟩
    · obtain ⟨i, hi, rfl⟩ := List.mem_iff_getElem.1 hb
      exact (hl i hi).1
    · intro j u hj
      have hlt : j < l.length * sz := by rw [← flat_len f sz hf l]; exact (List.getElem?_eq_some_iff.1 hj).1
      have hdm := Nat.div_add_mod j sz
      have hk : j / sz < l.length := by rw [Nat.div_lt_iff_lt_mul hs]; exact hlt
      have hr : j % sz < sz := Nat.mod_lt _ hs
      have e : j = j / sz * sz + j % sz := by rw [Nat.mul_comm]; exact hdm.symm
      have hg := flat_get f sz hf l (j / sz) (j % sz) hk hr
      rw [← e, hj] at hg
      have hcell := (hl (j / sz) hk).2 (j % sz) u hg.symm
      rw [add_add', ← e] at hcell
      have h0l : 0 < l.length := Nat.lt_of_le_of_lt (Nat.zero_le _) hk
      have h00 : (f l[0])[0]? = some ((f l[0])[0]'(by rw [hf]; exact hs)) := List.getElem?_eq_getElem _
      have hc0 := (hl 0 h0l).2 0 _ h00
      rw [Nat.zero_mul] at hc0
      have hspot : a.spot = none := by simpa [Addr.add] using World.cell?_spot hc0
      obtain ⟨b, off, spot⟩ := a
      dsimp only at hspot
      subst hspot
      rw [add_flat'] at hcell
      exact ⟨b, off, rfl, World.block_lt_of_cell? w _ hcell, hcell⟩
end
end Go.Proofs.YtkodkbjmeepbiaaDoor
