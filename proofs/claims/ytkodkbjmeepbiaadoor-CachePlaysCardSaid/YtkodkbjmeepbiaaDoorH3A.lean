/- The walk of the law CachePlays. Conditions: what every reading gives, and that the package's variable holds the nil pointer. -/
import Derived.Test.YtkodkbjmeepbiaaDoorH0
import Derived.Test.YtkodkbjmeepbiaaDoorH1
import Derived.Test.YtkodkbjmeepbiaaDoorH2
import Derived.Deep.DeepCutAuto
import Derived.Deep.CutBlock
import Derived.Deep.RegionLaw
set_option linter.unusedVariables false
set_option linter.unusedSimpArgs false
namespace Go.Proofs.YtkodkbjmeepbiaaDoor
open Go.RowKit

theorem int_info : (Tryd.prog.info? 3).map (fun i => (i.zero, i.size, i.bytes)) = some (some (.int .i64 0), 1, 8) := by kernel_rfl

theorem new_bad (cap : Int) (w : World) (h : cap < 1 ∨ 256 < cap) :
    Calls Tryd.prog 4 #[.int .i64 cap] w fun e w' => e = .returned (.tuple #[.agg #[.int .i64 0, .slice none 0 0], .int .i64 1]) ∧ Below w.heap.size w w' := by
  go_enter Tryd.func4, Tryd.ntmps4
  go_wp2
  all_goals refine bodyPost_ret (v := .tuple #[.agg #[.int .i64 0, .slice none 0 0], .int .i64 1]) (by simp [results, Tryd.results4, go_sem]) rfl ⟨rfl, (by repeat (with_reducible first | assumption | exact Below.refl _ _ | (refine Below.setCell ?_ (by first | omega | (dsimp only; omega) | (simp; omega)) _) | (refine bl_al ?_ _) | (refine bl_dr ?_ _) | (refine bl_on ?_ (by assumption))))⟩

/-- One operation of the law's input. -/
structure OpV where
  kind : Int
  A : Option Addr
  c : Nat
  ls : List Int
  Ah : Option Addr
  ch : Nat
  hs : List Int
def OpV.cells (o : OpV) : List Value := [.int .i64 o.kind, .slice o.A o.ls.length o.c, .slice o.Ah o.hs.length o.ch]
theorem OpV.len (o : OpV) : o.cells.length = 3 := rfl
theorem OpV.at_ {w : World} {B : Nat} {A : Option Addr} {l : List OpV} (h : At w B A (l.flatMap OpV.cells)) {k : Nat} (hk : k < l.length) :
    ∃ b off, A = some ⟨b, off, none⟩ ∧ b < B ∧ w.cell? ⟨b, off + k * 3, none⟩ = some (.int .i64 l[k].kind) ∧ w.cell? ⟨b, off + k * 3 + 1, none⟩ = some (.slice l[k].A l[k].ls.length l[k].c) ∧ w.cell? ⟨b, off + k * 3 + 2, none⟩ = some (.slice l[k].Ah l[k].hs.length l[k].ch) := by
  obtain ⟨b, off, e, hb, hc⟩ := h.get OpV.len hk (by omega)
  exact ⟨b, off, e, hb, hc 0 _ (by omega) rfl, hc 1 _ (by omega) rfl, hc 2 _ (by omega) rfl⟩
def OpV.good (w : World) (o : OpV) : Prop := Sl w w.heap.size 1 (.slice o.A o.ls.length o.c) o.ls.length (ints o.ls) ∧ Sl w w.heap.size 1 (.slice o.Ah o.hs.length o.ch) o.hs.length (words o.hs) ∧ ∀ x ∈ o.hs, 0 ≤ x ∧ x ≤ 18446744073709551615

/-- What holds ahead of each round. -/
def PlayInv (w : World) (g1 g2 : Nat) (wr : World) : Prop := Below w.heap.size w wr ∧ ∃ (cap : Int) (l : List Page) (A : Option Addr) (c : Nat) (A' : Option Addr) (c' : Nat),
  wr.heap[g1]? = some (.cells #[.int .i64 cap, .slice A l.length c] 24 (0, 0)) ∧ wr.heap[g2]? = some (.cells #[.int .i64 cap, .slice A' l.length c'] 30 (0, 0)) ∧
  Apart wr g1 g2 A c l ∧ Apart wr g1 g2 A' c' l ∧ l.length ≤ 300 ∧ ∀ p ∈ l, p.ok

theorem play_end {w W : World} {g1 g2 : Nat} (B : Below w.heap.size w W) (z1 : w.heap.size ≤ g1) (z2 : g1 < g2) {cs1 cs2 : Array Value} (r1 : W.heap[g1]? = some (.cells cs1 24 (0, 0))) (r2 : W.heap[g2]? = some (.cells cs2 30 (0, 0))) (n1 : cs1.size = 2) (n2 : cs2.size = 2)
    {cap : Int} {l : List Page} {A A' : Option Addr} {c c' : Nat} (a1 : Apart W g1 g2 A c l) (a2 : Apart W g1 g2 A' c' l) (hn : l.length ≤ 300) (hok : ∀ p ∈ l, p.ok) :
    PlayInv w g1 g2 ((((W.setCell ⟨g1, 0, none⟩ (.int .i64 cap)).setCell ⟨g1, 1, none⟩ (.slice A l.length c)).setCell ⟨g2, 0, none⟩ (.int .i64 cap)).setCell ⟨g2, 1, none⟩ (.slice A' l.length c')) := by
  refine ⟨(((B.setCell (by dsimp only; omega) _).setCell (by dsimp only; omega) _).setCell (by dsimp only; omega) _).setCell (by dsimp only; omega) _, cap, l, A, c, A', c', ?_, ?_, ((((a1.set _ (.inl rfl)).set _ (.inl rfl)).set _ (.inr rfl)).set _ (.inr rfl)), ((((a2.set _ (.inl rfl)).set _ (.inl rfl)).set _ (.inr rfl)).set _ (.inr rfl)), hn, hok⟩
  · have h := blk_far (blk_far (blk_set (i := 1) (blk_set (i := 0) r1 (.int .i64 cap)) (.slice A l.length c)) (a := ⟨g2, 0, none⟩) (by dsimp only; omega) (.int .i64 cap)) (a := ⟨g2, 1, none⟩) (by dsimp only; omega) (.slice A' l.length c')
    obtain ⟨cs1⟩ := cs1
    match cs1, n1 with
    | [x, y], _ => exact h
  · have h := blk_set (i := 1) (blk_set (i := 0) (blk_far (blk_far r2 (a := ⟨g1, 0, none⟩) (by dsimp only; omega) (.int .i64 cap)) (a := ⟨g1, 1, none⟩) (by dsimp only; omega) (.slice A l.length c)) (.int .i64 cap)) (.slice A' l.length c')
    obtain ⟨cs2⟩ := cs2
    match cs2, n2 with
    | [x, y], _ => exact h

theorem play_drew {w W : World} {g1 g2 : Nat} (h : PlayInv w g1 g2 W) : PlayInv w g1 g2 W.drew := by
  obtain ⟨B, cap, l, A, c, A', c', r1, r2, a1, a2, hl, hok⟩ := h
  exact ⟨bl_drew B, cap, l, A, c, A', c', r1, r2, a1.on (bl_drew (Below.refl _ _)), a2.on (bl_drew (Below.refl _ _)), hl, hok⟩

theorem hintsL_len (cap : Int) (l : List Page) : (hintsL cap l).length ≤ l.length := by
  unfold hintsL
  split
  · exact List.length_filter_le _ _
  · simp
theorem new_all (cap : Int) (w : World) :
    Calls Tryd.prog 4 #[.int .i64 cap] w fun e w' => ∃ q er : Int, e = .returned (.tuple #[.agg #[.int .i64 q, .slice none 0 0], .int .i64 er]) ∧ ((er = 0 ∧ q = cap ∧ 1 ≤ cap ∧ cap ≤ 256) ∨ (er = 1 ∧ (cap < 1 ∨ 256 < cap))) ∧ Below w.heap.size w w' := by
  by_cases h : 1 ≤ cap ∧ cap ≤ 256
  · exact (new_ok cap w h.1 h.2).mono fun e w' ⟨he, hb⟩ => ⟨cap, 0, he, .inl ⟨rfl, rfl, h.1, h.2⟩, hb⟩
  · exact (new_bad cap w (by omega)).mono fun e w' ⟨he, hb⟩ => ⟨0, 1, he, .inr ⟨rfl, by omega⟩, hb⟩

/-- What holds ahead of the reference's cache. -/
def PreInv (w : World) (g1 : Nat) (wc : World) : Prop := Below w.heap.size w wc ∧ ∃ (cap : Int) (l : List Page) (A : Option Addr) (c : Nat),
  wc.heap[g1]? = some (.cells #[.int .i64 cap, .slice A l.length c] 24 (0, 0)) ∧ Sl w w.heap.size 9 (.slice A l.length c) l.length (l.flatMap Page.cells) ∧ l.length ≤ 20 ∧ ∀ p ∈ l, p.ok

theorem box_page (W : World) (p : Page) : Sl (W.alloc (.cells #[.int .i64 p.line, .int .u64 p.head, .int .u64 p.d0, .int .u64 p.d1, .int .u64 p.d2, .int .u64 p.d3, .int .u64 p.d4, .int .u64 p.d5, .int .u64 p.d6] 42 (0, 0))) (W.alloc (.cells #[.int .i64 p.line, .int .u64 p.head, .int .u64 p.d0, .int .u64 p.d1, .int .u64 p.d2, .int .u64 p.d3, .int .u64 p.d4, .int .u64 p.d5, .int .u64 p.d6] 42 (0, 0))).heap.size 9 (.slice (some ⟨W.heap.size, 0, none⟩) 1 1) 1 ([p].flatMap Page.cells) :=
  Sl.box W 42 9 1 ([p].flatMap Page.cells) rfl (by omega)


/-- Block n of a code. -/
def blockOf (n : Nat) : Code → Option Code
  | .block m c => if m == n then some (.block m c) else blockOf n c
  | .seq a b => match blockOf n a with
    | some c => some c
    | none => blockOf n b
  | .loop c => blockOf n c
  | .scope c => blockOf n c
  | .cond _ a b => match blockOf n a with
    | some c => some c
    | none => blockOf n b
  | _ => none
/-- Region n of a code. -/
def regionOf (n : Nat) : Code → Option Code
  | .region m o d => if m == n then some (.region m o d) else none
  | .seq a b => match regionOf n a with
    | some c => some c
    | none => regionOf n b
  | .block _ c => regionOf n c
  | .loop c => regionOf n c
  | .scope c => regionOf n c
  | .cond _ a b => match regionOf n a with
    | some c => some c
    | none => regionOf n b
  | _ => none
theorem then_false {K : Act → World → Prop} {Q : Exit → Act → World → Prop} : ∀ e a w, Exit.then K (fun _ _ _ => False) e a w → Exit.then K Q e a w := by
  intro e a w h
  cases e <;> first | exact h | exact h.elim
noncomputable def swCode : Code := (Tryd.f3.body.bind (blockOf 2)).getD .skip
noncomputable def restCode : Code := (Tryd.f3.body.bind (regionOf 32)).getD .skip
end Go.Proofs.YtkodkbjmeepbiaaDoor
