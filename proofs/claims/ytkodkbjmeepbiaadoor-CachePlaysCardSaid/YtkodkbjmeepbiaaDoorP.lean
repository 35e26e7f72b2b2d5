/- Words of this claim's own: a page as nine cells; what a cache does, said of lists. No condition; no program in sight. -/
import Derived.Test.YtkodkbjmeepbiaaDoorS
set_option linter.unusedVariables false
set_option linter.unusedSimpArgs false
namespace Go.Proofs.YtkodkbjmeepbiaaDoor
open Go.RowKit

structure Page where
  line : Int
  head : Int
  d0 : Int
  d1 : Int
  d2 : Int
  d3 : Int
  d4 : Int
  d5 : Int
  d6 : Int
deriving DecidableEq
def Page.cells (x : Page) : List Value := [.int .i64 x.line, .int .u64 x.head, .int .u64 x.d0, .int .u64 x.d1, .int .u64 x.d2, .int .u64 x.d3, .int .u64 x.d4, .int .u64 x.d5, .int .u64 x.d6]
@[reducible] def Page.v (x : Page) : Value := .agg #[.int .i64 x.line, .int .u64 x.head, .int .u64 x.d0, .int .u64 x.d1, .int .u64 x.d2, .int .u64 x.d3, .int .u64 x.d4, .int .u64 x.d5, .int .u64 x.d6]
theorem Page.len (x : Page) : x.cells.length = 9 := rfl
theorem Page.one (x : Page) : ∀ u ∈ x.cells, u.oneCell' = true := by
  intro u hu
  simp only [Page.cells, List.mem_cons, List.not_mem_nil, or_false] at hu
  rcases hu with rfl | rfl | rfl | rfl | rfl | rfl | rfl | rfl | rfl <;> rfl
theorem Page.at_ {w : World} {B : Nat} {A : Option Addr} {l : List Page} (h : At w B A (l.flatMap Page.cells)) {k : Nat} (hk : k < l.length) :
    ∃ b off, A = some ⟨b, off, none⟩ ∧ b < B ∧ w.cell? ⟨b, off + k * 9, none⟩ = some (.int .i64 l[k].line) ∧ w.cell? ⟨b, off + k * 9 + 1, none⟩ = some (.int .u64 l[k].head) ∧ w.cell? ⟨b, off + k * 9 + 2, none⟩ = some (.int .u64 l[k].d0) ∧ w.cell? ⟨b, off + k * 9 + 3, none⟩ = some (.int .u64 l[k].d1) ∧ w.cell? ⟨b, off + k * 9 + 4, none⟩ = some (.int .u64 l[k].d2) ∧ w.cell? ⟨b, off + k * 9 + 5, none⟩ = some (.int .u64 l[k].d3) ∧ w.cell? ⟨b, off + k * 9 + 6, none⟩ = some (.int .u64 l[k].d4) ∧ w.cell? ⟨b, off + k * 9 + 7, none⟩ = some (.int .u64 l[k].d5) ∧ w.cell? ⟨b, off + k * 9 + 8, none⟩ = some (.int .u64 l[k].d6) := by
  obtain ⟨b, off, e, hb, hc⟩ := h.get Page.len hk (by omega)
  exact ⟨b, off, e, hb, hc 0 _ (by omega) rfl, hc 1 _ (by omega) rfl, hc 2 _ (by omega) rfl, hc 3 _ (by omega) rfl, hc 4 _ (by omega) rfl, hc 5 _ (by omega) rfl, hc 6 _ (by omega) rfl, hc 7 _ (by omega) rfl, hc 8 _ (by omega) rfl⟩
theorem Page.lenl (l : List Page) : (l.flatMap Page.cells).length = l.length * 9 := flat_len _ _ Page.len l
theorem Page.onel (l : List Page) : ∀ u ∈ l.flatMap Page.cells, u.oneCell' = true := by
  intro u hu
  obtain ⟨x, _, hx⟩ := List.mem_flatMap.1 hu
  exact x.one u hx

/-! ### What a cache does -/
def cachable (p : Page) : Bool := decide (96 ≤ p.line) && decide (p.line < 256) && (p.head % 256 == 0)
/-- All can be there, none twice. -/
def fine : List Page → List Int → Bool
  | [], _ => true
  | p :: r, seen => cachable p && !(seen.contains p.line) && fine r (p.line :: seen)
def valid (cap : Int) (l : List Page) : Bool := decide (1 ≤ cap) && decide (cap ≤ 256) && decide ((l.length : Int) ≤ cap) && fine l []
def indexOf (l : List Page) (line : Int) : Nat := l.findIdx (fun p => p.line == line)
/-- as Go says it: -1 where there is none -/
def idx (l : List Page) (line : Int) : Int := if indexOf l line < l.length then (indexOf l line : Int) else -1
theorem idx_hit {l : List Page} {line : Int} (h : indexOf l line < l.length) : idx l line = indexOf l line := if_pos h
theorem idx_miss {l : List Page} {line : Int} (h : ¬ indexOf l line < l.length) : idx l line = -1 := if_neg h
def put1 (cap : Int) (l : List Page) (p : Page) : List Page :=
  if cachable p then
    let i := indexOf l p.line
    if h : i < l.length then ((if p.head < l[i].head then l[i] else p) :: l.eraseIdx i).take cap.toNat
    else (p :: l).take cap.toNat
  else l
def putAll (cap : Int) (l : List Page) (ps : List Page) : List Page := ps.foldl (put1 cap) l
def put (cap : Int) (l : List Page) (ps : List Page) : List Page := if valid cap l then putAll cap l ps else l
def getAt (cap : Int) (l : List Page) (line : Int) : Option Page := if valid cap l then l.find? (fun p => p.line == line) else none
def getL (cap : Int) (l : List Page) (line : Int) : List Page :=
  if valid cap l then
    match l.find? (fun p => p.line == line) with
    | some p => p :: l.eraseIdx (indexOf l line)
    | none => l
  else l
end Go.Proofs.YtkodkbjmeepbiaaDoor
