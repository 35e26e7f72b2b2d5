/- Equality of two pages' words. -/
import Derived.Test.YtkodkbjmeepbiaaDoorC1
import Derived.ChangeKeysEq
set_option linter.unusedVariables false
set_option linter.unusedSimpArgs false
namespace Go.Proofs.YtkodkbjmeepbiaaDoor
open Go.RowKit
theorem u64_info : (Tryd.prog.info? 39).map (fun i => (i.zero, i.size, i.bytes)) = some (some (.int .u64 0), 1, 8) := by kernel_rfl
theorem u64_agg (W : World) : (isAgg 39).run Tryd.prog W = .ok false W := by kernel_rfl
theorem u64_cells : Tryd.prog.cellsOf 39 = 1 := by kernel_rfl
theorem eq_u64 (a b : Int) (W : World) : (Op.equalIn 9999 39 (.int .u64 a) (.int .u64 b)).run Tryd.prog W = .ok (a == b) W := by
  kernel_rfl
set_option maxRecDepth 100000 in
set_option maxHeartbeats 4000000 in
theorem eq_data (a b c d e f g a' b' c' d' e' f' g' : Int) (W : World) : (Op.equalIn 10000 40 (.agg #[.int .u64 a, .int .u64 b, .int .u64 c, .int .u64 d, .int .u64 e, .int .u64 f, .int .u64 g]) (.agg #[.int .u64 a', .int .u64 b', .int .u64 c', .int .u64 d', .int .u64 e', .int .u64 f', .int .u64 g'])).run Tryd.prog W =
    .ok ((a == a') && (b == b') && (c == c') && (d == d') && (e == e') && (f == f') && (g == g')) W := by
  have hu := Tryd.underlying40
  obtain ⟨i0, hi, _⟩ := Option.map_eq_some_iff.1 u64_info
  rw [run_equalIn_array W 9999 _ _ hu hi, u64_cells]
  have hr : List.range 7 = [0, 1, 2, 3, 4, 5, 6] := rfl
  rw [hr]
  simp [Op.eqItems, part, u64_agg, eq_u64, Sem.run_bind, Result.andThen_ok]
  by_cases h1 : a = a' <;> try simp [h1]
  by_cases h2 : b = b' <;> try simp [h2]
  by_cases h3 : c = c' <;> try simp [h3]
  by_cases h4 : d = d' <;> try simp [h4]
  by_cases h5 : e = e' <;> try simp [h5]
  by_cases h6 : f = f' <;> try simp [h6]
  by_cases h7 : g = g' <;> try simp [h7]
end Go.Proofs.YtkodkbjmeepbiaaDoor
