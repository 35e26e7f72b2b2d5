/- Walks: tags, pointers, places: both packages' small functions. Conditions: as each theorem names them. -/
import Derived.Test.YtkodkbjmeepbiaaDoorC1
import Derived.Test.YtkodkbjmeepbiaaDoorD0
set_option linter.unusedVariables false
set_option linter.unusedSimpArgs false
namespace Go.Proofs.YtkodkbjmeepbiaaDoor
open Go.RowKit

/-- A valid pointer: a line of the heap, a generation. -/
def okPtr (l g : Int) : Bool := decide (104 ≤ l) && decide (l < 256) && decide (1 ≤ g) && decide (g ≤ 16777215)
/-- A line that a segment has, not its first one. -/
def inSeg (l : Int) : Bool := decide (104 ≤ l) && decide (l < 248) && ((l - 104) % 16 != 0)

theorem unpackTag_any (d : Int) (w : World) (h0 : 0 ≤ d) (h1 : d ≤ 18446744073709551615) :
    Calls Tryd.prog 48 #[.int .u64 d] w fun e w' => e = .returned (.agg #[.int .i64 (d % 256), .int .i64 (d / 256 % 16777216), .int .u32 (d / 4294967296)]) ∧ Below w.heap.size w w' := by
  have e1 := hide (mask64 d 8 255 (by decide) h0 (by omega) (by omega))
  have e2 := hide (mask64 (d / 256) 24 16777215 (by decide) (by omega) (by omega) (by omega))
  have e3 := hide (wrap64_id (d % 256) (by omega) (by omega))
  have e4 := hide (wrap64_id (d / 256 % 16777216) (by omega) (by omega))
  go_enter Tryd.func48, Tryd.ntmps48
  go_wp2
  refine bodyPost_ret (v := .agg #[.int .i64 (wrap64 (bits .and .u64 d 255)), .int .i64 (wrap64 (bits .and .u64 (d / 256) 16777215)), .int .u32 (d / 4294967296)]) (by simp [results, Tryd.results48, go_sem]) rfl ⟨?_, (by repeat (first | exact Below.refl _ _ | assumption | (refine bl_al ?_ _) | (refine bl_dr ?_ _) | (refine bl_on ?_ (by assumption))))⟩
  rw [e1.out, e2.out]
  exact congrArg _ (by rw [show (255 : Int) + 1 = 256 from rfl, show (16777215 : Int) + 1 = 16777216 from rfl, e3.out, e4.out])
theorem unpack_any (d : Int) (w : World) (h0 : 0 ≤ d) (h1 : d ≤ 4294967295) :
    Calls Tryd.prog 57 #[.int .u32 d] w fun e w' => e = .returned (.agg #[.int .i64 (d % 256), .int .i64 (d / 256)]) ∧ Below w.heap.size w w' := by
  have e1 := hide (mask32 d 8 255 (by decide) h0 (by omega) (by omega))
  have e3 := hide (wrap64_id (d % 256) (by omega) (by omega))
  go_enter Tryd.func57, Tryd.ntmps57
  go_wp2
  refine bodyPost_ret (v := .agg #[.int .i64 (wrap64 (bits .and .u32 d 255)), .int .i64 (d / 256)]) (by simp [results, Tryd.results57, go_sem]) rfl ⟨?_, (by repeat (first | exact Below.refl _ _ | assumption | (refine bl_al ?_ _) | (refine bl_dr ?_ _) | (refine bl_on ?_ (by assumption))))⟩
  rw [e1.out]
  exact congrArg _ (by rw [show (255 : Int) + 1 = 256 from rfl, e3.out])
theorem runpack_any (d : Int) (w : World) (h0 : 0 ≤ d) (h1 : d ≤ 4294967295) :
    Calls Tryd.prog 50 #[.int .u32 d] w fun e w' => e = .returned (.agg #[.int .i64 (d % 256), .int .i64 (d / 256)]) ∧ Below w.heap.size w w' := by
  have e3 : (d.tmod 256) = d % 256 := Int.tmod_eq_emod_of_nonneg h0
  have e4 : (d.tdiv 256) = d / 256 := Int.tdiv_eq_ediv_of_nonneg h0
  go_enter Tryd.func50, Tryd.ntmps50
  go_wp2
  refine bodyPost_ret (v := .agg #[.int .i64 (d % 256), .int .i64 (d / 256)]) (by simp [results, Tryd.results50, go_sem]) rfl ⟨rfl, (by repeat (first | exact Below.refl _ _ | assumption | (refine bl_al ?_ _) | (refine bl_dr ?_ _) | (refine bl_on ?_ (by assumption))))⟩
theorem packTag_any (k g a : Int) (w : World) (h0 : 0 ≤ k) (h1 : k ≤ 255) (h2 : 0 ≤ g) (h3 : g ≤ 16777215) (h4 : 0 ≤ a) (h5 : a ≤ 4294967295) :
    Calls Tryd.prog 65 #[.agg #[.int .i64 k, .int .i64 g, .int .u32 a]] w fun e w' => e = .returned (.int .u64 (k + g * 256 + a * 4294967296)) ∧ Below w.heap.size w w' := by
  have e1 := mask64 k 8 255 (by decide) h0 (by omega) (by omega)
  have e2 := mask64 g 24 16777215 (by decide) h2 (by omega) (by omega)
  rw [show (255 : Int) + 1 = 256 from rfl, show k % 256 = k by omega] at e1
  rw [show (16777215 : Int) + 1 = 16777216 from rfl, show g % 16777216 = g by omega] at e2
  have e3 := or64 k g 8 256 (by decide) (by omega) (by omega) (by omega) (by omega) (by omega)
  have e4 := or64 (k + g * 256) a 32 4294967296 (by decide) (by omega) (by omega) (by omega) (by omega) (by omega)
  have H := hide (show bits .or .u64 (bits .or .u64 (bits .and .u64 k 255) (IntKind.u64.wrap (bits .and .u64 g 16777215 * 256))) (a * 4294967296) = k + g * 256 + a * 4294967296 by
    rw [e1, e2, show IntKind.u64.wrap (g * 256) = g * 256 by simp [IntKind.wrap, IntKind.signed, IntKind.bits]; omega, e3, e4])
  clear e1 e2 e3 e4
  go_enter Tryd.func65, Tryd.ntmps65
  go_wp2
  go_ret
  exact ⟨congrArg _ (congrArg _ H.out), (by repeat (first | exact Below.refl _ _ | assumption | (refine bl_al ?_ _) | (refine bl_dr ?_ _) | (refine bl_on ?_ (by assumption))))⟩
theorem inHeap_any (l : Int) (w : World) :
    Calls Tryd.prog 67 #[.int .i64 l] w fun e w' => e = .returned (.bool (decide (104 ≤ l) && decide (l < 256))) ∧ w = w' := by
  go_enter Tryd.func67, Tryd.ntmps67
  go_wp2
  · go_ret
    rename_i h
    exact ⟨ret_bool (by simp [h]), rfl⟩
  · go_ret
    rename_i h
    exact ⟨ret_bool (by simp; omega), rfl⟩
theorem heapLine_any (l : Int) (w : World) :
    Calls Tryd.prog 60 #[.int .i64 l] w fun e w' => e = .returned (.bool (decide (104 ≤ l) && decide (l < 256))) ∧ w = w' := by
  go_enter Tryd.func60, Tryd.ntmps60
  go_wp2
  · go_ret
    rename_i h
    exact ⟨ret_bool (by simp [h]), rfl⟩
  · go_ret
    rename_i h
    exact ⟨ret_bool (by simp; omega), rfl⟩
theorem okPtr_any (l g : Int) (w : World) :
    Calls Tryd.prog 64 #[.agg #[.int .i64 l, .int .i64 g]] w fun e w' => e = .returned (.bool (okPtr l g)) ∧ Below w.heap.size w w' := by
  go_enter Tryd.func64, Tryd.ntmps64
  go_wp2_with (go_at_call 67; refine (inHeap_any l _).mono ?_; rintro e w1 ⟨rfl, rfl⟩)
  all_goals go_ret
  all_goals refine ⟨ret_bool (by first | (simp_all [okPtr]; done) | (simp_all [okPtr]; omega)), (by repeat (first | exact Below.refl _ _ | assumption | (refine bl_al ?_ _) | (refine bl_dr ?_ _) | (refine bl_on ?_ (by assumption))))⟩
theorem rokPtr_any (l g : Int) (w : World) :
    Calls Tryd.prog 51 #[.agg #[.int .i64 l, .int .i64 g]] w fun e w' => e = .returned (.bool (okPtr l g)) ∧ Below w.heap.size w w' := by
  go_enter Tryd.func51, Tryd.ntmps51
  go_wp2_with (go_at_call 60; refine (heapLine_any l _).mono ?_; rintro e w1 ⟨rfl, rfl⟩)
  all_goals go_ret
  all_goals refine ⟨ret_bool (by first | (simp_all [okPtr]; done) | (simp_all [okPtr]; omega)), (by repeat (first | exact Below.refl _ _ | assumption | (refine bl_al ?_ _) | (refine bl_dr ?_ _) | (refine bl_on ?_ (by assumption))))⟩
/-- A pointer in 32 bits: 0 if it is not valid. -/
def packP (l g : Int) : Int := if okPtr l g then l + g * 256 else 0
theorem okPtr_iff {l g : Int} : okPtr l g = true ↔ 104 ≤ l ∧ l < 256 ∧ 1 ≤ g ∧ g ≤ 16777215 := by simp [okPtr, and_assoc]
theorem pack_any (l g : Int) (w : World) :
    Calls Tryd.prog 66 #[.agg #[.int .i64 l, .int .i64 g]] w fun e w' => e = .returned (.int .u32 (packP l g)) ∧ Below w.heap.size w w' := by
  cases ho : okPtr l g with
  | false =>
    have H := hide ho
    clear ho
    go_enter Tryd.func66, Tryd.ntmps66
    go_wp2_with (go_at_call 64; refine (okPtr_any l g _).mono ?_; rintro e w1 ⟨rfl, hb1⟩; rw [H.out])
    go_ret
    exact ⟨ret_int (by simp [packP, H.out]), (by repeat (first | exact Below.refl _ _ | assumption | (refine bl_al ?_ _) | (refine bl_dr ?_ _) | (refine bl_on ?_ (by assumption))))⟩
  | true =>
    have hi := okPtr_iff.1 ho
    have e1 := or32 l g 8 256 (by decide) (by omega) (by omega) (by omega) (by omega) (by omega)
    rw [or32_sym _ _ (by omega) (by omega) (by omega) (by omega)] at e1
    have H := hide ho
    have E := hide e1
    have hl1 := hi.1
    have hl2 := hi.2.1
    have hg1 := hi.2.2.1
    have hg2 := hi.2.2.2
    clear ho hi e1
    go_enter Tryd.func66, Tryd.ntmps66
    go_wp2_with (go_at_call 64; refine (okPtr_any l g _).mono ?_; rintro e w1 ⟨rfl, hb1⟩; rw [H.out]; obtain ⟨k0, f0, z0⟩ := blk hb1 (new0 _ _))
    go_ret
    exact ⟨ret_int (by simp [packP, H.out, E.out]), (by repeat (first | exact Below.refl _ _ | assumption | (refine bl_al ?_ _) | (refine bl_dr ?_ _) | (refine bl_on ?_ (by assumption))))⟩
theorem count_any (w : World) :
    Calls Tryd.prog 56 #[.int .i64 256] w fun e w' => e = .returned (.int .i64 9) ∧ w = w' := by
  have hs : ∀ W, Calls Tryd.prog 62 #[.int .i64 256] W fun e w' => e = .returned (.bool true) ∧ W = w' := by
    intro W
    go_enter Tryd.func62, Tryd.ntmps62
    go_wp2
    go_ret
    exact ⟨rfl, rfl⟩
  go_enter Tryd.func56, Tryd.ntmps56
  go_wp2_with fail
  refine (hs _).mono ?_
  rintro e w1 ⟨rfl, rfl⟩
  go_wp2
  go_ret
  exact ⟨rfl, rfl⟩
theorem locate_any (l : Int) (w : World) (h0 : 0 ≤ l) (h1 : l ≤ 1000) :
    Calls Tryd.prog 46 #[.int .i64 256, .int .i64 l] w fun e w' => ∃ s i : Int, e = .returned (.tuple #[.int .i64 s, .int .i64 i, .bool (inSeg l)]) ∧ w = w' := by
  have e1 := hide (show 104 ≤ l → (l - 104).tmod 16 = (l - 104) % 16 from fun h => Int.tmod_eq_emod_of_nonneg (by omega))
  go_enter Tryd.func46, Tryd.ntmps46
  go_wp2_with (go_at_call 56; refine (count_any _).mono ?_; rintro e w1 ⟨rfl, rfl⟩)
  · rename_i hx hy
    refine bodyPost_ret (v := .tuple #[.int .i64 0, .int .i64 0, .bool false]) (by simp [results, Tryd.results46, go_sem]) rfl ⟨0, 0, ?_, rfl⟩
    rw [show inSeg l = false by simp [inSeg]; omega]
  · rename_i h
    refine bodyPost_ret (v := .tuple #[.int .i64 0, .int .i64 0, .bool false]) (by simp [results, Tryd.results46, go_sem]) rfl ⟨0, 0, ?_, rfl⟩
    rw [show inSeg l = false by simp [inSeg]; simp at h; omega]
  · rename_i h2 h1 h
    refine bodyPost_ret (v := .tuple #[.int .i64 ((l - 104) / 16), .int .i64 ((l - 104) % 16), .bool true]) (by simp [results, Tryd.results46, go_sem]) rfl ⟨(l - 104) / 16, (l - 104) % 16, ?_, rfl⟩
    rw [show inSeg l = true by simp [inSeg]; simp at h; omega]
  · rename_i h
    refine bodyPost_ret (v := .tuple #[.int .i64 0, .int .i64 0, .bool false]) (by simp [results, Tryd.results46, go_sem]) rfl ⟨⟨0, 0, ?_⟩, rfl⟩
    rw [show inSeg l = false by simp [inSeg]; omega]
theorem rcount_any (w : World) :
    Calls Tryd.prog 53 #[.int .i64 256] w fun e w' => e = .returned (.int .i64 9) ∧ w = w' := by
  go_enter Tryd.func53, Tryd.ntmps53
  go_wp2
  go_ret
  exact ⟨rfl, rfl⟩
theorem header_any (s : Int) (w : World) (h0 : 0 ≤ s) (h1 : s ≤ 8) :
    Calls Tryd.prog 54 #[.int .i64 s] w fun e w' => e = .returned (.int .i64 (104 + 16 * s)) ∧ w = w' := by
  go_enter Tryd.func54, Tryd.ntmps54
  go_wp2
  go_ret
  exact ⟨rfl, rfl⟩
theorem kind_any (p : Page) (w : World) (h0 : 0 ≤ p.d0) (h1 : p.d0 ≤ 18446744073709551615) :
    Calls Tryd.prog 38 #[p.v] w fun e w' => e = .returned (.int .i64 (p.d0 % 256)) ∧ Below w.heap.size w w' := by
  have e3 : (p.d0.tmod 256) = p.d0 % 256 := Int.tmod_eq_emod_of_nonneg h0
  go_enter Tryd.func38, Tryd.ntmps38
  go_wp2
  go_ret
  exact ⟨rfl, (by repeat (first | exact Below.refl _ _ | assumption | (refine bl_al ?_ _) | (refine bl_dr ?_ _) | (refine bl_on ?_ (by assumption))))⟩
theorem aux_any (p : Page) (w : World) (h0 : 0 ≤ p.d0) (h1 : p.d0 ≤ 18446744073709551615) :
    Calls Tryd.prog 49 #[p.v] w fun e w' => e = .returned (.int .u32 (p.d0 / 4294967296)) ∧ Below w.heap.size w w' := by
  go_enter Tryd.func49, Tryd.ntmps49
  go_wp2
  go_ret
  exact ⟨rfl, (by repeat (first | exact Below.refl _ _ | assumption | (refine bl_al ?_ _) | (refine bl_dr ?_ _) | (refine bl_on ?_ (by assumption))))⟩
theorem rlocked_any (p : Page) (w : World) (h0 : 0 ≤ p.head) (h1 : p.head ≤ 18446744073709551615) :
    Calls Tryd.prog 40 #[p.v] w fun e w' => e = .returned (.bool (p.head % 256 != 0)) ∧ Below w.heap.size w w' := by
  have e3 := hide (show p.head.tmod 256 = p.head % 256 from Int.tmod_eq_emod_of_nonneg h0)
  go_enter Tryd.func40, Tryd.ntmps40
  go_wp2
  go_ret
  exact ⟨ret_bool (by simp [e3.out, bne]), (by repeat (first | exact Below.refl _ _ | assumption | (refine bl_al ?_ _) | (refine bl_dr ?_ _) | (refine bl_on ?_ (by assumption))))⟩
theorem cacheable_any (p : Page) (w : World) (h0 : 0 ≤ p.head) (h1 : p.head ≤ 18446744073709551615) :
    Calls Tryd.prog 22 #[p.v] w fun e w' => e = .returned (.bool (cachable p)) ∧ Below w.heap.size w w' := by
  go_enter Tryd.func22, Tryd.ntmps22
  go_wp2_with (go_at_call 40; refine (rlocked_any p _ h0 h1).mono ?_; rintro e w1 ⟨rfl, hb1⟩)
  all_goals go_ret
  all_goals refine ⟨ret_bool (by first | (simp [cachable, *, bne]; done) | (have hq := ‹256 ≤ p.line›; simp [cachable]; omega) | (have hq := ‹p.line < 96›; simp [cachable]; omega) | (simp_all [cachable]; done) | (simp_all [cachable]; omega) | (simp [cachable]; omega)), (by repeat (first | exact Below.refl _ _ | assumption | (refine bl_al ?_ _) | (refine bl_dr ?_ _) | (refine bl_on ?_ (by assumption))))⟩
end Go.Proofs.YtkodkbjmeepbiaaDoor
