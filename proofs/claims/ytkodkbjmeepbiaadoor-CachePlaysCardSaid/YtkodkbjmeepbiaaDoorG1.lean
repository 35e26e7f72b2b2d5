/- Walks: package btree's tests of a node. Conditions: as each theorem names them. -/
import Derived.Test.YtkodkbjmeepbiaaDoorD1
import Derived.Test.YtkodkbjmeepbiaaDoorQ
set_option linter.unusedVariables false
set_option linter.unusedSimpArgs false
namespace Go.Proofs.YtkodkbjmeepbiaaDoor
open Go.RowKit

structure Ent where
  key : Int
  line : Int
  gen : Int
deriving DecidableEq
def Ent.cells (x : Ent) : List Value := [.int .u32 x.key, .int .i64 x.line, .int .i64 x.gen]
@[reducible] def Ent.v (x : Ent) : Value := .agg #[.int .u32 x.key, .int .i64 x.line, .int .i64 x.gen]
theorem Ent.len (x : Ent) : x.cells.length = 3 := rfl
theorem Ent.one (x : Ent) : ∀ u ∈ x.cells, u.oneCell' = true := by
  intro u hu
  simp only [Ent.cells, List.mem_cons, List.not_mem_nil, or_false] at hu
  rcases hu with rfl | rfl | rfl <;> rfl
theorem Ent.at_ {w : World} {B : Nat} {A : Option Addr} {l : List Ent} (h : At w B A (l.flatMap Ent.cells)) {k : Nat} (hk : k < l.length) :
    ∃ b off, A = some ⟨b, off, none⟩ ∧ b < B ∧ w.cell? ⟨b, off + k * 3, none⟩ = some (.int .u32 l[k].key) ∧ w.cell? ⟨b, off + k * 3 + 1, none⟩ = some (.int .i64 l[k].line) ∧ w.cell? ⟨b, off + k * 3 + 2, none⟩ = some (.int .i64 l[k].gen) := by
  obtain ⟨b, off, e, hb, hc⟩ := h.get Ent.len hk (by omega)
  exact ⟨b, off, e, hb, hc 0 _ (by omega) rfl, hc 1 _ (by omega) rfl, hc 2 _ (by omega) rfl⟩
theorem Ent.lenl (l : List Ent) : (l.flatMap Ent.cells).length = l.length * 3 := flat_len _ _ Ent.len l
theorem Ent.onel (l : List Ent) : ∀ u ∈ l.flatMap Ent.cells, u.oneCell' = true := by
  intro u hu
  obtain ⟨x, _, hx⟩ := List.mem_flatMap.1 hu
  exact x.one u hx

def risingL : Int → List Ent → Bool
  | _, [] => true
  | last, e :: r => !(decide (e.key ≤ last)) && okPtr e.line e.gen && risingL e.key r
def lastKey (last : Int) : List Ent → Int
  | [] => last
  | e :: r => lastKey e.key r
theorem rising_step {es : List Ent} {k : Nat} (hk : k < es.length) (last : Int) : risingL last (es.drop k) = (!(decide (es[k].key ≤ last)) && okPtr es[k].line es[k].gen && risingL es[k].key (es.drop (k + 1))) := by
  rw [List.drop_eq_getElem_cons hk]
  rfl
theorem lastKey_get (es : List Ent) : ∀ last, (hk : 0 < es.length) → lastKey last es = (es[es.length - 1]'(by omega)).key := by
  induction es with
  | nil => intro last hk; simp at hk
  | cons e r ih =>
    intro last hk
    cases r with
    | nil => rfl
    | cons e2 r2 =>
      have := ih e.key (by simp)
      simp only [lastKey] at this ⊢
      rw [this]
      simp

theorem rising_any (v : Value) (es : List Ent) (w : World) (h : Sl w w.heap.size 3 v es.length (es.flatMap Ent.cells)) (hn : es.length ≤ 1000000) :
    Calls Tryd.prog 63 #[v] w fun e w' => e = .returned (.bool (risingL 0 es)) ∧ Below w.heap.size w w' := by
  obtain ⟨A, c, rfl, hcc, hm, hl, hat⟩ := h
  go_enter Tryd.func63, Tryd.ntmps63
  go_wp2
  go_loopw [3, 8] (fun s i wr => ∃ (k : Nat) (last : Int), k ≤ es.length ∧ i = .int .i64 k ∧ s = .int .u32 last ∧ Below w.heap.size w wr ∧ Hid (risingL last (es.drop k) = risingL 0 es)) (fun _ i _ => es.length - (intOf i).toNat)
  case atStart => exact ⟨0, 0, by omega, rfl, rfl, Below.refl _ _, rfl⟩
  case round =>
    obtain ⟨k, last, hk, rfl, rfl, hb, hr⟩ := hrel
    by_cases hlt : k < es.length
    · obtain ⟨b, off, rfl, hbB, h0, h1, h2⟩ := Ent.at_ (hat.below hb) hlt
      have HS := hide (rising_step hlt last)
      generalize es[k] = x at h0 h1 h2 HS
      by_cases hx : x.key ≤ last
      · go_wp2
        go_ret
        refine ⟨ret_bool ?_, (by repeat (first | exact Below.refl _ _ | assumption | (refine bl_al ?_ _) | (refine bl_dr ?_ _) | (refine bl_on ?_ (by assumption))))⟩
        rw [← hr.out, HS.out]
        simp [hx]
      · cases ho : okPtr x.line x.gen with
        | false =>
          have Ho := hide ho
          clear ho
          go_wp2_with (go_at_call 64; refine (okPtr_any x.line x.gen _).mono ?_; rw [Ho.out]; rintro e w1 ⟨rfl, hb1⟩)
          go_ret
          refine ⟨ret_bool ?_, (by repeat (first | exact Below.refl _ _ | assumption | (refine bl_al ?_ _) | (refine bl_dr ?_ _) | (refine bl_on ?_ (by assumption))))⟩
          rw [← hr.out, HS.out, Ho.out]
          simp
        | true =>
          have Ho := hide ho
          clear ho
          go_wp2_with (go_at_call 64; refine (okPtr_any x.line x.gen _).mono ?_; rw [Ho.out]; rintro e w1 ⟨rfl, hb1⟩; obtain ⟨k0, f0, z0⟩ := blk hb1 (new0 _ _))
          go_roundw
          case rel =>
            refine ⟨k + 1, x.key, by omega, by go_num, rfl, bl_on (bl_al hb _) hb1, ?_⟩
            show _ = _
            rw [← hr.out, HS.out, Ho.out]
            simp
            intro; omega
          case measure => simp [intOf]; omega
    · obtain rfl : k = es.length := by omega
      go_wp2
      go_ret
      refine ⟨ret_bool ?_, hb⟩
      rw [← hr.out, List.drop_length]
      rfl

/-- Can this node be stored? -/
def nodeOk (L : Int) (lm dead : Bool) (high rl rg : Int) (es : List Ent) : Bool :=
  decide (L ≤ 8) && decide (es.length ≤ 5) && risingL 0 es && decide (high ≠ 0) && (decide (rl = 0 ∧ rg = 0) || okPtr rl rg) && (decide (high = 4294967295) == decide (rl = 0 ∧ rg = 0)) &&
  (if 0 < L then !dead && decide (lastKey 0 es = high) else !(dead && (decide (0 < es.length) || lm || decide (rl = 0 ∧ rg = 0))) && decide (lastKey 0 es ≤ high) && decide (lastKey 0 es ≤ 4294967294))

/-- The package's variable 'none' holds the nil pointer. -/
def NoneIs (w : World) : Prop := w.cell? ⟨0, 0, none⟩ = some (.int .i64 0) ∧ w.cell? ⟨0, 1, none⟩ = some (.int .i64 0)
theorem NoneIs.on {w w1 : World} (h : NoneIs w) (hb : Below w.heap.size w w1) : NoneIs w1 :=
  ⟨(hb.cell (p := ⟨0, 0, none⟩) (World.block_lt_of_cell? w _ h.1)).trans h.1, (hb.cell (p := ⟨0, 1, none⟩) (World.block_lt_of_cell? w _ h.2)).trans h.2⟩

set_option maxRecDepth 100000 in
set_option maxHeartbeats 4000000 in
theorem validNode_any (L : Int) (lm dead : Bool) (high rl rg : Int) (v : Value) (es : List Ent) (w : World) (hL : 0 ≤ L) (h : Sl w w.heap.size 3 v es.length (es.flatMap Ent.cells)) (hn : es.length ≤ 5) (hg : NoneIs w) :
    Calls Tryd.prog 58 #[.agg #[.int .i64 L, .bool lm, .bool dead, .int .u32 high, .int .i64 rl, .int .i64 rg, v]] w fun e w' => e = .returned (.bool (nodeOk L lm dead high rl rg es)) ∧ Below w.heap.size w w' := by
  have hform : ∃ A c, v = .slice A es.length c := by obtain ⟨A, c, rfl, _⟩ := h; exact ⟨A, c, rfl⟩
  obtain ⟨A, c, rfl⟩ := hform
  have hL0 : ¬ L < 0 := by omega
  have hn5 : ¬ (5 : Int) < (es.length : Int) := by omega
  have HN : Hid (nodeOk L lm dead high rl rg es = (decide (L ≤ 8) && decide (es.length ≤ 5) && risingL 0 es && decide (high ≠ 0) && (decide (rl = 0 ∧ rg = 0) || okPtr rl rg) && (decide (high = 4294967295) == decide (rl = 0 ∧ rg = 0)) &&
    (if 0 < L then !dead && decide (lastKey 0 es = high) else !(dead && (decide (0 < es.length) || lm || decide (rl = 0 ∧ rg = 0))) && decide (lastKey 0 es ≤ high) && decide (lastKey 0 es ≤ 4294967294)))) := hide rfl
  have HK : Hid (∀ hk : 0 < es.length, lastKey 0 es = (es[es.length - 1]'(by omega)).key) := hide (lastKey_get es 0)
  have HK0 : Hid (es.length = 0 → lastKey 0 es = 0) := hide (fun h => by rw [List.eq_nil_of_length_eq_zero h]; rfl)
  generalize hr : risingL 0 es = r at HN
  generalize hlk : lastKey 0 es = lk at HN HK HK0
  have Hr := hide hr
  clear hr hlk
  generalize hres : nodeOk L lm dead high rl rg es = res at HN ⊢
  clear hres
  by_cases hL8 : 8 < L
  · go_enter Tryd.func58, Tryd.ntmps58
    go_wp2
    go_ret
    exact ⟨ret_bool (by rw [HN.out]; simp; omega), (by repeat (first | exact Below.refl _ _ | assumption | (refine bl_al ?_ _) | (refine bl_dr ?_ _) | (refine bl_on ?_ (by assumption))))⟩
  · go_enter Tryd.func58, Tryd.ntmps58
    go_wp2_with (go_at_call 63; refine (rising_any _ es _ (h.on (bl_al (Below.refl _ _) _)) (by omega)).mono ?_; rw [Hr.out]; rintro e w1 ⟨rfl, hb1⟩; obtain ⟨k0, f0, z0⟩ := blk hb1 (new0 _ _))
    · rename_i h1 h2
      go_ret
      exact ⟨ret_bool (by rw [HN.out]; clear HN HK HK0; simp_all; try first | rfl | omega | (rw [Bool.eq_iff_iff]; simp; omega) | (split <;> omega)), (by repeat (first | exact Below.refl _ _ | assumption | (refine bl_al ?_ _) | (refine bl_dr ?_ _) | (refine bl_on ?_ (by assumption))))⟩
    · rename_i h1 h2
      have B1 : Below w.heap.size w w1 := (by repeat (first | exact Below.refl _ _ | assumption | (refine bl_al ?_ _) | (refine bl_dr ?_ _) | (refine bl_on ?_ (by assumption))))
      have hg1 := hg.on B1
      obtain ⟨n0, n1⟩ := hg1
      have c0 := Hold.cell n0
      have c1 := Hold.cell n1
      have c2 := Hold.cell (k0 3)
      have c3 := Hold.cell (k0 4)
      have c4 := Hold.cell (k0 5)
      have H1 : ∀ t : Hold w1, Calls Tryd.prog 64 #[.agg #[.int .i64 rl, .int .i64 rg]] t.W fun e w' => e = .returned (.bool (okPtr rl rg)) ∧ ∃ t' : Hold w1, w' = t'.W := fun t => Hold.call (okPtr_any rl rg t.W)
      generalize okPtr rl rg = ok at HN H1
      have HK0' : es.length = 0 → lk = 0 := HK0.out
      have hcell : 0 < es.length → ∃ b off, A = some ⟨b, off, none⟩ ∧ b < w1.heap.size ∧ w1.cell? ⟨b, off + (es.length - 1) * 3, none⟩ = some (.int .u32 lk) := fun hk => by
        have hS := (h.below B1)
        obtain ⟨A', c', he, _, _, _, hat⟩ := hS
        injection he with e1
        subst e1
        obtain ⟨b, off, rfl, hbB, h0, _, _⟩ := Ent.at_ hat (k := es.length - 1) (by omega)
        exact ⟨b, off, rfl, Nat.lt_of_lt_of_le hbB B1.size, by rw [h0, ← HK.out hk]⟩
      have R1 := blkb hb1 (new0 _ _) (by simp)
      by_cases hz : rl = 0 ∧ rg = 0
      · obtain ⟨rfl, rfl⟩ := hz
        cases hm : (high == 4294967295) with
        | false =>
          go_wp2_with fail
          refine region_hold (by kernel_rfl) (by kernel_rfl) ?_
          repeat (go_big_quiet_step (first | exact H1 _))
          refine wpQuiet_nil ?_
          rintro _ ⟨t, rfl⟩
          go_wp2
          go_ret
          exact ⟨ret_bool (by rw [HN.out]; clear HN HK HK0; simp_all; try first | rfl | omega | (rw [Bool.eq_iff_iff]; simp; omega) | (split <;> omega)), bl_on B1 t.b⟩
        | true =>
          go_wp2_with fail
          refine region_hold (by kernel_rfl) (by kernel_rfl) ?_
          repeat (go_big_quiet_step (first | exact H1 _))
          refine wpQuiet_nil ?_
          rintro _ ⟨t, rfl⟩
          obtain ⟨k1, f1, z1⟩ := blkw (blkb t.b R1 z0)
          have n0' := c0 t
          have n1' := c1 t
          clear c0 c1 c2 c3 c4 H1 k0 f0 z0 n0 n1
          by_cases hk : 0 < es.length
          · obtain ⟨b, off, rfl, hbB, q0⟩ := hcell hk
            have q1 := Hold.cell q0 t
            have e6 : (es.length : Int) - 1 = ((es.length - 1 : Nat) : Int) := by omega
            have e7 : ((es.length - 1 : Nat) : Int) < (es.length : Int) := by omega
            have e8 : IntKind.i64.wrap (((es.length - 1 : Nat) : Int)) = ((es.length - 1 : Nat) : Int) := by rw [IntKind.wrap_i64]; omega
            have e9 : es.length - 1 < es.length := by omega
            clear hcell q0
            go_wp2
            all_goals go_ret
            all_goals exact ⟨ret_bool (by rw [HN.out]; clear HN HK HK0; simp_all; try first | rfl | omega | (rw [Bool.eq_iff_iff]; simp; omega) | (split <;> omega)), bl_on B1 t.b⟩
          · have hk2 := HK0' (by omega)
            have hk3 : es.length = 0 := by omega
            have hk4 : ¬ (0 : Int) < (es.length : Int) := by omega
            clear hcell HK0'
            go_wp2
            all_goals go_ret
            all_goals exact ⟨ret_bool (by rw [HN.out]; clear HN HK HK0; simp_all; try first | rfl | omega | (rw [Bool.eq_iff_iff]; simp; omega) | (split <;> omega)), bl_on B1 t.b⟩
      · by_cases hr0 : rl = 0
        · subst hr0
          have hrg : (rg == 0) = false := by simp at hz ⊢; exact hz
          have hrg' : rg ≠ 0 := by simp at hz; exact hz
          clear hz
          cases ok with
          | false =>
            go_wp2_with fail
            refine region_hold (by kernel_rfl) (by kernel_rfl) ?_
            repeat (go_big_quiet_step (first | exact H1 _))
            refine wpQuiet_nil ?_
            rintro _ ⟨t, rfl⟩
            go_wp2
            go_ret
            exact ⟨ret_bool (by rw [HN.out]; clear HN HK HK0; simp_all; try first | rfl | omega | (rw [Bool.eq_iff_iff]; simp; omega) | (split <;> omega)), bl_on B1 t.b⟩
          | true =>
            cases hm : (high == 4294967295) with
            | true =>
              go_wp2_with fail
              refine region_hold (by kernel_rfl) (by kernel_rfl) ?_
              repeat (go_big_quiet_step (first | exact H1 _))
              refine wpQuiet_nil ?_
              rintro _ ⟨t, rfl⟩
              go_wp2
              go_ret
              exact ⟨ret_bool (by rw [HN.out]; clear HN HK HK0; simp_all; try first | rfl | omega | (rw [Bool.eq_iff_iff]; simp; omega) | (split <;> omega)), bl_on B1 t.b⟩
            | false =>
              go_wp2_with fail
              refine region_hold (by kernel_rfl) (by kernel_rfl) ?_
              repeat (go_big_quiet_step (first | exact H1 _))
              refine wpQuiet_nil ?_
              rintro _ ⟨t, rfl⟩
              obtain ⟨k1, f1, z1⟩ := blkw (blkb t.b R1 z0)
              have n0' := c0 t
              have n1' := c1 t
              clear c0 c1 c2 c3 c4 H1 k0 f0 z0 n0 n1
              by_cases hk : 0 < es.length
              · obtain ⟨b, off, rfl, hbB, q0⟩ := hcell hk
                have q1 := Hold.cell q0 t
                have e6 : (es.length : Int) - 1 = ((es.length - 1 : Nat) : Int) := by omega
                have e7 : ((es.length - 1 : Nat) : Int) < (es.length : Int) := by omega
                have e8 : IntKind.i64.wrap (((es.length - 1 : Nat) : Int)) = ((es.length - 1 : Nat) : Int) := by rw [IntKind.wrap_i64]; omega
                have e9 : es.length - 1 < es.length := by omega
                clear hcell q0
                go_wp2
                all_goals go_ret
                all_goals exact ⟨ret_bool (by rw [HN.out]; clear HN HK HK0; simp_all; try first | rfl | omega | (rw [Bool.eq_iff_iff]; simp; omega) | (split <;> omega)), bl_on B1 t.b⟩
              · have hk2 := HK0' (by omega)
                have hk3 : es.length = 0 := by omega
                have hk4 : ¬ (0 : Int) < (es.length : Int) := by omega
                clear hcell HK0'
                go_wp2
                all_goals go_ret
                all_goals exact ⟨ret_bool (by rw [HN.out]; clear HN HK HK0; simp_all; try first | rfl | omega | (rw [Bool.eq_iff_iff]; simp; omega) | (split <;> omega)), bl_on B1 t.b⟩
        · have hrl : (rl == 0) = false := by simp [hr0]
          clear hz
          cases ok with
          | false =>
            go_wp2_with fail
            refine region_hold (by kernel_rfl) (by kernel_rfl) ?_
            repeat (go_big_quiet_step (first | exact H1 _))
            refine wpQuiet_nil ?_
            rintro _ ⟨t, rfl⟩
            go_wp2
            go_ret
            exact ⟨ret_bool (by rw [HN.out]; clear HN HK HK0; simp_all; try first | rfl | omega | (rw [Bool.eq_iff_iff]; simp; omega) | (split <;> omega)), bl_on B1 t.b⟩
          | true =>
            cases hm : (high == 4294967295) with
            | true =>
              go_wp2_with fail
              refine region_hold (by kernel_rfl) (by kernel_rfl) ?_
              repeat (go_big_quiet_step (first | exact H1 _))
              refine wpQuiet_nil ?_
              rintro _ ⟨t, rfl⟩
              go_wp2
              go_ret
              exact ⟨ret_bool (by rw [HN.out]; clear HN HK HK0; simp_all; try first | rfl | omega | (rw [Bool.eq_iff_iff]; simp; omega) | (split <;> omega)), bl_on B1 t.b⟩
            | false =>
              go_wp2_with fail
              refine region_hold (by kernel_rfl) (by kernel_rfl) ?_
              repeat (go_big_quiet_step (first | exact H1 _))
              refine wpQuiet_nil ?_
              rintro _ ⟨t, rfl⟩
              obtain ⟨k1, f1, z1⟩ := blkw (blkb t.b R1 z0)
              have n0' := c0 t
              have n1' := c1 t
              clear c0 c1 c2 c3 c4 H1 k0 f0 z0 n0 n1
              by_cases hk : 0 < es.length
              · obtain ⟨b, off, rfl, hbB, q0⟩ := hcell hk
                have q1 := Hold.cell q0 t
                have e6 : (es.length : Int) - 1 = ((es.length - 1 : Nat) : Int) := by omega
                have e7 : ((es.length - 1 : Nat) : Int) < (es.length : Int) := by omega
                have e8 : IntKind.i64.wrap (((es.length - 1 : Nat) : Int)) = ((es.length - 1 : Nat) : Int) := by rw [IntKind.wrap_i64]; omega
                have e9 : es.length - 1 < es.length := by omega
                clear hcell q0
                go_wp2
                all_goals go_ret
                all_goals exact ⟨ret_bool (by rw [HN.out]; clear HN HK HK0; simp_all; try first | rfl | omega | (rw [Bool.eq_iff_iff]; simp; omega) | (split <;> omega)), bl_on B1 t.b⟩
              · have hk2 := HK0' (by omega)
                have hk3 : es.length = 0 := by omega
                have hk4 : ¬ (0 : Int) < (es.length : Int) := by omega
                clear hcell HK0'
                go_wp2
                all_goals go_ret
                all_goals exact ⟨ret_bool (by rw [HN.out]; clear HN HK HK0; simp_all; try first | rfl | omega | (rw [Bool.eq_iff_iff]; simp; omega) | (split <;> omega)), bl_on B1 t.b⟩
    · rename_i h1
      go_ret
      exact ⟨ret_bool (by rw [HN.out]; clear HN HK HK0; simp_all; try first | rfl | omega | (rw [Bool.eq_iff_iff]; simp; omega) | (split <;> omega)), (by repeat (first | exact Below.refl _ _ | assumption | (refine bl_al ?_ _) | (refine bl_dr ?_ _) | (refine bl_on ?_ (by assumption))))⟩
end Go.Proofs.YtkodkbjmeepbiaaDoor
