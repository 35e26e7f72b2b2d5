/- Walks: package btree's reading of a node. Conditions: as each theorem names them. -/
import Derived.Test.YtkodkbjmeepbiaaDoorG2
import Derived.Test.YtkodkbjmeepbiaaDoorA
import Derived.Deep.RegionHeld3
import Derived.Deep.DeepCutAuto
import Derived.Test.YtkodkbjmeepbiaaDoorC7
import Derived.Test.YtkodkbjmeepbiaaDoorG4
set_option linter.unusedVariables false
set_option linter.unusedSimpArgs false
namespace Go.Proofs.YtkodkbjmeepbiaaDoor
open Go.RowKit

theorem bl_drew {B : Nat} {w w1 : World} (h : Below B w w1) : Below B w w1.drew := bl_dr h 1
def decE (x : Int) : Ent := ⟨x / 4294967296, x % 256, x % 4294967296 / 256⟩
def wordsP (p : Page) : List Int := [p.d2, p.d3, p.d4, p.d5, p.d6]
def entsP (p : Page) (n : Nat) : List Ent := ((wordsP p).take n).map decE
/-- All words in range. -/
def Page.ok (p : Page) : Prop := (0 ≤ p.head ∧ p.head ≤ 18446744073709551615) ∧ (0 ≤ p.d0 ∧ p.d0 ≤ 18446744073709551615) ∧ (0 ≤ p.d1 ∧ p.d1 ≤ 18446744073709551615) ∧ ∀ x ∈ wordsP p, 0 ≤ x ∧ x ≤ 18446744073709551615
def levP (p : Page) : Int := p.d0 / 4294967296 % 256
def cntP (p : Page) : Int := p.d0 / 4294967296 / 256 % 256
def lmP (p : Page) : Bool := decide (p.d0 / 4294967296 / 65536 % 2 = 1)
def deadP (p : Page) : Bool := decide (p.d0 / 4294967296 / 131072 % 2 = 1)
def highP (p : Page) : Int := p.d1 % 4294967296
def rlP (p : Page) : Int := p.d1 / 4294967296 % 256
def rgP (p : Page) : Int := p.d1 / 4294967296 / 256
def nodeP (p : Page) : Bool := nodeOk (levP p) (lmP p) (deadP p) (highP p) (rlP p) (rgP p) (entsP p (cntP p).toNat)
def backP (p : Page) : Page := fillP p (levP p) (lmP p) (deadP p) (highP p) (rlP p) (rgP p) (entsP p (cntP p).toNat) (entsP p (cntP p).toNat).length
def sameData (p q : Page) : Bool := (p.d0 == q.d0) && (p.d1 == q.d1) && (p.d2 == q.d2) && (p.d3 == q.d3) && (p.d4 == q.d4) && (p.d5 == q.d5) && (p.d6 == q.d6)
/-- Is this the page of a node above the leaves? -/
def treeHint (p : Page) : Bool := decide (p.d0 % 256 = 4) && decide (cntP p ≤ 5) && nodeP p && sameData (backP p) p && decide (0 < levP p)

theorem entsP_succ {p : Page} {k : Nat} (hk : k < (wordsP p).length) : entsP p (k + 1) = entsP p k ++ [decE (wordsP p)[k]] := by
  unfold entsP
  rw [List.take_succ_eq_append_getElem hk, List.map_append]
  rfl
theorem entsP_len {p : Page} {k : Nat} (hk : k ≤ 5) : (entsP p k).length = k := by simp [entsP, wordsP]; omega
theorem ent_info : (Tryd.prog.info? 101).map (fun i => (i.zero, i.size, i.bytes)) = some (some (.agg #[.int .u32 0, .int .i64 0, .int .i64 0]), 3, 24) := by kernel_rfl
theorem bitB {a M : Int} (h : bits .and .u32 a M = a / M % 2 * M) (hM : 0 < M) : (bits .and .u32 a M == 0) = !decide (a / M % 2 = 1) := by
  rw [h]
  have : a / M % 2 = 0 ∨ a / M % 2 = 1 := by omega
  rcases this with h | h
  · simp [h]
  · rw [h]; simp; omega
theorem field_data (l h a b c d e f g : Int) (W : World) : (Instr.field 42 (.agg #[.int .i64 l, .int .u64 h, .int .u64 a, .int .u64 b, .int .u64 c, .int .u64 d, .int .u64 e, .int .u64 f, .int .u64 g]) 2).run Tryd.prog W = .ok (.agg #[.int .u64 a, .int .u64 b, .int .u64 c, .int .u64 d, .int .u64 e, .int .u64 f, .int .u64 g]) W := by kernel_rfl
set_option maxRecDepth 100000 in
set_option maxHeartbeats 16000000 in
theorem readNode_any (p : Page) (w : World) (hp : p.ok) (hg : NoneIs w) :
    Calls Tryd.prog 47 #[p.v] w fun e w' => ∃ (L' : Int) (b1 b2 : Bool) (hi rl rg : Int) (sA : Option Addr) (sn sc : Nat) (code : Int), e = .returned (.tuple #[.agg #[.int .i64 L', .bool b1, .bool b2, .int .u32 hi, .int .i64 rl, .int .i64 rg, .slice sA sn sc], .int .i64 code]) ∧ (decide (code = 0) && decide (0 < L')) = treeHint p ∧ Below w.heap.size w w' := by
  obtain ⟨⟨hh0, hh1⟩, ⟨hd0, hd1⟩, ⟨he0, he1⟩, hws⟩ := hp
  have ha0 : 0 ≤ p.d0 / 4294967296 ∧ p.d0 / 4294967296 < 4294967296 := by omega
  have e1 : bits .and .u32 (p.d0 / 4294967296 / 256) 255 = cntP p := mask32 _ 8 255 (by decide) (by omega) (by omega) (by omega)
  have e2 : bits .and .u32 (p.d0 / 4294967296) 255 = levP p := mask32 _ 8 255 (by decide) (by omega) (by omega) (by omega)
  have e3 := bit32 (p.d0 / 4294967296) 16 65536 (by decide) (by omega) (by omega) (by omega)
  have e4 := bit32 (p.d0 / 4294967296) 17 131072 (by decide) (by omega) (by omega) (by omega)
  have hc0 : 0 ≤ cntP p ∧ cntP p ≤ 255 := by unfold cntP; omega
  have hl0 : 0 ≤ levP p ∧ levP p ≤ 255 := by unfold levP; omega
  have HT : Hid (treeHint p = (decide (p.d0 % 256 = 4) && decide (cntP p ≤ 5) && nodeP p && sameData (backP p) p && decide (0 < levP p))) := hide rfl
  have HE3 : Hid ((bits .and .u32 (p.d0 / 4294967296) 65536 == 0) = !(lmP p)) := hide (bitB e3 (by omega))
  have HE4 : Hid ((bits .and .u32 (p.d0 / 4294967296) 131072 == 0) = !(deadP p)) := hide (bitB e4 (by omega))
  clear e3 e4
  have HU := unpackTag_any p.d0
  have HK : Hid (p.d0 % 256 = p.d0 % 256) := hide rfl
  generalize hkk : p.d0 % 256 = kk at HU HT
  generalize p.d0 / 256 % 16777216 = gg at HU
  generalize hctr : treeHint p = res at HT ⊢
  generalize hnn : nodeP p = nn at HT
  have HNN := hide hnn
  clear hkk hctr hnn HK
  generalize hcnt : cntP p = cnt at e1 hc0 HT
  have HCNT := hide hcnt
  generalize hlev : levP p = lev at e2 hl0 HT
  have HLEV := hide hlev
  clear hcnt hlev
  generalize haux : p.d0 / 4294967296 = aux at HU e1 e2 HE3 HE4 ha0
  clear haux
  by_cases hk4 : kk = 4
  · by_cases hc5 : cnt ≤ 5
    · subst hk4
      obtain ⟨n, rfl⟩ : ∃ n : Nat, cnt = (n : Int) := ⟨cnt.toNat, by omega⟩
      have hn5 : n ≤ 5 := by omega
      have hc6 : ¬ (5 : Int) < (n : Int) := by omega
      have e5 : IntKind.u32.wrap p.d1 = highP p := by simp [IntKind.wrap, IntKind.signed, IntKind.bits, highP]
      have HU2 : ∀ t, Calls Tryd.prog 57 #[.int .u32 (p.d1 / 4294967296)] t fun e w' => e = .returned (.agg #[.int .i64 (rlP p), .int .i64 (rgP p)]) ∧ Below t.heap.size t w' := fun t => unpack_any (p.d1 / 4294967296) t (by omega) (by omega)
      have hhi : 0 ≤ highP p ∧ highP p ≤ 4294967295 := by unfold highP; omega
      generalize hlm : lmP p = lm at HE3
      generalize hdd : deadP p = dd at HE4
      generalize hhp : highP p = hi at e5 hhi
      generalize hrl : rlP p = rl at HU2
      generalize hrg : rgP p = rg at HU2
      have HLM := hide hlm
      have HDD := hide hdd
      have HHP := hide hhp
      have HRL := hide hrl
      have HRG := hide hrg
      clear hlm hdd hhp hrl hrg
      go_enter Tryd.func47, Tryd.ntmps47
      go_wp2_with fail
      refine (HU _ hd0 hd1).mono ?_
      rintro e w1 ⟨rfl, hb1⟩
      have R0 := blkb hb1 (new1 _ _ _) (by simp; omega)
      have R1 := blkb hb1 (new1' _ _ _) (by simp)
      have B1 : Below w.heap.size w w1 := (by repeat (with_reducible first | assumption | exact Below.refl _ _ | (refine Below.setCell ?_ (by first | omega | (dsimp only; omega) | (simp; omega)) _) | (refine bl_al ?_ _) | (refine bl_dr ?_ _) | (refine bl_on ?_ (by assumption))))
      obtain ⟨k1, f1, z1⟩ := blkw R0
      clear hb1
      go_wp2
      clear k1 f1 z1
      have RT := new0 w1 (.cells #[.int .i64 4, .int .i64 gg, .int .u32 aux] 89 (0, 0))
      have z9 := blk_lt R1
      have z8 : w.heap.size < w1.heap.size := by omega
      replace R0 := blk_al R0 (.cells #[.int .i64 4, .int .i64 gg, .int .u32 aux] 89 (0, 0))
      replace R1 := blk_al R1 (.cells #[.int .i64 4, .int .i64 gg, .int .u32 aux] 89 (0, 0))
      replace B1 := bl_al B1 (.cells #[.int .i64 4, .int .i64 gg, .int .u32 aux] 89 (0, 0))
      have hsz : w1.heap.size < (w1.alloc (.cells #[.int .i64 4, .int .i64 gg, .int .u32 aux] 89 (0, 0))).heap.size := by simp
      generalize w1.alloc (.cells #[.int .i64 4, .int .i64 gg, .int .u32 aux] 89 (0, 0)) = W at RT R0 R1 B1 hsz ⊢
      generalize w1.heap.size = gT at RT z8 z9 hsz ⊢
      have e3' : (bits .and .u32 aux 65536 != 0) = lm := by rw [bne, HE3.out, Bool.not_not]
      have e4' : (bits .and .u32 aux 131072 != 0) = dd := by rw [bne, HE4.out, Bool.not_not]
      have e8 : IntKind.u32.wrap (p.d1 / 4294967296) = p.d1 / 4294967296 := by simp [IntKind.wrap, IntKind.signed, IntKind.bits]; omega
      have e9 : IntKind.i64.wrap lev = lev := by rw [IntKind.wrap_i64]; omega
      have HCS : Hid (∀ W', Cells [(⟨gT, 2, none⟩, .int .u32 aux), (⟨w.heap.size, 3, none⟩, .int .u64 p.d1)] W' → Cells [(⟨gT, 2, none⟩, .int .u32 aux), (⟨w.heap.size, 3, none⟩, .int .u64 p.d1)] W' ∧ W'.cell? ⟨gT, 2, none⟩ = some (.int .u32 aux) ∧ W'.cell? ⟨w.heap.size, 3, none⟩ = some (.int .u64 p.d1)) := hide (fun W' h => ⟨h, h (⟨gT, 2, none⟩, .int .u32 aux) (by simp), h (⟨w.heap.size, 3, none⟩, .int .u64 p.d1) (by simp)⟩)
      have HC0 : Hid (Cells [(⟨gT, 2, none⟩, .int .u32 aux), (⟨w.heap.size, 3, none⟩, .int .u64 p.d1)] W) := hide (by intro q hq; simp only [List.mem_cons, List.not_mem_nil, or_false] at hq; rcases hq with rfl | rfl; exact (blkw RT).1 2; exact (blkw R0).1 3)
      have HCT : Hid (∀ W' g i v, g ≠ gT → g ≠ w.heap.size → Cells [(⟨gT, 2, none⟩, .int .u32 aux), (⟨w.heap.size, 3, none⟩, .int .u64 p.d1)] W' → Cells [(⟨gT, 2, none⟩, .int .u32 aux), (⟨w.heap.size, 3, none⟩, .int .u64 p.d1)] (W'.setCell ⟨g, i, none⟩ v)) := hide (fun W' g i v h1 h2 h => Cells.set v (by intro q hq; simp only [List.mem_cons, List.not_mem_nil, or_false] at hq; rcases hq with rfl | rfl; exact fun e => h1 e.symm; exact fun e => h2 e.symm) h)
      generalize ([(⟨gT, 2, none⟩, .int .u32 aux), (⟨w.heap.size, 3, none⟩, .int .u64 p.d1)] : List (Addr × Value)) = cs at HCS HC0 HCT
      go_cut [6] (fun s6 wc => ∃ g6, s6 = .pointer (some ⟨g6, 0, none⟩) ∧ W.heap.size ≤ g6 ∧ wc.heap[g6]? = some (.cells #[.int .i64 lev, .bool lm, .bool dd, .int .u32 hi, .int .i64 rl, .int .i64 rg, .slice none 0 0] 85 (0, 0)) ∧ Below W.heap.size W wc)
      case first =>
        go_region_held3 (fun W' => Cells cs W' ∧ W'.cell? ⟨gT, 2, none⟩ = some (.int .u32 aux) ∧ W'.cell? ⟨w.heap.size, 3, none⟩ = some (.int .u64 p.d1))
          (with_reducible first
            | exact HCS.out _ (HCT.out _ _ _ _ (by omega) (by omega) (HCT.out _ _ _ _ (by omega) (by omega) (HCT.out _ _ _ _ (by omega) (by omega) (HCT.out _ _ _ _ (by omega) (by omega) (HCT.out _ _ _ _ (by omega) (by omega) (HCT.out _ _ _ _ (by omega) (by omega) (HCT.out _ _ _ _ (by omega) (by omega) (And.left (by assumption)))))))))
            | exact HCS.out _ (Cells.al (And.left (by assumption)) _)
            | exact HCS.out _ (Cells.drew HC0.out)
            | exact HCS.out _ (Cells.drew (Cells.al HC0.out _))
            | exact HCS.out _ (Cells.al HC6.out _)
            | exact HCS.out _ (Cells.below hb6 (And.left (by assumption))))
          (first
            | (go_at_call 57; refine (HU2 _).mono ?_; rintro e w6 ⟨rfl, hb6⟩; have z6 := hb6.size; (try simp at z6); have HC6 : Hid (Cells cs w6) := hide (by first | exact Cells.below hb6 (Cells.drew HC0.out) | exact Cells.below hb6 (Cells.drew (Cells.al HC0.out _))); (try (have RN6 := blkb hb6 (show ((W.alloc (.cells #[.int .i64 0, .bool false, .bool false, .int .u32 0, .int .i64 0, .int .i64 0, .slice none 0 0] 85 (0, 0))).drew).heap[W.heap.size]? = some (.cells #[.int .i64 0, .bool false, .bool false, .int .u32 0, .int .i64 0, .int .i64 0, .slice none 0 0] 85 (0, 0)) from new0 W _) (by simp); have kN6 := (blkw RN6).1; have fN6 := (blkw RN6).2.1; have RN6h := hide RN6; clear RN6)); dsimp only)
            | fail)
        all_goals (go_wp2_with fail; go_meet)
        all_goals first
          | with_reducible exact ⟨w6.heap.size, rfl, by omega, new0 w6 _, (by repeat (with_reducible first | assumption | (refine bl_drew ?_) | exact Below.refl _ _ | (refine Below.setCell ?_ (by first | omega | (dsimp only; omega) | (simp; omega)) _) | (refine bl_al ?_ _) | (refine bl_dr ?_ _) | (refine bl_on ?_ (by assumption))))⟩
          | (with_reducible refine ⟨W.heap.size, rfl, Nat.le_refl _, ?_, (by repeat (with_reducible first | assumption | (refine bl_drew ?_) | exact Below.refl _ _ | (refine Below.setCell ?_ (by first | omega | (dsimp only; omega) | (simp; omega)) _) | (refine bl_al ?_ _) | (refine bl_dr ?_ _) | (refine bl_on ?_ (by assumption))))⟩; refine Eq.trans (blk_set (i := 6) (blk_set (i := 5) (blk_set (i := 4) (blk_set (i := 3) (blk_set (i := 2) (blk_set (i := 1) (blk_set (i := 0) RN6h.out (.int .i64 lev)) (.bool lm)) (.bool dd)) (.int .u32 hi)) (.int .i64 rl)) (.int .i64 rg)) (.slice none 0 0)) ?_; simp)
      case rest =>
        obtain ⟨g6, rfl, hge, RN, hB⟩ := hcut
        have R0c := blkb hB R0 (blk_lt R0)
        have R1c := blkb hB R1 (blk_lt R1)
        have Bc := bl_on B1 hB
        clear HCS HC0 HCT R0 R1 B1 RT hB e3' e4' HU HU2
        obtain ⟨k0, f0, z0⟩ := blkw R0c
        have zN := blk_lt RN
        have e10 : IntKind.i64.wrap (2 + (n : Int)) = 2 + (n : Int) := by rw [IntKind.wrap_i64]; omega
        have e11 : (0 : Int) ≤ 2 + (n : Int) := by omega
        have e12 : 2 + (n : Int) ≤ 7 := by omega
        have e13 : (2 : Int) ≤ 2 + (n : Int) := by omega
        go_wp2
        have HR0 := hide R0c
        have HR1 := hide R1c
        have HRN := hide RN
        have zwc := Bc.size
        have zw1 : w.heap.size + 1 < wc.heap.size := blk_lt R1c
        clear R0c R1c RN k0 f0 z0
        simp only [Nat.add_sub_cancel_left]
        go_loopw [54] (fun i wr => ∃ (k : Nat) (A : Option Addr) (c : Nat), k ≤ n ∧ i = .int .i64 k ∧ Below w.heap.size w wr ∧ Hid (wr.heap[w.heap.size]? = some (.cells #[.int .i64 p.line, .int .u64 p.head, .int .u64 p.d0, .int .u64 p.d1, .int .u64 p.d2, .int .u64 p.d3, .int .u64 p.d4, .int .u64 p.d5, .int .u64 p.d6] 42 (0, 0))) ∧ Hid (wr.heap[w.heap.size + 1]? = some (.cells #[.int .i64 0, .bool false, .bool false, .int .u32 0, .int .i64 0, .int .i64 0, .slice none 0 0] 85 (0, 0))) ∧
          Hid (wr.heap[g6]? = some (.cells #[.int .i64 lev, .bool lm, .bool dd, .int .u32 hi, .int .i64 rl, .int .i64 rg, .slice A k c] 85 (0, 0))) ∧ wr.ownsRow wc.heap.size 101 3 (.slice A k c) k ((entsP p k).flatMap Ent.cells) ∧ wc.heap.size ≤ wr.heap.size) (fun i _ => n - (intOf i).toNat)
        case atStart => exact ⟨0, none, 0, by omega, rfl, Bc, HR0, HR1, HRN, World.ownsRow_nil _ _ _ _, Nat.le_refl _⟩
        case round =>
          obtain ⟨k, A, c, hk, rfl, hb, hR0, hR1, hRN, O, hsize⟩ := hrel
          clear HR0 HR1 HRN Bc
          have z6 := blk_lt hRN.out
          have z1 := blk_lt hR1.out
          have zw0 := blk_lt hR0.out
          obtain ⟨kN, fN, zN'⟩ := blkw hRN.out
          by_cases hlt : k < n
          · have hwl : k < (wordsP p).length := by simp [wordsP]; omega
            have hwx := hws (wordsP p)[k] (List.getElem_mem hwl)
            have HES := hide (entsP_succ hwl)
            have q0 : wr.cell? ⟨w.heap.size, 4 + k, none⟩ = some (.int .u64 (wordsP p)[k]) := by
              rw [(blkw hR0.out).1 (4 + k)]
              have hk5 : k = 0 ∨ k = 1 ∨ k = 2 ∨ k = 3 ∨ k = 4 := by omega
              rcases hk5 with rfl | rfl | rfl | rfl | rfl <;> rfl
            generalize (wordsP p)[k] = x at hwx HES q0
            obtain ⟨hx0, hx1⟩ := hwx
            have e14 : IntKind.u32.wrap x = x % 4294967296 := by simp [IntKind.wrap, IntKind.signed, IntKind.bits]
            have e15 : IntKind.u32.wrap (x / 4294967296) = x / 4294967296 := by simp [IntKind.wrap, IntKind.signed, IntKind.bits]; omega
            have HU3 : ∀ t, Calls Tryd.prog 57 #[.int .u32 (x % 4294967296)] t fun e w' => e = .returned (.agg #[.int .i64 (x % 256), .int .i64 (x % 4294967296 / 256)]) ∧ Below t.heap.size t w' := fun t => by rw [show x % 256 = x % 4294967296 % 256 by omega]; exact unpack_any (x % 4294967296) t (by omega) (by omega)
            have Oh := hide O
            clear O
            go_wp2
            go_region_law (first
              | (refine step_app _ rfl (.tmp 59) (.tmp 67) 83 rfl wc.heap.size 101 _ 3 24 Tryd.underlying83 ent_info rfl (by omega) (.slice A k c) k _ rfl (O6.out.alloc _) (.slice (some ⟨w6.heap.size, 0, none⟩) 1 1) 1 (decE x).cells rfl (Sl.of_own (own_single w6 _ 3 (decE x).cells rfl)) (decE x).one (by omega) (by omega) (by first | (simp; done) | (simp; omega)) ?_; intro v7 w7 O7 G7 _; have HF7 := own_form O7; obtain ⟨A7, c7, rfl, hc7⟩ := HF7; have O7h := hide O7; clear O7; have RN7 := blkg G7 (blk_al RN6.out _) (own_ne_lt O6.out (by omega)); have kN7 := (blkw RN7).1; have fN7 := (blkw RN7).2.1; have RN7h := hide RN7; clear RN7; have B7 := hide ((bl_al (bl_on (bl_drew hb) hb6) (.cells (decE x).cells.toArray 101 (0, 0))).grown G7 (by first | (simp; done) | (simp; omega)) (fun g hg => by have := own_base O6.out g hg; omega)); have R07 := hide (blkg G7 (blk_al (blkb hb6 (show wr.drew.heap[w.heap.size]? = _ from hR0.out) zw0) _) (own_ne_lt O6.out (by omega))); have R17 := hide (blkg G7 (blk_al (blkb hb6 (show wr.drew.heap[w.heap.size + 1]? = _ from hR1.out) z1) _) (own_ne_lt O6.out (by omega))); have s7 := G7.size; (try simp at s7))
              | (go_simp; go_at_call 57; refine (HU3 _).mono ?_; rintro e w6 ⟨rfl, hb6⟩; have O6 := hide (own_below (World.ownsRow.drew Oh.out) hb6); have RN6 := hide (blkb hb6 (show wr.drew.heap[g6]? = _ from hRN.out) z6); have z66 := blk_lt RN6.out; have z67 : g6 ≠ w6.heap.size := Nat.ne_of_lt z66; have kN6 := (blkw RN6.out).1; have fN6 := (blkw RN6.out).2.1; have s6 := hb6.size; (try simp at s6); dsimp only))
            all_goals go_wp2
            all_goals go_roundw
            all_goals try (case measure => simp [intOf]; omega)
            all_goals refine ⟨k + 1, A7, c7, by omega, by go_num, B7.out.setCell (by dsimp only; omega) _, blk_far R07.out (by dsimp only; omega) _, blk_far R17.out (by dsimp only; omega) _, (blk_set (i := 6) RN7h.out (.slice A7 (k + 1) c7)).trans (by simp), ?_, by simp [World.setCell]; omega⟩
            all_goals (rw [HES.out, List.flatMap_append]; refine ownsRow_setCell_below ?_ (by dsimp only; omega) _; simpa using O7h.out)
          · obtain rfl : k = n := by omega
            have hlen := entsP_len (p := p) hn5
            obtain ⟨k0, f0, z0⟩ := blkw hR0.out
            obtain ⟨k1, f1, z2⟩ := blkw hR1.out
            have HVAL : Hid (nodeOk lev lm dd hi rl rg (entsP p k) = nn) := hide (by rw [← HNN.out, nodeP, HLEV.out, HLM.out, HDD.out, HHP.out, HRL.out, HRG.out, HCNT.out]; simp)
            have HBK : Hid (fillP p lev lm dd hi rl rg (entsP p k) k = backP p) := hide (by rw [backP, HLEV.out, HLM.out, HDD.out, HHP.out, HRL.out, HRG.out, HCNT.out]; simp [hlen])
            have hSl : Sl wr wr.heap.size 3 (.slice A k c) k ((entsP p k).flatMap Ent.cells) := Sl.of_own O
            have HKR : Hid (∀ e ∈ entsP p k, 0 ≤ e.key ∧ e.key ≤ 4294967295) := hide (fun e he => by
              obtain ⟨x, hx, rfl⟩ := List.mem_map.1 he
              have := hws x (List.mem_of_mem_take hx)
              simp only [decE]
              omega)
            have H1 : ∀ t : Hold wr, Calls Tryd.prog 58 #[.agg #[.int .i64 lev, .bool lm, .bool dd, .int .u32 hi, .int .i64 rl, .int .i64 rg, .slice A k c]] t.W fun e w' => e = .returned (.bool nn) ∧ ∃ t' : Hold wr, w' = t'.W := fun t => Hold.call (by
              rw [← HVAL.out]
              exact validNode_any lev lm dd hi rl rg (.slice A k c) (entsP p k) t.W hl0.1 (by rw [hlen]; exact hSl.on t.b) (by omega) (hg.on (bl_on hb t.b)))
            have H2 : ∀ t : Hold wr, Calls Tryd.prog 59 #[.agg #[.int .i64 lev, .bool lm, .bool dd, .int .u32 hi, .int .i64 rl, .int .i64 rg, .slice A k c], p.v] t.W fun e w' => e = .returned (.agg #[.int .i64 (backP p).line, .int .u64 (backP p).head, .int .u64 (backP p).d0, .int .u64 (backP p).d1, .int .u64 (backP p).d2, .int .u64 (backP p).d3, .int .u64 (backP p).d4, .int .u64 (backP p).d5, .int .u64 (backP p).d6]) ∧ ∃ t' : Hold wr, w' = t'.W := fun t => Hold.call (by
              have HB2 := HBK.out
              have := fill_any lev lm dd hi rl rg (.slice A k c) (entsP p k) p t.W hl0.1 hl0.2 hhi.1 hhi.2 (by rw [hlen]; exact hSl.on t.b) (by omega) HKR.out hd0 hd1
              rw [hlen, HB2] at this
              exact this)
            generalize backP p = q at H2 HT
            have c0 := Hold.cell (kN 0)
            have c1 := Hold.cell (kN 1)
            have c2 := Hold.cell (kN 2)
            have c3 := Hold.cell (kN 3)
            have c4 := Hold.cell (kN 4)
            have c5 := Hold.cell (kN 5)
            have c6 := Hold.cell (kN 6)
            have d0 := Hold.cell (k0 0)
            have d1 := Hold.cell (k0 1)
            have d2 := Hold.cell (k0 2)
            have d3 := Hold.cell (k0 3)
            have d4 := Hold.cell (k0 4)
            have d5 := Hold.cell (k0 5)
            have d6 := Hold.cell (k0 6)
            have d7 := Hold.cell (k0 7)
            have d8 := Hold.cell (k0 8)
            clear HKR HBK HVAL hSl O
            have hfd := field_data
            have heq := eq_data
            go_wp2_with fail
            cases nn with
            | false =>
              refine region_hold (by kernel_rfl) (by kernel_rfl) ?_
              repeat (go_big_quiet_step (first | exact H1 _ | exact H2 _))
              refine wpQuiet_nil ?_
              rintro _ ⟨t, rfl⟩
              have R1t := blkb t.b hR1.out z1
              obtain ⟨k3, f3, z3⟩ := blkw R1t
              have Bt := bl_on hb t.b
              go_wp2
              refine bodyPost_ret (v := .tuple #[.agg #[.int .i64 0, .bool false, .bool false, .int .u32 0, .int .i64 0, .int .i64 0, .slice none 0 0], .int .i64 14]) (by simp [results, Tryd.results47, go_sem, k3, f3]) rfl ⟨0, false, false, 0, 0, 0, none, 0, 0, 14, rfl, ?_, (by repeat (with_reducible first | assumption | exact Below.refl _ _ | (refine Below.setCell ?_ (by first | omega | (dsimp only; omega) | (simp; omega)) _) | (refine bl_al ?_ _) | (refine bl_dr ?_ _) | (refine bl_on ?_ (by assumption))))⟩
              rw [HT.out]
              simp
            | true =>
              refine region_hold (by kernel_rfl) (by kernel_rfl) ?_
              repeat (go_big_quiet_step (first | exact H1 _ | exact H2 _))
              refine wpQuiet_nil ?_
              rintro _ ⟨t, rfl⟩
              have R1t := blkb t.b hR1.out z1
              obtain ⟨k3, f3, z3⟩ := blkw R1t
              have RNt := blkb t.b hRN.out z6
              obtain ⟨k4, f4, z4⟩ := blkw RNt
              have Bt := bl_on hb t.b
              go_wp2
              · rename_i hs
                have hs2 : sameData q p = false := by
                  rw [Bool.eq_false_iff]
                  intro hc
                  simp [sameData] at hc hs
                  simp_all
                refine bodyPost_ret (v := .tuple #[.agg #[.int .i64 0, .bool false, .bool false, .int .u32 0, .int .i64 0, .int .i64 0, .slice none 0 0], .int .i64 14]) (by simp [results, Tryd.results47, go_sem, k3, f3]) rfl ⟨0, false, false, 0, 0, 0, none, 0, 0, 14, rfl, ?_, (by repeat (with_reducible first | assumption | exact Below.refl _ _ | (refine Below.setCell ?_ (by first | omega | (dsimp only; omega) | (simp; omega)) _) | (refine bl_al ?_ _) | (refine bl_dr ?_ _) | (refine bl_on ?_ (by assumption))))⟩
                rw [HT.out, hs2]
                simp
              · rename_i hs
                have hs2 : sameData q p = true := by
                  simp [sameData] at hs ⊢
                  simp_all
                refine bodyPost_ret (v := .tuple #[.agg #[.int .i64 lev, .bool lm, .bool dd, .int .u32 hi, .int .i64 rl, .int .i64 rg, .slice A k c], .int .i64 0]) (by simp [results, Tryd.results47, go_sem, k3, f3]) rfl ⟨lev, lm, dd, hi, rl, rg, A, k, c, 0, rfl, ?_, (by repeat (with_reducible first | assumption | exact Below.refl _ _ | (refine Below.setCell ?_ (by first | omega | (dsimp only; omega) | (simp; omega)) _) | (refine bl_al ?_ _) | (refine bl_dr ?_ _) | (refine bl_on ?_ (by assumption))))⟩
                rw [HT.out, hs2]
                simp
                try omega
    · have hc6 : 5 < cnt := by omega
      go_enter Tryd.func47, Tryd.ntmps47
      go_wp2_with fail
      refine (HU _ hd0 hd1).mono ?_
      rintro e w1 ⟨rfl, hb1⟩
      have R1 := blkb hb1 (new1' _ _ _) (by simp)
      have B1 : Below w.heap.size w w1 := (by repeat (with_reducible first | assumption | exact Below.refl _ _ | (refine Below.setCell ?_ (by first | omega | (dsimp only; omega) | (simp; omega)) _) | (refine bl_al ?_ _) | (refine bl_dr ?_ _) | (refine bl_on ?_ (by assumption))))
      obtain ⟨k1, f1, z1⟩ := blkw R1
      go_wp2
      refine bodyPost_ret (v := .tuple #[.agg #[.int .i64 0, .bool false, .bool false, .int .u32 0, .int .i64 0, .int .i64 0, .slice none 0 0], .int .i64 14]) (by simp [results, Tryd.results47, go_sem, k1, f1, z1, Nat.ne_of_lt z1]) rfl ⟨0, false, false, 0, 0, 0, none, 0, 0, 14, rfl, ?_, (by repeat (with_reducible first | assumption | exact Below.refl _ _ | (refine Below.setCell ?_ (by first | omega | (dsimp only; omega) | (simp; omega)) _) | (refine bl_al ?_ _) | (refine bl_dr ?_ _) | (refine bl_on ?_ (by assumption))))⟩
      rw [HT.out]
      simp
      omega
  · have hk5 : (kk == 4) = false := by simp [hk4]
    go_enter Tryd.func47, Tryd.ntmps47
    go_wp2_with fail
    refine (HU _ hd0 hd1).mono ?_
    rintro e w1 ⟨rfl, hb1⟩
    have R1 := blkb hb1 (new1' _ _ _) (by simp)
    have B1 : Below w.heap.size w w1 := (by repeat (with_reducible first | assumption | exact Below.refl _ _ | (refine Below.setCell ?_ (by first | omega | (dsimp only; omega) | (simp; omega)) _) | (refine bl_al ?_ _) | (refine bl_dr ?_ _) | (refine bl_on ?_ (by assumption))))
    obtain ⟨k1, f1, z1⟩ := blkw R1
    go_wp2
    refine bodyPost_ret (v := .tuple #[.agg #[.int .i64 0, .bool false, .bool false, .int .u32 0, .int .i64 0, .int .i64 0, .slice none 0 0], .int .i64 14]) (by simp [results, Tryd.results47, go_sem, k1, f1, z1, Nat.ne_of_lt z1]) rfl ⟨0, false, false, 0, 0, 0, none, 0, 0, 14, rfl, ?_, (by repeat (with_reducible first | assumption | exact Below.refl _ _ | (refine Below.setCell ?_ (by first | omega | (dsimp only; omega) | (simp; omega)) _) | (refine bl_al ?_ _) | (refine bl_dr ?_ _) | (refine bl_on ?_ (by assumption))))⟩
    rw [HT.out]
    simp [hk4]
end Go.Proofs.YtkodkbjmeepbiaaDoor
