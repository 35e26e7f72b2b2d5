/- The two readings of a node agree above the leaves. No program in sight. -/
import Derived.Test.YtkodkbjmeepbiaaDoorG6
set_option linter.unusedVariables false
set_option linter.unusedSimpArgs false
namespace Go.Proofs.YtkodkbjmeepbiaaDoor
open Go.RowKit

theorem good_rising (L high : Int) (hL : 0 < L) : ∀ (es : List Ent) (prev : Int) (fst : Bool), (fst = true → prev = 0) → 0 ≤ prev → goodL L high prev fst es = (risingL prev es && es.all (fun e => decide (e.key ≤ high))) := by
  intro es
  induction es with
  | nil => intro prev fst _ _; rfl
  | cons e r ih =>
    intro prev fst hf hp
    have hL0 : ¬ L = 0 := by omega
    simp only [goodL, risingL, List.all_cons, entBad]
    by_cases h1 : e.key < 1
    · have : e.key ≤ prev := by omega
      simp [h1, this]
    · by_cases h2 : high < e.key
      · have : ¬ e.key ≤ high := by omega
        simp [h2, this]
      · cases h3 : okPtr e.line e.gen with
        | false => simp
        | true =>
          by_cases h4 : e.key ≤ prev
          · cases fst with
            | true => have := hf rfl; omega
            | false => simp [h4]
          · rw [ih e.key false (by simp) (by omega)]
            have h5 : e.key ≤ high := by omega
            have h6 : ¬ (e.key : Int) < 1 := h1
            simp [h1, h2, h4, h5, hL0]
theorem rising_last : ∀ (es : List Ent) (prev : Int), risingL prev es = true → es.all (fun e => decide (e.key ≤ lastKey prev es)) = true ∧ prev ≤ lastKey prev es := by
  intro es
  induction es with
  | nil => intro prev _; exact ⟨rfl, Int.le_refl _⟩
  | cons e r ih =>
    intro prev h
    simp only [risingL, Bool.and_eq_true, Bool.not_eq_true', decide_eq_false_iff_not] at h
    obtain ⟨h1, h2⟩ := ih e.key h.2
    simp only [lastKey, List.all_cons, Bool.and_eq_true, decide_eq_true_eq]
    exact ⟨⟨decide_eq_true h2, h1⟩, by omega⟩
theorem rising_ok : ∀ (es : List Ent) (prev : Int), risingL prev es = true → ∀ e ∈ es, okPtr e.line e.gen = true := by
  intro es
  induction es with
  | nil => intro _ _ e he; cases he
  | cons a r ih =>
    intro prev h e he
    simp only [risingL, Bool.and_eq_true] at h
    rcases List.mem_cons.1 he with rfl | he
    · exact h.1.2
    · exact ih _ h.2 e he

/-- Above the leaves the two tests of a node agree. -/
theorem nodes_agree (L : Int) (lm dead : Bool) (high rl rg : Int) (es : List Ent) (hL : 0 < L) (hh : 0 ≤ high) : nodeOk L lm dead high rl rg es = rnodeOk L lm dead high rl rg es := by
  have hL0 : ¬ L = 0 := by omega
  unfold nodeOk rnodeOk
  rw [good_rising L high hL es 0 true (fun _ => rfl) (Int.le_refl _)]
  simp only [hL, if_true, decide_true, Bool.true_and, hL0, decide_false, Bool.false_and, Bool.or_false]
  by_cases h1 : risingL 0 es = true
  · obtain ⟨h2, h3⟩ := rising_last es 0 h1
    by_cases h4 : lastKey 0 es = high
    · rw [h4] at h2 h3
      by_cases h5 : es.length = 0
      · have : lastKey 0 es = 0 := by rw [List.eq_nil_of_length_eq_zero h5]; rfl
        have h6 : high = 0 := by omega
        simp [h6]
      · have e1 : decide (high ≠ 0) = decide (1 ≤ high) := by
          rw [decide_eq_decide]
          omega
        rw [h2, h4, e1]
        simp only [h1, h5, decide_false, decide_true, Bool.not_true, Bool.or_false, Bool.not_false, Bool.and_true, Bool.true_and]
        cases decide (L ≤ 8) <;> cases decide (1 ≤ high) <;> cases decide (rl = 0 ∧ rg = 0) <;> cases decide (high = 4294967295) <;> cases okPtr rl rg <;> cases decide (es.length ≤ 5) <;> cases dead <;> rfl
    · simp [h4]
  · have h1' : risingL 0 es = false := by simpa using h1
    simp [h1']

theorem enc_dec {x : Int} (h0 : 0 ≤ x) (ho : okPtr (x % 256) (x % 4294967296 / 256) = true) : encE (decE x) = x := by
  unfold encE decE packP
  simp only [ho, if_true]
  omega
theorem encAt_ents {p : Page} {n j : Nat} (hj : j < n) (hn : n ≤ 5) (hw : ∀ x ∈ wordsP p, 0 ≤ x ∧ x ≤ 18446744073709551615) (ho : ∀ e ∈ entsP p n, okPtr e.line e.gen = true) (hjw : j < (wordsP p).length) : encAt (entsP p n) n j = (wordsP p)[j] := by
  have hl := entsP_len (p := p) hn
  have hj2 : j < (entsP p n).length := by omega
  have he : (entsP p n)[j] = decE (wordsP p)[j] := by simp [entsP]
  have h1 := ho _ (List.getElem_mem hj2)
  rw [he] at h1
  unfold encAt
  rw [dif_pos hj2, if_pos hj, he]
  exact enc_dec (hw _ (List.getElem_mem hjw)).1 h1
theorem encAt_out {p : Page} {n j : Nat} (hj : n ≤ j) : encAt (entsP p n) n j = 0 := by
  unfold encAt
  split
  · rw [if_neg (by omega)]
  · rfl
theorem aux_back (a : Int) (h : 0 ≤ a) (lm dd : Bool) (h1 : lm = decide (a / 65536 % 2 = 1)) (h2 : dd = decide (a / 131072 % 2 = 1)) (n : Nat) (hn : (n : Int) = a / 256 % 256) : (auxOf (a % 256) n lm dd = a) ↔ a / 262144 = 0 := by
  unfold auxOf
  subst h1 h2
  have e1 : a / 65536 % 2 = 0 ∨ a / 65536 % 2 = 1 := by omega
  have e2 : a / 131072 % 2 = 0 ∨ a / 131072 % 2 = 1 := by omega
  rcases e1 with e1 | e1 <;> rcases e2 with e2 | e2 <;> simp [e1, e2] <;> omega

theorem hints_agree (p : Page) (hp : p.ok) : treeHint p = refHint p := by
  obtain ⟨_, ⟨hd0, hd1⟩, ⟨he0, he1⟩, hws⟩ := hp
  unfold treeHint refHint
  by_cases hk : p.d0 % 256 = 4
  case neg => simp [hk]
  by_cases hc : cntP p ≤ 5
  case neg => simp [hc]
  by_cases hl : 0 < levP p
  case neg => simp [hl]
  have hh : 0 ≤ highP p := by unfold highP; omega
  have hag := nodes_agree (levP p) (lmP p) (deadP p) (highP p) (rlP p) (rgP p) (entsP p (cntP p).toNat) hl hh
  have hnp : nodeP p = nodeOk (levP p) (lmP p) (deadP p) (highP p) (rlP p) (rgP p) (entsP p (cntP p).toNat) := rfl
  rw [← hag, ← hnp]
  cases hno : nodeP p with
  | false => simp
  | true =>
    rw [hnp] at hno
    have hc0 : 0 ≤ cntP p := by unfold cntP; omega
    obtain ⟨n, hn⟩ : ∃ n : Nat, cntP p = n := ⟨(cntP p).toNat, by omega⟩
    have hnn : (cntP p).toNat = n := by omega
    have hn5 : n ≤ 5 := by omega
    have hparts := hno
    simp only [nodeOk, Bool.and_eq_true] at hparts
    obtain ⟨⟨⟨⟨⟨⟨_, _⟩, hris⟩, _⟩, hrp⟩, _⟩, _⟩ := hparts
    rw [hnn] at hris ⊢
    have hoks := rising_ok _ _ hris
    have hlen := entsP_len (p := p) hn5
    have hrz : (p.d1 / 4294967296 = 0) ↔ (rlP p = 0 ∧ rgP p = 0) := by unfold rlP rgP; omega
    have hrw : packP (rlP p) (rgP p) = p.d1 / 4294967296 := by
      cases ho : okPtr (rlP p) (rgP p) with
      | true => simp only [packP, ho, if_true]; unfold rlP rgP; omega
      | false =>
        rw [ho] at hrp
        simp at hrp
        have := hrz.2 hrp
        simp only [packP, ho]
        simp [this]
    have hor : (decide (p.d1 / 4294967296 = 0) || okPtr (rlP p) (rgP p)) = true := by
      rw [← hrp]
      congr 1
      rw [decide_eq_decide]
      exact hrz
    have hA : ((backP p).d0 == p.d0) = decide (p.d0 / 4294967296 / 262144 = 0) := by
      have h1 := aux_back (p.d0 / 4294967296) (by omega) (lmP p) (deadP p) rfl rfl n (by rw [← hn]; rfl)
      have h2 : (backP p).d0 = p.d0 % 256 + p.d0 / 256 % 16777216 * 256 + auxOf (p.d0 / 4294967296 % 256) n (lmP p) (deadP p) * 4294967296 := by
        unfold backP fillP
        rw [hnn, hlen]
        rfl
      rw [Bool.eq_iff_iff, decide_eq_true_iff, ← h1, beq_iff_eq, h2]
      omega
    have hB : ((backP p).d1 == p.d1) = true := by
      have h2 : (backP p).d1 = highP p + packP (rlP p) (rgP p) * 4294967296 := rfl
      rw [h2, hrw, beq_iff_eq]
      unfold highP
      omega
    have hW : ∀ j (hj : j < (wordsP p).length), encAt (entsP p n) n j = if j < n then (wordsP p)[j] else 0 := fun j hj => by
      by_cases h : j < n
      · rw [if_pos h, encAt_ents h hn5 hws hoks hj]
      · rw [if_neg h, encAt_out (by omega)]
    have hC : sameData (backP p) p = (decide (p.d0 / 4294967296 / 262144 = 0) && ((encAt (entsP p n) n 0 == p.d2) && (encAt (entsP p n) n 1 == p.d3) && (encAt (entsP p n) n 2 == p.d4) && (encAt (entsP p n) n 3 == p.d5) && (encAt (entsP p n) n 4 == p.d6))) := by
      unfold sameData
      rw [hA, hB]
      unfold backP fillP
      rw [hnn, hlen]
      simp [Bool.and_assoc]
    have h0 := hW 0 (by simp [wordsP])
    have h1 := hW 1 (by simp [wordsP])
    have h2 := hW 2 (by simp [wordsP])
    have h3 := hW 3 (by simp [wordsP])
    have h4 := hW 4 (by simp [wordsP])
    simp only [wordsP, List.getElem_cons_zero, List.getElem_cons_succ] at h0 h1 h2 h3 h4
    rw [hC, h0, h1, h2, h3, h4, hor]
    have hcases : n = 0 ∨ n = 1 ∨ n = 2 ∨ n = 3 ∨ n = 4 ∨ n = 5 := by omega
    have hb : ∀ a : Int, (0 == a) = (a == 0) := fun a => Bool.beq_comm
    rcases hcases with rfl | rfl | rfl | rfl | rfl | rfl <;> simp [hk, hl, hn, zeroTo, wordsP, hb, Bool.and_assoc]
end Go.Proofs.YtkodkbjmeepbiaaDoor
