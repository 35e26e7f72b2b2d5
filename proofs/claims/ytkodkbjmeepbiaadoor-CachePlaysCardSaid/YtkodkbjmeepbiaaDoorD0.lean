/- Plain laws on bits of words, as sums and remainders. Conditions: the words are in range; no program in sight. -/
import Derived.Test.YtkodkbjmeepbiaaDoorB
set_option linter.unusedVariables false
set_option linter.unusedSimpArgs false
namespace Go.Proofs.YtkodkbjmeepbiaaDoor
open Go.RowKit

theorem nat_or (a b n : Nat) (h : a < 2 ^ n) : a ||| (b * 2 ^ n) = a + b * 2 ^ n := by
  have := Nat.two_pow_add_eq_or_of_lt h b
  rw [Nat.mul_comm b, Nat.or_comm, ← this, Nat.add_comm]
theorem or64 (a b : Int) (n : Nat) (M : Int) (hM : M = ((2 ^ n : Nat) : Int)) (h0 : 0 ≤ a) (h1 : a < M) (hb : 0 ≤ b) (h2 : b * M < 18446744073709551616) (hM2 : M ≤ 18446744073709551616) : bits .or .u64 a (b * M) = a + b * M := by
  have e : b * M = ((b.toNat * 2 ^ n : Nat) : Int) := by rw [hM]; push_cast; rw [Int.toNat_of_nonneg hb]
  have ha : a = ((a.toNat : Nat) : Int) := by omega
  rw [u64_or a (b * M) h0 (by omega) (by rw [e]; omega) h2, e, Int.toNat_natCast, nat_or a.toNat b.toNat n (by omega)]
  push_cast
  omega
theorem or32 (a b : Int) (n : Nat) (M : Int) (hM : M = ((2 ^ n : Nat) : Int)) (h0 : 0 ≤ a) (h1 : a < M) (hb : 0 ≤ b) (h2 : b * M < 4294967296) (hM2 : M ≤ 4294967296) : bits .or .u32 a (b * M) = a + b * M := by
  have e : b * M = ((b.toNat * 2 ^ n : Nat) : Int) := by rw [hM]; push_cast; rw [Int.toNat_of_nonneg hb]
  have ha : a = ((a.toNat : Nat) : Int) := by omega
  rw [u32_or a (b * M) h0 (by omega) (by rw [e]; omega) h2, e, Int.toNat_natCast, nat_or a.toNat b.toNat n (by omega)]
  push_cast
  omega
theorem or32_sym (a b : Int) (h0 : 0 ≤ a) (h1 : a < 4294967296) (h2 : 0 ≤ b) (h3 : b < 4294967296) : bits .or .u32 a b = bits .or .u32 b a := by
  rw [u32_or a b h0 h1 h2 h3, u32_or b a h2 h3 h0 h1, Nat.or_comm]
theorem or64_sym (a b : Int) (h0 : 0 ≤ a) (h1 : a < 18446744073709551616) (h2 : 0 ≤ b) (h3 : b < 18446744073709551616) : bits .or .u64 a b = bits .or .u64 b a := by
  rw [u64_or a b h0 h1 h2 h3, u64_or b a h2 h3 h0 h1, Nat.or_comm]
theorem mask64 (a : Int) (n : Nat) (M : Int) (hM : M + 1 = ((2 ^ n : Nat) : Int)) (h0 : 0 ≤ a) (h1 : a < 18446744073709551616) (hM2 : M < 18446744073709551616) : bits .and .u64 a M = a % (M + 1) := by
  have hp : 0 < 2 ^ n := Nat.two_pow_pos n
  rw [u64_and a M h0 h1 (by omega) hM2]
  have : M.toNat = 2 ^ n - 1 := by omega
  rw [this, Nat.and_two_pow_sub_one_eq_mod, hM]
  have ha : a = ((a.toNat : Nat) : Int) := by omega
  rw [ha]; push_cast; simp
theorem mask32 (a : Int) (n : Nat) (M : Int) (hM : M + 1 = ((2 ^ n : Nat) : Int)) (h0 : 0 ≤ a) (h1 : a < 4294967296) (hM2 : M < 4294967296) : bits .and .u32 a M = a % (M + 1) := by
  have hp : 0 < 2 ^ n := Nat.two_pow_pos n
  rw [u32_and a M h0 h1 (by omega) hM2]
  have : M.toNat = 2 ^ n - 1 := by omega
  rw [this, Nat.and_two_pow_sub_one_eq_mod, hM]
  have ha : a = ((a.toNat : Nat) : Int) := by omega
  rw [ha]; push_cast; simp
theorem nat_and_bit (a n : Nat) : a &&& 2 ^ n = a / 2 ^ n % 2 * 2 ^ n := by
  have h2 : (a / 2 ^ n) % 2 = 0 ∨ (a / 2 ^ n) % 2 = 1 := by omega
  have ht := Nat.testBit_eq_decide_div_mod_eq (x := a) (i := n)
  rcases h2 with h2 | h2
  · rw [h2, Nat.zero_mul]
    apply Nat.eq_of_testBit_eq
    intro i
    rw [Nat.testBit_and, Nat.testBit_two_pow]
    by_cases hi : n = i
    · subst hi; simp [ht, h2]
    · simp [hi]
  · rw [h2, Nat.one_mul]
    apply Nat.eq_of_testBit_eq
    intro i
    rw [Nat.testBit_and, Nat.testBit_two_pow]
    by_cases hi : n = i
    · subst hi; simp [ht, h2]
    · simp [hi]
theorem bit32 (a : Int) (n : Nat) (M : Int) (hM : M = ((2 ^ n : Nat) : Int)) (h0 : 0 ≤ a) (h1 : a < 4294967296) (hM2 : M < 4294967296) : bits .and .u32 a M = a / M % 2 * M := by
  have hp : 0 < 2 ^ n := Nat.two_pow_pos n
  rw [u32_and a M h0 h1 (by omega) hM2]
  have : M.toNat = 2 ^ n := by omega
  have ha : a = ((a.toNat : Nat) : Int) := by omega
  rw [this, nat_and_bit, hM]
  generalize a.toNat = t at ha
  subst ha
  push_cast
  rfl
theorem wrap64_id (a : Int) (h0 : 0 ≤ a) (h1 : a < 9223372036854775808) : wrap64 a = a := by unfold wrap64; omega
end Go.Proofs.YtkodkbjmeepbiaaDoor
