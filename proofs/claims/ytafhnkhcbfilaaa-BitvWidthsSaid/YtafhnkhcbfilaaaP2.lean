/- Plain arithmetic of the layer bitv, more: how the walk spells these numbers. No program in sight. -/
import Derived.Test.YtafhnkhcbfilaaaP1
import Derived.WalkKit
namespace Go.Proofs.Ytafhnkhcbfilaaa
open Go.RowKit
set_option linter.unusedVariables false
set_option linter.unusedSimpArgs false

theorem wrap_u64 (n : Int) : IntKind.wrap .u64 n = n % 18446744073709551616 := by simp [IntKind.wrap, IntKind.bits, IntKind.signed]

theorem max_u64 : IntKind.max .u64 = ((18446744073709551615 : Nat) : Int) := rfl

theorem ofNat_two_pow (k : Nat) : ((2 : Int) ^ k) = ((2 ^ k : Nat) : Int) := by simp

theorem pow_le64 (k : Nat) (h : k ≤ 64) : 2 ^ k ≤ 18446744073709551616 := Nat.pow_le_pow_right (by omega : 0 < 2) h
theorem pow_lt64 (k : Nat) (h : k < 64) : 2 ^ k < 18446744073709551616 := Nat.pow_lt_pow_right (a := 2) (n := 64) (by omega) h

theorem xor_all (x : Nat) (h : x < 18446744073709551616) : 18446744073709551615 ^^^ x = 18446744073709551615 - x := by
  have h1 : (18446744073709551615 : Nat) = 2 ^ 64 - 1 := rfl
  apply Nat.eq_of_testBit_eq
  intro i
  rw [Nat.testBit_xor, h1, Nat.testBit_two_pow_sub_one, show (2 : Nat) ^ 64 - 1 - x = 2 ^ 64 - (x + 1) by omega, Nat.testBit_two_pow_sub_succ h]
  by_cases hi : i < 64
  · simp [hi]
  · simp only [hi, decide_false, Bool.false_and, Bool.false_bne]
    exact Nat.testBit_lt_two_pow (Nat.lt_of_lt_of_le h (Nat.pow_le_pow_right (by omega : 0 < 2) (by omega : 64 ≤ i)))

theorem not_shl (n : Int) (h0 : 0 < n) (h : n < 64) :
    bits .xor .u64 (IntKind.max .u64) (IntKind.wrap .u64 (18446744073709551615 * 2 ^ n.toNat)) = ((mask n : Nat) : Int) := by
  obtain ⟨k, rfl⟩ := Int.eq_ofNat_of_zero_le (Int.le_of_lt h0)
  rw [mask_pow k (by omega) (by omega), wrap_u64, max_u64, Int.toNat_natCast, ofNat_two_pow]
  have hp := pow_lt64 k (by omega)
  have hp0 := Nat.two_pow_pos k
  have e : (18446744073709551615 * ((2 ^ k : Nat) : Int)) % 18446744073709551616 = ((18446744073709551616 - 2 ^ k : Nat) : Int) := by
    rw [show (18446744073709551615 * ((2 ^ k : Nat) : Int)) = ((18446744073709551616 - 2 ^ k : Nat) : Int) + 18446744073709551616 * (((2 ^ k : Nat) : Int) - 1) by
      generalize 2 ^ k = p at *; omega, Int.add_mul_emod_self_left]
    generalize 2 ^ k = p at *
    omega
  rw [e, u64_xor_nat _ _ (by omega) (by omega), xor_all _ (by omega)]
  congr 1
  generalize 2 ^ k = p at *
  omega

theorem one_shl (n : Int) (h0 : 0 < n) (h : n < 64) : IntKind.wrap .u64 (IntKind.wrap .u64 (2 ^ n.toNat) - 1) = ((mask n : Nat) : Int) := by
  obtain ⟨k, rfl⟩ := Int.eq_ofNat_of_zero_le (Int.le_of_lt h0)
  rw [mask_pow k (by omega) (by omega), wrap_u64, wrap_u64, Int.toNat_natCast, ofNat_two_pow]
  have hp := pow_lt64 k (by omega)
  have hp0 := Nat.two_pow_pos k
  generalize 2 ^ k = p at *
  omega

theorem notAll (v : Nat) (h : v < 18446744073709551616) : bits .xor .u64 (IntKind.max .u64) (v : Int) = ((18446744073709551615 - v : Nat) : Int) := by
  rw [max_u64, u64_xor_nat _ _ (by omega) h, xor_all _ h]

theorem and_compl_zero (k v : Nat) (h0 : 0 < k) (h : k ≤ 64) (hv : v < 18446744073709551616) : (v &&& (18446744073709551615 - mask (k : Int)) = 0) ↔ v ≤ mask (k : Int) := by
  have hp := pow_le64 k h
  have hp0 := Nat.two_pow_pos k
  have hk := mask_pow k h0 h
  rw [hk]
  have e : (18446744073709551615 - (2 ^ k - 1)) = 2 ^ k * (2 ^ (64 - k) - 1) := by
    have := pow64 k h
    rw [Nat.mul_sub, ← this]; omega
  rw [e]
  constructor
  · intro hz
    rcases Nat.lt_or_ge v (2 ^ k) with h1 | h1
    · omega
    · exfalso
      have hs := and_split k (v % 2 ^ k) (v / 2 ^ k) 0 (2 ^ (64 - k) - 1) (Nat.mod_lt _ hp0) hp0
      rw [Nat.mod_add_div, Nat.zero_add, Nat.and_zero, Nat.zero_add, Nat.and_two_pow_sub_one_eq_mod, hz] at hs
      have hlt : v / 2 ^ k < 2 ^ (64 - k) := by
        rw [Nat.div_lt_iff_lt_mul hp0, Nat.mul_comm]
        have := pow64 k h
        omega
      rw [Nat.mod_eq_of_lt hlt] at hs
      have h2 : 0 < v / 2 ^ k := Nat.div_pos h1 hp0
      have := Nat.mul_pos hp0 h2
      omega
  · intro hle
    have hs := and_split k v 0 0 (2 ^ (64 - k) - 1) (by omega) hp0
    rw [Nat.mul_zero, Nat.add_zero, Nat.zero_add, Nat.and_zero, Nat.zero_and, Nat.mul_zero] at hs
    exact hs

theorem may_test (w : Int) (v : Nat) (h0 : 0 < w) (h : w ≤ 64) (hv : v < 18446744073709551616) : (bits .andNot .u64 (v : Int) ((mask w : Nat) : Int) == 0) = mayB w v := by
  obtain ⟨k, rfl⟩ := Int.eq_ofNat_of_zero_le (Int.le_of_lt h0)
  rw [u64_andNot_nat _ _ hv (mask_lt _)]
  have := and_compl_zero k v (by omega) (by omega) hv
  have h3 : (0 : Int) < (k : Int) := h0
  rw [Bool.eq_iff_iff, beq_iff_eq]
  simp only [mayB, decide_eq_true_eq, h3, h, true_and]
  rw [← this]
  omega

theorem may_ref (w : Int) (v : Nat) (h0 : 0 < w) (h : w ≤ 64) : decide (((mask w : Nat) : Int) < (v : Int)) = !mayB w v := by
  have h3 : (0 : Int) < w := h0
  rw [Bool.eq_iff_iff]
  simp [mayB, h3, h]

/-- the seven steps of OnesCount64, as the walk spells them -/
theorem swar_walk (v : Nat) (hv : v < 18446744073709551616) :
    swar v = swar v := rfl

end Go.Proofs.Ytafhnkhcbfilaaa
