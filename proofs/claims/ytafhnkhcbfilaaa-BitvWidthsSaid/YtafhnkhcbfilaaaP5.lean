/- Plain: other widths; bits that are set. -/
import Derived.Test.YtafhnkhcbfilaaaP4
namespace Go.Proofs.Ytafhnkhcbfilaaa
open Go.RowKit
set_option linter.unusedVariables false
set_option linter.unusedSimpArgs false

/-- the sign's copies above -/
def sextV (k v : Nat) : Nat := if v < 2 ^ (k - 1) then v else 18446744073709551616 - 2 ^ k + v

theorem sextV_lt (k v : Nat) (hv : v < 2 ^ k) (h : k ≤ 64) : sextV k v < 18446744073709551616 := by
  have := pow_le64 k h
  unfold sextV
  split <;> omega

/-- what 'uint64(int64(v<<away)>>away)' comes to -/
theorem sext_parts (k v : Nat) (h0 : 0 < k) (h : k ≤ 64) (hv : v < 2 ^ k) : ∃ s t : Int,
    IntKind.u64.wrap ((v : Int) * 2 ^ (64 - k)) = ((upN v (64 - k) : Nat) : Int) ∧ IntKind.i64.wrap ((upN v (64 - k) : Nat) : Int) = s ∧ s / 2 ^ (64 - k) = t ∧ IntKind.u64.wrap t = ((sextV k v : Nat) : Int) := by
  refine ⟨_, _, up_walk v (64 - k) (by omega), rfl, rfl, ?_⟩
  have hp0 := Nat.two_pow_pos (64 - k)
  have hp := pow64 k h
  have hk2 : 2 ^ k = 2 * 2 ^ (k - 1) := by rw [← Nat.pow_succ']; congr 1; omega
  have hq := Nat.two_pow_pos (k - 1)
  have hu : upN v (64 - k) = v * 2 ^ (64 - k) := by
    rw [upN, if_neg (by omega), Nat.mod_eq_of_lt]
    rw [hp]
    exact Nat.mul_lt_mul_of_pos_right hv hp0
  rw [hu, ofNat_two_pow]
  have hle := pow_le64 k h
  unfold sextV
  by_cases hs : v < 2 ^ (k - 1)
  · rw [if_pos hs]
    have hlt : v * 2 ^ (64 - k) < 9223372036854775808 := by
      have : v * 2 ^ (64 - k) < 2 ^ (k - 1) * 2 ^ (64 - k) := Nat.mul_lt_mul_of_pos_right hs hp0
      rw [hk2] at hp
      rw [Nat.mul_assoc] at hp
      omega
    have e : IntKind.i64.wrap ((v * 2 ^ (64 - k) : Nat) : Int) = ((v * 2 ^ (64 - k) : Nat) : Int) := by
      simp only [IntKind.wrap, IntKind.bits, IntKind.signed]
      generalize v * 2 ^ (64 - k) = x at *
      simp
      omega
    rw [e, ← Int.natCast_ediv, Nat.mul_div_cancel _ hp0, wrap_u64]
    have : v < 18446744073709551616 := by omega
    omega
  · rw [if_neg hs]
    have hge : 9223372036854775808 ≤ v * 2 ^ (64 - k) := by
      have : 2 ^ (k - 1) * 2 ^ (64 - k) ≤ v * 2 ^ (64 - k) := Nat.mul_le_mul_right _ (by omega)
      rw [hk2] at hp
      rw [Nat.mul_assoc] at hp
      omega
    have hlt : v * 2 ^ (64 - k) < 18446744073709551616 := by
      rw [hp]
      exact Nat.mul_lt_mul_of_pos_right hv hp0
    have e : IntKind.i64.wrap ((v * 2 ^ (64 - k) : Nat) : Int) = ((v : Int) - ((2 ^ k : Nat) : Int)) * ((2 ^ (64 - k) : Nat) : Int) := by
      rw [Int.sub_mul, ← Int.natCast_mul, ← Int.natCast_mul, ← hp]
      simp only [IntKind.wrap, IntKind.bits, IntKind.signed]
      generalize v * 2 ^ (64 - k) = x at *
      simp
      omega
    rw [e, Int.mul_ediv_cancel _ (by omega), wrap_u64]
    generalize 2 ^ k = q at *
    omega

def extOk (op n w : Int) (v : Nat) : Bool := mayB w v && decide (0 < n ∧ n ≤ 64) && (decide ((op = 31 ∨ op = 32) ∧ w ≤ n) || decide (op = 33 ∧ n ≤ w))
def extV (op n w : Int) (v : Nat) : Nat := if op = 32 then sextV w.toNat v &&& mask n else v &&& mask n

theorem or_split (k a b c d : Nat) (ha : a < 2 ^ k) (hc : c < 2 ^ k) : (a + 2 ^ k * b) ||| (c + 2 ^ k * d) = (a ||| c) + 2 ^ k * (b ||| d) := by
  have hac : a ||| c < 2 ^ k := Nat.or_lt_two_pow ha hc
  apply Nat.eq_of_testBit_eq
  intro i
  rw [Nat.testBit_or, Nat.add_comm a, Nat.add_comm c, Nat.add_comm (a ||| c), Nat.testBit_two_pow_mul_add _ ha, Nat.testBit_two_pow_mul_add _ hc, Nat.testBit_two_pow_mul_add _ hac]
  split <;> simp [Nat.testBit_or]

/-- the bits from l on, n of them, are y's -/
def setN (v l n y : Nat) : Nat := v % 2 ^ l + 2 ^ l * (y + 2 ^ n * (v / 2 ^ (l + n)))

theorem compl_split (k : Nat) (h : k ≤ 64) (a b : Nat) (ha : a < 2 ^ k) (hb : b < 2 ^ (64 - k)) : 18446744073709551615 - (a + 2 ^ k * b) = (2 ^ k - 1 - a) + 2 ^ k * (2 ^ (64 - k) - 1 - b) := by
  have hp := pow64 k h
  have : 2 ^ k * (2 ^ (64 - k) - 1 - b) + 2 ^ k * (b + 1) = 2 ^ k * 2 ^ (64 - k) := by rw [← Nat.mul_add]; congr 1; omega
  rw [Nat.mul_add] at this
  omega

theorem set_parts (v l n y : Nat) (hn : 0 < n) (hln : l + n ≤ 64) (hv : v < 18446744073709551616) (hy : y < 2 ^ n) :
    ((v &&& (18446744073709551615 - (mask ((l + n : Nat) : Int) &&& (18446744073709551615 - mask (l : Int))))) ||| upN y l) = setN v l n y := by
  have hl0 := Nat.two_pow_pos l
  have hn0 := Nat.two_pow_pos n
  have hml : mask (l : Int) = (2 ^ l - 1) + 2 ^ l * 0 := by
    by_cases h : l = 0
    · subst h; rfl
    · rw [mask_pow l (by omega) (by omega)]; omega
  have hmh : mask ((l + n : Nat) : Int) = (2 ^ l - 1) + 2 ^ l * (2 ^ n - 1) := by
    rw [mask_pow (l + n) (by omega) hln, Nat.pow_add, Nat.mul_sub]
    have : 2 ^ l * 1 ≤ 2 ^ l * 2 ^ n := Nat.mul_le_mul_left _ (by omega)
    omega
  have hq0 := Nat.two_pow_pos (64 - l)
  have hnl : 2 ^ n ≤ 2 ^ (64 - l) := Nat.pow_le_pow_right (by omega) (by omega)
  have e1 : 18446744073709551615 - mask (l : Int) = 0 + 2 ^ l * (2 ^ (64 - l) - 1) := by
    rw [hml, compl_split l (by omega) _ _ (by omega) (by omega)]
    congr 1; omega
  have e2 : mask ((l + n : Nat) : Int) &&& (18446744073709551615 - mask (l : Int)) = 0 + 2 ^ l * (2 ^ n - 1) := by
    rw [e1, hmh, and_split l _ _ _ _ (by omega) hl0, Nat.and_zero, Nat.and_two_pow_sub_one_eq_mod, Nat.mod_eq_of_lt (by omega)]
  rw [e2, compl_split l (by omega) _ _ hl0 (by omega)]
  have hr0 := Nat.two_pow_pos (64 - l - n)
  have e3 : 2 ^ (64 - l) - 1 - (2 ^ n - 1) = 0 + 2 ^ n * (2 ^ (64 - l - n) - 1) := by
    have : 2 ^ (64 - l) = 2 ^ n * 2 ^ (64 - l - n) := by rw [← Nat.pow_add]; congr 1; omega
    rw [this, Nat.mul_sub]; omega
  have ev : v = v % 2 ^ l + 2 ^ l * (v / 2 ^ l) := (Nat.mod_add_div v (2 ^ l)).symm
  have ev2 : v / 2 ^ l = (v / 2 ^ l) % 2 ^ n + 2 ^ n * (v / 2 ^ (l + n)) := by
    rw [Nat.pow_add, ← Nat.div_div_eq_div_mul, Nat.mod_add_div]
  have hx : v / 2 ^ (l + n) < 2 ^ (64 - l - n) := by
    rw [Nat.div_lt_iff_lt_mul (Nat.two_pow_pos _), ← Nat.pow_add, show 64 - l - n + (l + n) = 64 by omega]
    exact hv
  have hu : upN y l = 0 + 2 ^ l * y := by
    rw [upN, if_neg (by omega), Nat.mod_eq_of_lt, Nat.mul_comm, Nat.zero_add]
    have h1 : y * 2 ^ l < 2 ^ n * 2 ^ l := Nat.mul_lt_mul_of_pos_right hy hl0
    rw [← Nat.pow_add] at h1
    exact Nat.lt_of_lt_of_le h1 (pow_le64 _ (by omega))
  have e4 : v &&& (2 ^ l - 1 - 0 + 2 ^ l * (2 ^ (64 - l) - 1 - (2 ^ n - 1))) = v % 2 ^ l + 2 ^ l * (2 ^ n * (v / 2 ^ (l + n))) := by
    rw [e3]
    conv => lhs; lhs; rw [ev]
    rw [and_split l _ _ _ _ (Nat.mod_lt _ hl0) (by omega), Nat.sub_zero, Nat.and_two_pow_sub_one_eq_mod, Nat.mod_mod]
    congr 2
    conv => lhs; lhs; rw [ev2]
    rw [and_split n _ _ _ _ (Nat.mod_lt _ hn0) hn0, Nat.and_zero, Nat.zero_add, Nat.and_two_pow_sub_one_eq_mod, Nat.mod_eq_of_lt hx]
  rw [e4, hu, or_split l _ _ _ _ (Nat.mod_lt _ hl0) hl0, Nat.or_zero]
  unfold setN
  congr 2
  have := or_split n 0 (v / 2 ^ (l + n)) y 0 hn0 hy
  rw [Nat.zero_add, Nat.mul_zero, Nat.add_zero, Nat.zero_or, Nat.or_zero] at this
  exact this

theorem setN_lt (v l n y k : Nat) (hv : v < 2 ^ k) (hlk : l + n ≤ k) (hy : y < 2 ^ n) : setN v l n y < 2 ^ k := by
  have hl0 := Nat.two_pow_pos l
  have hn0 := Nat.two_pow_pos n
  have h1 : v / 2 ^ (l + n) < 2 ^ (k - l - n) := by
    rw [Nat.div_lt_iff_lt_mul (Nat.two_pow_pos _), ← Nat.pow_add, show k - l - n + (l + n) = k by omega]
    exact hv
  have h2 : y + 2 ^ n * (v / 2 ^ (l + n)) < 2 ^ n * 2 ^ (k - l - n) := by
    have : 2 ^ n * (v / 2 ^ (l + n) + 1) ≤ 2 ^ n * 2 ^ (k - l - n) := Nat.mul_le_mul_left _ h1
    rw [Nat.mul_add] at this
    omega
  have h3 : 2 ^ l * (y + 2 ^ n * (v / 2 ^ (l + n)) + 1) ≤ 2 ^ l * (2 ^ n * 2 ^ (k - l - n)) := Nat.mul_le_mul_left _ h2
  rw [Nat.mul_add, ← Nat.pow_add, ← Nat.pow_add, show l + (n + (k - l - n)) = k by omega] at h3
  have := Nat.mod_lt v hl0
  unfold setN
  omega

end Go.Proofs.Ytafhnkhcbfilaaa
