/- Plain: the laws of widths, as the answers of the operations. -/
import Derived.Test.YtafhnkhcbfilaaaP7
namespace Go.Proofs.Ytafhnkhcbfilaaa
open Go.RowKit
set_option linter.unusedVariables false
set_option linter.unusedSimpArgs false

def ExtC (op n wa : Int) (va : Nat) (w : Int) (v : Nat) (e : Int) : Prop :=
  ∀ W, Calls Try.prog 29 #[.int .i64 op, .int .i64 n, .agg #[.int .i64 wa, .int .u64 va]] W fun x W' => x = Tup w v e ∧ Below W.heap.size W W'
def SliceC (wa : Int) (va : Nat) (hi lo : Int) (w : Int) (v : Nat) (e : Int) : Prop :=
  ∀ W, Calls Try.prog 28 #[.agg #[.int .i64 wa, .int .u64 va], .int .i64 hi, .int .i64 lo] W fun x W' => x = Tup w v e ∧ Below W.heap.size W W'

theorem extC {k n x : Nat} (op : Int) (v : Nat) (h0 : 0 < k) (h : k ≤ 64) (hx : x < 2 ^ k) (n0 : 0 < n) (nn : n ≤ 64) (ho : (op = 31 ∨ op = 32) ∧ k ≤ n ∨ op = 33 ∧ n ≤ k) (hv : extV op n k x = v) : ExtC op n k x n v 0 := by
  intro W
  refine (ext_any op n k x W (lt64 h hx)).mono fun e W' r => ⟨?_, r.2⟩
  have hk : extOk op n k x = true := by
    simp only [extOk, mayB_nat h0 h hx, Bool.true_and, Bool.or_eq_true, Bool.and_eq_true, decide_eq_true_eq]
    omega
  rw [r.1, hk, if_pos rfl, if_pos rfl, hv]
  rfl

theorem sliceC {k x : Nat} (hi lo : Nat) (v : Nat) (h0 : 0 < k) (h : k ≤ 64) (hx : x < 2 ^ k) (hl : lo ≤ hi) (hh : hi < k) (hv : x / 2 ^ lo % 2 ^ (hi - lo + 1) = v) : SliceC k x hi lo ((hi - lo + 1 : Nat) : Int) v 0 := by
  intro W
  refine (slice_any k hi lo x W (lt64 h hx)).mono fun e W' r => ⟨?_, r.2⟩
  have hk : withinB k x hi lo = true := by
    simp only [withinB, mayB_nat h0 h hx, Bool.true_and, Bool.and_eq_true, decide_eq_true_eq]
    omega
  have e1 : (hi : Int) - lo + 1 = ((hi - lo + 1 : Nat) : Int) := by omega
  rw [r.1, hk, if_pos rfl, if_pos rfl, sliceV, e1, and_mask _ _ (by omega) (by omega), Int.toNat_natCast, downN, if_neg (by omega), hv]
  rfl

theorem sext_mod (k x : Nat) (h : k ≤ 64) (hx : x < 2 ^ k) : sextV k x % 2 ^ k = x := by
  unfold sextV
  split
  · exact Nat.mod_eq_of_lt hx
  · obtain ⟨c, hc⟩ : (2 ^ k : Nat) ∣ 18446744073709551616 := by
      have : (18446744073709551616 : Nat) = 2 ^ 64 := rfl
      rw [this]
      exact Nat.pow_dvd_pow 2 h
    have hM : 0 < 2 ^ k := Nat.two_pow_pos k
    have hc0 : 0 < c := by
      rcases Nat.eq_zero_or_pos c with rfl | hc0
      · simp at hc
      · exact hc0
    obtain ⟨c, rfl⟩ : ∃ d, c = d + 1 := ⟨c - 1, by omega⟩
    rw [hc, Nat.mul_add, Nat.mul_one, show 2 ^ k * c + 2 ^ k - 2 ^ k + x = x + 2 ^ k * c by omega, Nat.add_mul_mod_self_left, Nat.mod_eq_of_lt hx]

theorem top_bit (k n x : Nat) (h0 : 0 < k) (hk : k ≤ n) (hn : n ≤ 64) (hx : x < 2 ^ k) :
    sextV k x % 2 ^ n / 2 ^ (n - 1) % 2 = x / 2 ^ (k - 1) % 2 := by
  have e1 : 2 ^ k = 2 * 2 ^ (k - 1) := by rw [show k = k - 1 + 1 by omega, Nat.pow_succ, Nat.mul_comm]; rfl
  have e2 : 2 ^ n = 2 * 2 ^ (n - 1) := by rw [show n = n - 1 + 1 by omega, Nat.pow_succ, Nat.mul_comm]; rfl
  have hle : 2 ^ (k - 1) ≤ 2 ^ (n - 1) := Nat.pow_le_pow_right (by omega) (by omega)
  have hK : 0 < 2 ^ (k - 1) := Nat.two_pow_pos _
  have hN : 0 < 2 ^ (n - 1) := Nat.two_pow_pos _
  obtain ⟨c, hc⟩ : (2 ^ n : Nat) ∣ 18446744073709551616 := by
      have : (18446744073709551616 : Nat) = 2 ^ 64 := rfl
      rw [this]
      exact Nat.pow_dvd_pow 2 hn
  have hc0 : 0 < c := by
    rcases Nat.eq_zero_or_pos c with rfl | hc0
    · simp at hc
    · exact hc0
  unfold sextV
  rw [e2] at hc ⊢
  rw [e1] at hx ⊢
  generalize 2 ^ (k - 1) = K at *
  generalize 2 ^ (n - 1) = N at *
  split
  · rename_i hlt
    rw [Nat.mod_eq_of_lt (show x < 2 * N by omega), Nat.div_eq_of_lt (show x < N by omega), Nat.div_eq_of_lt hlt]
  · rename_i hge
    obtain ⟨c, rfl⟩ : ∃ d, c = d + 1 := ⟨c - 1, by omega⟩
    rw [hc, Nat.mul_add, Nat.mul_one, show 2 * N * c + 2 * N - 2 * K + x = (2 * N - 2 * K + x) + 2 * N * c by omega, Nat.add_mul_mod_self_left, Nat.mod_eq_of_lt (show 2 * N - 2 * K + x < 2 * N by omega)]
    have a1 : (2 * N - 2 * K + x) / N = 1 := Nat.div_eq_of_lt_le (by omega) (by omega)
    have a2 : x / K = 1 := Nat.div_eq_of_lt_le (by omega) (by omega)
    rw [a1, a2]

theorem widths_calls (k n x y : Nat) (h0 : 0 < k) (hk : k ≤ n) (hn : n ≤ 64) (hx : x < 2 ^ k) (hy : y < 2 ^ k) :
    ∃ q r a b s t g : Nat,
      ExtC 31 n k x n x 0 ∧ ExtC 32 n k x n q 0 ∧ ExtC 32 n k y n r 0 ∧ ExtC 33 k n x k x 0 ∧ ExtC 33 k n q k x 0 ∧
      BinC 14 n q n r n a ∧ ExtC 33 k n a k s 0 ∧ BinC 16 n q n r n b ∧ ExtC 33 k n b k t 0 ∧
      BinC 14 k x k y k s ∧ BinC 16 k x k y k t ∧
      SliceC k x ((k - 1 : Nat) : Int) ((k - 1 : Nat) : Int) (1 : Nat) g 0 ∧ SliceC n q ((n - 1 : Nat) : Int) ((n - 1 : Nat) : Int) (1 : Nat) g 0 := by
  have h : k ≤ 64 := by omega
  have n0 : 0 < n := by omega
  have hN : 0 < 2 ^ n := Nat.two_pow_pos n
  have hkn : 2 ^ k ≤ 2 ^ n := Nat.pow_le_pow_right (by omega) hk
  have dv : (2 ^ k : Nat) ∣ 2 ^ n := Nat.pow_dvd_pow 2 hk
  have lt : ∀ a, a % 2 ^ n < 2 ^ n := fun a => Nat.mod_lt _ hN
  have hx' : x < 2 ^ n := by omega
  have sx : ∀ z, z < 2 ^ k → sextV k z % 2 ^ n % 2 ^ k = z := fun z hz => by rw [Nat.mod_mod_of_dvd _ dv, sext_mod k z h hz]
  refine ⟨sextV k x % 2 ^ n, sextV k y % 2 ^ n, _, _, _, _, x / 2 ^ (k - 1) % 2, ?_, ?_, ?_, ?_, ?_, add_c n0 hn (lt _) (lt _), ?_, mul_c n0 hn (lt _) (lt _), ?_, add_c h0 h hx hy, mul_c h0 h hx hy, ?_, ?_⟩
  · exact extC 31 x h0 h hx n0 hn (by omega) (by rw [extV, if_neg (by decide), and_mask n x n0 hn, Nat.mod_eq_of_lt hx'])
  · exact extC 32 _ h0 h hx n0 hn (by omega) (by rw [extV, if_pos rfl, and_mask n _ n0 hn, Int.toNat_natCast])
  · exact extC 32 _ h0 h hy n0 hn (by omega) (by rw [extV, if_pos rfl, and_mask n _ n0 hn, Int.toNat_natCast])
  · exact extC 33 _ n0 hn hx' h0 h (by omega) (by rw [extV, if_neg (by decide), and_mask k _ h0 h, Nat.mod_eq_of_lt hx])
  · exact extC 33 _ n0 hn (lt _) h0 h (by omega) (by rw [extV, if_neg (by decide), and_mask k _ h0 h, sx x hx])
  · refine extC 33 _ n0 hn (lt _) h0 h (by omega) ?_
    rw [extV, if_neg (by decide), and_mask k _ h0 h, Nat.mod_mod_of_dvd _ dv, Nat.add_mod, sx x hx, sx y hy]
  · refine extC 33 _ n0 hn (lt _) h0 h (by omega) ?_
    rw [extV, if_neg (by decide), and_mask k _ h0 h, Nat.mod_mod_of_dvd _ dv, Nat.mul_mod, sx x hx, sx y hy]
  · have := sliceC (k - 1) (k - 1) (x / 2 ^ (k - 1) % 2) h0 h hx (by omega) (by omega) (by rw [Nat.sub_self])
    rwa [Nat.sub_self, Nat.zero_add] at this
  · have := sliceC (n - 1) (n - 1) (x / 2 ^ (k - 1) % 2) n0 hn (lt (sextV k x)) (by omega) (by omega) (by rw [Nat.sub_self]; exact top_bit k n x h0 hk hn hx)
    rwa [Nat.sub_self, Nat.zero_add] at this

end Go.Proofs.Ytafhnkhcbfilaaa
