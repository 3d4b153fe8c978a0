/- Plain: what the operations come to at values of so many bits; the ring, the sets. -/
import Derived.Test.YtafhnkhcbfilaaaB9
namespace Go.Proofs.Ytafhnkhcbfilaaa
open Go.RowKit
set_option linter.unusedVariables false
set_option linter.unusedSimpArgs false

theorem mayB_nat {k v : Nat} (h0 : 0 < k) (h : k ≤ 64) (hv : v < 2 ^ k) : mayB (k : Int) v = true := by
  have hm := mask_pow k h0 h
  simp only [mayB, decide_eq_true_eq]
  omega

theorem lt64 {k v : Nat} (h : k ≤ 64) (hv : v < 2 ^ k) : v < 18446744073709551616 :=
  Nat.lt_of_lt_of_le hv (by have := Nat.pow_le_pow_right (n := 2) (by omega) h; simpa using this)

theorem mod64 (k a : Nat) (h : k ≤ 64) : a % 18446744073709551616 % 2 ^ k = a % 2 ^ k := by
  refine Nat.mod_mod_of_dvd a ?_
  have : (18446744073709551616 : Nat) = 2 ^ 64 := rfl
  rw [this]
  exact Nat.pow_dvd_pow 2 h

def BinC (op wa : Int) (va : Nat) (wb : Int) (vb : Nat) (w : Int) (v : Nat) : Prop :=
  ∀ W, Calls Try.prog 25 #[.int .i64 op, .agg #[.int .i64 wa, .int .u64 va], .agg #[.int .i64 wb, .int .u64 vb]] W fun e W' => e = .returned (.agg #[.int .i64 w, .int .u64 v]) ∧ Below W.heap.size W W'
def UnC (op wa : Int) (va : Nat) (w : Int) (v : Nat) : Prop :=
  ∀ W, Calls Try.prog 26 #[.int .i64 op, .agg #[.int .i64 wa, .int .u64 va]] W fun e W' => e = .returned (.agg #[.int .i64 w, .int .u64 v]) ∧ Below W.heap.size W W'

theorem binC (op : Int) (k va vb : Nat) (v : Nat) (h0 : 0 < k) (h : k ≤ 64) (ha : va < 2 ^ k) (hb : vb < 2 ^ k) (ho : 11 ≤ op ∧ op ≤ 16) (hv : rawV op k va vb = v) : BinC op k va k vb k v := by
  intro W
  refine (lawBin_any op k k va vb W (lt64 h ha) (lt64 h hb)).mono fun e W' r => ⟨?_, r.2⟩
  have hk : binOk op k va k vb = true := by
    simp only [binOk, mayB_nat h0 h ha, mayB_nat h0 h hb, Bool.true_and, Bool.or_eq_true, Bool.and_eq_true, decide_eq_true_eq, true_and, and_true]
    omega
  rw [r.1, binW, binV, hk, if_pos rfl, if_pos rfl, hv, if_neg (by omega)]

theorem binC1 (op : Int) (k va vb : Nat) (v : Nat) (h0 : 0 < k) (h : k ≤ 64) (ha : va < 2 ^ k) (hb : vb < 2 ^ k) (ho : 19 ≤ op ∧ op ≤ 24 ∨ 19 ≤ op ∧ op ≤ 26 ∧ k = 1) (hv : rawV op k va vb = v) : BinC op k va k vb 1 v := by
  intro W
  refine (lawBin_any op k k va vb W (lt64 h ha) (lt64 h hb)).mono fun e W' r => ⟨?_, r.2⟩
  have hk : binOk op k va k vb = true := by
    simp only [binOk, mayB_nat h0 h ha, mayB_nat h0 h hb, Bool.true_and, Bool.or_eq_true, Bool.and_eq_true, decide_eq_true_eq, true_and, and_true]
    omega
  rw [r.1, binW, binV, hk, if_pos rfl, if_pos rfl, hv, if_pos (by omega)]

theorem unC (op : Int) (k va v w : Nat) (h0 : 0 < k) (h : k ≤ 64) (ha : va < 2 ^ k) (ho : 1 ≤ op ∧ op ≤ 5 ∨ op = 6 ∧ k = 1) (hw : (if op ≤ 2 then k else 1) = w) (hv : unV op k va = v) : UnC op k va w v := by
  intro W
  refine (lawUn_any op k va W (lt64 h ha)).mono fun e W' r => ⟨?_, r.2⟩
  have hk : unOk op k va = true := by
    simp only [unOk, mayB_nat h0 h ha, Bool.true_and, Bool.or_eq_true, Bool.and_eq_true, decide_eq_true_eq]
    omega
  rw [r.1, unW, hk, if_pos rfl, hv, ← hw]
  split <;> rfl


theorem add_c {k x y : Nat} (h0 : 0 < k) (h : k ≤ 64) (hx : x < 2 ^ k) (hy : y < 2 ^ k) : BinC 14 k x k y k ((x + y) % 2 ^ k : Nat) :=
  binC 14 k x y _ h0 h hx hy (by omega) (by show _ &&& mask (k : Int) = _; rw [and_mask k _ h0 h, mod64 _ _ h])
theorem mul_c {k x y : Nat} (h0 : 0 < k) (h : k ≤ 64) (hx : x < 2 ^ k) (hy : y < 2 ^ k) : BinC 16 k x k y k (x * y % 2 ^ k : Nat) :=
  binC 16 k x y _ h0 h hx hy (by omega) (by show _ &&& mask (k : Int) = _; rw [and_mask k _ h0 h, mod64 _ _ h])
theorem sub_c {k x y : Nat} (h0 : 0 < k) (h : k ≤ 64) (hx : x < 2 ^ k) (hy : y < 2 ^ k) : BinC 15 k x k y k ((x + (2 ^ k - y)) % 2 ^ k : Nat) :=
  binC 15 k x y _ h0 h hx hy (by omega) (by
    show _ &&& mask (k : Int) = _
    rw [and_mask k _ h0 h, mod64 _ _ h]
    obtain ⟨c, hc⟩ : (2 ^ k : Nat) ∣ 18446744073709551616 := by
      have : (18446744073709551616 : Nat) = 2 ^ 64 := rfl
      rw [this]
      exact Nat.pow_dvd_pow 2 h
    have hc0 : 0 < c := by
      rcases Nat.eq_zero_or_pos c with rfl | hc0
      · simp at hc
      · exact hc0
    obtain ⟨c, rfl⟩ : ∃ d, c = d + 1 := ⟨c - 1, by omega⟩
    rw [hc, Nat.mul_add, Nat.mul_one, show x + (2 ^ k * c + 2 ^ k - y) = x + (2 ^ k - y) + 2 ^ k * c by omega, Nat.add_mul_mod_self_left])
theorem and_c {k x y : Nat} (h0 : 0 < k) (h : k ≤ 64) (hx : x < 2 ^ k) (hy : y < 2 ^ k) : BinC 11 k x k y k (x &&& y : Nat) := binC 11 k x y _ h0 h hx hy (by omega) rfl
theorem or_c {k x y : Nat} (h0 : 0 < k) (h : k ≤ 64) (hx : x < 2 ^ k) (hy : y < 2 ^ k) : BinC 12 k x k y k (x ||| y : Nat) := binC 12 k x y _ h0 h hx hy (by omega) rfl
theorem xor_c {k x y : Nat} (h0 : 0 < k) (h : k ≤ 64) (hx : x < 2 ^ k) (hy : y < 2 ^ k) : BinC 13 k x k y k (x ^^^ y : Nat) := binC 13 k x y _ h0 h hx hy (by omega) rfl


theorem un_val {k x : Nat} (h0 : 0 < k) (h : k ≤ 64) (hx : x < 2 ^ k) (op : Int) (ho : 1 ≤ op ∧ op ≤ 5 ∨ op = 6 ∧ k = 1) : unOk op k x = true := by
  simp only [unOk, mayB_nat h0 h hx, Bool.true_and, Bool.or_eq_true, Bool.and_eq_true, decide_eq_true_eq]
  omega
theorem not_c {k x : Nat} (h0 : 0 < k) (h : k ≤ 64) (hx : x < 2 ^ k) : UnC 1 k x k (2 ^ k - 1 - x : Nat) :=
  unC 1 k x _ k h0 h hx (by omega) (by simp) (by rw [unV, if_pos (un_val h0 h hx 1 (by omega)), if_pos rfl, mask_pow k h0 h])
theorem neg_c {k x : Nat} (h0 : 0 < k) (h : k ≤ 64) (hx : x < 2 ^ k) : UnC 2 k x k ((2 ^ k - x) % 2 ^ k : Nat) :=
  unC 2 k x _ k h0 h hx (by omega) (by simp) (by
    rw [unV, if_pos (un_val h0 h hx 2 (by omega)), if_neg (by decide), if_pos rfl, and_mask k _ h0 h, mod64 _ _ h]
    obtain ⟨c, hc⟩ : (2 ^ k : Nat) ∣ 18446744073709551616 := by
      have : (18446744073709551616 : Nat) = 2 ^ 64 := rfl
      rw [this]
      exact Nat.pow_dvd_pow 2 h
    have hc0 : 0 < c := by
      rcases Nat.eq_zero_or_pos c with rfl | hc0
      · simp at hc
      · exact hc0
    obtain ⟨c, rfl⟩ : ∃ d, c = d + 1 := ⟨c - 1, by omega⟩
    rw [hc, Nat.mul_add, Nat.mul_one, show 2 ^ k * c + 2 ^ k - x = (2 ^ k - x) + 2 ^ k * c by omega, Nat.add_mul_mod_self_left])
theorem allOf_c {k x : Nat} (h0 : 0 < k) (h : k ≤ 64) (hx : x < 2 ^ k) : UnC 3 k x 1 (bitN (decide (x = 2 ^ k - 1))) :=
  unC 3 k x _ 1 h0 h hx (by omega) (by simp) (by rw [unV, if_pos (un_val h0 h hx 3 (by omega)), if_neg (by decide), if_neg (by decide), if_pos rfl, mask_pow k h0 h])
theorem anyOf_c {k x : Nat} (h0 : 0 < k) (h : k ≤ 64) (hx : x < 2 ^ k) : UnC 4 k x 1 (bitN (decide (x ≠ 0))) :=
  unC 4 k x _ 1 h0 h hx (by omega) (by simp) (by rw [unV, if_pos (un_val h0 h hx 4 (by omega)), if_neg (by decide), if_neg (by decide), if_neg (by decide), if_pos rfl])
theorem odd_c {k x : Nat} (h0 : 0 < k) (h : k ≤ 64) (hx : x < 2 ^ k) : UnC 5 k x 1 (bitN (oddN 64 x)) :=
  unC 5 k x _ 1 h0 h hx (by omega) (by simp) (by rw [unV, if_pos (un_val h0 h hx 5 (by omega)), if_neg (by decide), if_neg (by decide), if_neg (by decide), if_neg (by decide), if_pos rfl])

theorem bitN_lt2 (b : Bool) : bitN b < 2 ^ 1 := by cases b <;> decide

theorem no_c (b : Bool) : UnC 6 1 (bitN b) 1 (bitN (!b)) := by
  have := unC 6 1 (bitN b) (bitN (!b)) 1 (by omega) (by omega) (bitN_lt2 b) (by omega) (by decide) (by cases b <;> decide)
  simpa using this

end Go.Proofs.Ytafhnkhcbfilaaa
