/- Plain: the laws of shifts, as the answers of the operations. -/
import Derived.Test.YtafhnkhcbfilaaaP7
namespace Go.Proofs.Ytafhnkhcbfilaaa
open Go.RowKit
set_option linter.unusedVariables false
set_option linter.unusedSimpArgs false

theorem shC (op : Int) (k va wb vb v : Nat) (h0 : 0 < k) (h : k ≤ 64) (ha : va < 2 ^ k) (g0 : 0 < wb) (g : wb ≤ 64) (hb : vb < 2 ^ wb) (ho : op = 17 ∨ op = 18) (hv : rawV op k va vb = v) : BinC op k va wb vb k v := by
  intro W
  refine (lawBin_any op k wb va vb W (lt64 h ha) (lt64 g hb)).mono fun e W' r => ⟨?_, r.2⟩
  have hk : binOk op k va wb vb = true := by
    simp only [binOk, mayB_nat h0 h ha, mayB_nat g0 g hb, Bool.true_and, Bool.or_eq_true, Bool.and_eq_true, decide_eq_true_eq, true_and, and_true]
    exact Or.inl ho
  rw [r.1, binW, binV, hk, if_pos rfl, if_pos rfl, hv, if_neg (by omega)]

theorem shl_c {k x wb j : Nat} (h0 : 0 < k) (h : k ≤ 64) (hx : x < 2 ^ k) (g0 : 0 < wb) (g : wb ≤ 64) (hj : j < 2 ^ wb) (hs : j < 64) : BinC 17 k x wb j k (x * 2 ^ j % 2 ^ k : Nat) :=
  shC 17 k x wb j _ h0 h hx g0 g hj (by omega) (by
    show upN x j &&& mask (k : Int) = _
    rw [and_mask k _ h0 h, upN, if_neg (by omega), mod64 _ _ h])
theorem shr_c {k x wb j : Nat} (h0 : 0 < k) (h : k ≤ 64) (hx : x < 2 ^ k) (g0 : 0 < wb) (g : wb ≤ 64) (hj : j < 2 ^ wb) (hs : j < 64) : BinC 18 k x wb j k (x / 2 ^ j : Nat) :=
  shC 18 k x wb j _ h0 h hx g0 g hj (by omega) (by
    show downN x j = _
    rw [downN, if_neg (by omega)])
theorem shl_far {k x l : Nat} (h0 : 0 < k) (h : k ≤ 64) (hx : x < 2 ^ k) (hl : l < 18446744073709551616) (hk : k ≤ l) : BinC 17 k x (64 : Nat) l k (0 : Nat) :=
  shC 17 k x 64 l _ h0 h hx (by omega) (by omega) hl (by omega) (by
    show upN x l &&& mask (k : Int) = _
    rw [and_mask k _ h0 h, upN]
    split
    · exact Nat.zero_mod _
    · rw [mod64 _ _ h]
      obtain ⟨c, rfl⟩ : ∃ c, l = k + c := ⟨l - k, by omega⟩
      rw [Nat.pow_add, Nat.mul_comm (2 ^ k), ← Nat.mul_assoc, Nat.mul_mod_left])
theorem shr_far {k x l : Nat} (h0 : 0 < k) (h : k ≤ 64) (hx : x < 2 ^ k) (hl : l < 18446744073709551616) (hk : k ≤ l) : BinC 18 k x (64 : Nat) l k (0 : Nat) :=
  shC 18 k x 64 l _ h0 h hx (by omega) (by omega) hl (by omega) (by
    show downN x l = _
    rw [downN]
    split
    · rfl
    · exact Nat.div_eq_of_lt (Nat.lt_of_lt_of_le hx (Nat.pow_le_pow_right (by omega) hk)))

theorem shifts_calls (k x j l : Nat) (h0 : 0 < k) (h : k ≤ 64) (hx : x < 2 ^ k) (hj : j < k) (hl : l < 18446744073709551616) (hk : k ≤ l) :
    ∃ r s b u v : Nat,
      BinC 15 k (2 ^ j : Nat) k (1 : Nat) k r ∧ BinC 18 k x (6 : Nat) j k s ∧ BinC 17 k s (6 : Nat) j k b ∧
      BinC 17 k x (6 : Nat) j k u ∧ BinC 16 k x k (2 ^ j : Nat) k u ∧ BinC 11 k x k r k v ∧ BinC 15 k x k v k b ∧
      BinC 17 k x (64 : Nat) l k (0 : Nat) ∧ BinC 18 k x (64 : Nat) l k (0 : Nat) := by
  have hM : 0 < 2 ^ k := Nat.two_pow_pos k
  have hJ : 0 < 2 ^ j := Nat.two_pow_pos j
  have h1 : 1 < 2 ^ k := Nat.one_lt_two_pow (by omega)
  have h2 : 2 ^ j < 2 ^ k := Nat.pow_lt_pow_right (by omega) hj
  have h6 : j < 2 ^ 6 := by show j < 64; omega
  have er : (2 ^ j + (2 ^ k - 1)) % 2 ^ k = 2 ^ j - 1 := by
    rw [show 2 ^ j + (2 ^ k - 1) = 2 ^ j - 1 + 2 ^ k by omega, Nat.add_mod_right, Nat.mod_eq_of_lt (by omega)]
  have hs : x / 2 ^ j < 2 ^ k := Nat.lt_of_le_of_lt (Nat.div_le_self _ _) hx
  have hd := Nat.div_add_mod x (2 ^ j)
  have hm := Nat.mod_lt x hJ
  have eb : x / 2 ^ j * 2 ^ j % 2 ^ k = x - x % 2 ^ j := by
    rw [Nat.mul_comm] at hd
    rw [Nat.mod_eq_of_lt (by omega)]
    omega
  have ev : x &&& (2 ^ j - 1) = x % 2 ^ j := Nat.and_two_pow_sub_one_eq_mod x j
  refine ⟨_, _, _, _, _, sub_c h0 h h2 h1, shr_c h0 h hx (by omega) (by omega) h6 (by omega), shl_c h0 h hs (by omega) (by omega) h6 (by omega), shl_c h0 h hx (by omega) (by omega) h6 (by omega), mul_c h0 h hx h2,
    and_c h0 h hx (by rw [er]; omega), ?_, shl_far h0 h hx hl hk, shr_far h0 h hx hl hk⟩
  rw [er, ev, eb]
  have := sub_c h0 h hx (y := x % 2 ^ j) (by omega)
  rwa [show (x + (2 ^ k - x % 2 ^ j)) % 2 ^ k = x - x % 2 ^ j by
    have hle := Nat.mod_le x (2 ^ j)
    rw [show x + (2 ^ k - x % 2 ^ j) = x - x % 2 ^ j + 2 ^ k by omega, Nat.add_mod_right, Nat.mod_eq_of_lt (by omega)]] at this

end Go.Proofs.Ytafhnkhcbfilaaa
