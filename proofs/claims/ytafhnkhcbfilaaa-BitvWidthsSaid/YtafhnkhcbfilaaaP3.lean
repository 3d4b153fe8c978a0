/- Plain: shifts, counts of ones, what the operations of one come to. -/
import Derived.Test.YtafhnkhcbfilaaaP2
namespace Go.Proofs.Ytafhnkhcbfilaaa
open Go.RowKit
set_option linter.unusedVariables false
set_option linter.unusedSimpArgs false

def upN (v n : Nat) : Nat := if 63 < n then 0 else v * 2 ^ n % 18446744073709551616
def downN (v n : Nat) : Nat := if 63 < n then 0 else v / 2 ^ n

theorem upN_lt (v n : Nat) : upN v n < 18446744073709551616 := by unfold upN; split <;> omega
theorem downN_lt (v n : Nat) (h : v < 18446744073709551616) : downN v n < 18446744073709551616 := by
  unfold downN
  split
  · omega
  · exact Nat.lt_of_le_of_lt (Nat.div_le_self _ _) h

theorem up_walk (v n : Nat) (h : ¬ 63 < n) : IntKind.u64.wrap ((v : Int) * 2 ^ n) = ((upN v n : Nat) : Int) := by
  rw [wrap_u64, upN, if_neg h, ofNat_two_pow, ← Int.natCast_mul, Int.natCast_emod]
  rfl

theorem down_walk (v n : Nat) (h : ¬ 63 < n) : (v : Int) / 2 ^ n = ((downN v n : Nat) : Int) := by
  rw [downN, if_neg h, ofNat_two_pow, Int.natCast_ediv]

/-- a shift by whatever number, as the walk spells it -/
theorem shl_walk (v n : Nat) : IntKind.u64.wrap ((v : Int) * 2 ^ (min n 64)) = ((upN v n : Nat) : Int) := by
  by_cases h : 63 < n
  · rw [wrap_u64, upN, if_pos h, show min n 64 = 64 by omega]
    exact Int.mul_emod_left (v : Int) _
  · rw [show min n 64 = n by omega]
    exact up_walk v n h

theorem shr_walk (v n : Nat) (hv : v < 18446744073709551616) : (v : Int) / 2 ^ (min n 64) = ((downN v n : Nat) : Int) := by
  by_cases h : 63 < n
  · rw [downN, if_pos h, show min n 64 = 64 by omega, ofNat_two_pow, ← Int.natCast_ediv]
    rw [Nat.div_eq_of_lt hv]
  · rw [show min n 64 = n by omega]
    exact down_walk v n h

theorem ones_le : ∀ (n x : Nat), ones n x ≤ n
  | 0, _ => Nat.le_refl _
  | n + 1, x => by
    have := ones_le n (x / 2)
    simp only [ones]
    omega

theorem ones_full : ∀ (k n x : Nat), k ≤ n → x < 2 ^ k → (ones n x ≤ k ∧ (ones n x = k ↔ x = 2 ^ k - 1))
  | 0, n, x, _, h => by
    obtain rfl : x = 0 := by simpa using h
    have : ∀ n, ones n 0 = 0 := by intro n; induction n with | zero => rfl | succ n ih => simp [ones, ih]
    simp [this]
  | k + 1, 0, x, hk, _ => by omega
  | k + 1, n + 1, x, hk, h => by
    rw [Nat.pow_succ] at h
    have := ones_full k n (x / 2) (by omega) (by omega)
    have hp := Nat.two_pow_pos k
    simp only [ones]
    rw [Nat.pow_succ]
    omega

theorem ones_pos : ∀ (n x : Nat), x < 2 ^ n → (0 < ones n x ↔ x ≠ 0)
  | 0, x, h => by
    obtain rfl : x = 0 := by simpa using h
    simp [ones]
  | n + 1, x, h => by
    rw [Nat.pow_succ] at h
    have := ones_pos n (x / 2) (by omega)
    simp only [ones]
    omega

theorem ones_snoc : ∀ (n x : Nat), ones (n + 1) x = ones n x + x / 2 ^ n % 2
  | 0, x => by simp [ones]
  | n + 1, x => by
    have := ones_snoc n (x / 2)
    rw [ones, this, ones, Nat.div_div_eq_div_mul, Nat.mul_comm 2, ← Nat.pow_succ, Nat.add_assoc]

/-- is an odd number of the lowest n bits 1? -/
def oddN (n x : Nat) : Bool := decide (ones n x % 2 = 1)

theorem oddN_snoc (n x : Nat) : oddN (n + 1) x = if x / 2 ^ n % 2 = 1 then !oddN n x else oddN n x := by
  unfold oddN
  rw [ones_snoc]
  split
  · rw [Bool.eq_iff_iff]; simp; omega
  · rw [Bool.eq_iff_iff]; simp; omega

theorem swar_parts (v : Nat) (hv : v < 18446744073709551616) : ∃ x1 x2 a y1 y2 b z c d e f : Nat,
    bits .and .u64 ((v : Int) / 2) 6148914691236517205 = (x1 : Int) ∧ bits .and .u64 (v : Int) 6148914691236517205 = (x2 : Int) ∧
    IntKind.u64.wrap ((x1 : Int) + (x2 : Int)) = (a : Int) ∧
    bits .and .u64 ((a : Int) / 4) 3689348814741910323 = (y1 : Int) ∧ bits .and .u64 (a : Int) 3689348814741910323 = (y2 : Int) ∧
    IntKind.u64.wrap ((y1 : Int) + (y2 : Int)) = (b : Int) ∧ IntKind.u64.wrap ((b : Int) / 16 + (b : Int)) = (z : Int) ∧
    bits .and .u64 (z : Int) 1085102592571150095 = (c : Int) ∧ IntKind.u64.wrap ((c : Int) + (c : Int) / 256) = (d : Int) ∧
    IntKind.u64.wrap ((d : Int) + (d : Int) / 65536) = (e : Int) ∧ IntKind.u64.wrap ((e : Int) + (e : Int) / 4294967296) = (f : Int) ∧
    IntKind.i64.wrap (f : Int) = (f : Int) ∧ bits .and .i64 (f : Int) 127 = ((ones 64 v : Nat) : Int) := by
  have k1 : ∀ x, x &&& 6148914691236517205 ≤ 6148914691236517205 := fun x => Nat.and_le_right
  have k2 : ∀ x, x &&& 3689348814741910323 ≤ 3689348814741910323 := fun x => Nat.and_le_right
  have k3 : ∀ x, x &&& 1085102592571150095 ≤ 1085102592571150095 := fun x => Nat.and_le_right
  have hs := swar_ones v hv
  unfold swar at hs
  dsimp only at hs
  have b1 := k1 (v / 2)
  have b2 := k1 v
  have e1 : bits .and .u64 ((v : Int) / 2) 6148914691236517205 = ((v / 2 &&& 6148914691236517205 : Nat) : Int) := by
    have := u64_and_nat (v / 2) 6148914691236517205 (by omega) (by omega)
    rw [Int.natCast_ediv] at this; exact this
  have e2 : bits .and .u64 (v : Int) 6148914691236517205 = ((v &&& 6148914691236517205 : Nat) : Int) := by
    have := u64_and_nat v 6148914691236517205 (by omega) (by omega)
    exact this
  generalize v / 2 &&& 6148914691236517205 = x1 at *
  generalize v &&& 6148914691236517205 = x2 at *
  have e3 : IntKind.u64.wrap ((x1 : Int) + (x2 : Int)) = ((x1 + x2 : Nat) : Int) := by rw [wrap_u64]; omega
  have hA : x1 + x2 < 18446744073709551616 := by omega
  generalize x1 + x2 = a at *
  have b4 := k2 (a / 4)
  have b5 := k2 a
  have e4 : bits .and .u64 ((a : Int) / 4) 3689348814741910323 = ((a / 4 &&& 3689348814741910323 : Nat) : Int) := by
    have := u64_and_nat (a / 4) 3689348814741910323 (by omega) (by omega)
    rw [Int.natCast_ediv] at this; exact this
  have e5 : bits .and .u64 (a : Int) 3689348814741910323 = ((a &&& 3689348814741910323 : Nat) : Int) := by
    have := u64_and_nat a 3689348814741910323 (by omega) (by omega)
    exact this
  generalize a / 4 &&& 3689348814741910323 = y1 at *
  generalize a &&& 3689348814741910323 = y2 at *
  have e6 : IntKind.u64.wrap ((y1 : Int) + (y2 : Int)) = ((y1 + y2 : Nat) : Int) := by rw [wrap_u64]; omega
  have hB : y1 + y2 ≤ 7378697629483820646 := by omega
  generalize y1 + y2 = b at *
  have e7 : IntKind.u64.wrap ((b : Int) / 16 + (b : Int)) = ((b / 16 + b : Nat) : Int) := by rw [wrap_u64]; omega
  have hZ : b / 16 + b < 18446744073709551616 := by omega
  generalize b / 16 + b = z at *
  have b8 := k3 z
  have e8 : bits .and .u64 (z : Int) 1085102592571150095 = ((z &&& 1085102592571150095 : Nat) : Int) := by
    have := u64_and_nat z 1085102592571150095 (by omega) (by omega)
    exact this
  generalize z &&& 1085102592571150095 = c at *
  have e9 : IntKind.u64.wrap ((c : Int) + (c : Int) / 256) = ((c + c / 256 : Nat) : Int) := by rw [wrap_u64]; omega
  have hD : c + c / 256 ≤ 1185102592571150095 := by omega
  generalize c + c / 256 = d at *
  have e10 : IntKind.u64.wrap ((d : Int) + (d : Int) / 65536) = ((d + d / 65536 : Nat) : Int) := by rw [wrap_u64]; omega
  have hE : d + d / 65536 ≤ 1285102592571150095 := by omega
  generalize d + d / 65536 = e at *
  have e11 : IntKind.u64.wrap ((e : Int) + (e : Int) / 4294967296) = ((e + e / 4294967296 : Nat) : Int) := by rw [wrap_u64]; omega
  have hF : e + e / 4294967296 ≤ 1385102592571150095 := by omega
  generalize e + e / 4294967296 = f at *
  have e12 : IntKind.i64.wrap (f : Int) = (f : Int) := by simp [IntKind.wrap, IntKind.bits, IntKind.signed]; omega
  refine ⟨x1, x2, a, y1, y2, b, z, c, d, e, f, e1, e2, e3, e4, e5, e6, e7, e8, e9, e10, e11, e12, ?_⟩
  rw [i64_and127, ← hs, show (127 : Nat) = 2 ^ 7 - 1 from rfl, Nat.and_two_pow_sub_one_eq_mod, Int.natCast_emod]
  rfl

theorem bit_walk (v k : Nat) (hv : v < 18446744073709551616) : bits .and .u64 ((v : Int) / 2 ^ k) 1 = ((v / 2 ^ k % 2 : Nat) : Int) := by
  have h1 : v / 2 ^ k < 18446744073709551616 := Nat.lt_of_le_of_lt (Nat.div_le_self _ _) hv
  have := u64_and_nat (v / 2 ^ k) 1 h1 (by omega)
  rw [Nat.and_one_is_mod, Int.natCast_ediv, ← ofNat_two_pow] at this
  exact this

theorem neg_walk (v : Nat) (hv : v < 18446744073709551616) : IntKind.u64.wrap (((18446744073709551615 - v : Nat) : Int) + 1) = (((18446744073709551616 - v) % 18446744073709551616 : Nat) : Int) := by
  rw [wrap_u64]; omega
theorem neg_walk' (v : Nat) (hv : v < 18446744073709551616) : IntKind.u64.wrap (0 - (v : Int)) = (((18446744073709551616 - v) % 18446744073709551616 : Nat) : Int) := by
  rw [wrap_u64]; omega

/-! ### the operations of one -/
def unOk (op w : Int) (v : Nat) : Bool := mayB w v && (decide (1 ≤ op ∧ op ≤ 5) || decide (op = 6) && decide (w = 1))
def unW (op w : Int) (v : Nat) : Int := if unOk op w v then (if op ≤ 2 then w else 1) else 0
def unV (op w : Int) (v : Nat) : Nat :=
  if unOk op w v then
    if op = 1 then mask w - v
    else if op = 2 then (18446744073709551616 - v) % 18446744073709551616 &&& mask w
    else if op = 3 then bitN (decide (v = mask w))
    else if op = 4 then bitN (decide (v ≠ 0))
    else if op = 5 then bitN (oddN 64 v)
    else bitN (decide (v = 0))
  else 0

theorem ones64_lt (v : Nat) : ones 64 v < 18446744073709551616 := Nat.lt_of_le_of_lt (ones_le 64 v) (by omega)

theorem madeV_may {w : Int} {v x : Nat} (h : mayB w v = true) : madeV (mayB w v) w x = x &&& mask w := by simp [madeV, h]

theorem bitN_and (b : Bool) : bitN b &&& mask 1 = bitN b := by cases b <;> rfl

theorem and_one_mask (x : Nat) : x &&& mask 1 = x % 2 := and_mask 1 x (by omega) (by omega)

/-- what bitv makes of its operand is what is to be told -/
theorem un_eq1 (w : Int) (v : Nat) (hv : v < 18446744073709551616) : madeW (mayB w v) w = unW 1 w v ∧ madeV (mayB w v) w (18446744073709551615 - v) = unV 1 w v ∧ mayB w v = unOk 1 w v := by
  cases h : mayB w v
  · simp [madeW, madeV, unW, unV, unOk, h]
  · have h' := h
    obtain ⟨k, rfl, k0, k64, hlt, hm⟩ := mayB_true h
    refine ⟨by simp [madeW, unW, unOk, h'], ?_, by simp [unOk, h']⟩
    simp only [madeV, unV, unOk, h', if_true, Bool.true_and]
    rw [if_pos (by simp), and_mask k _ k0 k64, hm]
    have hp := pow64 k k64
    have hp0 := Nat.two_pow_pos k
    have hq0 := Nat.two_pow_pos (64 - k)
    have e : 18446744073709551615 - v = (2 ^ k - 1 - v) + 2 ^ k * (2 ^ (64 - k) - 1) := by
      rw [Nat.mul_sub, ← hp]
      have := pow_le64 k k64
      omega
    rw [e, Nat.add_mul_mod_self_left, Nat.mod_eq_of_lt (by omega)]

theorem un_eq2 (w : Int) (v : Nat) : madeW (mayB w v) w = unW 2 w v ∧ madeV (mayB w v) w ((18446744073709551616 - v) % 18446744073709551616) = unV 2 w v ∧ mayB w v = unOk 2 w v := by
  cases h : mayB w v
  · simp [madeW, madeV, unW, unV, unOk, h]
  · exact ⟨by simp [madeW, unW, unOk, h], by simp [madeV, unV, unOk, h], by simp [unOk, h]⟩

theorem un_eq3 (w : Int) (v : Nat) : madeW (mayB w v) 1 = unW 3 w v ∧ madeV (mayB w v) 1 (bitN (((ones 64 v : Nat) : Int) == w)) = unV 3 w v ∧ mayB w v = unOk 3 w v := by
  cases h : mayB w v
  · simp [madeW, madeV, unW, unV, unOk, h]
  · have h' := h
    obtain ⟨k, rfl, k0, k64, hlt, hm⟩ := mayB_true h
    refine ⟨by simp [madeW, unW, unOk, h'], ?_, by simp [unOk, h']⟩
    have := (ones_full k 64 v k64 hlt).2
    simp only [madeV, unV, unOk, h', if_true, bitN_and]
    have e : ((((ones 64 v : Nat) : Int) == (k : Int))) = decide (v = mask (k : Int)) := by
      rw [Bool.eq_iff_iff, beq_iff_eq, decide_eq_true_eq, hm, ← this]
      omega
    rw [e]
    simp

theorem un_eq4 (w : Int) (v : Nat) : madeW (mayB w v) 1 = unW 4 w v ∧ madeV (mayB w v) 1 (bitN (decide (0 < ones 64 v))) = unV 4 w v ∧ mayB w v = unOk 4 w v := by
  cases h : mayB w v
  · simp [madeW, madeV, unW, unV, unOk, h]
  · have h' := h
    obtain ⟨k, rfl, k0, k64, hlt, hm⟩ := mayB_true h
    refine ⟨by simp [madeW, unW, unOk, h'], ?_, by simp [unOk, h']⟩
    have := ones_pos 64 v (Nat.lt_of_lt_of_le hlt (pow_le64 k k64))
    simp only [madeV, unV, unOk, h', if_true, bitN_and, decide_eq_decide.2 this]
    simp

theorem un_eq5 (w : Int) (v : Nat) : madeW (mayB w v) 1 = unW 5 w v ∧ madeV (mayB w v) 1 (ones 64 v) = unV 5 w v ∧ mayB w v = unOk 5 w v := by
  cases h : mayB w v
  · simp [madeW, madeV, unW, unV, unOk, h]
  · refine ⟨by simp [madeW, unW, unOk, h], ?_, by simp [unOk, h]⟩
    simp only [madeV, unV, unOk, h, if_true, and_one_mask]
    have e : bitN (oddN 64 v) = ones 64 v % 2 := by
      unfold bitN oddN
      by_cases hh : ones 64 v % 2 = 1
      · simp [hh]
      · simp [hh]; omega
    rw [e]
    simp

theorem un_eq6 (w : Int) (v : Nat) : madeW (mayB w v && decide (w = 1)) 1 = unW 6 w v ∧ madeV (mayB w v && decide (w = 1)) 1 (18446744073709551615 - v) = unV 6 w v ∧ (mayB w v && decide (w = 1)) = unOk 6 w v := by
  have e : unOk 6 w v = (mayB w v && decide (w = 1)) := by simp [unOk]
  cases h : (mayB w v && decide (w = 1))
  · simp [madeW, madeV, unW, unV, e, h]
  · refine ⟨by simp [madeW, unW, e, h], ?_, by rw [e, h]⟩
    simp only [Bool.and_eq_true, decide_eq_true_eq] at h
    obtain ⟨h1, rfl⟩ := h
    obtain ⟨k, hk, k0, k64, hlt, hm⟩ := mayB_true h1
    obtain rfl : k = 1 := by omega
    simp only [madeV, unV, e, h1, if_true, and_one_mask]
    simp only [decide_true, Bool.and_true, if_true]
    rcases (by omega : v = 0 ∨ v = 1) with rfl | rfl <;> rfl

theorem un_eq0 (op w : Int) (v : Nat) (h : op < 1 ∨ 6 < op) : unW op w v = 0 ∧ unV op w v = 0 ∧ unOk op w v = false := by
  have e : unOk op w v = false := by
    simp only [unOk, Bool.and_eq_false_iff, Bool.or_eq_false_iff, decide_eq_false_iff_not]
    exact Or.inr ⟨by omega, Or.inl (by omega)⟩
  simp [unW, unV, e]

end Go.Proofs.Ytafhnkhcbfilaaa
