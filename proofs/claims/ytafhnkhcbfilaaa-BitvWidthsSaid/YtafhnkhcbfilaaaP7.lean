/- Plain: the ring laws, the laws of sets and of order, as the answers of the operations. -/
import Derived.Test.YtafhnkhcbfilaaaP6
namespace Go.Proofs.Ytafhnkhcbfilaaa
open Go.RowKit
set_option linter.unusedVariables false
set_option linter.unusedSimpArgs false

theorem ring_calls (k x y z : Nat) (h0 : 0 < k) (h : k ≤ 64) (hx : x < 2 ^ k) (hy : y < 2 ^ k) (hz : z < 2 ^ k) :
    ∃ s t u p q r d e f g : Nat,
      (BinC 14 k x k y k s ∧ BinC 14 k s k z k t ∧ BinC 14 k z k y k u ∧ BinC 14 k x k u k t) ∧
      (BinC 16 k x k y k p ∧ BinC 16 k p k z k q ∧ BinC 16 k z k y k r ∧ BinC 16 k x k r k q) ∧
      (∃ m n o : Nat, BinC 14 k y k z k m ∧ BinC 16 k x k m k n ∧ BinC 16 k x k z k o ∧ BinC 14 k p k o k n) ∧
      (BinC 15 k x k y k d ∧ BinC 14 k d k y k x ∧ UnC 2 k y k e ∧ BinC 14 k x k e k d) ∧
      (UnC 2 k x k f ∧ BinC 15 k f k (1 : Nat) k g ∧ UnC 1 k x k g ∧ BinC 16 k x k (1 : Nat) k x) := by
  have hM : 0 < 2 ^ k := Nat.two_pow_pos k
  have h1 : 1 < 2 ^ k := Nat.one_lt_two_pow (by omega)
  have lt : ∀ a, a % 2 ^ k < 2 ^ k := fun a => Nat.mod_lt _ hM
  refine ⟨_, _, _, _, _, _, _, _, _, _, ⟨add_c h0 h hx hy, add_c h0 h (lt _) hz, add_c h0 h hz hy, ?_⟩, ⟨mul_c h0 h hx hy, mul_c h0 h (lt _) hz, mul_c h0 h hz hy, ?_⟩,
    ⟨_, _, _, add_c h0 h hy hz, mul_c h0 h hx (lt _), mul_c h0 h hx hz, ?_⟩, ⟨sub_c h0 h hx hy, ?_, neg_c h0 h hy, ?_⟩, ⟨neg_c h0 h hx, sub_c h0 h (lt _) h1, ?_, ?_⟩⟩
  · have := add_c h0 h hx (lt (z + y))
    rwa [show (x + (z + y) % 2 ^ k) % 2 ^ k = ((x + y) % 2 ^ k + z) % 2 ^ k by rw [Nat.add_mod_mod, Nat.mod_add_mod]; congr 1; omega] at this
  · have := mul_c h0 h hx (lt (z * y))
    rwa [show (x * (z * y % 2 ^ k)) % 2 ^ k = ((x * y % 2 ^ k) * z) % 2 ^ k by rw [Nat.mul_mod_mod, Nat.mod_mul_mod, Nat.mul_comm z y, Nat.mul_assoc]] at this
  · have := add_c h0 h (lt (x * y)) (lt (x * z))
    rwa [show (x * y % 2 ^ k + x * z % 2 ^ k) % 2 ^ k = (x * ((y + z) % 2 ^ k)) % 2 ^ k by rw [Nat.mul_mod_mod, Nat.add_mod_mod, Nat.mod_add_mod, Nat.mul_add]] at this
  · have := add_c h0 h (lt (x + (2 ^ k - y))) hy
    rwa [show ((x + (2 ^ k - y)) % 2 ^ k + y) % 2 ^ k = x by rw [Nat.mod_add_mod, show x + (2 ^ k - y) + y = x + 2 ^ k by omega, Nat.add_mod_right, Nat.mod_eq_of_lt hx]] at this
  · have := add_c h0 h hx (lt (2 ^ k - y))
    rwa [show (x + (2 ^ k - y) % 2 ^ k) % 2 ^ k = (x + (2 ^ k - y)) % 2 ^ k by rw [Nat.add_mod_mod]] at this
  · have := not_c h0 h hx
    rwa [show 2 ^ k - 1 - x = ((2 ^ k - x) % 2 ^ k + (2 ^ k - 1)) % 2 ^ k by
      rw [Nat.mod_add_mod]
      generalize 2 ^ k = M at *
      rw [show M - x + (M - 1) = (M - 1 - x) + M by omega, Nat.add_mod_right, Nat.mod_eq_of_lt (by omega)]] at this
  · have := mul_c h0 h hx h1
    rwa [Nat.mul_one, Nat.mod_eq_of_lt hx] at this

theorem and_or_add : ∀ x y : Nat, (x &&& y) + (x ||| y) = x + y := by
  intro x
  induction x using Nat.strongRecOn with
  | _ x ih =>
    intro y
    by_cases hx : x = 0
    · subst hx; simp
    · have e := ih (x / 2) (by omega) (y / 2)
      have a1 := Nat.and_div_two_pow (a := x) (b := y) (n := 1)
      have a2 := Nat.or_div_two_pow (a := x) (b := y) (n := 1)
      have a3 := Nat.and_mod_two_pow (a := x) (b := y) (n := 1)
      have a4 := Nat.or_mod_two_pow (a := x) (b := y) (n := 1)
      simp only [Nat.pow_one] at a1 a2 a3 a4
      rw [← a1, ← a2] at e
      have hx2 := Nat.mod_two_eq_zero_or_one x
      have hy2 := Nat.mod_two_eq_zero_or_one y
      rcases hx2 with p | p <;> rcases hy2 with q | q <;> rw [p, q] at a3 a4 <;> simp only [show (0 : Nat) &&& 0 = 0 from rfl, show (0 : Nat) &&& 1 = 0 from rfl, show (1 : Nat) &&& 0 = 0 from rfl, show (1 : Nat) &&& 1 = 1 from rfl, show (0 : Nat) ||| 0 = 0 from rfl, show (0 : Nat) ||| 1 = 1 from rfl, show (1 : Nat) ||| 0 = 1 from rfl, show (1 : Nat) ||| 1 = 1 from rfl] at a3 a4 <;> omega

theorem not_and (k x y : Nat) (hx : x < 2 ^ k) (hy : y < 2 ^ k) : 2 ^ k - 1 - (x &&& y) = (2 ^ k - 1 - x) ||| (2 ^ k - 1 - y) := by
  apply Nat.eq_of_testBit_eq
  intro i
  rw [Nat.sub_sub, Nat.sub_sub, Nat.sub_sub, Nat.add_comm 1, Nat.add_comm 1, Nat.add_comm 1, Nat.testBit_or, Nat.testBit_two_pow_sub_succ (Nat.and_lt_two_pow _ hy), Nat.testBit_two_pow_sub_succ hx, Nat.testBit_two_pow_sub_succ hy, Nat.testBit_and]
  cases decide (i < k) <;> cases x.testBit i <;> cases y.testBit i <;> rfl

theorem xor_or (k x y : Nat) (hx : x < 2 ^ k) (hy : y < 2 ^ k) : x ^^^ y = (x &&& (2 ^ k - 1 - y)) ||| (y &&& (2 ^ k - 1 - x)) := by
  apply Nat.eq_of_testBit_eq
  intro i
  rw [Nat.sub_sub, Nat.sub_sub, Nat.add_comm 1, Nat.add_comm 1, Nat.testBit_xor, Nat.testBit_or, Nat.testBit_and, Nat.testBit_and, Nat.testBit_two_pow_sub_succ hx, Nat.testBit_two_pow_sub_succ hy]
  by_cases hi : i < k
  · simp only [hi, decide_true, Bool.true_and]
    cases x.testBit i <;> cases y.testBit i <;> rfl
  · have e1 : x.testBit i = false := Nat.testBit_lt_two_pow (Nat.lt_of_lt_of_le hx (Nat.pow_le_pow_right (by omega) (by omega)))
    have e2 : y.testBit i = false := Nat.testBit_lt_two_pow (Nat.lt_of_lt_of_le hy (Nat.pow_le_pow_right (by omega) (by omega)))
    simp [e1, e2]

theorem odd_xor (n x y : Nat) : oddN n (x ^^^ y) = (oddN n x ^^ oddN n y) := by
  induction n with
  | zero => rfl
  | succ n ih =>
    have e : (x ^^^ y) / 2 ^ n % 2 = 1 ↔ ((x / 2 ^ n % 2 = 1) ↔ ¬ (y / 2 ^ n % 2 = 1)) := by
      have a := Nat.testBit_xor (x := x) (y := y) (i := n)
      simp only [Nat.testBit_eq_decide_div_mod_eq] at a
      by_cases h1 : x / 2 ^ n % 2 = 1 <;> by_cases h2 : y / 2 ^ n % 2 = 1 <;> simp [h1, h2] at a ⊢ <;> omega
    rw [oddN_snoc, oddN_snoc, oddN_snoc, ih]
    by_cases h1 : x / 2 ^ n % 2 = 1 <;> by_cases h2 : y / 2 ^ n % 2 = 1 <;> simp only [e, h1, h2] <;> cases oddN n x <;> cases oddN n y <;> rfl

theorem bitN_xor (a b : Bool) : bitN a ^^^ bitN b = bitN (a ^^ b) := by cases a <;> cases b <;> rfl

theorem sets_calls (k x y : Nat) (h0 : 0 < k) (h : k ≤ 64) (hx : x < 2 ^ k) (hy : y < 2 ^ k) :
    ∃ a o nx ny m s : Nat,
      (BinC 11 k x k y k a ∧ UnC 1 k a k m ∧ UnC 1 k x k nx ∧ UnC 1 k y k ny ∧ BinC 12 k nx k ny k m) ∧
      (∃ e p q : Nat, BinC 13 k x k y k e ∧ BinC 11 k x k ny k p ∧ BinC 11 k y k nx k q ∧ BinC 12 k p k q k e ∧
        (∃ c d f : Nat, UnC 5 k x (1 : Nat) c ∧ UnC 5 k y (1 : Nat) d ∧ BinC 13 (1 : Nat) c (1 : Nat) d (1 : Nat) f ∧ UnC 5 k e (1 : Nat) f) ∧ BinC 13 k e k y k x) ∧
      (∃ g l : Nat, UnC 4 k x (1 : Nat) g ∧ UnC 6 (1 : Nat) g (1 : Nat) l ∧ UnC 3 k nx (1 : Nat) l) ∧
      (BinC 12 k x k y k o ∧ BinC 14 k a k o k s ∧ BinC 14 k x k y k s) := by
  have ha : x &&& y < 2 ^ k := Nat.and_lt_two_pow _ hy
  have ho : x ||| y < 2 ^ k := Nat.or_lt_two_pow hx hy
  have he : x ^^^ y < 2 ^ k := Nat.xor_lt_two_pow hx hy
  have hM : 0 < 2 ^ k := Nat.two_pow_pos k
  have hnx : 2 ^ k - 1 - x < 2 ^ k := by omega
  have hny : 2 ^ k - 1 - y < 2 ^ k := by omega
  have hp : x &&& (2 ^ k - 1 - y) < 2 ^ k := Nat.and_lt_two_pow _ hny
  have hq : y &&& (2 ^ k - 1 - x) < 2 ^ k := Nat.and_lt_two_pow _ hnx
  refine ⟨_, _, _, _, _, _, ⟨and_c h0 h hx hy, not_c h0 h ha, not_c h0 h hx, not_c h0 h hy, ?_⟩, ⟨_, _, _, xor_c h0 h hx hy, and_c h0 h hx hny, and_c h0 h hy hnx, ?_, ⟨_, _, _, odd_c h0 h hx, odd_c h0 h hy, xor_c (by omega) (by omega) (bitN_lt2 _) (bitN_lt2 _), ?_⟩, ?_⟩,
    ⟨_, _, anyOf_c h0 h hx, no_c _, ?_⟩, ⟨or_c h0 h hx hy, add_c h0 h ha ho, ?_⟩⟩
  · have := or_c h0 h hnx hny
    rwa [← not_and k x y hx hy] at this
  · have := or_c h0 h hp hq
    rwa [← xor_or k x y hx hy] at this
  · have := odd_c h0 h he
    rwa [odd_xor, ← bitN_xor] at this
  · have := xor_c h0 h he hy
    rwa [Nat.xor_assoc, Nat.xor_self, Nat.xor_zero] at this
  · have := allOf_c h0 h hnx
    have e : decide (2 ^ k - 1 - x = 2 ^ k - 1) = !decide (x ≠ 0) := by
      by_cases h' : x = 0
      · simp [h']
      · have e : ¬ (2 ^ k - 1 - x = 2 ^ k - 1) := by omega
        simp [h', e]
    rwa [e] at this
  · have := add_c h0 h hx hy
    rwa [← and_or_add x y] at this

end Go.Proofs.Ytafhnkhcbfilaaa
