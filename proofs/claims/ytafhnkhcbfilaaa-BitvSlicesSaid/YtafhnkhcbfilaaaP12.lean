/- Plain: parts are what they are parts of. -/
import Derived.Test.YtafhnkhcbfilaaaP10
namespace Go.Proofs.Ytafhnkhcbfilaaa
open Go.RowKit
set_option linter.unusedVariables false
set_option linter.unusedSimpArgs false

theorem cat_put {t n y a : Nat} (ht : t < 2 ^ a) (hy : y < 2 ^ n) (hn : n < 64) (ha : a + n ≤ 64) : upN t n ||| y = y + 2 ^ n * t := by
  have h1 : t * 2 ^ n < 2 ^ a * 2 ^ n := Nat.mul_lt_mul_of_pos_right ht (Nat.two_pow_pos n)
  rw [← Nat.pow_add] at h1
  have h2 : 2 ^ (a + n) ≤ 2 ^ 64 := Nat.pow_le_pow_right (by omega) ha
  have e64 : (2 : Nat) ^ 64 = 18446744073709551616 := rfl
  rw [upN, if_neg (by omega), Nat.mod_eq_of_lt (by omega), Nat.mul_comm t, ← Nat.two_pow_add_eq_or_of_lt hy, Nat.add_comm]
theorem cat_first (t n : Nat) : upN 0 n ||| t = t := by
  unfold upN; split <;> simp

theorem slice_of_set (v l n y : Nat) (hy : y < 2 ^ n) : setN v l n y / 2 ^ l % 2 ^ n = y := by
  unfold setN
  rw [Nat.add_mul_div_left _ _ (Nat.two_pow_pos l), Nat.div_eq_of_lt (Nat.mod_lt _ (Nat.two_pow_pos l)), Nat.zero_add, Nat.add_mul_mod_self_left, Nat.mod_eq_of_lt hy]

theorem top_lt {k m x : Nat} (h : m ≤ k) (hx : x < 2 ^ k) : x / 2 ^ m < 2 ^ (k - m) := by
  rw [Nat.div_lt_iff_lt_mul (Nat.two_pow_pos _), ← Nat.pow_add, show k - m + m = k by omega]
  exact hx

theorem setN_top {k l n x y : Nat} (hk : l + n = k) (hx : x < 2 ^ k) : setN x l n y = x % 2 ^ l + 2 ^ l * y := by
  unfold setN
  rw [hk, Nat.div_eq_of_lt hx, Nat.mul_zero, Nat.add_zero]
theorem setN_low (n x y : Nat) : setN x 0 n y = y + 2 ^ n * (x / 2 ^ n) := by
  unfold setN
  rw [Nat.pow_zero, Nat.mod_one, Nat.zero_add, Nat.one_mul, Nat.zero_add]

def CatOk (L : List (Int × Nat)) (w v : Nat) : Prop := catE L = 0 ∧ catW L = w ∧ catV L = v ∧ (L.all fun x => mayB x.1 x.2) = true

theorem catOk_of {L : List (Int × Nat)} {w v : Nat} (h0 : L.isEmpty = false) (ha : (L.all fun x => mayB x.1 x.2) = true) (hw : catW L = w) (h : w ≤ 64) (hv : catV L = v) : CatOk L w v := by
  refine ⟨?_, hw, hv, ha⟩
  rw [catE, h0, ha, hw]
  simp
  omega

theorem cat_one {n y : Nat} (h0 : 0 < n) (h : n ≤ 64) (hy : y < 2 ^ n) : CatOk [((n : Int), y)] n y :=
  catOk_of rfl (by simp [mayB_nat h0 h hy]) (by simp [catW]) h (by simp [catV, cat_first])

theorem cat_two {a n t y : Nat} (h0 : 0 < a) (h1 : 0 < n) (h : a + n ≤ 64) (ht : t < 2 ^ a) (hy : y < 2 ^ n) : CatOk [((a : Int), t), ((n : Int), y)] (a + n) (y + 2 ^ n * t) :=
  catOk_of rfl (by simp [mayB_nat h0 (by omega) ht, mayB_nat h1 (by omega) hy]) (by simp [catW]) h (by
    simp only [catV, List.foldl_cons, List.foldl_nil, Int.toNat_natCast, cat_first]
    exact cat_put ht hy (by omega) h)

theorem cat_three {a n l t y r : Nat} (h0 : 0 < a) (h1 : 0 < n) (h2 : 0 < l) (h : a + n + l ≤ 64) (ht : t < 2 ^ a) (hy : y < 2 ^ n) (hr : r < 2 ^ l) :
    CatOk [((a : Int), t), ((n : Int), y), ((l : Int), r)] (a + n + l) (r + 2 ^ l * (y + 2 ^ n * t)) :=
  catOk_of rfl (by simp [mayB_nat h0 (by omega) ht, mayB_nat h1 (by omega) hy, mayB_nat h2 (by omega) hr]) (by simp [catW]) h (by
    simp only [catV, List.foldl_cons, List.foldl_nil, Int.toNat_natCast, cat_first]
    rw [cat_put ht hy (by omega) (by omega)]
    refine cat_put (a := a + n) ?_ hr (by omega) h
    have : 2 ^ n * (t + 1) ≤ 2 ^ n * 2 ^ a := Nat.mul_le_mul_left _ ht
    rw [Nat.mul_add, ← Nat.pow_add, Nat.add_comm n a] at this
    omega)

def SetC (wa : Int) (va : Nat) (hi lo : Int) (wb : Int) (vb : Nat) (w : Int) (v : Nat) (e : Int) : Prop :=
  ∀ W, Calls Try.prog 27 #[.agg #[.int .i64 wa, .int .u64 va], .int .i64 hi, .int .i64 lo, .agg #[.int .i64 wb, .int .u64 vb]] W fun x W' => x = Tup w v e ∧ Below W.heap.size W W'

theorem setC {k x h l y : Nat} (h0 : 0 < k) (h64 : k ≤ 64) (hx : x < 2 ^ k) (hh : h < k) (hl : l ≤ h) (hy : y < 2 ^ (h - l + 1)) : SetC k x h l ((h : Int) - l + 1) y k (setN x l (h - l + 1) y) 0 := by
  intro W
  have e1 : (h : Int) - l + 1 = ((h - l + 1 : Nat) : Int) := by omega
  refine (set_any k h l ((h : Int) - l + 1) x y W (lt64 h64 hx) (lt64 (k := h - l + 1) (by omega) hy)).mono fun e W' r => ⟨?_, r.2⟩
  have hk : setOk k x h l ((h : Int) - l + 1) y = true := by
    rw [e1]
    simp only [setOk, withinB, mayB_nat h0 h64 hx, mayB_nat (k := h - l + 1) (by omega) (by omega) hy, Bool.true_and, Bool.and_true, Bool.and_eq_true, decide_eq_true_eq]
    omega
  rw [r.1, hk, if_pos rfl, if_pos rfl, e1, Int.toNat_natCast, Int.toNat_natCast]
  rfl

/-- what is set, what is looked at, the parts -/
theorem slices_calls (k x h l y : Nat) (h0 : 0 < k) (h64 : k ≤ 64) (hx : x < 2 ^ k) (hh : h < k) (hl : l ≤ h) (hy : y < 2 ^ (h - l + 1)) :
    ∃ p t r : Nat, p < 2 ^ k ∧ SetC k x h l ((h : Int) - l + 1) y k p 0 ∧ SliceC k p h l ((h : Int) - l + 1) y 0 ∧
      (h + 1 < k → SliceC k x ((k : Int) - 1) ((h : Int) + 1) ((k : Int) - 1 - h) t 0 ∧ t < 18446744073709551616) ∧ (0 < l → SliceC k x ((l : Int) - 1) 0 (l : Int) r 0 ∧ r < 18446744073709551616) ∧
      (h + 1 < k → 0 < l → CatOk [((k : Int) - 1 - h, t), ((h : Int) - l + 1, y), ((l : Int), r)] k p) ∧
      (h + 1 < k → ¬ 0 < l → CatOk [((k : Int) - 1 - h, t), ((h : Int) - l + 1, y)] k p) ∧
      (¬ h + 1 < k → 0 < l → CatOk [((h : Int) - l + 1, y), ((l : Int), r)] k p) ∧
      (¬ h + 1 < k → ¬ 0 < l → CatOk [((h : Int) - l + 1, y)] k p) := by
  have e1 : (h : Int) - l + 1 = ((h - l + 1 : Nat) : Int) := by omega
  have hp := setN_lt x l (h - l + 1) y k hx (by omega) hy
  have hr : x % 2 ^ l < 2 ^ l := Nat.mod_lt _ (Nat.two_pow_pos l)
  refine ⟨setN x l (h - l + 1) y, x / 2 ^ (h + 1), x % 2 ^ l, hp, setC h0 h64 hx hh hl hy, ?_, ?_, ?_, ?_, ?_, ?_, ?_⟩
  · have := sliceC (k := k) (x := setN x l (h - l + 1) y) h l y h0 h64 hp hl hh (slice_of_set x l _ y hy)
    rwa [← e1] at this
  · intro ht
    have tl := top_lt (m := h + 1) (by omega) hx
    have := sliceC (k := k) (x := x) (k - 1) (h + 1) (x / 2 ^ (h + 1)) h0 h64 hx (by omega) (by omega) (Nat.mod_eq_of_lt (by rwa [show k - 1 - (h + 1) + 1 = k - (h + 1) by omega]))
    rw [show ((k - 1 : Nat) : Int) = (k : Int) - 1 by omega, show ((h + 1 : Nat) : Int) = (h : Int) + 1 by omega, show ((k - 1 - (h + 1) + 1 : Nat) : Int) = (k : Int) - 1 - h by omega] at this
    exact ⟨this, lt64 (k := k - (h + 1)) (by omega) tl⟩
  · intro hl0
    have := sliceC (k := k) (x := x) (l - 1) 0 (x % 2 ^ l) h0 h64 hx (by omega) (by omega) (by rw [Nat.pow_zero, Nat.div_one, show l - 1 - 0 + 1 = l by omega])
    rw [show ((l - 1 : Nat) : Int) = (l : Int) - 1 by omega, show ((0 : Nat) : Int) = 0 from rfl, show ((l - 1 - 0 + 1 : Nat) : Int) = (l : Int) by omega] at this
    exact ⟨this, lt64 (k := l) (by omega) hr⟩
  · intro a b
    have := cat_three (a := k - 1 - h) (n := h - l + 1) (l := l) (by omega) (by omega) b (by omega) (t := x / 2 ^ (h + 1)) (y := y) (r := x % 2 ^ l) (by have := top_lt (m := h + 1) (by omega) hx; rwa [show k - (h + 1) = k - 1 - h by omega] at this) hy hr
    rw [← e1, show ((k - 1 - h : Nat) : Int) = (k : Int) - 1 - h by omega, show k - 1 - h + (h - l + 1) + l = k by omega] at this
    unfold setN
    rwa [show l + (h - l + 1) = h + 1 by omega]
  · intro a b
    obtain rfl : l = 0 := by omega
    have := cat_two (a := k - 1 - h) (n := h - 0 + 1) (by omega) (by omega) (by omega) (t := x / 2 ^ (h + 1)) (y := y) (by have := top_lt (m := h + 1) (by omega) hx; rwa [show k - (h + 1) = k - 1 - h by omega] at this) hy
    rw [← e1, show ((k - 1 - h : Nat) : Int) = (k : Int) - 1 - h by omega, show k - 1 - h + (h - 0 + 1) = k by omega] at this
    rw [setN_low]
    exact this
  · intro a b
    have := cat_two (a := h - l + 1) (n := l) (by omega) b (by omega) hy hr
    rw [← e1, show h - l + 1 + l = k by omega] at this
    rwa [setN_top (by omega) hx]
  · intro a b
    obtain rfl : l = 0 := by omega
    have := cat_one (n := h - 0 + 1) (by omega) (by omega) hy
    rw [← e1, show h - 0 + 1 = k by omega] at this
    rw [show h - 0 + 1 = k by omega, setN_top (by omega) hx, Nat.pow_zero, Nat.mod_one, Nat.zero_add, Nat.one_mul]
    exact this

end Go.Proofs.Ytafhnkhcbfilaaa
