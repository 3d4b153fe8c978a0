/- Plain: the laws of order, as the answers of the operations. -/
import Derived.Test.YtafhnkhcbfilaaaP7
namespace Go.Proofs.Ytafhnkhcbfilaaa
open Go.RowKit
set_option linter.unusedVariables false
set_option linter.unusedSimpArgs false

theorem cmp_c {k x y : Nat} (h0 : 0 < k) (h : k ≤ 64) (hx : x < 2 ^ k) (hy : y < 2 ^ k) :
    BinC 19 k x k y 1 (bitN (decide (x = y))) ∧ BinC 20 k x k y 1 (bitN (decide (x ≠ y))) ∧ BinC 21 k x k y 1 (bitN (decide (x < y))) ∧ BinC 22 k x k y 1 (bitN (decide (x ≤ y))) ∧
      BinC 23 k x k y 1 (bitN (decide (y < x))) ∧ BinC 24 k x k y 1 (bitN (decide (y ≤ x))) :=
  ⟨binC1 19 k x y _ h0 h hx hy (by omega) rfl, binC1 20 k x y _ h0 h hx hy (by omega) rfl, binC1 21 k x y _ h0 h hx hy (by omega) rfl, binC1 22 k x y _ h0 h hx hy (by omega) rfl, binC1 23 k x y _ h0 h hx hy (by omega) rfl,
    binC1 24 k x y _ h0 h hx hy (by omega) rfl⟩

theorem one_c (a b : Bool) : BinC 25 1 (bitN a) 1 (bitN b) 1 (bitN (a && b)) ∧ BinC 11 1 (bitN a) 1 (bitN b) 1 (bitN (a && b)) ∧ BinC 26 1 (bitN a) 1 (bitN b) 1 (bitN (a || b)) ∧ BinC 12 1 (bitN a) 1 (bitN b) 1 (bitN (a || b)) := by
  refine ⟨?_, ?_, ?_, ?_⟩
  · exact binC1 25 1 _ _ _ (by omega) (by omega) (bitN_lt2 a) (bitN_lt2 b) (by omega) (by cases a <;> cases b <;> rfl)
  · exact binC 11 1 _ _ _ (by omega) (by omega) (bitN_lt2 a) (bitN_lt2 b) (by omega) (by cases a <;> cases b <;> rfl)
  · exact binC1 26 1 _ _ _ (by omega) (by omega) (bitN_lt2 a) (bitN_lt2 b) (by omega) (by cases a <;> cases b <;> rfl)
  · exact binC 12 1 _ _ _ (by omega) (by omega) (bitN_lt2 a) (bitN_lt2 b) (by omega) (by cases a <;> cases b <;> rfl)

theorem orders_calls (k x y : Nat) (h0 : 0 < k) (h : k ≤ 64) (hx : x < 2 ^ k) (hy : y < 2 ^ k) :
    ∃ l s m p q n1 n2 n3 c d : Nat,
      ((l = 1 ∧ s = 0 ∧ m = 0 ∧ n1 = 1 ∧ n2 = 0 ∧ n3 = 1 ∧ x ≠ y) ∨ (l = 0 ∧ s = 1 ∧ m = 0 ∧ n1 = 1 ∧ n2 = 1 ∧ n3 = 0 ∧ x = y) ∨ (l = 0 ∧ s = 0 ∧ m = 1 ∧ n1 = 0 ∧ n2 = 1 ∧ n3 = 1 ∧ x ≠ y)) ∧
      BinC 21 k x k y 1 l ∧ BinC 19 k x k y 1 s ∧ BinC 23 k x k y 1 m ∧ UnC 4 k x 1 p ∧ UnC 4 k y 1 q ∧
      BinC 22 k x k y 1 n1 ∧ UnC 6 1 m 1 n1 ∧ BinC 24 k x k y 1 n2 ∧ UnC 6 1 l 1 n2 ∧ BinC 20 k x k y 1 n3 ∧ UnC 6 1 s 1 n3 ∧
      BinC 25 1 p 1 q 1 c ∧ BinC 11 1 p 1 q 1 c ∧ BinC 26 1 p 1 q 1 d ∧ BinC 12 1 p 1 q 1 d := by
  obtain ⟨c1, c2, c3, c4, c5, c6⟩ := cmp_c h0 h hx hy
  obtain ⟨o1, o2, o3, o4⟩ := one_c (decide (x ≠ 0)) (decide (y ≠ 0))
  refine ⟨_, _, _, _, _, _, _, _, _, _, ?_, c3, c1, c5, anyOf_c h0 h hx, anyOf_c h0 h hy, c4, ?_, c6, ?_, c2, ?_, o1, o2, o3, o4⟩
  · rcases Nat.lt_trichotomy x y with a | a | a
    · left
      have e1 : ¬ x = y := by omega
      have e2 : ¬ y < x := by omega
      have e3 : x ≤ y := by omega
      have e4 : ¬ y ≤ x := by omega
      simp [a, e1, e2, e3, e4, bitN]
    · right; left
      subst a
      simp [bitN]
    · right; right
      have e1 : ¬ x = y := by omega
      have e2 : ¬ x < y := by omega
      have e3 : ¬ x ≤ y := by omega
      have e4 : y ≤ x := by omega
      simp [a, e1, e2, e3, e4, bitN]
  · have := no_c (decide (y < x))
    rwa [show (!decide (y < x)) = decide (x ≤ y) by rw [Bool.eq_iff_iff]; simp] at this
  · have := no_c (decide (x < y))
    rwa [show (!decide (x < y)) = decide (y ≤ x) by rw [Bool.eq_iff_iff]; simp] at this
  · have := no_c (decide (x = y))
    rwa [show (!decide (x = y)) = decide (x ≠ y) by simp] at this

end Go.Proofs.Ytafhnkhcbfilaaa
