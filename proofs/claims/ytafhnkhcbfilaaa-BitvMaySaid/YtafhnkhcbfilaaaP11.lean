/- Plain: what is told may be. -/
import Derived.Test.YtafhnkhcbfilaaaP6
namespace Go.Proofs.Ytafhnkhcbfilaaa
open Go.RowKit
set_option linter.unusedVariables false
set_option linter.unusedSimpArgs false

/-- a value that may be, and no error; or none, and an error -/
def MayP (w : Int) (v : Nat) (e : Int) : Prop := (e = 0 ∧ mayB w v = true) ∨ ((e = 1 ∨ e = 2) ∧ w = 0 ∧ v = 0)

theorem mayB_and {w : Int} {v : Nat} (h0 : 0 < w) (h : w ≤ 64) : mayB w (v &&& mask w) = true := by
  obtain ⟨k, rfl⟩ := Int.eq_ofNat_of_zero_le (Int.le_of_lt h0)
  rw [and_mask k v (by omega) (by omega)]
  exact mayB_nat (by omega) (by omega) (Nat.mod_lt _ (Nat.two_pow_pos k))
theorem mayB_bit (b : Bool) : mayB 1 (bitN b) = true := by cases b <;> decide
theorem mayP_no : MayP 0 0 1 := Or.inr ⟨Or.inl rfl, rfl, rfl⟩
theorem mayP_yes {w : Int} {v : Nat} (h : mayB w v = true) : MayP w v 0 := Or.inl ⟨rfl, h⟩

theorem un_may (op w : Int) (v : Nat) : MayP (unW op w v) (unV op w v) (errE (unOk op w v)) := by
  cases h : unOk op w v with
  | false =>
    have e1 : unW op w v = 0 := by rw [unW, h]; rfl
    have e2 : unV op w v = 0 := by rw [unV, h]; rfl
    rw [e1, e2]
    exact mayP_no
  | true =>
    refine mayP_yes ?_
    rw [unW, unV, if_pos h, if_pos h]
    simp only [unOk, Bool.and_eq_true, Bool.or_eq_true, decide_eq_true_eq] at h
    obtain ⟨hm, ho⟩ := h
    obtain ⟨k, rfl, k0, k64, hv, hk⟩ := mayB_true hm
    by_cases h1 : op = 1
    · rw [if_pos (by omega), if_pos h1, hk]
      exact mayB_nat k0 k64 (by omega)
    by_cases h2 : op = 2
    · rw [if_pos (by omega), if_neg h1, if_pos h2]
      exact mayB_and (by omega) (by omega)
    rw [if_neg (by omega), if_neg h1, if_neg h2]
    repeat' split
    all_goals exact mayB_bit _

theorem bin_may (op wa wb : Int) (va vb : Nat) : MayP (binW op wa va wb vb) (binV op wa va wb vb) (errE (binOk op wa va wb vb)) := by
  cases h : binOk op wa va wb vb with
  | false =>
    have e1 : binW op wa va wb vb = 0 := by rw [binW, h]; rfl
    have e2 : binV op wa va wb vb = 0 := by rw [binV, h]; rfl
    rw [e1, e2]
    exact mayP_no
  | true =>
    refine mayP_yes ?_
    rw [binW, binV, if_pos h, if_pos h]
    simp only [binOk, Bool.and_eq_true, Bool.or_eq_true, decide_eq_true_eq] at h
    obtain ⟨⟨ha, hb⟩, ho⟩ := h
    obtain ⟨k, rfl, k0, k64, hva, hk⟩ := mayB_true ha
    by_cases h19 : 19 ≤ op
    · rw [if_pos h19, rawV]
      rw [if_neg (by omega), if_neg (by omega), if_neg (by omega), if_neg (by omega), if_neg (by omega), if_neg (by omega), if_neg (by omega), if_neg (by omega)]
      repeat' split
      all_goals exact mayB_bit _
    · rw [if_neg h19, rawV]
      by_cases h18 : op = 18
      · rw [if_neg (by omega), if_neg (by omega), if_neg (by omega), if_neg (by omega), if_neg (by omega), if_neg (by omega), if_neg (by omega), if_pos h18]
        have := down_keeps ha vb
        rw [← this]
        exact mayB_and (by omega) (by omega)
      by_cases h17 : op = 17
      · rw [if_neg (by omega), if_neg (by omega), if_neg (by omega), if_neg (by omega), if_neg (by omega), if_neg (by omega), if_pos h17]
        exact mayB_and (by omega) (by omega)
      have hwb : (k : Int) = wb := by omega
      rw [← hwb] at hb
      obtain ⟨k', hk', _, _, hvb, _⟩ := mayB_true hb
      obtain rfl : k = k' := by omega
      by_cases h11 : op = 11
      · rw [if_pos h11]; exact mayB_nat k0 k64 (Nat.and_lt_two_pow _ hvb)
      by_cases h12 : op = 12
      · rw [if_neg h11, if_pos h12]; exact mayB_nat k0 k64 (Nat.or_lt_two_pow hva hvb)
      by_cases h13 : op = 13
      · rw [if_neg h11, if_neg h12, if_pos h13]; exact mayB_nat k0 k64 (Nat.xor_lt_two_pow hva hvb)
      by_cases h14 : op = 14
      · rw [if_neg h11, if_neg h12, if_neg h13, if_pos h14]; exact mayB_and (by omega) (by omega)
      by_cases h15 : op = 15
      · rw [if_neg h11, if_neg h12, if_neg h13, if_neg h14, if_pos h15]; exact mayB_and (by omega) (by omega)
      · rw [if_neg h11, if_neg h12, if_neg h13, if_neg h14, if_neg h15, if_pos (by omega)]; exact mayB_and (by omega) (by omega)

theorem ext_may (op n w : Int) (v : Nat) : MayP (if extOk op n w v then n else 0) (if extOk op n w v then extV op n w v else 0) (errE (extOk op n w v)) := by
  cases h : extOk op n w v with
  | false => exact mayP_no
  | true =>
    rw [if_pos rfl, if_pos rfl]
    refine mayP_yes ?_
    simp only [extOk, Bool.and_eq_true, Bool.or_eq_true, decide_eq_true_eq] at h
    rw [extV]
    split
    · exact mayB_and h.1.2.1 h.1.2.2
    · exact mayB_and h.1.2.1 h.1.2.2

theorem slice_may (w hi lo : Int) (v : Nat) : MayP (if withinB w v hi lo then hi - lo + 1 else 0) (if withinB w v hi lo then sliceV v hi lo else 0) (errE (withinB w v hi lo)) := by
  cases h : withinB w v hi lo with
  | false => exact mayP_no
  | true =>
    rw [if_pos rfl, if_pos rfl]
    refine mayP_yes ?_
    obtain ⟨_, _, _, _, _⟩ := within_true h
    exact mayB_and (by omega) (by omega)

theorem set_may (w hi lo wb : Int) (v vb : Nat) : MayP (if setOk w v hi lo wb vb then w else 0) (if setOk w v hi lo wb vb then setN v lo.toNat wb.toNat vb else 0) (errE (setOk w v hi lo wb vb)) := by
  cases h : setOk w v hi lo wb vb with
  | false => exact mayP_no
  | true =>
    rw [if_pos rfl, if_pos rfl]
    refine mayP_yes ?_
    simp only [setOk, Bool.and_eq_true, decide_eq_true_eq] at h
    obtain ⟨⟨hw, hb⟩, he⟩ := h
    obtain ⟨hm, _, _, _, _⟩ := within_true hw
    obtain ⟨k, rfl, k0, k64, hv, _⟩ := mayB_true hm
    obtain ⟨n, rfl, n0, n64, hvb, _⟩ := mayB_true hb
    refine mayB_nat k0 k64 (setN_lt v _ _ vb k hv ?_ ?_)
    · rw [Int.toNat_natCast]; omega
    · rw [Int.toNat_natCast]; exact hvb

theorem cat_may (wa wb : Int) (va vb : Nat) : MayP (if catE [(wa, va), (wb, vb)] = 0 then catW [(wa, va), (wb, vb)] else 0) (if catE [(wa, va), (wb, vb)] = 0 then catV [(wa, va), (wb, vb)] else 0) (catE [(wa, va), (wb, vb)]) := by
  have ew : catW [(wa, va), (wb, vb)] = wa + wb := by simp [catW]
  have ev : catV [(wa, va), (wb, vb)] = upN va wb.toNat ||| vb := by simp [catV, upN]
  by_cases hall : (mayB wa va && mayB wb vb) = true
  · have hE : catE [(wa, va), (wb, vb)] = if wa + wb ≤ 64 then 0 else 2 := by
      rw [catE, ew]
      have : ([(wa, va), (wb, vb)].isEmpty || !([(wa, va), (wb, vb)].all fun x => mayB x.1 x.2)) = false := by
        simp only [Bool.and_eq_true] at hall
        simp [hall.1, hall.2]
      rw [this]
      rfl
    by_cases h64 : wa + wb ≤ 64
    · rw [hE, if_pos h64, if_pos rfl, if_pos rfl, ew, ev]
      refine mayP_yes ?_
      simp only [Bool.and_eq_true] at hall
      obtain ⟨k, rfl, k0, k64, hv, _⟩ := mayB_true hall.1
      obtain ⟨n, rfl, n0, n64, hvb, _⟩ := mayB_true hall.2
      rw [show (k : Int) + (n : Int) = ((k + n : Nat) : Int) by omega, Int.toNat_natCast]
      refine mayB_nat (by omega) (by omega) (Nat.or_lt_two_pow ?_ ?_)
      · rw [upN, if_neg (by omega)]
        refine Nat.lt_of_le_of_lt (Nat.mod_le _ _) ?_
        rw [Nat.pow_add]
        exact Nat.mul_lt_mul_of_pos_right hv (Nat.two_pow_pos n)
      · exact Nat.lt_of_lt_of_le hvb (Nat.pow_le_pow_right (by omega) (by omega))
    · rw [hE, if_neg h64, if_neg (by decide), if_neg (by decide)]
      exact Or.inr ⟨Or.inr rfl, rfl, rfl⟩
  · have hE : catE [(wa, va), (wb, vb)] = 1 := by
      rw [catE]
      have : ([(wa, va), (wb, vb)].isEmpty || !([(wa, va), (wb, vb)].all fun x => mayB x.1 x.2)) = true := by
        simp only [Bool.not_eq_true, Bool.and_eq_false_iff] at hall
        rcases hall with e | e <;> simp [e]
      rw [this]
      rfl
    rw [hE, if_neg (by decide), if_neg (by decide)]
    exact mayP_no

set_option maxHeartbeats 1000000 in
theorem lawMay_no2 (W : World) :
    Calls Try.prog 30 #[.agg #[.int .i64 0, .int .u64 0], .int .i64 2] W fun e W' => e = .returned (.bool true) ∧ Below W.heap.size W W' := by
  go_enter Try.func30, Try.ntmps30
  go_wp2
  go_ret
  exact ⟨rfl, (Below.refl _ _).alloc (Nat.le_refl _) _⟩

theorem may_c {w : Int} {v : Nat} {e : Int} (h : MayP w v e) (W : World) :
    Calls Try.prog 30 #[.agg #[.int .i64 w, .int .u64 v], .int .i64 e] W fun x W' => x = .returned (.bool true) ∧ Below W.heap.size W W' := by
  rcases h with ⟨rfl, h⟩ | ⟨rfl | rfl, rfl, rfl⟩
  · obtain ⟨k, rfl, k0, k64, hv, _⟩ := mayB_true h
    exact lawMay_ok k v W (lt64 k64 hv) h
  · exact lawMay_no W
  · exact lawMay_no2 W

end Go.Proofs.Ytafhnkhcbfilaaa
