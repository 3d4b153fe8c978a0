/- bitv.within, Slice; the law's helpers. -/
import Derived.Test.YtafhnkhcbfilaaaB3
namespace Go.Proofs.Ytafhnkhcbfilaaa
open Go.RowKit Go.Flow
set_option linter.unusedVariables false
set_option linter.unusedSimpArgs false
set_option maxRecDepth 100000

def withinB (w : Int) (v : Nat) (hi lo : Int) : Bool := mayB w v && decide (0 ≤ lo) && decide (lo ≤ hi) && decide (hi < w)

theorem one_box {W W1 : World} {w : Int} {v : Nat} (h : Below (W.alloc (.cells #[.int .i64 w, .int .u64 v] 24)).heap.size (W.alloc (.cells #[.int .i64 w, .int .u64 v] 24)) W1) :
    Box W1 W.heap.size (.int .i64 w) (.int .u64 v) ∧ Below W.heap.size W W1 :=
  ⟨(Box.new W _ _ 24).later h, ((Below.refl _ _).alloc (Nat.le_refl _) _).trans (h.mono (by simp))⟩

theorem two_box {W W1 : World} {w : Int} {v : Nat} (h : Below ((W.alloc (.cells #[.int .i64 w, .int .u64 v] 24)).alloc (.cells #[.int .i64 0, .int .u64 0] 24)).heap.size ((W.alloc (.cells #[.int .i64 w, .int .u64 v] 24)).alloc (.cells #[.int .i64 0, .int .u64 0] 24)) W1) :
    Box W1 W.heap.size (.int .i64 w) (.int .u64 v) ∧ Box W1 (W.heap.size + 1) (.int .i64 0) (.int .u64 0) ∧ Below W.heap.size W W1 := by
  refine ⟨((Box.new W _ _ 24).alloc _).later h, ?_, (((Below.refl _ _).alloc (Nat.le_refl _) _).alloc (by simp) _).trans (h.mono (by simp; omega))⟩
  have := (Box.new (W.alloc (.cells #[.int .i64 w, .int .u64 v] 24)) (.int .i64 0) (.int .u64 0) 24).later h
  simpa using this

set_option maxHeartbeats 1000000 in
theorem within_any (w hi lo : Int) (v : Nat) (W : World) (hv : v < 18446744073709551616) :
    Calls Try.prog 43 #[.agg #[.int .i64 w, .int .u64 v], .int .i64 hi, .int .i64 lo] W fun e W' => e = .returned (.bool (withinB w v hi lo)) ∧ Below W.heap.size W W' := by
  cases hm : mayB w v
  · have e0 : withinB w v hi lo = false := by simp [withinB, hm]
    go_enter Try.func43, Try.ntmps43
    go_wp2_with fail
    refine (may_any w v _ hv).mono ?_
    rw [hm]
    rintro e W1 ⟨rfl, hb⟩
    obtain ⟨⟨h0, h1, _, _, hl⟩, hW1⟩ := one_box hb
    go_wp2
    go_ret
    exact ⟨ret_bool e0.symm, hW1⟩
  by_cases c1 : 0 ≤ lo
  · by_cases c2 : lo ≤ hi
    · by_cases c3 : hi < w
      all_goals
        have e0 : withinB w v hi lo = decide (hi < w) := by simp [withinB, hm, c1, c2]
        have d1 : decide (0 ≤ lo) = true := by simp [c1]
        have d2 : decide (lo ≤ hi) = true := by simp [c2]
        go_enter Try.func43, Try.ntmps43
        go_wp2_with fail
        refine (may_any w v _ hv).mono ?_
        rw [hm]
        rintro e W1 ⟨rfl, hb⟩
        obtain ⟨⟨h0, h1, _, _, hl⟩, hW1⟩ := one_box hb
        go_wp2
        go_ret
        exact ⟨ret_bool (by simp [e0, c3]), hW1⟩
    · have e0 : withinB w v hi lo = false := by simp [withinB, hm, c1, c2]
      have d1 : decide (0 ≤ lo) = true := by simp [c1]
      have d2 : decide (lo ≤ hi) = false := by simp [c2]
      go_enter Try.func43, Try.ntmps43
      go_wp2_with fail
      refine (may_any w v _ hv).mono ?_
      rw [hm]
      rintro e W1 ⟨rfl, hb⟩
      obtain ⟨⟨h0, h1, _, _, hl⟩, hW1⟩ := one_box hb
      go_wp2
      go_ret
      exact ⟨ret_bool e0.symm, hW1⟩
  · have e0 : withinB w v hi lo = false := by simp [withinB, hm, c1]
    have d1 : decide (0 ≤ lo) = false := by simp [c1]
    go_enter Try.func43, Try.ntmps43
    go_wp2_with fail
    refine (may_any w v _ hv).mono ?_
    rw [hm]
    rintro e W1 ⟨rfl, hb⟩
    obtain ⟨⟨h0, h1, _, _, hl⟩, hW1⟩ := one_box hb
    go_wp2
    go_ret
    exact ⟨ret_bool e0.symm, hW1⟩

/-- the bits from lo up to hi -/
def sliceV (v : Nat) (hi lo : Int) : Nat := downN v lo.toNat &&& mask (hi - lo + 1)

def SlicePost (w : Int) (v : Nat) (hi lo : Int) (W : World) (e : Ending) (W' : World) : Prop :=
  e = Tup (if withinB w v hi lo then hi - lo + 1 else 0) (if withinB w v hi lo then sliceV v hi lo else 0) (errE (withinB w v hi lo)) ∧ Below W.heap.size W W'

theorem within_true {w : Int} {v : Nat} {hi lo : Int} (h : withinB w v hi lo = true) : mayB w v = true ∧ 0 ≤ lo ∧ lo ≤ hi ∧ hi < w ∧ w ≤ 64 := by
  simp only [withinB, Bool.and_eq_true, decide_eq_true_eq] at h
  exact ⟨h.1.1.1, h.1.1.2, h.1.2, h.2, (mayB_pos h.1.1.1).2⟩

set_option maxHeartbeats 1000000 in
theorem slice_any (w hi lo : Int) (v : Nat) (W : World) (hv : v < 18446744073709551616) :
    Calls Try.prog 28 #[.agg #[.int .i64 w, .int .u64 v], .int .i64 hi, .int .i64 lo] W (SlicePost w v hi lo W) := by
  cases hw : withinB w v hi lo
  · go_enter Try.func28, Try.ntmps28
    go_wp2_with fail
    refine (within_any w hi lo v _ hv).mono ?_
    rw [hw]
    rintro e W1 ⟨rfl, hb⟩
    obtain ⟨⟨h0, h1, _, _, hl⟩, hR, hW1⟩ := two_box hb
    go_wp2_with fail
    refine (made_any false 0 0 _ (by omega)).mono ?_
    rintro e W2 ⟨rfl, hb2⟩
    obtain ⟨hr0, hr1, hf0, hf1, hrl⟩ := hR.later hb2
    go_wp2
    refine bodyPost_ret (v := .tuple #[.agg #[.int .i64 0, .int .u64 0], .int .i64 1]) ?_ rfl ⟨by rw [hw]; rfl, ?_⟩
    · simp [results, Try.results28, go_sem, hr0, hr1, hf0, hf1, madeW, madeV, errE]
    · exact bin_end hW1 hb2 (by omega) _ _
  · obtain ⟨hm, c1, c2, c3, c4⟩ := within_true hw
    obtain ⟨n, rfl⟩ := Int.eq_ofNat_of_zero_le c1
    have hd := down_walk v n (by omega)
    have hn1 : n ≤ 63 := by omega
    go_enter Try.func28, Try.ntmps28
    go_wp2_with fail
    refine (within_any w hi n v _ hv).mono ?_
    rw [hw]
    rintro e W1 ⟨rfl, hb⟩
    obtain ⟨⟨h0, h1, _, _, hl⟩, hR, hW1⟩ := two_box hb
    go_wp2_with fail
    refine (made_any true (hi - n + 1) _ _ (downN_lt v n hv)).mono ?_
    rintro e W2 ⟨rfl, hb2⟩
    obtain ⟨hr0, hr1, hf0, hf1, hrl⟩ := hR.later hb2
    go_wp2
    refine bodyPost_ret (v := .tuple #[.agg #[.int .i64 (hi - n + 1), .int .u64 (sliceV v hi n : Nat)], .int .i64 0]) ?_ rfl ⟨by rw [hw]; rfl, ?_⟩
    · simp [results, Try.results28, go_sem, hr0, hr1, hf0, hf1, madeW, madeV, errE, sliceV]
    · exact bin_end hW1 hb2 (by omega) _ _

end Go.Proofs.Ytafhnkhcbfilaaa
