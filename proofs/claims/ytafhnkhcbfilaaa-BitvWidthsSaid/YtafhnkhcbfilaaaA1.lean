/- The leaves of bitv and of its reference: what each call gives. -/
import Derived.Test.YtafhnkhcbfilaaaProg
import Derived.Test.YtafhnkhcbfilaaaP2
import Derived.WalkSpells
import Derived.WalkLawsBesides
import Derived.BigQuiet
import Derived.Deep.RegionHeld3
import Derived.Deep.DeepCutAuto
import Derived.Lib.Hide
namespace Go.Proofs.Ytafhnkhcbfilaaa
open Go.RowKit
set_option linter.unusedVariables false
set_option linter.unusedSimpArgs false

set_option maxHeartbeats 400000 in
theorem mask_any (n : Int) (w : World) :
    Calls Try.prog 18 #[.int .i64 n] w fun e w' => e = .returned (.int .u64 (mask n)) ∧ w = w' := by
  by_cases h0 : n ≤ 0
  · have hm : mask n = 0 := by simp [mask, h0]
    rw [hm]
    go_enter Try.func18, Try.ntmps18
    go_wp2
    go_ret
    exact ⟨rfl, rfl⟩
  · by_cases h : n < 64
    · rw [← not_shl n (by omega) h]
      go_enter Try.func18, Try.ntmps18
      go_wp2
      go_ret
      exact ⟨rfl, rfl⟩
    · have hm : mask n = 18446744073709551615 := by simp [mask, h0, h]
      rw [hm]
      go_enter Try.func18, Try.ntmps18
      go_wp2
      go_ret
      exact ⟨rfl, rfl⟩

set_option maxHeartbeats 400000 in
theorem refMask_any (n : Int) (w : World) :
    Calls Try.prog 19 #[.int .i64 n] w fun e w' => e = .returned (.int .u64 (mask n)) ∧ w = w' := by
  by_cases h0 : n ≤ 0
  · have hm : mask n = 0 := by simp [mask, h0]
    rw [hm]
    go_enter Try.func19, Try.ntmps19
    go_wp2
    go_ret
    exact ⟨rfl, rfl⟩
  · by_cases h : n < 64
    · rw [← one_shl n (by omega) h]
      go_enter Try.func19, Try.ntmps19
      go_wp2
      go_ret
      exact ⟨rfl, rfl⟩
    · have hm : mask n = 18446744073709551615 := by simp [mask, h0, h]
      rw [hm]
      go_enter Try.func19, Try.ntmps19
      go_wp2
      go_ret
      exact ⟨rfl, rfl⟩

theorem bel1 (w : World) (o : Obj) (n : Nat) : Below w.heap.size w ((w.alloc o).drewN n) := below_drewN ((Below.refl _ _).alloc (Nat.le_refl _) _) _

theorem ret_bool {a b : Bool} (h : a = b) : Ending.returned (.bool a) = .returned (.bool b) := by rw [h]
theorem ret_int {k : IntKind} {a b : Int} (h : a = b) : Ending.returned (.int k a) = .returned (.int k b) := by rw [h]

set_option maxHeartbeats 400000 in
theorem may_any (w : Int) (v : Nat) (W : World) (hv : v < 18446744073709551616) :
    Calls Try.prog 31 #[.agg #[.int .i64 w, .int .u64 v]] W fun e W' => e = .returned (.bool (mayB w v)) ∧ Below W.heap.size W W' := by
  by_cases h0 : 0 < w
  · by_cases h : w ≤ 64
    · rw [← may_test w v h0 h hv]
      go_enter Try.func31, Try.ntmps31
      go_wp2
      go_quiet ((go_at_call 18; exact Calls.quiet_of_same ((mask_any _ _).mono fun _ _ h => ⟨h.1, h.2.symm⟩)))
      go_wp2
      go_ret
      exact ⟨rfl, bel1 _ _ _⟩
    · have hm : mayB w v = false := by simp [mayB, h]
      have hd : decide (w ≤ 64) = false := by simp [h]
      rw [hm]
      go_enter Try.func31, Try.ntmps31
      go_wp2
      go_quiet (fail)
      go_wp2
      go_ret
      exact ⟨rfl, bel1 _ _ _⟩
  · have hm : mayB w v = false := by simp [mayB, h0]
    have hd : decide (0 < w) = false := by simp [h0]
    rw [hm]
    go_enter Try.func31, Try.ntmps31
    go_wp2
    go_quiet (fail)
    go_wp2
    go_ret
    exact ⟨rfl, bel1 _ _ _⟩

set_option maxHeartbeats 400000 in
theorem refCheck_any (w : Int) (v : Nat) (W : World) (hv : v < 18446744073709551616) :
    Calls Try.prog 17 #[.agg #[.int .i64 w, .int .u64 v]] W fun e W' => e = .returned (.int .i64 (errE (mayB w v))) ∧ Below W.heap.size W W' := by
  by_cases h0 : 0 < w
  · have hn0 : decide (w < 1) = false := by simp; omega
    by_cases h : w ≤ 64
    · have hn1 : decide (64 < w) = false := by simp; omega
      have hr := may_ref w v h0 h
      cases hb : mayB w v
      · rw [hb] at hr
        have hr' : decide (mask w < v) = true := by simpa using hr
        clear hr
        go_enter Try.func17, Try.ntmps17
        go_wp2
        go_quiet ((go_at_call 19; exact Calls.quiet_of_same ((refMask_any _ _).mono fun _ _ h => ⟨h.1, h.2.symm⟩)))
        go_wp2
        go_ret
        exact ⟨rfl, bel1 _ _ _⟩
      · rw [hb] at hr
        have hr' : decide (mask w < v) = false := by simpa using hr
        clear hr
        go_enter Try.func17, Try.ntmps17
        go_wp2
        go_quiet ((go_at_call 19; exact Calls.quiet_of_same ((refMask_any _ _).mono fun _ _ h => ⟨h.1, h.2.symm⟩)))
        go_wp2
        go_ret
        exact ⟨rfl, bel1 _ _ _⟩
    · have hm : mayB w v = false := by simp [mayB, h]
      have hd : decide (64 < w) = true := by simp; omega
      rw [hm]
      go_enter Try.func17, Try.ntmps17
      go_wp2
      go_quiet (fail)
      go_wp2
      go_ret
      exact ⟨rfl, bel1 _ _ _⟩
  · have hm : mayB w v = false := by simp [mayB, h0]
    have hd : decide (w < 1) = true := by simp; omega
    rw [hm]
    go_enter Try.func17, Try.ntmps17
    go_wp2
    go_quiet (fail)
    go_wp2
    go_ret
    exact ⟨rfl, bel1 _ _ _⟩

set_option maxHeartbeats 400000 in
theorem check_any (w : Int) (v : Nat) (W : World) (hv : v < 18446744073709551616) :
    Calls Try.prog 16 #[.agg #[.int .i64 w, .int .u64 v]] W fun e W' => e = .returned (.int .i64 (errE (mayB w v))) ∧ Below W.heap.size W W' := by
  go_enter Try.func16, Try.ntmps16
  go_wp2_with fail
  refine (may_any w v _ hv).mono ?_
  rintro e W1 ⟨rfl, hb⟩
  cases hm : mayB w v
  · go_wp2
    go_ret
    exact ⟨by rw [hm]; rfl, ((Below.refl _ _).alloc (Nat.le_refl _) _).trans (hb.mono (by simp))⟩
  · go_wp2
    go_ret
    exact ⟨by rw [hm]; rfl, ((Below.refl _ _).alloc (Nat.le_refl _) _).trans (hb.mono (by simp))⟩

set_option maxHeartbeats 400000 in
theorem one_any (b : Bool) (W : World) : Calls Try.prog 33 #[.bool b] W fun e W' => e = .returned (.int .u64 (bitN b : Nat)) ∧ W = W' := by
  cases b
  all_goals
    go_enter Try.func33, Try.ntmps33
    go_wp2
    go_ret
    exact ⟨rfl, rfl⟩

set_option maxHeartbeats 400000 in
theorem made_any (ok : Bool) (w : Int) (v : Nat) (W : World) (hv : v < 18446744073709551616) :
    Calls Try.prog 32 #[.bool ok, .int .i64 w, .int .u64 v] W fun e W' =>
      e = .returned (.tuple #[.agg #[.int .i64 (madeW ok w), .int .u64 (madeV ok w v)], .int .i64 (errE ok)]) ∧ Below W.heap.size W W' := by
  cases ok
  · go_enter Try.func32, Try.ntmps32
    go_wp2
    exact bodyPost_ret (v := .tuple #[.agg #[.int .i64 0, .int .u64 0], .int .i64 1]) (by simp [results, Try.results32, go_sem]) rfl ⟨rfl, (Below.refl _ _).alloc (Nat.le_refl _) _⟩
  · have hb := u64_and_nat v (mask w) hv (mask_lt _)
    go_enter Try.func32, Try.ntmps32
    go_wp2_with (go_at_call 18; refine (mask_any _ _).mono ?_; rintro e w' ⟨rfl, rfl⟩)
    exact bodyPost_ret (v := .tuple #[.agg #[.int .i64 w, .int .u64 ((v &&& mask w : Nat) : Int)], .int .i64 0]) (by simp [results, Try.results32, go_sem]) rfl ⟨rfl, (Below.refl _ _).alloc (Nat.le_refl _) _⟩

set_option maxHeartbeats 400000 in
theorem bit_any (b : Bool) (W : World) : Calls Try.prog 35 #[.bool b] W fun e W' => e = .returned (.agg #[.int .i64 1, .int .u64 (bitN b : Nat)]) ∧ Below W.heap.size W W' := by
  cases b
  · go_enter Try.func35, Try.ntmps35
    go_wp2
    exact bodyPost_ret (v := .agg #[.int .i64 1, .int .u64 0]) (by simp [results, Try.results35, go_sem]) rfl ⟨rfl, (Below.refl _ _).alloc (Nat.le_refl _) _⟩
  · go_enter Try.func35, Try.ntmps35
    go_wp2
    exact bodyPost_ret (v := .agg #[.int .i64 1, .int .u64 1]) (by simp [results, Try.results35, go_sem]) rfl ⟨rfl, (Below.refl _ _).alloc (Nat.le_refl _) _⟩

set_option maxHeartbeats 400000 in
theorem lawBits_any (w v : Int) (W : World) : Calls Try.prog 37 #[.int .i64 w, .int .u64 v] W fun e W' => e = .returned (.agg #[.int .i64 w, .int .u64 v]) ∧ Below W.heap.size W W' := by
  go_enter Try.func37, Try.ntmps37
  go_wp2
  exact bodyPost_ret (v := .agg #[.int .i64 w, .int .u64 v]) (by simp [results, Try.results37, go_sem]) rfl ⟨rfl, (Below.refl _ _).alloc (Nat.le_refl _) _⟩

end Go.Proofs.Ytafhnkhcbfilaaa
