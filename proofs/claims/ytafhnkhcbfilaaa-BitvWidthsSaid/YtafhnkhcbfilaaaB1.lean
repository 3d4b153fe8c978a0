/- The operations of two: the reference's Bin. -/
import Derived.Test.YtafhnkhcbfilaaaA9
namespace Go.Proofs.Ytafhnkhcbfilaaa
open Go.RowKit Go.Flow
set_option linter.unusedVariables false
set_option linter.unusedSimpArgs false
set_option maxRecDepth 100000

theorem three_facts {W W1 : World} {wa wb : Int} {va vb : Nat}
    (h : Below (((W.alloc (.cells #[.int .i64 wa, .int .u64 va] 24)).alloc (.cells #[.int .i64 wb, .int .u64 vb] 24)).alloc (.cells #[.int .i64 0, .int .u64 0] 24)).heap.size
      (((W.alloc (.cells #[.int .i64 wa, .int .u64 va] 24)).alloc (.cells #[.int .i64 wb, .int .u64 vb] 24)).alloc (.cells #[.int .i64 0, .int .u64 0] 24)) W1) :
    Box W1 W.heap.size (.int .i64 wa) (.int .u64 va) ∧ Box W1 (W.heap.size + 1) (.int .i64 wb) (.int .u64 vb) ∧ Box W1 (W.heap.size + 1 + 1) (.int .i64 0) (.int .u64 0) ∧ Below W.heap.size W W1 := by
  refine ⟨?_, ?_, ?_, ?_⟩
  · exact (((Box.new W _ _ 24).alloc _).alloc _).later h
  · have := ((Box.new (W.alloc (.cells #[.int .i64 wa, .int .u64 va] 24)) (.int .i64 wb) (.int .u64 vb) 24).alloc (.cells #[.int .i64 0, .int .u64 0] 24)).later h
    simpa using this
  · have := (Box.new ((W.alloc (.cells #[.int .i64 wa, .int .u64 va] 24)).alloc (.cells #[.int .i64 wb, .int .u64 vb] 24)) (.int .i64 0) (.int .u64 0) 24).later h
    simpa using this
  · exact ((((Below.refl _ _).alloc (Nat.le_refl _) _).alloc (by simp) _).alloc (by simp; omega) _).trans (h.mono (by simp; omega))

set_option maxHeartbeats 2000000 in
theorem refBin_noa (op wa wb : Int) (va vb : Nat) (hma : mayB wa va = false) (W : World) (ha : va < 18446744073709551616) (hb : vb < 18446744073709551616) :
    Calls Try.prog 21 #[.int .i64 op, .agg #[.int .i64 wa, .int .u64 va], .agg #[.int .i64 wb, .int .u64 vb]] W fun e W' => e = .returned (.tuple #[.agg #[.int .i64 0, .int .u64 0], .int .i64 1]) ∧ Below W.heap.size W W' := by
  have hea : errE (mayB wa va) = 1 := by rw [hma]; rfl
  go_enter Try.func21, Try.ntmps21
  go_wp2_with fail
  refine (refCheck_any wa va _ ha).mono ?_
  rintro e W1 ⟨rfl, hbel⟩
  obtain ⟨hA, hB, hR, hW1⟩ := three_facts hbel
  clear hbel
  obtain ⟨hr0, hr1, hf0, hf1, hrl⟩ := hR
  go_wp2
  refine bodyPost_ret (v := .tuple #[.agg #[.int .i64 0, .int .u64 0], .int .i64 1]) ?_ rfl ⟨rfl, ?_⟩
  · simp [results, Try.results21, go_sem, hr0, hr1, hf0, hf1]
  · exact (hW1.setCell (by simp; try omega) _).setCell (by simp; try omega) _

set_option maxHeartbeats 2000000 in
theorem refBin_nob (op wa wb : Int) (va vb : Nat) (hma : mayB wa va = true) (hmb : mayB wb vb = false) (W : World) (ha : va < 18446744073709551616) (hb : vb < 18446744073709551616) :
    Calls Try.prog 21 #[.int .i64 op, .agg #[.int .i64 wa, .int .u64 va], .agg #[.int .i64 wb, .int .u64 vb]] W fun e W' => e = .returned (.tuple #[.agg #[.int .i64 0, .int .u64 0], .int .i64 1]) ∧ Below W.heap.size W W' := by
  have hea : errE (mayB wa va) = 0 := by rw [hma]; rfl
  have heb : errE (mayB wb vb) = 1 := by rw [hmb]; rfl
  go_enter Try.func21, Try.ntmps21
  go_wp2_with fail
  refine (refCheck_any wa va _ ha).mono ?_
  rintro e W1 ⟨rfl, hbel⟩
  obtain ⟨hA, hB, hR, hW1⟩ := three_facts hbel
  clear hbel
  obtain ⟨hA0, hA1, _, _, hAl⟩ := hA
  obtain ⟨hB0, hB1, _, _, hBl⟩ := hB
  go_wp2_with fail
  refine (refCheck_any wb vb _ hb).mono ?_
  rintro e W2 ⟨rfl, hb2⟩
  have hA' := Box.later ⟨hA0, hA1, ‹_›, ‹_›, hAl⟩ hb2
  have hB' := Box.later ⟨hB0, hB1, ‹_›, ‹_›, hBl⟩ hb2
  have hR' := hR.later hb2
  have hW2 := hW1.trans (hb2.mono hW1.size)
  clear hA0 hA1 hB0 hB1 hR hW1 hb2 hAl hBl
  obtain ⟨hA0, hA1, _, _, hAl⟩ := hA'
  obtain ⟨hB0, hB1, _, _, hBl⟩ := hB'
  obtain ⟨hr0, hr1, hf0, hf1, hrl⟩ := hR'
  go_wp2
  refine bodyPost_ret (v := .tuple #[.agg #[.int .i64 0, .int .u64 0], .int .i64 1]) ?_ rfl ⟨rfl, ?_⟩
  · simp [results, Try.results21, go_sem, hr0, hr1, hf0, hf1]
  · exact (hW2.setCell (by simp; try omega) _).setCell (by simp; try omega) _

set_option maxHeartbeats 2000000 in
theorem refBin_shl (wa wb : Int) (va vb : Nat) (hma : mayB wa va = true) (hmb : mayB wb vb = true) (W : World) (ha : va < 18446744073709551616) (hb : vb < 18446744073709551616) :
    Calls Try.prog 21 #[.int .i64 17, .agg #[.int .i64 wa, .int .u64 va], .agg #[.int .i64 wb, .int .u64 vb]] W fun e W' => e = .returned (.tuple #[.agg #[.int .i64 wa, .int .u64 ((upN va vb &&& mask wa : Nat) : Int)], .int .i64 0]) ∧ Below W.heap.size W W' := by
  have hea : errE (mayB wa va) = 0 := by rw [hma]; rfl
  have heb : errE (mayB wb vb) = 0 := by rw [hmb]; rfl
  have hand := u64_and_nat (upN va vb) (mask wa) (upN_lt va vb) (mask_lt wa)
  go_enter Try.func21, Try.ntmps21
  go_wp2_with fail
  refine (refCheck_any wa va _ ha).mono ?_
  rintro e W1 ⟨rfl, hbel⟩
  obtain ⟨hA, hB, hR, hW1⟩ := three_facts hbel
  clear hbel
  obtain ⟨hA0, hA1, _, _, hAl⟩ := hA
  obtain ⟨hB0, hB1, _, _, hBl⟩ := hB
  go_wp2_with fail
  refine (refCheck_any wb vb _ hb).mono ?_
  rintro e W2 ⟨rfl, hb2⟩
  have hA' := Box.later ⟨hA0, hA1, ‹_›, ‹_›, hAl⟩ hb2
  have hB' := Box.later ⟨hB0, hB1, ‹_›, ‹_›, hBl⟩ hb2
  have hR' := hR.later hb2
  have hW2 := hW1.trans (hb2.mono hW1.size)
  clear hA0 hA1 hB0 hB1 hR hW1 hb2 hAl hBl
  obtain ⟨hA0, hA1, _, _, hAl⟩ := hA'
  obtain ⟨hB0, hB1, _, _, hBl⟩ := hB'
  go_wp2_with fail
  refine (refMask_any wa _).mono ?_
  rintro e W3 ⟨rfl, rfl⟩
  obtain ⟨hr0, hr1, hf0, hf1, hrl⟩ := hR'
  have hne2 : ¬ W.heap.size + 1 + 1 = W.heap.size := by omega
  have hne3 : ¬ W.heap.size = W.heap.size + 1 + 1 := by omega
  go_wp2_with fail
  go_region_held3 (fun w' => w'.cell? ⟨W.heap.size, 0, none⟩ = some (.int .i64 wa) ∧ w'.cell? ⟨W.heap.size, 1, none⟩ = some (.int .u64 va) ∧ w'.cell? ⟨W.heap.size + 1, 1, none⟩ = some (.int .u64 vb)) (go_keep)
    (first | (go_at_call 41; refine (up_any va vb _).mono ?_; rintro e w' ⟨rfl, rfl⟩))
  go_wp2
  refine bodyPost_ret (v := .tuple #[.agg #[.int .i64 wa, .int .u64 ((upN va vb &&& mask wa : Nat) : Int)], .int .i64 0]) ?_ rfl ⟨rfl, ?_⟩
  · simp [results, Try.results21, go_sem, hr0, hr1, hf0, hf1]
  · exact (hW2.drew.setCell (by simp; try omega) _).setCell (by simp; try omega) _

set_option maxHeartbeats 2000000 in
theorem refBin_shr (wa wb : Int) (va vb : Nat) (hma : mayB wa va = true) (hmb : mayB wb vb = true) (W : World) (ha : va < 18446744073709551616) (hb : vb < 18446744073709551616) :
    Calls Try.prog 21 #[.int .i64 18, .agg #[.int .i64 wa, .int .u64 va], .agg #[.int .i64 wb, .int .u64 vb]] W fun e W' => e = .returned (.tuple #[.agg #[.int .i64 wa, .int .u64 ((downN va vb : Nat) : Int)], .int .i64 0]) ∧ Below W.heap.size W W' := by
  have hea : errE (mayB wa va) = 0 := by rw [hma]; rfl
  have heb : errE (mayB wb vb) = 0 := by rw [hmb]; rfl
  go_enter Try.func21, Try.ntmps21
  go_wp2_with fail
  refine (refCheck_any wa va _ ha).mono ?_
  rintro e W1 ⟨rfl, hbel⟩
  obtain ⟨hA, hB, hR, hW1⟩ := three_facts hbel
  clear hbel
  obtain ⟨hA0, hA1, _, _, hAl⟩ := hA
  obtain ⟨hB0, hB1, _, _, hBl⟩ := hB
  go_wp2_with fail
  refine (refCheck_any wb vb _ hb).mono ?_
  rintro e W2 ⟨rfl, hb2⟩
  have hA' := Box.later ⟨hA0, hA1, ‹_›, ‹_›, hAl⟩ hb2
  have hB' := Box.later ⟨hB0, hB1, ‹_›, ‹_›, hBl⟩ hb2
  have hR' := hR.later hb2
  have hW2 := hW1.trans (hb2.mono hW1.size)
  clear hA0 hA1 hB0 hB1 hR hW1 hb2 hAl hBl
  obtain ⟨hA0, hA1, _, _, hAl⟩ := hA'
  obtain ⟨hB0, hB1, _, _, hBl⟩ := hB'
  go_wp2_with fail
  refine (refMask_any wa _).mono ?_
  rintro e W3 ⟨rfl, rfl⟩
  obtain ⟨hr0, hr1, hf0, hf1, hrl⟩ := hR'
  have hne2 : ¬ W.heap.size + 1 + 1 = W.heap.size := by omega
  have hne3 : ¬ W.heap.size = W.heap.size + 1 + 1 := by omega
  go_wp2_with fail
  go_region_held3 (fun w' => w'.cell? ⟨W.heap.size, 0, none⟩ = some (.int .i64 wa) ∧ w'.cell? ⟨W.heap.size, 1, none⟩ = some (.int .u64 va) ∧ w'.cell? ⟨W.heap.size + 1, 1, none⟩ = some (.int .u64 vb)) (go_keep)
    (first | (go_at_call 42; refine (down_any va vb _).mono ?_; rintro e w' ⟨rfl, rfl⟩))
  go_wp2
  refine bodyPost_ret (v := .tuple #[.agg #[.int .i64 wa, .int .u64 ((downN va vb : Nat) : Int)], .int .i64 0]) ?_ rfl ⟨rfl, ?_⟩
  · simp [results, Try.results21, go_sem, hr0, hr1, hf0, hf1]
  · exact (hW2.drew.setCell (by simp; try omega) _).setCell (by simp; try omega) _

set_option maxHeartbeats 2000000 in
theorem refBin_unlike (op wa wb : Int) (va vb : Nat) (hma : mayB wa va = true) (hmb : mayB wb vb = true) (h17 : (op == 17) = false) (h18 : (op == 18) = false) (hne : (wa != wb) = true) (W : World) (ha : va < 18446744073709551616) (hb : vb < 18446744073709551616) :
    Calls Try.prog 21 #[.int .i64 op, .agg #[.int .i64 wa, .int .u64 va], .agg #[.int .i64 wb, .int .u64 vb]] W fun e W' => e = .returned (.tuple #[.agg #[.int .i64 0, .int .u64 0], .int .i64 1]) ∧ Below W.heap.size W W' := by
  have hea : errE (mayB wa va) = 0 := by rw [hma]; rfl
  have heb : errE (mayB wb vb) = 0 := by rw [hmb]; rfl
  go_enter Try.func21, Try.ntmps21
  go_wp2_with fail
  refine (refCheck_any wa va _ ha).mono ?_
  rintro e W1 ⟨rfl, hbel⟩
  obtain ⟨hA, hB, hR, hW1⟩ := three_facts hbel
  clear hbel
  obtain ⟨hA0, hA1, _, _, hAl⟩ := hA
  obtain ⟨hB0, hB1, _, _, hBl⟩ := hB
  go_wp2_with fail
  refine (refCheck_any wb vb _ hb).mono ?_
  rintro e W2 ⟨rfl, hb2⟩
  have hA' := Box.later ⟨hA0, hA1, ‹_›, ‹_›, hAl⟩ hb2
  have hB' := Box.later ⟨hB0, hB1, ‹_›, ‹_›, hBl⟩ hb2
  have hR' := hR.later hb2
  have hW2 := hW1.trans (hb2.mono hW1.size)
  clear hA0 hA1 hB0 hB1 hR hW1 hb2 hAl hBl
  obtain ⟨hA0, hA1, _, _, hAl⟩ := hA'
  obtain ⟨hB0, hB1, _, _, hBl⟩ := hB'
  go_wp2_with fail
  refine (refMask_any wa _).mono ?_
  rintro e W3 ⟨rfl, rfl⟩
  obtain ⟨hr0, hr1, hf0, hf1, hrl⟩ := hR'
  go_wp2
  refine bodyPost_ret (v := .tuple #[.agg #[.int .i64 0, .int .u64 0], .int .i64 1]) ?_ rfl ⟨rfl, ?_⟩
  · simp [results, Try.results21, go_sem, hr0, hr1, hf0, hf1]
  · exact (hW2.setCell (by simp; try omega) _).setCell (by simp; try omega) _

set_option maxHeartbeats 2000000 in
theorem refBin_and (wa : Int) (va vb : Nat) (hma : mayB wa va = true) (hmb : mayB wa vb = true) (W : World) (ha : va < 18446744073709551616) (hb : vb < 18446744073709551616) :
    Calls Try.prog 21 #[.int .i64 11, .agg #[.int .i64 wa, .int .u64 va], .agg #[.int .i64 wa, .int .u64 vb]] W fun e W' => e = .returned (.tuple #[.agg #[.int .i64 wa, .int .u64 ((va &&& vb : Nat) : Int)], .int .i64 0]) ∧ Below W.heap.size W W' := by
  have hea : errE (mayB wa va) = 0 := by rw [hma]; rfl
  have heb : errE (mayB wa vb) = 0 := by rw [hmb]; rfl
  have hne : (wa != wa) = false := by simp
  have hand := u64_and_nat va vb ha hb
  go_enter Try.func21, Try.ntmps21
  go_wp2_with fail
  refine (refCheck_any wa va _ ha).mono ?_
  rintro e W1 ⟨rfl, hbel⟩
  obtain ⟨hA, hB, hR, hW1⟩ := three_facts hbel
  clear hbel
  obtain ⟨hA0, hA1, _, _, hAl⟩ := hA
  obtain ⟨hB0, hB1, _, _, hBl⟩ := hB
  go_wp2_with fail
  refine (refCheck_any wa vb _ hb).mono ?_
  rintro e W2 ⟨rfl, hb2⟩
  have hA' := Box.later ⟨hA0, hA1, ‹_›, ‹_›, hAl⟩ hb2
  have hB' := Box.later ⟨hB0, hB1, ‹_›, ‹_›, hBl⟩ hb2
  have hR' := hR.later hb2
  have hW2 := hW1.trans (hb2.mono hW1.size)
  clear hA0 hA1 hB0 hB1 hR hW1 hb2 hAl hBl
  obtain ⟨hA0, hA1, _, _, hAl⟩ := hA'
  obtain ⟨hB0, hB1, _, _, hBl⟩ := hB'
  go_wp2_with fail
  refine (refMask_any wa _).mono ?_
  rintro e W3 ⟨rfl, rfl⟩
  obtain ⟨hr0, hr1, hf0, hf1, hrl⟩ := hR'
  go_wp2
  refine bodyPost_ret (v := .tuple #[.agg #[.int .i64 wa, .int .u64 ((va &&& vb : Nat) : Int)], .int .i64 0]) ?_ rfl ⟨rfl, ?_⟩
  · simp [results, Try.results21, go_sem, hr0, hr1, hf0, hf1]
  · exact (hW2.setCell (by simp; try omega) _).setCell (by simp; try omega) _

set_option maxHeartbeats 2000000 in
theorem refBin_or (wa : Int) (va vb : Nat) (hma : mayB wa va = true) (hmb : mayB wa vb = true) (W : World) (ha : va < 18446744073709551616) (hb : vb < 18446744073709551616) :
    Calls Try.prog 21 #[.int .i64 12, .agg #[.int .i64 wa, .int .u64 va], .agg #[.int .i64 wa, .int .u64 vb]] W fun e W' => e = .returned (.tuple #[.agg #[.int .i64 wa, .int .u64 ((va ||| vb : Nat) : Int)], .int .i64 0]) ∧ Below W.heap.size W W' := by
  have hea : errE (mayB wa va) = 0 := by rw [hma]; rfl
  have heb : errE (mayB wa vb) = 0 := by rw [hmb]; rfl
  have hne : (wa != wa) = false := by simp
  have hand := u64_or_nat va vb ha hb
  go_enter Try.func21, Try.ntmps21
  go_wp2_with fail
  refine (refCheck_any wa va _ ha).mono ?_
  rintro e W1 ⟨rfl, hbel⟩
  obtain ⟨hA, hB, hR, hW1⟩ := three_facts hbel
  clear hbel
  obtain ⟨hA0, hA1, _, _, hAl⟩ := hA
  obtain ⟨hB0, hB1, _, _, hBl⟩ := hB
  go_wp2_with fail
  refine (refCheck_any wa vb _ hb).mono ?_
  rintro e W2 ⟨rfl, hb2⟩
  have hA' := Box.later ⟨hA0, hA1, ‹_›, ‹_›, hAl⟩ hb2
  have hB' := Box.later ⟨hB0, hB1, ‹_›, ‹_›, hBl⟩ hb2
  have hR' := hR.later hb2
  have hW2 := hW1.trans (hb2.mono hW1.size)
  clear hA0 hA1 hB0 hB1 hR hW1 hb2 hAl hBl
  obtain ⟨hA0, hA1, _, _, hAl⟩ := hA'
  obtain ⟨hB0, hB1, _, _, hBl⟩ := hB'
  go_wp2_with fail
  refine (refMask_any wa _).mono ?_
  rintro e W3 ⟨rfl, rfl⟩
  obtain ⟨hr0, hr1, hf0, hf1, hrl⟩ := hR'
  go_wp2
  refine bodyPost_ret (v := .tuple #[.agg #[.int .i64 wa, .int .u64 ((va ||| vb : Nat) : Int)], .int .i64 0]) ?_ rfl ⟨rfl, ?_⟩
  · simp [results, Try.results21, go_sem, hr0, hr1, hf0, hf1]
  · exact (hW2.setCell (by simp; try omega) _).setCell (by simp; try omega) _

set_option maxHeartbeats 2000000 in
theorem refBin_xor (wa : Int) (va vb : Nat) (hma : mayB wa va = true) (hmb : mayB wa vb = true) (W : World) (ha : va < 18446744073709551616) (hb : vb < 18446744073709551616) :
    Calls Try.prog 21 #[.int .i64 13, .agg #[.int .i64 wa, .int .u64 va], .agg #[.int .i64 wa, .int .u64 vb]] W fun e W' => e = .returned (.tuple #[.agg #[.int .i64 wa, .int .u64 ((va ^^^ vb : Nat) : Int)], .int .i64 0]) ∧ Below W.heap.size W W' := by
  have hea : errE (mayB wa va) = 0 := by rw [hma]; rfl
  have heb : errE (mayB wa vb) = 0 := by rw [hmb]; rfl
  have hne : (wa != wa) = false := by simp
  have hand := u64_xor_nat va vb ha hb
  go_enter Try.func21, Try.ntmps21
  go_wp2_with fail
  refine (refCheck_any wa va _ ha).mono ?_
  rintro e W1 ⟨rfl, hbel⟩
  obtain ⟨hA, hB, hR, hW1⟩ := three_facts hbel
  clear hbel
  obtain ⟨hA0, hA1, _, _, hAl⟩ := hA
  obtain ⟨hB0, hB1, _, _, hBl⟩ := hB
  go_wp2_with fail
  refine (refCheck_any wa vb _ hb).mono ?_
  rintro e W2 ⟨rfl, hb2⟩
  have hA' := Box.later ⟨hA0, hA1, ‹_›, ‹_›, hAl⟩ hb2
  have hB' := Box.later ⟨hB0, hB1, ‹_›, ‹_›, hBl⟩ hb2
  have hR' := hR.later hb2
  have hW2 := hW1.trans (hb2.mono hW1.size)
  clear hA0 hA1 hB0 hB1 hR hW1 hb2 hAl hBl
  obtain ⟨hA0, hA1, _, _, hAl⟩ := hA'
  obtain ⟨hB0, hB1, _, _, hBl⟩ := hB'
  go_wp2_with fail
  refine (refMask_any wa _).mono ?_
  rintro e W3 ⟨rfl, rfl⟩
  obtain ⟨hr0, hr1, hf0, hf1, hrl⟩ := hR'
  go_wp2
  refine bodyPost_ret (v := .tuple #[.agg #[.int .i64 wa, .int .u64 ((va ^^^ vb : Nat) : Int)], .int .i64 0]) ?_ rfl ⟨rfl, ?_⟩
  · simp [results, Try.results21, go_sem, hr0, hr1, hf0, hf1]
  · exact (hW2.setCell (by simp; try omega) _).setCell (by simp; try omega) _

set_option maxHeartbeats 2000000 in
theorem refBin_add (wa : Int) (va vb : Nat) (hma : mayB wa va = true) (hmb : mayB wa vb = true) (W : World) (ha : va < 18446744073709551616) (hb : vb < 18446744073709551616) :
    Calls Try.prog 21 #[.int .i64 14, .agg #[.int .i64 wa, .int .u64 va], .agg #[.int .i64 wa, .int .u64 vb]] W fun e W' => e = .returned (.tuple #[.agg #[.int .i64 wa, .int .u64 (((va + vb) % 18446744073709551616 &&& mask wa : Nat) : Int)], .int .i64 0]) ∧ Below W.heap.size W W' := by
  have hea : errE (mayB wa va) = 0 := by rw [hma]; rfl
  have heb : errE (mayB wa vb) = 0 := by rw [hmb]; rfl
  have hne : (wa != wa) = false := by simp
  have hw := add_walk va vb
  have hlt : (va + vb) % 18446744073709551616 < 18446744073709551616 := Nat.mod_lt _ (by omega)
  generalize (va + vb) % 18446744073709551616 = r at *
  have hand := u64_and_nat r (mask wa) hlt (mask_lt wa)
  go_enter Try.func21, Try.ntmps21
  go_wp2_with fail
  refine (refCheck_any wa va _ ha).mono ?_
  rintro e W1 ⟨rfl, hbel⟩
  obtain ⟨hA, hB, hR, hW1⟩ := three_facts hbel
  clear hbel
  obtain ⟨hA0, hA1, _, _, hAl⟩ := hA
  obtain ⟨hB0, hB1, _, _, hBl⟩ := hB
  go_wp2_with fail
  refine (refCheck_any wa vb _ hb).mono ?_
  rintro e W2 ⟨rfl, hb2⟩
  have hA' := Box.later ⟨hA0, hA1, ‹_›, ‹_›, hAl⟩ hb2
  have hB' := Box.later ⟨hB0, hB1, ‹_›, ‹_›, hBl⟩ hb2
  have hR' := hR.later hb2
  have hW2 := hW1.trans (hb2.mono hW1.size)
  clear hA0 hA1 hB0 hB1 hR hW1 hb2 hAl hBl
  obtain ⟨hA0, hA1, _, _, hAl⟩ := hA'
  obtain ⟨hB0, hB1, _, _, hBl⟩ := hB'
  go_wp2_with fail
  refine (refMask_any wa _).mono ?_
  rintro e W3 ⟨rfl, rfl⟩
  obtain ⟨hr0, hr1, hf0, hf1, hrl⟩ := hR'
  go_wp2
  refine bodyPost_ret (v := .tuple #[.agg #[.int .i64 wa, .int .u64 ((r &&& mask wa : Nat) : Int)], .int .i64 0]) ?_ rfl ⟨rfl, ?_⟩
  · simp [results, Try.results21, go_sem, hr0, hr1, hf0, hf1]
  · exact (hW2.setCell (by simp; try omega) _).setCell (by simp; try omega) _

set_option maxHeartbeats 2000000 in
theorem refBin_sub (wa : Int) (va vb : Nat) (hma : mayB wa va = true) (hmb : mayB wa vb = true) (W : World) (ha : va < 18446744073709551616) (hb : vb < 18446744073709551616) :
    Calls Try.prog 21 #[.int .i64 15, .agg #[.int .i64 wa, .int .u64 va], .agg #[.int .i64 wa, .int .u64 vb]] W fun e W' => e = .returned (.tuple #[.agg #[.int .i64 wa, .int .u64 (((va + (18446744073709551616 - vb)) % 18446744073709551616 &&& mask wa : Nat) : Int)], .int .i64 0]) ∧ Below W.heap.size W W' := by
  have hea : errE (mayB wa va) = 0 := by rw [hma]; rfl
  have heb : errE (mayB wa vb) = 0 := by rw [hmb]; rfl
  have hne : (wa != wa) = false := by simp
  have hw := sub_walk2 va vb hb
  have hlt : (va + (18446744073709551616 - vb)) % 18446744073709551616 < 18446744073709551616 := Nat.mod_lt _ (by omega)
  generalize (va + (18446744073709551616 - vb)) % 18446744073709551616 = r at *
  have hand := u64_and_nat r (mask wa) hlt (mask_lt wa)
  go_enter Try.func21, Try.ntmps21
  go_wp2_with fail
  refine (refCheck_any wa va _ ha).mono ?_
  rintro e W1 ⟨rfl, hbel⟩
  obtain ⟨hA, hB, hR, hW1⟩ := three_facts hbel
  clear hbel
  obtain ⟨hA0, hA1, _, _, hAl⟩ := hA
  obtain ⟨hB0, hB1, _, _, hBl⟩ := hB
  go_wp2_with fail
  refine (refCheck_any wa vb _ hb).mono ?_
  rintro e W2 ⟨rfl, hb2⟩
  have hA' := Box.later ⟨hA0, hA1, ‹_›, ‹_›, hAl⟩ hb2
  have hB' := Box.later ⟨hB0, hB1, ‹_›, ‹_›, hBl⟩ hb2
  have hR' := hR.later hb2
  have hW2 := hW1.trans (hb2.mono hW1.size)
  clear hA0 hA1 hB0 hB1 hR hW1 hb2 hAl hBl
  obtain ⟨hA0, hA1, _, _, hAl⟩ := hA'
  obtain ⟨hB0, hB1, _, _, hBl⟩ := hB'
  go_wp2_with fail
  refine (refMask_any wa _).mono ?_
  rintro e W3 ⟨rfl, rfl⟩
  obtain ⟨hr0, hr1, hf0, hf1, hrl⟩ := hR'
  go_wp2
  refine bodyPost_ret (v := .tuple #[.agg #[.int .i64 wa, .int .u64 ((r &&& mask wa : Nat) : Int)], .int .i64 0]) ?_ rfl ⟨rfl, ?_⟩
  · simp [results, Try.results21, go_sem, hr0, hr1, hf0, hf1]
  · exact (hW2.setCell (by simp; try omega) _).setCell (by simp; try omega) _

set_option maxHeartbeats 2000000 in
theorem refBin_mul (wa : Int) (va vb : Nat) (hma : mayB wa va = true) (hmb : mayB wa vb = true) (W : World) (ha : va < 18446744073709551616) (hb : vb < 18446744073709551616) :
    Calls Try.prog 21 #[.int .i64 16, .agg #[.int .i64 wa, .int .u64 va], .agg #[.int .i64 wa, .int .u64 vb]] W fun e W' => e = .returned (.tuple #[.agg #[.int .i64 wa, .int .u64 ((va * vb % 18446744073709551616 &&& mask wa : Nat) : Int)], .int .i64 0]) ∧ Below W.heap.size W W' := by
  have hea : errE (mayB wa va) = 0 := by rw [hma]; rfl
  have heb : errE (mayB wa vb) = 0 := by rw [hmb]; rfl
  have hne : (wa != wa) = false := by simp
  have hw := mul_walk va vb
  have hlt : va * vb % 18446744073709551616 < 18446744073709551616 := Nat.mod_lt _ (by omega)
  generalize va * vb % 18446744073709551616 = r at *
  have hand := u64_and_nat r (mask wa) hlt (mask_lt wa)
  go_enter Try.func21, Try.ntmps21
  go_wp2_with fail
  refine (refCheck_any wa va _ ha).mono ?_
  rintro e W1 ⟨rfl, hbel⟩
  obtain ⟨hA, hB, hR, hW1⟩ := three_facts hbel
  clear hbel
  obtain ⟨hA0, hA1, _, _, hAl⟩ := hA
  obtain ⟨hB0, hB1, _, _, hBl⟩ := hB
  go_wp2_with fail
  refine (refCheck_any wa vb _ hb).mono ?_
  rintro e W2 ⟨rfl, hb2⟩
  have hA' := Box.later ⟨hA0, hA1, ‹_›, ‹_›, hAl⟩ hb2
  have hB' := Box.later ⟨hB0, hB1, ‹_›, ‹_›, hBl⟩ hb2
  have hR' := hR.later hb2
  have hW2 := hW1.trans (hb2.mono hW1.size)
  clear hA0 hA1 hB0 hB1 hR hW1 hb2 hAl hBl
  obtain ⟨hA0, hA1, _, _, hAl⟩ := hA'
  obtain ⟨hB0, hB1, _, _, hBl⟩ := hB'
  go_wp2_with fail
  refine (refMask_any wa _).mono ?_
  rintro e W3 ⟨rfl, rfl⟩
  obtain ⟨hr0, hr1, hf0, hf1, hrl⟩ := hR'
  go_wp2
  refine bodyPost_ret (v := .tuple #[.agg #[.int .i64 wa, .int .u64 ((r &&& mask wa : Nat) : Int)], .int .i64 0]) ?_ rfl ⟨rfl, ?_⟩
  · simp [results, Try.results21, go_sem, hr0, hr1, hf0, hf1]
  · exact (hW2.setCell (by simp; try omega) _).setCell (by simp; try omega) _

end Go.Proofs.Ytafhnkhcbfilaaa
