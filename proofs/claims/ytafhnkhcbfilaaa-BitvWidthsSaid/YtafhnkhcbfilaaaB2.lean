/- The operations of two: the reference's Bin. -/
import Derived.Test.YtafhnkhcbfilaaaB1
namespace Go.Proofs.Ytafhnkhcbfilaaa
open Go.RowKit Go.Flow
set_option linter.unusedVariables false
set_option linter.unusedSimpArgs false
set_option maxRecDepth 100000

set_option maxHeartbeats 2000000 in
theorem refBin_eq (wa : Int) (va vb : Nat) (hma : mayB wa va = true) (hmb : mayB wa vb = true) (W : World) (ha : va < 18446744073709551616) (hb : vb < 18446744073709551616) :
    Calls Try.prog 21 #[.int .i64 19, .agg #[.int .i64 wa, .int .u64 va], .agg #[.int .i64 wa, .int .u64 vb]] W fun e W' => e = .returned (.tuple #[.agg #[.int .i64 1, .int .u64 ((bitN ((va : Int) == (vb : Int)) : Nat) : Int)], .int .i64 0]) ∧ Below W.heap.size W W' := by
  have hea : errE (mayB wa va) = 0 := by rw [hma]; rfl
  have heb : errE (mayB wa vb) = 0 := by rw [hmb]; rfl
  have hne : (wa != wa) = false := by simp
  go_enter Try.func21, Try.ntmps21
  go_wp2_with fail
  refine (refCheck_any wa va _ ha).mono ?_
  rintro e W1 ⟨rfl, hbel⟩
  obtain ⟨hA, hB, hR, hW1⟩ := three_facts hbel
  clear hbel
  obtain ⟨hA0, hA1, _, _, hAl⟩ := hA
  obtain ⟨hB0, hB1, _, _, hBl⟩ := hB
  go_wp2_with fail
  refine (refCheck_any wa vb _ hb).mono ?_
  rintro e W2 ⟨rfl, hb2⟩
  have hA' := Box.later ⟨hA0, hA1, ‹_›, ‹_›, hAl⟩ hb2
  have hB' := Box.later ⟨hB0, hB1, ‹_›, ‹_›, hBl⟩ hb2
  have hR' := hR.later hb2
  have hW2 := hW1.trans (hb2.mono hW1.size)
  clear hA0 hA1 hB0 hB1 hR hW1 hb2 hAl hBl
  obtain ⟨hA0, hA1, _, _, hAl⟩ := hA'
  obtain ⟨hB0, hB1, _, _, hBl⟩ := hB'
  go_wp2_with fail
  refine (refMask_any wa _).mono ?_
  rintro e W3 ⟨rfl, rfl⟩
  go_wp2_with fail
  refine (bit_any _ _).mono ?_
  rintro e W3 ⟨rfl, hb3⟩
  obtain ⟨hr0, hr1, hf0, hf1, hrl⟩ := hR'.later hb3
  go_wp2
  refine bodyPost_ret (v := .tuple #[.agg #[.int .i64 1, .int .u64 ((bitN ((va : Int) == (vb : Int)) : Nat) : Int)], .int .i64 0]) ?_ rfl ⟨rfl, ?_⟩
  · simp [results, Try.results21, go_sem, hr0, hr1, hf0, hf1]
  · exact ((hW2.trans (hb3.mono hW2.size)).setCell (by simp; try omega) _).setCell (by simp; try omega) _

set_option maxHeartbeats 2000000 in
theorem refBin_ne (wa : Int) (va vb : Nat) (hma : mayB wa va = true) (hmb : mayB wa vb = true) (W : World) (ha : va < 18446744073709551616) (hb : vb < 18446744073709551616) :
    Calls Try.prog 21 #[.int .i64 20, .agg #[.int .i64 wa, .int .u64 va], .agg #[.int .i64 wa, .int .u64 vb]] W fun e W' => e = .returned (.tuple #[.agg #[.int .i64 1, .int .u64 ((bitN ((va : Int) != (vb : Int)) : Nat) : Int)], .int .i64 0]) ∧ Below W.heap.size W W' := by
  have hea : errE (mayB wa va) = 0 := by rw [hma]; rfl
  have heb : errE (mayB wa vb) = 0 := by rw [hmb]; rfl
  have hne : (wa != wa) = false := by simp
  go_enter Try.func21, Try.ntmps21
  go_wp2_with fail
  refine (refCheck_any wa va _ ha).mono ?_
  rintro e W1 ⟨rfl, hbel⟩
  obtain ⟨hA, hB, hR, hW1⟩ := three_facts hbel
  clear hbel
  obtain ⟨hA0, hA1, _, _, hAl⟩ := hA
  obtain ⟨hB0, hB1, _, _, hBl⟩ := hB
  go_wp2_with fail
  refine (refCheck_any wa vb _ hb).mono ?_
  rintro e W2 ⟨rfl, hb2⟩
  have hA' := Box.later ⟨hA0, hA1, ‹_›, ‹_›, hAl⟩ hb2
  have hB' := Box.later ⟨hB0, hB1, ‹_›, ‹_›, hBl⟩ hb2
  have hR' := hR.later hb2
  have hW2 := hW1.trans (hb2.mono hW1.size)
  clear hA0 hA1 hB0 hB1 hR hW1 hb2 hAl hBl
  obtain ⟨hA0, hA1, _, _, hAl⟩ := hA'
  obtain ⟨hB0, hB1, _, _, hBl⟩ := hB'
  go_wp2_with fail
  refine (refMask_any wa _).mono ?_
  rintro e W3 ⟨rfl, rfl⟩
  go_wp2_with fail
  refine (bit_any _ _).mono ?_
  rintro e W3 ⟨rfl, hb3⟩
  obtain ⟨hr0, hr1, hf0, hf1, hrl⟩ := hR'.later hb3
  go_wp2
  refine bodyPost_ret (v := .tuple #[.agg #[.int .i64 1, .int .u64 ((bitN ((va : Int) != (vb : Int)) : Nat) : Int)], .int .i64 0]) ?_ rfl ⟨rfl, ?_⟩
  · simp [results, Try.results21, go_sem, hr0, hr1, hf0, hf1]
  · exact ((hW2.trans (hb3.mono hW2.size)).setCell (by simp; try omega) _).setCell (by simp; try omega) _

set_option maxHeartbeats 2000000 in
theorem refBin_lt (wa : Int) (va vb : Nat) (hma : mayB wa va = true) (hmb : mayB wa vb = true) (W : World) (ha : va < 18446744073709551616) (hb : vb < 18446744073709551616) :
    Calls Try.prog 21 #[.int .i64 21, .agg #[.int .i64 wa, .int .u64 va], .agg #[.int .i64 wa, .int .u64 vb]] W fun e W' => e = .returned (.tuple #[.agg #[.int .i64 1, .int .u64 ((bitN (decide (va < vb)) : Nat) : Int)], .int .i64 0]) ∧ Below W.heap.size W W' := by
  have hea : errE (mayB wa va) = 0 := by rw [hma]; rfl
  have heb : errE (mayB wa vb) = 0 := by rw [hmb]; rfl
  have hne : (wa != wa) = false := by simp
  go_enter Try.func21, Try.ntmps21
  go_wp2_with fail
  refine (refCheck_any wa va _ ha).mono ?_
  rintro e W1 ⟨rfl, hbel⟩
  obtain ⟨hA, hB, hR, hW1⟩ := three_facts hbel
  clear hbel
  obtain ⟨hA0, hA1, _, _, hAl⟩ := hA
  obtain ⟨hB0, hB1, _, _, hBl⟩ := hB
  go_wp2_with fail
  refine (refCheck_any wa vb _ hb).mono ?_
  rintro e W2 ⟨rfl, hb2⟩
  have hA' := Box.later ⟨hA0, hA1, ‹_›, ‹_›, hAl⟩ hb2
  have hB' := Box.later ⟨hB0, hB1, ‹_›, ‹_›, hBl⟩ hb2
  have hR' := hR.later hb2
  have hW2 := hW1.trans (hb2.mono hW1.size)
  clear hA0 hA1 hB0 hB1 hR hW1 hb2 hAl hBl
  obtain ⟨hA0, hA1, _, _, hAl⟩ := hA'
  obtain ⟨hB0, hB1, _, _, hBl⟩ := hB'
  go_wp2_with fail
  refine (refMask_any wa _).mono ?_
  rintro e W3 ⟨rfl, rfl⟩
  go_wp2_with fail
  refine (bit_any _ _).mono ?_
  rintro e W3 ⟨rfl, hb3⟩
  obtain ⟨hr0, hr1, hf0, hf1, hrl⟩ := hR'.later hb3
  go_wp2
  refine bodyPost_ret (v := .tuple #[.agg #[.int .i64 1, .int .u64 ((bitN (decide (va < vb)) : Nat) : Int)], .int .i64 0]) ?_ rfl ⟨rfl, ?_⟩
  · simp [results, Try.results21, go_sem, hr0, hr1, hf0, hf1]
  · exact ((hW2.trans (hb3.mono hW2.size)).setCell (by simp; try omega) _).setCell (by simp; try omega) _

set_option maxHeartbeats 2000000 in
theorem refBin_le (wa : Int) (va vb : Nat) (hma : mayB wa va = true) (hmb : mayB wa vb = true) (W : World) (ha : va < 18446744073709551616) (hb : vb < 18446744073709551616) :
    Calls Try.prog 21 #[.int .i64 22, .agg #[.int .i64 wa, .int .u64 va], .agg #[.int .i64 wa, .int .u64 vb]] W fun e W' => e = .returned (.tuple #[.agg #[.int .i64 1, .int .u64 ((bitN (decide (va ≤ vb)) : Nat) : Int)], .int .i64 0]) ∧ Below W.heap.size W W' := by
  have hea : errE (mayB wa va) = 0 := by rw [hma]; rfl
  have heb : errE (mayB wa vb) = 0 := by rw [hmb]; rfl
  have hne : (wa != wa) = false := by simp
  go_enter Try.func21, Try.ntmps21
  go_wp2_with fail
  refine (refCheck_any wa va _ ha).mono ?_
  rintro e W1 ⟨rfl, hbel⟩
  obtain ⟨hA, hB, hR, hW1⟩ := three_facts hbel
  clear hbel
  obtain ⟨hA0, hA1, _, _, hAl⟩ := hA
  obtain ⟨hB0, hB1, _, _, hBl⟩ := hB
  go_wp2_with fail
  refine (refCheck_any wa vb _ hb).mono ?_
  rintro e W2 ⟨rfl, hb2⟩
  have hA' := Box.later ⟨hA0, hA1, ‹_›, ‹_›, hAl⟩ hb2
  have hB' := Box.later ⟨hB0, hB1, ‹_›, ‹_›, hBl⟩ hb2
  have hR' := hR.later hb2
  have hW2 := hW1.trans (hb2.mono hW1.size)
  clear hA0 hA1 hB0 hB1 hR hW1 hb2 hAl hBl
  obtain ⟨hA0, hA1, _, _, hAl⟩ := hA'
  obtain ⟨hB0, hB1, _, _, hBl⟩ := hB'
  go_wp2_with fail
  refine (refMask_any wa _).mono ?_
  rintro e W3 ⟨rfl, rfl⟩
  go_wp2_with fail
  refine (bit_any _ _).mono ?_
  rintro e W3 ⟨rfl, hb3⟩
  obtain ⟨hr0, hr1, hf0, hf1, hrl⟩ := hR'.later hb3
  go_wp2
  refine bodyPost_ret (v := .tuple #[.agg #[.int .i64 1, .int .u64 ((bitN (decide (va ≤ vb)) : Nat) : Int)], .int .i64 0]) ?_ rfl ⟨rfl, ?_⟩
  · simp [results, Try.results21, go_sem, hr0, hr1, hf0, hf1]
  · exact ((hW2.trans (hb3.mono hW2.size)).setCell (by simp; try omega) _).setCell (by simp; try omega) _

set_option maxHeartbeats 2000000 in
theorem refBin_gt (wa : Int) (va vb : Nat) (hma : mayB wa va = true) (hmb : mayB wa vb = true) (W : World) (ha : va < 18446744073709551616) (hb : vb < 18446744073709551616) :
    Calls Try.prog 21 #[.int .i64 23, .agg #[.int .i64 wa, .int .u64 va], .agg #[.int .i64 wa, .int .u64 vb]] W fun e W' => e = .returned (.tuple #[.agg #[.int .i64 1, .int .u64 ((bitN (decide (vb < va)) : Nat) : Int)], .int .i64 0]) ∧ Below W.heap.size W W' := by
  have hea : errE (mayB wa va) = 0 := by rw [hma]; rfl
  have heb : errE (mayB wa vb) = 0 := by rw [hmb]; rfl
  have hne : (wa != wa) = false := by simp
  go_enter Try.func21, Try.ntmps21
  go_wp2_with fail
  refine (refCheck_any wa va _ ha).mono ?_
  rintro e W1 ⟨rfl, hbel⟩
  obtain ⟨hA, hB, hR, hW1⟩ := three_facts hbel
  clear hbel
  obtain ⟨hA0, hA1, _, _, hAl⟩ := hA
  obtain ⟨hB0, hB1, _, _, hBl⟩ := hB
  go_wp2_with fail
  refine (refCheck_any wa vb _ hb).mono ?_
  rintro e W2 ⟨rfl, hb2⟩
  have hA' := Box.later ⟨hA0, hA1, ‹_›, ‹_›, hAl⟩ hb2
  have hB' := Box.later ⟨hB0, hB1, ‹_›, ‹_›, hBl⟩ hb2
  have hR' := hR.later hb2
  have hW2 := hW1.trans (hb2.mono hW1.size)
  clear hA0 hA1 hB0 hB1 hR hW1 hb2 hAl hBl
  obtain ⟨hA0, hA1, _, _, hAl⟩ := hA'
  obtain ⟨hB0, hB1, _, _, hBl⟩ := hB'
  go_wp2_with fail
  refine (refMask_any wa _).mono ?_
  rintro e W3 ⟨rfl, rfl⟩
  go_wp2_with fail
  refine (bit_any _ _).mono ?_
  rintro e W3 ⟨rfl, hb3⟩
  obtain ⟨hr0, hr1, hf0, hf1, hrl⟩ := hR'.later hb3
  go_wp2
  refine bodyPost_ret (v := .tuple #[.agg #[.int .i64 1, .int .u64 ((bitN (decide (vb < va)) : Nat) : Int)], .int .i64 0]) ?_ rfl ⟨rfl, ?_⟩
  · simp [results, Try.results21, go_sem, hr0, hr1, hf0, hf1]
  · exact ((hW2.trans (hb3.mono hW2.size)).setCell (by simp; try omega) _).setCell (by simp; try omega) _

set_option maxHeartbeats 2000000 in
theorem refBin_ge (wa : Int) (va vb : Nat) (hma : mayB wa va = true) (hmb : mayB wa vb = true) (W : World) (ha : va < 18446744073709551616) (hb : vb < 18446744073709551616) :
    Calls Try.prog 21 #[.int .i64 24, .agg #[.int .i64 wa, .int .u64 va], .agg #[.int .i64 wa, .int .u64 vb]] W fun e W' => e = .returned (.tuple #[.agg #[.int .i64 1, .int .u64 ((bitN (decide (vb ≤ va)) : Nat) : Int)], .int .i64 0]) ∧ Below W.heap.size W W' := by
  have hea : errE (mayB wa va) = 0 := by rw [hma]; rfl
  have heb : errE (mayB wa vb) = 0 := by rw [hmb]; rfl
  have hne : (wa != wa) = false := by simp
  go_enter Try.func21, Try.ntmps21
  go_wp2_with fail
  refine (refCheck_any wa va _ ha).mono ?_
  rintro e W1 ⟨rfl, hbel⟩
  obtain ⟨hA, hB, hR, hW1⟩ := three_facts hbel
  clear hbel
  obtain ⟨hA0, hA1, _, _, hAl⟩ := hA
  obtain ⟨hB0, hB1, _, _, hBl⟩ := hB
  go_wp2_with fail
  refine (refCheck_any wa vb _ hb).mono ?_
  rintro e W2 ⟨rfl, hb2⟩
  have hA' := Box.later ⟨hA0, hA1, ‹_›, ‹_›, hAl⟩ hb2
  have hB' := Box.later ⟨hB0, hB1, ‹_›, ‹_›, hBl⟩ hb2
  have hR' := hR.later hb2
  have hW2 := hW1.trans (hb2.mono hW1.size)
  clear hA0 hA1 hB0 hB1 hR hW1 hb2 hAl hBl
  obtain ⟨hA0, hA1, _, _, hAl⟩ := hA'
  obtain ⟨hB0, hB1, _, _, hBl⟩ := hB'
  go_wp2_with fail
  refine (refMask_any wa _).mono ?_
  rintro e W3 ⟨rfl, rfl⟩
  go_wp2_with fail
  refine (bit_any _ _).mono ?_
  rintro e W3 ⟨rfl, hb3⟩
  obtain ⟨hr0, hr1, hf0, hf1, hrl⟩ := hR'.later hb3
  go_wp2
  refine bodyPost_ret (v := .tuple #[.agg #[.int .i64 1, .int .u64 ((bitN (decide (vb ≤ va)) : Nat) : Int)], .int .i64 0]) ?_ rfl ⟨rfl, ?_⟩
  · simp [results, Try.results21, go_sem, hr0, hr1, hf0, hf1]
  · exact ((hW2.trans (hb3.mono hW2.size)).setCell (by simp; try omega) _).setCell (by simp; try omega) _

set_option maxHeartbeats 2000000 in
theorem refBin_wide (op wa : Int) (va vb : Nat) (hma : mayB wa va = true) (hmb : mayB wa vb = true) (h17 : (op == 17) = false) (h18 : (op == 18) = false) (h11 : (op == 11) = false) (h12 : (op == 12) = false) (h13 : (op == 13) = false) (h14 : (op == 14) = false) (h15 : (op == 15) = false) (h16 : (op == 16) = false) (h19 : (op == 19) = false) (h20 : (op == 20) = false) (h21 : (op == 21) = false) (h22 : (op == 22) = false) (h23 : (op == 23) = false) (h24 : (op == 24) = false) (hw : (wa != 1) = true) (W : World) (ha : va < 18446744073709551616) (hb : vb < 18446744073709551616) :
    Calls Try.prog 21 #[.int .i64 op, .agg #[.int .i64 wa, .int .u64 va], .agg #[.int .i64 wa, .int .u64 vb]] W fun e W' => e = .returned (.tuple #[.agg #[.int .i64 0, .int .u64 0], .int .i64 1]) ∧ Below W.heap.size W W' := by
  have hea : errE (mayB wa va) = 0 := by rw [hma]; rfl
  have heb : errE (mayB wa vb) = 0 := by rw [hmb]; rfl
  have hne : (wa != wa) = false := by simp
  go_enter Try.func21, Try.ntmps21
  go_wp2_with fail
  refine (refCheck_any wa va _ ha).mono ?_
  rintro e W1 ⟨rfl, hbel⟩
  obtain ⟨hA, hB, hR, hW1⟩ := three_facts hbel
  clear hbel
  obtain ⟨hA0, hA1, _, _, hAl⟩ := hA
  obtain ⟨hB0, hB1, _, _, hBl⟩ := hB
  go_wp2_with fail
  refine (refCheck_any wa vb _ hb).mono ?_
  rintro e W2 ⟨rfl, hb2⟩
  have hA' := Box.later ⟨hA0, hA1, ‹_›, ‹_›, hAl⟩ hb2
  have hB' := Box.later ⟨hB0, hB1, ‹_›, ‹_›, hBl⟩ hb2
  have hR' := hR.later hb2
  have hW2 := hW1.trans (hb2.mono hW1.size)
  clear hA0 hA1 hB0 hB1 hR hW1 hb2 hAl hBl
  obtain ⟨hA0, hA1, _, _, hAl⟩ := hA'
  obtain ⟨hB0, hB1, _, _, hBl⟩ := hB'
  go_wp2_with fail
  refine (refMask_any wa _).mono ?_
  rintro e W3 ⟨rfl, rfl⟩
  obtain ⟨hr0, hr1, hf0, hf1, hrl⟩ := hR'
  go_wp2
  refine bodyPost_ret (v := .tuple #[.agg #[.int .i64 0, .int .u64 0], .int .i64 1]) ?_ rfl ⟨rfl, ?_⟩
  · simp [results, Try.results21, go_sem, hr0, hr1, hf0, hf1]
  · exact (hW2.setCell (by simp; try omega) _).setCell (by simp; try omega) _

set_option maxHeartbeats 2000000 in
theorem refBin_other (op wa : Int) (va vb : Nat) (hma : mayB wa va = true) (hmb : mayB wa vb = true) (h17 : (op == 17) = false) (h18 : (op == 18) = false) (h11 : (op == 11) = false) (h12 : (op == 12) = false) (h13 : (op == 13) = false) (h14 : (op == 14) = false) (h15 : (op == 15) = false) (h16 : (op == 16) = false) (h19 : (op == 19) = false) (h20 : (op == 20) = false) (h21 : (op == 21) = false) (h22 : (op == 22) = false) (h23 : (op == 23) = false) (h24 : (op == 24) = false) (h25 : (op == 25) = false) (h26 : (op == 26) = false) (hw : (wa != 1) = false) (W : World) (ha : va < 18446744073709551616) (hb : vb < 18446744073709551616) :
    Calls Try.prog 21 #[.int .i64 op, .agg #[.int .i64 wa, .int .u64 va], .agg #[.int .i64 wa, .int .u64 vb]] W fun e W' => e = .returned (.tuple #[.agg #[.int .i64 0, .int .u64 0], .int .i64 1]) ∧ Below W.heap.size W W' := by
  have hea : errE (mayB wa va) = 0 := by rw [hma]; rfl
  have heb : errE (mayB wa vb) = 0 := by rw [hmb]; rfl
  have hne : (wa != wa) = false := by simp
  go_enter Try.func21, Try.ntmps21
  go_wp2_with fail
  refine (refCheck_any wa va _ ha).mono ?_
  rintro e W1 ⟨rfl, hbel⟩
  obtain ⟨hA, hB, hR, hW1⟩ := three_facts hbel
  clear hbel
  obtain ⟨hA0, hA1, _, _, hAl⟩ := hA
  obtain ⟨hB0, hB1, _, _, hBl⟩ := hB
  go_wp2_with fail
  refine (refCheck_any wa vb _ hb).mono ?_
  rintro e W2 ⟨rfl, hb2⟩
  have hA' := Box.later ⟨hA0, hA1, ‹_›, ‹_›, hAl⟩ hb2
  have hB' := Box.later ⟨hB0, hB1, ‹_›, ‹_›, hBl⟩ hb2
  have hR' := hR.later hb2
  have hW2 := hW1.trans (hb2.mono hW1.size)
  clear hA0 hA1 hB0 hB1 hR hW1 hb2 hAl hBl
  obtain ⟨hA0, hA1, _, _, hAl⟩ := hA'
  obtain ⟨hB0, hB1, _, _, hBl⟩ := hB'
  go_wp2_with fail
  refine (refMask_any wa _).mono ?_
  rintro e W3 ⟨rfl, rfl⟩
  obtain ⟨hr0, hr1, hf0, hf1, hrl⟩ := hR'
  go_wp2
  refine bodyPost_ret (v := .tuple #[.agg #[.int .i64 0, .int .u64 0], .int .i64 1]) ?_ rfl ⟨rfl, ?_⟩
  · simp [results, Try.results21, go_sem, hr0, hr1, hf0, hf1]
  · exact (hW2.setCell (by simp; try omega) _).setCell (by simp; try omega) _

set_option maxHeartbeats 2000000 in
theorem refBin_both0 (wa : Int) (vb : Nat) (hma : mayB wa 0 = true) (hmb : mayB wa vb = true) (hw : (wa != 1) = false) (W : World) (hb : vb < 18446744073709551616) :
    Calls Try.prog 21 #[.int .i64 25, .agg #[.int .i64 wa, .int .u64 0], .agg #[.int .i64 wa, .int .u64 vb]] W fun e W' => e = .returned (.tuple #[.agg #[.int .i64 1, .int .u64 0], .int .i64 0]) ∧ Below W.heap.size W W' := by
  have hea : errE (mayB wa 0) = 0 := by rw [hma]; rfl
  have heb : errE (mayB wa vb) = 0 := by rw [hmb]; rfl
  have hne : (wa != wa) = false := by simp
  go_enter Try.func21, Try.ntmps21
  go_wp2_with fail
  refine (refCheck_any wa 0 _ (by omega)).mono ?_
  rintro e W1 ⟨rfl, hbel⟩
  obtain ⟨hA, hB, hR, hW1⟩ := three_facts (va := 0) hbel
  clear hbel
  obtain ⟨hA0, hA1, _, _, hAl⟩ := hA
  obtain ⟨hB0, hB1, _, _, hBl⟩ := hB
  go_wp2_with fail
  refine (refCheck_any wa vb _ hb).mono ?_
  rintro e W2 ⟨rfl, hb2⟩
  have hA' := Box.later ⟨hA0, hA1, ‹_›, ‹_›, hAl⟩ hb2
  have hB' := Box.later ⟨hB0, hB1, ‹_›, ‹_›, hBl⟩ hb2
  have hR' := hR.later hb2
  have hW2 := hW1.trans (hb2.mono hW1.size)
  clear hA0 hA1 hB0 hB1 hR hW1 hb2 hAl hBl
  obtain ⟨hA0, hA1, _, _, hAl⟩ := hA'
  obtain ⟨hB0, hB1, _, _, hBl⟩ := hB'
  go_wp2_with fail
  refine (refMask_any wa _).mono ?_
  rintro e W3 ⟨rfl, rfl⟩
  go_wp2_with fail
  refine (bit_any _ _).mono ?_
  rintro e W3 ⟨rfl, hb3⟩
  obtain ⟨hr0, hr1, hf0, hf1, hrl⟩ := hR'.later hb3
  go_wp2
  refine bodyPost_ret (v := .tuple #[.agg #[.int .i64 1, .int .u64 0], .int .i64 0]) ?_ rfl ⟨rfl, ?_⟩
  · simp [results, Try.results21, go_sem, hr0, hr1, hf0, hf1, bitN]
  · exact ((hW2.trans (hb3.mono hW2.size)).setCell (by simp; try omega) _).setCell (by simp; try omega) _

set_option maxHeartbeats 2000000 in
theorem refBin_both1 (wa : Int) (vb : Nat) (hma : mayB wa 1 = true) (hmb : mayB wa vb = true) (hw : (wa != 1) = false) (W : World) (hb : vb < 18446744073709551616) :
    Calls Try.prog 21 #[.int .i64 25, .agg #[.int .i64 wa, .int .u64 1], .agg #[.int .i64 wa, .int .u64 vb]] W fun e W' => e = .returned (.tuple #[.agg #[.int .i64 1, .int .u64 ((bitN ((vb : Int) == 1) : Nat) : Int)], .int .i64 0]) ∧ Below W.heap.size W W' := by
  have hea : errE (mayB wa 1) = 0 := by rw [hma]; rfl
  have heb : errE (mayB wa vb) = 0 := by rw [hmb]; rfl
  have hne : (wa != wa) = false := by simp
  go_enter Try.func21, Try.ntmps21
  go_wp2_with fail
  refine (refCheck_any wa 1 _ (by omega)).mono ?_
  rintro e W1 ⟨rfl, hbel⟩
  obtain ⟨hA, hB, hR, hW1⟩ := three_facts (va := 1) hbel
  clear hbel
  obtain ⟨hA0, hA1, _, _, hAl⟩ := hA
  obtain ⟨hB0, hB1, _, _, hBl⟩ := hB
  go_wp2_with fail
  refine (refCheck_any wa vb _ hb).mono ?_
  rintro e W2 ⟨rfl, hb2⟩
  have hA' := Box.later ⟨hA0, hA1, ‹_›, ‹_›, hAl⟩ hb2
  have hB' := Box.later ⟨hB0, hB1, ‹_›, ‹_›, hBl⟩ hb2
  have hR' := hR.later hb2
  have hW2 := hW1.trans (hb2.mono hW1.size)
  clear hA0 hA1 hB0 hB1 hR hW1 hb2 hAl hBl
  obtain ⟨hA0, hA1, _, _, hAl⟩ := hA'
  obtain ⟨hB0, hB1, _, _, hBl⟩ := hB'
  go_wp2_with fail
  refine (refMask_any wa _).mono ?_
  rintro e W3 ⟨rfl, rfl⟩
  go_wp2_with fail
  refine (bit_any _ _).mono ?_
  rintro e W3 ⟨rfl, hb3⟩
  obtain ⟨hr0, hr1, hf0, hf1, hrl⟩ := hR'.later hb3
  go_wp2
  refine bodyPost_ret (v := .tuple #[.agg #[.int .i64 1, .int .u64 ((bitN ((vb : Int) == 1) : Nat) : Int)], .int .i64 0]) ?_ rfl ⟨rfl, ?_⟩
  · simp [results, Try.results21, go_sem, hr0, hr1, hf0, hf1]
  · exact ((hW2.trans (hb3.mono hW2.size)).setCell (by simp; try omega) _).setCell (by simp; try omega) _

set_option maxHeartbeats 2000000 in
theorem refBin_one0 (wa : Int) (vb : Nat) (hma : mayB wa 0 = true) (hmb : mayB wa vb = true) (hw : (wa != 1) = false) (W : World) (hb : vb < 18446744073709551616) :
    Calls Try.prog 21 #[.int .i64 26, .agg #[.int .i64 wa, .int .u64 0], .agg #[.int .i64 wa, .int .u64 vb]] W fun e W' => e = .returned (.tuple #[.agg #[.int .i64 1, .int .u64 ((bitN ((vb : Int) == 1) : Nat) : Int)], .int .i64 0]) ∧ Below W.heap.size W W' := by
  have hea : errE (mayB wa 0) = 0 := by rw [hma]; rfl
  have heb : errE (mayB wa vb) = 0 := by rw [hmb]; rfl
  have hne : (wa != wa) = false := by simp
  go_enter Try.func21, Try.ntmps21
  go_wp2_with fail
  refine (refCheck_any wa 0 _ (by omega)).mono ?_
  rintro e W1 ⟨rfl, hbel⟩
  obtain ⟨hA, hB, hR, hW1⟩ := three_facts (va := 0) hbel
  clear hbel
  obtain ⟨hA0, hA1, _, _, hAl⟩ := hA
  obtain ⟨hB0, hB1, _, _, hBl⟩ := hB
  go_wp2_with fail
  refine (refCheck_any wa vb _ hb).mono ?_
  rintro e W2 ⟨rfl, hb2⟩
  have hA' := Box.later ⟨hA0, hA1, ‹_›, ‹_›, hAl⟩ hb2
  have hB' := Box.later ⟨hB0, hB1, ‹_›, ‹_›, hBl⟩ hb2
  have hR' := hR.later hb2
  have hW2 := hW1.trans (hb2.mono hW1.size)
  clear hA0 hA1 hB0 hB1 hR hW1 hb2 hAl hBl
  obtain ⟨hA0, hA1, _, _, hAl⟩ := hA'
  obtain ⟨hB0, hB1, _, _, hBl⟩ := hB'
  go_wp2_with fail
  refine (refMask_any wa _).mono ?_
  rintro e W3 ⟨rfl, rfl⟩
  go_wp2_with fail
  refine (bit_any _ _).mono ?_
  rintro e W3 ⟨rfl, hb3⟩
  obtain ⟨hr0, hr1, hf0, hf1, hrl⟩ := hR'.later hb3
  go_wp2
  refine bodyPost_ret (v := .tuple #[.agg #[.int .i64 1, .int .u64 ((bitN ((vb : Int) == 1) : Nat) : Int)], .int .i64 0]) ?_ rfl ⟨rfl, ?_⟩
  · simp [results, Try.results21, go_sem, hr0, hr1, hf0, hf1]
  · exact ((hW2.trans (hb3.mono hW2.size)).setCell (by simp; try omega) _).setCell (by simp; try omega) _

set_option maxHeartbeats 2000000 in
theorem refBin_one1 (wa : Int) (vb : Nat) (hma : mayB wa 1 = true) (hmb : mayB wa vb = true) (hw : (wa != 1) = false) (W : World) (hb : vb < 18446744073709551616) :
    Calls Try.prog 21 #[.int .i64 26, .agg #[.int .i64 wa, .int .u64 1], .agg #[.int .i64 wa, .int .u64 vb]] W fun e W' => e = .returned (.tuple #[.agg #[.int .i64 1, .int .u64 1], .int .i64 0]) ∧ Below W.heap.size W W' := by
  have hea : errE (mayB wa 1) = 0 := by rw [hma]; rfl
  have heb : errE (mayB wa vb) = 0 := by rw [hmb]; rfl
  have hne : (wa != wa) = false := by simp
  go_enter Try.func21, Try.ntmps21
  go_wp2_with fail
  refine (refCheck_any wa 1 _ (by omega)).mono ?_
  rintro e W1 ⟨rfl, hbel⟩
  obtain ⟨hA, hB, hR, hW1⟩ := three_facts (va := 1) hbel
  clear hbel
  obtain ⟨hA0, hA1, _, _, hAl⟩ := hA
  obtain ⟨hB0, hB1, _, _, hBl⟩ := hB
  go_wp2_with fail
  refine (refCheck_any wa vb _ hb).mono ?_
  rintro e W2 ⟨rfl, hb2⟩
  have hA' := Box.later ⟨hA0, hA1, ‹_›, ‹_›, hAl⟩ hb2
  have hB' := Box.later ⟨hB0, hB1, ‹_›, ‹_›, hBl⟩ hb2
  have hR' := hR.later hb2
  have hW2 := hW1.trans (hb2.mono hW1.size)
  clear hA0 hA1 hB0 hB1 hR hW1 hb2 hAl hBl
  obtain ⟨hA0, hA1, _, _, hAl⟩ := hA'
  obtain ⟨hB0, hB1, _, _, hBl⟩ := hB'
  go_wp2_with fail
  refine (refMask_any wa _).mono ?_
  rintro e W3 ⟨rfl, rfl⟩
  go_wp2_with fail
  refine (bit_any _ _).mono ?_
  rintro e W3 ⟨rfl, hb3⟩
  obtain ⟨hr0, hr1, hf0, hf1, hrl⟩ := hR'.later hb3
  go_wp2
  refine bodyPost_ret (v := .tuple #[.agg #[.int .i64 1, .int .u64 1], .int .i64 0]) ?_ rfl ⟨rfl, ?_⟩
  · simp [results, Try.results21, go_sem, hr0, hr1, hf0, hf1, bitN]
  · exact ((hW2.trans (hb3.mono hW2.size)).setCell (by simp; try omega) _).setCell (by simp; try omega) _

end Go.Proofs.Ytafhnkhcbfilaaa
