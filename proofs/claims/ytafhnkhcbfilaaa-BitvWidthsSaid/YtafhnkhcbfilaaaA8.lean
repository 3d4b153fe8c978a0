/- The operations of two: bitv.Bin. -/
import Derived.Test.YtafhnkhcbfilaaaA7
namespace Go.Proofs.Ytafhnkhcbfilaaa
open Go.RowKit Go.Flow
set_option linter.unusedVariables false
set_option linter.unusedSimpArgs false

theorem bin_facts {W W1 : World} {wa wb : Int} {va vb : Nat}
    (h : Below ((((W.alloc (.cells #[.int .i64 wa, .int .u64 va] 24)).alloc (.cells #[.int .i64 wb, .int .u64 vb] 24)).alloc (.cells #[.int .i64 0, .int .u64 0] 24)).alloc (.cells #[.int .i64 wa, .int .u64 va, .int .i64 wb, .int .u64 vb] 24)).heap.size
      ((((W.alloc (.cells #[.int .i64 wa, .int .u64 va] 24)).alloc (.cells #[.int .i64 wb, .int .u64 vb] 24)).alloc (.cells #[.int .i64 0, .int .u64 0] 24)).alloc (.cells #[.int .i64 wa, .int .u64 va, .int .i64 wb, .int .u64 vb] 24)) W1) :
    Box W1 W.heap.size (.int .i64 wa) (.int .u64 va) ∧ Box W1 (W.heap.size + 1) (.int .i64 wb) (.int .u64 vb) ∧ Box W1 (W.heap.size + 1 + 1) (.int .i64 0) (.int .u64 0) ∧ Below W.heap.size W W1 := by
  refine ⟨?_, ?_, ?_, ?_⟩
  · exact ((((Box.new W _ _ 24).alloc _).alloc _).alloc _).later h
  · have := (((Box.new (W.alloc (.cells #[.int .i64 wa, .int .u64 va] 24)) (.int .i64 wb) (.int .u64 vb) 24).alloc (.cells #[.int .i64 0, .int .u64 0] 24)).alloc (.cells #[.int .i64 wa, .int .u64 va, .int .i64 wb, .int .u64 vb] 24)).later h
    simpa using this
  · have := ((Box.new ((W.alloc (.cells #[.int .i64 wa, .int .u64 va] 24)).alloc (.cells #[.int .i64 wb, .int .u64 vb] 24)) (.int .i64 0) (.int .u64 0) 24).alloc (.cells #[.int .i64 wa, .int .u64 va, .int .i64 wb, .int .u64 vb] 24)).later h
    simpa using this
  · exact (((((Below.refl _ _).alloc (Nat.le_refl _) _).alloc (by simp) _).alloc (by simp; omega) _).alloc (by simp; omega) _).trans (h.mono (by simp; omega))

theorem bin_end {W W1 W2 : World} {n : Nat} (h1 : Below W.heap.size W W1) (h2 : Below W1.heap.size W1 W2) (hn : W.heap.size ≤ n) (u v : Value) : Below W.heap.size W ((W2.setCell ⟨n, 0, none⟩ u).setCell ⟨n, 1, none⟩ v) :=
  ((h1.trans (h2.mono h1.size)).setCell hn u).setCell hn v

set_option maxHeartbeats 1000000 in
theorem bin_shl (wa wb : Int) (va vb : Nat) (W : World) (ha : va < 18446744073709551616) (hb : vb < 18446744073709551616) :
    Calls Try.prog 20 #[.int .i64 17, .agg #[.int .i64 wa, .int .u64 va], .agg #[.int .i64 wb, .int .u64 vb]] W fun e W' => e = .returned (.tuple #[.agg #[.int .i64 (madeW (mayB wa va && mayB wb vb) wa), .int .u64 (madeV (mayB wa va && mayB wb vb) wa (upN va vb))], .int .i64 (errE (mayB wa va && mayB wb vb))]) ∧ Below W.heap.size W W' := by
  have hs := shl_walk va vb
  go_enter Try.func20, Try.ntmps20
  go_wp2_with fail
  refine (all2_any _ 2 wa wb va vb _ (by simpa using bits2 (((W.alloc (.cells #[.int .i64 wa, .int .u64 va] 24)).alloc (.cells #[.int .i64 wb, .int .u64 vb] 24)).alloc (.cells #[.int .i64 0, .int .u64 0] 24)) wa wb va vb ha hb) (by simp)).mono ?_
  rintro e W1 ⟨rfl, hbel⟩
  obtain ⟨⟨hA0, hA1, _, _, hAl⟩, ⟨hB0, hB1, _, _, hBl⟩, hRb, hW1⟩ := bin_facts hbel
  clear hbel
  go_wp2_with fail
  refine (made_any _ wa _ _ (upN_lt va vb)).mono ?_
  rintro e W2 ⟨rfl, hb2⟩
  have hRb' := hRb.later hb2
  obtain ⟨hr0, hr1, hf0, hf1, hrl⟩ := hRb'
  go_wp2
  refine bodyPost_ret (v := .tuple #[.agg #[.int .i64 (madeW (mayB wa va && mayB wb vb) wa), .int .u64 (madeV (mayB wa va && mayB wb vb) wa (upN va vb))], .int .i64 (errE (mayB wa va && mayB wb vb))]) ?_ rfl ⟨rfl, ?_⟩
  · simp [results, Try.results20, go_sem, hr0, hr1, hf0, hf1]
  · exact bin_end hW1 hb2 (by omega) _ _

set_option maxHeartbeats 1000000 in
theorem bin_shr (wa wb : Int) (va vb : Nat) (W : World) (ha : va < 18446744073709551616) (hb : vb < 18446744073709551616) :
    Calls Try.prog 20 #[.int .i64 18, .agg #[.int .i64 wa, .int .u64 va], .agg #[.int .i64 wb, .int .u64 vb]] W fun e W' => e = .returned (.tuple #[.agg #[.int .i64 (madeW (mayB wa va && mayB wb vb) wa), .int .u64 (madeV (mayB wa va && mayB wb vb) wa (downN va vb))], .int .i64 (errE (mayB wa va && mayB wb vb))]) ∧ Below W.heap.size W W' := by
  have hs := shr_walk va vb ha
  go_enter Try.func20, Try.ntmps20
  go_wp2_with fail
  refine (all2_any _ 2 wa wb va vb _ (by simpa using bits2 (((W.alloc (.cells #[.int .i64 wa, .int .u64 va] 24)).alloc (.cells #[.int .i64 wb, .int .u64 vb] 24)).alloc (.cells #[.int .i64 0, .int .u64 0] 24)) wa wb va vb ha hb) (by simp)).mono ?_
  rintro e W1 ⟨rfl, hbel⟩
  obtain ⟨⟨hA0, hA1, _, _, hAl⟩, ⟨hB0, hB1, _, _, hBl⟩, hRb, hW1⟩ := bin_facts hbel
  clear hbel
  go_wp2_with fail
  refine (made_any _ wa _ _ (downN_lt va vb ha)).mono ?_
  rintro e W2 ⟨rfl, hb2⟩
  have hRb' := hRb.later hb2
  obtain ⟨hr0, hr1, hf0, hf1, hrl⟩ := hRb'
  go_wp2
  refine bodyPost_ret (v := .tuple #[.agg #[.int .i64 (madeW (mayB wa va && mayB wb vb) wa), .int .u64 (madeV (mayB wa va && mayB wb vb) wa (downN va vb))], .int .i64 (errE (mayB wa va && mayB wb vb))]) ?_ rfl ⟨rfl, ?_⟩
  · simp [results, Try.results20, go_sem, hr0, hr1, hf0, hf1]
  · exact bin_end hW1 hb2 (by omega) _ _

set_option maxHeartbeats 1000000 in
theorem bin_nokey (op wa wb : Int) (va vb : Nat) (h17 : (op == 17) = false) (h18 : (op == 18) = false) (hk : isKey op = false) (W : World) (ha : va < 18446744073709551616) (hb : vb < 18446744073709551616) :
    Calls Try.prog 20 #[.int .i64 op, .agg #[.int .i64 wa, .int .u64 va], .agg #[.int .i64 wb, .int .u64 vb]] W fun e W' => e = .returned (.tuple #[.agg #[.int .i64 0, .int .u64 0], .int .i64 1]) ∧ Below W.heap.size W W' := by
  go_enter Try.func20, Try.ntmps20
  go_wp2_with fail
  refine (all2_any _ 2 wa wb va vb _ (by simpa using bits2 (((W.alloc (.cells #[.int .i64 wa, .int .u64 va] 24)).alloc (.cells #[.int .i64 wb, .int .u64 vb] 24)).alloc (.cells #[.int .i64 0, .int .u64 0] 24)) wa wb va vb ha hb) (by simp)).mono ?_
  rintro e W1 ⟨rfl, hbel⟩
  obtain ⟨⟨hA0, hA1, _, _, hAl⟩, ⟨hB0, hB1, _, _, hBl⟩, hRb, hW1⟩ := bin_facts hbel
  clear hbel
  go_wp2_with fail
  refine (pairs_any op W1).mono ?_
  rintro e W2 ⟨b, f, rfl, hres, hcell, hb2⟩
  have hA0' := Cells.below hb2 _ _ hA0
  have hB0' := Cells.below hb2 _ _ hB0
  have hr2 := hRb.later hb2
  have hres' := Lib.hid hres
  clear hres
  go_wp2_with fail
  refine (made_any false 0 0 _ (by omega)).mono ?_
  rintro e W3 ⟨rfl, hb3⟩
  have hRb' := hr2.later hb3
  obtain ⟨hr0, hr1, hf0, hf1, hrl⟩ := hRb'
  go_wp2
  refine bodyPost_ret (v := .tuple #[.agg #[.int .i64 0, .int .u64 0], .int .i64 1]) ?_ rfl ⟨rfl, ?_⟩
  · simp [results, Try.results20, go_sem, hr0, hr1, hf0, hf1, madeW, madeV, errE]
  · exact bin_end (hW1.trans (hb2.mono hW1.size)) hb3 (by omega) _ _

set_option maxHeartbeats 1000000 in
theorem bin_nomay (op wa wb : Int) (va vb : Nat) (h17 : (op == 17) = false) (h18 : (op == 18) = false) (hk : isKey op = true) (hm : (mayB wa va && mayB wb vb) = false) (W : World) (ha : va < 18446744073709551616) (hb : vb < 18446744073709551616) :
    Calls Try.prog 20 #[.int .i64 op, .agg #[.int .i64 wa, .int .u64 va], .agg #[.int .i64 wb, .int .u64 vb]] W fun e W' => e = .returned (.tuple #[.agg #[.int .i64 0, .int .u64 0], .int .i64 1]) ∧ Below W.heap.size W W' := by
  go_enter Try.func20, Try.ntmps20
  go_wp2_with fail
  refine (all2_any _ 2 wa wb va vb _ (by simpa using bits2 (((W.alloc (.cells #[.int .i64 wa, .int .u64 va] 24)).alloc (.cells #[.int .i64 wb, .int .u64 vb] 24)).alloc (.cells #[.int .i64 0, .int .u64 0] 24)) wa wb va vb ha hb) (by simp)).mono ?_
  rw [hm]
  rintro e W1 ⟨rfl, hbel⟩
  obtain ⟨⟨hA0, hA1, _, _, hAl⟩, ⟨hB0, hB1, _, _, hBl⟩, hRb, hW1⟩ := bin_facts hbel
  clear hbel
  go_wp2_with fail
  refine (pairs_any op W1).mono ?_
  rintro e W2 ⟨b, f, rfl, hres, hcell, hb2⟩
  have hA0' := Cells.below hb2 _ _ hA0
  have hB0' := Cells.below hb2 _ _ hB0
  have hr2 := hRb.later hb2
  have hres' := Lib.hid hres
  clear hres
  go_wp2_with fail
  refine (made_any false 0 0 _ (by omega)).mono ?_
  rintro e W3 ⟨rfl, hb3⟩
  have hRb' := hr2.later hb3
  obtain ⟨hr0, hr1, hf0, hf1, hrl⟩ := hRb'
  go_wp2
  refine bodyPost_ret (v := .tuple #[.agg #[.int .i64 0, .int .u64 0], .int .i64 1]) ?_ rfl ⟨rfl, ?_⟩
  · simp [results, Try.results20, go_sem, hr0, hr1, hf0, hf1, madeW, madeV, errE]
  · exact bin_end (hW1.trans (hb2.mono hW1.size)) hb3 (by omega) _ _

set_option maxHeartbeats 1000000 in
theorem bin_unlike (op wa wb : Int) (va vb : Nat) (h17 : (op == 17) = false) (h18 : (op == 18) = false) (hk : isKey op = true) (hm : (mayB wa va && mayB wb vb) = true) (hne : (wa != wb) = true) (W : World) (ha : va < 18446744073709551616) (hb : vb < 18446744073709551616) :
    Calls Try.prog 20 #[.int .i64 op, .agg #[.int .i64 wa, .int .u64 va], .agg #[.int .i64 wb, .int .u64 vb]] W fun e W' => e = .returned (.tuple #[.agg #[.int .i64 0, .int .u64 0], .int .i64 1]) ∧ Below W.heap.size W W' := by
  go_enter Try.func20, Try.ntmps20
  go_wp2_with fail
  refine (all2_any _ 2 wa wb va vb _ (by simpa using bits2 (((W.alloc (.cells #[.int .i64 wa, .int .u64 va] 24)).alloc (.cells #[.int .i64 wb, .int .u64 vb] 24)).alloc (.cells #[.int .i64 0, .int .u64 0] 24)) wa wb va vb ha hb) (by simp)).mono ?_
  rw [hm]
  rintro e W1 ⟨rfl, hbel⟩
  obtain ⟨⟨hA0, hA1, _, _, hAl⟩, ⟨hB0, hB1, _, _, hBl⟩, hRb, hW1⟩ := bin_facts hbel
  clear hbel
  go_wp2_with fail
  refine (pairs_any op W1).mono ?_
  rintro e W2 ⟨b, f, rfl, hres, hcell, hb2⟩
  have hA0' := Cells.below hb2 _ _ hA0
  have hB0' := Cells.below hb2 _ _ hB0
  have hr2 := hRb.later hb2
  have hres' := Lib.hid hres
  clear hres
  go_wp2_with fail
  refine (made_any false 0 0 _ (by omega)).mono ?_
  rintro e W3 ⟨rfl, hb3⟩
  have hRb' := hr2.later hb3
  obtain ⟨hr0, hr1, hf0, hf1, hrl⟩ := hRb'
  go_wp2
  refine bodyPost_ret (v := .tuple #[.agg #[.int .i64 0, .int .u64 0], .int .i64 1]) ?_ rfl ⟨rfl, ?_⟩
  · simp [results, Try.results20, go_sem, hr0, hr1, hf0, hf1, madeW, madeV, errE]
  · exact bin_end (hW1.trans (hb2.mono hW1.size)) hb3 (by omega) _ _

set_option maxHeartbeats 1000000 in
theorem bin_wide (op wa wb : Int) (va vb : Nat) (h17 : (op == 17) = false) (h18 : (op == 18) = false) (hk : isKey op = true) (hm : (mayB wa va && mayB wb vb) = true) (hne : (wa != wb) = false) (h25 : decide (25 ≤ op) = true) (hw : decide (1 < wa) = true) (W : World) (ha : va < 18446744073709551616) (hb : vb < 18446744073709551616) :
    Calls Try.prog 20 #[.int .i64 op, .agg #[.int .i64 wa, .int .u64 va], .agg #[.int .i64 wb, .int .u64 vb]] W fun e W' => e = .returned (.tuple #[.agg #[.int .i64 0, .int .u64 0], .int .i64 1]) ∧ Below W.heap.size W W' := by
  go_enter Try.func20, Try.ntmps20
  go_wp2_with fail
  refine (all2_any _ 2 wa wb va vb _ (by simpa using bits2 (((W.alloc (.cells #[.int .i64 wa, .int .u64 va] 24)).alloc (.cells #[.int .i64 wb, .int .u64 vb] 24)).alloc (.cells #[.int .i64 0, .int .u64 0] 24)) wa wb va vb ha hb) (by simp)).mono ?_
  rw [hm]
  rintro e W1 ⟨rfl, hbel⟩
  obtain ⟨⟨hA0, hA1, _, _, hAl⟩, ⟨hB0, hB1, _, _, hBl⟩, hRb, hW1⟩ := bin_facts hbel
  clear hbel
  go_wp2_with fail
  refine (pairs_any op W1).mono ?_
  rintro e W2 ⟨b, f, rfl, hres, hcell, hb2⟩
  have hA0' := Cells.below hb2 _ _ hA0
  have hB0' := Cells.below hb2 _ _ hB0
  have hr2 := hRb.later hb2
  have hres' := Lib.hid hres
  clear hres
  go_wp2_with fail
  refine (made_any false 0 0 _ (by omega)).mono ?_
  rintro e W3 ⟨rfl, hb3⟩
  have hRb' := hr2.later hb3
  obtain ⟨hr0, hr1, hf0, hf1, hrl⟩ := hRb'
  go_wp2
  refine bodyPost_ret (v := .tuple #[.agg #[.int .i64 0, .int .u64 0], .int .i64 1]) ?_ rfl ⟨rfl, ?_⟩
  · simp [results, Try.results20, go_sem, hr0, hr1, hf0, hf1, madeW, madeV, errE]
  · exact bin_end (hW1.trans (hb2.mono hW1.size)) hb3 (by omega) _ _

set_option maxHeartbeats 1000000 in
theorem bin_and (wa : Int) (va vb : Nat) (hm : (mayB wa va && mayB wa vb) = true) (W : World) (ha : va < 18446744073709551616) (hb : vb < 18446744073709551616) :
    Calls Try.prog 20 #[.int .i64 11, .agg #[.int .i64 wa, .int .u64 va], .agg #[.int .i64 wa, .int .u64 vb]] W fun e W' => e = .returned (.tuple #[.agg #[.int .i64 wa, .int .u64 ((va &&& vb) &&& mask wa : Nat)], .int .i64 0]) ∧ Below W.heap.size W W' := by
  have hk : isKey 11 = true := by decide +kernel
  have hne : (wa != wa) = false := by simp
  go_enter Try.func20, Try.ntmps20
  go_wp2_with fail
  refine (all2_any _ 2 wa wa va vb _ (by simpa using bits2 (((W.alloc (.cells #[.int .i64 wa, .int .u64 va] 24)).alloc (.cells #[.int .i64 wa, .int .u64 vb] 24)).alloc (.cells #[.int .i64 0, .int .u64 0] 24)) wa wa va vb ha hb) (by simp)).mono ?_
  rw [hm]
  rintro e W1 ⟨rfl, hbel⟩
  obtain ⟨⟨hA0, hA1, _, _, hAl⟩, ⟨hB0, hB1, _, _, hBl⟩, hRb, hW1⟩ := bin_facts hbel
  clear hbel
  go_wp2_with fail
  refine (pairs_any 11 W1).mono ?_
  rintro e W2 ⟨b, f, rfl, hres, hcell, hb2⟩
  have hA0' := Cells.below hb2 _ _ hA0
  have hB0' := Cells.below hb2 _ _ hB0
  have hA1' := Cells.below hb2 _ _ hA1
  have hB1' := Cells.below hb2 _ _ hB1
  have hr2 := hRb.later hb2
  obtain rfl : f = F 45 := hres 1 rfl
  clear hres
  go_wp2_with fail
  refine (p_and va vb _ ha hb).mono ?_
  rintro e W3 ⟨rfl, rfl⟩
  go_wp2_with fail
  refine (made_any true wa _ _ (Nat.lt_of_le_of_lt Nat.and_le_right hb)).mono ?_
  rintro e W3 ⟨rfl, hb3⟩
  have hRb' := hr2.later hb3
  obtain ⟨hr0, hr1, hf0, hf1, hrl⟩ := hRb'
  go_wp2
  refine bodyPost_ret (v := .tuple #[.agg #[.int .i64 wa, .int .u64 ((va &&& vb) &&& mask wa : Nat)], .int .i64 0]) ?_ rfl ⟨rfl, ?_⟩
  · simp [results, Try.results20, go_sem, hr0, hr1, hf0, hf1, madeW, madeV, errE]
  · exact bin_end (hW1.trans (hb2.mono hW1.size)) hb3 (by omega) _ _

set_option maxHeartbeats 1000000 in
theorem bin_or (wa : Int) (va vb : Nat) (hm : (mayB wa va && mayB wa vb) = true) (W : World) (ha : va < 18446744073709551616) (hb : vb < 18446744073709551616) :
    Calls Try.prog 20 #[.int .i64 12, .agg #[.int .i64 wa, .int .u64 va], .agg #[.int .i64 wa, .int .u64 vb]] W fun e W' => e = .returned (.tuple #[.agg #[.int .i64 wa, .int .u64 ((va ||| vb) &&& mask wa : Nat)], .int .i64 0]) ∧ Below W.heap.size W W' := by
  have hk : isKey 12 = true := by decide +kernel
  have hne : (wa != wa) = false := by simp
  go_enter Try.func20, Try.ntmps20
  go_wp2_with fail
  refine (all2_any _ 2 wa wa va vb _ (by simpa using bits2 (((W.alloc (.cells #[.int .i64 wa, .int .u64 va] 24)).alloc (.cells #[.int .i64 wa, .int .u64 vb] 24)).alloc (.cells #[.int .i64 0, .int .u64 0] 24)) wa wa va vb ha hb) (by simp)).mono ?_
  rw [hm]
  rintro e W1 ⟨rfl, hbel⟩
  obtain ⟨⟨hA0, hA1, _, _, hAl⟩, ⟨hB0, hB1, _, _, hBl⟩, hRb, hW1⟩ := bin_facts hbel
  clear hbel
  go_wp2_with fail
  refine (pairs_any 12 W1).mono ?_
  rintro e W2 ⟨b, f, rfl, hres, hcell, hb2⟩
  have hA0' := Cells.below hb2 _ _ hA0
  have hB0' := Cells.below hb2 _ _ hB0
  have hA1' := Cells.below hb2 _ _ hA1
  have hB1' := Cells.below hb2 _ _ hB1
  have hr2 := hRb.later hb2
  obtain rfl : f = F 46 := hres 2 rfl
  clear hres
  go_wp2_with fail
  refine (p_or va vb _ ha hb).mono ?_
  rintro e W3 ⟨rfl, rfl⟩
  go_wp2_with fail
  refine (made_any true wa _ _ (Nat.or_lt_two_pow (n := 64) ha hb)).mono ?_
  rintro e W3 ⟨rfl, hb3⟩
  have hRb' := hr2.later hb3
  obtain ⟨hr0, hr1, hf0, hf1, hrl⟩ := hRb'
  go_wp2
  refine bodyPost_ret (v := .tuple #[.agg #[.int .i64 wa, .int .u64 ((va ||| vb) &&& mask wa : Nat)], .int .i64 0]) ?_ rfl ⟨rfl, ?_⟩
  · simp [results, Try.results20, go_sem, hr0, hr1, hf0, hf1, madeW, madeV, errE]
  · exact bin_end (hW1.trans (hb2.mono hW1.size)) hb3 (by omega) _ _

set_option maxHeartbeats 1000000 in
theorem bin_xor (wa : Int) (va vb : Nat) (hm : (mayB wa va && mayB wa vb) = true) (W : World) (ha : va < 18446744073709551616) (hb : vb < 18446744073709551616) :
    Calls Try.prog 20 #[.int .i64 13, .agg #[.int .i64 wa, .int .u64 va], .agg #[.int .i64 wa, .int .u64 vb]] W fun e W' => e = .returned (.tuple #[.agg #[.int .i64 wa, .int .u64 ((va ^^^ vb) &&& mask wa : Nat)], .int .i64 0]) ∧ Below W.heap.size W W' := by
  have hk : isKey 13 = true := by decide +kernel
  have hne : (wa != wa) = false := by simp
  go_enter Try.func20, Try.ntmps20
  go_wp2_with fail
  refine (all2_any _ 2 wa wa va vb _ (by simpa using bits2 (((W.alloc (.cells #[.int .i64 wa, .int .u64 va] 24)).alloc (.cells #[.int .i64 wa, .int .u64 vb] 24)).alloc (.cells #[.int .i64 0, .int .u64 0] 24)) wa wa va vb ha hb) (by simp)).mono ?_
  rw [hm]
  rintro e W1 ⟨rfl, hbel⟩
  obtain ⟨⟨hA0, hA1, _, _, hAl⟩, ⟨hB0, hB1, _, _, hBl⟩, hRb, hW1⟩ := bin_facts hbel
  clear hbel
  go_wp2_with fail
  refine (pairs_any 13 W1).mono ?_
  rintro e W2 ⟨b, f, rfl, hres, hcell, hb2⟩
  have hA0' := Cells.below hb2 _ _ hA0
  have hB0' := Cells.below hb2 _ _ hB0
  have hA1' := Cells.below hb2 _ _ hA1
  have hB1' := Cells.below hb2 _ _ hB1
  have hr2 := hRb.later hb2
  obtain rfl : f = F 47 := hres 3 rfl
  clear hres
  go_wp2_with fail
  refine (p_xor va vb _ ha hb).mono ?_
  rintro e W3 ⟨rfl, rfl⟩
  go_wp2_with fail
  refine (made_any true wa _ _ (Nat.xor_lt_two_pow (n := 64) ha hb)).mono ?_
  rintro e W3 ⟨rfl, hb3⟩
  have hRb' := hr2.later hb3
  obtain ⟨hr0, hr1, hf0, hf1, hrl⟩ := hRb'
  go_wp2
  refine bodyPost_ret (v := .tuple #[.agg #[.int .i64 wa, .int .u64 ((va ^^^ vb) &&& mask wa : Nat)], .int .i64 0]) ?_ rfl ⟨rfl, ?_⟩
  · simp [results, Try.results20, go_sem, hr0, hr1, hf0, hf1, madeW, madeV, errE]
  · exact bin_end (hW1.trans (hb2.mono hW1.size)) hb3 (by omega) _ _

set_option maxHeartbeats 1000000 in
theorem bin_add (wa : Int) (va vb : Nat) (hm : (mayB wa va && mayB wa vb) = true) (W : World) (ha : va < 18446744073709551616) (hb : vb < 18446744073709551616) :
    Calls Try.prog 20 #[.int .i64 14, .agg #[.int .i64 wa, .int .u64 va], .agg #[.int .i64 wa, .int .u64 vb]] W fun e W' => e = .returned (.tuple #[.agg #[.int .i64 wa, .int .u64 (((va + vb) % 18446744073709551616) &&& mask wa : Nat)], .int .i64 0]) ∧ Below W.heap.size W W' := by
  have hk : isKey 14 = true := by decide +kernel
  have hne : (wa != wa) = false := by simp
  have hlt : (va + vb) % 18446744073709551616 < 18446744073709551616 := Nat.mod_lt _ (by omega)
  have hcon := fun W => p_add va vb W ha hb
  generalize (va + vb) % 18446744073709551616 = r at *
  have hcon' := Lib.hid hcon
  clear hcon
  go_enter Try.func20, Try.ntmps20
  go_wp2_with fail
  refine (all2_any _ 2 wa wa va vb _ (by simpa using bits2 (((W.alloc (.cells #[.int .i64 wa, .int .u64 va] 24)).alloc (.cells #[.int .i64 wa, .int .u64 vb] 24)).alloc (.cells #[.int .i64 0, .int .u64 0] 24)) wa wa va vb ha hb) (by simp)).mono ?_
  rw [hm]
  rintro e W1 ⟨rfl, hbel⟩
  obtain ⟨⟨hA0, hA1, _, _, hAl⟩, ⟨hB0, hB1, _, _, hBl⟩, hRb, hW1⟩ := bin_facts hbel
  clear hbel
  go_wp2_with fail
  refine (pairs_any 14 W1).mono ?_
  rintro e W2 ⟨b, f, rfl, hres, hcell, hb2⟩
  have hA0' := Cells.below hb2 _ _ hA0
  have hB0' := Cells.below hb2 _ _ hB0
  have hA1' := Cells.below hb2 _ _ hA1
  have hB1' := Cells.below hb2 _ _ hB1
  have hr2 := hRb.later hb2
  obtain rfl : f = F 48 := hres 4 rfl
  clear hres
  go_wp2_with fail
  refine (hcon'.out _).mono ?_
  rintro e W3 ⟨rfl, rfl⟩
  go_wp2_with fail
  refine (made_any true wa _ _ (hlt)).mono ?_
  rintro e W3 ⟨rfl, hb3⟩
  have hRb' := hr2.later hb3
  obtain ⟨hr0, hr1, hf0, hf1, hrl⟩ := hRb'
  go_wp2
  refine bodyPost_ret (v := .tuple #[.agg #[.int .i64 wa, .int .u64 ((r) &&& mask wa : Nat)], .int .i64 0]) ?_ rfl ⟨rfl, ?_⟩
  · simp [results, Try.results20, go_sem, hr0, hr1, hf0, hf1, madeW, madeV, errE]
  · exact bin_end (hW1.trans (hb2.mono hW1.size)) hb3 (by omega) _ _

set_option maxHeartbeats 1000000 in
theorem bin_sub (wa : Int) (va vb : Nat) (hm : (mayB wa va && mayB wa vb) = true) (W : World) (ha : va < 18446744073709551616) (hb : vb < 18446744073709551616) :
    Calls Try.prog 20 #[.int .i64 15, .agg #[.int .i64 wa, .int .u64 va], .agg #[.int .i64 wa, .int .u64 vb]] W fun e W' => e = .returned (.tuple #[.agg #[.int .i64 wa, .int .u64 (((va + (18446744073709551616 - vb)) % 18446744073709551616) &&& mask wa : Nat)], .int .i64 0]) ∧ Below W.heap.size W W' := by
  have hk : isKey 15 = true := by decide +kernel
  have hne : (wa != wa) = false := by simp
  have hlt : (va + (18446744073709551616 - vb)) % 18446744073709551616 < 18446744073709551616 := Nat.mod_lt _ (by omega)
  have hcon := fun W => p_sub va vb W ha hb
  generalize (va + (18446744073709551616 - vb)) % 18446744073709551616 = r at *
  have hcon' := Lib.hid hcon
  clear hcon
  go_enter Try.func20, Try.ntmps20
  go_wp2_with fail
  refine (all2_any _ 2 wa wa va vb _ (by simpa using bits2 (((W.alloc (.cells #[.int .i64 wa, .int .u64 va] 24)).alloc (.cells #[.int .i64 wa, .int .u64 vb] 24)).alloc (.cells #[.int .i64 0, .int .u64 0] 24)) wa wa va vb ha hb) (by simp)).mono ?_
  rw [hm]
  rintro e W1 ⟨rfl, hbel⟩
  obtain ⟨⟨hA0, hA1, _, _, hAl⟩, ⟨hB0, hB1, _, _, hBl⟩, hRb, hW1⟩ := bin_facts hbel
  clear hbel
  go_wp2_with fail
  refine (pairs_any 15 W1).mono ?_
  rintro e W2 ⟨b, f, rfl, hres, hcell, hb2⟩
  have hA0' := Cells.below hb2 _ _ hA0
  have hB0' := Cells.below hb2 _ _ hB0
  have hA1' := Cells.below hb2 _ _ hA1
  have hB1' := Cells.below hb2 _ _ hB1
  have hr2 := hRb.later hb2
  obtain rfl : f = F 49 := hres 5 rfl
  clear hres
  go_wp2_with fail
  refine (hcon'.out _).mono ?_
  rintro e W3 ⟨rfl, rfl⟩
  go_wp2_with fail
  refine (made_any true wa _ _ (hlt)).mono ?_
  rintro e W3 ⟨rfl, hb3⟩
  have hRb' := hr2.later hb3
  obtain ⟨hr0, hr1, hf0, hf1, hrl⟩ := hRb'
  go_wp2
  refine bodyPost_ret (v := .tuple #[.agg #[.int .i64 wa, .int .u64 ((r) &&& mask wa : Nat)], .int .i64 0]) ?_ rfl ⟨rfl, ?_⟩
  · simp [results, Try.results20, go_sem, hr0, hr1, hf0, hf1, madeW, madeV, errE]
  · exact bin_end (hW1.trans (hb2.mono hW1.size)) hb3 (by omega) _ _

set_option maxHeartbeats 1000000 in
theorem bin_mul (wa : Int) (va vb : Nat) (hm : (mayB wa va && mayB wa vb) = true) (W : World) (ha : va < 18446744073709551616) (hb : vb < 18446744073709551616) :
    Calls Try.prog 20 #[.int .i64 16, .agg #[.int .i64 wa, .int .u64 va], .agg #[.int .i64 wa, .int .u64 vb]] W fun e W' => e = .returned (.tuple #[.agg #[.int .i64 wa, .int .u64 ((va * vb % 18446744073709551616) &&& mask wa : Nat)], .int .i64 0]) ∧ Below W.heap.size W W' := by
  have hk : isKey 16 = true := by decide +kernel
  have hne : (wa != wa) = false := by simp
  have hlt : va * vb % 18446744073709551616 < 18446744073709551616 := Nat.mod_lt _ (by omega)
  have hcon := fun W => p_mul va vb W ha hb
  generalize va * vb % 18446744073709551616 = r at *
  have hcon' := Lib.hid hcon
  clear hcon
  go_enter Try.func20, Try.ntmps20
  go_wp2_with fail
  refine (all2_any _ 2 wa wa va vb _ (by simpa using bits2 (((W.alloc (.cells #[.int .i64 wa, .int .u64 va] 24)).alloc (.cells #[.int .i64 wa, .int .u64 vb] 24)).alloc (.cells #[.int .i64 0, .int .u64 0] 24)) wa wa va vb ha hb) (by simp)).mono ?_
  rw [hm]
  rintro e W1 ⟨rfl, hbel⟩
  obtain ⟨⟨hA0, hA1, _, _, hAl⟩, ⟨hB0, hB1, _, _, hBl⟩, hRb, hW1⟩ := bin_facts hbel
  clear hbel
  go_wp2_with fail
  refine (pairs_any 16 W1).mono ?_
  rintro e W2 ⟨b, f, rfl, hres, hcell, hb2⟩
  have hA0' := Cells.below hb2 _ _ hA0
  have hB0' := Cells.below hb2 _ _ hB0
  have hA1' := Cells.below hb2 _ _ hA1
  have hB1' := Cells.below hb2 _ _ hB1
  have hr2 := hRb.later hb2
  obtain rfl : f = F 50 := hres 6 rfl
  clear hres
  go_wp2_with fail
  refine (hcon'.out _).mono ?_
  rintro e W3 ⟨rfl, rfl⟩
  go_wp2_with fail
  refine (made_any true wa _ _ (hlt)).mono ?_
  rintro e W3 ⟨rfl, hb3⟩
  have hRb' := hr2.later hb3
  obtain ⟨hr0, hr1, hf0, hf1, hrl⟩ := hRb'
  go_wp2
  refine bodyPost_ret (v := .tuple #[.agg #[.int .i64 wa, .int .u64 ((r) &&& mask wa : Nat)], .int .i64 0]) ?_ rfl ⟨rfl, ?_⟩
  · simp [results, Try.results20, go_sem, hr0, hr1, hf0, hf1, madeW, madeV, errE]
  · exact bin_end (hW1.trans (hb2.mono hW1.size)) hb3 (by omega) _ _

set_option maxHeartbeats 1000000 in
theorem bin_eq (wa : Int) (va vb : Nat) (hm : (mayB wa va && mayB wa vb) = true) (W : World) (ha : va < 18446744073709551616) (hb : vb < 18446744073709551616) :
    Calls Try.prog 20 #[.int .i64 19, .agg #[.int .i64 wa, .int .u64 va], .agg #[.int .i64 wa, .int .u64 vb]] W fun e W' => e = .returned (.tuple #[.agg #[.int .i64 1, .int .u64 ((bitN ((va : Int) == (vb : Int))) &&& mask 1 : Nat)], .int .i64 0]) ∧ Below W.heap.size W W' := by
  have hk : isKey 19 = true := by decide +kernel
  have hne : (wa != wa) = false := by simp
  go_enter Try.func20, Try.ntmps20
  go_wp2_with fail
  refine (all2_any _ 2 wa wa va vb _ (by simpa using bits2 (((W.alloc (.cells #[.int .i64 wa, .int .u64 va] 24)).alloc (.cells #[.int .i64 wa, .int .u64 vb] 24)).alloc (.cells #[.int .i64 0, .int .u64 0] 24)) wa wa va vb ha hb) (by simp)).mono ?_
  rw [hm]
  rintro e W1 ⟨rfl, hbel⟩
  obtain ⟨⟨hA0, hA1, _, _, hAl⟩, ⟨hB0, hB1, _, _, hBl⟩, hRb, hW1⟩ := bin_facts hbel
  clear hbel
  go_wp2_with fail
  refine (pairs_any 19 W1).mono ?_
  rintro e W2 ⟨b, f, rfl, hres, hcell, hb2⟩
  have hA0' := Cells.below hb2 _ _ hA0
  have hB0' := Cells.below hb2 _ _ hB0
  have hA1' := Cells.below hb2 _ _ hA1
  have hB1' := Cells.below hb2 _ _ hB1
  have hr2 := hRb.later hb2
  obtain ⟨c, rfl, hc⟩ : Cmp W2 f (F 52) := hres 8 rfl
  clear hres
  go_wp2_with fail
  refine (cmp_plain 52 _ va vb c _ (by first | exact hc | simpa using hc) run52 (eq_any va vb _ ha hb)).mono ?_
  rintro e W3 ⟨rfl, rfl⟩
  go_wp2_with fail
  refine (made_any true 1 _ _ (bitN_lt _)).mono ?_
  rintro e W3 ⟨rfl, hb3⟩
  have hRb' := hr2.later hb3
  obtain ⟨hr0, hr1, hf0, hf1, hrl⟩ := hRb'
  go_wp2
  refine bodyPost_ret (v := .tuple #[.agg #[.int .i64 1, .int .u64 ((bitN ((va : Int) == (vb : Int))) &&& mask 1 : Nat)], .int .i64 0]) ?_ rfl ⟨rfl, ?_⟩
  · simp [results, Try.results20, go_sem, hr0, hr1, hf0, hf1, madeW, madeV, errE]
  · exact bin_end (hW1.trans (hb2.mono hW1.size)) hb3 (by omega) _ _

set_option maxHeartbeats 1000000 in
theorem bin_ne (wa : Int) (va vb : Nat) (hm : (mayB wa va && mayB wa vb) = true) (W : World) (ha : va < 18446744073709551616) (hb : vb < 18446744073709551616) :
    Calls Try.prog 20 #[.int .i64 20, .agg #[.int .i64 wa, .int .u64 va], .agg #[.int .i64 wa, .int .u64 vb]] W fun e W' => e = .returned (.tuple #[.agg #[.int .i64 1, .int .u64 ((bitN ((va : Int) != (vb : Int))) &&& mask 1 : Nat)], .int .i64 0]) ∧ Below W.heap.size W W' := by
  have hk : isKey 20 = true := by decide +kernel
  have hne : (wa != wa) = false := by simp
  go_enter Try.func20, Try.ntmps20
  go_wp2_with fail
  refine (all2_any _ 2 wa wa va vb _ (by simpa using bits2 (((W.alloc (.cells #[.int .i64 wa, .int .u64 va] 24)).alloc (.cells #[.int .i64 wa, .int .u64 vb] 24)).alloc (.cells #[.int .i64 0, .int .u64 0] 24)) wa wa va vb ha hb) (by simp)).mono ?_
  rw [hm]
  rintro e W1 ⟨rfl, hbel⟩
  obtain ⟨⟨hA0, hA1, _, _, hAl⟩, ⟨hB0, hB1, _, _, hBl⟩, hRb, hW1⟩ := bin_facts hbel
  clear hbel
  go_wp2_with fail
  refine (pairs_any 20 W1).mono ?_
  rintro e W2 ⟨b, f, rfl, hres, hcell, hb2⟩
  have hA0' := Cells.below hb2 _ _ hA0
  have hB0' := Cells.below hb2 _ _ hB0
  have hA1' := Cells.below hb2 _ _ hA1
  have hB1' := Cells.below hb2 _ _ hB1
  have hr2 := hRb.later hb2
  obtain ⟨c, rfl, hc⟩ : Cmp W2 f (F 53) := hres 10 rfl
  clear hres
  go_wp2_with fail
  refine (cmp_plain 53 _ va vb c _ (by first | exact hc | simpa using hc) run53 (ne_any va vb _ ha hb)).mono ?_
  rintro e W3 ⟨rfl, rfl⟩
  go_wp2_with fail
  refine (made_any true 1 _ _ (bitN_lt _)).mono ?_
  rintro e W3 ⟨rfl, hb3⟩
  have hRb' := hr2.later hb3
  obtain ⟨hr0, hr1, hf0, hf1, hrl⟩ := hRb'
  go_wp2
  refine bodyPost_ret (v := .tuple #[.agg #[.int .i64 1, .int .u64 ((bitN ((va : Int) != (vb : Int))) &&& mask 1 : Nat)], .int .i64 0]) ?_ rfl ⟨rfl, ?_⟩
  · simp [results, Try.results20, go_sem, hr0, hr1, hf0, hf1, madeW, madeV, errE]
  · exact bin_end (hW1.trans (hb2.mono hW1.size)) hb3 (by omega) _ _

set_option maxHeartbeats 1000000 in
theorem bin_lt (wa : Int) (va vb : Nat) (hm : (mayB wa va && mayB wa vb) = true) (W : World) (ha : va < 18446744073709551616) (hb : vb < 18446744073709551616) :
    Calls Try.prog 20 #[.int .i64 21, .agg #[.int .i64 wa, .int .u64 va], .agg #[.int .i64 wa, .int .u64 vb]] W fun e W' => e = .returned (.tuple #[.agg #[.int .i64 1, .int .u64 ((bitN (decide (va < vb))) &&& mask 1 : Nat)], .int .i64 0]) ∧ Below W.heap.size W W' := by
  have hk : isKey 21 = true := by decide +kernel
  have hne : (wa != wa) = false := by simp
  go_enter Try.func20, Try.ntmps20
  go_wp2_with fail
  refine (all2_any _ 2 wa wa va vb _ (by simpa using bits2 (((W.alloc (.cells #[.int .i64 wa, .int .u64 va] 24)).alloc (.cells #[.int .i64 wa, .int .u64 vb] 24)).alloc (.cells #[.int .i64 0, .int .u64 0] 24)) wa wa va vb ha hb) (by simp)).mono ?_
  rw [hm]
  rintro e W1 ⟨rfl, hbel⟩
  obtain ⟨⟨hA0, hA1, _, _, hAl⟩, ⟨hB0, hB1, _, _, hBl⟩, hRb, hW1⟩ := bin_facts hbel
  clear hbel
  go_wp2_with fail
  refine (pairs_any 21 W1).mono ?_
  rintro e W2 ⟨b, f, rfl, hres, hcell, hb2⟩
  have hA0' := Cells.below hb2 _ _ hA0
  have hB0' := Cells.below hb2 _ _ hB0
  have hA1' := Cells.below hb2 _ _ hA1
  have hB1' := Cells.below hb2 _ _ hB1
  have hr2 := hRb.later hb2
  obtain ⟨c, rfl, hc⟩ : Cmp W2 f (F 44) := hres 13 rfl
  clear hres
  go_wp2_with fail
  refine (cmp_plain 44 _ va vb c _ (by first | exact hc | simpa using hc) run44 (less_any va vb _ ha hb)).mono ?_
  rintro e W3 ⟨rfl, rfl⟩
  go_wp2_with fail
  refine (made_any true 1 _ _ (bitN_lt _)).mono ?_
  rintro e W3 ⟨rfl, hb3⟩
  have hRb' := hr2.later hb3
  obtain ⟨hr0, hr1, hf0, hf1, hrl⟩ := hRb'
  go_wp2
  refine bodyPost_ret (v := .tuple #[.agg #[.int .i64 1, .int .u64 ((bitN (decide (va < vb))) &&& mask 1 : Nat)], .int .i64 0]) ?_ rfl ⟨rfl, ?_⟩
  · simp [results, Try.results20, go_sem, hr0, hr1, hf0, hf1, madeW, madeV, errE]
  · exact bin_end (hW1.trans (hb2.mono hW1.size)) hb3 (by omega) _ _

set_option maxHeartbeats 1000000 in
theorem bin_le (wa : Int) (va vb : Nat) (hm : (mayB wa va && mayB wa vb) = true) (W : World) (ha : va < 18446744073709551616) (hb : vb < 18446744073709551616) :
    Calls Try.prog 20 #[.int .i64 22, .agg #[.int .i64 wa, .int .u64 va], .agg #[.int .i64 wa, .int .u64 vb]] W fun e W' => e = .returned (.tuple #[.agg #[.int .i64 1, .int .u64 ((bitN (!decide (vb < va))) &&& mask 1 : Nat)], .int .i64 0]) ∧ Below W.heap.size W W' := by
  have hk : isKey 22 = true := by decide +kernel
  have hne : (wa != wa) = false := by simp
  go_enter Try.func20, Try.ntmps20
  go_wp2_with fail
  refine (all2_any _ 2 wa wa va vb _ (by simpa using bits2 (((W.alloc (.cells #[.int .i64 wa, .int .u64 va] 24)).alloc (.cells #[.int .i64 wa, .int .u64 vb] 24)).alloc (.cells #[.int .i64 0, .int .u64 0] 24)) wa wa va vb ha hb) (by simp)).mono ?_
  rw [hm]
  rintro e W1 ⟨rfl, hbel⟩
  obtain ⟨⟨hA0, hA1, _, _, hAl⟩, ⟨hB0, hB1, _, _, hBl⟩, hRb, hW1⟩ := bin_facts hbel
  clear hbel
  go_wp2_with fail
  refine (pairs_any 22 W1).mono ?_
  rintro e W2 ⟨b, f, rfl, hres, hcell, hb2⟩
  have hA0' := Cells.below hb2 _ _ hA0
  have hB0' := Cells.below hb2 _ _ hB0
  have hA1' := Cells.below hb2 _ _ hA1
  have hB1' := Cells.below hb2 _ _ hB1
  have hr2 := hRb.later hb2
  obtain ⟨c, rfl, hc⟩ : Cmp W2 f (FB 54 b) := hres 16 rfl
  clear hres
  go_wp2_with fail
  refine (cmp_boxed 54 _ va vb c b _ (by first | exact hc | simpa using hc) run54 (le_any va vb b _ ha hb hcell)).mono ?_
  rintro e W3 ⟨rfl, rfl⟩
  go_wp2_with fail
  refine (made_any true 1 _ _ (bitN_lt _)).mono ?_
  rintro e W3 ⟨rfl, hb3⟩
  have hRb' := hr2.later hb3
  obtain ⟨hr0, hr1, hf0, hf1, hrl⟩ := hRb'
  go_wp2
  refine bodyPost_ret (v := .tuple #[.agg #[.int .i64 1, .int .u64 ((bitN (!decide (vb < va))) &&& mask 1 : Nat)], .int .i64 0]) ?_ rfl ⟨rfl, ?_⟩
  · simp [results, Try.results20, go_sem, hr0, hr1, hf0, hf1, madeW, madeV, errE]
  · exact bin_end (hW1.trans (hb2.mono hW1.size)) hb3 (by omega) _ _

set_option maxHeartbeats 1000000 in
theorem bin_gt (wa : Int) (va vb : Nat) (hm : (mayB wa va && mayB wa vb) = true) (W : World) (ha : va < 18446744073709551616) (hb : vb < 18446744073709551616) :
    Calls Try.prog 20 #[.int .i64 23, .agg #[.int .i64 wa, .int .u64 va], .agg #[.int .i64 wa, .int .u64 vb]] W fun e W' => e = .returned (.tuple #[.agg #[.int .i64 1, .int .u64 ((bitN (decide (vb < va))) &&& mask 1 : Nat)], .int .i64 0]) ∧ Below W.heap.size W W' := by
  have hk : isKey 23 = true := by decide +kernel
  have hne : (wa != wa) = false := by simp
  go_enter Try.func20, Try.ntmps20
  go_wp2_with fail
  refine (all2_any _ 2 wa wa va vb _ (by simpa using bits2 (((W.alloc (.cells #[.int .i64 wa, .int .u64 va] 24)).alloc (.cells #[.int .i64 wa, .int .u64 vb] 24)).alloc (.cells #[.int .i64 0, .int .u64 0] 24)) wa wa va vb ha hb) (by simp)).mono ?_
  rw [hm]
  rintro e W1 ⟨rfl, hbel⟩
  obtain ⟨⟨hA0, hA1, _, _, hAl⟩, ⟨hB0, hB1, _, _, hBl⟩, hRb, hW1⟩ := bin_facts hbel
  clear hbel
  go_wp2_with fail
  refine (pairs_any 23 W1).mono ?_
  rintro e W2 ⟨b, f, rfl, hres, hcell, hb2⟩
  have hA0' := Cells.below hb2 _ _ hA0
  have hB0' := Cells.below hb2 _ _ hB0
  have hA1' := Cells.below hb2 _ _ hA1
  have hB1' := Cells.below hb2 _ _ hB1
  have hr2 := hRb.later hb2
  obtain ⟨c, rfl, hc⟩ : Cmp W2 f (FB 55 b) := hres 19 rfl
  clear hres
  go_wp2_with fail
  refine (cmp_boxed 55 _ va vb c b _ (by first | exact hc | simpa using hc) run55 (gt_any va vb b _ ha hb hcell)).mono ?_
  rintro e W3 ⟨rfl, rfl⟩
  go_wp2_with fail
  refine (made_any true 1 _ _ (bitN_lt _)).mono ?_
  rintro e W3 ⟨rfl, hb3⟩
  have hRb' := hr2.later hb3
  obtain ⟨hr0, hr1, hf0, hf1, hrl⟩ := hRb'
  go_wp2
  refine bodyPost_ret (v := .tuple #[.agg #[.int .i64 1, .int .u64 ((bitN (decide (vb < va))) &&& mask 1 : Nat)], .int .i64 0]) ?_ rfl ⟨rfl, ?_⟩
  · simp [results, Try.results20, go_sem, hr0, hr1, hf0, hf1, madeW, madeV, errE]
  · exact bin_end (hW1.trans (hb2.mono hW1.size)) hb3 (by omega) _ _

set_option maxHeartbeats 1000000 in
theorem bin_ge (wa : Int) (va vb : Nat) (hm : (mayB wa va && mayB wa vb) = true) (W : World) (ha : va < 18446744073709551616) (hb : vb < 18446744073709551616) :
    Calls Try.prog 20 #[.int .i64 24, .agg #[.int .i64 wa, .int .u64 va], .agg #[.int .i64 wa, .int .u64 vb]] W fun e W' => e = .returned (.tuple #[.agg #[.int .i64 1, .int .u64 ((bitN (!decide (va < vb))) &&& mask 1 : Nat)], .int .i64 0]) ∧ Below W.heap.size W W' := by
  have hk : isKey 24 = true := by decide +kernel
  have hne : (wa != wa) = false := by simp
  go_enter Try.func20, Try.ntmps20
  go_wp2_with fail
  refine (all2_any _ 2 wa wa va vb _ (by simpa using bits2 (((W.alloc (.cells #[.int .i64 wa, .int .u64 va] 24)).alloc (.cells #[.int .i64 wa, .int .u64 vb] 24)).alloc (.cells #[.int .i64 0, .int .u64 0] 24)) wa wa va vb ha hb) (by simp)).mono ?_
  rw [hm]
  rintro e W1 ⟨rfl, hbel⟩
  obtain ⟨⟨hA0, hA1, _, _, hAl⟩, ⟨hB0, hB1, _, _, hBl⟩, hRb, hW1⟩ := bin_facts hbel
  clear hbel
  go_wp2_with fail
  refine (pairs_any 24 W1).mono ?_
  rintro e W2 ⟨b, f, rfl, hres, hcell, hb2⟩
  have hA0' := Cells.below hb2 _ _ hA0
  have hB0' := Cells.below hb2 _ _ hB0
  have hA1' := Cells.below hb2 _ _ hA1
  have hB1' := Cells.below hb2 _ _ hB1
  have hr2 := hRb.later hb2
  obtain ⟨c, rfl, hc⟩ : Cmp W2 f (FB 56 b) := hres 22 rfl
  clear hres
  go_wp2_with fail
  refine (cmp_boxed 56 _ va vb c b _ (by first | exact hc | simpa using hc) run56 (ge_any va vb b _ ha hb hcell)).mono ?_
  rintro e W3 ⟨rfl, rfl⟩
  go_wp2_with fail
  refine (made_any true 1 _ _ (bitN_lt _)).mono ?_
  rintro e W3 ⟨rfl, hb3⟩
  have hRb' := hr2.later hb3
  obtain ⟨hr0, hr1, hf0, hf1, hrl⟩ := hRb'
  go_wp2
  refine bodyPost_ret (v := .tuple #[.agg #[.int .i64 1, .int .u64 ((bitN (!decide (va < vb))) &&& mask 1 : Nat)], .int .i64 0]) ?_ rfl ⟨rfl, ?_⟩
  · simp [results, Try.results20, go_sem, hr0, hr1, hf0, hf1, madeW, madeV, errE]
  · exact bin_end (hW1.trans (hb2.mono hW1.size)) hb3 (by omega) _ _

set_option maxHeartbeats 1000000 in
theorem bin_both (wa : Int) (va vb : Nat) (hm : (mayB wa va && mayB wa vb) = true) (hw : decide (1 < wa) = false) (W : World) (ha : va < 18446744073709551616) (hb : vb < 18446744073709551616) :
    Calls Try.prog 20 #[.int .i64 25, .agg #[.int .i64 wa, .int .u64 va], .agg #[.int .i64 wa, .int .u64 vb]] W fun e W' => e = .returned (.tuple #[.agg #[.int .i64 1, .int .u64 ((va &&& vb) &&& mask 1 : Nat)], .int .i64 0]) ∧ Below W.heap.size W W' := by
  have hk : isKey 25 = true := by decide +kernel
  have hne : (wa != wa) = false := by simp
  go_enter Try.func20, Try.ntmps20
  go_wp2_with fail
  refine (all2_any _ 2 wa wa va vb _ (by simpa using bits2 (((W.alloc (.cells #[.int .i64 wa, .int .u64 va] 24)).alloc (.cells #[.int .i64 wa, .int .u64 vb] 24)).alloc (.cells #[.int .i64 0, .int .u64 0] 24)) wa wa va vb ha hb) (by simp)).mono ?_
  rw [hm]
  rintro e W1 ⟨rfl, hbel⟩
  obtain ⟨⟨hA0, hA1, _, _, hAl⟩, ⟨hB0, hB1, _, _, hBl⟩, hRb, hW1⟩ := bin_facts hbel
  clear hbel
  go_wp2_with fail
  refine (pairs_any 25 W1).mono ?_
  rintro e W2 ⟨b, f, rfl, hres, hcell, hb2⟩
  have hA0' := Cells.below hb2 _ _ hA0
  have hB0' := Cells.below hb2 _ _ hB0
  have hA1' := Cells.below hb2 _ _ hA1
  have hB1' := Cells.below hb2 _ _ hB1
  have hr2 := hRb.later hb2
  obtain rfl : f = F 57 := hres 23 rfl
  clear hres
  go_wp2_with fail
  refine (p_both va vb _ ha hb).mono ?_
  rintro e W3 ⟨rfl, rfl⟩
  go_wp2_with fail
  refine (made_any true 1 _ _ (Nat.lt_of_le_of_lt Nat.and_le_right hb)).mono ?_
  rintro e W3 ⟨rfl, hb3⟩
  have hRb' := hr2.later hb3
  obtain ⟨hr0, hr1, hf0, hf1, hrl⟩ := hRb'
  go_wp2
  refine bodyPost_ret (v := .tuple #[.agg #[.int .i64 1, .int .u64 ((va &&& vb) &&& mask 1 : Nat)], .int .i64 0]) ?_ rfl ⟨rfl, ?_⟩
  · simp [results, Try.results20, go_sem, hr0, hr1, hf0, hf1, madeW, madeV, errE]
  · exact bin_end (hW1.trans (hb2.mono hW1.size)) hb3 (by omega) _ _

set_option maxHeartbeats 1000000 in
theorem bin_one (wa : Int) (va vb : Nat) (hm : (mayB wa va && mayB wa vb) = true) (hw : decide (1 < wa) = false) (W : World) (ha : va < 18446744073709551616) (hb : vb < 18446744073709551616) :
    Calls Try.prog 20 #[.int .i64 26, .agg #[.int .i64 wa, .int .u64 va], .agg #[.int .i64 wa, .int .u64 vb]] W fun e W' => e = .returned (.tuple #[.agg #[.int .i64 1, .int .u64 ((va ||| vb) &&& mask 1 : Nat)], .int .i64 0]) ∧ Below W.heap.size W W' := by
  have hk : isKey 26 = true := by decide +kernel
  have hne : (wa != wa) = false := by simp
  go_enter Try.func20, Try.ntmps20
  go_wp2_with fail
  refine (all2_any _ 2 wa wa va vb _ (by simpa using bits2 (((W.alloc (.cells #[.int .i64 wa, .int .u64 va] 24)).alloc (.cells #[.int .i64 wa, .int .u64 vb] 24)).alloc (.cells #[.int .i64 0, .int .u64 0] 24)) wa wa va vb ha hb) (by simp)).mono ?_
  rw [hm]
  rintro e W1 ⟨rfl, hbel⟩
  obtain ⟨⟨hA0, hA1, _, _, hAl⟩, ⟨hB0, hB1, _, _, hBl⟩, hRb, hW1⟩ := bin_facts hbel
  clear hbel
  go_wp2_with fail
  refine (pairs_any 26 W1).mono ?_
  rintro e W2 ⟨b, f, rfl, hres, hcell, hb2⟩
  have hA0' := Cells.below hb2 _ _ hA0
  have hB0' := Cells.below hb2 _ _ hB0
  have hA1' := Cells.below hb2 _ _ hA1
  have hB1' := Cells.below hb2 _ _ hB1
  have hr2 := hRb.later hb2
  obtain rfl : f = F 58 := hres 24 rfl
  clear hres
  go_wp2_with fail
  refine (p_one va vb _ ha hb).mono ?_
  rintro e W3 ⟨rfl, rfl⟩
  go_wp2_with fail
  refine (made_any true 1 _ _ (Nat.or_lt_two_pow (n := 64) ha hb)).mono ?_
  rintro e W3 ⟨rfl, hb3⟩
  have hRb' := hr2.later hb3
  obtain ⟨hr0, hr1, hf0, hf1, hrl⟩ := hRb'
  go_wp2
  refine bodyPost_ret (v := .tuple #[.agg #[.int .i64 1, .int .u64 ((va ||| vb) &&& mask 1 : Nat)], .int .i64 0]) ?_ rfl ⟨rfl, ?_⟩
  · simp [results, Try.results20, go_sem, hr0, hr1, hf0, hf1, madeW, madeV, errE]
  · exact bin_end (hW1.trans (hb2.mono hW1.size)) hb3 (by omega) _ _

end Go.Proofs.Ytafhnkhcbfilaaa
