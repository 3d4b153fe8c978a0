/- The operations of one: the reference's Un. -/
import Derived.Test.YtafhnkhcbfilaaaA3
namespace Go.Proofs.Ytafhnkhcbfilaaa
open Go.RowKit
set_option linter.unusedVariables false
set_option linter.unusedSimpArgs false

theorem sub_walk (w : Int) (v : Nat) (h : v ≤ mask w) : IntKind.u64.wrap (((mask w : Nat) : Int) - (v : Int)) = ((mask w - v : Nat) : Int) := by
  have := mask_lt w
  rw [wrap_u64]; omega

theorem eq_c (a b : Nat) : ((a : Int) == (b : Int)) = decide (a = b) := by rw [Bool.eq_iff_iff, beq_iff_eq, decide_eq_true_eq]; omega
theorem eq_0 (a : Nat) : ((a : Int) == 0) = decide (a = 0) := by rw [Bool.eq_iff_iff, beq_iff_eq, decide_eq_true_eq]; omega
theorem ne_0 (a : Nat) : ((a : Int) != 0) = decide (a ≠ 0) := by rw [Bool.eq_iff_iff, bne_iff_ne, decide_eq_true_eq]; omega

theorem mayB_le {w : Int} {v : Nat} (h : mayB w v = true) : v ≤ mask w := by
  simp only [mayB, decide_eq_true_eq] at h
  exact h.2.2

set_option maxHeartbeats 400000 in
theorem refUn_wno (op : Int) (w : Int) (v : Nat) (hm : mayB w v = false) (W : World) (hv : v < 18446744073709551616) :
    Calls Try.prog 14 #[.int .i64 op, .agg #[.int .i64 w, .int .u64 v]] W fun e W' =>
      e = .returned (.tuple #[.agg #[.int .i64 0, .int .u64 0], .int .i64 1]) ∧ Below W.heap.size W W' := by
  have he : errE (mayB w v) = 1 := by rw [hm]; rfl
  go_enter Try.func14, Try.ntmps14
  go_wp2_with fail
  refine (refCheck_any w v _ hv).mono ?_
  rintro e W1 ⟨rfl, hb⟩
  obtain ⟨ha0, ha1, _, _, hal⟩ := ((Box.new W (.int .i64 w) (.int .u64 v) 24).alloc (.cells #[.int .i64 0, .int .u64 0] 24)).later hb
  obtain ⟨hr0, hr1, hf0, hf1, hrl⟩ := (Box.new (W.alloc (.cells #[.int .i64 w, .int .u64 v] 24)) (.int .i64 0) (.int .u64 0) 24).later hb
  simp only [World.size_alloc] at hr0 hr1 hf0 hf1 hrl
  go_wp2
  refine bodyPost_ret (v := .tuple #[.agg #[.int .i64 0, .int .u64 0], .int .i64 1]) ?_ rfl ⟨rfl, ?_⟩
  · simp [results, Try.results14, go_sem, hr0, hr1, hf0, hf1]
  · exact (((((Below.refl _ _).alloc (Nat.le_refl _) _).alloc (by simp) _).trans (hb.mono (by simp; omega))).setCell (by simp) _).setCell (by simp) _

set_option maxHeartbeats 400000 in
theorem refUn_w1 (w : Int) (v : Nat) (hm : mayB w v = true) (W : World) (hv : v < 18446744073709551616) :
    Calls Try.prog 14 #[.int .i64 1, .agg #[.int .i64 w, .int .u64 v]] W fun e W' =>
      e = .returned (.tuple #[.agg #[.int .i64 w, .int .u64 ((mask w - v : Nat) : Int)], .int .i64 0]) ∧ Below W.heap.size W W' := by
  have he : errE (mayB w v) = 0 := by rw [hm]; rfl
  have hs := sub_walk w v (mayB_le hm)
  go_enter Try.func14, Try.ntmps14
  go_wp2_with fail
  refine (refCheck_any w v _ hv).mono ?_
  rintro e W1 ⟨rfl, hb⟩
  obtain ⟨ha0, ha1, _, _, hal⟩ := ((Box.new W (.int .i64 w) (.int .u64 v) 24).alloc (.cells #[.int .i64 0, .int .u64 0] 24)).later hb
  obtain ⟨hr0, hr1, hf0, hf1, hrl⟩ := (Box.new (W.alloc (.cells #[.int .i64 w, .int .u64 v] 24)) (.int .i64 0) (.int .u64 0) 24).later hb
  simp only [World.size_alloc] at hr0 hr1 hf0 hf1 hrl
  go_wp2_with fail
  refine (refMask_any w _).mono ?_
  rintro e W1 ⟨rfl, rfl⟩
  go_wp2
  refine bodyPost_ret (v := .tuple #[.agg #[.int .i64 w, .int .u64 ((mask w - v : Nat) : Int)], .int .i64 0]) ?_ rfl ⟨rfl, ?_⟩
  · simp [results, Try.results14, go_sem, hr0, hr1, hf0, hf1]
  · exact (((((Below.refl _ _).alloc (Nat.le_refl _) _).alloc (by simp) _).trans (hb.mono (by simp; omega))).setCell (by simp) _).setCell (by simp) _

set_option maxHeartbeats 400000 in
theorem refUn_w2 (w : Int) (v : Nat) (hm : mayB w v = true) (W : World) (hv : v < 18446744073709551616) :
    Calls Try.prog 14 #[.int .i64 2, .agg #[.int .i64 w, .int .u64 v]] W fun e W' =>
      e = .returned (.tuple #[.agg #[.int .i64 w, .int .u64 (((18446744073709551616 - v) % 18446744073709551616 &&& mask w : Nat) : Int)], .int .i64 0]) ∧ Below W.heap.size W W' := by
  have he : errE (mayB w v) = 0 := by rw [hm]; rfl
  have hg := neg_walk' v hv
  rw [Int.zero_sub] at hg
  have ha := u64_and_nat ((18446744073709551616 - v) % 18446744073709551616) (mask w) (Nat.mod_lt _ (by omega)) (mask_lt w)
  generalize (18446744073709551616 - v) % 18446744073709551616 = x at *
  go_enter Try.func14, Try.ntmps14
  go_wp2_with fail
  refine (refCheck_any w v _ hv).mono ?_
  rintro e W1 ⟨rfl, hb⟩
  obtain ⟨ha0, ha1, _, _, hal⟩ := ((Box.new W (.int .i64 w) (.int .u64 v) 24).alloc (.cells #[.int .i64 0, .int .u64 0] 24)).later hb
  obtain ⟨hr0, hr1, hf0, hf1, hrl⟩ := (Box.new (W.alloc (.cells #[.int .i64 w, .int .u64 v] 24)) (.int .i64 0) (.int .u64 0) 24).later hb
  simp only [World.size_alloc] at hr0 hr1 hf0 hf1 hrl
  go_wp2_with fail
  refine (refMask_any w _).mono ?_
  rintro e W1 ⟨rfl, rfl⟩
  go_wp2
  refine bodyPost_ret (v := .tuple #[.agg #[.int .i64 w, .int .u64 ((x &&& mask w : Nat) : Int)], .int .i64 0]) ?_ rfl ⟨rfl, ?_⟩
  · simp [results, Try.results14, go_sem, hr0, hr1, hf0, hf1]
  · exact (((((Below.refl _ _).alloc (Nat.le_refl _) _).alloc (by simp) _).trans (hb.mono (by simp; omega))).setCell (by simp) _).setCell (by simp) _

set_option maxHeartbeats 400000 in
theorem refUn_w3 (w : Int) (v : Nat) (hm : mayB w v = true) (W : World) (hv : v < 18446744073709551616) :
    Calls Try.prog 14 #[.int .i64 3, .agg #[.int .i64 w, .int .u64 v]] W fun e W' =>
      e = .returned (.tuple #[.agg #[.int .i64 1, .int .u64 ((bitN ((v : Int) == (mask w : Nat)) : Nat) : Int)], .int .i64 0]) ∧ Below W.heap.size W W' := by
  have he : errE (mayB w v) = 0 := by rw [hm]; rfl
  go_enter Try.func14, Try.ntmps14
  go_wp2_with fail
  refine (refCheck_any w v _ hv).mono ?_
  rintro e W1 ⟨rfl, hb⟩
  obtain ⟨ha0, ha1, _, _, hal⟩ := ((Box.new W (.int .i64 w) (.int .u64 v) 24).alloc (.cells #[.int .i64 0, .int .u64 0] 24)).later hb
  obtain ⟨hr0, hr1, hf0, hf1, hrl⟩ := (Box.new (W.alloc (.cells #[.int .i64 w, .int .u64 v] 24)) (.int .i64 0) (.int .u64 0) 24).later hb
  simp only [World.size_alloc] at hr0 hr1 hf0 hf1 hrl
  go_wp2_with fail
  refine (refMask_any w _).mono ?_
  rintro e W1 ⟨rfl, rfl⟩
  go_wp2_with fail
  refine (bit_any _ _).mono ?_
  rintro e W2 ⟨rfl, hb2⟩
  obtain ⟨hr0', hr1', hf0', hf1', hrl'⟩ := Box.later ⟨hr0, hr1, hf0, hf1, hrl⟩ hb2
  go_wp2
  refine bodyPost_ret (v := .tuple #[.agg #[.int .i64 1, .int .u64 ((bitN ((v : Int) == (mask w : Nat)) : Nat) : Int)], .int .i64 0]) ?_ rfl ⟨rfl, ?_⟩
  · simp [results, Try.results14, go_sem, hr0', hr1', hf0', hf1']
  · exact ((((((Below.refl _ _).alloc (Nat.le_refl _) _).alloc (by simp) _).trans (hb.mono (by simp; omega))).trans (hb2.mono (by omega))).setCell (by simp) _).setCell (by simp) _

set_option maxHeartbeats 400000 in
theorem refUn_w4 (w : Int) (v : Nat) (hm : mayB w v = true) (W : World) (hv : v < 18446744073709551616) :
    Calls Try.prog 14 #[.int .i64 4, .agg #[.int .i64 w, .int .u64 v]] W fun e W' =>
      e = .returned (.tuple #[.agg #[.int .i64 1, .int .u64 ((bitN ((v : Int) != 0) : Nat) : Int)], .int .i64 0]) ∧ Below W.heap.size W W' := by
  have he : errE (mayB w v) = 0 := by rw [hm]; rfl
  go_enter Try.func14, Try.ntmps14
  go_wp2_with fail
  refine (refCheck_any w v _ hv).mono ?_
  rintro e W1 ⟨rfl, hb⟩
  obtain ⟨ha0, ha1, _, _, hal⟩ := ((Box.new W (.int .i64 w) (.int .u64 v) 24).alloc (.cells #[.int .i64 0, .int .u64 0] 24)).later hb
  obtain ⟨hr0, hr1, hf0, hf1, hrl⟩ := (Box.new (W.alloc (.cells #[.int .i64 w, .int .u64 v] 24)) (.int .i64 0) (.int .u64 0) 24).later hb
  simp only [World.size_alloc] at hr0 hr1 hf0 hf1 hrl
  go_wp2_with fail
  refine (refMask_any w _).mono ?_
  rintro e W1 ⟨rfl, rfl⟩
  go_wp2_with fail
  refine (bit_any _ _).mono ?_
  rintro e W2 ⟨rfl, hb2⟩
  obtain ⟨hr0', hr1', hf0', hf1', hrl'⟩ := Box.later ⟨hr0, hr1, hf0, hf1, hrl⟩ hb2
  go_wp2
  refine bodyPost_ret (v := .tuple #[.agg #[.int .i64 1, .int .u64 ((bitN ((v : Int) != 0) : Nat) : Int)], .int .i64 0]) ?_ rfl ⟨rfl, ?_⟩
  · simp [results, Try.results14, go_sem, hr0', hr1', hf0', hf1']
  · exact ((((((Below.refl _ _).alloc (Nat.le_refl _) _).alloc (by simp) _).trans (hb.mono (by simp; omega))).trans (hb2.mono (by omega))).setCell (by simp) _).setCell (by simp) _

set_option maxHeartbeats 400000 in
theorem refUn_w5 (w : Int) (v : Nat) (hm : mayB w v = true) (W : World) (hv : v < 18446744073709551616) :
    Calls Try.prog 14 #[.int .i64 5, .agg #[.int .i64 w, .int .u64 v]] W fun e W' =>
      e = .returned (.tuple #[.agg #[.int .i64 1, .int .u64 ((bitN (oddN 64 v) : Nat) : Int)], .int .i64 0]) ∧ Below W.heap.size W W' := by
  have he : errE (mayB w v) = 0 := by rw [hm]; rfl
  go_enter Try.func14, Try.ntmps14
  go_wp2_with fail
  refine (refCheck_any w v _ hv).mono ?_
  rintro e W1 ⟨rfl, hb⟩
  obtain ⟨ha0, ha1, _, _, hal⟩ := ((Box.new W (.int .i64 w) (.int .u64 v) 24).alloc (.cells #[.int .i64 0, .int .u64 0] 24)).later hb
  obtain ⟨hr0, hr1, hf0, hf1, hrl⟩ := (Box.new (W.alloc (.cells #[.int .i64 w, .int .u64 v] 24)) (.int .i64 0) (.int .u64 0) 24).later hb
  simp only [World.size_alloc] at hr0 hr1 hf0 hf1 hrl
  go_wp2_with fail
  refine (refMask_any w _).mono ?_
  rintro e W1 ⟨rfl, rfl⟩
  go_wp2_with fail
  refine (odd_any v _ hv).mono ?_
  rintro e W1 ⟨rfl, rfl⟩
  go_wp2_with fail
  refine (bit_any _ _).mono ?_
  rintro e W2 ⟨rfl, hb2⟩
  obtain ⟨hr0', hr1', hf0', hf1', hrl'⟩ := Box.later ⟨hr0, hr1, hf0, hf1, hrl⟩ hb2
  go_wp2
  refine bodyPost_ret (v := .tuple #[.agg #[.int .i64 1, .int .u64 ((bitN (oddN 64 v) : Nat) : Int)], .int .i64 0]) ?_ rfl ⟨rfl, ?_⟩
  · simp [results, Try.results14, go_sem, hr0', hr1', hf0', hf1']
  · exact ((((((Below.refl _ _).alloc (Nat.le_refl _) _).alloc (by simp) _).trans (hb.mono (by simp; omega))).trans (hb2.mono (by omega))).setCell (by simp) _).setCell (by simp) _

set_option maxHeartbeats 400000 in
theorem refUn_w6a (w : Int) (v : Nat) (hm : mayB w v = true) (hw : (w == 1) = true) (W : World) (hv : v < 18446744073709551616) :
    Calls Try.prog 14 #[.int .i64 6, .agg #[.int .i64 w, .int .u64 v]] W fun e W' =>
      e = .returned (.tuple #[.agg #[.int .i64 1, .int .u64 ((bitN ((v : Int) == 0) : Nat) : Int)], .int .i64 0]) ∧ Below W.heap.size W W' := by
  have he : errE (mayB w v) = 0 := by rw [hm]; rfl
  go_enter Try.func14, Try.ntmps14
  go_wp2_with fail
  refine (refCheck_any w v _ hv).mono ?_
  rintro e W1 ⟨rfl, hb⟩
  obtain ⟨ha0, ha1, _, _, hal⟩ := ((Box.new W (.int .i64 w) (.int .u64 v) 24).alloc (.cells #[.int .i64 0, .int .u64 0] 24)).later hb
  obtain ⟨hr0, hr1, hf0, hf1, hrl⟩ := (Box.new (W.alloc (.cells #[.int .i64 w, .int .u64 v] 24)) (.int .i64 0) (.int .u64 0) 24).later hb
  simp only [World.size_alloc] at hr0 hr1 hf0 hf1 hrl
  go_wp2_with fail
  refine (refMask_any w _).mono ?_
  rintro e W1 ⟨rfl, rfl⟩
  go_wp2_with fail
  refine (bit_any _ _).mono ?_
  rintro e W2 ⟨rfl, hb2⟩
  obtain ⟨hr0', hr1', hf0', hf1', hrl'⟩ := Box.later ⟨hr0, hr1, hf0, hf1, hrl⟩ hb2
  go_wp2
  refine bodyPost_ret (v := .tuple #[.agg #[.int .i64 1, .int .u64 ((bitN ((v : Int) == 0) : Nat) : Int)], .int .i64 0]) ?_ rfl ⟨rfl, ?_⟩
  · simp [results, Try.results14, go_sem, hr0', hr1', hf0', hf1']
  · exact ((((((Below.refl _ _).alloc (Nat.le_refl _) _).alloc (by simp) _).trans (hb.mono (by simp; omega))).trans (hb2.mono (by omega))).setCell (by simp) _).setCell (by simp) _

set_option maxHeartbeats 400000 in
theorem refUn_w6b (w : Int) (v : Nat) (hm : mayB w v = true) (hw : (w == 1) = false) (W : World) (hv : v < 18446744073709551616) :
    Calls Try.prog 14 #[.int .i64 6, .agg #[.int .i64 w, .int .u64 v]] W fun e W' =>
      e = .returned (.tuple #[.agg #[.int .i64 0, .int .u64 0], .int .i64 1]) ∧ Below W.heap.size W W' := by
  have he : errE (mayB w v) = 0 := by rw [hm]; rfl
  go_enter Try.func14, Try.ntmps14
  go_wp2_with fail
  refine (refCheck_any w v _ hv).mono ?_
  rintro e W1 ⟨rfl, hb⟩
  obtain ⟨ha0, ha1, _, _, hal⟩ := ((Box.new W (.int .i64 w) (.int .u64 v) 24).alloc (.cells #[.int .i64 0, .int .u64 0] 24)).later hb
  obtain ⟨hr0, hr1, hf0, hf1, hrl⟩ := (Box.new (W.alloc (.cells #[.int .i64 w, .int .u64 v] 24)) (.int .i64 0) (.int .u64 0) 24).later hb
  simp only [World.size_alloc] at hr0 hr1 hf0 hf1 hrl
  go_wp2_with fail
  refine (refMask_any w _).mono ?_
  rintro e W1 ⟨rfl, rfl⟩
  go_wp2
  refine bodyPost_ret (v := .tuple #[.agg #[.int .i64 0, .int .u64 0], .int .i64 1]) ?_ rfl ⟨rfl, ?_⟩
  · simp [results, Try.results14, go_sem, hr0, hr1, hf0, hf1]
  · exact (((((Below.refl _ _).alloc (Nat.le_refl _) _).alloc (by simp) _).trans (hb.mono (by simp; omega))).setCell (by simp) _).setCell (by simp) _

set_option maxHeartbeats 400000 in
theorem refUn_w0 (op : Int) (w : Int) (v : Nat) (hm : mayB w v = true) (h1 : (op == 1) = false) (h2 : (op == 2) = false) (h3 : (op == 3) = false) (h4 : (op == 4) = false) (h5 : (op == 5) = false) (h6 : (op == 6) = false) (W : World) (hv : v < 18446744073709551616) :
    Calls Try.prog 14 #[.int .i64 op, .agg #[.int .i64 w, .int .u64 v]] W fun e W' =>
      e = .returned (.tuple #[.agg #[.int .i64 0, .int .u64 0], .int .i64 1]) ∧ Below W.heap.size W W' := by
  have he : errE (mayB w v) = 0 := by rw [hm]; rfl
  go_enter Try.func14, Try.ntmps14
  go_wp2_with fail
  refine (refCheck_any w v _ hv).mono ?_
  rintro e W1 ⟨rfl, hb⟩
  obtain ⟨ha0, ha1, _, _, hal⟩ := ((Box.new W (.int .i64 w) (.int .u64 v) 24).alloc (.cells #[.int .i64 0, .int .u64 0] 24)).later hb
  obtain ⟨hr0, hr1, hf0, hf1, hrl⟩ := (Box.new (W.alloc (.cells #[.int .i64 w, .int .u64 v] 24)) (.int .i64 0) (.int .u64 0) 24).later hb
  simp only [World.size_alloc] at hr0 hr1 hf0 hf1 hrl
  go_wp2_with fail
  refine (refMask_any w _).mono ?_
  rintro e W1 ⟨rfl, rfl⟩
  go_wp2
  refine bodyPost_ret (v := .tuple #[.agg #[.int .i64 0, .int .u64 0], .int .i64 1]) ?_ rfl ⟨rfl, ?_⟩
  · simp [results, Try.results14, go_sem, hr0, hr1, hf0, hf1]
  · exact (((((Below.refl _ _).alloc (Nat.le_refl _) _).alloc (by simp) _).trans (hb.mono (by simp; omega))).setCell (by simp) _).setCell (by simp) _

theorem res_eq' {a b : Int} {x y : Int} {p q : Int} (h1 : a = b) (h2 : x = y) (h3 : p = q) :
    Ending.returned (.tuple #[.agg #[.int .i64 a, .int .u64 x], .int .i64 p]) = .returned (.tuple #[.agg #[.int .i64 b, .int .u64 y], .int .i64 q]) := by rw [h1, h2, h3]

theorem refUn_any (op w : Int) (v : Nat) (W : World) (hv : v < 18446744073709551616) :
    Calls Try.prog 14 #[.int .i64 op, .agg #[.int .i64 w, .int .u64 v]] W fun e W' =>
      e = .returned (.tuple #[.agg #[.int .i64 (unW op w v), .int .u64 (unV op w v)], .int .i64 (errE (unOk op w v))]) ∧ Below W.heap.size W W' := by
  cases hm : mayB w v
  · have e : unOk op w v = false := by simp [unOk, hm]
    exact (refUn_wno op w v hm W hv).mono fun e' W' h => ⟨h.1.trans (res_eq' (by simp [unW, e]) (by simp [unV, e]) (by rw [e]; rfl)), h.2⟩
  by_cases h1 : op = 1
  · subst h1
    exact (refUn_w1 w v hm W hv).mono fun e' W' h => ⟨h.1.trans (res_eq' (by simp [unW, unOk, hm]) (by simp [unV, unOk, hm]) (by simp [unOk, hm, errE])), h.2⟩
  by_cases h2 : op = 2
  · subst h2
    exact (refUn_w2 w v hm W hv).mono fun e' W' h => ⟨h.1.trans (res_eq' (by simp [unW, unOk, hm]) (by simp [unV, unOk, hm]) (by simp [unOk, hm, errE])), h.2⟩
  by_cases h3 : op = 3
  · subst h3
    exact (refUn_w3 w v hm W hv).mono fun e' W' h => ⟨h.1.trans (res_eq' (by simp [unW, unOk, hm]) (by rw [eq_c]; simp [unV, unOk, hm]) (by simp [unOk, hm, errE])), h.2⟩
  by_cases h4 : op = 4
  · subst h4
    exact (refUn_w4 w v hm W hv).mono fun e' W' h => ⟨h.1.trans (res_eq' (by simp [unW, unOk, hm]) (by rw [ne_0]; simp [unV, unOk, hm]) (by simp [unOk, hm, errE])), h.2⟩
  by_cases h5 : op = 5
  · subst h5
    exact (refUn_w5 w v hm W hv).mono fun e' W' h => ⟨h.1.trans (res_eq' (by simp [unW, unOk, hm]) (by simp [unV, unOk, hm]) (by simp [unOk, hm, errE])), h.2⟩
  by_cases h6 : op = 6
  · subst h6
    by_cases hw : w = 1
    · subst hw
      exact (refUn_w6a 1 v hm rfl W hv).mono fun e' W' h => ⟨h.1.trans (res_eq' (by simp [unW, unOk, hm]) (by rw [eq_0]; simp [unV, unOk, hm]) (by simp [unOk, hm, errE])), h.2⟩
    · exact (refUn_w6b w v hm (by simp [hw]) W hv).mono fun e' W' h => ⟨h.1.trans (res_eq' (by simp [unW, unOk, hm, hw]) (by simp [unV, unOk, hm, hw]) (by simp [unOk, hm, errE, hw])), h.2⟩
  · have hq := un_eq0 op w v (by omega)
    exact (refUn_w0 op w v hm (by simp [h1]) (by simp [h2]) (by simp [h3]) (by simp [h4]) (by simp [h5]) (by simp [h6]) W hv).mono fun e W' h => ⟨h.1.trans (res_eq' (by rw [hq.1]) (by rw [hq.2.1]; rfl) (by rw [hq.2.2]; rfl)), h.2⟩

end Go.Proofs.Ytafhnkhcbfilaaa
