/- The laws that hold bitv against its reference: operations of one, and of two. -/
import Derived.Test.YtafhnkhcbfilaaaC2
import Derived.Test.YtafhnkhcbfilaaaB9
namespace Go.Proofs.Ytafhnkhcbfilaaa
open Go.RowKit Go.Flow Go.Sort
set_option linter.unusedVariables false
set_option linter.unusedSimpArgs false
set_option maxRecDepth 100000

theorem Box.two (W : World) (a b c d : Value) : Box ((W.alloc (.cells #[a, b] 24)).alloc (.cells #[c, d] 24)) W.heap.size a b ∧ Box ((W.alloc (.cells #[a, b] 24)).alloc (.cells #[c, d] 24)) (W.heap.size + 1) c d :=
  ⟨(Box.new W a b 24).alloc _, by simpa using Box.new (W.alloc (.cells #[a, b] 24)) c d 24⟩

theorem same_bin (op wa wb : Int) (va vb : Nat) (ha : va < 18446744073709551616) (hb : vb < 18446744073709551616) :
    ∃ (w : Int) (v : Nat) (e : Int), (∀ W, Calls Try.prog 20 #[.int .i64 op, .agg #[.int .i64 wa, .int .u64 va], .agg #[.int .i64 wb, .int .u64 vb]] W fun x W' => x = Tup w v e ∧ Below W.heap.size W W') ∧
      (∀ W, Calls Try.prog 21 #[.int .i64 op, .agg #[.int .i64 wa, .int .u64 va], .agg #[.int .i64 wb, .int .u64 vb]] W fun x W' => x = Tup w v e ∧ Below W.heap.size W W') :=
  ⟨_, _, _, fun W => bin_any op wa wb va vb W ha hb, fun W => refBin_any op wa wb va vb W ha hb⟩

theorem same_un (op wa : Int) (va : Nat) (ha : va < 18446744073709551616) :
    ∃ (w : Int) (v : Nat) (e : Int), (∀ W, Calls Try.prog 13 #[.int .i64 op, .agg #[.int .i64 wa, .int .u64 va]] W fun x W' => x = Tup w v e ∧ Below W.heap.size W W') ∧
      (∀ W, Calls Try.prog 14 #[.int .i64 op, .agg #[.int .i64 wa, .int .u64 va]] W fun x W' => x = Tup w v e ∧ Below W.heap.size W W') :=
  ⟨_, _, _, fun W => un_any op wa va W ha, fun W => refUn_any op wa va W ha⟩

theorem same_check (wa : Int) (va : Nat) (ha : va < 18446744073709551616) :
    ∃ e : Int, (∀ W, Calls Try.prog 16 #[.agg #[.int .i64 wa, .int .u64 va]] W fun x W' => x = .returned (.int .i64 e) ∧ Below W.heap.size W W') ∧
      (∀ W, Calls Try.prog 17 #[.agg #[.int .i64 wa, .int .u64 va]] W fun x W' => x = .returned (.int .i64 e) ∧ Below W.heap.size W W') :=
  ⟨_, fun W => check_any wa va W ha, fun W => refCheck_any wa va W ha⟩

theorem same_mask (n : Int) :
    ∃ v : Nat, (∀ W, Calls Try.prog 18 #[.int .i64 n] W fun x W' => x = .returned (.int .u64 v) ∧ Below W.heap.size W W') ∧
      (∀ W, Calls Try.prog 19 #[.int .i64 n] W fun x W' => x = .returned (.int .u64 v) ∧ Below W.heap.size W W') :=
  ⟨_, fun W => (mask_any n W).mono fun e W' h => ⟨h.1, by rw [← h.2]; exact Below.refl _ _⟩, fun W => (refMask_any n W).mono fun e W' h => ⟨h.1, by rw [← h.2]; exact Below.refl _ _⟩⟩

set_option maxHeartbeats 4000000 in
theorem law_pairs (wa wb op : Int) (va vb : Nat) (W : World) (ha : va < 18446744073709551616) (hb : vb < 18446744073709551616) :
    Calls Try.prog 4 #[.agg #[.int .i64 wa, .int .u64 va], .agg #[.int .i64 wb, .int .u64 vb], .int .i64 op] W fun e W' => e = .returned (.bool true) ∧ Below W.heap.size W W' := by
  obtain ⟨zw, zv, ze, k1', k2'⟩ := same_bin op wa wb va vb ha hb
  have k1 := Lib.hid k1'
  have k2 := Lib.hid k2'
  clear k1' k2'
  obtain ⟨A, B⟩ := Box.two W (.int .i64 wa) (.int .u64 va) (.int .i64 wb) (.int .u64 vb)
  have hW : Below W.heap.size W ((W.alloc (.cells #[.int .i64 wa, .int .u64 va] 24)).alloc (.cells #[.int .i64 wb, .int .u64 vb] 24)) := ((Below.refl _ _).alloc (Nat.le_refl _) _).alloc (by simp) _
  go_enter Try.func4, Try.ntmps4
  go_wp2_with fail
  generalize (W.alloc (.cells #[.int .i64 wa, .int .u64 va] 24)).alloc (.cells #[.int .i64 wb, .int .u64 vb] 24) = Z0 at *
  obtain ⟨a0, a1, _, _, _⟩ := id A
  obtain ⟨b0, b1, _, _, _⟩ := id B
  go_wp2_with fail
  refine Calls.mono (k1 _) ?_
  rintro e W1 ⟨rfl, h1⟩
  replace A := A.later h1
  replace B := B.later h1
  replace hW := hW.trans (h1.mono hW.size)
  clear h1
  clear a0 a1 b0 b1
  obtain ⟨a0, a1, _, _, _⟩ := A.alloc (.cells #[.int .i64 zw, .int .u64 zv] 24)
  obtain ⟨b0, b1, _, _, _⟩ := B.alloc (.cells #[.int .i64 zw, .int .u64 zv] 24)
  have X := Box.new W1 (.int .i64 zw) (.int .u64 zv) 24
  go_wp2_with fail
  refine Calls.mono (k2 _) ?_
  rintro e W2 ⟨rfl, h2⟩
  replace X := (X.later h2).alloc (.cells #[.int .i64 zw, .int .u64 zv] 24)
  have Y := Box.new W2 (.int .i64 zw) (.int .u64 zv) 24
  replace hW := hW.trans (((Below.refl _ _).alloc (Nat.le_refl _) _).trans (h2.mono (by simp)) |>.mono hW.size)
  replace hW := hW.alloc hW.size (.cells #[.int .i64 zw, .int .u64 zv] 24)
  clear h2
  go_wp2_with fail
  refine Calls.mono (live_any _) ?_
  rintro e W3 ⟨rfl, h3⟩
  replace X := X.later h3
  replace Y := Y.later h3
  replace hW := hW.trans (h3.mono hW.size)
  clear h3
  obtain ⟨x0, x1, _, _, _⟩ := X
  obtain ⟨y0, y1, _, _, _⟩ := Y
  go_wp2
  go_ret
  exact ⟨rfl, hW⟩

set_option maxHeartbeats 4000000 in
theorem law_tells (wa op n : Int) (va : Nat) (W : World) (ha : va < 18446744073709551616) :
    Calls Try.prog 3 #[.agg #[.int .i64 wa, .int .u64 va], .int .i64 op, .int .i64 n] W fun e W' => e = .returned (.bool true) ∧ Below W.heap.size W W' := by
  obtain ⟨zw, zv, ze, k1', k2'⟩ := same_un op wa va ha
  obtain ⟨ce, k3', k4'⟩ := same_check wa va ha
  obtain ⟨mv, k5', k6'⟩ := same_mask n
  have k1 := Lib.hid k1'
  have k2 := Lib.hid k2'
  have k3 := Lib.hid k3'
  have k4 := Lib.hid k4'
  have k5 := Lib.hid k5'
  have k6 := Lib.hid k6'
  clear k1' k2' k3' k4' k5' k6'
  have A := Box.new W (.int .i64 wa) (.int .u64 va) 24
  have hW : Below W.heap.size W (W.alloc (.cells #[.int .i64 wa, .int .u64 va] 24)) := (Below.refl _ _).alloc (Nat.le_refl _) _
  go_enter Try.func3, Try.ntmps3
  go_wp2_with fail
  generalize W.alloc (.cells #[.int .i64 wa, .int .u64 va] 24) = Z0 at *
  obtain ⟨a0, a1, _, _, _⟩ := id A
  go_wp2_with fail
  refine Calls.mono (k1 _) ?_
  rintro e W1 ⟨rfl, h1⟩
  replace A := A.later h1
  replace hW := hW.trans (h1.mono hW.size)
  clear h1 a0 a1
  replace A := A.alloc (.cells #[.int .i64 zw, .int .u64 zv] 24)
  obtain ⟨a0, a1, _, _, _⟩ := id A
  have X := Box.new W1 (.int .i64 zw) (.int .u64 zv) 24
  go_wp2_with fail
  refine Calls.mono (k2 _) ?_
  rintro e W2 ⟨rfl, h2⟩
  clear a0 a1
  replace A := (A.later h2).alloc (.cells #[.int .i64 zw, .int .u64 zv] 24)
  replace X := (X.later h2).alloc (.cells #[.int .i64 zw, .int .u64 zv] 24)
  have Y := Box.new W2 (.int .i64 zw) (.int .u64 zv) 24
  replace hW := hW.trans (((Below.refl _ _).alloc (Nat.le_refl _) _).trans (h2.mono (by simp)) |>.mono hW.size)
  replace hW := hW.alloc hW.size (.cells #[.int .i64 zw, .int .u64 zv] 24)
  clear h2
  go_wp2_with fail
  generalize W2.alloc (.cells #[.int .i64 zw, .int .u64 zv] 24) = Z at *
  have a0 := cell_regrown A.c0
  have a1 := cell_regrown A.c1
  have x0 := cell_regrown X.c0
  have x1 := cell_regrown X.c1
  have y0 := cell_regrown Y.c0
  have y1 := cell_regrown Y.c1
  have kl := fun d os => Calls.regrown_of (live_any (grow (redrawn Z d) os))
  have q3 := fun d os => Calls.regrown_of (k3 (grow (redrawn Z d) os))
  have q4 := fun d os => Calls.regrown_of (k4 (grow (redrawn Z d) os))
  have q5 := fun d os => Calls.regrown_of (k5 (grow (redrawn Z d) os))
  have q6 := fun d os => Calls.regrown_of (k6 (grow (redrawn Z d) os))
  clear k1 k2 k3 k4 k5 k6 A X Y
  refine wp_region_quiet_fast (by kernel_rfl) (by kernel_rfl) (by kernel_rfl) ?_
  repeat (go_big_quiet_step (first | exact kl _ _ | exact q3 _ _ | exact q4 _ _ | exact q5 _ _ | exact q6 _ _))
  refine wpQuiet_nil ?_
  intro _ hw'
  obtain ⟨⟨dq, osq⟩, hw''⟩ := hw'
  subst hw''
  go_wp2
  go_ret
  exact ⟨rfl, hW.trans ((below_regrown Z dq osq).mono hW.size)⟩

end Go.Proofs.Ytafhnkhcbfilaaa
