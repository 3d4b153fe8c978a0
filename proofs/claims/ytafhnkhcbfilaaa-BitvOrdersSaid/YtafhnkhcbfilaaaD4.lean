/- The laws of order: the walk. -/
import Derived.Test.YtafhnkhcbfilaaaD2
import Derived.Test.YtafhnkhcbfilaaaP8
namespace Go.Proofs.Ytafhnkhcbfilaaa
open Go.RowKit Go.Flow Go.Sort
set_option linter.unusedVariables false
set_option linter.unusedSimpArgs false
set_option maxRecDepth 100000

set_option maxHeartbeats 8000000 in
theorem law_orders (w x y : Nat) (W : World) (hw : w < 256) (hx : x < 18446744073709551616) (hy : y < 18446744073709551616) :
    Calls Try.prog 8 #[.int .u8 w, .int .u64 x, .int .u64 y] W fun e W' => e = .returned (.bool true) ∧ Below W.heap.size W W' := by
  have m1 := fun W => masked_any w x W hw hx
  have m2 := fun W => masked_any w y W hw hy
  have h0 := mw_pos w
  have h := mw_le w
  have lx := Nat.mod_lt x (Nat.two_pow_pos (mw w))
  have ly := Nat.mod_lt y (Nat.two_pow_pos (mw w))
  generalize x % 2 ^ mw w = x' at *
  generalize y % 2 ^ mw w = y' at *
  generalize mw w = k at *
  have hr := orders_calls k x' y' h0 h lx ly
  have e1 : ((1 : Nat) : Int) = 1 := rfl
  have e0 : ((0 : Nat) : Int) = 0 := rfl
  obtain ⟨l, s, m, p, q, n1, n2, n3, c, d, hcase, hr⟩ := hr
  simp only [BinC, UnC] at hr
  rcases hcase with ⟨rfl, rfl, rfl, rfl, rfl, rfl, hxy⟩ | ⟨rfl, rfl, rfl, rfl, rfl, rfl, hxy⟩ | ⟨rfl, rfl, rfl, rfl, rfl, rfl, hxy⟩
  · simp only [e0, e1] at hr
    clear e0 e1
    obtain ⟨k1, k2, k3, k4, k5, k6, k7, k8, k9, k10, k11, k12, k13, k14, k15⟩ := hr
    have hne : ((x' : Int) == (y' : Int)) = false := by rw [beq_eq_false_iff_ne]; omega
    have kl : ∀ W, Calls Try.prog 15 #[] W fun e W' => e = .returned (.bool true) ∧ Below W.heap.size W W' := live_any
    have k1h := Lib.hid k1
    have k2h := Lib.hid k2
    have k3h := Lib.hid k3
    have k4h := Lib.hid k4
    have k5h := Lib.hid k5
    have k6h := Lib.hid k6
    have k7h := Lib.hid k7
    have k8h := Lib.hid k8
    have k9h := Lib.hid k9
    have k10h := Lib.hid k10
    have k11h := Lib.hid k11
    have k12h := Lib.hid k12
    have k13h := Lib.hid k13
    have k14h := Lib.hid k14
    have k15h := Lib.hid k15
    have m1h := Lib.hid m1
    have m2h := Lib.hid m2
    have klh := Lib.hid kl
    clear k1 k2 k3 k4 k5 k6 k7 k8 k9 k10 k11 k12 k13 k14 k15 m1 m2 kl
    go_enter Try.func8, Try.ntmps8
    go_wp2_with fail
    refine Calls.mono (m1h _) ?_
    rintro e W1 ⟨rfl, h1⟩
    have hW := h1
    clear h1
    replace hW := hW.alloc hW.size (.cells #[.int .i64 k, .int .u64 x'] 24)
    have A := Box.new W1 (.int .i64 k) (.int .u64 x') 24
    obtain ⟨A0, A1, _, _, _⟩ := id A
    go_wp2_with fail
    refine Calls.mono (m2h _) ?_
    rintro e W2 ⟨rfl, h1⟩
    clear A0 A1
    replace A := (A.later h1).alloc (.cells #[.int .i64 k, .int .u64 y'] 24)
    replace hW := hW.trans (h1.mono hW.size)
    clear h1
    replace hW := hW.alloc hW.size (.cells #[.int .i64 k, .int .u64 y'] 24)
    have B := Box.new W2 (.int .i64 k) (.int .u64 y') 24
    obtain ⟨A0, A1, _, _, _⟩ := id A
    obtain ⟨B0, B1, _, _, _⟩ := id B
    go_wp2_with fail
    refine Calls.mono (k1h _) ?_
    rintro e W3 ⟨rfl, h1⟩
    clear A0 A1 B0 B1
    replace A := (A.later h1).alloc (.cells #[.int .i64 1, .int .u64 1] 24)
    replace B := (B.later h1).alloc (.cells #[.int .i64 1, .int .u64 1] 24)
    replace hW := hW.trans (h1.mono hW.size)
    clear h1
    replace hW := hW.alloc hW.size (.cells #[.int .i64 1, .int .u64 1] 24)
    have L := Box.new W3 (.int .i64 1) (.int .u64 1) 24
    obtain ⟨A0, A1, _, _, _⟩ := id A
    obtain ⟨B0, B1, _, _, _⟩ := id B
    go_wp2_with fail
    refine Calls.mono (k2h _) ?_
    rintro e W4 ⟨rfl, h1⟩
    clear A0 A1 B0 B1
    replace A := (A.later h1).alloc (.cells #[.int .i64 1, .int .u64 0] 24)
    replace B := (B.later h1).alloc (.cells #[.int .i64 1, .int .u64 0] 24)
    replace L := (L.later h1).alloc (.cells #[.int .i64 1, .int .u64 0] 24)
    replace hW := hW.trans (h1.mono hW.size)
    clear h1
    replace hW := hW.alloc hW.size (.cells #[.int .i64 1, .int .u64 0] 24)
    have S := Box.new W4 (.int .i64 1) (.int .u64 0) 24
    obtain ⟨A0, A1, _, _, _⟩ := id A
    obtain ⟨B0, B1, _, _, _⟩ := id B
    go_wp2_with fail
    refine Calls.mono (k3h _) ?_
    rintro e W5 ⟨rfl, h1⟩
    clear A0 A1 B0 B1
    replace A := (A.later h1).alloc (.cells #[.int .i64 1, .int .u64 0] 24)
    replace B := (B.later h1).alloc (.cells #[.int .i64 1, .int .u64 0] 24)
    replace L := (L.later h1).alloc (.cells #[.int .i64 1, .int .u64 0] 24)
    replace S := (S.later h1).alloc (.cells #[.int .i64 1, .int .u64 0] 24)
    replace hW := hW.trans (h1.mono hW.size)
    clear h1
    replace hW := hW.alloc hW.size (.cells #[.int .i64 1, .int .u64 0] 24)
    have M := Box.new W5 (.int .i64 1) (.int .u64 0) 24
    obtain ⟨A0, A1, _, _, _⟩ := id A
    obtain ⟨B0, B1, _, _, _⟩ := id B
    obtain ⟨L0, L1, _, _, _⟩ := id L
    obtain ⟨S0, S1, _, _, _⟩ := id S
    obtain ⟨M0, M1, _, _, _⟩ := id M
    go_wp2_with fail
    refine Calls.mono (k4h _) ?_
    rintro e W6 ⟨rfl, h1⟩
    clear A0 A1 B0 B1 L0 L1 S0 S1 M0 M1
    replace A := (A.later h1).alloc (.cells #[.int .i64 1, .int .u64 p] 24)
    replace B := (B.later h1).alloc (.cells #[.int .i64 1, .int .u64 p] 24)
    replace L := (L.later h1).alloc (.cells #[.int .i64 1, .int .u64 p] 24)
    replace S := (S.later h1).alloc (.cells #[.int .i64 1, .int .u64 p] 24)
    replace M := (M.later h1).alloc (.cells #[.int .i64 1, .int .u64 p] 24)
    replace hW := hW.trans (h1.mono hW.size)
    clear h1
    replace hW := hW.alloc hW.size (.cells #[.int .i64 1, .int .u64 p] 24)
    have PP := Box.new W6 (.int .i64 1) (.int .u64 p) 24
    obtain ⟨B0, B1, _, _, _⟩ := id B
    go_wp2_with fail
    refine Calls.mono (k5h _) ?_
    rintro e W7 ⟨rfl, h1⟩
    clear B0 B1
    replace A := (A.later h1).alloc (.cells #[.int .i64 1, .int .u64 q] 24)
    replace B := (B.later h1).alloc (.cells #[.int .i64 1, .int .u64 q] 24)
    replace L := (L.later h1).alloc (.cells #[.int .i64 1, .int .u64 q] 24)
    replace S := (S.later h1).alloc (.cells #[.int .i64 1, .int .u64 q] 24)
    replace M := (M.later h1).alloc (.cells #[.int .i64 1, .int .u64 q] 24)
    replace PP := (PP.later h1).alloc (.cells #[.int .i64 1, .int .u64 q] 24)
    replace hW := hW.trans (h1.mono hW.size)
    clear h1
    replace hW := hW.alloc hW.size (.cells #[.int .i64 1, .int .u64 q] 24)
    have Q := Box.new W7 (.int .i64 1) (.int .u64 q) 24
    obtain ⟨A0, A1, _, _, _⟩ := id A
    obtain ⟨B0, B1, _, _, _⟩ := id B
    obtain ⟨L0, L1, _, _, _⟩ := id L
    obtain ⟨S0, S1, _, _, _⟩ := id S
    obtain ⟨M0, M1, _, _, _⟩ := id M
    obtain ⟨PP0, PP1, _, _, _⟩ := id PP
    obtain ⟨Q0, Q1, _, _, _⟩ := id Q
    go_wp2_with fail
    clear A0 A1 B0 B1 L0 L1 S0 S1 M0 M1 PP0 PP1 Q0 Q1
    generalize W7.alloc (.cells #[.int .i64 1, .int .u64 q] 24) = Z0 at *
    have A0 := cell_regrown A.c0
    have A1 := cell_regrown A.c1
    have B0 := cell_regrown B.c0
    have B1 := cell_regrown B.c1
    have L0 := cell_regrown L.c0
    have L1 := cell_regrown L.c1
    have S0 := cell_regrown S.c0
    have S1 := cell_regrown S.c1
    have M0 := cell_regrown M.c0
    have M1 := cell_regrown M.c1
    have PP0 := cell_regrown PP.c0
    have PP1 := cell_regrown PP.c1
    have Q0 := cell_regrown Q.c0
    have Q1 := cell_regrown Q.c1
    have qk6h := fun d os => Calls.regrown_of (k6h (grow (redrawn Z0 d) os))
    have qk7h := fun d os => Calls.regrown_of (k7h (grow (redrawn Z0 d) os))
    have qk8h := fun d os => Calls.regrown_of (k8h (grow (redrawn Z0 d) os))
    have qk9h := fun d os => Calls.regrown_of (k9h (grow (redrawn Z0 d) os))
    have qk10h := fun d os => Calls.regrown_of (k10h (grow (redrawn Z0 d) os))
    have qk11h := fun d os => Calls.regrown_of (k11h (grow (redrawn Z0 d) os))
    have qk12h := fun d os => Calls.regrown_of (k12h (grow (redrawn Z0 d) os))
    have qk13h := fun d os => Calls.regrown_of (k13h (grow (redrawn Z0 d) os))
    have qk14h := fun d os => Calls.regrown_of (k14h (grow (redrawn Z0 d) os))
    have qk15h := fun d os => Calls.regrown_of (k15h (grow (redrawn Z0 d) os))
    have qklh := fun d os => Calls.regrown_of (klh (grow (redrawn Z0 d) os))
    refine wp_region_quiet_fast (by kernel_rfl) (by kernel_rfl) (by kernel_rfl) ?_
    repeat (go_big_quiet_step (first | with_reducible exact qk6h _ _ | with_reducible exact qk7h _ _ | with_reducible exact qk8h _ _ | with_reducible exact qk9h _ _ | with_reducible exact qk10h _ _ | with_reducible exact qk11h _ _ | with_reducible exact qk12h _ _ | with_reducible exact qk13h _ _ | with_reducible exact qk14h _ _ | with_reducible exact qk15h _ _ | with_reducible exact qklh _ _))
    refine wpQuiet_nil ?_
    intro Z1 hw'
    obtain ⟨⟨dq, osq⟩, hw''⟩ := hw'
    have hz : Below Z0.heap.size Z0 Z1 := hw'' ▸ below_regrown Z0 dq osq
    clear hw'' dq osq
    replace hW := hW.trans (hz.mono hW.size)
    clear hz
    go_wp2
    go_ret
    exact ⟨rfl, hW⟩
  · simp only [e0, e1] at hr
    clear e0 e1
    obtain ⟨k1, k2, k3, k4, k5, k6, k7, k8, k9, k10, k11, k12, k13, k14, k15⟩ := hr
    subst hxy
    have kl : ∀ W, Calls Try.prog 15 #[] W fun e W' => e = .returned (.bool true) ∧ Below W.heap.size W W' := live_any
    have k1h := Lib.hid k1
    have k2h := Lib.hid k2
    have k3h := Lib.hid k3
    have k4h := Lib.hid k4
    have k5h := Lib.hid k5
    have k6h := Lib.hid k6
    have k7h := Lib.hid k7
    have k8h := Lib.hid k8
    have k9h := Lib.hid k9
    have k10h := Lib.hid k10
    have k11h := Lib.hid k11
    have k12h := Lib.hid k12
    have k13h := Lib.hid k13
    have k14h := Lib.hid k14
    have k15h := Lib.hid k15
    have m1h := Lib.hid m1
    have m2h := Lib.hid m2
    have klh := Lib.hid kl
    clear k1 k2 k3 k4 k5 k6 k7 k8 k9 k10 k11 k12 k13 k14 k15 m1 m2 kl
    go_enter Try.func8, Try.ntmps8
    go_wp2_with fail
    refine Calls.mono (m1h _) ?_
    rintro e W1 ⟨rfl, h1⟩
    have hW := h1
    clear h1
    replace hW := hW.alloc hW.size (.cells #[.int .i64 k, .int .u64 x'] 24)
    have A := Box.new W1 (.int .i64 k) (.int .u64 x') 24
    obtain ⟨A0, A1, _, _, _⟩ := id A
    go_wp2_with fail
    refine Calls.mono (m2h _) ?_
    rintro e W2 ⟨rfl, h1⟩
    clear A0 A1
    replace A := (A.later h1).alloc (.cells #[.int .i64 k, .int .u64 x'] 24)
    replace hW := hW.trans (h1.mono hW.size)
    clear h1
    replace hW := hW.alloc hW.size (.cells #[.int .i64 k, .int .u64 x'] 24)
    have B := Box.new W2 (.int .i64 k) (.int .u64 x') 24
    obtain ⟨A0, A1, _, _, _⟩ := id A
    obtain ⟨B0, B1, _, _, _⟩ := id B
    go_wp2_with fail
    refine Calls.mono (k1h _) ?_
    rintro e W3 ⟨rfl, h1⟩
    clear A0 A1 B0 B1
    replace A := (A.later h1).alloc (.cells #[.int .i64 1, .int .u64 0] 24)
    replace B := (B.later h1).alloc (.cells #[.int .i64 1, .int .u64 0] 24)
    replace hW := hW.trans (h1.mono hW.size)
    clear h1
    replace hW := hW.alloc hW.size (.cells #[.int .i64 1, .int .u64 0] 24)
    have L := Box.new W3 (.int .i64 1) (.int .u64 0) 24
    obtain ⟨A0, A1, _, _, _⟩ := id A
    obtain ⟨B0, B1, _, _, _⟩ := id B
    go_wp2_with fail
    refine Calls.mono (k2h _) ?_
    rintro e W4 ⟨rfl, h1⟩
    clear A0 A1 B0 B1
    replace A := (A.later h1).alloc (.cells #[.int .i64 1, .int .u64 1] 24)
    replace B := (B.later h1).alloc (.cells #[.int .i64 1, .int .u64 1] 24)
    replace L := (L.later h1).alloc (.cells #[.int .i64 1, .int .u64 1] 24)
    replace hW := hW.trans (h1.mono hW.size)
    clear h1
    replace hW := hW.alloc hW.size (.cells #[.int .i64 1, .int .u64 1] 24)
    have S := Box.new W4 (.int .i64 1) (.int .u64 1) 24
    obtain ⟨A0, A1, _, _, _⟩ := id A
    obtain ⟨B0, B1, _, _, _⟩ := id B
    go_wp2_with fail
    refine Calls.mono (k3h _) ?_
    rintro e W5 ⟨rfl, h1⟩
    clear A0 A1 B0 B1
    replace A := (A.later h1).alloc (.cells #[.int .i64 1, .int .u64 0] 24)
    replace B := (B.later h1).alloc (.cells #[.int .i64 1, .int .u64 0] 24)
    replace L := (L.later h1).alloc (.cells #[.int .i64 1, .int .u64 0] 24)
    replace S := (S.later h1).alloc (.cells #[.int .i64 1, .int .u64 0] 24)
    replace hW := hW.trans (h1.mono hW.size)
    clear h1
    replace hW := hW.alloc hW.size (.cells #[.int .i64 1, .int .u64 0] 24)
    have M := Box.new W5 (.int .i64 1) (.int .u64 0) 24
    obtain ⟨A0, A1, _, _, _⟩ := id A
    obtain ⟨B0, B1, _, _, _⟩ := id B
    obtain ⟨L0, L1, _, _, _⟩ := id L
    obtain ⟨S0, S1, _, _, _⟩ := id S
    obtain ⟨M0, M1, _, _, _⟩ := id M
    go_wp2_with fail
    refine Calls.mono (k4h _) ?_
    rintro e W6 ⟨rfl, h1⟩
    clear A0 A1 B0 B1 L0 L1 S0 S1 M0 M1
    replace A := (A.later h1).alloc (.cells #[.int .i64 1, .int .u64 p] 24)
    replace B := (B.later h1).alloc (.cells #[.int .i64 1, .int .u64 p] 24)
    replace L := (L.later h1).alloc (.cells #[.int .i64 1, .int .u64 p] 24)
    replace S := (S.later h1).alloc (.cells #[.int .i64 1, .int .u64 p] 24)
    replace M := (M.later h1).alloc (.cells #[.int .i64 1, .int .u64 p] 24)
    replace hW := hW.trans (h1.mono hW.size)
    clear h1
    replace hW := hW.alloc hW.size (.cells #[.int .i64 1, .int .u64 p] 24)
    have PP := Box.new W6 (.int .i64 1) (.int .u64 p) 24
    obtain ⟨B0, B1, _, _, _⟩ := id B
    go_wp2_with fail
    refine Calls.mono (k5h _) ?_
    rintro e W7 ⟨rfl, h1⟩
    clear B0 B1
    replace A := (A.later h1).alloc (.cells #[.int .i64 1, .int .u64 q] 24)
    replace B := (B.later h1).alloc (.cells #[.int .i64 1, .int .u64 q] 24)
    replace L := (L.later h1).alloc (.cells #[.int .i64 1, .int .u64 q] 24)
    replace S := (S.later h1).alloc (.cells #[.int .i64 1, .int .u64 q] 24)
    replace M := (M.later h1).alloc (.cells #[.int .i64 1, .int .u64 q] 24)
    replace PP := (PP.later h1).alloc (.cells #[.int .i64 1, .int .u64 q] 24)
    replace hW := hW.trans (h1.mono hW.size)
    clear h1
    replace hW := hW.alloc hW.size (.cells #[.int .i64 1, .int .u64 q] 24)
    have Q := Box.new W7 (.int .i64 1) (.int .u64 q) 24
    obtain ⟨A0, A1, _, _, _⟩ := id A
    obtain ⟨B0, B1, _, _, _⟩ := id B
    obtain ⟨L0, L1, _, _, _⟩ := id L
    obtain ⟨S0, S1, _, _, _⟩ := id S
    obtain ⟨M0, M1, _, _, _⟩ := id M
    obtain ⟨PP0, PP1, _, _, _⟩ := id PP
    obtain ⟨Q0, Q1, _, _, _⟩ := id Q
    go_wp2_with fail
    clear A0 A1 B0 B1 L0 L1 S0 S1 M0 M1 PP0 PP1 Q0 Q1
    generalize W7.alloc (.cells #[.int .i64 1, .int .u64 q] 24) = Z0 at *
    have A0 := cell_regrown A.c0
    have A1 := cell_regrown A.c1
    have B0 := cell_regrown B.c0
    have B1 := cell_regrown B.c1
    have L0 := cell_regrown L.c0
    have L1 := cell_regrown L.c1
    have S0 := cell_regrown S.c0
    have S1 := cell_regrown S.c1
    have M0 := cell_regrown M.c0
    have M1 := cell_regrown M.c1
    have PP0 := cell_regrown PP.c0
    have PP1 := cell_regrown PP.c1
    have Q0 := cell_regrown Q.c0
    have Q1 := cell_regrown Q.c1
    have qk6h := fun d os => Calls.regrown_of (k6h (grow (redrawn Z0 d) os))
    have qk7h := fun d os => Calls.regrown_of (k7h (grow (redrawn Z0 d) os))
    have qk8h := fun d os => Calls.regrown_of (k8h (grow (redrawn Z0 d) os))
    have qk9h := fun d os => Calls.regrown_of (k9h (grow (redrawn Z0 d) os))
    have qk10h := fun d os => Calls.regrown_of (k10h (grow (redrawn Z0 d) os))
    have qk11h := fun d os => Calls.regrown_of (k11h (grow (redrawn Z0 d) os))
    have qk12h := fun d os => Calls.regrown_of (k12h (grow (redrawn Z0 d) os))
    have qk13h := fun d os => Calls.regrown_of (k13h (grow (redrawn Z0 d) os))
    have qk14h := fun d os => Calls.regrown_of (k14h (grow (redrawn Z0 d) os))
    have qk15h := fun d os => Calls.regrown_of (k15h (grow (redrawn Z0 d) os))
    have qklh := fun d os => Calls.regrown_of (klh (grow (redrawn Z0 d) os))
    refine wp_region_quiet_fast (by kernel_rfl) (by kernel_rfl) (by kernel_rfl) ?_
    repeat (go_big_quiet_step (first | with_reducible exact qk6h _ _ | with_reducible exact qk7h _ _ | with_reducible exact qk8h _ _ | with_reducible exact qk9h _ _ | with_reducible exact qk10h _ _ | with_reducible exact qk11h _ _ | with_reducible exact qk12h _ _ | with_reducible exact qk13h _ _ | with_reducible exact qk14h _ _ | with_reducible exact qk15h _ _ | with_reducible exact qklh _ _))
    refine wpQuiet_nil ?_
    intro Z1 hw'
    obtain ⟨⟨dq, osq⟩, hw''⟩ := hw'
    have hz : Below Z0.heap.size Z0 Z1 := hw'' ▸ below_regrown Z0 dq osq
    clear hw'' dq osq
    replace hW := hW.trans (hz.mono hW.size)
    clear hz
    go_wp2
    go_ret
    exact ⟨rfl, hW⟩
  · simp only [e0, e1] at hr
    clear e0 e1
    obtain ⟨k1, k2, k3, k4, k5, k6, k7, k8, k9, k10, k11, k12, k13, k14, k15⟩ := hr
    have hne : ((x' : Int) == (y' : Int)) = false := by rw [beq_eq_false_iff_ne]; omega
    have kl : ∀ W, Calls Try.prog 15 #[] W fun e W' => e = .returned (.bool true) ∧ Below W.heap.size W W' := live_any
    have k1h := Lib.hid k1
    have k2h := Lib.hid k2
    have k3h := Lib.hid k3
    have k4h := Lib.hid k4
    have k5h := Lib.hid k5
    have k6h := Lib.hid k6
    have k7h := Lib.hid k7
    have k8h := Lib.hid k8
    have k9h := Lib.hid k9
    have k10h := Lib.hid k10
    have k11h := Lib.hid k11
    have k12h := Lib.hid k12
    have k13h := Lib.hid k13
    have k14h := Lib.hid k14
    have k15h := Lib.hid k15
    have m1h := Lib.hid m1
    have m2h := Lib.hid m2
    have klh := Lib.hid kl
    clear k1 k2 k3 k4 k5 k6 k7 k8 k9 k10 k11 k12 k13 k14 k15 m1 m2 kl
    go_enter Try.func8, Try.ntmps8
    go_wp2_with fail
    refine Calls.mono (m1h _) ?_
    rintro e W1 ⟨rfl, h1⟩
    have hW := h1
    clear h1
    replace hW := hW.alloc hW.size (.cells #[.int .i64 k, .int .u64 x'] 24)
    have A := Box.new W1 (.int .i64 k) (.int .u64 x') 24
    obtain ⟨A0, A1, _, _, _⟩ := id A
    go_wp2_with fail
    refine Calls.mono (m2h _) ?_
    rintro e W2 ⟨rfl, h1⟩
    clear A0 A1
    replace A := (A.later h1).alloc (.cells #[.int .i64 k, .int .u64 y'] 24)
    replace hW := hW.trans (h1.mono hW.size)
    clear h1
    replace hW := hW.alloc hW.size (.cells #[.int .i64 k, .int .u64 y'] 24)
    have B := Box.new W2 (.int .i64 k) (.int .u64 y') 24
    obtain ⟨A0, A1, _, _, _⟩ := id A
    obtain ⟨B0, B1, _, _, _⟩ := id B
    go_wp2_with fail
    refine Calls.mono (k1h _) ?_
    rintro e W3 ⟨rfl, h1⟩
    clear A0 A1 B0 B1
    replace A := (A.later h1).alloc (.cells #[.int .i64 1, .int .u64 0] 24)
    replace B := (B.later h1).alloc (.cells #[.int .i64 1, .int .u64 0] 24)
    replace hW := hW.trans (h1.mono hW.size)
    clear h1
    replace hW := hW.alloc hW.size (.cells #[.int .i64 1, .int .u64 0] 24)
    have L := Box.new W3 (.int .i64 1) (.int .u64 0) 24
    obtain ⟨A0, A1, _, _, _⟩ := id A
    obtain ⟨B0, B1, _, _, _⟩ := id B
    go_wp2_with fail
    refine Calls.mono (k2h _) ?_
    rintro e W4 ⟨rfl, h1⟩
    clear A0 A1 B0 B1
    replace A := (A.later h1).alloc (.cells #[.int .i64 1, .int .u64 0] 24)
    replace B := (B.later h1).alloc (.cells #[.int .i64 1, .int .u64 0] 24)
    replace L := (L.later h1).alloc (.cells #[.int .i64 1, .int .u64 0] 24)
    replace hW := hW.trans (h1.mono hW.size)
    clear h1
    replace hW := hW.alloc hW.size (.cells #[.int .i64 1, .int .u64 0] 24)
    have S := Box.new W4 (.int .i64 1) (.int .u64 0) 24
    obtain ⟨A0, A1, _, _, _⟩ := id A
    obtain ⟨B0, B1, _, _, _⟩ := id B
    go_wp2_with fail
    refine Calls.mono (k3h _) ?_
    rintro e W5 ⟨rfl, h1⟩
    clear A0 A1 B0 B1
    replace A := (A.later h1).alloc (.cells #[.int .i64 1, .int .u64 1] 24)
    replace B := (B.later h1).alloc (.cells #[.int .i64 1, .int .u64 1] 24)
    replace L := (L.later h1).alloc (.cells #[.int .i64 1, .int .u64 1] 24)
    replace S := (S.later h1).alloc (.cells #[.int .i64 1, .int .u64 1] 24)
    replace hW := hW.trans (h1.mono hW.size)
    clear h1
    replace hW := hW.alloc hW.size (.cells #[.int .i64 1, .int .u64 1] 24)
    have M := Box.new W5 (.int .i64 1) (.int .u64 1) 24
    obtain ⟨A0, A1, _, _, _⟩ := id A
    obtain ⟨B0, B1, _, _, _⟩ := id B
    obtain ⟨L0, L1, _, _, _⟩ := id L
    obtain ⟨S0, S1, _, _, _⟩ := id S
    obtain ⟨M0, M1, _, _, _⟩ := id M
    go_wp2_with fail
    refine Calls.mono (k4h _) ?_
    rintro e W6 ⟨rfl, h1⟩
    clear A0 A1 B0 B1 L0 L1 S0 S1 M0 M1
    replace A := (A.later h1).alloc (.cells #[.int .i64 1, .int .u64 p] 24)
    replace B := (B.later h1).alloc (.cells #[.int .i64 1, .int .u64 p] 24)
    replace L := (L.later h1).alloc (.cells #[.int .i64 1, .int .u64 p] 24)
    replace S := (S.later h1).alloc (.cells #[.int .i64 1, .int .u64 p] 24)
    replace M := (M.later h1).alloc (.cells #[.int .i64 1, .int .u64 p] 24)
    replace hW := hW.trans (h1.mono hW.size)
    clear h1
    replace hW := hW.alloc hW.size (.cells #[.int .i64 1, .int .u64 p] 24)
    have PP := Box.new W6 (.int .i64 1) (.int .u64 p) 24
    obtain ⟨B0, B1, _, _, _⟩ := id B
    go_wp2_with fail
    refine Calls.mono (k5h _) ?_
    rintro e W7 ⟨rfl, h1⟩
    clear B0 B1
    replace A := (A.later h1).alloc (.cells #[.int .i64 1, .int .u64 q] 24)
    replace B := (B.later h1).alloc (.cells #[.int .i64 1, .int .u64 q] 24)
    replace L := (L.later h1).alloc (.cells #[.int .i64 1, .int .u64 q] 24)
    replace S := (S.later h1).alloc (.cells #[.int .i64 1, .int .u64 q] 24)
    replace M := (M.later h1).alloc (.cells #[.int .i64 1, .int .u64 q] 24)
    replace PP := (PP.later h1).alloc (.cells #[.int .i64 1, .int .u64 q] 24)
    replace hW := hW.trans (h1.mono hW.size)
    clear h1
    replace hW := hW.alloc hW.size (.cells #[.int .i64 1, .int .u64 q] 24)
    have Q := Box.new W7 (.int .i64 1) (.int .u64 q) 24
    obtain ⟨A0, A1, _, _, _⟩ := id A
    obtain ⟨B0, B1, _, _, _⟩ := id B
    obtain ⟨L0, L1, _, _, _⟩ := id L
    obtain ⟨S0, S1, _, _, _⟩ := id S
    obtain ⟨M0, M1, _, _, _⟩ := id M
    obtain ⟨PP0, PP1, _, _, _⟩ := id PP
    obtain ⟨Q0, Q1, _, _, _⟩ := id Q
    go_wp2_with fail
    clear A0 A1 B0 B1 L0 L1 S0 S1 M0 M1 PP0 PP1 Q0 Q1
    generalize W7.alloc (.cells #[.int .i64 1, .int .u64 q] 24) = Z0 at *
    have A0 := cell_regrown A.c0
    have A1 := cell_regrown A.c1
    have B0 := cell_regrown B.c0
    have B1 := cell_regrown B.c1
    have L0 := cell_regrown L.c0
    have L1 := cell_regrown L.c1
    have S0 := cell_regrown S.c0
    have S1 := cell_regrown S.c1
    have M0 := cell_regrown M.c0
    have M1 := cell_regrown M.c1
    have PP0 := cell_regrown PP.c0
    have PP1 := cell_regrown PP.c1
    have Q0 := cell_regrown Q.c0
    have Q1 := cell_regrown Q.c1
    have qk6h := fun d os => Calls.regrown_of (k6h (grow (redrawn Z0 d) os))
    have qk7h := fun d os => Calls.regrown_of (k7h (grow (redrawn Z0 d) os))
    have qk8h := fun d os => Calls.regrown_of (k8h (grow (redrawn Z0 d) os))
    have qk9h := fun d os => Calls.regrown_of (k9h (grow (redrawn Z0 d) os))
    have qk10h := fun d os => Calls.regrown_of (k10h (grow (redrawn Z0 d) os))
    have qk11h := fun d os => Calls.regrown_of (k11h (grow (redrawn Z0 d) os))
    have qk12h := fun d os => Calls.regrown_of (k12h (grow (redrawn Z0 d) os))
    have qk13h := fun d os => Calls.regrown_of (k13h (grow (redrawn Z0 d) os))
    have qk14h := fun d os => Calls.regrown_of (k14h (grow (redrawn Z0 d) os))
    have qk15h := fun d os => Calls.regrown_of (k15h (grow (redrawn Z0 d) os))
    have qklh := fun d os => Calls.regrown_of (klh (grow (redrawn Z0 d) os))
    refine wp_region_quiet_fast (by kernel_rfl) (by kernel_rfl) (by kernel_rfl) ?_
    repeat (go_big_quiet_step (first | with_reducible exact qk6h _ _ | with_reducible exact qk7h _ _ | with_reducible exact qk8h _ _ | with_reducible exact qk9h _ _ | with_reducible exact qk10h _ _ | with_reducible exact qk11h _ _ | with_reducible exact qk12h _ _ | with_reducible exact qk13h _ _ | with_reducible exact qk14h _ _ | with_reducible exact qk15h _ _ | with_reducible exact qklh _ _))
    refine wpQuiet_nil ?_
    intro Z1 hw'
    obtain ⟨⟨dq, osq⟩, hw''⟩ := hw'
    have hz : Below Z0.heap.size Z0 Z1 := hw'' ▸ below_regrown Z0 dq osq
    clear hw'' dq osq
    replace hW := hW.trans (hz.mono hW.size)
    clear hz
    go_wp2
    go_ret
    exact ⟨rfl, hW⟩

end Go.Proofs.Ytafhnkhcbfilaaa
