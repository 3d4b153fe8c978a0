/- The laws of the ring, and of sets: the walks. -/
import Derived.Test.YtafhnkhcbfilaaaD1
import Derived.Test.YtafhnkhcbfilaaaP7
namespace Go.Proofs.Ytafhnkhcbfilaaa
open Go.RowKit Go.Flow Go.Sort
set_option linter.unusedVariables false
set_option linter.unusedSimpArgs false
set_option maxRecDepth 100000

set_option maxHeartbeats 8000000 in
theorem law_ring (w x y z : Nat) (W : World) (hw : w < 256) (hx : x < 18446744073709551616) (hy : y < 18446744073709551616) (hz : z < 18446744073709551616) :
    Calls Try.prog 6 #[.int .u8 w, .int .u64 x, .int .u64 y, .int .u64 z] W fun e W' => e = .returned (.bool true) ∧ Below W.heap.size W W' := by
  have m1 := fun W => masked_any w x W hw hx
  have m2 := fun W => masked_any w y W hw hy
  have m3 := fun W => masked_any w z W hw hz
  have m4 := fun W => masked_any w 1 W hw (by omega)
  have h0 := mw_pos w
  have h := mw_le w
  have l1 : 1 % 2 ^ mw w = 1 := Nat.mod_eq_of_lt (Nat.one_lt_two_pow (by omega))
  have lx := Nat.mod_lt x (Nat.two_pow_pos (mw w))
  have ly := Nat.mod_lt y (Nat.two_pow_pos (mw w))
  have lz := Nat.mod_lt z (Nat.two_pow_pos (mw w))
  rw [l1] at m4
  generalize x % 2 ^ mw w = x' at *
  generalize y % 2 ^ mw w = y' at *
  generalize z % 2 ^ mw w = z' at *
  generalize mw w = k at *
  have hr := ring_calls k x' y' z' h0 h lx ly lz
  have e1 : ((1 : Nat) : Int) = 1 := rfl
  simp only [BinC, UnC, e1] at hr m4
  clear e1 l1
  obtain ⟨s, t, u, p, q, r, d, e, f, g, ⟨k1, k2, k3, k4⟩, ⟨k5, k6, k7, k8⟩, ⟨m, n, o, k9, k10, k11, k12⟩, ⟨k13, k14, k15, k16⟩, ⟨k17, k18, k19, k20⟩⟩ := hr
  have kl : ∀ W, Calls Try.prog 15 #[] W fun e W' => e = .returned (.bool true) ∧ Below W.heap.size W W' := live_any
  have k1h := Lib.hid k1
  have k2h := Lib.hid k2
  have k3h := Lib.hid k3
  have k4h := Lib.hid k4
  have k5h := Lib.hid k5
  have k6h := Lib.hid k6
  have k7h := Lib.hid k7
  have k8h := Lib.hid k8
  have k9h := Lib.hid k9
  have k10h := Lib.hid k10
  have k11h := Lib.hid k11
  have k12h := Lib.hid k12
  have k13h := Lib.hid k13
  have k14h := Lib.hid k14
  have k15h := Lib.hid k15
  have k16h := Lib.hid k16
  have k17h := Lib.hid k17
  have k18h := Lib.hid k18
  have k19h := Lib.hid k19
  have k20h := Lib.hid k20
  have m1h := Lib.hid m1
  have m2h := Lib.hid m2
  have m3h := Lib.hid m3
  have m4h := Lib.hid m4
  have klh := Lib.hid kl
  clear k1 k2 k3 k4 k5 k6 k7 k8 k9 k10 k11 k12 k13 k14 k15 k16 k17 k18 k19 k20 m1 m2 m3 m4 kl
  go_enter Try.func6, Try.ntmps6
  go_wp2_with fail
  refine Calls.mono (m1h _) ?_
  rintro e W1 ⟨rfl, h1⟩
  have A := Box.new W1 (.int .i64 k) (.int .u64 x') 24
  have hW := h1.alloc h1.size (.cells #[.int .i64 k, .int .u64 x'] 24)
  clear h1
  go_wp2_with fail
  refine Calls.mono (m2h _) ?_
  rintro e W2 ⟨rfl, h1⟩
  replace A := (A.later h1).alloc (.cells #[.int .i64 k, .int .u64 y'] 24)
  have B := Box.new W2 (.int .i64 k) (.int .u64 y') 24
  replace hW := (hW.trans (h1.mono hW.size)).alloc (hW.trans (h1.mono hW.size)).size (.cells #[.int .i64 k, .int .u64 y'] 24)
  clear h1
  go_wp2_with fail
  refine Calls.mono (m3h _) ?_
  rintro e W3 ⟨rfl, h1⟩
  replace A := (A.later h1).alloc (.cells #[.int .i64 k, .int .u64 z'] 24)
  replace B := (B.later h1).alloc (.cells #[.int .i64 k, .int .u64 z'] 24)
  have C := Box.new W3 (.int .i64 k) (.int .u64 z') 24
  replace hW := (hW.trans (h1.mono hW.size)).alloc (hW.trans (h1.mono hW.size)).size (.cells #[.int .i64 k, .int .u64 z'] 24)
  clear h1
  go_wp2_with fail
  refine Calls.mono (m4h _) ?_
  rintro e W4 ⟨rfl, h1⟩
  replace A := (A.later h1).alloc (.cells #[.int .i64 k, .int .u64 1] 24)
  replace B := (B.later h1).alloc (.cells #[.int .i64 k, .int .u64 1] 24)
  replace C := (C.later h1).alloc (.cells #[.int .i64 k, .int .u64 1] 24)
  have D := Box.new W4 (.int .i64 k) (.int .u64 1) 24
  replace hW := (hW.trans (h1.mono hW.size)).alloc (hW.trans (h1.mono hW.size)).size (.cells #[.int .i64 k, .int .u64 1] 24)
  clear h1
  go_wp2_with fail
  generalize W4.alloc (.cells #[.int .i64 k, .int .u64 1] 24) = Z0 at *
  have A0 := cell_regrown A.c0
  have A1 := cell_regrown A.c1
  have B0 := cell_regrown B.c0
  have B1 := cell_regrown B.c1
  have C0 := cell_regrown C.c0
  have C1 := cell_regrown C.c1
  have D0 := cell_regrown D.c0
  have D1 := cell_regrown D.c1
  have qk1h := fun d os => Calls.regrown_of (k1h (grow (redrawn Z0 d) os))
  have qk2h := fun d os => Calls.regrown_of (k2h (grow (redrawn Z0 d) os))
  have qk3h := fun d os => Calls.regrown_of (k3h (grow (redrawn Z0 d) os))
  have qk4h := fun d os => Calls.regrown_of (k4h (grow (redrawn Z0 d) os))
  refine wp_region_quiet_fast (by kernel_rfl) (by kernel_rfl) (by kernel_rfl) ?_
  repeat (go_big_quiet_step (first | with_reducible exact qk1h _ _ | with_reducible exact qk2h _ _ | with_reducible exact qk3h _ _ | with_reducible exact qk4h _ _))
  refine wpQuiet_nil ?_
  intro Z1 hw'
  obtain ⟨⟨dq, osq⟩, hw''⟩ := hw'
  have hz : Below Z0.heap.size Z0 Z1 := hw'' ▸ below_regrown Z0 dq osq
  clear A0 A1 B0 B1 C0 C1 D0 D1 qk1h qk2h qk3h qk4h
  replace A := A.later hz
  replace B := B.later hz
  replace C := C.later hz
  replace D := D.later hz
  clear hw'' dq osq
  replace hW := hW.trans (hz.mono hW.size)
  clear hz
  go_wp2_with fail
  have A0 := cell_regrown A.c0
  have A1 := cell_regrown A.c1
  have B0 := cell_regrown B.c0
  have B1 := cell_regrown B.c1
  have C0 := cell_regrown C.c0
  have C1 := cell_regrown C.c1
  have D0 := cell_regrown D.c0
  have D1 := cell_regrown D.c1
  have qk5h := fun d os => Calls.regrown_of (k5h (grow (redrawn Z1 d) os))
  have qk6h := fun d os => Calls.regrown_of (k6h (grow (redrawn Z1 d) os))
  have qk7h := fun d os => Calls.regrown_of (k7h (grow (redrawn Z1 d) os))
  have qk8h := fun d os => Calls.regrown_of (k8h (grow (redrawn Z1 d) os))
  refine wp_region_quiet_fast (by kernel_rfl) (by kernel_rfl) (by kernel_rfl) ?_
  repeat (go_big_quiet_step (first | with_reducible exact qk5h _ _ | with_reducible exact qk6h _ _ | with_reducible exact qk7h _ _ | with_reducible exact qk8h _ _))
  refine wpQuiet_nil ?_
  intro Z2 hw'
  obtain ⟨⟨dq, osq⟩, hw''⟩ := hw'
  have hz : Below Z1.heap.size Z1 Z2 := hw'' ▸ below_regrown Z1 dq osq
  clear A0 A1 B0 B1 C0 C1 D0 D1 qk5h qk6h qk7h qk8h
  replace A := A.later hz
  replace B := B.later hz
  replace C := C.later hz
  replace D := D.later hz
  clear hw'' dq osq
  replace hW := hW.trans (hz.mono hW.size)
  clear hz
  go_wp2_with fail
  have A0 := cell_regrown A.c0
  have A1 := cell_regrown A.c1
  have B0 := cell_regrown B.c0
  have B1 := cell_regrown B.c1
  have C0 := cell_regrown C.c0
  have C1 := cell_regrown C.c1
  have D0 := cell_regrown D.c0
  have D1 := cell_regrown D.c1
  have qk9h := fun d os => Calls.regrown_of (k9h (grow (redrawn Z2 d) os))
  have qk10h := fun d os => Calls.regrown_of (k10h (grow (redrawn Z2 d) os))
  have qk5h := fun d os => Calls.regrown_of (k5h (grow (redrawn Z2 d) os))
  have qk11h := fun d os => Calls.regrown_of (k11h (grow (redrawn Z2 d) os))
  have qk12h := fun d os => Calls.regrown_of (k12h (grow (redrawn Z2 d) os))
  refine wp_region_quiet_fast (by kernel_rfl) (by kernel_rfl) (by kernel_rfl) ?_
  repeat (go_big_quiet_step (first | with_reducible exact qk9h _ _ | with_reducible exact qk10h _ _ | with_reducible exact qk5h _ _ | with_reducible exact qk11h _ _ | with_reducible exact qk12h _ _))
  refine wpQuiet_nil ?_
  intro Z3 hw'
  obtain ⟨⟨dq, osq⟩, hw''⟩ := hw'
  have hz : Below Z2.heap.size Z2 Z3 := hw'' ▸ below_regrown Z2 dq osq
  clear A0 A1 B0 B1 C0 C1 D0 D1 qk9h qk10h qk5h qk11h qk12h
  replace A := A.later hz
  replace B := B.later hz
  replace C := C.later hz
  replace D := D.later hz
  clear hw'' dq osq
  replace hW := hW.trans (hz.mono hW.size)
  clear hz
  go_wp2_with fail
  have A0 := cell_regrown A.c0
  have A1 := cell_regrown A.c1
  have B0 := cell_regrown B.c0
  have B1 := cell_regrown B.c1
  have C0 := cell_regrown C.c0
  have C1 := cell_regrown C.c1
  have D0 := cell_regrown D.c0
  have D1 := cell_regrown D.c1
  have qk13h := fun d os => Calls.regrown_of (k13h (grow (redrawn Z3 d) os))
  have qk14h := fun d os => Calls.regrown_of (k14h (grow (redrawn Z3 d) os))
  have qk15h := fun d os => Calls.regrown_of (k15h (grow (redrawn Z3 d) os))
  have qk16h := fun d os => Calls.regrown_of (k16h (grow (redrawn Z3 d) os))
  refine wp_region_quiet_fast (by kernel_rfl) (by kernel_rfl) (by kernel_rfl) ?_
  repeat (go_big_quiet_step (first | with_reducible exact qk13h _ _ | with_reducible exact qk14h _ _ | with_reducible exact qk15h _ _ | with_reducible exact qk16h _ _))
  refine wpQuiet_nil ?_
  intro Z4 hw'
  obtain ⟨⟨dq, osq⟩, hw''⟩ := hw'
  have hz : Below Z3.heap.size Z3 Z4 := hw'' ▸ below_regrown Z3 dq osq
  clear A0 A1 B0 B1 C0 C1 D0 D1 qk13h qk14h qk15h qk16h
  replace A := A.later hz
  replace B := B.later hz
  replace C := C.later hz
  replace D := D.later hz
  clear hw'' dq osq
  replace hW := hW.trans (hz.mono hW.size)
  clear hz
  go_wp2_with fail
  have A0 := cell_regrown A.c0
  have A1 := cell_regrown A.c1
  have B0 := cell_regrown B.c0
  have B1 := cell_regrown B.c1
  have C0 := cell_regrown C.c0
  have C1 := cell_regrown C.c1
  have D0 := cell_regrown D.c0
  have D1 := cell_regrown D.c1
  have qk17h := fun d os => Calls.regrown_of (k17h (grow (redrawn Z4 d) os))
  have qk18h := fun d os => Calls.regrown_of (k18h (grow (redrawn Z4 d) os))
  have qk19h := fun d os => Calls.regrown_of (k19h (grow (redrawn Z4 d) os))
  have qk20h := fun d os => Calls.regrown_of (k20h (grow (redrawn Z4 d) os))
  have qklh := fun d os => Calls.regrown_of (klh (grow (redrawn Z4 d) os))
  refine wp_region_quiet_fast (by kernel_rfl) (by kernel_rfl) (by kernel_rfl) ?_
  repeat (go_big_quiet_step (first | with_reducible exact qk17h _ _ | with_reducible exact qk18h _ _ | with_reducible exact qk19h _ _ | with_reducible exact qk20h _ _ | with_reducible exact qklh _ _))
  refine wpQuiet_nil ?_
  intro Z5 hw'
  obtain ⟨⟨dq, osq⟩, hw''⟩ := hw'
  have hz : Below Z4.heap.size Z4 Z5 := hw'' ▸ below_regrown Z4 dq osq
  clear hw'' dq osq
  replace hW := hW.trans (hz.mono hW.size)
  clear hz
  go_wp2
  go_ret
  exact ⟨rfl, hW⟩

set_option maxHeartbeats 8000000 in
theorem law_sets (w x y : Nat) (W : World) (hw : w < 256) (hx : x < 18446744073709551616) (hy : y < 18446744073709551616) :
    Calls Try.prog 7 #[.int .u8 w, .int .u64 x, .int .u64 y] W fun e W' => e = .returned (.bool true) ∧ Below W.heap.size W W' := by
  have m1 := fun W => masked_any w x W hw hx
  have m2 := fun W => masked_any w y W hw hy
  have h0 := mw_pos w
  have h := mw_le w
  have lx := Nat.mod_lt x (Nat.two_pow_pos (mw w))
  have ly := Nat.mod_lt y (Nat.two_pow_pos (mw w))
  generalize x % 2 ^ mw w = x' at *
  generalize y % 2 ^ mw w = y' at *
  generalize mw w = k at *
  have hr := sets_calls k x' y' h0 h lx ly
  have e1 : ((1 : Nat) : Int) = 1 := rfl
  simp only [BinC, UnC, e1] at hr
  clear e1
  obtain ⟨a, o, nx, ny, m, s, ⟨k1, k2, k3, k4, k5⟩, ⟨e, p, q, k6, k7, k8, k9, ⟨c, d, f, k10, k11, k12, k13⟩, k14⟩, ⟨g, l, k15, k16, k17⟩, ⟨k18, k19, k20⟩⟩ := hr
  have kl : ∀ W, Calls Try.prog 15 #[] W fun e W' => e = .returned (.bool true) ∧ Below W.heap.size W W' := live_any
  have k1h := Lib.hid k1
  have k2h := Lib.hid k2
  have k3h := Lib.hid k3
  have k4h := Lib.hid k4
  have k5h := Lib.hid k5
  have k6h := Lib.hid k6
  have k7h := Lib.hid k7
  have k8h := Lib.hid k8
  have k9h := Lib.hid k9
  have k10h := Lib.hid k10
  have k11h := Lib.hid k11
  have k12h := Lib.hid k12
  have k13h := Lib.hid k13
  have k14h := Lib.hid k14
  have k15h := Lib.hid k15
  have k16h := Lib.hid k16
  have k17h := Lib.hid k17
  have k18h := Lib.hid k18
  have k19h := Lib.hid k19
  have k20h := Lib.hid k20
  have m1h := Lib.hid m1
  have m2h := Lib.hid m2
  have klh := Lib.hid kl
  clear k1 k2 k3 k4 k5 k6 k7 k8 k9 k10 k11 k12 k13 k14 k15 k16 k17 k18 k19 k20 m1 m2 kl
  go_enter Try.func7, Try.ntmps7
  go_wp2_with fail
  refine Calls.mono (m1h _) ?_
  rintro e W1 ⟨rfl, h1⟩
  have A := Box.new W1 (.int .i64 k) (.int .u64 x') 24
  have hW := h1.alloc h1.size (.cells #[.int .i64 k, .int .u64 x'] 24)
  clear h1
  go_wp2_with fail
  refine Calls.mono (m2h _) ?_
  rintro e W2 ⟨rfl, h1⟩
  replace A := (A.later h1).alloc (.cells #[.int .i64 k, .int .u64 y'] 24)
  have B := Box.new W2 (.int .i64 k) (.int .u64 y') 24
  replace hW := (hW.trans (h1.mono hW.size)).alloc (hW.trans (h1.mono hW.size)).size (.cells #[.int .i64 k, .int .u64 y'] 24)
  clear h1
  go_wp2_with fail
  generalize W2.alloc (.cells #[.int .i64 k, .int .u64 y'] 24) = Z0 at *
  have A0 := cell_regrown A.c0
  have A1 := cell_regrown A.c1
  have B0 := cell_regrown B.c0
  have B1 := cell_regrown B.c1
  have qk1h := fun d os => Calls.regrown_of (k1h (grow (redrawn Z0 d) os))
  have qk2h := fun d os => Calls.regrown_of (k2h (grow (redrawn Z0 d) os))
  have qk3h := fun d os => Calls.regrown_of (k3h (grow (redrawn Z0 d) os))
  have qk4h := fun d os => Calls.regrown_of (k4h (grow (redrawn Z0 d) os))
  have qk5h := fun d os => Calls.regrown_of (k5h (grow (redrawn Z0 d) os))
  refine wp_region_quiet_fast (by kernel_rfl) (by kernel_rfl) (by kernel_rfl) ?_
  repeat (go_big_quiet_step (first | with_reducible exact qk1h _ _ | with_reducible exact qk2h _ _ | with_reducible exact qk3h _ _ | with_reducible exact qk4h _ _ | with_reducible exact qk5h _ _))
  refine wpQuiet_nil ?_
  intro Z1 hw'
  obtain ⟨⟨dq, osq⟩, hw''⟩ := hw'
  have hz : Below Z0.heap.size Z0 Z1 := hw'' ▸ below_regrown Z0 dq osq
  clear A0 A1 B0 B1 qk1h qk2h qk3h qk4h qk5h
  replace A := A.later hz
  replace B := B.later hz
  clear hw'' dq osq
  replace hW := hW.trans (hz.mono hW.size)
  clear hz
  go_wp2_with fail
  have A0 := cell_regrown A.c0
  have A1 := cell_regrown A.c1
  have B0 := cell_regrown B.c0
  have B1 := cell_regrown B.c1
  have qk6h := fun d os => Calls.regrown_of (k6h (grow (redrawn Z1 d) os))
  have qk7h := fun d os => Calls.regrown_of (k7h (grow (redrawn Z1 d) os))
  have qk3h := fun d os => Calls.regrown_of (k3h (grow (redrawn Z1 d) os))
  have qk4h := fun d os => Calls.regrown_of (k4h (grow (redrawn Z1 d) os))
  have qk8h := fun d os => Calls.regrown_of (k8h (grow (redrawn Z1 d) os))
  have qk9h := fun d os => Calls.regrown_of (k9h (grow (redrawn Z1 d) os))
  refine wp_region_quiet_fast (by kernel_rfl) (by kernel_rfl) (by kernel_rfl) ?_
  repeat (go_big_quiet_step (first | with_reducible exact qk6h _ _ | with_reducible exact qk7h _ _ | with_reducible exact qk3h _ _ | with_reducible exact qk4h _ _ | with_reducible exact qk8h _ _ | with_reducible exact qk9h _ _))
  refine wpQuiet_nil ?_
  intro Z2 hw'
  obtain ⟨⟨dq, osq⟩, hw''⟩ := hw'
  have hz : Below Z1.heap.size Z1 Z2 := hw'' ▸ below_regrown Z1 dq osq
  clear A0 A1 B0 B1 qk6h qk7h qk3h qk4h qk8h qk9h
  replace A := A.later hz
  replace B := B.later hz
  clear hw'' dq osq
  replace hW := hW.trans (hz.mono hW.size)
  clear hz
  go_wp2_with fail
  have A0 := cell_regrown A.c0
  have A1 := cell_regrown A.c1
  have B0 := cell_regrown B.c0
  have B1 := cell_regrown B.c1
  have qk10h := fun d os => Calls.regrown_of (k10h (grow (redrawn Z2 d) os))
  have qk11h := fun d os => Calls.regrown_of (k11h (grow (redrawn Z2 d) os))
  have qk12h := fun d os => Calls.regrown_of (k12h (grow (redrawn Z2 d) os))
  have qk13h := fun d os => Calls.regrown_of (k13h (grow (redrawn Z2 d) os))
  have qk6h := fun d os => Calls.regrown_of (k6h (grow (redrawn Z2 d) os))
  refine wp_region_quiet_fast (by kernel_rfl) (by kernel_rfl) (by kernel_rfl) ?_
  repeat (go_big_quiet_step (first | with_reducible exact qk10h _ _ | with_reducible exact qk11h _ _ | with_reducible exact qk12h _ _ | with_reducible exact qk13h _ _ | with_reducible exact qk6h _ _))
  refine wpQuiet_nil ?_
  intro Z3 hw'
  obtain ⟨⟨dq, osq⟩, hw''⟩ := hw'
  have hz : Below Z2.heap.size Z2 Z3 := hw'' ▸ below_regrown Z2 dq osq
  clear A0 A1 B0 B1 qk10h qk11h qk12h qk13h qk6h
  replace A := A.later hz
  replace B := B.later hz
  clear hw'' dq osq
  replace hW := hW.trans (hz.mono hW.size)
  clear hz
  go_wp2_with fail
  have A0 := cell_regrown A.c0
  have A1 := cell_regrown A.c1
  have B0 := cell_regrown B.c0
  have B1 := cell_regrown B.c1
  have qk15h := fun d os => Calls.regrown_of (k15h (grow (redrawn Z3 d) os))
  have qk16h := fun d os => Calls.regrown_of (k16h (grow (redrawn Z3 d) os))
  have qk17h := fun d os => Calls.regrown_of (k17h (grow (redrawn Z3 d) os))
  have qk3h := fun d os => Calls.regrown_of (k3h (grow (redrawn Z3 d) os))
  refine wp_region_quiet_fast (by kernel_rfl) (by kernel_rfl) (by kernel_rfl) ?_
  repeat (go_big_quiet_step (first | with_reducible exact qk15h _ _ | with_reducible exact qk16h _ _ | with_reducible exact qk17h _ _ | with_reducible exact qk3h _ _))
  refine wpQuiet_nil ?_
  intro Z4 hw'
  obtain ⟨⟨dq, osq⟩, hw''⟩ := hw'
  have hz : Below Z3.heap.size Z3 Z4 := hw'' ▸ below_regrown Z3 dq osq
  clear A0 A1 B0 B1 qk15h qk16h qk17h qk3h
  replace A := A.later hz
  replace B := B.later hz
  clear hw'' dq osq
  replace hW := hW.trans (hz.mono hW.size)
  clear hz
  go_wp2_with fail
  have A0 := cell_regrown A.c0
  have A1 := cell_regrown A.c1
  have B0 := cell_regrown B.c0
  have B1 := cell_regrown B.c1
  have qk6h := fun d os => Calls.regrown_of (k6h (grow (redrawn Z4 d) os))
  have qk14h := fun d os => Calls.regrown_of (k14h (grow (redrawn Z4 d) os))
  have qk1h := fun d os => Calls.regrown_of (k1h (grow (redrawn Z4 d) os))
  have qk18h := fun d os => Calls.regrown_of (k18h (grow (redrawn Z4 d) os))
  have qk19h := fun d os => Calls.regrown_of (k19h (grow (redrawn Z4 d) os))
  have qk20h := fun d os => Calls.regrown_of (k20h (grow (redrawn Z4 d) os))
  have qklh := fun d os => Calls.regrown_of (klh (grow (redrawn Z4 d) os))
  refine wp_region_quiet_fast (by kernel_rfl) (by kernel_rfl) (by kernel_rfl) ?_
  repeat (go_big_quiet_step (first | with_reducible exact qk6h _ _ | with_reducible exact qk14h _ _ | with_reducible exact qk1h _ _ | with_reducible exact qk18h _ _ | with_reducible exact qk19h _ _ | with_reducible exact qk20h _ _ | with_reducible exact qklh _ _))
  refine wpQuiet_nil ?_
  intro Z5 hw'
  obtain ⟨⟨dq, osq⟩, hw''⟩ := hw'
  have hz : Below Z4.heap.size Z4 Z5 := hw'' ▸ below_regrown Z4 dq osq
  clear hw'' dq osq
  replace hW := hW.trans (hz.mono hW.size)
  clear hz
  go_wp2
  go_ret
  exact ⟨rfl, hW⟩

end Go.Proofs.Ytafhnkhcbfilaaa
