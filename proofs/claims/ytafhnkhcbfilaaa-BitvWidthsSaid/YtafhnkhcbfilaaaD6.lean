/- What is made wider is cut to what it was: the walk. -/
import Derived.Test.YtafhnkhcbfilaaaD2
import Derived.Test.YtafhnkhcbfilaaaP10
import Derived.Test.YtafhnkhcbfilaaaR6
import Derived.Test.YtafhnkhcbfilaaaD5
namespace Go.Proofs.Ytafhnkhcbfilaaa
open Go.RowKit Go.Flow Go.Sort
set_option linter.unusedVariables false
set_option linter.unusedSimpArgs false
set_option maxRecDepth 100000

theorem store2 (e : Operand → Value) (x d : Tmp) {W : World} {m : Nat} {a0 b0 : Value} {k v : Int} {pos : String} {af : Array Edge} {ty : TypeId} (hO : W.heap[m]? = some (.cells #[a0, b0] 24)) (h1 : e (.tmp d) = .pointer (some ⟨m, 0, none⟩)) (h2 : e (.tmp x) = .agg #[.int .i64 k, .int .u64 v]) :
    ∃ W', (execOp e { dst := none, op := .store 24 (.tmp d) (.tmp x), type := ty, pos := pos, after := af, guard := none }).run Try.prog W = .ok .skip W' ∧ W'.heap[m]? = some (.cells #[.int .i64 k, .int .u64 v] 24) ∧ ∀ B, B ≤ m → B ≤ W.heap.size → Below B W W' := by
  obtain ⟨t0, t1, tf0, tf1, tl⟩ := Box.of_block hO
  refine ⟨(W.setCell ⟨m, 0, none⟩ (.int .i64 k)).setCell ⟨m, 1, none⟩ (.int .u64 v), by go_simp, by simp [World.setCell, Array.getElem?_modify, hO], fun B h _ => ((Below.refl _ _).setCell h _).setCell h _⟩

set_option maxHeartbeats 8000000 in
theorem law_widths (w more x y : Nat) (W : World) (hw : w < 256) (hm : more < 256) (hx : x < 18446744073709551616) (hy : y < 18446744073709551616) :
    Calls Try.prog 11 #[.int .u8 w, .int .u8 more, .int .u64 x, .int .u64 y] W fun e W' => e = .returned (.bool true) ∧ Below W.heap.size W W' := by
  have m1 := fun W => masked_any w x W hw hx
  have m2 := fun W => masked_any w y W hw hy
  have h0 := mw_pos w
  have h := mw_le w
  have lx := Nat.mod_lt x (Nat.two_pow_pos (mw w))
  have ly := Nat.mod_lt y (Nat.two_pow_pos (mw w))
  generalize x % 2 ^ mw w = x' at *
  generalize y % 2 ^ mw w = y' at *
  generalize mw w = k at *
  have hl := Nat.mod_lt more (show 0 < 65 - k by omega)
  have en : (k : Int) + (more : Int) % (65 - (k : Int)) = ((k + more % (65 - k) : Nat) : Int) := by
    rw [show (65 : Int) - (k : Int) = ((65 - k : Nat) : Int) by omega]
    omega
  have hr := widths_calls k (k + more % (65 - k)) x' y' h0 (by omega) (by omega) lx ly
  have hn1 : k ≤ k + more % (65 - k) := by omega
  have hn2 : k + more % (65 - k) ≤ 64 := by omega
  generalize k + more % (65 - k) = n at *
  clear hl
  have e1 : ((1 : Nat) : Int) = 1 := rfl
  have ek : ((k - 1 : Nat) : Int) = (k : Int) - 1 := by omega
  have enn : ((n - 1 : Nat) : Int) = (n : Int) - 1 := by omega
  simp only [BinC, ExtC, SliceC, e1, ek, enn] at hr
  obtain ⟨q, r, a, b, s, t, g, k1, k2, k3, k4, k5, k6, k7, k8, k9, k10, k11, k12, k13⟩ := hr
  clear e1 ek enn
  have lk : (0 : Int) < (k : Int) := by omega
  have lk2 : (k : Int) ≤ 64 := by omega
  have ln : (0 : Int) < (n : Int) := by omega
  have ln2 : (n : Int) ≤ 64 := by omega
  have d1 : IntKind.i64.wrap (65 - (k : Int)) = 65 - (k : Int) := IntWalk.i64_in _ (by omega)
  have d2 : IntKind.i64.wrap (n : Int) = (n : Int) := IntWalk.i64_in _ (by omega)
  have d3 : ¬ (65 - (k : Int) = 0) := by omega
  have kl : ∀ W, Calls Try.prog 15 #[] W fun e W' => e = .returned (.bool true) ∧ Below W.heap.size W W' := live_any
  have k1h := Lib.hid k1
  have k2h := Lib.hid k2
  have k3h := Lib.hid k3
  have k4h := Lib.hid k4
  have k5h := Lib.hid k5
  have k6h := Lib.hid k6
  have k7h := Lib.hid k7
  have k8h := Lib.hid k8
  have k9h := Lib.hid k9
  have k10h := Lib.hid k10
  have k11h := Lib.hid k11
  have k12h := Lib.hid k12
  have k13h := Lib.hid k13
  have m1h := Lib.hid m1
  have m2h := Lib.hid m2
  have klh := Lib.hid kl
  clear k1 k2 k3 k4 k5 k6 k7 k8 k9 k10 k11 k12 k13 m1 m2 kl
  go_enter Try.func11, Try.ntmps11
  go_wp2_with fail
  refine Calls.mono (m1h _) ?_
  rintro e W1 ⟨rfl, h1⟩
  have hW := h1
  clear h1
  replace hW := hW.alloc hW.size (.cells #[.int .i64 k, .int .u64 x'] 24)
  have A := Box.new W1 (.int .i64 k) (.int .u64 x') 24
  obtain ⟨A0, A1, _, _, _⟩ := id A
  go_wp2_with fail
  refine Calls.mono (m2h _) ?_
  rintro e W2 ⟨rfl, h1⟩
  clear A0 A1
  replace A := (A.later h1).alloc (.cells #[.int .i64 k, .int .u64 y'] 24)
  replace hW := hW.trans (h1.mono hW.size)
  clear h1
  replace hW := hW.alloc hW.size (.cells #[.int .i64 k, .int .u64 y'] 24)
  have B := Box.new W2 (.int .i64 k) (.int .u64 y') 24
  obtain ⟨A0, A1, _, _, _⟩ := id A
  go_wp2_with fail
  clear A0 A1
  generalize W2.alloc (.cells #[.int .i64 k, .int .u64 y'] 24) = Z0 at *
  have A0 := cell_regrown A.c0
  have A1 := cell_regrown A.c1
  have B0 := cell_regrown B.c0
  have B1 := cell_regrown B.c1
  refine wp_region_quiet_fast (by kernel_rfl) (by kernel_rfl) (by kernel_rfl) ?_
  repeat (go_big_quiet_step (fail))
  refine wpQuiet_nil ?_
  intro Z1 hw'
  obtain ⟨⟨dq, osq⟩, hw''⟩ := hw'
  have hz : Below Z0.heap.size Z0 Z1 := hw'' ▸ below_regrown Z0 dq osq
  clear hw'' dq osq
  clear A0 A1 B0 B1 
  replace A := A.later hz
  replace B := B.later hz
  replace hW := hW.trans (hz.mono hW.size)
  clear hz
  obtain ⟨A0, A1, _, _, _⟩ := id A
  obtain ⟨B0, B1, _, _, _⟩ := id B
  go_wp2_with fail
  refine Calls.mono (k1h _) ?_
  rintro e W3 ⟨rfl, h1⟩
  clear A0 A1 B0 B1
  replace A := (A.later h1).alloc (.cells #[.int .i64 n, .int .u64 x'] 24)
  replace B := (B.later h1).alloc (.cells #[.int .i64 n, .int .u64 x'] 24)
  replace hW := hW.trans (h1.mono hW.size)
  clear h1
  replace hW := hW.alloc hW.size (.cells #[.int .i64 n, .int .u64 x'] 24)
  have P := Box.new W3 (.int .i64 n) (.int .u64 x') 24
  obtain ⟨A0, A1, _, _, _⟩ := id A
  obtain ⟨B0, B1, _, _, _⟩ := id B
  go_wp2_with fail
  refine Calls.mono (k2h _) ?_
  rintro e W4 ⟨rfl, h1⟩
  clear A0 A1 B0 B1
  replace A := (A.later h1).alloc (.cells #[.int .i64 n, .int .u64 q] 24)
  replace B := (B.later h1).alloc (.cells #[.int .i64 n, .int .u64 q] 24)
  replace P := (P.later h1).alloc (.cells #[.int .i64 n, .int .u64 q] 24)
  replace hW := hW.trans (h1.mono hW.size)
  clear h1
  replace hW := hW.alloc hW.size (.cells #[.int .i64 n, .int .u64 q] 24)
  have Q := Box.new W4 (.int .i64 n) (.int .u64 q) 24
  obtain ⟨A0, A1, _, _, _⟩ := id A
  obtain ⟨B0, B1, _, _, _⟩ := id B
  go_wp2_with fail
  refine Calls.mono (k3h _) ?_
  rintro e W5 ⟨rfl, h1⟩
  clear A0 A1 B0 B1
  replace A := (A.later h1).alloc (.cells #[.int .i64 n, .int .u64 r] 24)
  replace B := (B.later h1).alloc (.cells #[.int .i64 n, .int .u64 r] 24)
  replace P := (P.later h1).alloc (.cells #[.int .i64 n, .int .u64 r] 24)
  replace Q := (Q.later h1).alloc (.cells #[.int .i64 n, .int .u64 r] 24)
  replace hW := hW.trans (h1.mono hW.size)
  clear h1
  replace hW := hW.alloc hW.size (.cells #[.int .i64 n, .int .u64 r] 24)
  have R := Box.new W5 (.int .i64 n) (.int .u64 r) 24
  obtain ⟨A0, A1, _, _, _⟩ := id A
  obtain ⟨B0, B1, _, _, _⟩ := id B
  obtain ⟨P0, P1, _, _, _⟩ := id P
  go_wp2_with fail
  refine Calls.mono (k4h _) ?_
  rintro e W6 ⟨rfl, h1⟩
  clear A0 A1 B0 B1 P0 P1
  replace A := (A.later h1).alloc (.cells #[.int .i64 k, .int .u64 x'] 24)
  replace B := (B.later h1).alloc (.cells #[.int .i64 k, .int .u64 x'] 24)
  replace P := (P.later h1).alloc (.cells #[.int .i64 k, .int .u64 x'] 24)
  replace Q := (Q.later h1).alloc (.cells #[.int .i64 k, .int .u64 x'] 24)
  replace R := (R.later h1).alloc (.cells #[.int .i64 k, .int .u64 x'] 24)
  replace hW := hW.trans (h1.mono hW.size)
  clear h1
  replace hW := hW.alloc hW.size (.cells #[.int .i64 k, .int .u64 x'] 24)
  have C := Box.new W6 (.int .i64 k) (.int .u64 x') 24
  obtain ⟨A0, A1, _, _, _⟩ := id A
  obtain ⟨B0, B1, _, _, _⟩ := id B
  obtain ⟨Q0, Q1, _, _, _⟩ := id Q
  go_wp2_with fail
  refine Calls.mono (k5h _) ?_
  rintro e W7 ⟨rfl, h1⟩
  clear A0 A1 B0 B1 Q0 Q1
  replace A := (A.later h1).alloc (.cells #[.int .i64 k, .int .u64 x'] 24)
  replace B := (B.later h1).alloc (.cells #[.int .i64 k, .int .u64 x'] 24)
  replace P := (P.later h1).alloc (.cells #[.int .i64 k, .int .u64 x'] 24)
  replace Q := (Q.later h1).alloc (.cells #[.int .i64 k, .int .u64 x'] 24)
  replace R := (R.later h1).alloc (.cells #[.int .i64 k, .int .u64 x'] 24)
  replace C := (C.later h1).alloc (.cells #[.int .i64 k, .int .u64 x'] 24)
  replace hW := hW.trans (h1.mono hW.size)
  clear h1
  replace hW := hW.alloc hW.size (.cells #[.int .i64 k, .int .u64 x'] 24)
  have D := Box.new W7 (.int .i64 k) (.int .u64 x') 24
  obtain ⟨A0, A1, _, _, _⟩ := id A
  obtain ⟨Q0, Q1, _, _, _⟩ := id Q
  obtain ⟨R0, R1, _, _, _⟩ := id R
  go_wp2_with fail
  clear A0 A1 Q0 Q1 R0 R1
  generalize W7.alloc (.cells #[.int .i64 k, .int .u64 x'] 24) = Z1 at *
  refine wp_region_box (aF := ?aF2) [false, false, false, false, false, false, false, false, false, true, true, false] 9 10 22 84 (.cells #[.int .i64 0, .int .u64 0] 24) (.cells #[.int .i64 k, .int .u64 s] 24) (.agg #[.int .i64 k, .int .u64 s]) (by kernel_rfl) (by kernel_rfl) (by kernel_rfl) (by kernel_rfl) (by kernel_rfl) (by kernel_rfl) rfl (by decide) (by decide) (by decide) ⟨_, rfl, rfl, rfl, fun _ _ => by kernel_rfl⟩ 7 (by kernel_rfl) (by kernel_rfl) rfl rfl ⟨_, rfl, rfl, rfl, fun e W m hO h1 h2 => store2 e 84 22 hO h1 h2⟩ ?hw2 ?hV2 ?ht2
  case hw2 =>
    intro Z hz
    simp only [strike]
    have A' := A.later hz
    have A0 := cell_regrown A'.c0
    have A1 := cell_regrown A'.c1
    clear A'
    have Q' := Q.later hz
    have Q0 := cell_regrown Q'.c0
    have Q1 := cell_regrown Q'.c1
    clear Q'
    have R' := R.later hz
    have R0 := cell_regrown R'.c0
    have R1 := cell_regrown R'.c1
    clear R'
    have qk6h := fun d os => Calls.regrown_of (k6h (grow (redrawn Z d) os))
    have qk7h := fun d os => Calls.regrown_of (k7h (grow (redrawn Z d) os))
    repeat (go_big_quiet_step (first | with_reducible exact qk6h _ _ | with_reducible exact qk7h _ _))
    refine wpQuiet_nil ?_
    exact rfl
  case hV2 => rfl
  case ht2 =>
  intro Z2 m2 hz hm hO
  simp only [Act.put, List.setIfInBounds_toArray, List.set_cons_zero, List.set_cons_succ]
  have S := Box.of_block hO
  replace A := A.later hz
  replace B := B.later hz
  replace P := P.later hz
  replace Q := Q.later hz
  replace R := R.later hz
  replace C := C.later hz
  replace D := D.later hz
  replace hW := hW.trans (hz.mono hW.size)
  clear hz hm hO
  obtain ⟨A0, A1, _, _, _⟩ := id A
  obtain ⟨Q0, Q1, _, _, _⟩ := id Q
  obtain ⟨R0, R1, _, _, _⟩ := id R
  go_wp2_with fail
  clear A0 A1 Q0 Q1 R0 R1
  refine wp_region_box (aF := ?aF3) [false, false, false, false, false, false, false, false, false, true, true, false] 9 10 24 93 (.cells #[.int .i64 0, .int .u64 0] 24) (.cells #[.int .i64 k, .int .u64 t] 24) (.agg #[.int .i64 k, .int .u64 t]) (by kernel_rfl) (by kernel_rfl) (by kernel_rfl) (by kernel_rfl) (by kernel_rfl) (by kernel_rfl) rfl (by decide) (by decide) (by decide) ⟨_, rfl, rfl, rfl, fun _ _ => by kernel_rfl⟩ 7 (by kernel_rfl) (by kernel_rfl) rfl rfl ⟨_, rfl, rfl, rfl, fun e W m hO h1 h2 => store2 e 93 24 hO h1 h2⟩ ?hw3 ?hV3 ?ht3
  case hw3 =>
    intro Z hz
    simp only [strike]
    have A' := A.later hz
    have A0 := cell_regrown A'.c0
    have A1 := cell_regrown A'.c1
    clear A'
    have Q' := Q.later hz
    have Q0 := cell_regrown Q'.c0
    have Q1 := cell_regrown Q'.c1
    clear Q'
    have R' := R.later hz
    have R0 := cell_regrown R'.c0
    have R1 := cell_regrown R'.c1
    clear R'
    have qk8h := fun d os => Calls.regrown_of (k8h (grow (redrawn Z d) os))
    have qk9h := fun d os => Calls.regrown_of (k9h (grow (redrawn Z d) os))
    repeat (go_big_quiet_step (first | with_reducible exact qk8h _ _ | with_reducible exact qk9h _ _))
    refine wpQuiet_nil ?_
    exact rfl
  case hV3 => rfl
  case ht3 =>
  intro Z3 m3 hz hm hO
  simp only [Act.put, List.setIfInBounds_toArray, List.set_cons_zero, List.set_cons_succ]
  have T := Box.of_block hO
  replace A := A.later hz
  replace B := B.later hz
  replace P := P.later hz
  replace Q := Q.later hz
  replace R := R.later hz
  replace C := C.later hz
  replace D := D.later hz
  replace S := S.later hz
  replace hW := hW.trans (hz.mono hW.size)
  clear hz hm hO
  obtain ⟨A0, A1, _, _, _⟩ := id A
  go_wp2_with fail
  refine Calls.mono (k12h _) ?_
  rintro e W8 ⟨rfl, h1⟩
  clear A0 A1
  replace A := (A.later h1).alloc (.cells #[.int .i64 1, .int .u64 g] 24)
  replace B := (B.later h1).alloc (.cells #[.int .i64 1, .int .u64 g] 24)
  replace P := (P.later h1).alloc (.cells #[.int .i64 1, .int .u64 g] 24)
  replace Q := (Q.later h1).alloc (.cells #[.int .i64 1, .int .u64 g] 24)
  replace R := (R.later h1).alloc (.cells #[.int .i64 1, .int .u64 g] 24)
  replace C := (C.later h1).alloc (.cells #[.int .i64 1, .int .u64 g] 24)
  replace D := (D.later h1).alloc (.cells #[.int .i64 1, .int .u64 g] 24)
  replace S := (S.later h1).alloc (.cells #[.int .i64 1, .int .u64 g] 24)
  replace T := (T.later h1).alloc (.cells #[.int .i64 1, .int .u64 g] 24)
  replace hW := hW.trans (h1.mono hW.size)
  clear h1
  replace hW := hW.alloc hW.size (.cells #[.int .i64 1, .int .u64 g] 24)
  have H := Box.new W8 (.int .i64 1) (.int .u64 g) 24
  obtain ⟨Q0, Q1, _, _, _⟩ := id Q
  go_wp2_with fail
  refine Calls.mono (k13h _) ?_
  rintro e W9 ⟨rfl, h1⟩
  clear Q0 Q1
  replace A := (A.later h1).alloc (.cells #[.int .i64 1, .int .u64 g] 24)
  replace B := (B.later h1).alloc (.cells #[.int .i64 1, .int .u64 g] 24)
  replace P := (P.later h1).alloc (.cells #[.int .i64 1, .int .u64 g] 24)
  replace Q := (Q.later h1).alloc (.cells #[.int .i64 1, .int .u64 g] 24)
  replace R := (R.later h1).alloc (.cells #[.int .i64 1, .int .u64 g] 24)
  replace C := (C.later h1).alloc (.cells #[.int .i64 1, .int .u64 g] 24)
  replace D := (D.later h1).alloc (.cells #[.int .i64 1, .int .u64 g] 24)
  replace S := (S.later h1).alloc (.cells #[.int .i64 1, .int .u64 g] 24)
  replace T := (T.later h1).alloc (.cells #[.int .i64 1, .int .u64 g] 24)
  replace H := (H.later h1).alloc (.cells #[.int .i64 1, .int .u64 g] 24)
  replace hW := hW.trans (h1.mono hW.size)
  clear h1
  replace hW := hW.alloc hW.size (.cells #[.int .i64 1, .int .u64 g] 24)
  have V := Box.new W9 (.int .i64 1) (.int .u64 g) 24
  obtain ⟨A0, A1, _, _, _⟩ := id A
  obtain ⟨B0, B1, _, _, _⟩ := id B
  obtain ⟨P0, P1, _, _, _⟩ := id P
  obtain ⟨Q0, Q1, _, _, _⟩ := id Q
  obtain ⟨R0, R1, _, _, _⟩ := id R
  obtain ⟨C0, C1, _, _, _⟩ := id C
  obtain ⟨D0, D1, _, _, _⟩ := id D
  obtain ⟨S0, S1, _, _, _⟩ := id S
  obtain ⟨T0, T1, _, _, _⟩ := id T
  obtain ⟨H0, H1, _, _, _⟩ := id H
  obtain ⟨V0, V1, _, _, _⟩ := id V
  go_wp2_with fail
  clear A0 A1 B0 B1 P0 P1 Q0 Q1 R0 R1 C0 C1 D0 D1 S0 S1 T0 T1 H0 H1 V0 V1
  generalize W9.alloc (.cells #[.int .i64 1, .int .u64 g] 24) = Z3 at *
  have A0 := cell_regrown A.c0
  have A1 := cell_regrown A.c1
  have B0 := cell_regrown B.c0
  have B1 := cell_regrown B.c1
  have P0 := cell_regrown P.c0
  have P1 := cell_regrown P.c1
  have Q0 := cell_regrown Q.c0
  have Q1 := cell_regrown Q.c1
  have R0 := cell_regrown R.c0
  have R1 := cell_regrown R.c1
  have C0 := cell_regrown C.c0
  have C1 := cell_regrown C.c1
  have D0 := cell_regrown D.c0
  have D1 := cell_regrown D.c1
  have S0 := cell_regrown S.c0
  have S1 := cell_regrown S.c1
  have T0 := cell_regrown T.c0
  have T1 := cell_regrown T.c1
  have H0 := cell_regrown H.c0
  have H1 := cell_regrown H.c1
  have V0 := cell_regrown V.c0
  have V1 := cell_regrown V.c1
  have qk10h := fun d os => Calls.regrown_of (k10h (grow (redrawn Z3 d) os))
  have qk11h := fun d os => Calls.regrown_of (k11h (grow (redrawn Z3 d) os))
  have qklh := fun d os => Calls.regrown_of (klh (grow (redrawn Z3 d) os))
  refine wp_region_quiet_fast (by kernel_rfl) (by kernel_rfl) (by kernel_rfl) ?_
  repeat (go_big_quiet_step (first | with_reducible exact qk10h _ _ | with_reducible exact qk11h _ _ | with_reducible exact qklh _ _))
  refine wpQuiet_nil ?_
  intro Z4 hw'
  obtain ⟨⟨dq, osq⟩, hw''⟩ := hw'
  have hz : Below Z3.heap.size Z3 Z4 := hw'' ▸ below_regrown Z3 dq osq
  clear hw'' dq osq
  replace hW := hW.trans (hz.mono hW.size)
  clear hz
  go_wp2
  go_ret
  exact ⟨rfl, hW⟩

end Go.Proofs.Ytafhnkhcbfilaaa
