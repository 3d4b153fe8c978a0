/- A shift is a product: the walk. -/
import Derived.Test.YtafhnkhcbfilaaaD2
import Derived.Test.YtafhnkhcbfilaaaP9
import Derived.Test.YtafhnkhcbfilaaaR5
namespace Go.Proofs.Ytafhnkhcbfilaaa
open Go.RowKit Go.Flow Go.Sort
set_option linter.unusedVariables false
set_option linter.unusedSimpArgs false
set_option maxRecDepth 100000

theorem Box.of_block {w : World} {m : Nat} {a b : Value} (h : w.heap[m]? = some (.cells #[a, b] 24)) : Box w m a b :=
  ⟨by simp [World.cell?, h], by simp [World.cell?, h], by simp [World.frozen?, h], by simp [World.frozen?, h], (Array.getElem?_eq_some_iff.1 h).1⟩

theorem pow_wrap (j : Nat) (h : j < 64) : IntKind.u64.wrap ((2 : Int) ^ j) = ((2 ^ j : Nat) : Int) := by
  have : (2 : Nat) ^ j < 2 ^ 64 := Nat.pow_lt_pow_right (by omega) h
  rw [wrap_u64, ofNat_two_pow, Int.emod_eq_of_lt (Int.natCast_nonneg _) (by have e : (2 : Nat) ^ 64 = 18446744073709551616 := rfl; omega)]

set_option maxHeartbeats 8000000 in
theorem law_shifts0 (w x n far : Nat) (W : World) (hw : w < 256) (hx : x < 18446744073709551616) (hn : n < 256) (hf : far < 18446744073709551616) (hc : ¬ far < mw w) :
    Calls Try.prog 10 #[.int .u8 w, .int .u64 x, .int .u8 n, .int .u64 far] W fun e W' => e = .returned (.bool true) ∧ Below W.heap.size W W' := by
  have h0 := mw_pos w
  have h := mw_le w
  have lx := Nat.mod_lt x (Nat.two_pow_pos (mw w))
  have m1 := fun W => masked_any w x W hw hx
  have m2 := fun W => masked_any w 1 W hw (by omega)
  have l1 : 1 % 2 ^ mw w = 1 := Nat.mod_eq_of_lt (Nat.one_lt_two_pow (by omega))
  rw [l1] at m2
  generalize x % 2 ^ mw w = x' at *
  generalize mw w = k at *
  have hj := Nat.mod_lt n h0
  have ej : (n : Int) % (k : Int) = ((n % k : Nat) : Int) := by omega
  generalize n % k = j at *
  have ep := pow_wrap j (by omega)
  have hr := shifts_calls k x' j far h0 h lx hj (by omega) (by omega)
  simp only [BinC] at hr
  obtain ⟨r, s, b, u, v, k1, k2, k3, k4, k5, k6, k7, k8, k9⟩ := hr
  have e1 : ((1 : Nat) : Int) = 1 := rfl
  have e0 : ((0 : Nat) : Int) = 0 := rfl
  have e6 : ((6 : Nat) : Int) = 6 := rfl
  have e64 : ((64 : Nat) : Int) = 64 := rfl
  simp only [e0, e1, e6, e64] at k1 k2 k3 k4 k5 k6 k7 k8 k9 m2
  clear e0 e1 e6 e64 l1
  generalize 2 ^ j = tw at *
  have lk : (0 : Int) < (k : Int) := by omega
  have lk2 : (k : Int) ≤ 64 := by omega
  have lj : (j : Int) < (k : Int) := by omega
  have lj0 : (0 : Int) ≤ (j : Int) := by omega
  have cf : ¬ (far : Int) < (k : Int) := by omega
  have kl : ∀ W, Calls Try.prog 15 #[] W fun e W' => e = .returned (.bool true) ∧ Below W.heap.size W W' := live_any
  have k1h := Lib.hid k1
  have k2h := Lib.hid k2
  have k3h := Lib.hid k3
  have k4h := Lib.hid k4
  have k5h := Lib.hid k5
  have k6h := Lib.hid k6
  have k7h := Lib.hid k7
  have k8h := Lib.hid k8
  have k9h := Lib.hid k9
  have m1h := Lib.hid m1
  have m2h := Lib.hid m2
  have klh := Lib.hid kl
  clear k1 k2 k3 k4 k5 k6 k7 k8 k9 m1 m2 kl
  go_enter Try.func10, Try.ntmps10
  go_wp2_with fail
  refine Calls.mono (m1h _) ?_
  rintro e W1 ⟨rfl, h1⟩
  have hW := h1
  clear h1
  replace hW := hW.alloc hW.size (.cells #[.int .i64 k, .int .u64 x'] 24)
  have A := Box.new W1 (.int .i64 k) (.int .u64 x') 24
  obtain ⟨A0, A1, _, _, _⟩ := id A
  go_wp2_with fail
  clear A0 A1
  have Y : Box ((W1.alloc (.cells #[.int .i64 k, .int .u64 x'] 24)).alloc (.cells #[.int .i64 6, .int .u64 j] 24)) (W1.heap.size + 1) (.int .i64 6) (.int .u64 j) := by simpa using Box.new (W1.alloc (.cells #[.int .i64 k, .int .u64 x'] 24)) (.int .i64 6) (.int .u64 j) 24
  replace A := A.alloc (.cells #[.int .i64 6, .int .u64 j] 24)
  replace hW := hW.alloc hW.size (.cells #[.int .i64 6, .int .u64 j] 24)
  generalize (W1.alloc (.cells #[.int .i64 k, .int .u64 x'] 24)).alloc (.cells #[.int .i64 6, .int .u64 j] 24) = Z0 at *
  generalize W1.heap.size + 1 = by' at *
  refine wp_region_float (aF := ?aF1) [false, false, false, false, false, true] 5 12 (.cells #[.int .i64 0, .int .u64 0] 24) (by kernel_rfl) (by kernel_rfl) (by kernel_rfl) (by kernel_rfl) (by kernel_rfl) (by kernel_rfl) (by kernel_rfl) (by kernel_rfl) (by decide) (by kernel_rfl) (by decide) (by decide) ⟨_, rfl, rfl, rfl, fun _ _ => by kernel_rfl⟩ ?hw1 ?ht1
  case hw1 =>
    intro Z hz
    simp only [strike]
    have A' := A.later hz
    have A0 := cell_regrown A'.c0
    have A1 := cell_regrown A'.c1
    clear A'
    repeat (go_big_quiet_step (fail))
    refine wpQuiet_nil ?_
    exact rfl
  case ht1 =>
  intro Z m hz hm hO
  simp only [List.length_cons, List.length_nil, List.drop_succ_cons, List.drop_zero, Nat.reduceAdd]
  have TB := Box.of_block hO
  have T := (TB.set0 (.int .i64 k)).set1 (.int .u64 tw)
  have hz2 : Below Z0.heap.size Z0 ((Z.setCell ⟨m, 0, none⟩ (.int .i64 k)).setCell ⟨m, 1, none⟩ (.int .u64 tw)) := (hz.setCell (by simpa using hm) _).setCell (by simpa using hm) _
  obtain ⟨t0, t1, tf0, tf1, tl⟩ := TB
  go_wp2_with fail
  clear t0 t1 tf0 tf1 tl hO
  replace A := A.later hz2
  replace Y := Y.later hz2
  replace hW := hW.trans (hz2.mono hW.size)
  clear hz2 hz hm
  have hsz : Z.heap.size = ((Z.setCell ⟨m, 0, none⟩ (.int .i64 k)).setCell ⟨m, 1, none⟩ (.int .u64 tw)).heap.size := by simp [World.setCell]
  try rw [hsz]
  clear hsz
  generalize (Z.setCell ⟨m, 0, none⟩ (.int .i64 k)).setCell ⟨m, 1, none⟩ (.int .u64 tw) = Z1 at *
  refine wp_region_float (aF := ?aF2) [false, false, false, false, true] 4 13 (.cells #[.int .i64 0, .int .u64 0] 24) (by kernel_rfl) (by kernel_rfl) (by kernel_rfl) (by kernel_rfl) (by kernel_rfl) (by kernel_rfl) (by kernel_rfl) (by kernel_rfl) (by decide) (by kernel_rfl) (by decide) (by decide) ⟨_, rfl, rfl, rfl, fun _ _ => by kernel_rfl⟩ ?hw2 ?ht2
  case hw2 =>
    intro Z hz
    simp only [strike]
    have T' := T.later hz
    have T0 := cell_regrown T'.c0
    have T1 := cell_regrown T'.c1
    clear T'
    have qm2h := fun d os => Calls.regrown_of (m2h (grow (redrawn Z d) os))
    have qk1h := fun d os => Calls.regrown_of (k1h (grow (redrawn Z d) os))
    repeat (go_big_quiet_step (first | with_reducible exact qm2h _ _ | with_reducible exact qk1h _ _))
    refine wpQuiet_nil ?_
    exact rfl
  case ht2 =>
  intro Z m hz hm hO
  simp only [List.length_cons, List.length_nil, List.drop_succ_cons, List.drop_zero, Nat.reduceAdd]
  have TB := Box.of_block hO
  have R := (TB.set0 (.int .i64 k)).set1 (.int .u64 r)
  have hz2 : Below Z1.heap.size Z1 ((Z.setCell ⟨m, 0, none⟩ (.int .i64 k)).setCell ⟨m, 1, none⟩ (.int .u64 r)) := (hz.setCell (by simpa using hm) _).setCell (by simpa using hm) _
  obtain ⟨t0, t1, tf0, tf1, tl⟩ := TB
  have A' := A.later hz
  have A0 := A'.c0
  have A1 := A'.c1
  have An := Nat.ne_of_lt (Nat.lt_of_lt_of_le A.lt hm)
  have Am := Nat.ne_of_gt (Nat.lt_of_lt_of_le A.lt hm)
  have Ap := Nat.ne_of_lt A'.lt
  have Aq := Nat.ne_of_gt A'.lt
  have A2 := fun o => ((A.later hz2).alloc o).c0
  have A3 := fun o => ((A.later hz2).alloc o).c1
  clear A'
  go_wp2_with fail
  clear A0 A1 An Am Ap Aq A2 A3
  clear t0 t1 tf0 tf1 tl hO
  replace A := A.later hz2
  replace Y := Y.later hz2
  replace T := T.later hz2
  replace hW := hW.trans (hz2.mono hW.size)
  clear hz2 hz hm
  have hsz : Z.heap.size = ((Z.setCell ⟨m, 0, none⟩ (.int .i64 k)).setCell ⟨m, 1, none⟩ (.int .u64 r)).heap.size := by simp [World.setCell]
  try rw [hsz]
  clear hsz
  generalize (Z.setCell ⟨m, 0, none⟩ (.int .i64 k)).setCell ⟨m, 1, none⟩ (.int .u64 r) = Z2 at *
  have L := Box.new Z2 (.int .i64 64) (.int .u64 far) 24
  replace A := A.alloc (.cells #[.int .i64 64, .int .u64 far] 24)
  replace Y := Y.alloc (.cells #[.int .i64 64, .int .u64 far] 24)
  replace T := T.alloc (.cells #[.int .i64 64, .int .u64 far] 24)
  replace R := R.alloc (.cells #[.int .i64 64, .int .u64 far] 24)
  replace hW := hW.alloc hW.size (.cells #[.int .i64 64, .int .u64 far] 24)
  generalize Z2.alloc (.cells #[.int .i64 64, .int .u64 far] 24) = Z3 at *
  generalize Z2.heap.size = lo' at *
  refine wp_region_float (aF := ?aF4) [false, false, false, false, false, true] 5 15 (.cells #[.int .i64 0, .int .u64 0] 24) (by kernel_rfl) (by kernel_rfl) (by kernel_rfl) (by kernel_rfl) (by kernel_rfl) (by kernel_rfl) (by kernel_rfl) (by kernel_rfl) (by decide) (by kernel_rfl) (by decide) (by decide) ⟨_, rfl, rfl, rfl, fun _ _ => by kernel_rfl⟩ ?hw4 ?ht4
  case hw4 =>
    intro Z hz
    simp only [strike]
    have A' := A.later hz
    have A0 := cell_regrown A'.c0
    have A1 := cell_regrown A'.c1
    clear A'
    have Y' := Y.later hz
    have Y0 := cell_regrown Y'.c0
    have Y1 := cell_regrown Y'.c1
    clear Y'
    have qk2h := fun d os => Calls.regrown_of (k2h (grow (redrawn Z d) os))
    have qk3h := fun d os => Calls.regrown_of (k3h (grow (redrawn Z d) os))
    repeat (go_big_quiet_step (first | with_reducible exact qk2h _ _ | with_reducible exact qk3h _ _))
    refine wpQuiet_nil ?_
    exact rfl
  case ht4 =>
  intro Z m hz hm hO
  simp only [List.length_cons, List.length_nil, List.drop_succ_cons, List.drop_zero, Nat.reduceAdd]
  have TB := Box.of_block hO
  have B := (TB.set0 (.int .i64 k)).set1 (.int .u64 b)
  have hz2 : Below Z3.heap.size Z3 ((Z.setCell ⟨m, 0, none⟩ (.int .i64 k)).setCell ⟨m, 1, none⟩ (.int .u64 b)) := (hz.setCell (by simpa using hm) _).setCell (by simpa using hm) _
  obtain ⟨t0, t1, tf0, tf1, tl⟩ := TB
  have A' := A.later hz
  have A0 := A'.c0
  have A1 := A'.c1
  have An := Nat.ne_of_lt (Nat.lt_of_lt_of_le A.lt hm)
  have Am := Nat.ne_of_gt (Nat.lt_of_lt_of_le A.lt hm)
  have Ap := Nat.ne_of_lt A'.lt
  have Aq := Nat.ne_of_gt A'.lt
  have A2 := fun o => ((A.later hz2).alloc o).c0
  have A3 := fun o => ((A.later hz2).alloc o).c1
  clear A'
  go_wp2_with fail
  clear A0 A1 An Am Ap Aq A2 A3
  clear t0 t1 tf0 tf1 tl hO
  replace A := A.later hz2
  replace Y := Y.later hz2
  replace T := T.later hz2
  replace R := R.later hz2
  replace L := L.later hz2
  replace hW := hW.trans (hz2.mono hW.size)
  clear hz2 hz hm
  have hsz : Z.heap.size = ((Z.setCell ⟨m, 0, none⟩ (.int .i64 k)).setCell ⟨m, 1, none⟩ (.int .u64 b)).heap.size := by simp [World.setCell]
  try rw [hsz]
  clear hsz
  generalize (Z.setCell ⟨m, 0, none⟩ (.int .i64 k)).setCell ⟨m, 1, none⟩ (.int .u64 b) = Z4 at *
  have O := Box.new Z4 (.int .i64 k) (.int .u64 0) 24
  replace A := A.alloc (.cells #[.int .i64 k, .int .u64 0] 24)
  replace Y := Y.alloc (.cells #[.int .i64 k, .int .u64 0] 24)
  replace T := T.alloc (.cells #[.int .i64 k, .int .u64 0] 24)
  replace R := R.alloc (.cells #[.int .i64 k, .int .u64 0] 24)
  replace L := L.alloc (.cells #[.int .i64 k, .int .u64 0] 24)
  replace B := B.alloc (.cells #[.int .i64 k, .int .u64 0] 24)
  replace hW := hW.alloc hW.size (.cells #[.int .i64 k, .int .u64 0] 24)
  generalize Z4.alloc (.cells #[.int .i64 k, .int .u64 0] 24) = Z5 at *
  generalize Z4.heap.size = no' at *
  have A0 := cell_regrown A.c0
  have A1 := cell_regrown A.c1
  have Y0 := cell_regrown Y.c0
  have Y1 := cell_regrown Y.c1
  have T0 := cell_regrown T.c0
  have T1 := cell_regrown T.c1
  have R0 := cell_regrown R.c0
  have R1 := cell_regrown R.c1
  have L0 := cell_regrown L.c0
  have L1 := cell_regrown L.c1
  have B0 := cell_regrown B.c0
  have B1 := cell_regrown B.c1
  have O0 := cell_regrown O.c0
  have O1 := cell_regrown O.c1
  have qk4h := fun d os => Calls.regrown_of (k4h (grow (redrawn Z5 d) os))
  have qk5h := fun d os => Calls.regrown_of (k5h (grow (redrawn Z5 d) os))
  have qk6h := fun d os => Calls.regrown_of (k6h (grow (redrawn Z5 d) os))
  have qk7h := fun d os => Calls.regrown_of (k7h (grow (redrawn Z5 d) os))
  have qk8h := fun d os => Calls.regrown_of (k8h (grow (redrawn Z5 d) os))
  have qk9h := fun d os => Calls.regrown_of (k9h (grow (redrawn Z5 d) os))
  have qklh := fun d os => Calls.regrown_of (klh (grow (redrawn Z5 d) os))
  refine wp_region_quiet_fast (by kernel_rfl) (by kernel_rfl) (by kernel_rfl) ?_
  repeat (go_big_quiet_step (first | with_reducible exact qk4h _ _ | with_reducible exact qk5h _ _ | with_reducible exact qk6h _ _ | with_reducible exact qk7h _ _ | with_reducible exact qk8h _ _ | with_reducible exact qk9h _ _ | with_reducible exact qklh _ _))
  refine wpQuiet_nil ?_
  intro Z6 hw'
  obtain ⟨⟨dq, osq⟩, hw''⟩ := hw'
  have hz : Below Z5.heap.size Z5 Z6 := hw'' ▸ below_regrown Z5 dq osq
  clear hw'' dq osq
  replace hW := hW.trans (hz.mono hW.size)
  clear hz
  go_wp2
  go_ret
  exact ⟨rfl, hW⟩

set_option maxHeartbeats 8000000 in
theorem law_shifts1 (w x n far : Nat) (W : World) (hw : w < 256) (hx : x < 18446744073709551616) (hn : n < 256) (hf : far < 18446744073709551616) (hc : far < mw w) :
    Calls Try.prog 10 #[.int .u8 w, .int .u64 x, .int .u8 n, .int .u64 far] W fun e W' => e = .returned (.bool true) ∧ Below W.heap.size W W' := by
  have h0 := mw_pos w
  have h := mw_le w
  have lx := Nat.mod_lt x (Nat.two_pow_pos (mw w))
  have m1 := fun W => masked_any w x W hw hx
  have m2 := fun W => masked_any w 1 W hw (by omega)
  have l1 : 1 % 2 ^ mw w = 1 := Nat.mod_eq_of_lt (Nat.one_lt_two_pow (by omega))
  rw [l1] at m2
  generalize x % 2 ^ mw w = x' at *
  generalize mw w = k at *
  have hj := Nat.mod_lt n h0
  have ej : (n : Int) % (k : Int) = ((n % k : Nat) : Int) := by omega
  generalize n % k = j at *
  have ep := pow_wrap j (by omega)
  have hr := shifts_calls k x' j k h0 h lx hj (by omega) (by omega)
  simp only [BinC] at hr
  obtain ⟨r, s, b, u, v, k1, k2, k3, k4, k5, k6, k7, k8, k9⟩ := hr
  have e1 : ((1 : Nat) : Int) = 1 := rfl
  have e0 : ((0 : Nat) : Int) = 0 := rfl
  have e6 : ((6 : Nat) : Int) = 6 := rfl
  have e64 : ((64 : Nat) : Int) = 64 := rfl
  simp only [e0, e1, e6, e64] at k1 k2 k3 k4 k5 k6 k7 k8 k9 m2
  clear e0 e1 e6 e64 l1
  generalize 2 ^ j = tw at *
  have lk : (0 : Int) < (k : Int) := by omega
  have lk2 : (k : Int) ≤ 64 := by omega
  have lj : (j : Int) < (k : Int) := by omega
  have lj0 : (0 : Int) ≤ (j : Int) := by omega
  have cf : (far : Int) < (k : Int) := by omega
  have kl : ∀ W, Calls Try.prog 15 #[] W fun e W' => e = .returned (.bool true) ∧ Below W.heap.size W W' := live_any
  have k1h := Lib.hid k1
  have k2h := Lib.hid k2
  have k3h := Lib.hid k3
  have k4h := Lib.hid k4
  have k5h := Lib.hid k5
  have k6h := Lib.hid k6
  have k7h := Lib.hid k7
  have k8h := Lib.hid k8
  have k9h := Lib.hid k9
  have m1h := Lib.hid m1
  have m2h := Lib.hid m2
  have klh := Lib.hid kl
  clear k1 k2 k3 k4 k5 k6 k7 k8 k9 m1 m2 kl
  go_enter Try.func10, Try.ntmps10
  go_wp2_with fail
  refine Calls.mono (m1h _) ?_
  rintro e W1 ⟨rfl, h1⟩
  have hW := h1
  clear h1
  replace hW := hW.alloc hW.size (.cells #[.int .i64 k, .int .u64 x'] 24)
  have A := Box.new W1 (.int .i64 k) (.int .u64 x') 24
  obtain ⟨A0, A1, _, _, _⟩ := id A
  go_wp2_with fail
  clear A0 A1
  have Y : Box ((W1.alloc (.cells #[.int .i64 k, .int .u64 x'] 24)).alloc (.cells #[.int .i64 6, .int .u64 j] 24)) (W1.heap.size + 1) (.int .i64 6) (.int .u64 j) := by simpa using Box.new (W1.alloc (.cells #[.int .i64 k, .int .u64 x'] 24)) (.int .i64 6) (.int .u64 j) 24
  replace A := A.alloc (.cells #[.int .i64 6, .int .u64 j] 24)
  replace hW := hW.alloc hW.size (.cells #[.int .i64 6, .int .u64 j] 24)
  generalize (W1.alloc (.cells #[.int .i64 k, .int .u64 x'] 24)).alloc (.cells #[.int .i64 6, .int .u64 j] 24) = Z0 at *
  generalize W1.heap.size + 1 = by' at *
  refine wp_region_float (aF := ?aF1) [false, false, false, false, false, true] 5 12 (.cells #[.int .i64 0, .int .u64 0] 24) (by kernel_rfl) (by kernel_rfl) (by kernel_rfl) (by kernel_rfl) (by kernel_rfl) (by kernel_rfl) (by kernel_rfl) (by kernel_rfl) (by decide) (by kernel_rfl) (by decide) (by decide) ⟨_, rfl, rfl, rfl, fun _ _ => by kernel_rfl⟩ ?hw1 ?ht1
  case hw1 =>
    intro Z hz
    simp only [strike]
    have A' := A.later hz
    have A0 := cell_regrown A'.c0
    have A1 := cell_regrown A'.c1
    clear A'
    repeat (go_big_quiet_step (fail))
    refine wpQuiet_nil ?_
    exact rfl
  case ht1 =>
  intro Z m hz hm hO
  simp only [List.length_cons, List.length_nil, List.drop_succ_cons, List.drop_zero, Nat.reduceAdd]
  have TB := Box.of_block hO
  have T := (TB.set0 (.int .i64 k)).set1 (.int .u64 tw)
  have hz2 : Below Z0.heap.size Z0 ((Z.setCell ⟨m, 0, none⟩ (.int .i64 k)).setCell ⟨m, 1, none⟩ (.int .u64 tw)) := (hz.setCell (by simpa using hm) _).setCell (by simpa using hm) _
  obtain ⟨t0, t1, tf0, tf1, tl⟩ := TB
  go_wp2_with fail
  clear t0 t1 tf0 tf1 tl hO
  replace A := A.later hz2
  replace Y := Y.later hz2
  replace hW := hW.trans (hz2.mono hW.size)
  clear hz2 hz hm
  have hsz : Z.heap.size = ((Z.setCell ⟨m, 0, none⟩ (.int .i64 k)).setCell ⟨m, 1, none⟩ (.int .u64 tw)).heap.size := by simp [World.setCell]
  try rw [hsz]
  clear hsz
  generalize (Z.setCell ⟨m, 0, none⟩ (.int .i64 k)).setCell ⟨m, 1, none⟩ (.int .u64 tw) = Z1 at *
  refine wp_region_float (aF := ?aF2) [false, false, false, false, true] 4 13 (.cells #[.int .i64 0, .int .u64 0] 24) (by kernel_rfl) (by kernel_rfl) (by kernel_rfl) (by kernel_rfl) (by kernel_rfl) (by kernel_rfl) (by kernel_rfl) (by kernel_rfl) (by decide) (by kernel_rfl) (by decide) (by decide) ⟨_, rfl, rfl, rfl, fun _ _ => by kernel_rfl⟩ ?hw2 ?ht2
  case hw2 =>
    intro Z hz
    simp only [strike]
    have T' := T.later hz
    have T0 := cell_regrown T'.c0
    have T1 := cell_regrown T'.c1
    clear T'
    have qm2h := fun d os => Calls.regrown_of (m2h (grow (redrawn Z d) os))
    have qk1h := fun d os => Calls.regrown_of (k1h (grow (redrawn Z d) os))
    repeat (go_big_quiet_step (first | with_reducible exact qm2h _ _ | with_reducible exact qk1h _ _))
    refine wpQuiet_nil ?_
    exact rfl
  case ht2 =>
  intro Z m hz hm hO
  simp only [List.length_cons, List.length_nil, List.drop_succ_cons, List.drop_zero, Nat.reduceAdd]
  have TB := Box.of_block hO
  have R := (TB.set0 (.int .i64 k)).set1 (.int .u64 r)
  have hz2 : Below Z1.heap.size Z1 ((Z.setCell ⟨m, 0, none⟩ (.int .i64 k)).setCell ⟨m, 1, none⟩ (.int .u64 r)) := (hz.setCell (by simpa using hm) _).setCell (by simpa using hm) _
  obtain ⟨t0, t1, tf0, tf1, tl⟩ := TB
  have A' := A.later hz
  have A0 := A'.c0
  have A1 := A'.c1
  have An := Nat.ne_of_lt (Nat.lt_of_lt_of_le A.lt hm)
  have Am := Nat.ne_of_gt (Nat.lt_of_lt_of_le A.lt hm)
  have Ap := Nat.ne_of_lt A'.lt
  have Aq := Nat.ne_of_gt A'.lt
  have A2 := fun o => ((A.later hz2).alloc o).c0
  have A3 := fun o => ((A.later hz2).alloc o).c1
  clear A'
  go_wp2_with fail
  clear A0 A1 An Am Ap Aq A2 A3
  clear t0 t1 tf0 tf1 tl hO
  replace A := A.later hz2
  replace Y := Y.later hz2
  replace T := T.later hz2
  replace hW := hW.trans (hz2.mono hW.size)
  clear hz2 hz hm
  have hsz : Z.heap.size = ((Z.setCell ⟨m, 0, none⟩ (.int .i64 k)).setCell ⟨m, 1, none⟩ (.int .u64 r)).heap.size := by simp [World.setCell]
  try rw [hsz]
  clear hsz
  generalize (Z.setCell ⟨m, 0, none⟩ (.int .i64 k)).setCell ⟨m, 1, none⟩ (.int .u64 r) = Z2 at *
  have L := Box.new Z2 (.int .i64 64) (.int .u64 k) 24
  replace A := A.alloc (.cells #[.int .i64 64, .int .u64 k] 24)
  replace Y := Y.alloc (.cells #[.int .i64 64, .int .u64 k] 24)
  replace T := T.alloc (.cells #[.int .i64 64, .int .u64 k] 24)
  replace R := R.alloc (.cells #[.int .i64 64, .int .u64 k] 24)
  replace hW := hW.alloc hW.size (.cells #[.int .i64 64, .int .u64 k] 24)
  generalize Z2.alloc (.cells #[.int .i64 64, .int .u64 k] 24) = Z3 at *
  generalize Z2.heap.size = lo' at *
  refine wp_region_float (aF := ?aF4) [false, false, false, false, false, true] 5 15 (.cells #[.int .i64 0, .int .u64 0] 24) (by kernel_rfl) (by kernel_rfl) (by kernel_rfl) (by kernel_rfl) (by kernel_rfl) (by kernel_rfl) (by kernel_rfl) (by kernel_rfl) (by decide) (by kernel_rfl) (by decide) (by decide) ⟨_, rfl, rfl, rfl, fun _ _ => by kernel_rfl⟩ ?hw4 ?ht4
  case hw4 =>
    intro Z hz
    simp only [strike]
    have A' := A.later hz
    have A0 := cell_regrown A'.c0
    have A1 := cell_regrown A'.c1
    clear A'
    have Y' := Y.later hz
    have Y0 := cell_regrown Y'.c0
    have Y1 := cell_regrown Y'.c1
    clear Y'
    have qk2h := fun d os => Calls.regrown_of (k2h (grow (redrawn Z d) os))
    have qk3h := fun d os => Calls.regrown_of (k3h (grow (redrawn Z d) os))
    repeat (go_big_quiet_step (first | with_reducible exact qk2h _ _ | with_reducible exact qk3h _ _))
    refine wpQuiet_nil ?_
    exact rfl
  case ht4 =>
  intro Z m hz hm hO
  simp only [List.length_cons, List.length_nil, List.drop_succ_cons, List.drop_zero, Nat.reduceAdd]
  have TB := Box.of_block hO
  have B := (TB.set0 (.int .i64 k)).set1 (.int .u64 b)
  have hz2 : Below Z3.heap.size Z3 ((Z.setCell ⟨m, 0, none⟩ (.int .i64 k)).setCell ⟨m, 1, none⟩ (.int .u64 b)) := (hz.setCell (by simpa using hm) _).setCell (by simpa using hm) _
  obtain ⟨t0, t1, tf0, tf1, tl⟩ := TB
  have A' := A.later hz
  have A0 := A'.c0
  have A1 := A'.c1
  have An := Nat.ne_of_lt (Nat.lt_of_lt_of_le A.lt hm)
  have Am := Nat.ne_of_gt (Nat.lt_of_lt_of_le A.lt hm)
  have Ap := Nat.ne_of_lt A'.lt
  have Aq := Nat.ne_of_gt A'.lt
  have A2 := fun o => ((A.later hz2).alloc o).c0
  have A3 := fun o => ((A.later hz2).alloc o).c1
  clear A'
  go_wp2_with fail
  clear A0 A1 An Am Ap Aq A2 A3
  clear t0 t1 tf0 tf1 tl hO
  replace A := A.later hz2
  replace Y := Y.later hz2
  replace T := T.later hz2
  replace R := R.later hz2
  replace L := L.later hz2
  replace hW := hW.trans (hz2.mono hW.size)
  clear hz2 hz hm
  have hsz : Z.heap.size = ((Z.setCell ⟨m, 0, none⟩ (.int .i64 k)).setCell ⟨m, 1, none⟩ (.int .u64 b)).heap.size := by simp [World.setCell]
  try rw [hsz]
  clear hsz
  generalize (Z.setCell ⟨m, 0, none⟩ (.int .i64 k)).setCell ⟨m, 1, none⟩ (.int .u64 b) = Z4 at *
  have O := Box.new Z4 (.int .i64 k) (.int .u64 0) 24
  replace A := A.alloc (.cells #[.int .i64 k, .int .u64 0] 24)
  replace Y := Y.alloc (.cells #[.int .i64 k, .int .u64 0] 24)
  replace T := T.alloc (.cells #[.int .i64 k, .int .u64 0] 24)
  replace R := R.alloc (.cells #[.int .i64 k, .int .u64 0] 24)
  replace L := L.alloc (.cells #[.int .i64 k, .int .u64 0] 24)
  replace B := B.alloc (.cells #[.int .i64 k, .int .u64 0] 24)
  replace hW := hW.alloc hW.size (.cells #[.int .i64 k, .int .u64 0] 24)
  generalize Z4.alloc (.cells #[.int .i64 k, .int .u64 0] 24) = Z5 at *
  generalize Z4.heap.size = no' at *
  have A0 := cell_regrown A.c0
  have A1 := cell_regrown A.c1
  have Y0 := cell_regrown Y.c0
  have Y1 := cell_regrown Y.c1
  have T0 := cell_regrown T.c0
  have T1 := cell_regrown T.c1
  have R0 := cell_regrown R.c0
  have R1 := cell_regrown R.c1
  have L0 := cell_regrown L.c0
  have L1 := cell_regrown L.c1
  have B0 := cell_regrown B.c0
  have B1 := cell_regrown B.c1
  have O0 := cell_regrown O.c0
  have O1 := cell_regrown O.c1
  have qk4h := fun d os => Calls.regrown_of (k4h (grow (redrawn Z5 d) os))
  have qk5h := fun d os => Calls.regrown_of (k5h (grow (redrawn Z5 d) os))
  have qk6h := fun d os => Calls.regrown_of (k6h (grow (redrawn Z5 d) os))
  have qk7h := fun d os => Calls.regrown_of (k7h (grow (redrawn Z5 d) os))
  have qk8h := fun d os => Calls.regrown_of (k8h (grow (redrawn Z5 d) os))
  have qk9h := fun d os => Calls.regrown_of (k9h (grow (redrawn Z5 d) os))
  have qklh := fun d os => Calls.regrown_of (klh (grow (redrawn Z5 d) os))
  refine wp_region_quiet_fast (by kernel_rfl) (by kernel_rfl) (by kernel_rfl) ?_
  repeat (go_big_quiet_step (first | with_reducible exact qk4h _ _ | with_reducible exact qk5h _ _ | with_reducible exact qk6h _ _ | with_reducible exact qk7h _ _ | with_reducible exact qk8h _ _ | with_reducible exact qk9h _ _ | with_reducible exact qklh _ _))
  refine wpQuiet_nil ?_
  intro Z6 hw'
  obtain ⟨⟨dq, osq⟩, hw''⟩ := hw'
  have hz : Below Z5.heap.size Z5 Z6 := hw'' ▸ below_regrown Z5 dq osq
  clear hw'' dq osq
  replace hW := hW.trans (hz.mono hW.size)
  clear hz
  go_wp2
  go_ret
  exact ⟨rfl, hW⟩

theorem law_shifts (w x n far : Nat) (W : World) (hw : w < 256) (hx : x < 18446744073709551616) (hn : n < 256) (hf : far < 18446744073709551616) :
    Calls Try.prog 10 #[.int .u8 w, .int .u64 x, .int .u8 n, .int .u64 far] W fun e W' => e = .returned (.bool true) ∧ Below W.heap.size W W' := by
  by_cases hc : far < mw w
  · exact law_shifts1 w x n far W hw hx hn hf hc
  · exact law_shifts0 w x n far W hw hx hn hf hc

end Go.Proofs.Ytafhnkhcbfilaaa
