/- What is told may be: the walk. -/
import Derived.Test.YtafhnkhcbfilaaaD1
import Derived.Test.YtafhnkhcbfilaaaP11
namespace Go.Proofs.Ytafhnkhcbfilaaa
open Go.RowKit Go.Flow Go.Sort
set_option linter.unusedVariables false
set_option linter.unusedSimpArgs false
set_option maxRecDepth 100000

theorem cat2_any (wa wb : Int) (va vb : Nat) (b cap : Nat) (W : World) (h : BitsAt W b 0 [(wa, va), (wb, vb)]) (hb : b < W.heap.size) :
    Calls Try.prog 22 #[.slice (some ⟨b, 0, none⟩) 2 cap] W (CatPost [(wa, va), (wb, vb)] W) := by
  by_cases hall : ([(wa, va), (wb, vb)].all fun x => mayB x.1 x.2) = true
  · exact cat_yes b 0 cap [(wa, va), (wb, vb)] W h hb (by simp) (by simp) hall
  · exact cat_no b 0 cap [(wa, va), (wb, vb)] W h hb (by simp) (by simp) (by simpa using hall)

set_option maxHeartbeats 8000000 in
theorem law_may (wa wb op hi lo : Int) (va vb : Nat) (W : World) (ha : va < 18446744073709551616) (hb : vb < 18446744073709551616) :
    Calls Try.prog 12 #[.agg #[.int .i64 wa, .int .u64 va], .agg #[.int .i64 wb, .int .u64 vb], .int .i64 op, .int .i64 hi, .int .i64 lo] W fun e W' => e = .returned (.bool true) ∧ Below W.heap.size W W' := by
  obtain ⟨w1, v1, e1, p1, k1⟩ : ∃ (w : Int) (v : Nat) (e : Int), MayP w v e ∧ ∀ W, Calls Try.prog 13 #[.int .i64 op, .agg #[.int .i64 wa, .int .u64 va]] W fun x W' => x = Tup w v e ∧ Below W.heap.size W W' := ⟨_, _, _, un_may op wa va, fun W => un_any op wa va W ha⟩
  obtain ⟨w2, v2, e2, p2, k2⟩ : ∃ (w : Int) (v : Nat) (e : Int), MayP w v e ∧ ∀ W, Calls Try.prog 20 #[.int .i64 op, .agg #[.int .i64 wa, .int .u64 va], .agg #[.int .i64 wb, .int .u64 vb]] W fun x W' => x = Tup w v e ∧ Below W.heap.size W W' := ⟨_, _, _, bin_may op wa wb va vb, fun W => bin_any op wa wb va vb W ha hb⟩
  obtain ⟨w3, v3, e3, p3, k3⟩ : ∃ (w : Int) (v : Nat) (e : Int), MayP w v e ∧ ∀ W, Calls Try.prog 29 #[.int .i64 op, .int .i64 hi, .agg #[.int .i64 wa, .int .u64 va]] W fun x W' => x = Tup w v e ∧ Below W.heap.size W W' := ⟨_, _, _, ext_may op hi wa va, fun W => ext_any op hi wa va W ha⟩
  obtain ⟨w4, v4, e4, p4, k4⟩ : ∃ (w : Int) (v : Nat) (e : Int), MayP w v e ∧ ∀ W, Calls Try.prog 28 #[.agg #[.int .i64 wa, .int .u64 va], .int .i64 hi, .int .i64 lo] W fun x W' => x = Tup w v e ∧ Below W.heap.size W W' := ⟨_, _, _, slice_may wa hi lo va, fun W => slice_any wa hi lo va W ha⟩
  obtain ⟨w6, v6, e6, p6, k6⟩ : ∃ (w : Int) (v : Nat) (e : Int), MayP w v e ∧ ∀ W, Calls Try.prog 27 #[.agg #[.int .i64 wa, .int .u64 va], .int .i64 hi, .int .i64 lo, .agg #[.int .i64 wb, .int .u64 vb]] W fun x W' => x = Tup w v e ∧ Below W.heap.size W W' := ⟨_, _, _, set_may wa hi lo wb va vb, fun W => set_any wa hi lo wb va vb W ha hb⟩
  obtain ⟨w5, v5, e5, p5, k5⟩ : ∃ (w : Int) (v : Nat) (e : Int), MayP w v e ∧ ∀ b cap W, BitsAt W b 0 [(wa, va), (wb, vb)] → b < W.heap.size → Calls Try.prog 22 #[.slice (some ⟨b, 0, none⟩) 2 cap] W fun x W' => x = Tup w v e ∧ Below W.heap.size W W' := ⟨_, _, _, cat_may wa wb va vb, fun b cap W h h' => cat2_any wa wb va vb b cap W h h'⟩
  have m1 := may_c p1
  have m2 := may_c p2
  have m3 := may_c p3
  have m4 := may_c p4
  have m5 := may_c p5
  have m6 := may_c p6
  have kl : ∀ W, Calls Try.prog 15 #[] W fun e W' => e = .returned (.bool true) ∧ Below W.heap.size W W' := live_any
  have k1h := Lib.hid k1
  have k2h := Lib.hid k2
  have k3h := Lib.hid k3
  have k4h := Lib.hid k4
  have k5h := Lib.hid k5
  have k6h := Lib.hid k6
  have m1h := Lib.hid m1
  have m2h := Lib.hid m2
  have m3h := Lib.hid m3
  have m4h := Lib.hid m4
  have m5h := Lib.hid m5
  have m6h := Lib.hid m6
  have klh := Lib.hid kl
  clear k1 k2 k3 k4 k5 k6 m1 m2 m3 m4 m5 m6 kl
  obtain ⟨A, B⟩ := Box.two W (.int .i64 wa) (.int .u64 va) (.int .i64 wb) (.int .u64 vb)
  have hW : Below W.heap.size W ((W.alloc (.cells #[.int .i64 wa, .int .u64 va] 24)).alloc (.cells #[.int .i64 wb, .int .u64 vb] 24)) := ((Below.refl _ _).alloc (Nat.le_refl _) _).alloc (by simp) _
  clear p1 p2 p3 p4 p5 p6
  go_enter Try.func12, Try.ntmps12
  go_wp2_with fail
  generalize (W.alloc (.cells #[.int .i64 wa, .int .u64 va] 24)).alloc (.cells #[.int .i64 wb, .int .u64 vb] 24) = Y0 at *
  obtain ⟨A0, A1, _, _, _⟩ := id A
  obtain ⟨B0, B1, _, _, _⟩ := id B
  go_wp2_with fail
  refine Calls.mono (k1h _) ?_
  rintro e W1 ⟨rfl, h1⟩
  clear A0 A1 B0 B1
  replace A := (A.later h1).alloc (.cells #[.int .i64 w1, .int .u64 v1] 24)
  replace B := (B.later h1).alloc (.cells #[.int .i64 w1, .int .u64 v1] 24)
  replace hW := hW.trans (h1.mono hW.size)
  clear h1
  replace hW := hW.alloc hW.size (.cells #[.int .i64 w1, .int .u64 v1] 24)
  have X1 := Box.new W1 (.int .i64 w1) (.int .u64 v1) 24
  obtain ⟨A0, A1, _, _, _⟩ := id A
  obtain ⟨B0, B1, _, _, _⟩ := id B
  go_wp2_with fail
  refine Calls.mono (k2h _) ?_
  rintro e W2 ⟨rfl, h1⟩
  clear A0 A1 B0 B1
  replace A := (A.later h1).alloc (.cells #[.int .i64 w2, .int .u64 v2] 24)
  replace B := (B.later h1).alloc (.cells #[.int .i64 w2, .int .u64 v2] 24)
  replace X1 := (X1.later h1).alloc (.cells #[.int .i64 w2, .int .u64 v2] 24)
  replace hW := hW.trans (h1.mono hW.size)
  clear h1
  replace hW := hW.alloc hW.size (.cells #[.int .i64 w2, .int .u64 v2] 24)
  have X2 := Box.new W2 (.int .i64 w2) (.int .u64 v2) 24
  obtain ⟨A0, A1, _, _, _⟩ := id A
  obtain ⟨B0, B1, _, _, _⟩ := id B
  go_wp2_with fail
  refine Calls.mono (k3h _) ?_
  rintro e W3 ⟨rfl, h1⟩
  clear A0 A1 B0 B1
  replace A := (A.later h1).alloc (.cells #[.int .i64 w3, .int .u64 v3] 24)
  replace B := (B.later h1).alloc (.cells #[.int .i64 w3, .int .u64 v3] 24)
  replace X1 := (X1.later h1).alloc (.cells #[.int .i64 w3, .int .u64 v3] 24)
  replace X2 := (X2.later h1).alloc (.cells #[.int .i64 w3, .int .u64 v3] 24)
  replace hW := hW.trans (h1.mono hW.size)
  clear h1
  replace hW := hW.alloc hW.size (.cells #[.int .i64 w3, .int .u64 v3] 24)
  have X3 := Box.new W3 (.int .i64 w3) (.int .u64 v3) 24
  obtain ⟨A0, A1, _, _, _⟩ := id A
  obtain ⟨B0, B1, _, _, _⟩ := id B
  go_wp2_with fail
  refine Calls.mono (k4h _) ?_
  rintro e W4 ⟨rfl, h1⟩
  clear A0 A1 B0 B1
  replace A := (A.later h1).alloc (.cells #[.int .i64 w4, .int .u64 v4] 24)
  replace B := (B.later h1).alloc (.cells #[.int .i64 w4, .int .u64 v4] 24)
  replace X1 := (X1.later h1).alloc (.cells #[.int .i64 w4, .int .u64 v4] 24)
  replace X2 := (X2.later h1).alloc (.cells #[.int .i64 w4, .int .u64 v4] 24)
  replace X3 := (X3.later h1).alloc (.cells #[.int .i64 w4, .int .u64 v4] 24)
  replace hW := hW.trans (h1.mono hW.size)
  clear h1
  replace hW := hW.alloc hW.size (.cells #[.int .i64 w4, .int .u64 v4] 24)
  have X4 := Box.new W4 (.int .i64 w4) (.int .u64 v4) 24
  obtain ⟨A0, A1, _, _, _⟩ := id A
  obtain ⟨B0, B1, _, _, _⟩ := id B
  go_wp2_with fail
  clear A0 A1 B0 B1
  have hs1 : W4.heap.size + 1 = (W4.alloc (.cells #[.int .i64 w4, .int .u64 v4] 24)).heap.size := by simp
  rw [hs1]
  clear hs1
  generalize W4.alloc (.cells #[.int .i64 w4, .int .u64 v4] 24) = Y1 at *
  replace A := A.alloc (.cells #[.int .i64 wa, .int .u64 va, .int .i64 wb, .int .u64 vb] 24)
  replace B := B.alloc (.cells #[.int .i64 wa, .int .u64 va, .int .i64 wb, .int .u64 vb] 24)
  replace X1 := X1.alloc (.cells #[.int .i64 wa, .int .u64 va, .int .i64 wb, .int .u64 vb] 24)
  replace X2 := X2.alloc (.cells #[.int .i64 wa, .int .u64 va, .int .i64 wb, .int .u64 vb] 24)
  replace X3 := X3.alloc (.cells #[.int .i64 wa, .int .u64 va, .int .i64 wb, .int .u64 vb] 24)
  replace X4 := X4.alloc (.cells #[.int .i64 wa, .int .u64 va, .int .i64 wb, .int .u64 vb] 24)
  replace hW := hW.alloc hW.size (.cells #[.int .i64 wa, .int .u64 va, .int .i64 wb, .int .u64 vb] 24)
  refine Calls.mono (k5h Y1.heap.size 2 _ (by simpa using bits2 Y1 wa wb va vb ha hb) (by simp)) ?_
  rintro e W5 ⟨rfl, h1⟩
  replace A := (A.later h1).alloc (.cells #[.int .i64 w5, .int .u64 v5] 24)
  replace B := (B.later h1).alloc (.cells #[.int .i64 w5, .int .u64 v5] 24)
  replace X1 := (X1.later h1).alloc (.cells #[.int .i64 w5, .int .u64 v5] 24)
  replace X2 := (X2.later h1).alloc (.cells #[.int .i64 w5, .int .u64 v5] 24)
  replace X3 := (X3.later h1).alloc (.cells #[.int .i64 w5, .int .u64 v5] 24)
  replace X4 := (X4.later h1).alloc (.cells #[.int .i64 w5, .int .u64 v5] 24)
  replace hW := hW.trans (h1.mono hW.size)
  clear h1
  replace hW := hW.alloc hW.size (.cells #[.int .i64 w5, .int .u64 v5] 24)
  have X5 := Box.new W5 (.int .i64 w5) (.int .u64 v5) 24
  obtain ⟨A0, A1, _, _, _⟩ := id A
  obtain ⟨B0, B1, _, _, _⟩ := id B
  go_wp2_with fail
  refine Calls.mono (k6h _) ?_
  rintro e W6 ⟨rfl, h1⟩
  clear A0 A1 B0 B1
  replace A := (A.later h1).alloc (.cells #[.int .i64 w6, .int .u64 v6] 24)
  replace B := (B.later h1).alloc (.cells #[.int .i64 w6, .int .u64 v6] 24)
  replace X1 := (X1.later h1).alloc (.cells #[.int .i64 w6, .int .u64 v6] 24)
  replace X2 := (X2.later h1).alloc (.cells #[.int .i64 w6, .int .u64 v6] 24)
  replace X3 := (X3.later h1).alloc (.cells #[.int .i64 w6, .int .u64 v6] 24)
  replace X4 := (X4.later h1).alloc (.cells #[.int .i64 w6, .int .u64 v6] 24)
  replace X5 := (X5.later h1).alloc (.cells #[.int .i64 w6, .int .u64 v6] 24)
  replace hW := hW.trans (h1.mono hW.size)
  clear h1
  replace hW := hW.alloc hW.size (.cells #[.int .i64 w6, .int .u64 v6] 24)
  have X6 := Box.new W6 (.int .i64 w6) (.int .u64 v6) 24
  go_wp2_with fail
  refine Calls.mono (klh _) ?_
  rintro e W7 ⟨rfl, h1⟩
  replace A := A.later h1
  replace B := B.later h1
  replace X1 := X1.later h1
  replace X2 := X2.later h1
  replace X3 := X3.later h1
  replace X4 := X4.later h1
  replace X5 := X5.later h1
  replace X6 := X6.later h1
  replace hW := hW.trans (h1.mono hW.size)
  clear h1
  obtain ⟨X10, X11, _, _, _⟩ := id X1
  go_wp2_with fail
  refine Calls.mono (m1h _) ?_
  rintro e W8 ⟨rfl, h1⟩
  clear X10 X11
  replace A := A.later h1
  replace B := B.later h1
  replace X1 := X1.later h1
  replace X2 := X2.later h1
  replace X3 := X3.later h1
  replace X4 := X4.later h1
  replace X5 := X5.later h1
  replace X6 := X6.later h1
  replace hW := hW.trans (h1.mono hW.size)
  clear h1
  obtain ⟨X20, X21, _, _, _⟩ := id X2
  go_wp2_with fail
  refine Calls.mono (m2h _) ?_
  rintro e W9 ⟨rfl, h1⟩
  clear X20 X21
  replace A := A.later h1
  replace B := B.later h1
  replace X1 := X1.later h1
  replace X2 := X2.later h1
  replace X3 := X3.later h1
  replace X4 := X4.later h1
  replace X5 := X5.later h1
  replace X6 := X6.later h1
  replace hW := hW.trans (h1.mono hW.size)
  clear h1
  obtain ⟨X30, X31, _, _, _⟩ := id X3
  go_wp2_with fail
  refine Calls.mono (m3h _) ?_
  rintro e W10 ⟨rfl, h1⟩
  clear X30 X31
  replace A := A.later h1
  replace B := B.later h1
  replace X1 := X1.later h1
  replace X2 := X2.later h1
  replace X3 := X3.later h1
  replace X4 := X4.later h1
  replace X5 := X5.later h1
  replace X6 := X6.later h1
  replace hW := hW.trans (h1.mono hW.size)
  clear h1
  obtain ⟨X40, X41, _, _, _⟩ := id X4
  go_wp2_with fail
  refine Calls.mono (m4h _) ?_
  rintro e W11 ⟨rfl, h1⟩
  clear X40 X41
  replace A := A.later h1
  replace B := B.later h1
  replace X1 := X1.later h1
  replace X2 := X2.later h1
  replace X3 := X3.later h1
  replace X4 := X4.later h1
  replace X5 := X5.later h1
  replace X6 := X6.later h1
  replace hW := hW.trans (h1.mono hW.size)
  clear h1
  obtain ⟨X50, X51, _, _, _⟩ := id X5
  go_wp2_with fail
  refine Calls.mono (m5h _) ?_
  rintro e W12 ⟨rfl, h1⟩
  clear X50 X51
  replace A := A.later h1
  replace B := B.later h1
  replace X1 := X1.later h1
  replace X2 := X2.later h1
  replace X3 := X3.later h1
  replace X4 := X4.later h1
  replace X5 := X5.later h1
  replace X6 := X6.later h1
  replace hW := hW.trans (h1.mono hW.size)
  clear h1
  obtain ⟨X60, X61, _, _, _⟩ := id X6
  go_wp2_with fail
  refine Calls.mono (m6h _) ?_
  rintro e W13 ⟨rfl, h1⟩
  clear X60 X61
  replace A := A.later h1
  replace B := B.later h1
  replace X1 := X1.later h1
  replace X2 := X2.later h1
  replace X3 := X3.later h1
  replace X4 := X4.later h1
  replace X5 := X5.later h1
  replace X6 := X6.later h1
  replace hW := hW.trans (h1.mono hW.size)
  clear h1
  go_wp2
  go_ret
  exact ⟨rfl, hW⟩

end Go.Proofs.Ytafhnkhcbfilaaa
