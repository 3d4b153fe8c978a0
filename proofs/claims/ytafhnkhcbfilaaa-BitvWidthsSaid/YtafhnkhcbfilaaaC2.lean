/- The law's live: the examples of the chapter. -/
import Derived.Test.YtafhnkhcbfilaaaC1
import Derived.Test.YtafhnkhcbfilaaaR4
namespace Go.Proofs.Ytafhnkhcbfilaaa
open Go.RowKit Go.Flow Go.Sort
set_option linter.unusedVariables false
set_option linter.unusedSimpArgs false
set_option maxRecDepth 100000

theorem bin_live (op wa wb : Int) (va vb : Nat) (w : Int) (v : Nat) (e' : Int) (h1 : binW op wa va wb vb = w) (h2 : binV op wa va wb vb = v) (h3 : errE (binOk op wa va wb vb) = e') (W : World) (ha : va < 18446744073709551616) (hb : vb < 18446744073709551616) :
    Calls Try.prog 20 #[.int .i64 op, .agg #[.int .i64 wa, .int .u64 va], .agg #[.int .i64 wb, .int .u64 vb]] W fun e W' => e = Tup w v e' ∧ Below W.heap.size W W' :=
  (bin_any op wa wb va vb W ha hb).mono fun e W' h => ⟨by rw [h.1, h1, h2, h3], h.2⟩

theorem un_live (op wa : Int) (va : Nat) (w : Int) (v : Nat) (e' : Int) (h1 : unW op wa va = w) (h2 : unV op wa va = v) (h3 : errE (unOk op wa va) = e') (W : World) (ha : va < 18446744073709551616) :
    Calls Try.prog 13 #[.int .i64 op, .agg #[.int .i64 wa, .int .u64 va]] W fun e W' => e = Tup w v e' ∧ Below W.heap.size W W' :=
  (un_any op wa va W ha).mono fun e W' h => ⟨by rw [h.1, h1, h2, h3], h.2⟩

theorem cat_live (b cap : Nat) (W : World) (h : BitsAt W b 0 [(2, 2), (3, 5)]) (hb : b < W.heap.size) :
    Calls Try.prog 22 #[.slice (some ⟨b, 0, none⟩) 2 cap] W fun e W' => e = Tup 5 21 0 ∧ Below W.heap.size W W' :=
  (cat_yes b 0 cap [(2, 2), (3, 5)] W h hb (by simp) (by simp) (by decide)).mono fun e W' h => ⟨h.1.trans (tup_eq (by decide +kernel) (by decide +kernel) (by decide +kernel)), h.2⟩

theorem ext_live (W : World) : Calls Try.prog 29 #[.int .i64 32, .int .i64 6, .agg #[.int .i64 3, .int .u64 5]] W fun e W' => e = Tup 6 61 0 ∧ Below W.heap.size W W' :=
  (ext_any 32 6 3 5 W (by omega)).mono fun e W' h => ⟨h.1.trans (tup_eq (by decide +kernel) (by decide +kernel) (by decide +kernel)), h.2⟩

theorem slice_live (W : World) : Calls Try.prog 28 #[.agg #[.int .i64 8, .int .u64 180], .int .i64 5, .int .i64 2] W fun e W' => e = Tup 4 13 0 ∧ Below W.heap.size W W' :=
  (slice_any 8 5 2 180 W (by omega)).mono fun e W' h => ⟨h.1.trans (tup_eq (by decide +kernel) (by decide +kernel) (by decide +kernel)), h.2⟩

theorem set_live (W : World) : Calls Try.prog 27 #[.agg #[.int .i64 8, .int .u64 180], .int .i64 5, .int .i64 2, .agg #[.int .i64 4, .int .u64 0]] W fun e W' => e = Tup 8 128 0 ∧ Below W.heap.size W W' :=
  (set_any 8 5 2 4 180 0 W (by omega) (by omega)).mono fun e W' h => ⟨h.1.trans (tup_eq (by decide +kernel) (by decide +kernel) (by decide +kernel)), h.2⟩

theorem catnil_live (W : World) : Calls Try.prog 22 #[.slice none 0 0] W fun e W' => e = Tup 0 0 1 ∧ Below W.heap.size W W' :=
  (cat_nil W).mono fun e W' h => ⟨h.1.trans (tup_eq (by decide +kernel) (by decide +kernel) (by decide +kernel)), h.2⟩

theorem check_live (w : Int) (v : Nat) (e' : Int) (h : errE (mayB w v) = e') (W : World) (hv : v < 18446744073709551616) :
    Calls Try.prog 16 #[.agg #[.int .i64 w, .int .u64 v]] W fun e W' => e = .returned (.int .i64 e') ∧ Below W.heap.size W W' :=
  (check_any w v W hv).mono fun e W' k => ⟨by rw [k.1, h], k.2⟩

theorem mask_live (W : World) : Calls Try.prog 18 #[.int .i64 5] W fun e W' => e = .returned (.int .u64 31) ∧ Below W.heap.size W W' :=
  (mask_any 5 W).mono fun e W' k => ⟨k.1, by rw [← k.2]; exact Below.refl _ _⟩

set_option maxHeartbeats 4000000 in
theorem live_any (W : World) : Calls Try.prog 15 #[] W fun e W' => e = .returned (.bool true) ∧ Below W.heap.size W W' := by
  go_enter Try.func15, Try.ntmps15
  have hW : Below W.heap.size W W := Below.refl _ _
  go_wp2_with fail
  refine (lawBits_any 4 9 _).mono ?_
  rintro e W1 ⟨rfl, hb⟩
  replace hW := hW.trans (hb.mono hW.size)
  clear hb
  go_wp2_with fail
  refine (lawBits_any 4 8 _).mono ?_
  rintro e W2 ⟨rfl, hb⟩
  replace hW := hW.trans (hb.mono hW.size)
  clear hb
  go_wp2_with fail
  refine (bin_live 14 4 4 9 8 4 1 0 (by decide +kernel) (by decide +kernel) (by decide +kernel) _ (by omega) (by omega)).mono ?_
  rintro e W3 ⟨rfl, hb⟩
  replace hW := hW.trans (hb.mono hW.size)
  clear hb
  have b0 := Box.new W3 (.int .i64 4) (.int .u64 1) 24
  replace hW := hW.alloc hW.size (.cells #[.int .i64 4, .int .u64 1] 24)
  go_wp2_with fail
  refine (lawBits_any 4 9 _).mono ?_
  rintro e W4 ⟨rfl, hb⟩
  replace b0 := b0.later hb
  replace hW := hW.trans (hb.mono hW.size)
  clear hb
  go_wp2_with fail
  refine (lawBits_any 2 1 _).mono ?_
  rintro e W5 ⟨rfl, hb⟩
  replace b0 := b0.later hb
  replace hW := hW.trans (hb.mono hW.size)
  clear hb
  go_wp2_with fail
  refine (bin_live 17 4 2 9 1 4 2 0 (by decide +kernel) (by decide +kernel) (by decide +kernel) _ (by omega) (by omega)).mono ?_
  rintro e W6 ⟨rfl, hb⟩
  replace b0 := b0.later hb
  replace hW := hW.trans (hb.mono hW.size)
  clear hb
  replace b0 := b0.alloc (.cells #[.int .i64 4, .int .u64 2] 24)
  have b1 := Box.new W6 (.int .i64 4) (.int .u64 2) 24
  replace hW := hW.alloc hW.size (.cells #[.int .i64 4, .int .u64 2] 24)
  go_wp2_with fail
  refine (lawBits_any 3 5 _).mono ?_
  rintro e W7 ⟨rfl, hb⟩
  replace b0 := b0.later hb
  replace b1 := b1.later hb
  replace hW := hW.trans (hb.mono hW.size)
  clear hb
  go_wp2_with fail
  refine (ext_live _).mono ?_
  rintro e W8 ⟨rfl, hb⟩
  replace b0 := b0.later hb
  replace b1 := b1.later hb
  replace hW := hW.trans (hb.mono hW.size)
  clear hb
  replace b0 := b0.alloc (.cells #[.int .i64 6, .int .u64 61] 24)
  replace b1 := b1.alloc (.cells #[.int .i64 6, .int .u64 61] 24)
  have b2 := Box.new W8 (.int .i64 6) (.int .u64 61) 24
  replace hW := hW.alloc hW.size (.cells #[.int .i64 6, .int .u64 61] 24)
  go_wp2_with fail
  refine (lawBits_any 2 2 _).mono ?_
  rintro e W9 ⟨rfl, hb⟩
  replace b0 := b0.later hb
  replace b1 := b1.later hb
  replace b2 := b2.later hb
  replace hW := hW.trans (hb.mono hW.size)
  clear hb
  go_wp2_with fail
  refine (lawBits_any 3 5 _).mono ?_
  rintro e W10 ⟨rfl, hb⟩
  replace b0 := b0.later hb
  replace b1 := b1.later hb
  replace b2 := b2.later hb
  replace hW := hW.trans (hb.mono hW.size)
  clear hb
  go_wp2_with fail
  replace b0 := b0.alloc (.cells #[.int .i64 2, .int .u64 2, .int .i64 3, .int .u64 5] 24)
  replace b1 := b1.alloc (.cells #[.int .i64 2, .int .u64 2, .int .i64 3, .int .u64 5] 24)
  replace b2 := b2.alloc (.cells #[.int .i64 2, .int .u64 2, .int .i64 3, .int .u64 5] 24)
  replace hW := hW.alloc hW.size (.cells #[.int .i64 2, .int .u64 2, .int .i64 3, .int .u64 5] 24)
  refine (cat_live W10.heap.size 2 _ (by simpa using bits2 W10 2 3 2 5 (by omega) (by omega)) (by simp)).mono ?_
  rintro e W11 ⟨rfl, hb⟩
  replace b0 := b0.later hb
  replace b1 := b1.later hb
  replace b2 := b2.later hb
  replace hW := hW.trans (hb.mono hW.size)
  clear hb
  replace b0 := b0.alloc (.cells #[.int .i64 5, .int .u64 21] 24)
  replace b1 := b1.alloc (.cells #[.int .i64 5, .int .u64 21] 24)
  replace b2 := b2.alloc (.cells #[.int .i64 5, .int .u64 21] 24)
  have b3 := Box.new W11 (.int .i64 5) (.int .u64 21) 24
  replace hW := hW.alloc hW.size (.cells #[.int .i64 5, .int .u64 21] 24)
  go_wp2_with fail
  refine (lawBits_any 4 9 _).mono ?_
  rintro e W12 ⟨rfl, hb⟩
  replace b0 := b0.later hb
  replace b1 := b1.later hb
  replace b2 := b2.later hb
  replace b3 := b3.later hb
  replace hW := hW.trans (hb.mono hW.size)
  clear hb
  go_wp2_with fail
  refine (lawBits_any 3 1 _).mono ?_
  rintro e W13 ⟨rfl, hb⟩
  replace b0 := b0.later hb
  replace b1 := b1.later hb
  replace b2 := b2.later hb
  replace b3 := b3.later hb
  replace hW := hW.trans (hb.mono hW.size)
  clear hb
  go_wp2_with fail
  refine (bin_live 14 4 3 9 1 0 0 1 (by decide +kernel) (by decide +kernel) (by decide +kernel) _ (by omega) (by omega)).mono ?_
  rintro e W14 ⟨rfl, hb⟩
  replace b0 := b0.later hb
  replace b1 := b1.later hb
  replace b2 := b2.later hb
  replace b3 := b3.later hb
  replace hW := hW.trans (hb.mono hW.size)
  clear hb
  replace b0 := b0.alloc (.cells #[.int .i64 0, .int .u64 0] 24)
  replace b1 := b1.alloc (.cells #[.int .i64 0, .int .u64 0] 24)
  replace b2 := b2.alloc (.cells #[.int .i64 0, .int .u64 0] 24)
  replace b3 := b3.alloc (.cells #[.int .i64 0, .int .u64 0] 24)
  replace hW := hW.alloc hW.size (.cells #[.int .i64 0, .int .u64 0] 24)
  go_wp2_with fail
  refine (lawBits_any 8 180 _).mono ?_
  rintro e W15 ⟨rfl, hb⟩
  replace b0 := b0.later hb
  replace b1 := b1.later hb
  replace b2 := b2.later hb
  replace b3 := b3.later hb
  replace hW := hW.trans (hb.mono hW.size)
  clear hb
  go_wp2_with fail
  refine (slice_live _).mono ?_
  rintro e W16 ⟨rfl, hb⟩
  replace b0 := b0.later hb
  replace b1 := b1.later hb
  replace b2 := b2.later hb
  replace b3 := b3.later hb
  replace hW := hW.trans (hb.mono hW.size)
  clear hb
  replace b0 := b0.alloc (.cells #[.int .i64 4, .int .u64 13] 24)
  replace b1 := b1.alloc (.cells #[.int .i64 4, .int .u64 13] 24)
  replace b2 := b2.alloc (.cells #[.int .i64 4, .int .u64 13] 24)
  replace b3 := b3.alloc (.cells #[.int .i64 4, .int .u64 13] 24)
  have b5 := Box.new W16 (.int .i64 4) (.int .u64 13) 24
  replace hW := hW.alloc hW.size (.cells #[.int .i64 4, .int .u64 13] 24)
  go_wp2_with fail
  refine (lawBits_any 8 180 _).mono ?_
  rintro e W17 ⟨rfl, hb⟩
  replace b0 := b0.later hb
  replace b1 := b1.later hb
  replace b2 := b2.later hb
  replace b3 := b3.later hb
  replace b5 := b5.later hb
  replace hW := hW.trans (hb.mono hW.size)
  clear hb
  go_wp2_with fail
  refine (lawBits_any 4 0 _).mono ?_
  rintro e W18 ⟨rfl, hb⟩
  replace b0 := b0.later hb
  replace b1 := b1.later hb
  replace b2 := b2.later hb
  replace b3 := b3.later hb
  replace b5 := b5.later hb
  replace hW := hW.trans (hb.mono hW.size)
  clear hb
  go_wp2_with fail
  refine (set_live _).mono ?_
  rintro e W19 ⟨rfl, hb⟩
  replace b0 := b0.later hb
  replace b1 := b1.later hb
  replace b2 := b2.later hb
  replace b3 := b3.later hb
  replace b5 := b5.later hb
  replace hW := hW.trans (hb.mono hW.size)
  clear hb
  replace b0 := b0.alloc (.cells #[.int .i64 8, .int .u64 128] 24)
  replace b1 := b1.alloc (.cells #[.int .i64 8, .int .u64 128] 24)
  replace b2 := b2.alloc (.cells #[.int .i64 8, .int .u64 128] 24)
  replace b3 := b3.alloc (.cells #[.int .i64 8, .int .u64 128] 24)
  replace b5 := b5.alloc (.cells #[.int .i64 8, .int .u64 128] 24)
  have b6 := Box.new W19 (.int .i64 8) (.int .u64 128) 24
  replace hW := hW.alloc hW.size (.cells #[.int .i64 8, .int .u64 128] 24)
  go_wp2_with fail
  refine (lawBits_any 4 1 _).mono ?_
  rintro e W20 ⟨rfl, hb⟩
  replace b0 := b0.later hb
  replace b1 := b1.later hb
  replace b2 := b2.later hb
  replace b3 := b3.later hb
  replace b5 := b5.later hb
  replace b6 := b6.later hb
  replace hW := hW.trans (hb.mono hW.size)
  clear hb
  go_wp2_with fail
  refine (un_live 2 4 1 4 15 0 (by decide +kernel) (by decide +kernel) (by decide +kernel) _ (by omega)).mono ?_
  rintro e W21 ⟨rfl, hb⟩
  replace b0 := b0.later hb
  replace b1 := b1.later hb
  replace b2 := b2.later hb
  replace b3 := b3.later hb
  replace b5 := b5.later hb
  replace b6 := b6.later hb
  replace hW := hW.trans (hb.mono hW.size)
  clear hb
  replace b0 := b0.alloc (.cells #[.int .i64 4, .int .u64 15] 24)
  replace b1 := b1.alloc (.cells #[.int .i64 4, .int .u64 15] 24)
  replace b2 := b2.alloc (.cells #[.int .i64 4, .int .u64 15] 24)
  replace b3 := b3.alloc (.cells #[.int .i64 4, .int .u64 15] 24)
  replace b5 := b5.alloc (.cells #[.int .i64 4, .int .u64 15] 24)
  replace b6 := b6.alloc (.cells #[.int .i64 4, .int .u64 15] 24)
  have b7 := Box.new W21 (.int .i64 4) (.int .u64 15) 24
  replace hW := hW.alloc hW.size (.cells #[.int .i64 4, .int .u64 15] 24)
  go_wp2_with fail
  refine (catnil_live _).mono ?_
  rintro e W22 ⟨rfl, hb⟩
  replace b0 := b0.later hb
  replace b1 := b1.later hb
  replace b2 := b2.later hb
  replace b3 := b3.later hb
  replace b5 := b5.later hb
  replace b6 := b6.later hb
  replace b7 := b7.later hb
  replace hW := hW.trans (hb.mono hW.size)
  clear hb
  replace b0 := b0.alloc (.cells #[.int .i64 0, .int .u64 0] 24)
  replace b1 := b1.alloc (.cells #[.int .i64 0, .int .u64 0] 24)
  replace b2 := b2.alloc (.cells #[.int .i64 0, .int .u64 0] 24)
  replace b3 := b3.alloc (.cells #[.int .i64 0, .int .u64 0] 24)
  replace b5 := b5.alloc (.cells #[.int .i64 0, .int .u64 0] 24)
  replace b6 := b6.alloc (.cells #[.int .i64 0, .int .u64 0] 24)
  replace b7 := b7.alloc (.cells #[.int .i64 0, .int .u64 0] 24)
  replace hW := hW.alloc hW.size (.cells #[.int .i64 0, .int .u64 0] 24)
  go_wp2_with fail
  refine (lawBits_any 1 1 _).mono ?_
  rintro e W23 ⟨rfl, hb⟩
  replace b0 := b0.later hb
  replace b1 := b1.later hb
  replace b2 := b2.later hb
  replace b3 := b3.later hb
  replace b5 := b5.later hb
  replace b6 := b6.later hb
  replace b7 := b7.later hb
  replace hW := hW.trans (hb.mono hW.size)
  clear hb
  go_wp2_with fail
  refine (lawBits_any 2 3 _).mono ?_
  rintro e W24 ⟨rfl, hb⟩
  replace b0 := b0.later hb
  replace b1 := b1.later hb
  replace b2 := b2.later hb
  replace b3 := b3.later hb
  replace b5 := b5.later hb
  replace b6 := b6.later hb
  replace b7 := b7.later hb
  replace hW := hW.trans (hb.mono hW.size)
  clear hb
  go_wp2_with fail
  refine (lawBits_any 2 0 _).mono ?_
  rintro e W25 ⟨rfl, hb⟩
  replace b0 := b0.later hb
  replace b1 := b1.later hb
  replace b2 := b2.later hb
  replace b3 := b3.later hb
  replace b5 := b5.later hb
  replace b6 := b6.later hb
  replace b7 := b7.later hb
  replace hW := hW.trans (hb.mono hW.size)
  clear hb
  go_wp2_with fail
  refine (cond_example _).mono ?_
  rintro e W26 ⟨rfl, hb⟩
  replace b0 := b0.later hb
  replace b1 := b1.later hb
  replace b2 := b2.later hb
  replace b3 := b3.later hb
  replace b5 := b5.later hb
  replace b6 := b6.later hb
  replace b7 := b7.later hb
  replace hW := hW.trans (hb.mono hW.size)
  clear hb
  replace b0 := b0.alloc (.cells #[.int .i64 2, .int .u64 3] 24)
  replace b1 := b1.alloc (.cells #[.int .i64 2, .int .u64 3] 24)
  replace b2 := b2.alloc (.cells #[.int .i64 2, .int .u64 3] 24)
  replace b3 := b3.alloc (.cells #[.int .i64 2, .int .u64 3] 24)
  replace b5 := b5.alloc (.cells #[.int .i64 2, .int .u64 3] 24)
  replace b6 := b6.alloc (.cells #[.int .i64 2, .int .u64 3] 24)
  replace b7 := b7.alloc (.cells #[.int .i64 2, .int .u64 3] 24)
  have b9 := Box.new W26 (.int .i64 2) (.int .u64 3) 24
  replace hW := hW.alloc hW.size (.cells #[.int .i64 2, .int .u64 3] 24)
  go_wp2_with fail
  generalize hX : W26.alloc (.cells #[.int .i64 2, .int .u64 3] 24) = X at *
  clear hX
  have b00 := cell_regrown b0.c0
  have b01 := cell_regrown b0.c1
  clear b0
  have b10 := cell_regrown b1.c0
  have b11 := cell_regrown b1.c1
  clear b1
  have b20 := cell_regrown b2.c0
  have b21 := cell_regrown b2.c1
  clear b2
  have b30 := cell_regrown b3.c0
  have b31 := cell_regrown b3.c1
  clear b3
  have b50 := cell_regrown b5.c0
  have b51 := cell_regrown b5.c1
  clear b5
  have b60 := cell_regrown b6.c0
  have b61 := cell_regrown b6.c1
  clear b6
  have b70 := cell_regrown b7.c0
  have b71 := cell_regrown b7.c1
  clear b7
  have b90 := cell_regrown b9.c0
  have b91 := cell_regrown b9.c1
  clear b9
  have c4x1 := fun d os => Calls.regrown_of (lawBits_any 4 1 (grow (redrawn X d) os))
  have c4x2 := fun d os => Calls.regrown_of (lawBits_any 4 2 (grow (redrawn X d) os))
  have c6x61 := fun d os => Calls.regrown_of (lawBits_any 6 61 (grow (redrawn X d) os))
  have c5x21 := fun d os => Calls.regrown_of (lawBits_any 5 21 (grow (redrawn X d) os))
  have c4x13 := fun d os => Calls.regrown_of (lawBits_any 4 13 (grow (redrawn X d) os))
  have c8x128 := fun d os => Calls.regrown_of (lawBits_any 8 128 (grow (redrawn X d) os))
  have c4x15 := fun d os => Calls.regrown_of (lawBits_any 4 15 (grow (redrawn X d) os))
  have c2x3 := fun d os => Calls.regrown_of (lawBits_any 2 3 (grow (redrawn X d) os))
  have c3x8 := fun d os => Calls.regrown_of (lawBits_any 3 8 (grow (redrawn X d) os))
  have c64x9223372036854775808 := fun d os => Calls.regrown_of (lawBits_any 64 9223372036854775808 (grow (redrawn X d) os))
  have k1 := fun d os => Calls.regrown_of (check_live 3 8 1 (by decide +kernel) (grow (redrawn X d) os) (by omega))
  have k2 := fun d os => Calls.regrown_of (check_live 64 9223372036854775808 0 (by decide +kernel) (grow (redrawn X d) os) (by omega))
  have k3 := fun d os => Calls.regrown_of (mask_live (grow (redrawn X d) os))
  refine wp_region_quiet_fast (by kernel_rfl) (by kernel_rfl) (by kernel_rfl) ?_
  simp only [List.append_eq, List.cons_append, List.nil_append]
  repeat (go_big_quiet_step (first | exact c4x1 _ _ | exact c4x2 _ _ | exact c6x61 _ _ | exact c5x21 _ _ | exact c4x13 _ _ | exact c8x128 _ _ | exact c4x15 _ _ | exact c2x3 _ _ | exact c3x8 _ _ | exact c64x9223372036854775808 _ _ | exact k1 _ _ | exact k2 _ _ | exact k3 _ _))
  refine wpQuiet_nil ?_
  intro _ hw'
  obtain ⟨⟨dq, osq⟩, hw''⟩ := hw'
  subst hw''
  go_wp2
  go_ret
  exact ⟨rfl, hW.trans ((below_regrown X dq osq).mono hW.size)⟩

end Go.Proofs.Ytafhnkhcbfilaaa
