/- Texts of the seat, merged. -/
import Derived.Test.YtlcfpdmicpggbaaGreatDoorQ11
set_option linter.unusedVariables false
set_option linter.unusedSimpArgs false
set_option maxRecDepth 100000
set_option maxHeartbeats 16000000
namespace Go.Proofs.YtlcfpdmicpggbaaGreatDoor
open Go.RowKit Go.Proofs.Spl Go.Proofs.Scn Go.Shelf
theorem cells4 {W : World} {b : Nat} {v0 v1 v2 v3 : Value} {T : TypeId} (h : W.heap[b]? = some (.cells #[v0, v1, v2, v3] T (0, 0))) : W.cell? ⟨b, 0, none⟩ = some v0 ∧ W.cell? ⟨b, 1, none⟩ = some v1 ∧ W.cell? ⟨b, 2, none⟩ = some v2 ∧ W.cell? ⟨b, 3, none⟩ = some v3 :=
 ⟨(cell_of_row _ _ _ _ _ _ h).trans rfl, (cell_of_row _ _ _ _ _ _ h).trans rfl, (cell_of_row _ _ _ _ _ _ h).trans rfl, (cell_of_row _ _ _ _ _ _ h).trans rfl⟩
theorem target_any (op : Int) (r : List Value) (name : Ln) (n w : Int) (v : Nat) (vl : Value) (W : World) :
  Calls Tryz.prog 74 #[.agg #[.int .i64 op, .string (bs name), .int .i64 n, .int .i64 w, .int .u64 v, vl]] W fun e W' => e = .returned (.bool (namedO op)) ∧ Below W.heap.size W W' := by
 have hv : namedO op = (decide (2 ≤ op) && decide (op ≤ 4)) := by
  rw [Bool.eq_iff_iff]; simp [namedO]; omega
 rw [hv]
 by_cases h : 2 ≤ op
 ·have hd : decide (2 ≤ op) = true := by simpa using h
  go_enter Tryz.func74, Tryz.ntmps74
  go_wp2
  go_ret
  exact ⟨by simp [h], (Below.refl _ _).alloc (Nat.le_refl _) _⟩
 ·have hd : decide (2 ≤ op) = false := by simpa using h
  go_enter Tryz.func74, Tryz.ntmps74
  go_wp2
  go_ret
  exact ⟨by simp [h], (Below.refl _ _).alloc (Nat.le_refl _) _⟩
theorem afits_yes (s : Ln) (hs : s.length ≤ 140737488355328) (W : World) (hB : Base W) : Calls Tryz.prog 205 #[.string (bs s), .bool true] W fun e W' => e = .returned (.bool (isName s)) ∧ Below W.heap.size W W' := by
 have HN := Lib.hid (aname_any s hs W hB)
 clear hB
 cases hn : isName s with
 | true =>
  rw [hn] at HN
  go_enter Tryz.func205, Tryz.ntmps205
  go_wp2_with (go_at_call 158; refine HN.out.mono ?_; rintro e W3 ⟨rfl, hb⟩; have B3 := Lib.hid hb; clear hb)
  go_ret
  exact ⟨rfl, B3.out⟩
 | false =>
  rw [hn] at HN
  go_enter Tryz.func205, Tryz.ntmps205
  go_wp2_with (go_at_call 158; refine HN.out.mono ?_; rintro e W3 ⟨rfl, hb⟩; have B3 := Lib.hid hb; clear hb)
  go_ret
  exact ⟨rfl, B3.out⟩
theorem afits_no (s : Ln) (W : World) : Calls Tryz.prog 205 #[.string (bs s), .bool false] W fun e W' => e = .returned (.bool s.isEmpty) ∧ Below W.heap.size W W' := by
 have hse : (bs s).toList.isEmpty = s.isEmpty := by rw [Lib.toList_data, list_bs]
 go_enter Tryz.func205, Tryz.ntmps205
 go_wp2
 go_ret
 exact ⟨rfl, Below.refl _ _⟩
theorem afits_any (s : Ln) (b : Bool) (hs : s.length ≤ 140737488355328) (W : World) (hB : Base W) : Calls Tryz.prog 205 #[.string (bs s), .bool b] W fun e W' => e = .returned (.bool (if b then isName s else s.isEmpty)) ∧ Below W.heap.size W W' := by
 cases b with
 | true => exact afits_yes s hs W hB
 | false => exact afits_no s W
theorem goodB_ok (b : Bd) (hsm : smB b = true) (hsz : sizeB b ≤ 65536) : GoodB b := by
 intro W cs hB hR
 obtain ⟨xs, rfl, hX⟩ := hR
 have hX0 := hX
 obtain ⟨hv, ls, rfl, hL⟩ := XR_iff.1 hX
 unfold smB at hsm
 rw [Bool.and_eq_true] at hsm
 have HX := Lib.hid hX0
 have HN := Lib.hid (fun (W9 : World) (h : Below W.heap.size W W9) => aname_any b.name (of_decide_eq_true hsm.1) W9 (hB.later h).base)
 have HG := Lib.hid (fun (W9 : World) (h : Below W.heap.size W W9) => goodX_ok b.x hsm.2 (by unfold sizeB at hsz; omega) W9 _ (hB.later h) (XR.later h _ _ HX.out))
 have B1 := Lib.hid ((Below.refl W.heap.size W).alloc (Nat.le_refl _) (.cells #[.string (bs b.name), .int .i64 b.x.op, .string (bs b.x.name), .int .i64 b.x.n, .int .i64 b.x.w, .int .u64 b.x.v, ls] 159))
 have hc := World.alloc_heap_new W (.cells #[.string (bs b.name), .int .i64 b.x.op, .string (bs b.x.name), .int .i64 b.x.n, .int .i64 b.x.w, .int .u64 b.x.v, ls] 159)
 have HC := Lib.hid hc
 have ho : okB b = (isName b.name && okX b.x) := rfl
 have HO := Lib.hid ho
 clear hX0 hX hv hL hB hsm hc ho
 cases hn : isName b.name with
 | false =>
  rw [hn] at HN HO
  go_enter Tryz.func160, Tryz.ntmps160
  go_wp2_with (go_at_call 158; refine (HN.out _ B1.out).mono ?_; rintro e W3 ⟨rfl, hb⟩; have B3 := Lib.hid (B1.out.trans (hb.mono B1.out.size)); clear hb)
  go_ret
  exact ⟨by rw [HO.out]; rfl, B3.out⟩
 | true =>
  rw [hn] at HN HO
  go_enter Tryz.func160, Tryz.ntmps160
  go_wp2_with (first
   | (go_at_call 158; refine (HN.out _ B1.out).mono ?_; rintro e W3 ⟨rfl, hb⟩; have hc3 := (hb.block W.heap.size (by simp)).trans HC.out; have k0 : W3.cell? ⟨W.heap.size, 0, none⟩ = some (.string (bs b.name)) := (cell_of_row _ _ _ _ _ _ hc3).trans rfl; have k1 : W3.cell? ⟨W.heap.size, 1, none⟩ = some (.int .i64 b.x.op) := (cell_of_row _ _ _ _ _ _ hc3).trans rfl; have k2 : W3.cell? ⟨W.heap.size, 2, none⟩ = some (.string (bs b.x.name)) := (cell_of_row _ _ _ _ _ _ hc3).trans rfl; have k3 : W3.cell? ⟨W.heap.size, 3, none⟩ = some (.int .i64 b.x.n) := (cell_of_row _ _ _ _ _ _ hc3).trans rfl; have k4 : W3.cell? ⟨W.heap.size, 4, none⟩ = some (.int .i64 b.x.w) := (cell_of_row _ _ _ _ _ _ hc3).trans rfl; have k5 : W3.cell? ⟨W.heap.size, 5, none⟩ = some (.int .u64 b.x.v) := (cell_of_row _ _ _ _ _ _ hc3).trans rfl; have k6 : W3.cell? ⟨W.heap.size, 6, none⟩ = some (ls) := (cell_of_row _ _ _ _ _ _ hc3).trans rfl; have B3 := Lib.hid (B1.out.trans (hb.mono B1.out.size)); clear hb)
   | (go_at_call 68; refine (HG.out _ B3.out).mono ?_; rintro e W4 ⟨rfl, hb⟩; have B4 := Lib.hid (B3.out.trans (hb.mono B3.out.size)); clear hb))
  go_ret
  exact ⟨by rw [HO.out]; rfl, B4.out⟩
theorem goodP_ok (b : Pt) (hsm : smP b = true) (hsz : sizeP b ≤ 65536) : GoodP b := by
 intro W cs hB hR
 obtain ⟨xs, rfl, hX⟩ := hR
 have hX0 := hX
 obtain ⟨hv, ls, rfl, hL⟩ := XR_iff.1 hX
 unfold smP at hsm
 rw [Bool.and_eq_true] at hsm
 have HX := Lib.hid hX0
 have HN := Lib.hid (fun (W9 : World) (h : Below W.heap.size W W9) => aname_any b.name (of_decide_eq_true hsm.1) W9 (hB.later h).base)
 have HG := Lib.hid (fun (W9 : World) (h : Below W.heap.size W W9) => goodX_ok b.w hsm.2 (by unfold sizeP at hsz; omega) W9 _ (hB.later h) (XR.later h _ _ HX.out))
 have B1 := Lib.hid ((Below.refl W.heap.size W).alloc (Nat.le_refl _) (.cells #[.string (bs b.name), .bool b.out, .int .i64 b.w.op, .string (bs b.w.name), .int .i64 b.w.n, .int .i64 b.w.w, .int .u64 b.w.v, ls] 114))
 have hc := World.alloc_heap_new W (.cells #[.string (bs b.name), .bool b.out, .int .i64 b.w.op, .string (bs b.w.name), .int .i64 b.w.n, .int .i64 b.w.w, .int .u64 b.w.v, ls] 114)
 have HC := Lib.hid hc
 have ho : okP b = (isName b.name && okX b.w) := rfl
 have HO := Lib.hid ho
 clear hX0 hX hv hL hB hsm hc ho
 cases hn : isName b.name with
 | false =>
  rw [hn] at HN HO
  go_enter Tryz.func157, Tryz.ntmps157
  go_wp2_with (go_at_call 158; refine (HN.out _ B1.out).mono ?_; rintro e W3 ⟨rfl, hb⟩; have B3 := Lib.hid (B1.out.trans (hb.mono B1.out.size)); clear hb)
  go_ret
  exact ⟨by rw [HO.out]; rfl, B3.out⟩
 | true =>
  rw [hn] at HN HO
  go_enter Tryz.func157, Tryz.ntmps157
  go_wp2_with (first
   | (go_at_call 158; refine (HN.out _ B1.out).mono ?_; rintro e W3 ⟨rfl, hb⟩; have hc3 := (hb.block W.heap.size (by simp)).trans HC.out; have k0 : W3.cell? ⟨W.heap.size, 0, none⟩ = some (.string (bs b.name)) := (cell_of_row _ _ _ _ _ _ hc3).trans rfl; have k1 : W3.cell? ⟨W.heap.size, 1, none⟩ = some (.bool b.out) := (cell_of_row _ _ _ _ _ _ hc3).trans rfl; have k2 : W3.cell? ⟨W.heap.size, 2, none⟩ = some (.int .i64 b.w.op) := (cell_of_row _ _ _ _ _ _ hc3).trans rfl; have k3 : W3.cell? ⟨W.heap.size, 3, none⟩ = some (.string (bs b.w.name)) := (cell_of_row _ _ _ _ _ _ hc3).trans rfl; have k4 : W3.cell? ⟨W.heap.size, 4, none⟩ = some (.int .i64 b.w.n) := (cell_of_row _ _ _ _ _ _ hc3).trans rfl; have k5 : W3.cell? ⟨W.heap.size, 5, none⟩ = some (.int .i64 b.w.w) := (cell_of_row _ _ _ _ _ _ hc3).trans rfl; have k6 : W3.cell? ⟨W.heap.size, 6, none⟩ = some (.int .u64 b.w.v) := (cell_of_row _ _ _ _ _ _ hc3).trans rfl; have k7 : W3.cell? ⟨W.heap.size, 7, none⟩ = some (ls) := (cell_of_row _ _ _ _ _ _ hc3).trans rfl; have B3 := Lib.hid (B1.out.trans (hb.mono B1.out.size)); clear hb)
   | (go_at_call 68; refine (HG.out _ B3.out).mono ?_; rintro e W4 ⟨rfl, hb⟩; have B4 := Lib.hid (B3.out.trans (hb.mono B3.out.size)); clear hb))
  go_ret
  exact ⟨by rw [HO.out]; rfl, B4.out⟩
theorem goodS_x (W : World) (op : Int) (name : Ln) (m1 m2 c1 c2 : Nat) (px : Option Addr) (pl : Option Addr)
  (hX : ∀ W9, Below W.heap.size W W9 → Calls Tryz.prog 133 #[.slice px m1 c1, .func (.func 68) #[] #[]] W9 fun e W' => e = .returned (.bool (false)) ∧ Below W9.heap.size W9 W')
  : Calls Tryz.prog 118 #[.agg #[.int .i64 op, .string (bs name), .slice px m1 c1, .slice pl m2 c2]] W fun e W' => e = .returned (.bool (false)) ∧ Below W.heap.size W W' := by
 have HX := Lib.hid hX
 clear hX
 have B1 := Lib.hid ((Below.refl W.heap.size W).alloc (Nat.le_refl _) (.cells #[.int .i64 op, .string (bs name), .slice px m1 c1, .slice pl m2 c2] 31))
 have hc1 := World.alloc_heap_new W (.cells #[.int .i64 op, .string (bs name), .slice px m1 c1, .slice pl m2 c2] 31)
 have hl1 : W.heap.size < (W.alloc (.cells #[.int .i64 op, .string (bs name), .slice px m1 c1, .slice pl m2 c2] 31)).heap.size := by simp
 have HC1 := Lib.hid hc1
 have HL1 := Lib.hid hl1
 clear hc1 hl1
 go_enter Tryz.func118, Tryz.ntmps118
 go_wp2_with ((go_at_call 133; refine (HX.out _ B1.out).mono ?_; rintro e W2 ⟨rfl, hb⟩; have hc := (hb.block W.heap.size HL1.out).trans HC1.out; obtain ⟨k0, k1, k2, k3⟩ := cells4 hc;  have HC2 := Lib.hid hc; have HL2 := Lib.hid (Nat.lt_of_lt_of_le HL1.out hb.size); have B2 := Lib.hid (B1.out.trans (hb.mono B1.out.size)); clear hc hb))
 go_ret
 exact ⟨rfl, B2.out⟩
theorem goodS_n (W : World) (op : Int) (name : Ln) (m1 m2 c1 c2 : Nat) (px : Option Addr) (pl : Option Addr)  (h6 : op ≠ 6) (hs : name ≠ [])
  (hX : ∀ W9, Below W.heap.size W W9 → Calls Tryz.prog 133 #[.slice px m1 c1, .func (.func 68) #[] #[]] W9 fun e W' => e = .returned (.bool (true)) ∧ Below W9.heap.size W9 W')
  : Calls Tryz.prog 118 #[.agg #[.int .i64 op, .string (bs name), .slice px m1 c1, .slice pl m2 c2]] W fun e W' => e = .returned (.bool (false)) ∧ Below W.heap.size W W' := by
 have HX := Lib.hid hX
 clear hX
 have e6 : ¬ (op = 6) := h6
 have e6d : decide (op = 6) = false := by simpa using e6
 have e6b : (op == 6) = false := by simpa using e6
 have e6n : (op != 6) = true := by simpa using e6
 have hse : (bs name).toList.isEmpty = false := by rw [Lib.toList_data, list_bs]; simpa using hs
 have B1 := Lib.hid ((Below.refl W.heap.size W).alloc (Nat.le_refl _) (.cells #[.int .i64 op, .string (bs name), .slice px m1 c1, .slice pl m2 c2] 31))
 have hc1 := World.alloc_heap_new W (.cells #[.int .i64 op, .string (bs name), .slice px m1 c1, .slice pl m2 c2] 31)
 have hl1 : W.heap.size < (W.alloc (.cells #[.int .i64 op, .string (bs name), .slice px m1 c1, .slice pl m2 c2] 31)).heap.size := by simp
 have HC1 := Lib.hid hc1
 have HL1 := Lib.hid hl1
 clear hc1 hl1
 go_enter Tryz.func118, Tryz.ntmps118
 go_wp2_with ((go_at_call 133; refine (HX.out _ B1.out).mono ?_; rintro e W2 ⟨rfl, hb⟩; have hc := (hb.block W.heap.size HL1.out).trans HC1.out; obtain ⟨k0, k1, k2, k3⟩ := cells4 hc;  have HC2 := Lib.hid hc; have HL2 := Lib.hid (Nat.lt_of_lt_of_le HL1.out hb.size); have B2 := Lib.hid (B1.out.trans (hb.mono B1.out.size)); clear hc hb))
 go_ret
 exact ⟨rfl, B2.out⟩
theorem goodS_3n (W : World) (m1 m2 c1 c2 : Nat) (px : Option Addr) (pl : Option Addr)  (h1 : m1 ≠ 1)
  (hX : ∀ W9, Below W.heap.size W W9 → Calls Tryz.prog 133 #[.slice px m1 c1, .func (.func 68) #[] #[]] W9 fun e W' => e = .returned (.bool (true)) ∧ Below W9.heap.size W9 W')
  : Calls Tryz.prog 118 #[.agg #[.int .i64 3, .string (bs []), .slice px m1 c1, .slice pl m2 c2]] W fun e W' => e = .returned (.bool (false)) ∧ Below W.heap.size W W' := by
 have HX := Lib.hid hX
 clear hX
 have hse : (bs []).toList.isEmpty = true := by rw [Lib.toList_data, list_bs]; rfl
 have l0 : ¬ ((m1 : Int) = 1) := by omega
 have l1 : decide ((m1 : Int) = 1) = false := by simpa using l0
 have l2 : ((m1 : Int) == 1) = false := by simpa using l0
 have B1 := Lib.hid ((Below.refl W.heap.size W).alloc (Nat.le_refl _) (.cells #[.int .i64 3, .string (bs []), .slice px m1 c1, .slice pl m2 c2] 31))
 have hc1 := World.alloc_heap_new W (.cells #[.int .i64 3, .string (bs []), .slice px m1 c1, .slice pl m2 c2] 31)
 have hl1 : W.heap.size < (W.alloc (.cells #[.int .i64 3, .string (bs []), .slice px m1 c1, .slice pl m2 c2] 31)).heap.size := by simp
 have HC1 := Lib.hid hc1
 have HL1 := Lib.hid hl1
 clear hc1 hl1
 go_enter Tryz.func118, Tryz.ntmps118
 go_wp2_with ((go_at_call 133; refine (HX.out _ B1.out).mono ?_; rintro e W2 ⟨rfl, hb⟩; have hc := (hb.block W.heap.size HL1.out).trans HC1.out; obtain ⟨k0, k1, k2, k3⟩ := cells4 hc;  have HC2 := Lib.hid hc; have HL2 := Lib.hid (Nat.lt_of_lt_of_le HL1.out hb.size); have B2 := Lib.hid (B1.out.trans (hb.mono B1.out.size)); clear hc hb))
 go_ret
 exact ⟨rfl, B2.out⟩
theorem goodS_3y (W : World) (m2 c1 c2 : Nat) (px : Option Addr) (pl : Option Addr)  (b : Bool)
  (hX : ∀ W9, Below W.heap.size W W9 → Calls Tryz.prog 133 #[.slice px 1 c1, .func (.func 68) #[] #[]] W9 fun e W' => e = .returned (.bool (true)) ∧ Below W9.heap.size W9 W')
  (hA : ∀ W9, Below W.heap.size W W9 → Calls Tryz.prog 181 #[.slice pl m2 c2] W9 fun e W' => e = .returned (.bool (b)) ∧ Below W9.heap.size W9 W')
  : Calls Tryz.prog 118 #[.agg #[.int .i64 3, .string (bs []), .slice px 1 c1, .slice pl m2 c2]] W fun e W' => e = .returned (.bool (b)) ∧ Below W.heap.size W W' := by
 have HX := Lib.hid hX
 have HA := Lib.hid hA
 clear hX hA
 have hse : (bs []).toList.isEmpty = true := by rw [Lib.toList_data, list_bs]; rfl
 have B1 := Lib.hid ((Below.refl W.heap.size W).alloc (Nat.le_refl _) (.cells #[.int .i64 3, .string (bs []), .slice px 1 c1, .slice pl m2 c2] 31))
 have hc1 := World.alloc_heap_new W (.cells #[.int .i64 3, .string (bs []), .slice px 1 c1, .slice pl m2 c2] 31)
 have hl1 : W.heap.size < (W.alloc (.cells #[.int .i64 3, .string (bs []), .slice px 1 c1, .slice pl m2 c2] 31)).heap.size := by simp
 have HC1 := Lib.hid hc1
 have HL1 := Lib.hid hl1
 clear hc1 hl1
 go_enter Tryz.func118, Tryz.ntmps118
 go_wp2_with (first | (go_at_call 133; refine (HX.out _ B1.out).mono ?_; rintro e W2 ⟨rfl, hb⟩; have hc := (hb.block W.heap.size HL1.out).trans HC1.out; obtain ⟨k0, k1, k2, k3⟩ := cells4 hc;  have HC2 := Lib.hid hc; have HL2 := Lib.hid (Nat.lt_of_lt_of_le HL1.out hb.size); have B2 := Lib.hid (B1.out.trans (hb.mono B1.out.size)); clear hc hb) | (go_at_call 181; refine (HA.out _ B2.out).mono ?_; rintro e W3 ⟨rfl, hb⟩; have hc := (hb.block W.heap.size HL2.out).trans HC2.out; obtain ⟨k0, k1, k2, k3⟩ := cells4 hc;  have HC3 := Lib.hid hc; have HL3 := Lib.hid (Nat.lt_of_lt_of_le HL2.out hb.size); have B3 := Lib.hid (B2.out.trans (hb.mono B2.out.size)); clear hc hb))
 go_ret
 exact ⟨rfl, B3.out⟩
theorem goodS_6s (W : World) (name : Ln) (m1 m2 c1 c2 : Nat) (px : Option Addr) (pl : Option Addr)
  (hX : ∀ W9, Below W.heap.size W W9 → Calls Tryz.prog 133 #[.slice px m1 c1, .func (.func 68) #[] #[]] W9 fun e W' => e = .returned (.bool (true)) ∧ Below W9.heap.size W9 W')
  (hS : ∀ W9, Below W.heap.size W W9 → Calls Tryz.prog 182 #[.slice pl m2 c2, .func (.func 118) #[] #[]] W9 fun e W' => e = .returned (.bool (false)) ∧ Below W9.heap.size W9 W')
  : Calls Tryz.prog 118 #[.agg #[.int .i64 6, .string (bs name), .slice px m1 c1, .slice pl m2 c2]] W fun e W' => e = .returned (.bool (false)) ∧ Below W.heap.size W W' := by
 have HX := Lib.hid hX
 have HS := Lib.hid hS
 clear hX hS
 have B1 := Lib.hid ((Below.refl W.heap.size W).alloc (Nat.le_refl _) (.cells #[.int .i64 6, .string (bs name), .slice px m1 c1, .slice pl m2 c2] 31))
 have hc1 := World.alloc_heap_new W (.cells #[.int .i64 6, .string (bs name), .slice px m1 c1, .slice pl m2 c2] 31)
 have hl1 : W.heap.size < (W.alloc (.cells #[.int .i64 6, .string (bs name), .slice px m1 c1, .slice pl m2 c2] 31)).heap.size := by simp
 have HC1 := Lib.hid hc1
 have HL1 := Lib.hid hl1
 clear hc1 hl1
 go_enter Tryz.func118, Tryz.ntmps118
 go_wp2_with (first | (go_at_call 133; refine (HX.out _ B1.out).mono ?_; rintro e W2 ⟨rfl, hb⟩; have hc := (hb.block W.heap.size HL1.out).trans HC1.out; obtain ⟨k0, k1, k2, k3⟩ := cells4 hc;  have HC2 := Lib.hid hc; have HL2 := Lib.hid (Nat.lt_of_lt_of_le HL1.out hb.size); have B2 := Lib.hid (B1.out.trans (hb.mono B1.out.size)); clear hc hb) | (go_at_call 182; refine (HS.out _ B2.out).mono ?_; rintro e W3 ⟨rfl, hb⟩; have hc := (hb.block W.heap.size HL2.out).trans HC2.out; obtain ⟨k0, k1, k2, k3⟩ := cells4 hc;  have HC3 := Lib.hid hc; have HL3 := Lib.hid (Nat.lt_of_lt_of_le HL2.out hb.size); have B3 := Lib.hid (B2.out.trans (hb.mono B2.out.size)); clear hc hb))
 go_ret
 exact ⟨rfl, B3.out⟩
theorem goodS_os (W : World) (op : Int) (m1 m2 c1 c2 : Nat) (px : Option Addr) (pl : Option Addr)  (h6 : op ≠ 6) (h3 : op ≠ 3)
  (hX : ∀ W9, Below W.heap.size W W9 → Calls Tryz.prog 133 #[.slice px m1 c1, .func (.func 68) #[] #[]] W9 fun e W' => e = .returned (.bool (true)) ∧ Below W9.heap.size W9 W')
  (hS : ∀ W9, Below W.heap.size W W9 → Calls Tryz.prog 182 #[.slice pl m2 c2, .func (.func 118) #[] #[]] W9 fun e W' => e = .returned (.bool (false)) ∧ Below W9.heap.size W9 W')
  : Calls Tryz.prog 118 #[.agg #[.int .i64 op, .string (bs []), .slice px m1 c1, .slice pl m2 c2]] W fun e W' => e = .returned (.bool (false)) ∧ Below W.heap.size W W' := by
 have HX := Lib.hid hX
 have HS := Lib.hid hS
 clear hX hS
 have e6 : ¬ (op = 6) := h6
 have e6d : decide (op = 6) = false := by simpa using e6
 have e6b : (op == 6) = false := by simpa using e6
 have e6n : (op != 6) = true := by simpa using e6
 have e3 : ¬ (op = 3) := h3
 have e3d : decide (op = 3) = false := by simpa using e3
 have e3b : (op == 3) = false := by simpa using e3
 have e3n : (op != 3) = true := by simpa using e3
 have hse : (bs []).toList.isEmpty = true := by rw [Lib.toList_data, list_bs]; rfl
 have B1 := Lib.hid ((Below.refl W.heap.size W).alloc (Nat.le_refl _) (.cells #[.int .i64 op, .string (bs []), .slice px m1 c1, .slice pl m2 c2] 31))
 have hc1 := World.alloc_heap_new W (.cells #[.int .i64 op, .string (bs []), .slice px m1 c1, .slice pl m2 c2] 31)
 have hl1 : W.heap.size < (W.alloc (.cells #[.int .i64 op, .string (bs []), .slice px m1 c1, .slice pl m2 c2] 31)).heap.size := by simp
 have HC1 := Lib.hid hc1
 have HL1 := Lib.hid hl1
 clear hc1 hl1
 go_enter Tryz.func118, Tryz.ntmps118
 go_wp2_with (first | (go_at_call 133; refine (HX.out _ B1.out).mono ?_; rintro e W2 ⟨rfl, hb⟩; have hc := (hb.block W.heap.size HL1.out).trans HC1.out; obtain ⟨k0, k1, k2, k3⟩ := cells4 hc;  have HC2 := Lib.hid hc; have HL2 := Lib.hid (Nat.lt_of_lt_of_le HL1.out hb.size); have B2 := Lib.hid (B1.out.trans (hb.mono B1.out.size)); clear hc hb) | (go_at_call 182; refine (HS.out _ B2.out).mono ?_; rintro e W3 ⟨rfl, hb⟩; have hc := (hb.block W.heap.size HL2.out).trans HC2.out; obtain ⟨k0, k1, k2, k3⟩ := cells4 hc;  have HC3 := Lib.hid hc; have HL3 := Lib.hid (Nat.lt_of_lt_of_le HL2.out hb.size); have B3 := Lib.hid (B2.out.trans (hb.mono B2.out.size)); clear hc hb))
 go_ret
 exact ⟨rfl, B3.out⟩
theorem goodS_1a (W : World) (m1 m2 c1 c2 : Nat) (px : Option Addr) (pl : Option Addr)  (h1 : m1 ≠ 2)
  (hX : ∀ W9, Below W.heap.size W W9 → Calls Tryz.prog 133 #[.slice px m1 c1, .func (.func 68) #[] #[]] W9 fun e W' => e = .returned (.bool (true)) ∧ Below W9.heap.size W9 W')
  (hS : ∀ W9, Below W.heap.size W W9 → Calls Tryz.prog 182 #[.slice pl m2 c2, .func (.func 118) #[] #[]] W9 fun e W' => e = .returned (.bool (true)) ∧ Below W9.heap.size W9 W')
  : Calls Tryz.prog 118 #[.agg #[.int .i64 1, .string (bs []), .slice px m1 c1, .slice pl m2 c2]] W fun e W' => e = .returned (.bool (false)) ∧ Below W.heap.size W W' := by
 have HX := Lib.hid hX
 have HS := Lib.hid hS
 clear hX hS
 have hse : (bs []).toList.isEmpty = true := by rw [Lib.toList_data, list_bs]; rfl
 have l0 : ¬ ((m1 : Int) = 2) := by omega
 have l1 : decide ((m1 : Int) = 2) = false := by simpa using l0
 have l2 : ((m1 : Int) == 2) = false := by simpa using l0
 have B1 := Lib.hid ((Below.refl W.heap.size W).alloc (Nat.le_refl _) (.cells #[.int .i64 1, .string (bs []), .slice px m1 c1, .slice pl m2 c2] 31))
 have hc1 := World.alloc_heap_new W (.cells #[.int .i64 1, .string (bs []), .slice px m1 c1, .slice pl m2 c2] 31)
 have hl1 : W.heap.size < (W.alloc (.cells #[.int .i64 1, .string (bs []), .slice px m1 c1, .slice pl m2 c2] 31)).heap.size := by simp
 have HC1 := Lib.hid hc1
 have HL1 := Lib.hid hl1
 clear hc1 hl1
 go_enter Tryz.func118, Tryz.ntmps118
 go_wp2_with (first | (go_at_call 133; refine (HX.out _ B1.out).mono ?_; rintro e W2 ⟨rfl, hb⟩; have hc := (hb.block W.heap.size HL1.out).trans HC1.out; obtain ⟨k0, k1, k2, k3⟩ := cells4 hc;  have HC2 := Lib.hid hc; have HL2 := Lib.hid (Nat.lt_of_lt_of_le HL1.out hb.size); have B2 := Lib.hid (B1.out.trans (hb.mono B1.out.size)); clear hc hb) | (go_at_call 182; refine (HS.out _ B2.out).mono ?_; rintro e W3 ⟨rfl, hb⟩; have hc := (hb.block W.heap.size HL2.out).trans HC2.out; obtain ⟨k0, k1, k2, k3⟩ := cells4 hc;  have HC3 := Lib.hid hc; have HL3 := Lib.hid (Nat.lt_of_lt_of_le HL2.out hb.size); have B3 := Lib.hid (B2.out.trans (hb.mono B2.out.size)); clear hc hb))
 go_ret
 exact ⟨rfl, B3.out⟩
theorem goodS_1b (W : World) (m2 c1 c2 : Nat) (pl : Option Addr) (q off : Nat) (t0 t2 t3 : Int) (t1 : ByteArray) (t4 : Int) (t5 : Value) (hq : q < W.heap.size ∧ W.cell? ⟨q, off, none⟩ = some (.int .i64 t0) ∧ W.cell? ⟨q, off + 1, none⟩ = some (.string t1) ∧ W.cell? ⟨q, off + 2, none⟩ = some (.int .i64 t2) ∧ W.cell? ⟨q, off + 3, none⟩ = some (.int .i64 t3) ∧ W.cell? ⟨q, off + 4, none⟩ = some (.int .u64 t4) ∧ W.cell? ⟨q, off + 5, none⟩ = some t5)
  (hX : ∀ W9, Below W.heap.size W W9 → Calls Tryz.prog 133 #[.slice (some ⟨q, off, none⟩) 2 c1, .func (.func 68) #[] #[]] W9 fun e W' => e = .returned (.bool (true)) ∧ Below W9.heap.size W9 W')
  (hS : ∀ W9, Below W.heap.size W W9 → Calls Tryz.prog 182 #[.slice pl m2 c2, .func (.func 118) #[] #[]] W9 fun e W' => e = .returned (.bool (true)) ∧ Below W9.heap.size W9 W')
  (hT : ∀ W9, Below W.heap.size W W9 → Calls Tryz.prog 74 #[.agg #[.int .i64 t0, .string t1, .int .i64 t2, .int .i64 t3, .int .u64 t4, t5]] W9 fun e W' => e = .returned (.bool (false)) ∧ Below W9.heap.size W9 W')
  : Calls Tryz.prog 118 #[.agg #[.int .i64 1, .string (bs []), .slice (some ⟨q, off, none⟩) 2 c1, .slice pl m2 c2]] W fun e W' => e = .returned (.bool (false)) ∧ Below W.heap.size W W' := by
 have HX := Lib.hid hX
 have HS := Lib.hid hS
 have HT := Lib.hid hT
 clear hX hS hT
 have hse : (bs []).toList.isEmpty = true := by rw [Lib.toList_data, list_bs]; rfl
 have B1 := Lib.hid ((Below.refl W.heap.size W).alloc (Nat.le_refl _) (.cells #[.int .i64 1, .string (bs []), .slice (some ⟨q, off, none⟩) 2 c1, .slice pl m2 c2] 31))
 have hc1 := World.alloc_heap_new W (.cells #[.int .i64 1, .string (bs []), .slice (some ⟨q, off, none⟩) 2 c1, .slice pl m2 c2] 31)
 have hl1 : W.heap.size < (W.alloc (.cells #[.int .i64 1, .string (bs []), .slice (some ⟨q, off, none⟩) 2 c1, .slice pl m2 c2] 31)).heap.size := by simp
 have HC1 := Lib.hid hc1
 have HL1 := Lib.hid hl1
 have HQ := Lib.hid hq
 clear hc1 hl1 hq
 go_enter Tryz.func118, Tryz.ntmps118
 go_wp2_with (first | (go_at_call 133; refine (HX.out _ B1.out).mono ?_; rintro e W2 ⟨rfl, hb⟩; have hc := (hb.block W.heap.size HL1.out).trans HC1.out; obtain ⟨k0, k1, k2, k3⟩ := cells4 hc; have q0 := ((B1.out.trans (hb.mono B1.out.size)).cell (p := ⟨q, off, none⟩) HQ.out.1).trans HQ.out.2.1; have q1 := ((B1.out.trans (hb.mono B1.out.size)).cell (p := ⟨q, off + 1, none⟩) HQ.out.1).trans HQ.out.2.2.1; have q2 := ((B1.out.trans (hb.mono B1.out.size)).cell (p := ⟨q, off + 2, none⟩) HQ.out.1).trans HQ.out.2.2.2.1; have q3 := ((B1.out.trans (hb.mono B1.out.size)).cell (p := ⟨q, off + 3, none⟩) HQ.out.1).trans HQ.out.2.2.2.2.1; have q4 := ((B1.out.trans (hb.mono B1.out.size)).cell (p := ⟨q, off + 4, none⟩) HQ.out.1).trans HQ.out.2.2.2.2.2.1; have q5 := ((B1.out.trans (hb.mono B1.out.size)).cell (p := ⟨q, off + 5, none⟩) HQ.out.1).trans HQ.out.2.2.2.2.2.2; have HC2 := Lib.hid hc; have HL2 := Lib.hid (Nat.lt_of_lt_of_le HL1.out hb.size); have B2 := Lib.hid (B1.out.trans (hb.mono B1.out.size)); clear hc hb) | (go_at_call 182; refine (HS.out _ B2.out).mono ?_; rintro e W3 ⟨rfl, hb⟩; have hc := (hb.block W.heap.size HL2.out).trans HC2.out; obtain ⟨k0, k1, k2, k3⟩ := cells4 hc; have q0 := ((B2.out.trans (hb.mono B2.out.size)).cell (p := ⟨q, off, none⟩) HQ.out.1).trans HQ.out.2.1; have q1 := ((B2.out.trans (hb.mono B2.out.size)).cell (p := ⟨q, off + 1, none⟩) HQ.out.1).trans HQ.out.2.2.1; have q2 := ((B2.out.trans (hb.mono B2.out.size)).cell (p := ⟨q, off + 2, none⟩) HQ.out.1).trans HQ.out.2.2.2.1; have q3 := ((B2.out.trans (hb.mono B2.out.size)).cell (p := ⟨q, off + 3, none⟩) HQ.out.1).trans HQ.out.2.2.2.2.1; have q4 := ((B2.out.trans (hb.mono B2.out.size)).cell (p := ⟨q, off + 4, none⟩) HQ.out.1).trans HQ.out.2.2.2.2.2.1; have q5 := ((B2.out.trans (hb.mono B2.out.size)).cell (p := ⟨q, off + 5, none⟩) HQ.out.1).trans HQ.out.2.2.2.2.2.2; have HC3 := Lib.hid hc; have HL3 := Lib.hid (Nat.lt_of_lt_of_le HL2.out hb.size); have B3 := Lib.hid (B2.out.trans (hb.mono B2.out.size)); clear hc hb) | (go_at_call 74; refine (HT.out _ B3.out).mono ?_; rintro e W4 ⟨rfl, hb⟩; have hc := (hb.block W.heap.size HL3.out).trans HC3.out; obtain ⟨k0, k1, k2, k3⟩ := cells4 hc; have q0 := ((B3.out.trans (hb.mono B3.out.size)).cell (p := ⟨q, off, none⟩) HQ.out.1).trans HQ.out.2.1; have q1 := ((B3.out.trans (hb.mono B3.out.size)).cell (p := ⟨q, off + 1, none⟩) HQ.out.1).trans HQ.out.2.2.1; have q2 := ((B3.out.trans (hb.mono B3.out.size)).cell (p := ⟨q, off + 2, none⟩) HQ.out.1).trans HQ.out.2.2.2.1; have q3 := ((B3.out.trans (hb.mono B3.out.size)).cell (p := ⟨q, off + 3, none⟩) HQ.out.1).trans HQ.out.2.2.2.2.1; have q4 := ((B3.out.trans (hb.mono B3.out.size)).cell (p := ⟨q, off + 4, none⟩) HQ.out.1).trans HQ.out.2.2.2.2.2.1; have q5 := ((B3.out.trans (hb.mono B3.out.size)).cell (p := ⟨q, off + 5, none⟩) HQ.out.1).trans HQ.out.2.2.2.2.2.2; have HC4 := Lib.hid hc; have HL4 := Lib.hid (Nat.lt_of_lt_of_le HL3.out hb.size); have B4 := Lib.hid (B3.out.trans (hb.mono B3.out.size)); clear hc hb))
 go_ret
 exact ⟨rfl, B4.out⟩
theorem goodS_1c (W : World) (m2 c1 c2 : Nat) (pl : Option Addr) (q off : Nat) (t0 t2 t3 : Int) (t1 : ByteArray) (t4 : Int) (t5 : Value) (hq : q < W.heap.size ∧ W.cell? ⟨q, off, none⟩ = some (.int .i64 t0) ∧ W.cell? ⟨q, off + 1, none⟩ = some (.string t1) ∧ W.cell? ⟨q, off + 2, none⟩ = some (.int .i64 t2) ∧ W.cell? ⟨q, off + 3, none⟩ = some (.int .i64 t3) ∧ W.cell? ⟨q, off + 4, none⟩ = some (.int .u64 t4) ∧ W.cell? ⟨q, off + 5, none⟩ = some t5)
  (hX : ∀ W9, Below W.heap.size W W9 → Calls Tryz.prog 133 #[.slice (some ⟨q, off, none⟩) 2 c1, .func (.func 68) #[] #[]] W9 fun e W' => e = .returned (.bool (true)) ∧ Below W9.heap.size W9 W')
  (hS : ∀ W9, Below W.heap.size W W9 → Calls Tryz.prog 182 #[.slice pl m2 c2, .func (.func 118) #[] #[]] W9 fun e W' => e = .returned (.bool (true)) ∧ Below W9.heap.size W9 W')
  (hT : ∀ W9, Below W.heap.size W W9 → Calls Tryz.prog 74 #[.agg #[.int .i64 t0, .string t1, .int .i64 t2, .int .i64 t3, .int .u64 t4, t5]] W9 fun e W' => e = .returned (.bool (true)) ∧ Below W9.heap.size W9 W')
  : Calls Tryz.prog 118 #[.agg #[.int .i64 1, .string (bs []), .slice (some ⟨q, off, none⟩) 2 c1, .slice pl m2 c2]] W fun e W' => e = .returned (.bool (((m2 : Int) == 0))) ∧ Below W.heap.size W W' := by
 have HX := Lib.hid hX
 have HS := Lib.hid hS
 have HT := Lib.hid hT
 clear hX hS hT
 have hse : (bs []).toList.isEmpty = true := by rw [Lib.toList_data, list_bs]; rfl
 have B1 := Lib.hid ((Below.refl W.heap.size W).alloc (Nat.le_refl _) (.cells #[.int .i64 1, .string (bs []), .slice (some ⟨q, off, none⟩) 2 c1, .slice pl m2 c2] 31))
 have hc1 := World.alloc_heap_new W (.cells #[.int .i64 1, .string (bs []), .slice (some ⟨q, off, none⟩) 2 c1, .slice pl m2 c2] 31)
 have hl1 : W.heap.size < (W.alloc (.cells #[.int .i64 1, .string (bs []), .slice (some ⟨q, off, none⟩) 2 c1, .slice pl m2 c2] 31)).heap.size := by simp
 have HC1 := Lib.hid hc1
 have HL1 := Lib.hid hl1
 have HQ := Lib.hid hq
 clear hc1 hl1 hq
 go_enter Tryz.func118, Tryz.ntmps118
 go_wp2_with (first | (go_at_call 133; refine (HX.out _ B1.out).mono ?_; rintro e W2 ⟨rfl, hb⟩; have hc := (hb.block W.heap.size HL1.out).trans HC1.out; obtain ⟨k0, k1, k2, k3⟩ := cells4 hc; have q0 := ((B1.out.trans (hb.mono B1.out.size)).cell (p := ⟨q, off, none⟩) HQ.out.1).trans HQ.out.2.1; have q1 := ((B1.out.trans (hb.mono B1.out.size)).cell (p := ⟨q, off + 1, none⟩) HQ.out.1).trans HQ.out.2.2.1; have q2 := ((B1.out.trans (hb.mono B1.out.size)).cell (p := ⟨q, off + 2, none⟩) HQ.out.1).trans HQ.out.2.2.2.1; have q3 := ((B1.out.trans (hb.mono B1.out.size)).cell (p := ⟨q, off + 3, none⟩) HQ.out.1).trans HQ.out.2.2.2.2.1; have q4 := ((B1.out.trans (hb.mono B1.out.size)).cell (p := ⟨q, off + 4, none⟩) HQ.out.1).trans HQ.out.2.2.2.2.2.1; have q5 := ((B1.out.trans (hb.mono B1.out.size)).cell (p := ⟨q, off + 5, none⟩) HQ.out.1).trans HQ.out.2.2.2.2.2.2; have HC2 := Lib.hid hc; have HL2 := Lib.hid (Nat.lt_of_lt_of_le HL1.out hb.size); have B2 := Lib.hid (B1.out.trans (hb.mono B1.out.size)); clear hc hb) | (go_at_call 182; refine (HS.out _ B2.out).mono ?_; rintro e W3 ⟨rfl, hb⟩; have hc := (hb.block W.heap.size HL2.out).trans HC2.out; obtain ⟨k0, k1, k2, k3⟩ := cells4 hc; have q0 := ((B2.out.trans (hb.mono B2.out.size)).cell (p := ⟨q, off, none⟩) HQ.out.1).trans HQ.out.2.1; have q1 := ((B2.out.trans (hb.mono B2.out.size)).cell (p := ⟨q, off + 1, none⟩) HQ.out.1).trans HQ.out.2.2.1; have q2 := ((B2.out.trans (hb.mono B2.out.size)).cell (p := ⟨q, off + 2, none⟩) HQ.out.1).trans HQ.out.2.2.2.1; have q3 := ((B2.out.trans (hb.mono B2.out.size)).cell (p := ⟨q, off + 3, none⟩) HQ.out.1).trans HQ.out.2.2.2.2.1; have q4 := ((B2.out.trans (hb.mono B2.out.size)).cell (p := ⟨q, off + 4, none⟩) HQ.out.1).trans HQ.out.2.2.2.2.2.1; have q5 := ((B2.out.trans (hb.mono B2.out.size)).cell (p := ⟨q, off + 5, none⟩) HQ.out.1).trans HQ.out.2.2.2.2.2.2; have HC3 := Lib.hid hc; have HL3 := Lib.hid (Nat.lt_of_lt_of_le HL2.out hb.size); have B3 := Lib.hid (B2.out.trans (hb.mono B2.out.size)); clear hc hb) | (go_at_call 74; refine (HT.out _ B3.out).mono ?_; rintro e W4 ⟨rfl, hb⟩; have hc := (hb.block W.heap.size HL3.out).trans HC3.out; obtain ⟨k0, k1, k2, k3⟩ := cells4 hc; have q0 := ((B3.out.trans (hb.mono B3.out.size)).cell (p := ⟨q, off, none⟩) HQ.out.1).trans HQ.out.2.1; have q1 := ((B3.out.trans (hb.mono B3.out.size)).cell (p := ⟨q, off + 1, none⟩) HQ.out.1).trans HQ.out.2.2.1; have q2 := ((B3.out.trans (hb.mono B3.out.size)).cell (p := ⟨q, off + 2, none⟩) HQ.out.1).trans HQ.out.2.2.2.1; have q3 := ((B3.out.trans (hb.mono B3.out.size)).cell (p := ⟨q, off + 3, none⟩) HQ.out.1).trans HQ.out.2.2.2.2.1; have q4 := ((B3.out.trans (hb.mono B3.out.size)).cell (p := ⟨q, off + 4, none⟩) HQ.out.1).trans HQ.out.2.2.2.2.2.1; have q5 := ((B3.out.trans (hb.mono B3.out.size)).cell (p := ⟨q, off + 5, none⟩) HQ.out.1).trans HQ.out.2.2.2.2.2.2; have HC4 := Lib.hid hc; have HL4 := Lib.hid (Nat.lt_of_lt_of_le HL3.out hb.size); have B4 := Lib.hid (B3.out.trans (hb.mono B3.out.size)); clear hc hb))
 go_ret
 exact ⟨rfl, B4.out⟩
theorem goodS_2a (W : World) (m1 m2 c1 c2 : Nat) (px : Option Addr) (pl : Option Addr)  (h1 : m1 ≠ 1)
  (hX : ∀ W9, Below W.heap.size W W9 → Calls Tryz.prog 133 #[.slice px m1 c1, .func (.func 68) #[] #[]] W9 fun e W' => e = .returned (.bool (true)) ∧ Below W9.heap.size W9 W')
  (hS : ∀ W9, Below W.heap.size W W9 → Calls Tryz.prog 182 #[.slice pl m2 c2, .func (.func 118) #[] #[]] W9 fun e W' => e = .returned (.bool (true)) ∧ Below W9.heap.size W9 W')
  : Calls Tryz.prog 118 #[.agg #[.int .i64 2, .string (bs []), .slice px m1 c1, .slice pl m2 c2]] W fun e W' => e = .returned (.bool (false)) ∧ Below W.heap.size W W' := by
 have HX := Lib.hid hX
 have HS := Lib.hid hS
 clear hX hS
 have hse : (bs []).toList.isEmpty = true := by rw [Lib.toList_data, list_bs]; rfl
 have l0 : ¬ ((m1 : Int) = 1) := by omega
 have l1 : decide ((m1 : Int) = 1) = false := by simpa using l0
 have l2 : ((m1 : Int) == 1) = false := by simpa using l0
 have B1 := Lib.hid ((Below.refl W.heap.size W).alloc (Nat.le_refl _) (.cells #[.int .i64 2, .string (bs []), .slice px m1 c1, .slice pl m2 c2] 31))
 have hc1 := World.alloc_heap_new W (.cells #[.int .i64 2, .string (bs []), .slice px m1 c1, .slice pl m2 c2] 31)
 have hl1 : W.heap.size < (W.alloc (.cells #[.int .i64 2, .string (bs []), .slice px m1 c1, .slice pl m2 c2] 31)).heap.size := by simp
 have HC1 := Lib.hid hc1
 have HL1 := Lib.hid hl1
 clear hc1 hl1
 go_enter Tryz.func118, Tryz.ntmps118
 go_wp2_with (first | (go_at_call 133; refine (HX.out _ B1.out).mono ?_; rintro e W2 ⟨rfl, hb⟩; have hc := (hb.block W.heap.size HL1.out).trans HC1.out; obtain ⟨k0, k1, k2, k3⟩ := cells4 hc;  have HC2 := Lib.hid hc; have HL2 := Lib.hid (Nat.lt_of_lt_of_le HL1.out hb.size); have B2 := Lib.hid (B1.out.trans (hb.mono B1.out.size)); clear hc hb) | (go_at_call 182; refine (HS.out _ B2.out).mono ?_; rintro e W3 ⟨rfl, hb⟩; have hc := (hb.block W.heap.size HL2.out).trans HC2.out; obtain ⟨k0, k1, k2, k3⟩ := cells4 hc;  have HC3 := Lib.hid hc; have HL3 := Lib.hid (Nat.lt_of_lt_of_le HL2.out hb.size); have B3 := Lib.hid (B2.out.trans (hb.mono B2.out.size)); clear hc hb))
 go_ret
 exact ⟨rfl, B3.out⟩
theorem goodS_2b (W : World) (m2 c1 c2 : Nat) (px : Option Addr) (pl : Option Addr)  (h1 : m2 ≠ 2)
  (hX : ∀ W9, Below W.heap.size W W9 → Calls Tryz.prog 133 #[.slice px 1 c1, .func (.func 68) #[] #[]] W9 fun e W' => e = .returned (.bool (true)) ∧ Below W9.heap.size W9 W')
  (hS : ∀ W9, Below W.heap.size W W9 → Calls Tryz.prog 182 #[.slice pl m2 c2, .func (.func 118) #[] #[]] W9 fun e W' => e = .returned (.bool (true)) ∧ Below W9.heap.size W9 W')
  : Calls Tryz.prog 118 #[.agg #[.int .i64 2, .string (bs []), .slice px 1 c1, .slice pl m2 c2]] W fun e W' => e = .returned (.bool (false)) ∧ Below W.heap.size W W' := by
 have HX := Lib.hid hX
 have HS := Lib.hid hS
 clear hX hS
 have hse : (bs []).toList.isEmpty = true := by rw [Lib.toList_data, list_bs]; rfl
 have l0 : ¬ ((m2 : Int) = 2) := by omega
 have l1 : decide ((m2 : Int) = 2) = false := by simpa using l0
 have l2 : ((m2 : Int) == 2) = false := by simpa using l0
 have B1 := Lib.hid ((Below.refl W.heap.size W).alloc (Nat.le_refl _) (.cells #[.int .i64 2, .string (bs []), .slice px 1 c1, .slice pl m2 c2] 31))
 have hc1 := World.alloc_heap_new W (.cells #[.int .i64 2, .string (bs []), .slice px 1 c1, .slice pl m2 c2] 31)
 have hl1 : W.heap.size < (W.alloc (.cells #[.int .i64 2, .string (bs []), .slice px 1 c1, .slice pl m2 c2] 31)).heap.size := by simp
 have HC1 := Lib.hid hc1
 have HL1 := Lib.hid hl1
 clear hc1 hl1
 go_enter Tryz.func118, Tryz.ntmps118
 go_wp2_with (first | (go_at_call 133; refine (HX.out _ B1.out).mono ?_; rintro e W2 ⟨rfl, hb⟩; have hc := (hb.block W.heap.size HL1.out).trans HC1.out; obtain ⟨k0, k1, k2, k3⟩ := cells4 hc;  have HC2 := Lib.hid hc; have HL2 := Lib.hid (Nat.lt_of_lt_of_le HL1.out hb.size); have B2 := Lib.hid (B1.out.trans (hb.mono B1.out.size)); clear hc hb) | (go_at_call 182; refine (HS.out _ B2.out).mono ?_; rintro e W3 ⟨rfl, hb⟩; have hc := (hb.block W.heap.size HL2.out).trans HC2.out; obtain ⟨k0, k1, k2, k3⟩ := cells4 hc;  have HC3 := Lib.hid hc; have HL3 := Lib.hid (Nat.lt_of_lt_of_le HL2.out hb.size); have B3 := Lib.hid (B2.out.trans (hb.mono B2.out.size)); clear hc hb))
 go_ret
 exact ⟨rfl, B3.out⟩
theorem goodS_2c (W : World) (c1 c2 : Nat) (px : Option Addr) (q off : Nat) (oa ob : Int) (h5 : oa ≠ 5) (hq : q < W.heap.size ∧ W.cell? ⟨q, off, none⟩ = some (.int .i64 oa) ∧ W.cell? ⟨q, off + 4, none⟩ = some (.int .i64 ob))
  (hX : ∀ W9, Below W.heap.size W W9 → Calls Tryz.prog 133 #[.slice px 1 c1, .func (.func 68) #[] #[]] W9 fun e W' => e = .returned (.bool (true)) ∧ Below W9.heap.size W9 W')
  (hS : ∀ W9, Below W.heap.size W W9 → Calls Tryz.prog 182 #[.slice (some ⟨q, off, none⟩) 2 c2, .func (.func 118) #[] #[]] W9 fun e W' => e = .returned (.bool (true)) ∧ Below W9.heap.size W9 W')
  : Calls Tryz.prog 118 #[.agg #[.int .i64 2, .string (bs []), .slice px 1 c1, .slice (some ⟨q, off, none⟩) 2 c2]] W fun e W' => e = .returned (.bool (false)) ∧ Below W.heap.size W W' := by
 have HX := Lib.hid hX
 have HS := Lib.hid hS
 clear hX hS
 have hse : (bs []).toList.isEmpty = true := by rw [Lib.toList_data, list_bs]; rfl
 have e5 : ¬ (oa = 5) := h5
 have e5d : decide (oa = 5) = false := by simpa using e5
 have e5b : (oa == 5) = false := by simpa using e5
 have e5n : (oa != 5) = true := by simpa using e5
 have B1 := Lib.hid ((Below.refl W.heap.size W).alloc (Nat.le_refl _) (.cells #[.int .i64 2, .string (bs []), .slice px 1 c1, .slice (some ⟨q, off, none⟩) 2 c2] 31))
 have hc1 := World.alloc_heap_new W (.cells #[.int .i64 2, .string (bs []), .slice px 1 c1, .slice (some ⟨q, off, none⟩) 2 c2] 31)
 have hl1 : W.heap.size < (W.alloc (.cells #[.int .i64 2, .string (bs []), .slice px 1 c1, .slice (some ⟨q, off, none⟩) 2 c2] 31)).heap.size := by simp
 have HC1 := Lib.hid hc1
 have HL1 := Lib.hid hl1
 have HQ := Lib.hid hq
 clear hc1 hl1 hq
 go_enter Tryz.func118, Tryz.ntmps118
 go_wp2_with (first | (go_at_call 133; refine (HX.out _ B1.out).mono ?_; rintro e W2 ⟨rfl, hb⟩; have hc := (hb.block W.heap.size HL1.out).trans HC1.out; obtain ⟨k0, k1, k2, k3⟩ := cells4 hc; have q0 := ((B1.out.trans (hb.mono B1.out.size)).cell (p := ⟨q, off, none⟩) HQ.out.1).trans HQ.out.2.1; have q1 := ((B1.out.trans (hb.mono B1.out.size)).cell (p := ⟨q, off + 4, none⟩) HQ.out.1).trans HQ.out.2.2; have HC2 := Lib.hid hc; have HL2 := Lib.hid (Nat.lt_of_lt_of_le HL1.out hb.size); have B2 := Lib.hid (B1.out.trans (hb.mono B1.out.size)); clear hc hb) | (go_at_call 182; refine (HS.out _ B2.out).mono ?_; rintro e W3 ⟨rfl, hb⟩; have hc := (hb.block W.heap.size HL2.out).trans HC2.out; obtain ⟨k0, k1, k2, k3⟩ := cells4 hc; have q0 := ((B2.out.trans (hb.mono B2.out.size)).cell (p := ⟨q, off, none⟩) HQ.out.1).trans HQ.out.2.1; have q1 := ((B2.out.trans (hb.mono B2.out.size)).cell (p := ⟨q, off + 4, none⟩) HQ.out.1).trans HQ.out.2.2; have HC3 := Lib.hid hc; have HL3 := Lib.hid (Nat.lt_of_lt_of_le HL2.out hb.size); have B3 := Lib.hid (B2.out.trans (hb.mono B2.out.size)); clear hc hb))
 go_ret
 exact ⟨rfl, B3.out⟩
theorem goodS_2d (W : World) (c1 c2 : Nat) (px : Option Addr) (q off : Nat) (hq : q < W.heap.size ∧ W.cell? ⟨q, off, none⟩ = some (.int .i64 5) ∧ W.cell? ⟨q, off + 4, none⟩ = some (.int .i64 5))
  (hX : ∀ W9, Below W.heap.size W W9 → Calls Tryz.prog 133 #[.slice px 1 c1, .func (.func 68) #[] #[]] W9 fun e W' => e = .returned (.bool (true)) ∧ Below W9.heap.size W9 W')
  (hS : ∀ W9, Below W.heap.size W W9 → Calls Tryz.prog 182 #[.slice (some ⟨q, off, none⟩) 2 c2, .func (.func 118) #[] #[]] W9 fun e W' => e = .returned (.bool (true)) ∧ Below W9.heap.size W9 W')
  : Calls Tryz.prog 118 #[.agg #[.int .i64 2, .string (bs []), .slice px 1 c1, .slice (some ⟨q, off, none⟩) 2 c2]] W fun e W' => e = .returned (.bool (true)) ∧ Below W.heap.size W W' := by
 have HX := Lib.hid hX
 have HS := Lib.hid hS
 clear hX hS
 have hse : (bs []).toList.isEmpty = true := by rw [Lib.toList_data, list_bs]; rfl
 have B1 := Lib.hid ((Below.refl W.heap.size W).alloc (Nat.le_refl _) (.cells #[.int .i64 2, .string (bs []), .slice px 1 c1, .slice (some ⟨q, off, none⟩) 2 c2] 31))
 have hc1 := World.alloc_heap_new W (.cells #[.int .i64 2, .string (bs []), .slice px 1 c1, .slice (some ⟨q, off, none⟩) 2 c2] 31)
 have hl1 : W.heap.size < (W.alloc (.cells #[.int .i64 2, .string (bs []), .slice px 1 c1, .slice (some ⟨q, off, none⟩) 2 c2] 31)).heap.size := by simp
 have HC1 := Lib.hid hc1
 have HL1 := Lib.hid hl1
 have HQ := Lib.hid hq
 clear hc1 hl1 hq
 go_enter Tryz.func118, Tryz.ntmps118
 go_wp2_with (first | (go_at_call 133; refine (HX.out _ B1.out).mono ?_; rintro e W2 ⟨rfl, hb⟩; have hc := (hb.block W.heap.size HL1.out).trans HC1.out; obtain ⟨k0, k1, k2, k3⟩ := cells4 hc; have q0 := ((B1.out.trans (hb.mono B1.out.size)).cell (p := ⟨q, off, none⟩) HQ.out.1).trans HQ.out.2.1; have q1 := ((B1.out.trans (hb.mono B1.out.size)).cell (p := ⟨q, off + 4, none⟩) HQ.out.1).trans HQ.out.2.2; have HC2 := Lib.hid hc; have HL2 := Lib.hid (Nat.lt_of_lt_of_le HL1.out hb.size); have B2 := Lib.hid (B1.out.trans (hb.mono B1.out.size)); clear hc hb) | (go_at_call 182; refine (HS.out _ B2.out).mono ?_; rintro e W3 ⟨rfl, hb⟩; have hc := (hb.block W.heap.size HL2.out).trans HC2.out; obtain ⟨k0, k1, k2, k3⟩ := cells4 hc; have q0 := ((B2.out.trans (hb.mono B2.out.size)).cell (p := ⟨q, off, none⟩) HQ.out.1).trans HQ.out.2.1; have q1 := ((B2.out.trans (hb.mono B2.out.size)).cell (p := ⟨q, off + 4, none⟩) HQ.out.1).trans HQ.out.2.2; have HC3 := Lib.hid hc; have HL3 := Lib.hid (Nat.lt_of_lt_of_le HL2.out hb.size); have B3 := Lib.hid (B2.out.trans (hb.mono B2.out.size)); clear hc hb))
 go_ret
 exact ⟨rfl, B3.out⟩
theorem goodS_2e (W : World) (c1 c2 : Nat) (px : Option Addr) (q off : Nat) (ob : Int) (h5 : ob ≠ 5) (hq : q < W.heap.size ∧ W.cell? ⟨q, off, none⟩ = some (.int .i64 5) ∧ W.cell? ⟨q, off + 4, none⟩ = some (.int .i64 ob))
  (hX : ∀ W9, Below W.heap.size W W9 → Calls Tryz.prog 133 #[.slice px 1 c1, .func (.func 68) #[] #[]] W9 fun e W' => e = .returned (.bool (true)) ∧ Below W9.heap.size W9 W')
  (hS : ∀ W9, Below W.heap.size W W9 → Calls Tryz.prog 182 #[.slice (some ⟨q, off, none⟩) 2 c2, .func (.func 118) #[] #[]] W9 fun e W' => e = .returned (.bool (true)) ∧ Below W9.heap.size W9 W')
  : Calls Tryz.prog 118 #[.agg #[.int .i64 2, .string (bs []), .slice px 1 c1, .slice (some ⟨q, off, none⟩) 2 c2]] W fun e W' => e = .returned (.bool ((decide (ob = 2)))) ∧ Below W.heap.size W W' := by
 have HX := Lib.hid hX
 have HS := Lib.hid hS
 clear hX hS
 have hse : (bs []).toList.isEmpty = true := by rw [Lib.toList_data, list_bs]; rfl
 have e5 : ¬ (ob = 5) := h5
 have e5d : decide (ob = 5) = false := by simpa using e5
 have e5b : (ob == 5) = false := by simpa using e5
 have e5n : (ob != 5) = true := by simpa using e5
 have B1 := Lib.hid ((Below.refl W.heap.size W).alloc (Nat.le_refl _) (.cells #[.int .i64 2, .string (bs []), .slice px 1 c1, .slice (some ⟨q, off, none⟩) 2 c2] 31))
 have hc1 := World.alloc_heap_new W (.cells #[.int .i64 2, .string (bs []), .slice px 1 c1, .slice (some ⟨q, off, none⟩) 2 c2] 31)
 have hl1 : W.heap.size < (W.alloc (.cells #[.int .i64 2, .string (bs []), .slice px 1 c1, .slice (some ⟨q, off, none⟩) 2 c2] 31)).heap.size := by simp
 have HC1 := Lib.hid hc1
 have HL1 := Lib.hid hl1
 have HQ := Lib.hid hq
 clear hc1 hl1 hq
 go_enter Tryz.func118, Tryz.ntmps118
 go_wp2_with (first | (go_at_call 133; refine (HX.out _ B1.out).mono ?_; rintro e W2 ⟨rfl, hb⟩; have hc := (hb.block W.heap.size HL1.out).trans HC1.out; obtain ⟨k0, k1, k2, k3⟩ := cells4 hc; have q0 := ((B1.out.trans (hb.mono B1.out.size)).cell (p := ⟨q, off, none⟩) HQ.out.1).trans HQ.out.2.1; have q1 := ((B1.out.trans (hb.mono B1.out.size)).cell (p := ⟨q, off + 4, none⟩) HQ.out.1).trans HQ.out.2.2; have HC2 := Lib.hid hc; have HL2 := Lib.hid (Nat.lt_of_lt_of_le HL1.out hb.size); have B2 := Lib.hid (B1.out.trans (hb.mono B1.out.size)); clear hc hb) | (go_at_call 182; refine (HS.out _ B2.out).mono ?_; rintro e W3 ⟨rfl, hb⟩; have hc := (hb.block W.heap.size HL2.out).trans HC2.out; obtain ⟨k0, k1, k2, k3⟩ := cells4 hc; have q0 := ((B2.out.trans (hb.mono B2.out.size)).cell (p := ⟨q, off, none⟩) HQ.out.1).trans HQ.out.2.1; have q1 := ((B2.out.trans (hb.mono B2.out.size)).cell (p := ⟨q, off + 4, none⟩) HQ.out.1).trans HQ.out.2.2; have HC3 := Lib.hid hc; have HL3 := Lib.hid (Nat.lt_of_lt_of_le HL2.out hb.size); have B3 := Lib.hid (B2.out.trans (hb.mono B2.out.size)); clear hc hb))
 go_ret
 exact ⟨rfl, B3.out⟩
theorem goodS_5 (W : World) (m1 m2 c1 c2 : Nat) (px : Option Addr) (pl : Option Addr)
  (hX : ∀ W9, Below W.heap.size W W9 → Calls Tryz.prog 133 #[.slice px m1 c1, .func (.func 68) #[] #[]] W9 fun e W' => e = .returned (.bool (true)) ∧ Below W9.heap.size W9 W')
  (hS : ∀ W9, Below W.heap.size W W9 → Calls Tryz.prog 182 #[.slice pl m2 c2, .func (.func 118) #[] #[]] W9 fun e W' => e = .returned (.bool (true)) ∧ Below W9.heap.size W9 W')
  : Calls Tryz.prog 118 #[.agg #[.int .i64 5, .string (bs []), .slice px m1 c1, .slice pl m2 c2]] W fun e W' => e = .returned (.bool (((m1 : Int) == 0))) ∧ Below W.heap.size W W' := by
 have HX := Lib.hid hX
 have HS := Lib.hid hS
 clear hX hS
 have hse : (bs []).toList.isEmpty = true := by rw [Lib.toList_data, list_bs]; rfl
 have B1 := Lib.hid ((Below.refl W.heap.size W).alloc (Nat.le_refl _) (.cells #[.int .i64 5, .string (bs []), .slice px m1 c1, .slice pl m2 c2] 31))
 have hc1 := World.alloc_heap_new W (.cells #[.int .i64 5, .string (bs []), .slice px m1 c1, .slice pl m2 c2] 31)
 have hl1 : W.heap.size < (W.alloc (.cells #[.int .i64 5, .string (bs []), .slice px m1 c1, .slice pl m2 c2] 31)).heap.size := by simp
 have HC1 := Lib.hid hc1
 have HL1 := Lib.hid hl1
 clear hc1 hl1
 go_enter Tryz.func118, Tryz.ntmps118
 go_wp2_with (first | (go_at_call 133; refine (HX.out _ B1.out).mono ?_; rintro e W2 ⟨rfl, hb⟩; have hc := (hb.block W.heap.size HL1.out).trans HC1.out; obtain ⟨k0, k1, k2, k3⟩ := cells4 hc;  have HC2 := Lib.hid hc; have HL2 := Lib.hid (Nat.lt_of_lt_of_le HL1.out hb.size); have B2 := Lib.hid (B1.out.trans (hb.mono B1.out.size)); clear hc hb) | (go_at_call 182; refine (HS.out _ B2.out).mono ?_; rintro e W3 ⟨rfl, hb⟩; have hc := (hb.block W.heap.size HL2.out).trans HC2.out; obtain ⟨k0, k1, k2, k3⟩ := cells4 hc;  have HC3 := Lib.hid hc; have HL3 := Lib.hid (Nat.lt_of_lt_of_le HL2.out hb.size); have B3 := Lib.hid (B2.out.trans (hb.mono B2.out.size)); clear hc hb))
 go_ret
 exact ⟨rfl, B3.out⟩
theorem goodS_6a (W : World) (name : Ln) (m1 m2 c1 c2 : Nat) (px : Option Addr) (pl : Option Addr)
  (hX : ∀ W9, Below W.heap.size W W9 → Calls Tryz.prog 133 #[.slice px m1 c1, .func (.func 68) #[] #[]] W9 fun e W' => e = .returned (.bool (true)) ∧ Below W9.heap.size W9 W')
  (hS : ∀ W9, Below W.heap.size W W9 → Calls Tryz.prog 182 #[.slice pl m2 c2, .func (.func 118) #[] #[]] W9 fun e W' => e = .returned (.bool (true)) ∧ Below W9.heap.size W9 W')
  (hN : ∀ W9, Below W.heap.size W W9 → Calls Tryz.prog 158 #[.string (bs name)] W9 fun e W' => e = .returned (.bool (false)) ∧ Below W9.heap.size W9 W')
  : Calls Tryz.prog 118 #[.agg #[.int .i64 6, .string (bs name), .slice px m1 c1, .slice pl m2 c2]] W fun e W' => e = .returned (.bool (false)) ∧ Below W.heap.size W W' := by
 have HX := Lib.hid hX
 have HS := Lib.hid hS
 have HN := Lib.hid hN
 clear hX hS hN
 have B1 := Lib.hid ((Below.refl W.heap.size W).alloc (Nat.le_refl _) (.cells #[.int .i64 6, .string (bs name), .slice px m1 c1, .slice pl m2 c2] 31))
 have hc1 := World.alloc_heap_new W (.cells #[.int .i64 6, .string (bs name), .slice px m1 c1, .slice pl m2 c2] 31)
 have hl1 : W.heap.size < (W.alloc (.cells #[.int .i64 6, .string (bs name), .slice px m1 c1, .slice pl m2 c2] 31)).heap.size := by simp
 have HC1 := Lib.hid hc1
 have HL1 := Lib.hid hl1
 clear hc1 hl1
 go_enter Tryz.func118, Tryz.ntmps118
 go_wp2_with (first | (go_at_call 133; refine (HX.out _ B1.out).mono ?_; rintro e W2 ⟨rfl, hb⟩; have hc := (hb.block W.heap.size HL1.out).trans HC1.out; obtain ⟨k0, k1, k2, k3⟩ := cells4 hc;  have HC2 := Lib.hid hc; have HL2 := Lib.hid (Nat.lt_of_lt_of_le HL1.out hb.size); have B2 := Lib.hid (B1.out.trans (hb.mono B1.out.size)); clear hc hb) | (go_at_call 182; refine (HS.out _ B2.out).mono ?_; rintro e W3 ⟨rfl, hb⟩; have hc := (hb.block W.heap.size HL2.out).trans HC2.out; obtain ⟨k0, k1, k2, k3⟩ := cells4 hc;  have HC3 := Lib.hid hc; have HL3 := Lib.hid (Nat.lt_of_lt_of_le HL2.out hb.size); have B3 := Lib.hid (B2.out.trans (hb.mono B2.out.size)); clear hc hb) | (go_at_call 158; refine (HN.out _ B3.out).mono ?_; rintro e W4 ⟨rfl, hb⟩; have hc := (hb.block W.heap.size HL3.out).trans HC3.out; obtain ⟨k0, k1, k2, k3⟩ := cells4 hc;  have HC4 := Lib.hid hc; have HL4 := Lib.hid (Nat.lt_of_lt_of_le HL3.out hb.size); have B4 := Lib.hid (B3.out.trans (hb.mono B3.out.size)); clear hc hb))
 go_ret
 exact ⟨rfl, B4.out⟩
theorem goodS_6b (W : World) (name : Ln) (m1 m2 c1 c2 : Nat) (px : Option Addr) (pl : Option Addr)
  (hX : ∀ W9, Below W.heap.size W W9 → Calls Tryz.prog 133 #[.slice px m1 c1, .func (.func 68) #[] #[]] W9 fun e W' => e = .returned (.bool (true)) ∧ Below W9.heap.size W9 W')
  (hS : ∀ W9, Below W.heap.size W W9 → Calls Tryz.prog 182 #[.slice pl m2 c2, .func (.func 118) #[] #[]] W9 fun e W' => e = .returned (.bool (true)) ∧ Below W9.heap.size W9 W')
  (hN : ∀ W9, Below W.heap.size W W9 → Calls Tryz.prog 158 #[.string (bs name)] W9 fun e W' => e = .returned (.bool (true)) ∧ Below W9.heap.size W9 W')
  : Calls Tryz.prog 118 #[.agg #[.int .i64 6, .string (bs name), .slice px m1 c1, .slice pl m2 c2]] W fun e W' => e = .returned (.bool (((m1 : Int) == 2))) ∧ Below W.heap.size W W' := by
 have HX := Lib.hid hX
 have HS := Lib.hid hS
 have HN := Lib.hid hN
 clear hX hS hN
 have B1 := Lib.hid ((Below.refl W.heap.size W).alloc (Nat.le_refl _) (.cells #[.int .i64 6, .string (bs name), .slice px m1 c1, .slice pl m2 c2] 31))
 have hc1 := World.alloc_heap_new W (.cells #[.int .i64 6, .string (bs name), .slice px m1 c1, .slice pl m2 c2] 31)
 have hl1 : W.heap.size < (W.alloc (.cells #[.int .i64 6, .string (bs name), .slice px m1 c1, .slice pl m2 c2] 31)).heap.size := by simp
 have HC1 := Lib.hid hc1
 have HL1 := Lib.hid hl1
 clear hc1 hl1
 go_enter Tryz.func118, Tryz.ntmps118
 go_wp2_with (first | (go_at_call 133; refine (HX.out _ B1.out).mono ?_; rintro e W2 ⟨rfl, hb⟩; have hc := (hb.block W.heap.size HL1.out).trans HC1.out; obtain ⟨k0, k1, k2, k3⟩ := cells4 hc;  have HC2 := Lib.hid hc; have HL2 := Lib.hid (Nat.lt_of_lt_of_le HL1.out hb.size); have B2 := Lib.hid (B1.out.trans (hb.mono B1.out.size)); clear hc hb) | (go_at_call 182; refine (HS.out _ B2.out).mono ?_; rintro e W3 ⟨rfl, hb⟩; have hc := (hb.block W.heap.size HL2.out).trans HC2.out; obtain ⟨k0, k1, k2, k3⟩ := cells4 hc;  have HC3 := Lib.hid hc; have HL3 := Lib.hid (Nat.lt_of_lt_of_le HL2.out hb.size); have B3 := Lib.hid (B2.out.trans (hb.mono B2.out.size)); clear hc hb) | (go_at_call 158; refine (HN.out _ B3.out).mono ?_; rintro e W4 ⟨rfl, hb⟩; have hc := (hb.block W.heap.size HL3.out).trans HC3.out; obtain ⟨k0, k1, k2, k3⟩ := cells4 hc;  have HC4 := Lib.hid hc; have HL4 := Lib.hid (Nat.lt_of_lt_of_le HL3.out hb.size); have B4 := Lib.hid (B3.out.trans (hb.mono B3.out.size)); clear hc hb))
 go_ret
 exact ⟨rfl, B4.out⟩
theorem goodS_o (W : World) (op : Int) (m1 m2 c1 c2 : Nat) (px : Option Addr) (pl : Option Addr)  (h1 : op ≠ 1) (h2 : op ≠ 2) (h3 : op ≠ 3) (h5 : op ≠ 5) (h6 : op ≠ 6)
  (hX : ∀ W9, Below W.heap.size W W9 → Calls Tryz.prog 133 #[.slice px m1 c1, .func (.func 68) #[] #[]] W9 fun e W' => e = .returned (.bool (true)) ∧ Below W9.heap.size W9 W')
  (hS : ∀ W9, Below W.heap.size W W9 → Calls Tryz.prog 182 #[.slice pl m2 c2, .func (.func 118) #[] #[]] W9 fun e W' => e = .returned (.bool (true)) ∧ Below W9.heap.size W9 W')
  : Calls Tryz.prog 118 #[.agg #[.int .i64 op, .string (bs []), .slice px m1 c1, .slice pl m2 c2]] W fun e W' => e = .returned (.bool (false)) ∧ Below W.heap.size W W' := by
 have HX := Lib.hid hX
 have HS := Lib.hid hS
 clear hX hS
 have e6 : ¬ (op = 6) := h6
 have e6d : decide (op = 6) = false := by simpa using e6
 have e6b : (op == 6) = false := by simpa using e6
 have e6n : (op != 6) = true := by simpa using e6
 have e3 : ¬ (op = 3) := h3
 have e3d : decide (op = 3) = false := by simpa using e3
 have e3b : (op == 3) = false := by simpa using e3
 have e3n : (op != 3) = true := by simpa using e3
 have e1 : ¬ (op = 1) := h1
 have e1d : decide (op = 1) = false := by simpa using e1
 have e1b : (op == 1) = false := by simpa using e1
 have e1n : (op != 1) = true := by simpa using e1
 have e2 : ¬ (op = 2) := h2
 have e2d : decide (op = 2) = false := by simpa using e2
 have e2b : (op == 2) = false := by simpa using e2
 have e2n : (op != 2) = true := by simpa using e2
 have e5 : ¬ (op = 5) := h5
 have e5d : decide (op = 5) = false := by simpa using e5
 have e5b : (op == 5) = false := by simpa using e5
 have e5n : (op != 5) = true := by simpa using e5
 have hse : (bs []).toList.isEmpty = true := by rw [Lib.toList_data, list_bs]; rfl
 have B1 := Lib.hid ((Below.refl W.heap.size W).alloc (Nat.le_refl _) (.cells #[.int .i64 op, .string (bs []), .slice px m1 c1, .slice pl m2 c2] 31))
 have hc1 := World.alloc_heap_new W (.cells #[.int .i64 op, .string (bs []), .slice px m1 c1, .slice pl m2 c2] 31)
 have hl1 : W.heap.size < (W.alloc (.cells #[.int .i64 op, .string (bs []), .slice px m1 c1, .slice pl m2 c2] 31)).heap.size := by simp
 have HC1 := Lib.hid hc1
 have HL1 := Lib.hid hl1
 clear hc1 hl1
 go_enter Tryz.func118, Tryz.ntmps118
 go_wp2_with (first | (go_at_call 133; refine (HX.out _ B1.out).mono ?_; rintro e W2 ⟨rfl, hb⟩; have hc := (hb.block W.heap.size HL1.out).trans HC1.out; obtain ⟨k0, k1, k2, k3⟩ := cells4 hc;  have HC2 := Lib.hid hc; have HL2 := Lib.hid (Nat.lt_of_lt_of_le HL1.out hb.size); have B2 := Lib.hid (B1.out.trans (hb.mono B1.out.size)); clear hc hb) | (go_at_call 182; refine (HS.out _ B2.out).mono ?_; rintro e W3 ⟨rfl, hb⟩; have hc := (hb.block W.heap.size HL2.out).trans HC2.out; obtain ⟨k0, k1, k2, k3⟩ := cells4 hc;  have HC3 := Lib.hid hc; have HL3 := Lib.hid (Nat.lt_of_lt_of_le HL2.out hb.size); have B3 := Lib.hid (B2.out.trans (hb.mono B2.out.size)); clear hc hb))
 go_ret
 exact ⟨rfl, B3.out⟩
end Go.Proofs.YtlcfpdmicpggbaaGreatDoor
namespace Go.Proofs.Spl
open Go.Proofs.Scn
def Fair (t : Tok) : Prop := t.v < two64 ∧ t.s.length ≤ 140737488355328
def AllF (l : List Tok) : Prop := ∀ t ∈ l, Fair t
theorem AllF.nil : AllF [] := fun t h => by cases h
theorem AllF.cons {t : Tok} {l : List Tok} (h : Fair t) (k : AllF l) : AllF (t :: l) := fun u hu => by
 rcases List.mem_cons.1 hu with rfl | hu
 ·exact h
 ·exact k u hu
theorem AllF.app {a b : List Tok} (h : AllF a) (k : AllF b) : AllF (a ++ b) := fun u hu => by
 rcases List.mem_append.1 hu with hu | hu
 ·exact h u hu
 ·exact k u hu
theorem AllF.flat {l : List (List Tok)} (h : ∀ x ∈ l, AllF x) : AllF l.flatten := fun t ht => by
 obtain ⟨x, hx, hm⟩ := List.mem_flatten.1 ht
 exact h x hx t hm
theorem Fair.sg {s : Ln} (h : s.length ≤ 140737488355328) : Fair (sgT s) := ⟨show (0 : Nat) < two64 by decide, h⟩
theorem Fair.wd {s : Ln} (h : s.length ≤ 140737488355328) : Fair (wdT s) := ⟨show (0 : Nat) < two64 by decide, h⟩
theorem Fair.nm {s : Ln} (h : s.length ≤ 140737488355328) : Fair (nmT s) := ⟨show (0 : Nat) < two64 by decide, h⟩
theorem Fair.name {s : Ln} (h : isName s = true) : Fair (nmT s) := by
 refine Fair.nm ?_
 unfold isName at h
 simp only [Bool.and_eq_true, decide_eq_true_eq] at h
 omega
theorem AllF.inn (o c : UInt8) {l : List Tok} (h : AllF l) : AllF (inT o c l) := .cons (Fair.sg (by simp)) (h.app (.cons (Fair.sg (by simp)) .nil))
theorem AllF.sep {s : Ln} (hs : s.length ≤ 140737488355328) : ∀ {l : List (List Tok)}, (∀ x ∈ l, AllF x) → AllF (sepS s l)
 | [], _ => .nil
 | [a], h => h a (by simp)
 | a :: b :: r, h => (h a (by simp)).app (.cons (Fair.sg hs) (AllF.sep hs (l := b :: r) (fun x hx => h x (List.mem_cons_of_mem _ hx))))
theorem AllF.part {k : Nat × List Tok} (h : AllF k.2) (n : Nat) : AllF (partT k n) := by
 unfold partT
 split
 ·exact h.inn _ _
 ·exact h
theorem one_short (n : Int) : (oneS n).length ≤ 140737488355328 := by unfold oneS; (repeat' split) <;> decide
theorem two_short (n : Int) : (twoS n).length ≤ 140737488355328 := by
 have : ∀ s ∈ twosL, s.length ≤ 140737488355328 := by decide
 exact this _ (two_mem n)
theorem ext_short (n : Int) : (extS n).length ≤ 140737488355328 := by unfold extS; (repeat' split) <;> decide
theorem fair_expr : ∀ x : X, okX x = true → AllF (exprT x) := by
 refine X.ind ?_
 intro x ih h
 rw [okX_iff, Bool.and_eq_true] at h
 obtain ⟨h0, hl⟩ := h
 rw [List.all_eq_true] at hl
 have hk : ∀ z ∈ x.l.map exprT, AllF z := fun z hz => by
  obtain ⟨y, hy, rfl⟩ := List.mem_map.1 hz
  exact ih y hy (hl y hy)
 rw [exprT_eq]
 obtain ⟨op, name, n, w, v, l⟩ := x
 simp only [X.op, X.name, X.n, X.w, X.v, X.l] at *
 unfold okNode at h0
 simp only [Bool.and_eq_true] at h0
 obtain ⟨⟨⟨hn, _⟩, _⟩, hv⟩ := h0
 have hname : namedO op = true → Fair (nmT name) := fun e => by
  rw [e] at hn
  exact Fair.name hn
 have hmem : ∀ k ∈ l.map (fun y => (rankX y, exprT y)), AllF k.2 := fun k hk' => by
  obtain ⟨y, hy, rfl⟩ := List.mem_map.1 hk'
  exact ih y hy (hl y hy)
 have hsep : ∀ s : Ln, s.length ≤ 140737488355328 → AllF (sepS s ((l.map (fun y => (rankX y, exprT y))).map Prod.snd)) := fun s hs => AllF.sep hs fun z hz => by
  obtain ⟨k, hk', rfl⟩ := List.mem_map.1 hz
  exact hmem k hk'
 unfold nodeT
 split
 ·rename_i e
  refine .cons ⟨?_, by simp [numT]⟩ .nil
  rw [e] at hv
  unfold valueO at hv
  simp only [if_true, Bool.and_eq_true, decide_eq_true_eq] at hv
  exact hv.2
 split
 ·rename_i e
  exact .cons (hname (by rw [e]; rfl)) .nil
 split
 ·rename_i e
  refine .cons (hname (by rcases e with e | e <;> rw [e] <;> rfl)) ((hsep _ (by decide)).inn _ _)
 split
 ·split
  ·rename_i a e
   exact .cons (Fair.sg (one_short n)) (.part (hmem a (by rw [e]; simp)) _)
  ·exact .nil
 split
 ·split
  ·rename_i a b e
   exact (AllF.part (hmem a (by rw [e]; simp)) _).app (.cons (Fair.sg (two_short n)) (.part (hmem b (by rw [e]; simp)) _))
  ·exact .nil
 split
 ·split
  ·rename_i a b c e
   exact (AllF.part (hmem a (by rw [e]; simp)) _).app (.cons (Fair.sg (by decide)) ((hmem b (by rw [e]; simp)).app (.cons (Fair.sg (by decide)) (hmem c (by rw [e]; simp)))))
  ·exact .nil
 split
 ·exact (hsep _ (by decide)).inn _ _
 split
 ·split
  ·rename_i a b e
   exact AllF.inn _ _ ((hmem a (by rw [e]; simp)).app ((hmem b (by rw [e]; simp)).inn _ _))
  ·exact .nil
 ·exact .cons (Fair.wd (ext_short n)) ((hsep _ (by decide)).inn _ _)
theorem fair_exprs {s : Ln} (hs : s.length ≤ 140737488355328) {l : List X} (h : l.all okX = true) : AllF (sepS s (l.map exprT)) := AllF.sep hs fun z hz => by
 obtain ⟨y, hy, rfl⟩ := List.mem_map.1 hz
 exact fair_expr y (List.all_eq_true.1 h y hy)
theorem fair_list {l : List X} (h : l.all okX = true) : AllF (listT l) := fair_exprs (by decide) h
theorem fair_span {n : Ln} (hn : isName n = true) {l : List X} (h : l.all okX = true) : AllF (spanT n l) := AllF.inn _ _ (.cons (Fair.name hn) (.cons (Fair.sg (by decide)) (fair_exprs (by decide) h)))
theorem fair_stmt {put : Ln} (hput : put.length ≤ 140737488355328) : ∀ s : S, okSA s = true → AllF (stmtT put s) := by
 refine S.ind ?_
 intro s ih h
 rw [okSA_iff] at h
 simp only [Bool.and_eq_true] at h
 obtain ⟨⟨⟨hx, h0⟩, hk⟩, hl⟩ := h
 rw [List.all_eq_true] at hl
 rw [stmtT_eq]
 obtain ⟨op, name, x, l⟩ := s
 simp only [S.op, S.name, S.x, S.l] at *
 have hf : AllF (l.map (stmtT put)).flatten := AllF.flat fun z hz => by
  obtain ⟨y, hy, rfl⟩ := List.mem_map.1 hz
  exact ih y hy (hl y hy)
 have hm : ∀ z ∈ l.map (stmtT put), AllF z := fun z hz => by
  obtain ⟨y, hy, rfl⟩ := List.mem_map.1 hz
  exact ih y hy (hl y hy)
 unfold stT
 split
 ·exact (fair_exprs hput hx).app (.cons (Fair.sg (by decide)) .nil)
 split
 ·split
  ·rename_i a b t u e
   refine .cons (Fair.wd (by decide)) (((fair_list hx).inn _ _).app ((hm t (by rw [e]; simp)).app ?_))
   split
   ·exact .cons (Fair.wd (by decide)) (hm u (by rw [e]; simp))
   ·exact .nil
  ·exact .nil
 split
 ·exact .cons (Fair.wd (by decide)) (((fair_list hx).inn _ _).app (hf.inn _ _))
 split
 ·split
  ·exact (fair_list hx).app (.cons (Fair.sg (by decide)) (hf.inn _ _))
  ·split
   ·exact .nil
   ·exact .cons (Fair.wd (by decide)) (.cons (Fair.sg (by decide)) (hf.inn _ _))
 split
 ·rename_i e
  refine .cons (Fair.wd (by decide)) ((fair_span ?_ hx).app (hf.inn _ _))
  rw [e] at h0
  simp [okSt] at h0
  exact h0.1
 ·exact hf.inn _ _
theorem fair_block {put : Ln} (hput : put.length ≤ 140737488355328) {l : List S} (h : okSs l = true) : AllF (blockT put l) := by
 unfold blockT
 rw [stmtsT_map]
 refine AllF.inn _ _ (AllF.flat fun z hz => ?_)
 obtain ⟨y, hy, rfl⟩ := List.mem_map.1 hz
 unfold okSs at h
 rw [Bool.and_eq_true, okSAs_all] at h
 exact fair_stmt hput y (List.all_eq_true.1 h.2 y hy)
theorem fair_binds {l : List Bd} (h : l.all okB = true) : AllF (bindsT l) := AllF.inn _ _ (AllF.sep (by decide) fun z hz => by
 obtain ⟨y, hy, rfl⟩ := List.mem_map.1 hz
 have := List.all_eq_true.1 h y hy
 unfold okB at this
 rw [Bool.and_eq_true] at this
 exact .cons (Fair.name this.1) (.cons (Fair.sg (by decide)) (fair_expr _ this.2)))
theorem fair_params {l : List Bd} (h : l.all okB = true) : AllF (paramsT l) := by
 unfold paramsT
 split
 ·exact .nil
 ·exact .cons (Fair.sg (by decide)) (fair_binds h)
theorem fair_item : ∀ t : It, okI t = true → AllF (itemT t) := by
 refine It.ind ?_
 intro t ihl ihe h
 rw [okI_iff] at h
 rw [itemT_eq]
 obtain ⟨op, name, f, x, s, l, e, ps, bb⟩ := t
 simp only [It.op, It.name, It.of, It.x, It.s, It.l, It.e, It.ps, It.bs, Bool.and_eq_true] at *
 obtain ⟨⟨⟨⟨⟨⟨h0, hx⟩, hs⟩, hl⟩, he⟩, hp⟩, hb⟩ := h
 rw [List.all_eq_true] at hl he
 have fl : AllF (l.map itemT).flatten := AllF.flat fun z hz => by
  obtain ⟨y, hy, rfl⟩ := List.mem_map.1 hz
  exact ihl y hy (hl y hy)
 have fe : AllF (e.map itemT).flatten := AllF.flat fun z hz => by
  obtain ⟨y, hy, rfl⟩ := List.mem_map.1 hz
  exact ihe y hy (he y hy)
 unfold okIt at h0
 simp only [Bool.and_eq_true, decide_eq_true_eq] at h0
 obtain ⟨⟨⟨⟨⟨⟨⟨⟨⟨o1, o2⟩, hn⟩, hf⟩, hc⟩, ht⟩, i5⟩, i8⟩, ie⟩, i7⟩ := h0
 have hop : op = 1 ∨ op = 2 ∨ op = 3 ∨ op = 4 ∨ op = 5 ∨ op = 6 ∨ op = 7 ∨ op = 8 ∨ op = 9 ∨ op = 10 := by omega
 rcases hop with rfl | rfl | rfl | rfl | rfl | rfl | rfl | rfl | rfl | rfl <;> simp [nameI, ofI] at hn hf
 ·exact .cons (Fair.wd (by decide)) (.cons (Fair.name hn) (.cons (Fair.sg (by decide)) ((fair_list hx).app (.cons (Fair.sg (by decide)) .nil))))
 ·exact .cons (Fair.wd (by decide)) (.cons (Fair.name hn) (.cons (Fair.sg (by decide)) ((fair_list hx).app (.cons (Fair.sg (by decide)) .nil))))
 ·exact .cons (Fair.wd (by decide)) (.cons (Fair.name hn) (.cons (Fair.sg (by decide)) ((fair_exprs (by decide) hx).app (.cons (Fair.sg (by decide)) .nil))))
 ·exact .cons (Fair.wd (by decide)) ((fair_exprs (by decide) hx).app (.cons (Fair.sg (by decide)) .nil))
 ·exact .cons (Fair.wd (by decide)) (fair_block (by decide) hs)
 ·exact .cons (Fair.wd (by decide)) (.cons (Fair.wd (by decide)) (fair_block (by decide) hs))
 ·exact .cons (Fair.wd (by decide)) (.cons (Fair.name hn) (.cons (Fair.sg (by decide)) (.cons (Fair.name hf) ((fair_params hp).app ((fair_binds hb).app (.cons (Fair.sg (by decide)) .nil))))))
 ·refine .cons (Fair.wd (by decide)) (((fair_list hx).inn _ _).app ((fl.inn _ _).app ?_))
  split
  ·exact .nil
  ·exact .cons (Fair.wd (by decide)) (fe.inn _ _)
 ·exact .cons (Fair.wd (by decide)) (.cons (Fair.name hn) ((fair_span hf hx).app (fl.inn _ _)))
 ·exact .cons (Fair.wd (by decide)) (.cons (Fair.name hn) (.cons (Fair.sg (by decide)) ((fair_list hx).app (.cons (Fair.sg (by decide)) .nil))))
theorem fair_module {m : Md} (h : okM m = true) : AllF (moduleT m) := by
 unfold okM at h
 simp only [Bool.and_eq_true, okIs_all] at h
 obtain ⟨⟨⟨hn, hp⟩, ht⟩, hl⟩ := h
 rw [List.all_eq_true] at hl ht
 unfold moduleT
 rw [itemsT_map]
 refine .cons (Fair.wd (by decide)) (.cons (Fair.name hn) ((fair_params hp).app ((AllF.inn _ _ (AllF.sep (by decide) fun z hz => ?_)).app (AllF.inn _ _ (AllF.flat fun z hz => ?_)))))
 ·obtain ⟨y, hy, rfl⟩ := List.mem_map.1 hz
  have := ht y hy
  unfold okP at this
  rw [Bool.and_eq_true] at this
  refine .cons (Fair.wd (by split <;> decide)) (.cons (Fair.name this.1) (.cons (Fair.sg (by decide)) (fair_expr _ this.2)))
 ·obtain ⟨y, hy, rfl⟩ := List.mem_map.1 hz
  exact fair_item y (hl y hy)
theorem fair_file {f : List Md} (h : f.all okM = true) : AllF (fileT f) := AllF.flat fun z hz => by
 obtain ⟨y, hy, rfl⟩ := List.mem_map.1 hz
 exact fair_module (List.all_eq_true.1 h y hy)
theorem even_check : ∀ (l : List Tok) (st : List Ln), evenS st l = true → l.all checkT = true
 | [], _, _ => rfl
 | t :: l, st, h => by
  rw [evenS] at h
  unfold stepE at h
  by_cases c : (checkT t && t.p == 0) = true
  ·rw [if_pos c] at h
   have ht : checkT t = true := by
    rw [Bool.and_eq_true] at c
    exact c.1
   rw [List.all_cons, ht, Bool.true_and]
   split at h
   ·exact even_check l _ h
   ·cases h
  ·rw [if_neg c] at h
   cases h
end Go.Proofs.Spl
namespace Go.Proofs.Spl
open Go.Proofs.Scn
def armB (last : Bool) (a : S) : Bool := a.op == 4 && a.name.isEmpty && (a.x.isEmpty == last) && a.x.all okX && a.l.all okS
def armsA : List S → Bool
 | [] => true
 | a :: r => armB r.isEmpty a && armsA r
theorem armsA_iff : ∀ l : List S, armsA l = true ↔ ∀ j (h : j < l.length), armB (decide (j + 1 = l.length)) l[j] = true
 | [] => ⟨fun _ j h => absurd h (by simp), fun _ => rfl⟩
 | a :: r => by
  rw [armsA, Bool.and_eq_true, armsA_iff r]
  have hr : r.isEmpty = decide (0 + 1 = (a :: r).length) := by cases r <;> simp
  rw [hr]
  constructor
  ·rintro ⟨h1, h2⟩ j hj
   match j with
   | 0 => exact h1
   | j + 1 =>
    have := h2 j (by simpa using hj)
    simpa using this
  ·intro h
   refine ⟨h 0 (by simp), fun j hj => ?_⟩
   have := h (j + 1) (by simpa using hj)
   simpa using this
theorem armsA_no {l : List S} {k : Nat} (hk : k < l.length) (h : armB (decide (k + 1 = l.length)) l[k] = false) : armsA l = false := by
 rw [Bool.eq_false_iff]
 intro e
 rw [(armsA_iff l).1 e k hk] at h
 cases h
theorem okS_all (l : List S) : l.all okS = ((l.all fun s => s.op != 4) && l.all okSA) := by
 rw [← okSs_all]
 unfold okSs
 rw [okSAs_all]
theorem armsA_eq : ∀ l : List S, armsA l = (armsO l && l.all okSA)
 | [] => rfl
 | a :: r => by
  rw [armsA, armsA_eq r, armsO, List.all_cons, armB, okSA_iff]
  by_cases h4 : a.op = 4
  ·have h1 : kindO a.op a.l = a.l.all fun s => s.op != 4 := by rw [h4]; rfl
   have h0 : okSt a.op a.name a.x a.l = a.name.isEmpty := by rw [h4]; rfl
   rw [h1, h0, okS_all]
   ac_rfl
  ·have : (a.op == 4) = false := by simpa using h4
   rw [this]
   simp only [Bool.false_and]
def ifB : List S → Bool
 | [a, b] => a.op == 5 && (b.op == 5 || b.op == 2)
 | _ => false
def goodSB (op : Int) (name : Ln) (x : List X) (l : List S) : Bool :=
 x.all okX && (op == 6 || name.isEmpty) && (if op = 3 then x.length == 1 && (armsA l && !l.isEmpty) else l.all okS &&
  (if op = 1 then x.length == 2 && targetX x && l.isEmpty else if op = 2 then x.length == 1 && ifB l else if op = 5 then x.isEmpty else if op = 6 then isName name && x.length == 2 else false))
theorem okS_eq (op : Int) (name : Ln) (x : List X) (l : List S) : okS (.mk op name x l) = goodSB op name x l := by
 unfold okS
 rw [okSA_iff]
 simp only [S.op, S.name, S.x, S.l]
 unfold goodSB
 by_cases e3 : op = 3
 ·subst e3
  rw [armsA_eq]
  simp [okSt, kindO]
  ac_rfl
 have hk : kindO op l = l.all fun s => s.op != 4 := by unfold kindO; rw [if_neg e3]
 rw [hk, if_neg e3, okS_all]
 by_cases e4 : op = 4
 ·subst e4
  simp
 have e4' : (op != 4) = true := by simpa using e4
 rw [e4', Bool.true_and]
 unfold okSt
 by_cases e1 : op = 1
 ·subst e1
  simp
  ac_rfl
 by_cases e2 : op = 2
 ·subst e2
  simp
  unfold ifB
  ac_rfl
 by_cases e5 : op = 5
 ·subst e5
  simp
  ac_rfl
 by_cases e6 : op = 6
 ·subst e6
  simp
  ac_rfl
 simp [e1, e2, e3, e4, e5, e6]
end Go.Proofs.Spl
namespace Go.Proofs.YtlcfpdmicpggbaaGreatDoor
open Go.RowKit Go.Proofs.Spl Go.Proofs.Scn Go.Shelf
theorem arms_any (p : Option Addr) (cap : Nat) (l : List S) (hl : l.length ≤ 1000000) (W : World) (hB : BaseA W) (hR : SsR W (.slice p l.length cap) l) (hXl : ∀ a ∈ l, a.x.length ≤ 1000000 ∧ a.l.length ≤ 1000000) (hEX : ∀ a ∈ l, ∀ y ∈ a.x, GoodX y) (hES : ∀ a ∈ l, ∀ y ∈ a.l, GoodS y) :
  Calls Tryz.prog 181 #[.slice p l.length cap] W fun e W' => e = .returned (.bool (armsA l && !l.isEmpty)) ∧ Below W.heap.size W W' := by
 have hcell : l = [] ∨ ∃ b off, p = some ⟨b, off, none⟩ ∧ b < W.heap.size ∧ Go.Proofs.Spl.Rows W 4 (SR W) b off l := by
  obtain ⟨p', c', e, _, h⟩ := hR
  cases e
  exact h
 have HX := Lib.hid hEX
 have HS := Lib.hid hES
 have HXL := Lib.hid hXl
 have HC := Lib.hid hcell
 have HBs := Lib.hid hB
 clear hEX hES hcell hB hR hXl
 go_enter Tryz.func181, Tryz.ntmps181
 go_wp2
 go_loopw [7] (fun i wr => ∃ k : Nat, i = .int .i64 k ∧ k ≤ l.length ∧ Hid (Below W.heap.size W wr) ∧ Hid (∀ j (h : j < l.length), j < k → armB (decide (j + 1 = l.length)) l[j] = true)) (fun i _ => l.length - (intOf i).toNat)
 case atStart => exact ⟨0, rfl, Nat.zero_le _, Lib.hid (Below.refl _ _), Lib.hid (fun j h hj => by omega)⟩
 case round =>
  obtain ⟨k, rfl, hk, HW, HA⟩ := hrel
  by_cases hlt : k < l.length
  ·have hlt' : (k : Int) < (l.length : Int) := by omega
   rcases HC.out with hc | ⟨q, off, rfl, hq, hc⟩
   ·subst hc; simp at hlt
   obtain ⟨cs, hR, hcs⟩ := hc k hlt
   have hB := HW.out
   have hex := HX.out _ (List.getElem_mem hlt)
   have hes := HS.out _ (List.getElem_mem hlt)
   have hxl := HXL.out _ (List.getElem_mem hlt)
   obtain ⟨xs, ls, rfl, hXR, hL⟩ := SR_iff.1 hR
   have hXR0 := XsR.later hXR hB
   have hL0 := SsR.later hL hB
   obtain ⟨px, cx, rfl, _⟩ := hXR
   obtain ⟨pl, cl, rfl, _⟩ := hL
   have x0 := (hB.cell (p := ⟨q, off + k * 4 + 0, none⟩) hq).trans (hcs 0 (by omega))
   have x1 := (hB.cell (p := ⟨q, off + k * 4 + 1, none⟩) hq).trans (hcs 1 (by omega))
   have x2 := (hB.cell (p := ⟨q, off + k * 4 + 2, none⟩) hq).trans (hcs 2 (by omega))
   have x3 := (hB.cell (p := ⟨q, off + k * 4 + 3, none⟩) hq).trans (hcs 3 (by omega))
   simp only [Nat.add_zero, List.getElem?_cons_zero, List.getElem?_cons_succ] at x0 x1 x2 x3
   have HAX := Lib.hid (fun (W9 : World) (h : Below wr.heap.size wr W9) => allX_any _ l[k].x (by omega) W9 (HBs.out.later (HW.out.trans (h.mono HW.out.size))) (XsR.later hXR0 h) hex)
   have HAS := Lib.hid (fun (W9 : World) (h : Below wr.heap.size wr W9) => allS_any _ l[k].l (by omega) W9 (HBs.out.later (HW.out.trans (h.mono HW.out.size))) (SsR.later hL0 h) hes)
   have HNX := Lib.hid (fun (h : armB (decide (k + 1 = l.length)) l[k] = true) => show ∀ j (h : j < l.length), j < k + 1 → armB (decide (j + 1 = l.length)) l[j] = true from fun j h1 h2 => by
    rcases Nat.lt_or_ge j k with h3 | h3
    ·exact HA.out j h1 h3
    ·have : j = k := by omega
     subst this; exact h)
   have HNO := Lib.hid (fun (h : armB (decide (k + 1 = l.length)) l[k] = false) => show (armsA l && !l.isEmpty) = false by rw [armsA_no hlt h]; rfl)
   have HNE := Lib.hid (show l[k].name.isEmpty = decide ((bs l[k].name).toList = []) by rw [Lib.toList_data, list_bs]; cases l[k].name <;> simp)
   have HXE := Lib.hid (show l[k].x.isEmpty = ((l[k].x.length : Int) == 0) by cases l[k].x <;> simp <;> omega)
   have HKE := Lib.hid (show decide (k + 1 = l.length) = ((k : Int) + 1 == (l.length : Int)) by rw [Bool.eq_iff_iff]; simp; omega)
   clear hR hc hex hes hxl hcs hXR0 hL0
   generalize l[k] = y at *
   cases hax : y.x.all okX <;> cases has : y.l.all okS <;> rw [hax] at HAX <;> rw [has] at HAS
   all_goals have HAX2 := Lib.hid hax
   all_goals have HAS2 := Lib.hid has
   all_goals clear hax has
   all_goals go_wp2_with (first
    | (go_at_call 133; refine (HAX.out _ ((Below.refl _ _).alloc (Nat.le_refl _) _)).mono ?_; rintro e W2 ⟨rfl, hb⟩; have hc := (hb.block wr.heap.size (by simp)).trans (World.alloc_heap_new wr _); obtain ⟨k0, k1, k2, k3⟩ := cells4 hc; have C2 := Lib.hid (((Below.refl _ _).alloc (Nat.le_refl _) _).trans (hb.mono (by simp))); clear hc hb HAX)
    | (go_at_call 182; refine (HAS.out _ C2.out).mono ?_; rintro e W3 ⟨rfl, hb⟩; have C3 := Lib.hid (C2.out.trans (hb.mono C2.out.size)); clear hb HAS))
   all_goals first
    | (go_ret; exact ⟨ret_bool (HNO.out (by unfold armB; rw [HXE.out, HKE.out, HNE.out, HAX2.out, HAS2.out]; simp [*])).symm, HW.out.trans (Below.mono (by first | exact C3.out | exact C2.out | exact (Below.refl _ _).alloc (Nat.le_refl _) _) HW.out.size)⟩)
    | (go_roundw
       case rel => exact ⟨k + 1, by go_num, hlt, Lib.hid (HW.out.trans (C3.out.mono HW.out.size)), HNX.out (by unfold armB; rw [HXE.out, HKE.out, HNE.out, HAX2.out, HAS2.out]; simp [*])⟩
       case measure => simp [intOf]; omega)
  ·have hge : ¬ ((k : Int) < (l.length : Int)) := by omega
   have HALL := Lib.hid (show armsA l = true from (armsA_iff l).2 fun j hj => HA.out j hj (by omega))
   go_wp2
   go_ret
   refine ⟨ret_bool ?_, HW.out⟩
   rw [HALL.out, Bool.true_and, Bool.eq_iff_iff]
   cases l <;> simp
end Go.Proofs.YtlcfpdmicpggbaaGreatDoor
namespace Go.Proofs.YtlcfpdmicpggbaaGreatDoor
open Go.RowKit Go.Proofs.Spl Go.Proofs.Scn Go.Shelf
theorem els2X {W : World} {p : Option Addr} {c : Nat} {a b : X} (h : XsR W (.slice p 2 c) [a, b]) : ∃ q off ls, p = some ⟨q, off, none⟩ ∧ q < W.heap.size ∧ W.cell? ⟨q, off, none⟩ = some (.int .i64 a.op) ∧ W.cell? ⟨q, off + 1, none⟩ = some (.string (bs a.name)) ∧ W.cell? ⟨q, off + 2, none⟩ = some (.int .i64 a.n) ∧ W.cell? ⟨q, off + 3, none⟩ = some (.int .i64 a.w) ∧ W.cell? ⟨q, off + 4, none⟩ = some (.int .u64 a.v) ∧ W.cell? ⟨q, off + 5, none⟩ = some ls := by
 obtain ⟨p', c', e, _, h⟩ := h
 cases e
 rcases h with h | ⟨q, off, rfl, hq, hc⟩
 ·cases h
 obtain ⟨cs, hR, hcs⟩ := hc 0 (by simp)
 obtain ⟨hv, ls, rfl, hL⟩ := XR_iff.1 hR
 exact ⟨q, off, ls, rfl, hq, hcs 0 (by omega), hcs 1 (by omega), hcs 2 (by omega), hcs 3 (by omega), hcs 4 (by omega), hcs 5 (by omega)⟩
theorem els2S {W : World} {p : Option Addr} {c : Nat} {a b : S} (h : SsR W (.slice p 2 c) [a, b]) : ∃ q off, p = some ⟨q, off, none⟩ ∧ q < W.heap.size ∧ W.cell? ⟨q, off, none⟩ = some (.int .i64 a.op) ∧ W.cell? ⟨q, off + 4, none⟩ = some (.int .i64 b.op) := by
 obtain ⟨p', c', e, _, h⟩ := h
 cases e
 rcases h with h | ⟨q, off, rfl, hq, hc⟩
 ·cases h
 obtain ⟨cs, hR, hcs⟩ := hc 0 (by simp)
 obtain ⟨ds, hD, hds⟩ := hc 1 (by simp)
 obtain ⟨xs, ls, rfl, _⟩ := SR_iff.1 hR
 obtain ⟨xs', ls', rfl, _⟩ := SR_iff.1 hD
 exact ⟨q, off, rfl, hq, hcs 0 (by omega), hds 0 (by omega)⟩
theorem len2 (n : Nat) : ((n : Int) == 2) = (n == 2) := by rw [Bool.eq_iff_iff]; simp; omega
theorem len0 {α : Type} (l : List α) : ((l.length : Int) == 0) = l.isEmpty := by cases l <;> simp <;> omega
theorem list2 {α : Type} {l : List α} (h : l.length = 2) : ∃ a b, l = [a, b] := by
 match l, h with
 | [a, b], _ => exact ⟨a, b, rfl⟩
theorem ifB_no : ∀ {l : List S}, l.length ≠ 2 → ifB l = false
 | [], _ => rfl
 | [_], _ => rfl
 | [_, _], h => absurd rfl h
 | _ :: _ :: _ :: _, _ => rfl
theorem goodS_both : ∀ s : S, (smS s = true → sizeS s ≤ 65536 → GoodS s) ∧ ∀ y ∈ s.l, smS y = true → sizeS y ≤ 65536 → GoodS y := by
 refine S.ind ?_
 intro s ih
 refine ⟨?_, fun y hy => (ih y hy).1⟩
 intro hsm hsz W cs hB hR
 obtain ⟨op, name, x, l⟩ := s
 obtain ⟨xs, ls, rfl, hX, hL⟩ := SR_iff.1 hR
 simp only [S.op, S.name, S.x, S.l] at ih hX hL ⊢
 rw [smS_iff, Bool.and_eq_true, Bool.and_eq_true] at hsm
 simp only [S.op, S.name, S.x, S.l, List.all_eq_true] at hsm
 obtain ⟨⟨hn, hsx⟩, hsl⟩ := hsm
 rw [sizeS_eq, sizeXs_sum, sizeSs_sum] at hsz
 simp only [S.x, S.l] at hsz
 have hn := of_decide_eq_true hn
 have hlx : x.length ≤ 65536 := by have := sumN_len sizeX one_sizeX x; omega
 have hll : l.length ≤ 65536 := by have := sumN_len sizeS one_sizeS l; omega
 have hGX : ∀ y ∈ x, GoodX y := fun y hy => goodX_ok y (hsx y hy) (by have := sumN_mem sizeX hy; omega)
 have hGS : ∀ y ∈ l, GoodS y := fun y hy => (ih y hy).1 (hsl y hy) (by have := sumN_mem sizeS hy; omega)
 have hkid : ∀ a ∈ l, smS a = true ∧ sizeS a ≤ 65536 := fun a ha => ⟨hsl a ha, by have := sumN_mem sizeS ha; omega⟩
 have hAx : ∀ a ∈ l, ∀ y ∈ a.x, GoodX y := fun a ha y hy => by
  obtain ⟨h1, h2⟩ := hkid a ha
  rw [smS_iff, Bool.and_eq_true, Bool.and_eq_true] at h1
  rw [sizeS_eq, sizeXs_sum] at h2
  exact goodX_ok y (List.all_eq_true.1 h1.1.2 y hy) (by have := sumN_mem sizeX hy; omega)
 have hAl : ∀ a ∈ l, ∀ y ∈ a.l, GoodS y := fun a ha y hy => by
  obtain ⟨h1, h2⟩ := hkid a ha
  rw [smS_iff, Bool.and_eq_true, Bool.and_eq_true] at h1
  rw [sizeS_eq, sizeSs_sum] at h2
  exact (ih a ha).2 y hy (List.all_eq_true.1 h1.2 y hy) (by have := sumN_mem sizeS hy; omega)
 have hAn : ∀ a ∈ l, a.x.length ≤ 1000000 ∧ a.l.length ≤ 1000000 := fun a ha => by
  obtain ⟨h1, h2⟩ := hkid a ha
  rw [sizeS_eq, sizeXs_sum, sizeSs_sum] at h2
  have h3 := sumN_len sizeX one_sizeX a.x
  have h4 := sumN_len sizeS one_sizeS a.l
  omega
 have cX := fun (W9 : World) (h : Below W.heap.size W W9) => allX_any xs x (by omega) W9 (hB.later h) (XsR.later hX h) hGX
 have cS := fun (W9 : World) (h : Below W.heap.size W W9) => allS_any ls l (by omega) W9 (hB.later h) (SsR.later hL h) hGS
 have cN := fun (W9 : World) (h : Below W.heap.size W W9) => aname_any name hn W9 (hB.later h).base
 obtain ⟨px, cx, rfl, hcx, hX2⟩ := hX
 obtain ⟨pl, cl, rfl, hcl, hL2⟩ := hL
 have hX : XsR W (.slice px x.length cx) x := ⟨px, cx, rfl, hcx, hX2⟩
 have hL : SsR W (.slice pl l.length cl) l := ⟨pl, cl, rfl, hcl, hL2⟩
 have cA := fun (W9 : World) (h : Below W.heap.size W W9) => arms_any pl cl l (by omega) W9 (hB.later h) (SsR.later hL h) hAn hAx hAl
 rw [okS_eq]
 unfold goodSB
 cases bx : x.all okX with
 | false =>
  rw [bx] at cX
  simp only [Bool.false_and]
  exact goodS_x W op name x.length l.length cx cl px pl cX
 | true =>
 rw [bx] at cX
 simp only [Bool.true_and]
 by_cases e6 : op = 6
 ·subst e6
  simp only [beq_self_eq_true, Bool.true_or, Bool.true_and, show ¬ ((6 : Int) = 3) by decide, show ¬ ((6 : Int) = 1) by decide, show ¬ ((6 : Int) = 2) by decide, show ¬ ((6 : Int) = 5) by decide, if_false, if_true]
  cases bS : l.all okS with
  | false =>
   rw [bS] at cS
   simp only [Bool.false_and]
   exact goodS_6s W name x.length l.length cx cl px pl cX cS
  | true =>
   rw [bS] at cS
   cases bn : isName name with
   | false =>
    rw [bn] at cN
    simp only [Bool.false_and, Bool.and_false]
    exact goodS_6a W name x.length l.length cx cl px pl cX cS cN
   | true =>
    rw [bn] at cN
    have := goodS_6b W name x.length l.length cx cl px pl cX cS cN
    rw [len2] at this
    exact this
 have e6' : (op == 6) = false := by simpa using e6
 rw [e6', Bool.false_or]
 by_cases en : name = []
 case neg =>
  have : name.isEmpty = false := by simpa using en
  rw [this]
  simp only [Bool.false_and]
  exact goodS_n W op name x.length l.length cx cl px pl e6 en cX
 subst en
 simp only [List.isEmpty_nil, Bool.true_and]
 by_cases e3 : op = 3
 ·subst e3
  rw [if_pos rfl]
  by_cases h1 : x.length = 1
  ·rw [h1] at cX ⊢
   have := goodS_3y W l.length cx cl px pl _ cX cA
   simpa using this
  ·have : (x.length == 1) = false := by simpa using h1
   rw [this]
   simp only [Bool.false_and]
   exact goodS_3n W x.length l.length cx cl px pl h1 cX
 rw [if_neg e3]
 cases bS : l.all okS with
 | false =>
  rw [bS] at cS
  simp only [Bool.false_and]
  exact goodS_os W op x.length l.length cx cl px pl e6 e3 cX cS
 | true =>
 rw [bS] at cS
 simp only [Bool.true_and]
 by_cases e1 : op = 1
 ·subst e1
  rw [if_pos rfl]
  by_cases h2 : x.length = 2
  ·obtain ⟨a, b, rfl⟩ := list2 h2
   obtain ⟨q, off, lv, rfl, hq, q0, q1, q2, q3, q4, q5⟩ := els2X hX
   have cT := fun (W9 : World) (h : Below W.heap.size W W9) => target_any a.op [] a.name a.n a.w a.v lv W9
   cases bt : namedO a.op with
   | false =>
    rw [bt] at cT
    simp only [targetX, bt, Bool.false_and, Bool.and_false]
    exact goodS_1b W l.length cx cl pl q off _ _ _ _ _ _ ⟨hq, q0, q1, q2, q3, q4, q5⟩ cX cS cT
   | true =>
    rw [bt] at cT
    have := goodS_1c W l.length cx cl pl q off _ _ _ _ _ _ ⟨hq, q0, q1, q2, q3, q4, q5⟩ cX cS cT
    rw [len0] at this
    simp only [targetX, bt]
    exact this
  ·have : (x.length == 2) = false := by simpa using h2
   rw [this]
   simp only [Bool.false_and]
   exact goodS_1a W x.length l.length cx cl px pl h2 cX cS
 rw [if_neg e1]
 by_cases e2 : op = 2
 ·subst e2
  rw [if_pos rfl]
  by_cases h1 : x.length = 1
  ·rw [h1] at cX ⊢
   by_cases h2 : l.length = 2
   ·obtain ⟨a, b, rfl⟩ := list2 h2
    obtain ⟨q, off, rfl, hq, q0, q1⟩ := els2S hL
    simp only [ifB, beq_self_eq_true, Bool.true_and]
    by_cases ea : a.op = 5
    ·rw [ea] at q0 ⊢
     by_cases eb : b.op = 5
     ·rw [eb] at q1 ⊢
      exact goodS_2d W cx cl px q off ⟨hq, q0, q1⟩ cX cS
     ·have eb' : (b.op == 5) = false := by simpa using eb
      have := goodS_2e W cx cl px q off b.op eb ⟨hq, q0, q1⟩ cX cS
      rw [eb', Bool.false_or]
      exact this
    ·have ea' : (a.op == 5) = false := by simpa using ea
     rw [ea', Bool.false_and]
     exact goodS_2c W cx cl px q off a.op b.op ea ⟨hq, q0, q1⟩ cX cS
   ·have := ifB_no h2
    rw [this, Bool.and_false]
    exact goodS_2b W l.length cx cl px pl h2 cX cS
  ·have : (x.length == 1) = false := by simpa using h1
   rw [this, Bool.false_and]
   exact goodS_2a W x.length l.length cx cl px pl h1 cX cS
 rw [if_neg e2]
 by_cases e5 : op = 5
 ·subst e5
  rw [if_pos rfl]
  have := goodS_5 W x.length l.length cx cl px pl cX cS
  rw [len0] at this
  exact this
 rw [if_neg e5, if_neg e6]
 exact goodS_o W op x.length l.length cx cl px pl e1 e2 e3 e5 e6 cX cS
theorem goodS_ok (s : S) (h1 : smS s = true) (h2 : sizeS s ≤ 65536) : GoodS s := (goodS_both s).1 h1 h2
end Go.Proofs.YtlcfpdmicpggbaaGreatDoor
namespace Go.Stage
open Go Go.RowKit
variable {P : Program} {Q : Exit → Act → World → Prop} {a : Act} {w : World}
theorem wp_pre1 (M : Act → World → Prop) {x rest : Code} (h1 : x.wp P (Exit.then M Q) a w) (h2 : ∀ a w, M a w → rest.wp P Q a w) : (x.seq rest).wp P Q a w :=
 wp_seq (wp_mono h1 fun e a w h => by cases e <;> first | exact h2 _ _ h | exact h)
theorem wp_pre2 (M : Act → World → Prop) {x y rest : Code} (h1 : x.wp P (Exit.then (y.wp P (Exit.then M Q)) Q) a w) (h2 : ∀ a w, M a w → rest.wp P Q a w) : (x.seq (y.seq rest)).wp P Q a w :=
 wp_seq (wp_mono h1 fun e a w h => by cases e <;> first | exact wp_pre1 M h h2 | exact h)
theorem wp_pre3 (M : Act → World → Prop) {x y z rest : Code} (h1 : x.wp P (Exit.then (y.wp P (Exit.then (z.wp P (Exit.then M Q)) Q)) Q) a w) (h2 : ∀ a w, M a w → rest.wp P Q a w) : (x.seq (y.seq (z.seq rest))).wp P Q a w :=
 wp_seq (wp_mono h1 fun e a w h => by cases e <;> first | exact wp_pre2 M h h2 | exact h)
theorem wp_pre4 (M : Act → World → Prop) {x y z u rest : Code} (h1 : x.wp P (Exit.then (y.wp P (Exit.then (z.wp P (Exit.then (u.wp P (Exit.then M Q)) Q)) Q)) Q) a w) (h2 : ∀ a w, M a w → rest.wp P Q a w) : (x.seq (y.seq (z.seq (u.seq rest)))).wp P Q a w :=
 wp_seq (wp_mono h1 fun e a w h => by cases e <;> first | exact wp_pre3 M h h2 | exact h)
def litL (f : Nat → Value) : Nat → Nat → List Value
 | _, 0 => []
 | i, k + 1 => f i :: litL f (i + 1) k
theorem litL_length (f : Nat → Value) : ∀ k i, (litL f i k).length = k
 | 0, _ => rfl
 | k + 1, i => by rw [litL, List.length_cons, litL_length f k]
theorem litL_get (f : Nat → Value) : ∀ k i j (h : j < (litL f i k).length), (litL f i k)[j] = f (i + j)
 | 0, _, j, h => absurd h (by simp [litL])
 | k + 1, i, 0, h => rfl
 | k + 1, i, j + 1, h => by
  simp only [litL, List.getElem_cons_succ]
  rw [litL_get f k]
  congr 1; omega
theorem slots (t : Array Value) (n : Nat) (hs : t.size = n) : ∃ f : Nat → Value, (∀ i, t.getD i undef = f i) ∧ t = (litL f 0 n).toArray := by
 refine ⟨fun i => t.getD i undef, fun _ => rfl, ?_⟩
 apply Array.ext
 ·simp [litL_length, hs]
 ·intro i h1 h2
  simp [litL_get, h1]
def Mid (n : Nat) (l : List (Nat × Value)) (K : World → Prop) (a : Act) (w : World) : Prop := a.tmps.size = n ∧ a.defers = [] ∧ (∀ p ∈ l, a.tmps.getD p.1 undef = p.2) ∧ K w
theorem Mid.lit {n : Nat} {l : List (Nat × Value)} {K : World → Prop} {a : Act} {w : World} (h : Mid n l K a w) : ∃ f : Nat → Value, (∀ p ∈ l, f p.1 = p.2) ∧ a = { tmps := (litL f 0 n).toArray, defers := [] } ∧ K w := by
 obtain ⟨h1, h2, h3, h4⟩ := h
 obtain ⟨f, hf, ht⟩ := slots a.tmps n h1
 refine ⟨f, fun p hp => (hf p.1).symm.trans (h3 p hp), ?_, h4⟩
 cases a
 simp only at ht h2
 rw [ht, h2]
end Go.Stage
