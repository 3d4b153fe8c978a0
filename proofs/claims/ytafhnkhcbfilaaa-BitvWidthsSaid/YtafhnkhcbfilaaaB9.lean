/- The law's helpers; the reference's Cat of nothing; bitv.Cond at the chapter's example. -/
import Derived.Test.YtafhnkhcbfilaaaB8
namespace Go.Proofs.Ytafhnkhcbfilaaa
open Go.RowKit Go.Flow Go.Sort
set_option linter.unusedVariables false
set_option linter.unusedSimpArgs false
set_option maxRecDepth 100000

set_option maxHeartbeats 1000000 in
theorem refCat_nil (W : World) : Calls Try.prog 23 #[.slice none 0 0] W (CatPost [] W) := by
  go_enter Try.func23, Try.ntmps23
  go_wp2_with fail
  go_loop [4, 5] (fun t i => t = .int .i64 0 ∧ i = .int .i64 0) (fun _ _ => 0)
  case atStart => exact ⟨rfl, rfl⟩
  case round =>
    obtain ⟨rfl, rfl⟩ := hrel
    go_wp2
    refine bodyPost_ret (v := .tuple #[.agg #[.int .i64 0, .int .u64 0], .int .i64 1]) ?_ rfl ⟨rfl, (Below.refl _ _).alloc (Nat.le_refl _) _⟩
    simp [results, Try.results23, go_sem]

set_option maxHeartbeats 1000000 in
theorem refCat_empty (a : Addr) (cap : Nat) (W : World) : Calls Try.prog 23 #[.slice (some a) 0 cap] W (CatPost [] W) := by
  go_enter Try.func23, Try.ntmps23
  go_wp2_with fail
  go_loop [4, 5] (fun t i => t = .int .i64 0 ∧ i = .int .i64 0) (fun _ _ => 0)
  case atStart => exact ⟨rfl, rfl⟩
  case round =>
    obtain ⟨rfl, rfl⟩ := hrel
    go_wp2
    refine bodyPost_ret (v := .tuple #[.agg #[.int .i64 0, .int .u64 0], .int .i64 1]) ?_ rfl ⟨rfl, (Below.refl _ _).alloc (Nat.le_refl _) _⟩
    simp [results, Try.results23, go_sem]

/-- a width of 1 to 64 -/
def mw (w : Nat) : Nat := 1 + w % 64
theorem mw_pos (w : Nat) : 0 < mw w := by unfold mw; omega
theorem mw_le (w : Nat) : mw w ≤ 64 := by unfold mw; omega

set_option maxHeartbeats 1000000 in
theorem masked_any (w v : Nat) (W : World) (hw : w < 256) (hv : v < 18446744073709551616) :
    Calls Try.prog 24 #[.int .u8 w, .int .u64 v] W fun e W' => e = .returned (.agg #[.int .i64 (mw w : Nat), .int .u64 (v % 2 ^ mw w : Nat)]) ∧ Below W.heap.size W W' := by
  have hm := and_mask (mw w) v (mw_pos w) (mw_le w)
  have ha := u64_and_nat v (mask (mw w : Nat)) hv (mask_lt _)
  rw [hm] at ha
  have e : (1 : Int) + (w : Int) % 64 = ((mw w : Nat) : Int) := by unfold mw; omega
  clear hm
  generalize v % 2 ^ mw w = x at *
  generalize mw w = n at *
  go_enter Try.func24, Try.ntmps24
  go_wp2_with fail
  refine (refMask_any _ _).mono ?_
  rintro e W1 ⟨rfl, rfl⟩
  go_wp2
  refine bodyPost_ret (v := .agg #[.int .i64 n, .int .u64 x]) ?_ rfl ⟨rfl, (Below.refl _ _).alloc (Nat.le_refl _) _⟩
  simp [results, Try.results24, go_sem]

set_option maxHeartbeats 1000000 in
theorem lawBin_any (op wa wb : Int) (va vb : Nat) (W : World) (ha : va < 18446744073709551616) (hb : vb < 18446744073709551616) :
    Calls Try.prog 25 #[.int .i64 op, .agg #[.int .i64 wa, .int .u64 va], .agg #[.int .i64 wb, .int .u64 vb]] W fun e W' =>
      e = .returned (.agg #[.int .i64 (binW op wa va wb vb), .int .u64 (binV op wa va wb vb)]) ∧ Below W.heap.size W W' := by
  go_enter Try.func25, Try.ntmps25
  go_wp2_with fail
  refine (bin_any op wa wb va vb _ ha hb).mono ?_
  rintro e W1 ⟨rfl, hbel⟩
  obtain ⟨_, _, hR, hW1⟩ := three_facts hbel
  clear hbel
  have hne := Nat.ne_of_lt hR.lt
  obtain ⟨z0, z1, _, _, _⟩ := ((hR.set0 (.int .i64 (binW op wa va wb vb))).set1 (.int .u64 (binV op wa va wb vb : Nat))).alloc (.cells #[.int .i64 (binW op wa va wb vb), .int .u64 (binV op wa va wb vb : Nat)] 24)
  have hR2 := hR.alloc (.cells #[.int .i64 (binW op wa va wb vb), .int .u64 (binV op wa va wb vb : Nat)] 24)
  obtain ⟨r0, r1, rf0, rf1, rl⟩ := hR
  obtain ⟨q0, q1, qf0, qf1, ql⟩ := hR2
  go_wp2
  refine bodyPost_ret (v := .agg #[.int .i64 (binW op wa va wb vb), .int .u64 (binV op wa va wb vb : Nat)]) ?_ rfl ⟨rfl, ?_⟩
  · simp [results, Try.results25, go_sem, z0, z1]
  · exact ((hW1.setCell (by simp; try omega) _).setCell (by simp; try omega) _).alloc (by simp [World.setCell]; have := hW1.size; omega) _

set_option maxHeartbeats 1000000 in
theorem lawUn_any (op w : Int) (v : Nat) (W : World) (hv : v < 18446744073709551616) :
    Calls Try.prog 26 #[.int .i64 op, .agg #[.int .i64 w, .int .u64 v]] W fun e W' =>
      e = .returned (.agg #[.int .i64 (unW op w v), .int .u64 (unV op w v)]) ∧ Below W.heap.size W W' := by
  go_enter Try.func26, Try.ntmps26
  go_wp2_with fail
  refine (un_any op w v _ hv).mono ?_
  rintro e W1 ⟨rfl, hbel⟩
  obtain ⟨_, hR, hW1⟩ := two_box hbel
  clear hbel
  have hne := Nat.ne_of_lt hR.lt
  obtain ⟨z0, z1, _, _, _⟩ := ((hR.set0 (.int .i64 (unW op w v))).set1 (.int .u64 (unV op w v : Nat))).alloc (.cells #[.int .i64 (unW op w v), .int .u64 (unV op w v : Nat)] 24)
  have hR2 := hR.alloc (.cells #[.int .i64 (unW op w v), .int .u64 (unV op w v : Nat)] 24)
  obtain ⟨r0, r1, rf0, rf1, rl⟩ := hR
  obtain ⟨q0, q1, qf0, qf1, ql⟩ := hR2
  go_wp2
  refine bodyPost_ret (v := .agg #[.int .i64 (unW op w v), .int .u64 (unV op w v : Nat)]) ?_ rfl ⟨rfl, ?_⟩
  · simp [results, Try.results26, go_sem, z0, z1]
  · exact ((hW1.setCell (by simp; try omega) _).setCell (by simp; try omega) _).alloc (by simp [World.setCell]; have := hW1.size; omega) _

set_option maxHeartbeats 1000000 in
theorem lawMay_ok (w : Int) (v : Nat) (W : World) (hv : v < 18446744073709551616) (hm : mayB w v = true) :
    Calls Try.prog 30 #[.agg #[.int .i64 w, .int .u64 v], .int .i64 0] W fun e W' => e = .returned (.bool true) ∧ Below W.heap.size W W' := by
  have he : errE (mayB w v) = 0 := by rw [hm]; rfl
  go_enter Try.func30, Try.ntmps30
  go_wp2_with fail
  refine (refCheck_any w v _ hv).mono ?_
  rintro e W1 ⟨rfl, hbel⟩
  obtain ⟨_, hW1⟩ := one_box hbel
  go_wp2
  go_ret
  exact ⟨rfl, hW1⟩

set_option maxHeartbeats 1000000 in
theorem lawMay_no (W : World) :
    Calls Try.prog 30 #[.agg #[.int .i64 0, .int .u64 0], .int .i64 1] W fun e W' => e = .returned (.bool true) ∧ Below W.heap.size W W' := by
  go_enter Try.func30, Try.ntmps30
  go_wp2
  go_ret
  exact ⟨rfl, (Below.refl _ _).alloc (Nat.le_refl _) _⟩

end Go.Proofs.Ytafhnkhcbfilaaa
