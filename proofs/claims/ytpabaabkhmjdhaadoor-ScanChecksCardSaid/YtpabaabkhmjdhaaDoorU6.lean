/- ScanChecks. -/
import Derived.Test.YtpabaabkhmjdhaaDoorU5
namespace Go.Proofs.YtpabaabkhmjdhaaDoor
open Go.RowKit Go.Proofs.Scn Go.Flow Go.Sort
set_option linter.unusedVariables false
set_option linter.unusedSimpArgs false
set_option maxRecDepth 100000

set_option maxHeartbeats 4000000 in
theorem checks_any (k w p : Int) (S s : ByteArray) (v : Nat) (hv : v < 18446744073709551616) (W : World) (hB : Base W) :
    Calls Tryd.prog 4 #[.agg #[.int .i64 k, .string S, .int .i64 w, .int .u64 v, .int .i64 p], .string s] W fun e W' => e = .returned (.bool true) ∧ Below W.heap.size W W' := by
  have hX := (Below.refl W.heap.size W).alloc (Nat.le_refl _) (.cells #[.int .i64 k, .string S, .int .i64 w, .int .u64 v, .int .i64 p] 32)
  have hBX := hB.later hX
  have KL := Lib.hid (live_any _ hBX)
  have b5 := Box5.new W (.int .i64 k) (.string S) (.int .i64 w) (.int .u64 v) (.int .i64 p) 32
  have HX := Lib.hid hX
  have HBX := Lib.hid hBX
  clear hX hBX hB
  go_enter Tryd.func4, Tryd.ntmps4
  go_wp2_with fail
  generalize W.alloc (.cells #[.int .i64 k, .string S, .int .i64 w, .int .u64 v, .int .i64 p] 32) = X at *
  refine KL.out.mono ?_
  rintro e W1 ⟨rfl, hb1⟩
  have hW1 := HX.out.trans (hb1.mono HX.out.size)
  replace b5 := b5.later hb1
  have hB1 := HBX.out.later hb1
  have HW1 := Lib.hid hW1
  have HB1 := Lib.hid hB1
  clear hb1 hW1 hB1
  obtain ⟨c0, c1, c2, c3, c4, _, _, _, _, _, lt⟩ := b5
  by_cases h1 : 2000 < S.size
  · have h1' : (2000 : Int) < (S.size : Int) := by omega
    go_wp2
    go_ret
    exact ⟨rfl, HW1.out⟩
  · have h1' : ¬ (2000 : Int) < (S.size : Int) := by omega
    by_cases h2 : 2000 < s.size
    · have h2' : (2000 : Int) < (s.size : Int) := by omega
      go_wp2
      go_ret
      exact ⟨rfl, HW1.out⟩
    · have h2' : ¬ (2000 : Int) < (s.size : Int) := by omega
      go_wp2_with fail
      have d0 := cell_regrown c0
      have d1 := cell_regrown c1
      have d2 := cell_regrown c2
      have d3 := cell_regrown c3
      have d4 := cell_regrown c4
      have hBr : ∀ d os, Base (grow (redrawn W1 d) os) := fun d os => HB1.out.later (below_regrown W1 d os)
      have k1 := fun d os => Calls.regrown_of (check_any k w p S v (by omega) hv (grow (redrawn W1 d) os) (hBr d os))
      have k2 := fun d os => Calls.regrown_of (refCheck_any k w p S v (by omega) hv (grow (redrawn W1 d) os) (hBr d os))
      have k3 := fun d os => Calls.regrown_of ((word_any s (by omega) (grow (redrawn W1 d) os) _ (hBr d os).max.choose_spec).mono fun e W' h => (⟨h.1, h.2 ▸ Below.refl _ _⟩ : e = .returned (.bool (isWord s.data.toList)) ∧ Below (grow (redrawn W1 d) os).heap.size (grow (redrawn W1 d) os) W'))
      have k4 := fun d os => Calls.regrown_of ((refWord_any s (grow (redrawn W1 d) os)).mono fun e W' h => (⟨h.1, h.2 ▸ Below.refl _ _⟩ : e = .returned (.bool (isWord s.data.toList)) ∧ Below (grow (redrawn W1 d) os).heap.size (grow (redrawn W1 d) os) W'))
      generalize errB (checkT ⟨k, S.data.toList, w, v, p⟩) = er at *
      generalize isWord s.data.toList = b at *
      clear hBr
      refine wp_region_quiet_fast (by kernel_rfl) (by kernel_rfl) (by kernel_rfl) ?_
      try simp only [List.append_eq, List.cons_append, List.nil_append]
      repeat (go_big_quiet_step (first | with_reducible exact k1 _ _ | with_reducible exact k2 _ _ | with_reducible exact k3 _ _ | with_reducible exact k4 _ _))
      refine wpQuiet_nil ?_
      intro _ hw'
      obtain ⟨⟨dq, osq⟩, hw''⟩ := hw'
      subst hw''
      go_wp2
      go_ret
      exact ⟨rfl, HW1.out.trans ((below_regrown W1 dq osq).mono HW1.out.size)⟩

end Go.Proofs.YtpabaabkhmjdhaaDoor
