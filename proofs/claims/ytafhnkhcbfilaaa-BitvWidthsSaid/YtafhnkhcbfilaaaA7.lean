/- bitv.pairs: what a call gives. -/
import Derived.Test.YtafhnkhcbfilaaaA6
namespace Go.Proofs.Ytafhnkhcbfilaaa
open Go.RowKit Go.Flow
set_option linter.unusedVariables false
set_option linter.unusedSimpArgs false

/-- what pairs tells -/
def PairsPost (op : Int) (W : World) (e : Ending) (W' : World) : Prop :=
  ∃ b v, e = .returned (.tuple #[v, .bool (decide (19 ≤ op)), .bool (isKey op)]) ∧ Res b op v W' ∧ W'.cell? ⟨b, 0, none⟩ = some (F 44) ∧ Below W.heap.size W W'

set_option maxRecDepth 100000
set_option maxHeartbeats 1000000 in
theorem pairs_any (op : Int) (W : World) : Calls Try.prog 40 #[.int .i64 op] W (PairsPost op W) := by
  go_enter Try.func40, Try.ntmps40
  go_wp2_with fail
  refine wp_region_flow (ops := pops) (by kernel_rfl) (by kernel_rfl) (by kernel_rfl) (by kernel_rfl) (RW W W.heap.size) (phi W.heap.size W.heap.size op) ?_ (pairs_step rfl rfl) ?_
  · refine ⟨((Below.refl _ _).alloc (Nat.le_refl _) _).drew, by simp [go_sem, World.cell?_alloc_new], fun h => ?_, fun i n hi h => ?_⟩
    · simp [Array.getD_eq_getD_getElem?, pops_size] at h
    · have := keyAt_lt hi
      simp [Array.getD_eq_getD_getElem?, pops_size, this] at h
  · intro L a w hsz hall hI
    have hv := hI.vals
    rw [pops_size] at hv hall
    have v31 : Res W.heap.size op (a.tmps.getD 2 undef) w := hv 31 2 (by omega) (by kernel_rfl) (hall 31 (by omega))
    have v32 : a.tmps.getD 4 undef = .bool (isKey op) := hv 32 4 (by omega) (by kernel_rfl) (hall 32 (by omega))
    have h0 : a.tmps.getD 0 undef = .int .i64 op := hI.same 0 (by intro j hj; rw [pops_size] at hj; exact (by decide +kernel : ∀ j : Fin 33, dst pops j.1 ≠ some 0) ⟨j, hj⟩)
    have hR := hI.world
    have hs : a.tmps.size = 27 := hI.size
    have hd : a.defers = [] := hI.defers
    have ha := act_lit a
    rw [hs, hd] at ha
    simp only [List.range_succ, List.range_zero, List.nil_append, List.cons_append, List.map_cons, List.map_nil] at ha
    rw [h0, v32] at ha
    generalize a.tmps.getD 2 undef = v at *
    rw [ha]
    clear ha hI hv v32 h0 hs hd
    have hr := Lib.hid hR.1
    have hc := Lib.hid hR.2.1
    have v31' := Lib.hid v31
    clear hR v31 hall
    go_wp2
    go_ret3
    exact ⟨W.heap.size, v, rfl, v31'.out, hc.out, hr.out⟩

/-- two values that may be -/
theorem all2_any (b cap : Nat) (wa wb : Int) (va vb : Nat) (W : World) (h : BitsAt W b 0 [(wa, va), (wb, vb)]) (hb : b < W.heap.size) :
    Calls Try.prog 39 #[.func (.func 31) #[] #[], .slice (some ⟨b, 0, none⟩) 2 cap] W fun e W' => e = .returned (.bool (mayB wa va && mayB wb vb)) ∧ Below W.heap.size W W' :=
  (all_any b 0 cap [(wa, va), (wb, vb)] W h hb (by simp)).mono fun e W' h => ⟨by rw [h.1]; simp, h.2⟩

theorem bits2 (w : World) (wa wb : Int) (va vb : Nat) (ha : va < 18446744073709551616) (hb : vb < 18446744073709551616) :
    BitsAt (w.alloc (.cells #[.int .i64 wa, .int .u64 va, .int .i64 wb, .int .u64 vb] 24)) w.heap.size 0 [(wa, va), (wb, vb)] := by
  intro i x hx
  match i, hx with
  | 0, hx => cases hx; exact ⟨by simp [World.cell?_alloc_new], by simp [World.cell?_alloc_new], ha⟩
  | 1, hx => cases hx; exact ⟨by simp [World.cell?_alloc_new], by simp [World.cell?_alloc_new], hb⟩
  | i + 2, hx => simp at hx
end Go.Proofs.Ytafhnkhcbfilaaa
