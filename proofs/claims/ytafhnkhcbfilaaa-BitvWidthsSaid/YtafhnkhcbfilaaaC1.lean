/- bitv.Cond at the example of the chapter. -/
import Derived.Test.YtafhnkhcbfilaaaB9
namespace Go.Proofs.Ytafhnkhcbfilaaa
open Go.RowKit Go.Flow
set_option linter.unusedVariables false
set_option linter.unusedSimpArgs false
set_option maxRecDepth 100000

theorem all3_any (b cap : Nat) (W : World) (h : BitsAt W b 0 [(1, 1), (2, 3), (2, 0)]) (hb : b < W.heap.size) :
    Calls Try.prog 39 #[.func (.func 31) #[] #[], .slice (some ⟨b, 0, none⟩) 3 cap] W fun e W' => e = .returned (.bool true) ∧ Below W.heap.size W W' :=
  (all_any b 0 cap [(1, 1), (2, 3), (2, 0)] W h hb (by simp)).mono fun e W' h => ⟨by rw [h.1]; rfl, h.2⟩

theorem bits3 (w : World) : BitsAt (w.alloc (.cells #[.int .i64 1, .int .u64 1, .int .i64 2, .int .u64 3, .int .i64 2, .int .u64 0] 24)) w.heap.size 0 [(1, 1), (2, 3), (2, 0)] := by
  intro i x hx
  match i, hx with
  | 0, hx => cases hx; exact ⟨by simp [World.cell?_alloc_new], by simp [World.cell?_alloc_new], by decide⟩
  | 1, hx => cases hx; exact ⟨by simp [World.cell?_alloc_new], by simp [World.cell?_alloc_new], by decide⟩
  | 2, hx => cases hx; exact ⟨by simp [World.cell?_alloc_new], by simp [World.cell?_alloc_new], by decide⟩
  | i + 3, hx => simp at hx

theorem bits3d (w : World) : BitsAt (w.alloc (.cells #[.int .i64 1, .int .u64 1, .int .i64 2, .int .u64 3, .int .i64 2, .int .u64 0] 24)).drew w.heap.size 0 [(1, 1), (2, 3), (2, 0)] :=
  fun i x hx => bits3 w i x hx

set_option maxHeartbeats 1000000 in
theorem cond_example (W : World) : Calls Try.prog 38 #[.agg #[.int .i64 1, .int .u64 1], .agg #[.int .i64 2, .int .u64 3], .agg #[.int .i64 2, .int .u64 0]] W fun e W' => e = Tup 2 3 0 ∧ Below W.heap.size W W' := by
  have bC : ∀ W : World, Box (((((W.alloc (.cells #[.int .i64 1, .int .u64 1] 24)).alloc (.cells #[.int .i64 2, .int .u64 3] 24)).alloc (.cells #[.int .i64 2, .int .u64 0] 24)).alloc (.cells #[.int .i64 0, .int .u64 0] 24)).alloc (.cells #[.int .i64 2, .int .u64 3] 24)) W.heap.size (.int .i64 1) (.int .u64 1) := fun W => ((((Box.new W _ _ 24).alloc _).alloc _).alloc _).alloc _
  have bA : ∀ W : World, Box (((((W.alloc (.cells #[.int .i64 1, .int .u64 1] 24)).alloc (.cells #[.int .i64 2, .int .u64 3] 24)).alloc (.cells #[.int .i64 2, .int .u64 0] 24)).alloc (.cells #[.int .i64 0, .int .u64 0] 24)).alloc (.cells #[.int .i64 2, .int .u64 3] 24)) (W.heap.size + 1) (.int .i64 2) (.int .u64 3) := fun W => by
    have := (((Box.new (W.alloc (.cells #[.int .i64 1, .int .u64 1] 24)) (.int .i64 2) (.int .u64 3) 24).alloc (.cells #[.int .i64 2, .int .u64 0] 24)).alloc (.cells #[.int .i64 0, .int .u64 0] 24)).alloc (.cells #[.int .i64 2, .int .u64 3] 24)
    simpa using this
  have bB : ∀ W : World, Box (((((W.alloc (.cells #[.int .i64 1, .int .u64 1] 24)).alloc (.cells #[.int .i64 2, .int .u64 3] 24)).alloc (.cells #[.int .i64 2, .int .u64 0] 24)).alloc (.cells #[.int .i64 0, .int .u64 0] 24)).alloc (.cells #[.int .i64 2, .int .u64 3] 24)) (W.heap.size + 1 + 1) (.int .i64 2) (.int .u64 0) := fun W => by
    have := ((Box.new ((W.alloc (.cells #[.int .i64 1, .int .u64 1] 24)).alloc (.cells #[.int .i64 2, .int .u64 3] 24)) (.int .i64 2) (.int .u64 0) 24).alloc (.cells #[.int .i64 0, .int .u64 0] 24)).alloc (.cells #[.int .i64 2, .int .u64 3] 24)
    simpa using this
  have bR : ∀ W : World, Box (((((W.alloc (.cells #[.int .i64 1, .int .u64 1] 24)).alloc (.cells #[.int .i64 2, .int .u64 3] 24)).alloc (.cells #[.int .i64 2, .int .u64 0] 24)).alloc (.cells #[.int .i64 0, .int .u64 0] 24)).alloc (.cells #[.int .i64 2, .int .u64 3] 24)) (W.heap.size + 1 + 1 + 1) (.int .i64 0) (.int .u64 0) := fun W => by
    have := (Box.new (((W.alloc (.cells #[.int .i64 1, .int .u64 1] 24)).alloc (.cells #[.int .i64 2, .int .u64 3] 24)).alloc (.cells #[.int .i64 2, .int .u64 0] 24)) (.int .i64 0) (.int .u64 0) 24).alloc (.cells #[.int .i64 2, .int .u64 3] 24)
    simpa using this
  have bT : ∀ W : World, Box (((((W.alloc (.cells #[.int .i64 1, .int .u64 1] 24)).alloc (.cells #[.int .i64 2, .int .u64 3] 24)).alloc (.cells #[.int .i64 2, .int .u64 0] 24)).alloc (.cells #[.int .i64 0, .int .u64 0] 24)).alloc (.cells #[.int .i64 2, .int .u64 3] 24)) (W.heap.size + 1 + 1 + 1 + 1) (.int .i64 2) (.int .u64 3) := fun W => by
    have := Box.new ((((W.alloc (.cells #[.int .i64 1, .int .u64 1] 24)).alloc (.cells #[.int .i64 2, .int .u64 3] 24)).alloc (.cells #[.int .i64 2, .int .u64 0] 24)).alloc (.cells #[.int .i64 0, .int .u64 0] 24)) (.int .i64 2) (.int .u64 3) 24
    simpa using this
  have bW : ∀ W : World, Below W.heap.size W (((((W.alloc (.cells #[.int .i64 1, .int .u64 1] 24)).alloc (.cells #[.int .i64 2, .int .u64 3] 24)).alloc (.cells #[.int .i64 2, .int .u64 0] 24)).alloc (.cells #[.int .i64 0, .int .u64 0] 24)).alloc (.cells #[.int .i64 2, .int .u64 3] 24)) := fun W =>
    (((((Below.refl _ _).alloc (Nat.le_refl _) _).alloc (by simp) _).alloc (by simp; omega) _).alloc (by simp; omega) _).alloc (by simp; omega) _
  go_enter Try.func38, Try.ntmps38
  go_wp2_with fail
  have bC' := bC W; have bA' := bA W; have bB' := bB W; have bR' := bR W; have bT' := bT W; have bW' := bW W
  clear bC bA bB bR bT bW
  generalize (((((W.alloc (.cells #[.int .i64 1, .int .u64 1] 24)).alloc (.cells #[.int .i64 2, .int .u64 3] 24)).alloc (.cells #[.int .i64 2, .int .u64 0] 24)).alloc (.cells #[.int .i64 0, .int .u64 0] 24)).alloc (.cells #[.int .i64 2, .int .u64 3] 24)) = X at *
  obtain ⟨c0, c1, _, _, _⟩ := bC'
  obtain ⟨a0, a1, _, _, _⟩ := bA'
  obtain ⟨b0, b1, _, _, _⟩ := bB'
  obtain ⟨r0, r1, rf0, rf1, rl⟩ := bR'
  obtain ⟨t0, t1, _, _, _⟩ := bT'
  go_region_held3 (fun w' => w'.cell? ⟨W.heap.size, 0, none⟩ = some (.int .i64 1) ∧ w'.cell? ⟨W.heap.size, 1, none⟩ = some (.int .u64 1) ∧ w'.cell? ⟨W.heap.size + 1, 0, none⟩ = some (.int .i64 2) ∧ w'.cell? ⟨W.heap.size + 1, 1, none⟩ = some (.int .u64 3) ∧
      w'.cell? ⟨W.heap.size + 1 + 1, 0, none⟩ = some (.int .i64 2) ∧ w'.cell? ⟨W.heap.size + 1 + 1, 1, none⟩ = some (.int .u64 0) ∧ w'.cell? ⟨W.heap.size + 1 + 1 + 1 + 1, 0, none⟩ = some (.int .i64 2) ∧ w'.cell? ⟨W.heap.size + 1 + 1 + 1 + 1, 1, none⟩ = some (.int .u64 3)) (go_keep)
    (first
      | (go_at_call 39
         refine (all3_any _ 3 _ (bits3d _) (by simp)).mono ?_
         rintro e W2 ⟨rfl, hb2⟩
         have k2 := fun (n o : Nat) (v : Value) (h : X.cell? ⟨n, o, none⟩ = some v) => (hb2.cell (p := ⟨n, o, none⟩) (by have h9 := World.block_lt_of_cell? X _ h; dsimp only at h9; simp; omega)).trans ((World.cell?_alloc_past (w := X) _ n o (World.block_lt_of_cell? X _ h)).trans h)
         have c0' := k2 _ _ _ c0
         have c1' := k2 _ _ _ c1
         have a0' := k2 _ _ _ a0
         have a1' := k2 _ _ _ a1
         have b0' := k2 _ _ _ b0
         have b1' := k2 _ _ _ b1
         have t0' := k2 _ _ _ t0
         have t1' := k2 _ _ _ t1
         obtain ⟨r0', r1', rf0', rf1', rl'⟩ := (Box.mk r0 r1 rf0 rf1 rl).alloc (.cells #[.int .i64 1, .int .u64 1, .int .i64 2, .int .u64 3, .int .i64 2, .int .u64 0] 24)
         have hbox2 := Box.later (w := (X.alloc (.cells #[.int .i64 1, .int .u64 1, .int .i64 2, .int .u64 3, .int .i64 2, .int .u64 0] 24)).drew) ⟨r0', r1', rf0', rf1', rl'⟩ hb2
         clear k2 r0' r1' rf0' rf1' rl')
      | (go_at_call 32
         refine (made_any true 2 3 _ (by omega)).mono ?_
         rintro e W3 ⟨rfl, hb3⟩
         have k3 := fun (n o : Nat) (v : Value) (h : W2.cell? ⟨n, o, none⟩ = some v) => (hb3.cell (p := ⟨n, o, none⟩) (World.block_lt_of_cell? W2 _ h)).trans h
         have c0'' := k3 _ _ _ c0'
         have c1'' := k3 _ _ _ c1'
         have a0'' := k3 _ _ _ a0'
         have a1'' := k3 _ _ _ a1'
         have b0'' := k3 _ _ _ b0'
         have b1'' := k3 _ _ _ b1'
         have t0'' := k3 _ _ _ t0'
         have t1'' := k3 _ _ _ t1'
         obtain ⟨r0', r1', rf0', rf1', rl'⟩ := hbox2.later hb3
         have n1 : ¬ W.heap.size + 1 + 1 + 1 = W.heap.size := by omega
         have n2 : ¬ W.heap.size = W.heap.size + 1 + 1 + 1 := by omega
         have n3 : ¬ W.heap.size + 1 + 1 = W.heap.size := by omega
         have n4 : ¬ W.heap.size = W.heap.size + 1 + 1 := by omega
         clear k3))
  go_wp2
  refine bodyPost_ret (v := .tuple #[.agg #[.int .i64 2, .int .u64 3], .int .i64 0]) ?_ rfl ⟨rfl, ?_⟩
  · simp [results, Try.results38, go_sem, r0', r1', rf0', rf1', madeW, madeV, errE, mask]
  · refine ((((bW'.alloc bW'.size _).drew).trans ((hb2.mono ?_).trans (hb3.mono ?_))).setCell (by simp; try omega) _).setCell (by simp; try omega) _
    · have := bW'.size; simp; omega
    · have := bW'.size; have := hb2.size; simp at this; omega
end Go.Proofs.Ytafhnkhcbfilaaa
