/- The operations of one: bitv.Un. -/
import Derived.Test.YtafhnkhcbfilaaaA2
namespace Go.Proofs.Ytafhnkhcbfilaaa
open Go.RowKit
set_option linter.unusedVariables false
set_option linter.unusedSimpArgs false

set_option maxHeartbeats 400000 in
theorem un_w1 (w : Int) (v : Nat) (W : World) (hv : v < 18446744073709551616) :
    Calls Try.prog 13 #[.int .i64 1, .agg #[.int .i64 w, .int .u64 v]] W fun e W' =>
      e = .returned (.tuple #[.agg #[.int .i64 (madeW (mayB w v) w), .int .u64 (madeV (mayB w v) w (18446744073709551615 - v))], .int .i64 (errE (mayB w v))]) ∧ Below W.heap.size W W' := by
  have hn := notAll v hv
  go_enter Try.func13, Try.ntmps13
  go_wp2_with fail
  refine (may_any w v _ hv).mono ?_
  rintro e W1 ⟨rfl, hb⟩
  obtain ⟨ha0, ha1, _, _, hal⟩ := ((Box.new W (.int .i64 w) (.int .u64 v) 24).alloc (.cells #[.int .i64 0, .int .u64 0] 24)).later hb
  obtain ⟨hr0, hr1, hf0, hf1, hrl⟩ := (Box.new (W.alloc (.cells #[.int .i64 w, .int .u64 v] 24)) (.int .i64 0) (.int .u64 0) 24).later hb
  simp only [World.size_alloc] at hr0 hr1 hf0 hf1 hrl
  go_wp2_with fail
  refine (made_any _ w _ _ (by omega)).mono ?_
  rintro e W2 ⟨rfl, hb2⟩
  obtain ⟨hr0', hr1', hf0', hf1', hrl'⟩ := Box.later ⟨hr0, hr1, hf0, hf1, hrl⟩ hb2
  go_wp2
  refine bodyPost_ret (v := .tuple #[.agg #[.int .i64 (madeW (mayB w v) w), .int .u64 (madeV (mayB w v) w (18446744073709551615 - v))], .int .i64 (errE (mayB w v))]) ?_ rfl ⟨rfl, ?_⟩
  · simp [results, Try.results13, go_sem, hr0', hr1', hf0', hf1']
  · exact (((((Below.refl _ _).alloc (Nat.le_refl _) _).alloc (by simp) _).trans (hb.mono (by simp; omega))).trans (hb2.mono (by omega))).setCell (by simp) _ |>.setCell (by simp) _

set_option maxHeartbeats 400000 in
theorem un_w2 (w : Int) (v : Nat) (W : World) (hv : v < 18446744073709551616) :
    Calls Try.prog 13 #[.int .i64 2, .agg #[.int .i64 w, .int .u64 v]] W fun e W' =>
      e = .returned (.tuple #[.agg #[.int .i64 (madeW (mayB w v) w), .int .u64 (madeV (mayB w v) w ((18446744073709551616 - v) % 18446744073709551616))], .int .i64 (errE (mayB w v))]) ∧ Below W.heap.size W W' := by
  have hn := notAll v hv
  have hg := neg_walk v hv
  go_enter Try.func13, Try.ntmps13
  go_wp2_with fail
  refine (may_any w v _ hv).mono ?_
  rintro e W1 ⟨rfl, hb⟩
  obtain ⟨ha0, ha1, _, _, hal⟩ := ((Box.new W (.int .i64 w) (.int .u64 v) 24).alloc (.cells #[.int .i64 0, .int .u64 0] 24)).later hb
  obtain ⟨hr0, hr1, hf0, hf1, hrl⟩ := (Box.new (W.alloc (.cells #[.int .i64 w, .int .u64 v] 24)) (.int .i64 0) (.int .u64 0) 24).later hb
  simp only [World.size_alloc] at hr0 hr1 hf0 hf1 hrl
  go_wp2_with fail
  refine (made_any _ w _ _ (Nat.mod_lt _ (by omega))).mono ?_
  rintro e W2 ⟨rfl, hb2⟩
  obtain ⟨hr0', hr1', hf0', hf1', hrl'⟩ := Box.later ⟨hr0, hr1, hf0, hf1, hrl⟩ hb2
  go_wp2
  refine bodyPost_ret (v := .tuple #[.agg #[.int .i64 (madeW (mayB w v) w), .int .u64 (madeV (mayB w v) w ((18446744073709551616 - v) % 18446744073709551616))], .int .i64 (errE (mayB w v))]) ?_ rfl ⟨rfl, ?_⟩
  · simp [results, Try.results13, go_sem, hr0', hr1', hf0', hf1']
  · exact (((((Below.refl _ _).alloc (Nat.le_refl _) _).alloc (by simp) _).trans (hb.mono (by simp; omega))).trans (hb2.mono (by omega))).setCell (by simp) _ |>.setCell (by simp) _

set_option maxHeartbeats 1000000 in
theorem un_w3 (w : Int) (v : Nat) (W : World) (hv : v < 18446744073709551616) :
    Calls Try.prog 13 #[.int .i64 3, .agg #[.int .i64 w, .int .u64 v]] W fun e W' =>
      e = .returned (.tuple #[.agg #[.int .i64 (madeW (mayB w v) 1), .int .u64 (madeV (mayB w v) 1 (bitN (((ones 64 v : Nat) : Int) == w)))], .int .i64 (errE (mayB w v))]) ∧ Below W.heap.size W W' := by
  go_enter Try.func13, Try.ntmps13
  go_wp2_with fail
  refine (may_any w v _ hv).mono ?_
  rintro e W1 ⟨rfl, hb⟩
  obtain ⟨ha0, ha1, _, _, hal⟩ := ((Box.new W (.int .i64 w) (.int .u64 v) 24).alloc (.cells #[.int .i64 0, .int .u64 0] 24)).later hb
  obtain ⟨hr0, hr1, hf0, hf1, hrl⟩ := (Box.new (W.alloc (.cells #[.int .i64 w, .int .u64 v] 24)) (.int .i64 0) (.int .u64 0) 24).later hb
  simp only [World.size_alloc] at hr0 hr1 hf0 hf1 hrl
  go_wp2_with fail
  go_region_held3 (fun w' => w'.cell? ⟨W.heap.size, 0, none⟩ = some (.int .i64 w) ∧ w'.cell? ⟨W.heap.size, 1, none⟩ = some (.int .u64 v)) (go_keep)
    (first
      | (go_at_call 34; refine (onesCount_any v _ hv).mono ?_; rintro e w' ⟨rfl, rfl⟩)
      | (go_at_call 33; refine (one_any _ _).mono ?_; rintro e w' ⟨rfl, rfl⟩)
      | (go_at_call 32; refine (made_any _ 1 _ _ (bitN_lt _)).mono ?_; rintro e W2 ⟨rfl, hb2⟩
         obtain ⟨hr0', hr1', hf0', hf1', hrl'⟩ := Box.later (w := W1.drew) ⟨hr0, hr1, hf0, hf1, hrl⟩ hb2
         have ha0' := (hb2.cell (p := ⟨W.heap.size, 0, none⟩) hal).trans ha0
         have ha1' := (hb2.cell (p := ⟨W.heap.size, 1, none⟩) hal).trans ha1))
  go_wp2
  refine bodyPost_ret (v := .tuple #[.agg #[.int .i64 (madeW (mayB w v) 1), .int .u64 (madeV (mayB w v) 1 (bitN (((ones 64 v : Nat) : Int) == w)))], .int .i64 (errE (mayB w v))]) ?_ rfl ⟨rfl, ?_⟩
  · simp [results, Try.results13, go_sem, hr0', hr1', hf0', hf1']
  · exact (((((Below.refl _ _).alloc (Nat.le_refl _) _).alloc (by simp) _).trans (hb.mono (by simp; omega))).drew.trans (hb2.mono (by simp; omega))).setCell (by simp) _ |>.setCell (by simp) _

set_option maxHeartbeats 400000 in
theorem un_w6a (w : Int) (v : Nat) (hm : mayB w v = false) (W : World) (hv : v < 18446744073709551616) :
    Calls Try.prog 13 #[.int .i64 6, .agg #[.int .i64 w, .int .u64 v]] W fun e W' =>
      e = .returned (.tuple #[.agg #[.int .i64 (madeW (false) 1), .int .u64 (madeV (false) 1 (18446744073709551615 - v))], .int .i64 (errE (false))]) ∧ Below W.heap.size W W' := by
  have hn := notAll v hv
  go_enter Try.func13, Try.ntmps13
  go_wp2_with fail
  refine (may_any w v _ hv).mono ?_
  rw [hm]
  rintro e W1 ⟨rfl, hb⟩
  obtain ⟨ha0, ha1, _, _, hal⟩ := ((Box.new W (.int .i64 w) (.int .u64 v) 24).alloc (.cells #[.int .i64 0, .int .u64 0] 24)).later hb
  obtain ⟨hr0, hr1, hf0, hf1, hrl⟩ := (Box.new (W.alloc (.cells #[.int .i64 w, .int .u64 v] 24)) (.int .i64 0) (.int .u64 0) 24).later hb
  simp only [World.size_alloc] at hr0 hr1 hf0 hf1 hrl
  go_wp2_with fail
  refine (made_any false 1 _ _ (by omega)).mono ?_
  rintro e W2 ⟨rfl, hb2⟩
  obtain ⟨hr0', hr1', hf0', hf1', hrl'⟩ := Box.later ⟨hr0, hr1, hf0, hf1, hrl⟩ hb2
  go_wp2
  refine bodyPost_ret (v := .tuple #[.agg #[.int .i64 (madeW (false) 1), .int .u64 (madeV (false) 1 (18446744073709551615 - v))], .int .i64 (errE (false))]) ?_ rfl ⟨rfl, ?_⟩
  · simp [results, Try.results13, go_sem, hr0', hr1', hf0', hf1']
  · exact (((((Below.refl _ _).alloc (Nat.le_refl _) _).alloc (by simp) _).trans (hb.mono (by simp; omega))).trans (hb2.mono (by omega))).setCell (by simp) _ |>.setCell (by simp) _

set_option maxHeartbeats 400000 in
theorem un_w6b (w : Int) (v : Nat) (hm : mayB w v = true) (hw : (w == 1) = true) (W : World) (hv : v < 18446744073709551616) :
    Calls Try.prog 13 #[.int .i64 6, .agg #[.int .i64 w, .int .u64 v]] W fun e W' =>
      e = .returned (.tuple #[.agg #[.int .i64 (madeW (true) 1), .int .u64 (madeV (true) 1 (18446744073709551615 - v))], .int .i64 (errE (true))]) ∧ Below W.heap.size W W' := by
  have hn := notAll v hv
  go_enter Try.func13, Try.ntmps13
  go_wp2_with fail
  refine (may_any w v _ hv).mono ?_
  rw [hm]
  rintro e W1 ⟨rfl, hb⟩
  obtain ⟨ha0, ha1, _, _, hal⟩ := ((Box.new W (.int .i64 w) (.int .u64 v) 24).alloc (.cells #[.int .i64 0, .int .u64 0] 24)).later hb
  obtain ⟨hr0, hr1, hf0, hf1, hrl⟩ := (Box.new (W.alloc (.cells #[.int .i64 w, .int .u64 v] 24)) (.int .i64 0) (.int .u64 0) 24).later hb
  simp only [World.size_alloc] at hr0 hr1 hf0 hf1 hrl
  go_wp2_with fail
  refine (made_any true 1 _ _ (by omega)).mono ?_
  rintro e W2 ⟨rfl, hb2⟩
  obtain ⟨hr0', hr1', hf0', hf1', hrl'⟩ := Box.later ⟨hr0, hr1, hf0, hf1, hrl⟩ hb2
  go_wp2
  refine bodyPost_ret (v := .tuple #[.agg #[.int .i64 (madeW (true) 1), .int .u64 (madeV (true) 1 (18446744073709551615 - v))], .int .i64 (errE (true))]) ?_ rfl ⟨rfl, ?_⟩
  · simp [results, Try.results13, go_sem, hr0', hr1', hf0', hf1']
  · exact (((((Below.refl _ _).alloc (Nat.le_refl _) _).alloc (by simp) _).trans (hb.mono (by simp; omega))).trans (hb2.mono (by omega))).setCell (by simp) _ |>.setCell (by simp) _

set_option maxHeartbeats 400000 in
theorem un_w6c (w : Int) (v : Nat) (hm : mayB w v = true) (hw : (w == 1) = false) (W : World) (hv : v < 18446744073709551616) :
    Calls Try.prog 13 #[.int .i64 6, .agg #[.int .i64 w, .int .u64 v]] W fun e W' =>
      e = .returned (.tuple #[.agg #[.int .i64 (madeW (false) 1), .int .u64 (madeV (false) 1 (18446744073709551615 - v))], .int .i64 (errE (false))]) ∧ Below W.heap.size W W' := by
  have hn := notAll v hv
  go_enter Try.func13, Try.ntmps13
  go_wp2_with fail
  refine (may_any w v _ hv).mono ?_
  rw [hm]
  rintro e W1 ⟨rfl, hb⟩
  obtain ⟨ha0, ha1, _, _, hal⟩ := ((Box.new W (.int .i64 w) (.int .u64 v) 24).alloc (.cells #[.int .i64 0, .int .u64 0] 24)).later hb
  obtain ⟨hr0, hr1, hf0, hf1, hrl⟩ := (Box.new (W.alloc (.cells #[.int .i64 w, .int .u64 v] 24)) (.int .i64 0) (.int .u64 0) 24).later hb
  simp only [World.size_alloc] at hr0 hr1 hf0 hf1 hrl
  go_wp2_with fail
  refine (made_any false 1 _ _ (by omega)).mono ?_
  rintro e W2 ⟨rfl, hb2⟩
  obtain ⟨hr0', hr1', hf0', hf1', hrl'⟩ := Box.later ⟨hr0, hr1, hf0, hf1, hrl⟩ hb2
  go_wp2
  refine bodyPost_ret (v := .tuple #[.agg #[.int .i64 (madeW (false) 1), .int .u64 (madeV (false) 1 (18446744073709551615 - v))], .int .i64 (errE (false))]) ?_ rfl ⟨rfl, ?_⟩
  · simp [results, Try.results13, go_sem, hr0', hr1', hf0', hf1']
  · exact (((((Below.refl _ _).alloc (Nat.le_refl _) _).alloc (by simp) _).trans (hb.mono (by simp; omega))).trans (hb2.mono (by omega))).setCell (by simp) _ |>.setCell (by simp) _

set_option maxHeartbeats 400000 in
theorem un_w4 (w : Int) (v : Nat) (W : World) (hv : v < 18446744073709551616) :
    Calls Try.prog 13 #[.int .i64 4, .agg #[.int .i64 w, .int .u64 v]] W fun e W' =>
      e = .returned (.tuple #[.agg #[.int .i64 (madeW (mayB w v) 1), .int .u64 (madeV (mayB w v) 1 (bitN (decide (0 < ones 64 v))))], .int .i64 (errE (mayB w v))]) ∧ Below W.heap.size W W' := by
  have hl := ones64_lt v
  go_enter Try.func13, Try.ntmps13
  go_wp2_with fail
  refine (may_any w v _ hv).mono ?_
  rintro e W1 ⟨rfl, hb⟩
  obtain ⟨ha0, ha1, _, _, hal⟩ := ((Box.new W (.int .i64 w) (.int .u64 v) 24).alloc (.cells #[.int .i64 0, .int .u64 0] 24)).later hb
  obtain ⟨hr0, hr1, hf0, hf1, hrl⟩ := (Box.new (W.alloc (.cells #[.int .i64 w, .int .u64 v] 24)) (.int .i64 0) (.int .u64 0) 24).later hb
  simp only [World.size_alloc] at hr0 hr1 hf0 hf1 hrl
  go_wp2_with fail
  refine (onesCount_any v _ hv).mono ?_
  rintro e W2 ⟨rfl, rfl⟩
  go_wp2_with fail
  refine (one_any _ _).mono ?_
  rintro e W2 ⟨rfl, rfl⟩
  go_wp2_with fail
  refine (made_any _ 1 _ _ (bitN_lt _)).mono ?_
  rintro e W2 ⟨rfl, hb2⟩
  obtain ⟨hr0', hr1', hf0', hf1', hrl'⟩ := Box.later ⟨hr0, hr1, hf0, hf1, hrl⟩ hb2
  go_wp2
  refine bodyPost_ret (v := .tuple #[.agg #[.int .i64 (madeW (mayB w v) 1), .int .u64 (madeV (mayB w v) 1 (bitN (decide (0 < ones 64 v))))], .int .i64 (errE (mayB w v))]) ?_ rfl ⟨rfl, ?_⟩
  · simp [results, Try.results13, go_sem, hr0', hr1', hf0', hf1']
  · exact (((((Below.refl _ _).alloc (Nat.le_refl _) _).alloc (by simp) _).trans (hb.mono (by simp; omega))).trans (hb2.mono (by omega))).setCell (by simp) _ |>.setCell (by simp) _

set_option maxHeartbeats 400000 in
theorem un_w5 (w : Int) (v : Nat) (W : World) (hv : v < 18446744073709551616) :
    Calls Try.prog 13 #[.int .i64 5, .agg #[.int .i64 w, .int .u64 v]] W fun e W' =>
      e = .returned (.tuple #[.agg #[.int .i64 (madeW (mayB w v) 1), .int .u64 (madeV (mayB w v) 1 (ones 64 v))], .int .i64 (errE (mayB w v))]) ∧ Below W.heap.size W W' := by
  have hl := ones64_lt v
  have hl2 := ones_le 64 v
  go_enter Try.func13, Try.ntmps13
  go_wp2_with fail
  refine (may_any w v _ hv).mono ?_
  rintro e W1 ⟨rfl, hb⟩
  obtain ⟨ha0, ha1, _, _, hal⟩ := ((Box.new W (.int .i64 w) (.int .u64 v) 24).alloc (.cells #[.int .i64 0, .int .u64 0] 24)).later hb
  obtain ⟨hr0, hr1, hf0, hf1, hrl⟩ := (Box.new (W.alloc (.cells #[.int .i64 w, .int .u64 v] 24)) (.int .i64 0) (.int .u64 0) 24).later hb
  simp only [World.size_alloc] at hr0 hr1 hf0 hf1 hrl
  go_wp2_with fail
  refine (onesCount_any v _ hv).mono ?_
  rintro e W2 ⟨rfl, rfl⟩
  go_wp2_with fail
  refine (made_any _ 1 _ _ hl).mono ?_
  rintro e W2 ⟨rfl, hb2⟩
  obtain ⟨hr0', hr1', hf0', hf1', hrl'⟩ := Box.later ⟨hr0, hr1, hf0, hf1, hrl⟩ hb2
  go_wp2
  refine bodyPost_ret (v := .tuple #[.agg #[.int .i64 (madeW (mayB w v) 1), .int .u64 (madeV (mayB w v) 1 (ones 64 v))], .int .i64 (errE (mayB w v))]) ?_ rfl ⟨rfl, ?_⟩
  · simp [results, Try.results13, go_sem, hr0', hr1', hf0', hf1']
  · exact (((((Below.refl _ _).alloc (Nat.le_refl _) _).alloc (by simp) _).trans (hb.mono (by simp; omega))).trans (hb2.mono (by omega))).setCell (by simp) _ |>.setCell (by simp) _

set_option maxHeartbeats 400000 in
theorem un_w0 (op : Int) (h1 : (op == 1) = false) (h2 : (op == 2) = false) (h3 : (op == 3) = false) (h4 : (op == 4) = false) (h5 : (op == 5) = false) (h6 : (op == 6) = false) (w : Int) (v : Nat) (W : World) (hv : v < 18446744073709551616) :
    Calls Try.prog 13 #[.int .i64 op, .agg #[.int .i64 w, .int .u64 v]] W fun e W' =>
      e = .returned (.tuple #[.agg #[.int .i64 (madeW (false) 0), .int .u64 (madeV (false) 0 0)], .int .i64 (errE (false))]) ∧ Below W.heap.size W W' := by
  go_enter Try.func13, Try.ntmps13
  go_wp2_with fail
  refine (may_any w v _ hv).mono ?_
  rintro e W1 ⟨rfl, hb⟩
  obtain ⟨ha0, ha1, _, _, hal⟩ := ((Box.new W (.int .i64 w) (.int .u64 v) 24).alloc (.cells #[.int .i64 0, .int .u64 0] 24)).later hb
  obtain ⟨hr0, hr1, hf0, hf1, hrl⟩ := (Box.new (W.alloc (.cells #[.int .i64 w, .int .u64 v] 24)) (.int .i64 0) (.int .u64 0) 24).later hb
  simp only [World.size_alloc] at hr0 hr1 hf0 hf1 hrl
  go_wp2_with fail
  refine (made_any false 0 0 _ (by omega)).mono ?_
  rintro e W2 ⟨rfl, hb2⟩
  obtain ⟨hr0', hr1', hf0', hf1', hrl'⟩ := Box.later ⟨hr0, hr1, hf0, hf1, hrl⟩ hb2
  go_wp2
  refine bodyPost_ret (v := .tuple #[.agg #[.int .i64 (madeW (false) 0), .int .u64 (madeV (false) 0 0)], .int .i64 (errE (false))]) ?_ rfl ⟨rfl, ?_⟩
  · simp [results, Try.results13, go_sem, hr0', hr1', hf0', hf1']
  · exact (((((Below.refl _ _).alloc (Nat.le_refl _) _).alloc (by simp) _).trans (hb.mono (by simp; omega))).trans (hb2.mono (by omega))).setCell (by simp) _ |>.setCell (by simp) _

theorem res_eq {a b : Int} {x y : Nat} {p q : Bool} (h1 : a = b) (h2 : x = y) (h3 : p = q) :
    Ending.returned (.tuple #[.agg #[.int .i64 a, .int .u64 x], .int .i64 (errE p)]) = .returned (.tuple #[.agg #[.int .i64 b, .int .u64 y], .int .i64 (errE q)]) := by rw [h1, h2, h3]

theorem un_any (op w : Int) (v : Nat) (W : World) (hv : v < 18446744073709551616) :
    Calls Try.prog 13 #[.int .i64 op, .agg #[.int .i64 w, .int .u64 v]] W fun e W' =>
      e = .returned (.tuple #[.agg #[.int .i64 (unW op w v), .int .u64 (unV op w v)], .int .i64 (errE (unOk op w v))]) ∧ Below W.heap.size W W' := by
  by_cases h1 : op = 1
  · subst h1
    exact (un_w1 w v W hv).mono fun e W' h => ⟨h.1.trans (res_eq (un_eq1 w v hv).1 (un_eq1 w v hv).2.1 (un_eq1 w v hv).2.2), h.2⟩
  by_cases h2 : op = 2
  · subst h2
    exact (un_w2 w v W hv).mono fun e W' h => ⟨h.1.trans (res_eq (un_eq2 w v).1 (un_eq2 w v).2.1 (un_eq2 w v).2.2), h.2⟩
  by_cases h3 : op = 3
  · subst h3
    exact (un_w3 w v W hv).mono fun e W' h => ⟨h.1.trans (res_eq (un_eq3 w v).1 (un_eq3 w v).2.1 (un_eq3 w v).2.2), h.2⟩
  by_cases h4 : op = 4
  · subst h4
    exact (un_w4 w v W hv).mono fun e W' h => ⟨h.1.trans (res_eq (un_eq4 w v).1 (un_eq4 w v).2.1 (un_eq4 w v).2.2), h.2⟩
  by_cases h5 : op = 5
  · subst h5
    exact (un_w5 w v W hv).mono fun e W' h => ⟨h.1.trans (res_eq (un_eq5 w v).1 (un_eq5 w v).2.1 (un_eq5 w v).2.2), h.2⟩
  by_cases h6 : op = 6
  · subst h6
    have hq := un_eq6 w v
    cases hm : mayB w v
    · rw [hm, Bool.false_and] at hq
      exact (un_w6a w v hm W hv).mono fun e W' h => ⟨h.1.trans (res_eq hq.1 hq.2.1 hq.2.2), h.2⟩
    · by_cases hw : w = 1
      · rw [hm, decide_eq_true hw, Bool.true_and] at hq
        exact (un_w6b w v hm (by simp [hw]) W hv).mono fun e W' h => ⟨h.1.trans (res_eq hq.1 hq.2.1 hq.2.2), h.2⟩
      · rw [hm, decide_eq_false hw, Bool.true_and] at hq
        exact (un_w6c w v hm (by simp [hw]) W hv).mono fun e W' h => ⟨h.1.trans (res_eq hq.1 hq.2.1 hq.2.2), h.2⟩
  · have hq := un_eq0 op w v (by omega)
    exact (un_w0 op (by simp [h1]) (by simp [h2]) (by simp [h3]) (by simp [h4]) (by simp [h5]) (by simp [h6]) w v W hv).mono fun e W' h => ⟨h.1.trans (res_eq (by rw [hq.1]; rfl) (by rw [hq.2.1]; rfl) hq.2.2.symm), h.2⟩

end Go.Proofs.Ytafhnkhcbfilaaa
