/- Widths that hold a value; whether a token may be: scan and its reference. -/
import Derived.Test.YtpabaabkhmjdhaaDoorW3
import Derived.Lib.SmallJoins
namespace Go.Proofs.YtpabaabkhmjdhaaDoor
open Go.RowKit Go.Proofs.Scn
set_option linter.unusedVariables false
set_option linter.unusedSimpArgs false
set_option maxRecDepth 100000

/-- what is known of the variables of Go's library -/
structure Base (w : World) : Prop where
  max : ∃ m, w.cell? ⟨0, 0, none⟩ = some (.int .i64 m)
  pow : Lib.TabIs Tryd.prog w "internal/strconv.uint64pow10" .u64 Lib.pow10Tab
  tz : TabAt 5 Lib.deBruijn64tab w

theorem Base.later {w w' : World} (h : Base w) (hb : Below w.heap.size w w') : Base w' := by
  obtain ⟨⟨m, h1⟩, h2, h3⟩ := h
  exact ⟨⟨m, (hb.cell (World.block_lt_of_cell? w _ h1)).trans h1⟩, Joins.tab_stays (g := 3) (by kernel_rfl) h2 hb (Nat.le_refl _), fun j hj => (hb.cell (World.block_lt_of_cell? w _ (h3 j hj))).trans (h3 j hj)⟩
theorem Base.alloc {w : World} (h : Base w) (o : Obj) : Base (w.alloc o) := h.later ((Below.refl _ _).alloc (Nat.le_refl _) _)

theorem fitsV_nat (k v : Nat) : fitsV (k : Int) v = (decide (1 ≤ k) && decide (k ≤ 64) && decide (v < 2 ^ k)) := by
  unfold fitsV
  rw [Int.toNat_natCast]
  congr 1
  congr 1
  · rw [decide_eq_decide]; omega
  · rw [decide_eq_decide]; omega

set_option maxHeartbeats 1000000 in
theorem fits_any (w : Int) (v : Nat) (hv : v < 18446744073709551616) (W : World) :
    Calls Tryd.prog 35 #[.int .i64 w, .int .u64 v] W fun e W' => e = .returned (.bool (fitsV w v)) ∧ W = W' := by
  by_cases h1 : 1 ≤ w
  · by_cases h2 : w ≤ 64
    · obtain ⟨k, rfl⟩ : ∃ k : Nat, w = k := ⟨w.toNat, by omega⟩
      have kl := Tryd.bits_Len64 (v : Int) W (by omega) (by omega)
      rw [Int.toNat_natCast] at kl
      have hf : fitsV (k : Int) v = decide (Lib.bitLen v ≤ k) := by
        rw [fitsV_nat, decide_eq_true (show 1 ≤ k by omega), decide_eq_true (show k ≤ 64 by omega), ← bitLen_le v k hv]
        simp
      rw [hf]
      clear hf
      have KL := Lib.hid kl
      clear kl
      go_enter Tryd.func35, Tryd.ntmps35
      go_wp2_with fail
      refine KL.out.mono ?_
      rintro e w' ⟨rfl, rfl⟩
      go_wp2
      go_ret
      exact ⟨rfl, rfl⟩
    · have hf : fitsV w v = false := by simp [fitsV, h2]
      rw [hf]
      go_enter Tryd.func35, Tryd.ntmps35
      go_wp2
      go_ret
      exact ⟨rfl, rfl⟩
  · have hf : fitsV w v = false := by simp [fitsV, h1]
    rw [hf]
    go_enter Tryd.func35, Tryd.ntmps35
    go_wp2
    go_ret
    exact ⟨rfl, rfl⟩

theorem pow_walk (k : Nat) (h : k < 64) : IntKind.u64.wrap ((2 : Int) ^ k) = ((2 ^ k : Nat) : Int) := by
  have : (2 : Nat) ^ k < 2 ^ 64 := Nat.pow_lt_pow_right (by omega) h
  have e : ((2 : Int) ^ k) = ((2 ^ k : Nat) : Int) := by simp
  rw [e]
  generalize 2 ^ k = t at *
  have e64 : (2 : Nat) ^ 64 = 18446744073709551616 := rfl
  rw [e64] at this
  simp only [IntKind.wrap, IntKind.signed, IntKind.bits]
  simp
  omega

set_option maxHeartbeats 1000000 in
theorem refFits_any (w : Int) (v : Nat) (hv : v < 18446744073709551616) (W : World) :
    Calls Tryd.prog 38 #[.int .i64 w, .int .u64 v] W fun e W' => e = .returned (.bool (fitsV w v)) ∧ W = W' := by
  by_cases h64 : w = 64
  · subst h64
    have hf : fitsV 64 v = true := by
      have := fitsV_nat 64 v
      rw [show ((64 : Nat) : Int) = 64 from rfl] at this
      rw [this]
      simp
      exact hv
    rw [hf]
    go_enter Tryd.func38, Tryd.ntmps38
    go_wp2
    go_ret
    exact ⟨rfl, rfl⟩
  have hd : (w == 64) = false := by rw [beq_eq_false_iff_ne]; exact h64
  by_cases h1 : 1 ≤ w
  · by_cases h2 : w < 64
    · obtain ⟨k, rfl⟩ : ∃ k : Nat, w = k := ⟨w.toNat, by omega⟩
      have hf : fitsV (k : Int) v = decide ((v : Int) < IntKind.u64.wrap ((2 : Int) ^ k)) := by
        rw [fitsV_nat, decide_eq_true (show 1 ≤ k by omega), decide_eq_true (show k ≤ 64 by omega), pow_walk k (by omega)]
        simp only [Bool.true_and]
        rw [decide_eq_decide]
        omega
      rw [hf]
      clear hf h64
      go_enter Tryd.func38, Tryd.ntmps38
      go_wp2
      go_ret
      exact ⟨rfl, rfl⟩
    · have hf : fitsV w v = false := by
        have : ¬ w ≤ 64 := by omega
        simp [fitsV, this]
      rw [hf]
      clear h64
      go_enter Tryd.func38, Tryd.ntmps38
      go_wp2
      go_ret
      exact ⟨rfl, rfl⟩
  · have hf : fitsV w v = false := by simp [fitsV, h1]
    rw [hf]
    clear h64
    go_enter Tryd.func38, Tryd.ntmps38
    go_wp2
    go_ret
    exact ⟨rfl, rfl⟩

def errB (b : Bool) : Int := if b then 0 else 1

theorem ret_err {b c : Bool} (h : b = c) : Ending.returned (.int .i64 (errB b)) = .returned (.int .i64 (errB c)) := by rw [h]

/-- what the callees tell of a token -/
theorem check_calls (w : Int) (s : ByteArray) (v : Nat) (hs : s.size ≤ 4611686018427387904) (hv : v < 18446744073709551616) (W : World) (hB : Base W) :
    (∀ o, Calls Tryd.prog 33 #[.string s] (W.alloc o) fun e W' => e = .returned (.bool (isName s.data.toList)) ∧ W.alloc o = W') ∧
    (∀ o, Calls Tryd.prog 19 #[.string s] (W.alloc o) fun e W' => e = .returned (.bool (isWord s.data.toList)) ∧ W.alloc o = W') ∧
    (∀ o, Calls Tryd.prog 34 #[.string s] (W.alloc o) fun e W' => e = .returned (.bool (isSign s.data.toList)) ∧ W.alloc o = W') ∧
    (∀ o, Calls Tryd.prog 35 #[.int .i64 w, .int .u64 v] (W.alloc o) fun e W' => e = .returned (.bool (fitsV w v)) ∧ W.alloc o = W') :=
  ⟨fun o => (hB.alloc o).max.elim fun m hm => name_any s hs _ m hm, fun o => (hB.alloc o).max.elim fun m hm => word_any s hs _ m hm, fun o => (hB.alloc o).max.elim fun m hm => sign_any s hs _ m hm, fun o => fits_any w v hv _⟩

set_option maxHeartbeats 1000000 in
theorem check_np (p : Int) (s : ByteArray) (b : Bool) (W : World) (hbel : ∀ o, Below W.heap.size W (W.alloc o)) (kc : ∀ o, Calls Tryd.prog 33 #[.string s] (W.alloc o) fun e W' => e = .returned (.bool b) ∧ W.alloc o = W') :
    Calls Tryd.prog 17 #[.agg #[.int .i64 1, .string s, .int .i64 0, .int .u64 0, .int .i64 p]] W fun e W' => e = .returned (.int .i64 (errB (b && decide (0 ≤ p)))) ∧ Below W.heap.size W W' := by
  have HB := Lib.hid hbel
  clear hbel
  have KC := Lib.hid kc
  clear kc
  by_cases hp : 0 ≤ p
  all_goals
    cases b
    all_goals
      go_enter Tryd.func17, Tryd.ntmps17
      go_wp2_with fail
      refine (KC.out _).mono ?_
      rintro e w' ⟨rfl, rfl⟩
      go_wp2
      go_ret
      exact ⟨ret_int (by simp [errB]; try omega), HB.out _⟩

set_option maxHeartbeats 1000000 in
theorem check_nw (w p : Int) (s : ByteArray) (v : Nat) (hw : w ≠ 0) (W : World) (hbel : ∀ o, Below W.heap.size W (W.alloc o)) :
    Calls Tryd.prog 17 #[.agg #[.int .i64 1, .string s, .int .i64 w, .int .u64 v, .int .i64 p]] W fun e W' => e = .returned (.int .i64 (errB (false && decide (0 ≤ p)))) ∧ Below W.heap.size W W' := by
  have hw' : (w == 0) = false := by rw [beq_eq_false_iff_ne]; exact hw
  clear hw
  have HB := Lib.hid hbel
  clear hbel
  by_cases hp : 0 ≤ p
  all_goals
    go_enter Tryd.func17, Tryd.ntmps17
    go_wp2
    go_ret
    exact ⟨ret_int (by simp [errB]; try omega), HB.out _⟩

set_option maxHeartbeats 1000000 in
theorem check_nv (p : Int) (s : ByteArray) (v : Nat) (hv : v ≠ 0) (W : World) (hbel : ∀ o, Below W.heap.size W (W.alloc o)) :
    Calls Tryd.prog 17 #[.agg #[.int .i64 1, .string s, .int .i64 0, .int .u64 v, .int .i64 p]] W fun e W' => e = .returned (.int .i64 (errB (false && decide (0 ≤ p)))) ∧ Below W.heap.size W W' := by
  have hv' : ((v : Int) == 0) = false := by rw [beq_eq_false_iff_ne]; omega
  clear hv
  have HB := Lib.hid hbel
  clear hbel
  by_cases hp : 0 ≤ p
  all_goals
    go_enter Tryd.func17, Tryd.ntmps17
    go_wp2
    go_ret
    exact ⟨ret_int (by simp [errB]; try omega), HB.out _⟩

set_option maxHeartbeats 1000000 in
theorem check_wp (p : Int) (s : ByteArray) (b : Bool) (W : World) (hbel : ∀ o, Below W.heap.size W (W.alloc o)) (kc : ∀ o, Calls Tryd.prog 19 #[.string s] (W.alloc o) fun e W' => e = .returned (.bool b) ∧ W.alloc o = W') :
    Calls Tryd.prog 17 #[.agg #[.int .i64 2, .string s, .int .i64 0, .int .u64 0, .int .i64 p]] W fun e W' => e = .returned (.int .i64 (errB (b && decide (0 ≤ p)))) ∧ Below W.heap.size W W' := by
  have HB := Lib.hid hbel
  clear hbel
  have KC := Lib.hid kc
  clear kc
  by_cases hp : 0 ≤ p
  all_goals
    cases b
    all_goals
      go_enter Tryd.func17, Tryd.ntmps17
      go_wp2_with fail
      refine (KC.out _).mono ?_
      rintro e w' ⟨rfl, rfl⟩
      go_wp2
      go_ret
      exact ⟨ret_int (by simp [errB]; try omega), HB.out _⟩

set_option maxHeartbeats 1000000 in
theorem check_ww (w p : Int) (s : ByteArray) (v : Nat) (hw : w ≠ 0) (W : World) (hbel : ∀ o, Below W.heap.size W (W.alloc o)) :
    Calls Tryd.prog 17 #[.agg #[.int .i64 2, .string s, .int .i64 w, .int .u64 v, .int .i64 p]] W fun e W' => e = .returned (.int .i64 (errB (false && decide (0 ≤ p)))) ∧ Below W.heap.size W W' := by
  have hw' : (w == 0) = false := by rw [beq_eq_false_iff_ne]; exact hw
  clear hw
  have HB := Lib.hid hbel
  clear hbel
  by_cases hp : 0 ≤ p
  all_goals
    go_enter Tryd.func17, Tryd.ntmps17
    go_wp2
    go_ret
    exact ⟨ret_int (by simp [errB]; try omega), HB.out _⟩

set_option maxHeartbeats 1000000 in
theorem check_wv (p : Int) (s : ByteArray) (v : Nat) (hv : v ≠ 0) (W : World) (hbel : ∀ o, Below W.heap.size W (W.alloc o)) :
    Calls Tryd.prog 17 #[.agg #[.int .i64 2, .string s, .int .i64 0, .int .u64 v, .int .i64 p]] W fun e W' => e = .returned (.int .i64 (errB (false && decide (0 ≤ p)))) ∧ Below W.heap.size W W' := by
  have hv' : ((v : Int) == 0) = false := by rw [beq_eq_false_iff_ne]; omega
  clear hv
  have HB := Lib.hid hbel
  clear hbel
  by_cases hp : 0 ≤ p
  all_goals
    go_enter Tryd.func17, Tryd.ntmps17
    go_wp2
    go_ret
    exact ⟨ret_int (by simp [errB]; try omega), HB.out _⟩

set_option maxHeartbeats 1000000 in
theorem check_sp (p : Int) (s : ByteArray) (b : Bool) (W : World) (hbel : ∀ o, Below W.heap.size W (W.alloc o)) (kc : ∀ o, Calls Tryd.prog 34 #[.string s] (W.alloc o) fun e W' => e = .returned (.bool b) ∧ W.alloc o = W') :
    Calls Tryd.prog 17 #[.agg #[.int .i64 4, .string s, .int .i64 0, .int .u64 0, .int .i64 p]] W fun e W' => e = .returned (.int .i64 (errB (b && decide (0 ≤ p)))) ∧ Below W.heap.size W W' := by
  have HB := Lib.hid hbel
  clear hbel
  have KC := Lib.hid kc
  clear kc
  by_cases hp : 0 ≤ p
  all_goals
    cases b
    all_goals
      go_enter Tryd.func17, Tryd.ntmps17
      go_wp2_with fail
      refine (KC.out _).mono ?_
      rintro e w' ⟨rfl, rfl⟩
      go_wp2
      go_ret
      exact ⟨ret_int (by simp [errB]; try omega), HB.out _⟩

set_option maxHeartbeats 1000000 in
theorem check_sw (w p : Int) (s : ByteArray) (v : Nat) (hw : w ≠ 0) (W : World) (hbel : ∀ o, Below W.heap.size W (W.alloc o)) :
    Calls Tryd.prog 17 #[.agg #[.int .i64 4, .string s, .int .i64 w, .int .u64 v, .int .i64 p]] W fun e W' => e = .returned (.int .i64 (errB (false && decide (0 ≤ p)))) ∧ Below W.heap.size W W' := by
  have hw' : (w == 0) = false := by rw [beq_eq_false_iff_ne]; exact hw
  clear hw
  have HB := Lib.hid hbel
  clear hbel
  by_cases hp : 0 ≤ p
  all_goals
    go_enter Tryd.func17, Tryd.ntmps17
    go_wp2
    go_ret
    exact ⟨ret_int (by simp [errB]; try omega), HB.out _⟩

set_option maxHeartbeats 1000000 in
theorem check_sv (p : Int) (s : ByteArray) (v : Nat) (hv : v ≠ 0) (W : World) (hbel : ∀ o, Below W.heap.size W (W.alloc o)) :
    Calls Tryd.prog 17 #[.agg #[.int .i64 4, .string s, .int .i64 0, .int .u64 v, .int .i64 p]] W fun e W' => e = .returned (.int .i64 (errB (false && decide (0 ≤ p)))) ∧ Below W.heap.size W W' := by
  have hv' : ((v : Int) == 0) = false := by rw [beq_eq_false_iff_ne]; omega
  clear hv
  have HB := Lib.hid hbel
  clear hbel
  by_cases hp : 0 ≤ p
  all_goals
    go_enter Tryd.func17, Tryd.ntmps17
    go_wp2
    go_ret
    exact ⟨ret_int (by simp [errB]; try omega), HB.out _⟩

set_option maxHeartbeats 1000000 in
theorem check_fsw (p : Int) (s : ByteArray) (hs : s.data.toList ≠ []) (w : Int) (v : Nat) (hw : w ≠ 0) (W : World) (hbel : ∀ o, Below W.heap.size W (W.alloc o)) :
    Calls Tryd.prog 17 #[.agg #[.int .i64 3, .string s, .int .i64 w, .int .u64 v, .int .i64 p]] W fun e W' => e = .returned (.int .i64 (errB (false && decide (0 ≤ p)))) ∧ Below W.heap.size W W' := by
  have hs1 : s.toList.isEmpty = false := by rw [toList_eq]; simpa using hs
  have hs2 : ¬ s.toList = [] := by rw [toList_eq]; exact hs
  clear hs
  have hw' : (w == 0) = false := by rw [beq_eq_false_iff_ne]; exact hw
  clear hw
  have HB := Lib.hid hbel
  clear hbel
  by_cases hp : 0 ≤ p
  all_goals
    go_enter Tryd.func17, Tryd.ntmps17
    go_wp2
    go_ret
    exact ⟨ret_int (by simp [errB]; try omega), HB.out _⟩

set_option maxHeartbeats 1000000 in
theorem check_few (p : Int) (b : Bool) (w : Int) (v : Nat) (hw : w ≠ 0) (W : World) (hbel : ∀ o, Below W.heap.size W (W.alloc o)) (kc : ∀ o, Calls Tryd.prog 35 #[.int .i64 w, .int .u64 v] (W.alloc o) fun e W' => e = .returned (.bool b) ∧ W.alloc o = W') :
    Calls Tryd.prog 17 #[.agg #[.int .i64 3, .string ⟨#[]⟩, .int .i64 w, .int .u64 v, .int .i64 p]] W fun e W' => e = .returned (.int .i64 (errB (b && decide (0 ≤ p)))) ∧ Below W.heap.size W W' := by
  have hw' : (w == 0) = false := by rw [beq_eq_false_iff_ne]; exact hw
  clear hw
  have HB := Lib.hid hbel
  clear hbel
  have KC := Lib.hid kc
  clear kc
  by_cases hp : 0 ≤ p
  all_goals
    cases b
    all_goals
      go_enter Tryd.func17, Tryd.ntmps17
      go_wp2_with fail
      refine (KC.out _).mono ?_
      rintro e w' ⟨rfl, rfl⟩
      go_wp2
      go_ret
      exact ⟨ret_int (by simp [errB]; try omega), HB.out _⟩

set_option maxHeartbeats 1000000 in
theorem check_fsv (p : Int) (s : ByteArray) (hs : s.data.toList ≠ []) (v : Nat) (hv : v ≠ 0) (W : World) (hbel : ∀ o, Below W.heap.size W (W.alloc o)) :
    Calls Tryd.prog 17 #[.agg #[.int .i64 3, .string s, .int .i64 0, .int .u64 v, .int .i64 p]] W fun e W' => e = .returned (.int .i64 (errB (false && decide (0 ≤ p)))) ∧ Below W.heap.size W W' := by
  have hs1 : s.toList.isEmpty = false := by rw [toList_eq]; simpa using hs
  have hs2 : ¬ s.toList = [] := by rw [toList_eq]; exact hs
  clear hs
  have hv' : ((v : Int) == 0) = false := by rw [beq_eq_false_iff_ne]; omega
  clear hv
  have HB := Lib.hid hbel
  clear hbel
  by_cases hp : 0 ≤ p
  all_goals
    go_enter Tryd.func17, Tryd.ntmps17
    go_wp2
    go_ret
    exact ⟨ret_int (by simp [errB]; try omega), HB.out _⟩

set_option maxHeartbeats 1000000 in
theorem check_fev (p : Int) (v : Nat) (hv : v ≠ 0) (W : World) (hbel : ∀ o, Below W.heap.size W (W.alloc o)) :
    Calls Tryd.prog 17 #[.agg #[.int .i64 3, .string ⟨#[]⟩, .int .i64 0, .int .u64 v, .int .i64 p]] W fun e W' => e = .returned (.int .i64 (errB (true && decide (0 ≤ p)))) ∧ Below W.heap.size W W' := by
  have hv' : ((v : Int) == 0) = false := by rw [beq_eq_false_iff_ne]; omega
  clear hv
  have HB := Lib.hid hbel
  clear hbel
  by_cases hp : 0 ≤ p
  all_goals
    go_enter Tryd.func17, Tryd.ntmps17
    go_wp2
    go_ret
    exact ⟨ret_int (by simp [errB]; try omega), HB.out _⟩

set_option maxHeartbeats 1000000 in
theorem check_fsp (p : Int) (s : ByteArray) (hs : s.data.toList ≠ []) (W : World) (hbel : ∀ o, Below W.heap.size W (W.alloc o)) :
    Calls Tryd.prog 17 #[.agg #[.int .i64 3, .string s, .int .i64 0, .int .u64 0, .int .i64 p]] W fun e W' => e = .returned (.int .i64 (errB (false && decide (0 ≤ p)))) ∧ Below W.heap.size W W' := by
  have hs1 : s.toList.isEmpty = false := by rw [toList_eq]; simpa using hs
  have hs2 : ¬ s.toList = [] := by rw [toList_eq]; exact hs
  clear hs
  have HB := Lib.hid hbel
  clear hbel
  by_cases hp : 0 ≤ p
  all_goals
    go_enter Tryd.func17, Tryd.ntmps17
    go_wp2
    go_ret
    exact ⟨ret_int (by simp [errB]; try omega), HB.out _⟩

set_option maxHeartbeats 1000000 in
theorem check_fep (p : Int) (W : World) (hbel : ∀ o, Below W.heap.size W (W.alloc o)) :
    Calls Tryd.prog 17 #[.agg #[.int .i64 3, .string ⟨#[]⟩, .int .i64 0, .int .u64 0, .int .i64 p]] W fun e W' => e = .returned (.int .i64 (errB (true && decide (0 ≤ p)))) ∧ Below W.heap.size W W' := by
  have HB := Lib.hid hbel
  clear hbel
  by_cases hp : 0 ≤ p
  all_goals
    go_enter Tryd.func17, Tryd.ntmps17
    go_wp2
    go_ret
    exact ⟨ret_int (by simp [errB]; try omega), HB.out _⟩

set_option maxHeartbeats 1000000 in
theorem check_op (p : Int) (s : ByteArray) (k : Int) (h1 : k ≠ 1) (h2 : k ≠ 2) (h3 : k ≠ 3) (h4 : k ≠ 4) (W : World) (hbel : ∀ o, Below W.heap.size W (W.alloc o)) :
    Calls Tryd.prog 17 #[.agg #[.int .i64 k, .string s, .int .i64 0, .int .u64 0, .int .i64 p]] W fun e W' => e = .returned (.int .i64 (errB (false && decide (0 ≤ p)))) ∧ Below W.heap.size W W' := by
  have q1 : (k == 1) = false := by rw [beq_eq_false_iff_ne]; exact h1
  have q2 : (k == 2) = false := by rw [beq_eq_false_iff_ne]; exact h2
  have q3 : (k == 3) = false := by rw [beq_eq_false_iff_ne]; exact h3
  have q4 : (k == 4) = false := by rw [beq_eq_false_iff_ne]; exact h4
  clear h1 h2 h3 h4
  have HB := Lib.hid hbel
  clear hbel
  by_cases hp : 0 ≤ p
  all_goals
    go_enter Tryd.func17, Tryd.ntmps17
    go_wp2
    go_ret
    exact ⟨ret_int (by simp [errB]; try omega), HB.out _⟩

set_option maxHeartbeats 1000000 in
theorem check_ow (p : Int) (s : ByteArray) (k : Int) (h1 : k ≠ 1) (h2 : k ≠ 2) (h3 : k ≠ 3) (h4 : k ≠ 4) (w : Int) (v : Nat) (hw : w ≠ 0) (W : World) (hbel : ∀ o, Below W.heap.size W (W.alloc o)) :
    Calls Tryd.prog 17 #[.agg #[.int .i64 k, .string s, .int .i64 w, .int .u64 v, .int .i64 p]] W fun e W' => e = .returned (.int .i64 (errB (false && decide (0 ≤ p)))) ∧ Below W.heap.size W W' := by
  have q1 : (k == 1) = false := by rw [beq_eq_false_iff_ne]; exact h1
  have q2 : (k == 2) = false := by rw [beq_eq_false_iff_ne]; exact h2
  have q3 : (k == 3) = false := by rw [beq_eq_false_iff_ne]; exact h3
  have q4 : (k == 4) = false := by rw [beq_eq_false_iff_ne]; exact h4
  clear h1 h2 h3 h4
  have hw' : (w == 0) = false := by rw [beq_eq_false_iff_ne]; exact hw
  clear hw
  have HB := Lib.hid hbel
  clear hbel
  by_cases hp : 0 ≤ p
  all_goals
    go_enter Tryd.func17, Tryd.ntmps17
    go_wp2
    go_ret
    exact ⟨ret_int (by simp [errB]; try omega), HB.out _⟩

set_option maxHeartbeats 1000000 in
theorem check_ov (p : Int) (s : ByteArray) (k : Int) (h1 : k ≠ 1) (h2 : k ≠ 2) (h3 : k ≠ 3) (h4 : k ≠ 4) (v : Nat) (hv : v ≠ 0) (W : World) (hbel : ∀ o, Below W.heap.size W (W.alloc o)) :
    Calls Tryd.prog 17 #[.agg #[.int .i64 k, .string s, .int .i64 0, .int .u64 v, .int .i64 p]] W fun e W' => e = .returned (.int .i64 (errB (false && decide (0 ≤ p)))) ∧ Below W.heap.size W W' := by
  have q1 : (k == 1) = false := by rw [beq_eq_false_iff_ne]; exact h1
  have q2 : (k == 2) = false := by rw [beq_eq_false_iff_ne]; exact h2
  have q3 : (k == 3) = false := by rw [beq_eq_false_iff_ne]; exact h3
  have q4 : (k == 4) = false := by rw [beq_eq_false_iff_ne]; exact h4
  clear h1 h2 h3 h4
  have hv' : ((v : Int) == 0) = false := by rw [beq_eq_false_iff_ne]; omega
  clear hv
  have HB := Lib.hid hbel
  clear hbel
  by_cases hp : 0 ≤ p
  all_goals
    go_enter Tryd.func17, Tryd.ntmps17
    go_wp2
    go_ret
    exact ⟨ret_int (by simp [errB]; try omega), HB.out _⟩

theorem check_any (k w p : Int) (s : ByteArray) (v : Nat) (hs : s.size ≤ 4611686018427387904) (hv : v < 18446744073709551616) (W : World) (hB : Base W) :
    Calls Tryd.prog 17 #[.agg #[.int .i64 k, .string s, .int .i64 w, .int .u64 v, .int .i64 p]] W fun e W' => e = .returned (.int .i64 (errB (checkT ⟨k, s.data.toList, w, v, p⟩))) ∧ Below W.heap.size W W' := by
  have hb : ∀ o, Below W.heap.size W (W.alloc o) := fun o => (Below.refl _ _).alloc (Nat.le_refl _) _
  obtain ⟨kn, kw, ks, kf⟩ := check_calls w s v hs hv W hB
  have put : ∀ {b : Bool}, (checkT ⟨k, s.data.toList, w, v, p⟩ = (b && decide (0 ≤ p))) → Calls Tryd.prog 17 #[.agg #[.int .i64 k, .string s, .int .i64 w, .int .u64 v, .int .i64 p]] W (fun e W' => e = .returned (.int .i64 (errB (b && decide (0 ≤ p)))) ∧ Below W.heap.size W W') →
      Calls Tryd.prog 17 #[.agg #[.int .i64 k, .string s, .int .i64 w, .int .u64 v, .int .i64 p]] W fun e W' => e = .returned (.int .i64 (errB (checkT ⟨k, s.data.toList, w, v, p⟩))) ∧ Below W.heap.size W W' := fun h1 h2 => by rw [h1]; exact h2
  by_cases h1 : k = 1
  · subst h1
    by_cases hw : w = 0
    · subst hw
      by_cases hz : v = 0
      · subst hz
        exact put (by simp [checkT, Bool.and_comm]) (check_np p s _ W hb kn)
      · exact put (by simp [checkT, hz]) (check_nv p s v hz W hb)
    · exact put (by simp [checkT, hw]) (check_nw w p s v hw W hb)
  by_cases h2 : k = 2
  · subst h2
    by_cases hw : w = 0
    · subst hw
      by_cases hz : v = 0
      · subst hz
        exact put (by simp [checkT, Bool.and_comm]) (check_wp p s _ W hb kw)
      · exact put (by simp [checkT, hz]) (check_wv p s v hz W hb)
    · exact put (by simp [checkT, hw]) (check_ww w p s v hw W hb)
  by_cases h4 : k = 4
  · subst h4
    by_cases hw : w = 0
    · subst hw
      by_cases hz : v = 0
      · subst hz
        exact put (by simp [checkT, Bool.and_comm]) (check_sp p s _ W hb ks)
      · exact put (by simp [checkT, hz]) (check_sv p s v hz W hb)
    · exact put (by simp [checkT, hw]) (check_sw w p s v hw W hb)
  by_cases h3 : k = 3
  · subst h3
    by_cases he : s.data.toList = []
    · obtain rfl := empty_of he
      by_cases hw : w = 0
      · subst hw
        by_cases hz : v = 0
        · subst hz
          exact put (by simp [checkT]) (check_fep p W hb)
        · exact put (by simp [checkT]) (check_fev p v hz W hb)
      · have hw' : (w == 0) = false := by simpa using hw
        exact put (by simp [checkT, hw', Bool.and_comm]) (check_few p _ w v hw W hb kf)
    · have he' : s.data.toList.isEmpty = false := by simpa using he
      by_cases hw : w = 0
      · subst hw
        by_cases hz : v = 0
        · subst hz
          exact put (by unfold checkT; rw [he']; simp) (check_fsp p s he W hb)
        · exact put (by unfold checkT; rw [he']; simp) (check_fsv p s he v hz W hb)
      · exact put (by unfold checkT; rw [he']; simp) (check_fsw p s he w v hw W hb)
  · have hc : checkT ⟨k, s.data.toList, w, v, p⟩ = (false && decide (0 ≤ p)) := by simp [checkT, h1, h2, h3, h4]
    by_cases hw : w = 0
    · subst hw
      by_cases hz : v = 0
      · subst hz
        exact put hc (check_op p s k h1 h2 h3 h4 W hb)
      · exact put hc (check_ov p s k h1 h2 h3 h4 v hz W hb)
    · exact put hc (check_ow p s k h1 h2 h3 h4 w v hw W hb)

/-- what the callees tell of a token -/
theorem refCheck_calls (w : Int) (s : ByteArray) (v : Nat) (hs : s.size ≤ 4611686018427387904) (hv : v < 18446744073709551616) (W : World) (hB : Base W) :
    (∀ o, Calls Tryd.prog 36 #[.string s] (W.alloc o) fun e W' => e = .returned (.bool (isName s.data.toList)) ∧ W.alloc o = W') ∧
    (∀ o, Calls Tryd.prog 20 #[.string s] (W.alloc o) fun e W' => e = .returned (.bool (isWord s.data.toList)) ∧ W.alloc o = W') ∧
    (∀ o, Calls Tryd.prog 37 #[.string s] (W.alloc o) fun e W' => e = .returned (.bool (isSign s.data.toList)) ∧ W.alloc o = W') ∧
    (∀ o, Calls Tryd.prog 38 #[.int .i64 w, .int .u64 v] (W.alloc o) fun e W' => e = .returned (.bool (fitsV w v)) ∧ W.alloc o = W') :=
  ⟨fun o => refName_any s hs _, fun o => refWord_any s _, fun o => refSign_any s _, fun o => refFits_any w v hv _⟩

set_option maxHeartbeats 1000000 in
theorem refCheck_np (p : Int) (s : ByteArray) (b : Bool) (W : World) (hbel : ∀ o, Below W.heap.size W (W.alloc o)) (kc : ∀ o, Calls Tryd.prog 36 #[.string s] (W.alloc o) fun e W' => e = .returned (.bool b) ∧ W.alloc o = W') :
    Calls Tryd.prog 18 #[.agg #[.int .i64 1, .string s, .int .i64 0, .int .u64 0, .int .i64 p]] W fun e W' => e = .returned (.int .i64 (errB (b && decide (0 ≤ p)))) ∧ Below W.heap.size W W' := by
  have HB := Lib.hid hbel
  clear hbel
  have KC := Lib.hid kc
  clear kc
  by_cases hp : 0 ≤ p
  all_goals
    cases b
    all_goals
      go_enter Tryd.func18, Tryd.ntmps18
      go_wp2_with fail
      refine (KC.out _).mono ?_
      rintro e w' ⟨rfl, rfl⟩
      go_wp2
      go_ret
      exact ⟨ret_int (by simp [errB]; try omega), HB.out _⟩

set_option maxHeartbeats 1000000 in
theorem refCheck_nw (w p : Int) (s : ByteArray) (v : Nat) (hw : w ≠ 0) (W : World) (hbel : ∀ o, Below W.heap.size W (W.alloc o)) :
    Calls Tryd.prog 18 #[.agg #[.int .i64 1, .string s, .int .i64 w, .int .u64 v, .int .i64 p]] W fun e W' => e = .returned (.int .i64 (errB (false && decide (0 ≤ p)))) ∧ Below W.heap.size W W' := by
  have hw' : (w == 0) = false := by rw [beq_eq_false_iff_ne]; exact hw
  clear hw
  have HB := Lib.hid hbel
  clear hbel
  by_cases hp : 0 ≤ p
  all_goals
    go_enter Tryd.func18, Tryd.ntmps18
    go_wp2
    go_ret
    exact ⟨ret_int (by simp [errB]; try omega), HB.out _⟩

set_option maxHeartbeats 1000000 in
theorem refCheck_nv (p : Int) (s : ByteArray) (v : Nat) (hv : v ≠ 0) (W : World) (hbel : ∀ o, Below W.heap.size W (W.alloc o)) :
    Calls Tryd.prog 18 #[.agg #[.int .i64 1, .string s, .int .i64 0, .int .u64 v, .int .i64 p]] W fun e W' => e = .returned (.int .i64 (errB (false && decide (0 ≤ p)))) ∧ Below W.heap.size W W' := by
  have hv' : ((v : Int) == 0) = false := by rw [beq_eq_false_iff_ne]; omega
  clear hv
  have HB := Lib.hid hbel
  clear hbel
  by_cases hp : 0 ≤ p
  all_goals
    go_enter Tryd.func18, Tryd.ntmps18
    go_wp2
    go_ret
    exact ⟨ret_int (by simp [errB]; try omega), HB.out _⟩

set_option maxHeartbeats 1000000 in
theorem refCheck_wp (p : Int) (s : ByteArray) (b : Bool) (W : World) (hbel : ∀ o, Below W.heap.size W (W.alloc o)) (kc : ∀ o, Calls Tryd.prog 20 #[.string s] (W.alloc o) fun e W' => e = .returned (.bool b) ∧ W.alloc o = W') :
    Calls Tryd.prog 18 #[.agg #[.int .i64 2, .string s, .int .i64 0, .int .u64 0, .int .i64 p]] W fun e W' => e = .returned (.int .i64 (errB (b && decide (0 ≤ p)))) ∧ Below W.heap.size W W' := by
  have HB := Lib.hid hbel
  clear hbel
  have KC := Lib.hid kc
  clear kc
  by_cases hp : 0 ≤ p
  all_goals
    cases b
    all_goals
      go_enter Tryd.func18, Tryd.ntmps18
      go_wp2_with fail
      refine (KC.out _).mono ?_
      rintro e w' ⟨rfl, rfl⟩
      go_wp2
      go_ret
      exact ⟨ret_int (by simp [errB]; try omega), HB.out _⟩

set_option maxHeartbeats 1000000 in
theorem refCheck_ww (w p : Int) (s : ByteArray) (v : Nat) (hw : w ≠ 0) (W : World) (hbel : ∀ o, Below W.heap.size W (W.alloc o)) :
    Calls Tryd.prog 18 #[.agg #[.int .i64 2, .string s, .int .i64 w, .int .u64 v, .int .i64 p]] W fun e W' => e = .returned (.int .i64 (errB (false && decide (0 ≤ p)))) ∧ Below W.heap.size W W' := by
  have hw' : (w == 0) = false := by rw [beq_eq_false_iff_ne]; exact hw
  clear hw
  have HB := Lib.hid hbel
  clear hbel
  by_cases hp : 0 ≤ p
  all_goals
    go_enter Tryd.func18, Tryd.ntmps18
    go_wp2
    go_ret
    exact ⟨ret_int (by simp [errB]; try omega), HB.out _⟩

set_option maxHeartbeats 1000000 in
theorem refCheck_wv (p : Int) (s : ByteArray) (v : Nat) (hv : v ≠ 0) (W : World) (hbel : ∀ o, Below W.heap.size W (W.alloc o)) :
    Calls Tryd.prog 18 #[.agg #[.int .i64 2, .string s, .int .i64 0, .int .u64 v, .int .i64 p]] W fun e W' => e = .returned (.int .i64 (errB (false && decide (0 ≤ p)))) ∧ Below W.heap.size W W' := by
  have hv' : ((v : Int) == 0) = false := by rw [beq_eq_false_iff_ne]; omega
  clear hv
  have HB := Lib.hid hbel
  clear hbel
  by_cases hp : 0 ≤ p
  all_goals
    go_enter Tryd.func18, Tryd.ntmps18
    go_wp2
    go_ret
    exact ⟨ret_int (by simp [errB]; try omega), HB.out _⟩

set_option maxHeartbeats 1000000 in
theorem refCheck_sp (p : Int) (s : ByteArray) (b : Bool) (W : World) (hbel : ∀ o, Below W.heap.size W (W.alloc o)) (kc : ∀ o, Calls Tryd.prog 37 #[.string s] (W.alloc o) fun e W' => e = .returned (.bool b) ∧ W.alloc o = W') :
    Calls Tryd.prog 18 #[.agg #[.int .i64 4, .string s, .int .i64 0, .int .u64 0, .int .i64 p]] W fun e W' => e = .returned (.int .i64 (errB (b && decide (0 ≤ p)))) ∧ Below W.heap.size W W' := by
  have HB := Lib.hid hbel
  clear hbel
  have KC := Lib.hid kc
  clear kc
  by_cases hp : 0 ≤ p
  all_goals
    cases b
    all_goals
      go_enter Tryd.func18, Tryd.ntmps18
      go_wp2_with fail
      refine (KC.out _).mono ?_
      rintro e w' ⟨rfl, rfl⟩
      go_wp2
      go_ret
      exact ⟨ret_int (by simp [errB]; try omega), HB.out _⟩

set_option maxHeartbeats 1000000 in
theorem refCheck_sw (w p : Int) (s : ByteArray) (v : Nat) (hw : w ≠ 0) (W : World) (hbel : ∀ o, Below W.heap.size W (W.alloc o)) :
    Calls Tryd.prog 18 #[.agg #[.int .i64 4, .string s, .int .i64 w, .int .u64 v, .int .i64 p]] W fun e W' => e = .returned (.int .i64 (errB (false && decide (0 ≤ p)))) ∧ Below W.heap.size W W' := by
  have hw' : (w == 0) = false := by rw [beq_eq_false_iff_ne]; exact hw
  clear hw
  have HB := Lib.hid hbel
  clear hbel
  by_cases hp : 0 ≤ p
  all_goals
    go_enter Tryd.func18, Tryd.ntmps18
    go_wp2
    go_ret
    exact ⟨ret_int (by simp [errB]; try omega), HB.out _⟩

set_option maxHeartbeats 1000000 in
theorem refCheck_sv (p : Int) (s : ByteArray) (v : Nat) (hv : v ≠ 0) (W : World) (hbel : ∀ o, Below W.heap.size W (W.alloc o)) :
    Calls Tryd.prog 18 #[.agg #[.int .i64 4, .string s, .int .i64 0, .int .u64 v, .int .i64 p]] W fun e W' => e = .returned (.int .i64 (errB (false && decide (0 ≤ p)))) ∧ Below W.heap.size W W' := by
  have hv' : ((v : Int) == 0) = false := by rw [beq_eq_false_iff_ne]; omega
  clear hv
  have HB := Lib.hid hbel
  clear hbel
  by_cases hp : 0 ≤ p
  all_goals
    go_enter Tryd.func18, Tryd.ntmps18
    go_wp2
    go_ret
    exact ⟨ret_int (by simp [errB]; try omega), HB.out _⟩

set_option maxHeartbeats 1000000 in
theorem refCheck_fsw (p : Int) (s : ByteArray) (hs : s.data.toList ≠ []) (w : Int) (v : Nat) (hw : w ≠ 0) (W : World) (hbel : ∀ o, Below W.heap.size W (W.alloc o)) :
    Calls Tryd.prog 18 #[.agg #[.int .i64 3, .string s, .int .i64 w, .int .u64 v, .int .i64 p]] W fun e W' => e = .returned (.int .i64 (errB (false && decide (0 ≤ p)))) ∧ Below W.heap.size W W' := by
  have hs1 : s.toList.isEmpty = false := by rw [toList_eq]; simpa using hs
  have hs2 : ¬ s.toList = [] := by rw [toList_eq]; exact hs
  clear hs
  have hw' : (w == 0) = false := by rw [beq_eq_false_iff_ne]; exact hw
  clear hw
  have HB := Lib.hid hbel
  clear hbel
  by_cases hp : 0 ≤ p
  all_goals
    go_enter Tryd.func18, Tryd.ntmps18
    go_wp2
    go_ret
    exact ⟨ret_int (by simp [errB]; try omega), HB.out _⟩

set_option maxHeartbeats 1000000 in
theorem refCheck_few (p : Int) (b : Bool) (w : Int) (v : Nat) (hw : w ≠ 0) (W : World) (hbel : ∀ o, Below W.heap.size W (W.alloc o)) (kc : ∀ o, Calls Tryd.prog 38 #[.int .i64 w, .int .u64 v] (W.alloc o) fun e W' => e = .returned (.bool b) ∧ W.alloc o = W') :
    Calls Tryd.prog 18 #[.agg #[.int .i64 3, .string ⟨#[]⟩, .int .i64 w, .int .u64 v, .int .i64 p]] W fun e W' => e = .returned (.int .i64 (errB (b && decide (0 ≤ p)))) ∧ Below W.heap.size W W' := by
  have hw' : (w == 0) = false := by rw [beq_eq_false_iff_ne]; exact hw
  clear hw
  have HB := Lib.hid hbel
  clear hbel
  have KC := Lib.hid kc
  clear kc
  by_cases hp : 0 ≤ p
  all_goals
    cases b
    all_goals
      go_enter Tryd.func18, Tryd.ntmps18
      go_wp2_with fail
      refine (KC.out _).mono ?_
      rintro e w' ⟨rfl, rfl⟩
      go_wp2
      go_ret
      exact ⟨ret_int (by simp [errB]; try omega), HB.out _⟩

set_option maxHeartbeats 1000000 in
theorem refCheck_fsv (p : Int) (s : ByteArray) (hs : s.data.toList ≠ []) (v : Nat) (hv : v ≠ 0) (W : World) (hbel : ∀ o, Below W.heap.size W (W.alloc o)) :
    Calls Tryd.prog 18 #[.agg #[.int .i64 3, .string s, .int .i64 0, .int .u64 v, .int .i64 p]] W fun e W' => e = .returned (.int .i64 (errB (false && decide (0 ≤ p)))) ∧ Below W.heap.size W W' := by
  have hs1 : s.toList.isEmpty = false := by rw [toList_eq]; simpa using hs
  have hs2 : ¬ s.toList = [] := by rw [toList_eq]; exact hs
  clear hs
  have hv' : ((v : Int) == 0) = false := by rw [beq_eq_false_iff_ne]; omega
  clear hv
  have HB := Lib.hid hbel
  clear hbel
  by_cases hp : 0 ≤ p
  all_goals
    go_enter Tryd.func18, Tryd.ntmps18
    go_wp2
    go_ret
    exact ⟨ret_int (by simp [errB]; try omega), HB.out _⟩

set_option maxHeartbeats 1000000 in
theorem refCheck_fev (p : Int) (v : Nat) (hv : v ≠ 0) (W : World) (hbel : ∀ o, Below W.heap.size W (W.alloc o)) :
    Calls Tryd.prog 18 #[.agg #[.int .i64 3, .string ⟨#[]⟩, .int .i64 0, .int .u64 v, .int .i64 p]] W fun e W' => e = .returned (.int .i64 (errB (true && decide (0 ≤ p)))) ∧ Below W.heap.size W W' := by
  have hv' : ((v : Int) == 0) = false := by rw [beq_eq_false_iff_ne]; omega
  clear hv
  have HB := Lib.hid hbel
  clear hbel
  by_cases hp : 0 ≤ p
  all_goals
    go_enter Tryd.func18, Tryd.ntmps18
    go_wp2
    go_ret
    exact ⟨ret_int (by simp [errB]; try omega), HB.out _⟩

set_option maxHeartbeats 1000000 in
theorem refCheck_fsp (p : Int) (s : ByteArray) (hs : s.data.toList ≠ []) (W : World) (hbel : ∀ o, Below W.heap.size W (W.alloc o)) :
    Calls Tryd.prog 18 #[.agg #[.int .i64 3, .string s, .int .i64 0, .int .u64 0, .int .i64 p]] W fun e W' => e = .returned (.int .i64 (errB (false && decide (0 ≤ p)))) ∧ Below W.heap.size W W' := by
  have hs1 : s.toList.isEmpty = false := by rw [toList_eq]; simpa using hs
  have hs2 : ¬ s.toList = [] := by rw [toList_eq]; exact hs
  clear hs
  have HB := Lib.hid hbel
  clear hbel
  by_cases hp : 0 ≤ p
  all_goals
    go_enter Tryd.func18, Tryd.ntmps18
    go_wp2
    go_ret
    exact ⟨ret_int (by simp [errB]; try omega), HB.out _⟩

set_option maxHeartbeats 1000000 in
theorem refCheck_fep (p : Int) (W : World) (hbel : ∀ o, Below W.heap.size W (W.alloc o)) :
    Calls Tryd.prog 18 #[.agg #[.int .i64 3, .string ⟨#[]⟩, .int .i64 0, .int .u64 0, .int .i64 p]] W fun e W' => e = .returned (.int .i64 (errB (true && decide (0 ≤ p)))) ∧ Below W.heap.size W W' := by
  have HB := Lib.hid hbel
  clear hbel
  by_cases hp : 0 ≤ p
  all_goals
    go_enter Tryd.func18, Tryd.ntmps18
    go_wp2
    go_ret
    exact ⟨ret_int (by simp [errB]; try omega), HB.out _⟩

set_option maxHeartbeats 1000000 in
theorem refCheck_op (p : Int) (s : ByteArray) (k : Int) (h1 : k ≠ 1) (h2 : k ≠ 2) (h3 : k ≠ 3) (h4 : k ≠ 4) (W : World) (hbel : ∀ o, Below W.heap.size W (W.alloc o)) :
    Calls Tryd.prog 18 #[.agg #[.int .i64 k, .string s, .int .i64 0, .int .u64 0, .int .i64 p]] W fun e W' => e = .returned (.int .i64 (errB (false && decide (0 ≤ p)))) ∧ Below W.heap.size W W' := by
  have q1 : (k == 1) = false := by rw [beq_eq_false_iff_ne]; exact h1
  have q2 : (k == 2) = false := by rw [beq_eq_false_iff_ne]; exact h2
  have q3 : (k == 3) = false := by rw [beq_eq_false_iff_ne]; exact h3
  have q4 : (k == 4) = false := by rw [beq_eq_false_iff_ne]; exact h4
  clear h1 h2 h3 h4
  have HB := Lib.hid hbel
  clear hbel
  by_cases hp : 0 ≤ p
  all_goals
    go_enter Tryd.func18, Tryd.ntmps18
    go_wp2
    go_ret
    exact ⟨ret_int (by simp [errB]; try omega), HB.out _⟩

set_option maxHeartbeats 1000000 in
theorem refCheck_ow (p : Int) (s : ByteArray) (k : Int) (h1 : k ≠ 1) (h2 : k ≠ 2) (h3 : k ≠ 3) (h4 : k ≠ 4) (w : Int) (v : Nat) (hw : w ≠ 0) (W : World) (hbel : ∀ o, Below W.heap.size W (W.alloc o)) :
    Calls Tryd.prog 18 #[.agg #[.int .i64 k, .string s, .int .i64 w, .int .u64 v, .int .i64 p]] W fun e W' => e = .returned (.int .i64 (errB (false && decide (0 ≤ p)))) ∧ Below W.heap.size W W' := by
  have q1 : (k == 1) = false := by rw [beq_eq_false_iff_ne]; exact h1
  have q2 : (k == 2) = false := by rw [beq_eq_false_iff_ne]; exact h2
  have q3 : (k == 3) = false := by rw [beq_eq_false_iff_ne]; exact h3
  have q4 : (k == 4) = false := by rw [beq_eq_false_iff_ne]; exact h4
  clear h1 h2 h3 h4
  have hw' : (w == 0) = false := by rw [beq_eq_false_iff_ne]; exact hw
  clear hw
  have HB := Lib.hid hbel
  clear hbel
  by_cases hp : 0 ≤ p
  all_goals
    go_enter Tryd.func18, Tryd.ntmps18
    go_wp2
    go_ret
    exact ⟨ret_int (by simp [errB]; try omega), HB.out _⟩

set_option maxHeartbeats 1000000 in
theorem refCheck_ov (p : Int) (s : ByteArray) (k : Int) (h1 : k ≠ 1) (h2 : k ≠ 2) (h3 : k ≠ 3) (h4 : k ≠ 4) (v : Nat) (hv : v ≠ 0) (W : World) (hbel : ∀ o, Below W.heap.size W (W.alloc o)) :
    Calls Tryd.prog 18 #[.agg #[.int .i64 k, .string s, .int .i64 0, .int .u64 v, .int .i64 p]] W fun e W' => e = .returned (.int .i64 (errB (false && decide (0 ≤ p)))) ∧ Below W.heap.size W W' := by
  have q1 : (k == 1) = false := by rw [beq_eq_false_iff_ne]; exact h1
  have q2 : (k == 2) = false := by rw [beq_eq_false_iff_ne]; exact h2
  have q3 : (k == 3) = false := by rw [beq_eq_false_iff_ne]; exact h3
  have q4 : (k == 4) = false := by rw [beq_eq_false_iff_ne]; exact h4
  clear h1 h2 h3 h4
  have hv' : ((v : Int) == 0) = false := by rw [beq_eq_false_iff_ne]; omega
  clear hv
  have HB := Lib.hid hbel
  clear hbel
  by_cases hp : 0 ≤ p
  all_goals
    go_enter Tryd.func18, Tryd.ntmps18
    go_wp2
    go_ret
    exact ⟨ret_int (by simp [errB]; try omega), HB.out _⟩

theorem refCheck_any (k w p : Int) (s : ByteArray) (v : Nat) (hs : s.size ≤ 4611686018427387904) (hv : v < 18446744073709551616) (W : World) (hB : Base W) :
    Calls Tryd.prog 18 #[.agg #[.int .i64 k, .string s, .int .i64 w, .int .u64 v, .int .i64 p]] W fun e W' => e = .returned (.int .i64 (errB (checkT ⟨k, s.data.toList, w, v, p⟩))) ∧ Below W.heap.size W W' := by
  have hb : ∀ o, Below W.heap.size W (W.alloc o) := fun o => (Below.refl _ _).alloc (Nat.le_refl _) _
  obtain ⟨kn, kw, ks, kf⟩ := refCheck_calls w s v hs hv W hB
  have put : ∀ {b : Bool}, (checkT ⟨k, s.data.toList, w, v, p⟩ = (b && decide (0 ≤ p))) → Calls Tryd.prog 18 #[.agg #[.int .i64 k, .string s, .int .i64 w, .int .u64 v, .int .i64 p]] W (fun e W' => e = .returned (.int .i64 (errB (b && decide (0 ≤ p)))) ∧ Below W.heap.size W W') →
      Calls Tryd.prog 18 #[.agg #[.int .i64 k, .string s, .int .i64 w, .int .u64 v, .int .i64 p]] W fun e W' => e = .returned (.int .i64 (errB (checkT ⟨k, s.data.toList, w, v, p⟩))) ∧ Below W.heap.size W W' := fun h1 h2 => by rw [h1]; exact h2
  by_cases h1 : k = 1
  · subst h1
    by_cases hw : w = 0
    · subst hw
      by_cases hz : v = 0
      · subst hz
        exact put (by simp [checkT, Bool.and_comm]) (refCheck_np p s _ W hb kn)
      · exact put (by simp [checkT, hz]) (refCheck_nv p s v hz W hb)
    · exact put (by simp [checkT, hw]) (refCheck_nw w p s v hw W hb)
  by_cases h2 : k = 2
  · subst h2
    by_cases hw : w = 0
    · subst hw
      by_cases hz : v = 0
      · subst hz
        exact put (by simp [checkT, Bool.and_comm]) (refCheck_wp p s _ W hb kw)
      · exact put (by simp [checkT, hz]) (refCheck_wv p s v hz W hb)
    · exact put (by simp [checkT, hw]) (refCheck_ww w p s v hw W hb)
  by_cases h4 : k = 4
  · subst h4
    by_cases hw : w = 0
    · subst hw
      by_cases hz : v = 0
      · subst hz
        exact put (by simp [checkT, Bool.and_comm]) (refCheck_sp p s _ W hb ks)
      · exact put (by simp [checkT, hz]) (refCheck_sv p s v hz W hb)
    · exact put (by simp [checkT, hw]) (refCheck_sw w p s v hw W hb)
  by_cases h3 : k = 3
  · subst h3
    by_cases he : s.data.toList = []
    · obtain rfl := empty_of he
      by_cases hw : w = 0
      · subst hw
        by_cases hz : v = 0
        · subst hz
          exact put (by simp [checkT]) (refCheck_fep p W hb)
        · exact put (by simp [checkT]) (refCheck_fev p v hz W hb)
      · have hw' : (w == 0) = false := by simpa using hw
        exact put (by simp [checkT, hw', Bool.and_comm]) (refCheck_few p _ w v hw W hb kf)
    · have he' : s.data.toList.isEmpty = false := by simpa using he
      by_cases hw : w = 0
      · subst hw
        by_cases hz : v = 0
        · subst hz
          exact put (by unfold checkT; rw [he']; simp) (refCheck_fsp p s he W hb)
        · exact put (by unfold checkT; rw [he']; simp) (refCheck_fsv p s he v hz W hb)
      · exact put (by unfold checkT; rw [he']; simp) (refCheck_fsw p s he w v hw W hb)
  · have hc : checkT ⟨k, s.data.toList, w, v, p⟩ = (false && decide (0 ≤ p)) := by simp [checkT, h1, h2, h3, h4]
    by_cases hw : w = 0
    · subst hw
      by_cases hz : v = 0
      · subst hz
        exact put hc (refCheck_op p s k h1 h2 h3 h4 W hb)
      · exact put hc (refCheck_ov p s k h1 h2 h3 h4 v hz W hb)
    · exact put hc (refCheck_ow p s k h1 h2 h3 h4 w v hw W hb)

end Go.Proofs.YtpabaabkhmjdhaaDoor
