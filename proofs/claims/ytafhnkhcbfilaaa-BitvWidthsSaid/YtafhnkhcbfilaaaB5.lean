/- bitv.Set and bitv.Ext. -/
import Derived.Test.YtafhnkhcbfilaaaB4
import Derived.Test.YtafhnkhcbfilaaaP5
import Derived.Test.YtafhnkhcbfilaaaR3
namespace Go.Proofs.Ytafhnkhcbfilaaa
open Go.RowKit Go.Flow Go.Sort
set_option linter.unusedVariables false
set_option linter.unusedSimpArgs false
set_option maxRecDepth 100000

def setOk (w : Int) (v : Nat) (hi lo wb : Int) (vb : Nat) : Bool := withinB w v hi lo && mayB wb vb && decide (wb = hi - lo + 1)

def SetPost (w : Int) (v : Nat) (hi lo wb : Int) (vb : Nat) (W : World) (e : Ending) (W' : World) : Prop :=
  e = Tup (if setOk w v hi lo wb vb then w else 0) (if setOk w v hi lo wb vb then setN v lo.toNat wb.toNat vb else 0) (errE (setOk w v hi lo wb vb)) ∧ Below W.heap.size W W'

set_option maxHeartbeats 1000000 in
theorem set_no1 (w hi lo wb : Int) (v vb : Nat) (hw : withinB w v hi lo = false) (W : World) (hv : v < 18446744073709551616) (hvb : vb < 18446744073709551616) :
    Calls Try.prog 27 #[.agg #[.int .i64 w, .int .u64 v], .int .i64 hi, .int .i64 lo, .agg #[.int .i64 wb, .int .u64 vb]] W fun e W' => e = Tup 0 0 1 ∧ Below W.heap.size W W' := by
  go_enter Try.func27, Try.ntmps27
  go_wp2_with fail
  refine (within_any w hi lo v _ hv).mono ?_
  rw [hw]
  rintro e W1 ⟨rfl, hbel⟩
  obtain ⟨hA, hB, hR, hW1⟩ := three_facts (va := v) (vb := vb) hbel
  clear hbel
  obtain ⟨hA0, hA1, _, _, hAl⟩ := hA
  obtain ⟨hB0, hB1, _, _, hBl⟩ := hB
  go_wp2_with fail
  refine (made_any false 0 0 _ (by omega)).mono ?_
  rintro e W3 ⟨rfl, hb3⟩
  obtain ⟨hr0, hr1, hf0, hf1, hrl⟩ := hR.later hb3
  go_wp2
  refine bodyPost_ret (v := .tuple #[.agg #[.int .i64 0, .int .u64 0], .int .i64 1]) ?_ rfl ⟨rfl, ?_⟩
  · simp [results, Try.results27, go_sem, hr0, hr1, hf0, hf1, madeW, madeV, errE]
  · exact bin_end hW1 hb3 (by omega) _ _

set_option maxHeartbeats 1000000 in
theorem set_no2 (w hi lo wb : Int) (v vb : Nat) (hw : withinB w v hi lo = true) (hm : mayB wb vb = false) (W : World) (hv : v < 18446744073709551616) (hvb : vb < 18446744073709551616) :
    Calls Try.prog 27 #[.agg #[.int .i64 w, .int .u64 v], .int .i64 hi, .int .i64 lo, .agg #[.int .i64 wb, .int .u64 vb]] W fun e W' => e = Tup 0 0 1 ∧ Below W.heap.size W W' := by
  go_enter Try.func27, Try.ntmps27
  go_wp2_with fail
  refine (within_any w hi lo v _ hv).mono ?_
  rw [hw]
  rintro e W1 ⟨rfl, hbel⟩
  obtain ⟨hA, hB, hR, hW1⟩ := three_facts (va := v) (vb := vb) hbel
  clear hbel
  obtain ⟨hA0, hA1, _, _, hAl⟩ := hA
  obtain ⟨hB0, hB1, _, _, hBl⟩ := hB
  go_wp2_with fail
  refine (may_any wb vb _ hvb).mono ?_
  rw [hm]
  rintro e W2 ⟨rfl, hb2⟩
  have hA' := Box.later ⟨hA0, hA1, ‹_›, ‹_›, hAl⟩ hb2
  have hB' := Box.later ⟨hB0, hB1, ‹_›, ‹_›, hBl⟩ hb2
  have hR' := hR.later hb2
  have hW2 := hW1.trans (hb2.mono hW1.size)
  clear hA0 hA1 hB0 hB1 hR hW1 hb2 hAl hBl
  obtain ⟨hA0, hA1, _, _, hAl⟩ := hA'
  obtain ⟨hB0, hB1, _, _, hBl⟩ := hB'
  go_wp2_with fail
  refine (made_any false 0 0 _ (by omega)).mono ?_
  rintro e W3 ⟨rfl, hb3⟩
  obtain ⟨hr0, hr1, hf0, hf1, hrl⟩ := hR'.later hb3
  go_wp2
  refine bodyPost_ret (v := .tuple #[.agg #[.int .i64 0, .int .u64 0], .int .i64 1]) ?_ rfl ⟨rfl, ?_⟩
  · simp [results, Try.results27, go_sem, hr0, hr1, hf0, hf1, madeW, madeV, errE]
  · exact bin_end hW2 hb3 (by omega) _ _

set_option maxHeartbeats 1000000 in
theorem set_no3 (w hi lo wb : Int) (v vb : Nat) (hw : withinB w v hi lo = true) (hm : mayB wb vb = true) (he : (wb != hi - lo + 1) = true) (W : World) (hv : v < 18446744073709551616) (hvb : vb < 18446744073709551616) :
    Calls Try.prog 27 #[.agg #[.int .i64 w, .int .u64 v], .int .i64 hi, .int .i64 lo, .agg #[.int .i64 wb, .int .u64 vb]] W fun e W' => e = Tup 0 0 1 ∧ Below W.heap.size W W' := by
  have hwi := within_true hw
  obtain ⟨_, l0, l1, l2, l3⟩ := hwi
  go_enter Try.func27, Try.ntmps27
  go_wp2_with fail
  refine (within_any w hi lo v _ hv).mono ?_
  rw [hw]
  rintro e W1 ⟨rfl, hbel⟩
  obtain ⟨hA, hB, hR, hW1⟩ := three_facts (va := v) (vb := vb) hbel
  clear hbel
  obtain ⟨hA0, hA1, _, _, hAl⟩ := hA
  obtain ⟨hB0, hB1, _, _, hBl⟩ := hB
  go_wp2_with fail
  refine (may_any wb vb _ hvb).mono ?_
  rw [hm]
  rintro e W2 ⟨rfl, hb2⟩
  have hA' := Box.later ⟨hA0, hA1, ‹_›, ‹_›, hAl⟩ hb2
  have hB' := Box.later ⟨hB0, hB1, ‹_›, ‹_›, hBl⟩ hb2
  have hR' := hR.later hb2
  have hW2 := hW1.trans (hb2.mono hW1.size)
  clear hA0 hA1 hB0 hB1 hR hW1 hb2 hAl hBl
  obtain ⟨hA0, hA1, _, _, hAl⟩ := hA'
  obtain ⟨hB0, hB1, _, _, hBl⟩ := hB'
  go_wp2_with fail
  refine (made_any false 0 0 _ (by omega)).mono ?_
  rintro e W3 ⟨rfl, hb3⟩
  obtain ⟨hr0, hr1, hf0, hf1, hrl⟩ := hR'.later hb3
  go_wp2
  refine bodyPost_ret (v := .tuple #[.agg #[.int .i64 0, .int .u64 0], .int .i64 1]) ?_ rfl ⟨rfl, ?_⟩
  · simp [results, Try.results27, go_sem, hr0, hr1, hf0, hf1, madeW, madeV, errE]
  · exact bin_end hW2 hb3 (by omega) _ _

set_option maxHeartbeats 1000000 in
theorem set_yes (w hi wb : Int) (l v vb : Nat) (hw : withinB w v hi l = true) (hm : mayB wb vb = true) (he : (wb != hi - (l : Int) + 1) = false) (hole x y : Nat) (hx : bits .andNot .u64 (mask (hi + 1) : Nat) (mask (l : Int) : Nat) = (hole : Int)) (hx2 : bits .andNot .u64 (v : Int) (hole : Int) = (x : Int)) (hx3 : bits .or .u64 (x : Int) (upN vb l : Nat) = (y : Int)) (hy : y < 18446744073709551616) (W : World) (hv : v < 18446744073709551616) (hvb : vb < 18446744073709551616) :
    Calls Try.prog 27 #[.agg #[.int .i64 w, .int .u64 v], .int .i64 hi, .int .i64 l, .agg #[.int .i64 wb, .int .u64 vb]] W fun e W' => e = Tup w (y &&& mask w) 0 ∧ Below W.heap.size W W' := by
  have hwi := within_true hw
  obtain ⟨_, l0, l1, l2, l3⟩ := hwi
  have hu := up_walk vb l (by omega)
  have l4 : l ≤ 63 := by omega
  go_enter Try.func27, Try.ntmps27
  go_wp2_with fail
  refine (within_any w hi l v _ hv).mono ?_
  rw [hw]
  rintro e W1 ⟨rfl, hbel⟩
  obtain ⟨hA, hB, hR, hW1⟩ := three_facts (va := v) (vb := vb) hbel
  clear hbel
  obtain ⟨hA0, hA1, _, _, hAl⟩ := hA
  obtain ⟨hB0, hB1, _, _, hBl⟩ := hB
  go_wp2_with fail
  refine (may_any wb vb _ hvb).mono ?_
  rw [hm]
  rintro e W2 ⟨rfl, hb2⟩
  have hA' := Box.later ⟨hA0, hA1, ‹_›, ‹_›, hAl⟩ hb2
  have hB' := Box.later ⟨hB0, hB1, ‹_›, ‹_›, hBl⟩ hb2
  have hR' := hR.later hb2
  have hW2 := hW1.trans (hb2.mono hW1.size)
  clear hA0 hA1 hB0 hB1 hR hW1 hb2 hAl hBl
  obtain ⟨hA0, hA1, _, _, hAl⟩ := hA'
  obtain ⟨hB0, hB1, _, _, hBl⟩ := hB'
  go_wp2_with fail
  refine (mask_any _ _).mono ?_
  rintro e W3 ⟨rfl, rfl⟩
  go_wp2_with fail
  refine (mask_any _ _).mono ?_
  rintro e W3 ⟨rfl, rfl⟩
  obtain ⟨hq0, hq1, hg0, hg1, hql⟩ := hR'
  go_wp2_with fail
  go_region_held3 (fun w' => w'.cell? ⟨W.heap.size, 0, none⟩ = some (.int .i64 w) ∧ w'.cell? ⟨W.heap.size, 1, none⟩ = some (.int .u64 v) ∧ w'.cell? ⟨W.heap.size + 1, 1, none⟩ = some (.int .u64 vb)) (go_keep)
    (first
      | (go_at_call 32; refine (made_any true w y _ hy).mono ?_; rintro e W3 ⟨rfl, hb3⟩
         obtain ⟨hr0, hr1, hf0, hf1, hrl⟩ := Box.later (w := W2.drew) ⟨hq0, hq1, hg0, hg1, hql⟩ hb3
         have hA0' := (hb3.cell (p := ⟨W.heap.size, 0, none⟩) hAl).trans hA0
         have hA1' := (hb3.cell (p := ⟨W.heap.size, 1, none⟩) hAl).trans hA1
         have hB1' := (hb3.cell (p := ⟨W.heap.size + 1, 1, none⟩) hBl).trans hB1
         have hne2 : ¬ W.heap.size + 1 + 1 = W.heap.size := by omega
         have hne3 : ¬ W.heap.size = W.heap.size + 1 + 1 := by omega))
  go_wp2
  refine bodyPost_ret (v := .tuple #[.agg #[.int .i64 w, .int .u64 (y &&& mask w : Nat)], .int .i64 0]) ?_ rfl ⟨rfl, ?_⟩
  · simp [results, Try.results27, go_sem, hr0, hr1, hf0, hf1, madeW, madeV, errE]
  · exact ((((hW2.drew).trans (hb3.mono (by simpa using hW2.size))).setCell (by simp; try omega) _).setCell (by simp; try omega) _)

theorem set_any (w hi lo wb : Int) (v vb : Nat) (W : World) (hv : v < 18446744073709551616) (hvb : vb < 18446744073709551616) :
    Calls Try.prog 27 #[.agg #[.int .i64 w, .int .u64 v], .int .i64 hi, .int .i64 lo, .agg #[.int .i64 wb, .int .u64 vb]] W (SetPost w v hi lo wb vb W) := by
  have no : setOk w v hi lo wb vb = false → ∀ e W', (e = Tup 0 0 1 ∧ Below W.heap.size W W') → SetPost w v hi lo wb vb W e W' := fun h e W' k => ⟨by rw [k.1, h]; rfl, k.2⟩
  cases hw : withinB w v hi lo
  · exact (set_no1 w hi lo wb v vb hw W hv hvb).mono (no (by simp [setOk, hw]))
  cases hm : mayB wb vb
  · exact (set_no2 w hi lo wb v vb hw hm W hv hvb).mono (no (by simp [setOk, hm]))
  by_cases he : wb = hi - lo + 1
  · obtain ⟨hma, l0, l1, l2, l3⟩ := within_true hw
    obtain ⟨l, rfl⟩ := Int.eq_ofNat_of_zero_le l0
    obtain ⟨n, rfl, n0, n64, hlt, _⟩ := mayB_true hm
    obtain ⟨k, rfl, k0, k64, hlk, _⟩ := mayB_true hma
    have hln : l + n ≤ k := by omega
    have hhi : hi + 1 = ((l + n : Nat) : Int) := by omega
    have m1 := mask_lt ((l + n : Nat) : Int)
    have m2 := mask_lt (l : Int)
    have h1 := u64_andNot_nat _ _ m1 m2
    have hh : mask ((l + n : Nat) : Int) &&& (18446744073709551615 - mask (l : Int)) < 18446744073709551616 := Nat.lt_of_le_of_lt Nat.and_le_left m1
    have h2 := u64_andNot_nat v _ hv hh
    have hx : v &&& (18446744073709551615 - (mask ((l + n : Nat) : Int) &&& (18446744073709551615 - mask (l : Int)))) < 18446744073709551616 := Nat.lt_of_le_of_lt Nat.and_le_left hv
    have h3 := u64_or_nat _ _ hx (upN_lt vb l)
    have hs := set_parts v l n vb n0 (by omega) hv hlt
    have hl := setN_lt v l n vb k hlk hln hlt
    rw [hs] at h3
    have hl64 := Nat.lt_of_lt_of_le hl (pow_le64 k k64)
    have ok : setOk (k : Int) v hi l n vb = true := by simp only [setOk, hw, hm, Bool.true_and, decide_eq_true_eq]; exact he
    refine (set_yes k hi n l v vb hw hm (by simpa using he) _ _ _ (by rw [hhi]; exact h1) h2 h3 hl64 W hv hvb).mono fun e W' h => ⟨h.1.trans ?_, h.2⟩
    rw [ok]
    refine tup_eq rfl ?_ rfl
    rw [and_mask k _ k0 k64, Nat.mod_eq_of_lt hl]
    rfl
  · exact (set_no3 w hi lo wb v vb hw hm (by simpa using he) W hv hvb).mono (no (by simp [setOk, he]))

set_option maxHeartbeats 1000000 in
theorem ext_znm (w n : Int) (v : Nat) (hm : mayB w v = false) (W : World) (hv : v < 18446744073709551616) :
    Calls Try.prog 29 #[.int .i64 31, .int .i64 n, .agg #[.int .i64 w, .int .u64 v]] W fun e W' => e = Tup 0 0 1 ∧ Below W.heap.size W W' := by
  go_enter Try.func29, Try.ntmps29
  go_wp2_with fail
  refine (may_any w v _ hv).mono ?_
  rw [hm]
  rintro e W1 ⟨rfl, hb⟩
  obtain ⟨⟨hA0, hA1, _, _, hl⟩, hR, hW1⟩ := two_box hb
  go_wp2_with fail
  refine (made_any false n v _ (hv)).mono ?_
  rintro e W3 ⟨rfl, hb3⟩
  obtain ⟨hr0, hr1, hf0, hf1, hrl⟩ := hR.later hb3
  go_wp2
  refine bodyPost_ret (v := .tuple #[.agg #[.int .i64 0, .int .u64 0], .int .i64 1]) ?_ rfl ⟨rfl, ?_⟩
  · simp [results, Try.results29, go_sem, hr0, hr1, hf0, hf1, madeW, madeV, errE]
  · exact bin_end hW1 hb3 (by omega) _ _

set_option maxHeartbeats 1000000 in
theorem ext_zn0 (w n : Int) (v : Nat) (hm : mayB w v = true) (h1 : ¬ 0 < n) (W : World) (hv : v < 18446744073709551616) :
    Calls Try.prog 29 #[.int .i64 31, .int .i64 n, .agg #[.int .i64 w, .int .u64 v]] W fun e W' => e = Tup 0 0 1 ∧ Below W.heap.size W W' := by
  have d1 : decide (0 < n) = false := by simpa using h1
  go_enter Try.func29, Try.ntmps29
  go_wp2_with fail
  refine (may_any w v _ hv).mono ?_
  rw [hm]
  rintro e W1 ⟨rfl, hb⟩
  obtain ⟨⟨hA0, hA1, _, _, hl⟩, hR, hW1⟩ := two_box hb
  go_wp2_with fail
  refine (made_any false n v _ (hv)).mono ?_
  rintro e W3 ⟨rfl, hb3⟩
  obtain ⟨hr0, hr1, hf0, hf1, hrl⟩ := hR.later hb3
  go_wp2
  refine bodyPost_ret (v := .tuple #[.agg #[.int .i64 0, .int .u64 0], .int .i64 1]) ?_ rfl ⟨rfl, ?_⟩
  · simp [results, Try.results29, go_sem, hr0, hr1, hf0, hf1, madeW, madeV, errE]
  · exact bin_end hW1 hb3 (by omega) _ _

set_option maxHeartbeats 1000000 in
theorem ext_zn64 (w n : Int) (v : Nat) (hm : mayB w v = true) (h1 : 0 < n) (h2 : ¬ n ≤ 64) (W : World) (hv : v < 18446744073709551616) :
    Calls Try.prog 29 #[.int .i64 31, .int .i64 n, .agg #[.int .i64 w, .int .u64 v]] W fun e W' => e = Tup 0 0 1 ∧ Below W.heap.size W W' := by
  have d1 : decide (0 < n) = true := by simpa using h1
  have d2 : decide (n ≤ 64) = false := by simpa using h2
  go_enter Try.func29, Try.ntmps29
  go_wp2_with fail
  refine (may_any w v _ hv).mono ?_
  rw [hm]
  rintro e W1 ⟨rfl, hb⟩
  obtain ⟨⟨hA0, hA1, _, _, hl⟩, hR, hW1⟩ := two_box hb
  go_wp2_with fail
  refine (made_any false n v _ (hv)).mono ?_
  rintro e W3 ⟨rfl, hb3⟩
  obtain ⟨hr0, hr1, hf0, hf1, hrl⟩ := hR.later hb3
  go_wp2
  refine bodyPost_ret (v := .tuple #[.agg #[.int .i64 0, .int .u64 0], .int .i64 1]) ?_ rfl ⟨rfl, ?_⟩
  · simp [results, Try.results29, go_sem, hr0, hr1, hf0, hf1, madeW, madeV, errE]
  · exact bin_end hW1 hb3 (by omega) _ _

set_option maxHeartbeats 1000000 in
theorem ext_zun (w n : Int) (v : Nat) (hm : mayB w v = true) (h1 : 0 < n) (h2 : n ≤ 64) (h3 : ¬ w ≤ n) (W : World) (hv : v < 18446744073709551616) :
    Calls Try.prog 29 #[.int .i64 31, .int .i64 n, .agg #[.int .i64 w, .int .u64 v]] W fun e W' => e = Tup 0 0 1 ∧ Below W.heap.size W W' := by
  have d1 : decide (0 < n) = true := by simpa using h1
  have d2 : decide (n ≤ 64) = true := by simpa using h2
  have d3 : decide (w ≤ n) = false := by simpa using h3
  go_enter Try.func29, Try.ntmps29
  go_wp2_with fail
  refine (may_any w v _ hv).mono ?_
  rw [hm]
  rintro e W1 ⟨rfl, hb⟩
  obtain ⟨⟨hA0, hA1, _, _, hl⟩, hR, hW1⟩ := two_box hb
  go_wp2_with fail
  refine (made_any false n v _ (hv)).mono ?_
  rintro e W3 ⟨rfl, hb3⟩
  obtain ⟨hr0, hr1, hf0, hf1, hrl⟩ := hR.later hb3
  go_wp2
  refine bodyPost_ret (v := .tuple #[.agg #[.int .i64 0, .int .u64 0], .int .i64 1]) ?_ rfl ⟨rfl, ?_⟩
  · simp [results, Try.results29, go_sem, hr0, hr1, hf0, hf1, madeW, madeV, errE]
  · exact bin_end hW1 hb3 (by omega) _ _

set_option maxHeartbeats 1000000 in
theorem ext_zok (w n : Int) (v : Nat) (hm : mayB w v = true) (h1 : 0 < n) (h2 : n ≤ 64) (h3 : w ≤ n) (W : World) (hv : v < 18446744073709551616) :
    Calls Try.prog 29 #[.int .i64 31, .int .i64 n, .agg #[.int .i64 w, .int .u64 v]] W fun e W' => e = Tup n (v &&& mask n) 0 ∧ Below W.heap.size W W' := by
  have d1 : decide (0 < n) = true := by simpa using h1
  have d2 : decide (n ≤ 64) = true := by simpa using h2
  have d3 : decide (w ≤ n) = true := by simpa using h3
  go_enter Try.func29, Try.ntmps29
  go_wp2_with fail
  refine (may_any w v _ hv).mono ?_
  rw [hm]
  rintro e W1 ⟨rfl, hb⟩
  obtain ⟨⟨hA0, hA1, _, _, hl⟩, hR, hW1⟩ := two_box hb
  go_wp2_with fail
  refine (made_any true n v _ (hv)).mono ?_
  rintro e W3 ⟨rfl, hb3⟩
  obtain ⟨hr0, hr1, hf0, hf1, hrl⟩ := hR.later hb3
  go_wp2
  refine bodyPost_ret (v := .tuple #[.agg #[.int .i64 n, .int .u64 (v &&& mask n : Nat)], .int .i64 0]) ?_ rfl ⟨rfl, ?_⟩
  · simp [results, Try.results29, go_sem, hr0, hr1, hf0, hf1, madeW, madeV, errE]
  · exact bin_end hW1 hb3 (by omega) _ _

set_option maxHeartbeats 1000000 in
theorem ext_cnm (w n : Int) (v : Nat) (hm : mayB w v = false) (W : World) (hv : v < 18446744073709551616) :
    Calls Try.prog 29 #[.int .i64 33, .int .i64 n, .agg #[.int .i64 w, .int .u64 v]] W fun e W' => e = Tup 0 0 1 ∧ Below W.heap.size W W' := by
  go_enter Try.func29, Try.ntmps29
  go_wp2_with fail
  refine (may_any w v _ hv).mono ?_
  rw [hm]
  rintro e W1 ⟨rfl, hb⟩
  obtain ⟨⟨hA0, hA1, _, _, hl⟩, hR, hW1⟩ := two_box hb
  go_wp2_with fail
  refine (made_any false n v _ (hv)).mono ?_
  rintro e W3 ⟨rfl, hb3⟩
  obtain ⟨hr0, hr1, hf0, hf1, hrl⟩ := hR.later hb3
  go_wp2
  refine bodyPost_ret (v := .tuple #[.agg #[.int .i64 0, .int .u64 0], .int .i64 1]) ?_ rfl ⟨rfl, ?_⟩
  · simp [results, Try.results29, go_sem, hr0, hr1, hf0, hf1, madeW, madeV, errE]
  · exact bin_end hW1 hb3 (by omega) _ _

set_option maxHeartbeats 1000000 in
theorem ext_cn0 (w n : Int) (v : Nat) (hm : mayB w v = true) (h1 : ¬ 0 < n) (W : World) (hv : v < 18446744073709551616) :
    Calls Try.prog 29 #[.int .i64 33, .int .i64 n, .agg #[.int .i64 w, .int .u64 v]] W fun e W' => e = Tup 0 0 1 ∧ Below W.heap.size W W' := by
  have d1 : decide (0 < n) = false := by simpa using h1
  go_enter Try.func29, Try.ntmps29
  go_wp2_with fail
  refine (may_any w v _ hv).mono ?_
  rw [hm]
  rintro e W1 ⟨rfl, hb⟩
  obtain ⟨⟨hA0, hA1, _, _, hl⟩, hR, hW1⟩ := two_box hb
  go_wp2_with fail
  refine (made_any false n v _ (hv)).mono ?_
  rintro e W3 ⟨rfl, hb3⟩
  obtain ⟨hr0, hr1, hf0, hf1, hrl⟩ := hR.later hb3
  go_wp2
  refine bodyPost_ret (v := .tuple #[.agg #[.int .i64 0, .int .u64 0], .int .i64 1]) ?_ rfl ⟨rfl, ?_⟩
  · simp [results, Try.results29, go_sem, hr0, hr1, hf0, hf1, madeW, madeV, errE]
  · exact bin_end hW1 hb3 (by omega) _ _

set_option maxHeartbeats 1000000 in
theorem ext_cn64 (w n : Int) (v : Nat) (hm : mayB w v = true) (h1 : 0 < n) (h2 : ¬ n ≤ 64) (W : World) (hv : v < 18446744073709551616) :
    Calls Try.prog 29 #[.int .i64 33, .int .i64 n, .agg #[.int .i64 w, .int .u64 v]] W fun e W' => e = Tup 0 0 1 ∧ Below W.heap.size W W' := by
  have d1 : decide (0 < n) = true := by simpa using h1
  have d2 : decide (n ≤ 64) = false := by simpa using h2
  go_enter Try.func29, Try.ntmps29
  go_wp2_with fail
  refine (may_any w v _ hv).mono ?_
  rw [hm]
  rintro e W1 ⟨rfl, hb⟩
  obtain ⟨⟨hA0, hA1, _, _, hl⟩, hR, hW1⟩ := two_box hb
  go_wp2_with fail
  refine (made_any false n v _ (hv)).mono ?_
  rintro e W3 ⟨rfl, hb3⟩
  obtain ⟨hr0, hr1, hf0, hf1, hrl⟩ := hR.later hb3
  go_wp2
  refine bodyPost_ret (v := .tuple #[.agg #[.int .i64 0, .int .u64 0], .int .i64 1]) ?_ rfl ⟨rfl, ?_⟩
  · simp [results, Try.results29, go_sem, hr0, hr1, hf0, hf1, madeW, madeV, errE]
  · exact bin_end hW1 hb3 (by omega) _ _

set_option maxHeartbeats 1000000 in
theorem ext_cun (w n : Int) (v : Nat) (hm : mayB w v = true) (h1 : 0 < n) (h2 : n ≤ 64) (h3 : ¬ n ≤ w) (W : World) (hv : v < 18446744073709551616) :
    Calls Try.prog 29 #[.int .i64 33, .int .i64 n, .agg #[.int .i64 w, .int .u64 v]] W fun e W' => e = Tup 0 0 1 ∧ Below W.heap.size W W' := by
  have d1 : decide (0 < n) = true := by simpa using h1
  have d2 : decide (n ≤ 64) = true := by simpa using h2
  have d3 : decide (n ≤ w) = false := by simpa using h3
  go_enter Try.func29, Try.ntmps29
  go_wp2_with fail
  refine (may_any w v _ hv).mono ?_
  rw [hm]
  rintro e W1 ⟨rfl, hb⟩
  obtain ⟨⟨hA0, hA1, _, _, hl⟩, hR, hW1⟩ := two_box hb
  go_wp2_with fail
  refine (made_any false n v _ (hv)).mono ?_
  rintro e W3 ⟨rfl, hb3⟩
  obtain ⟨hr0, hr1, hf0, hf1, hrl⟩ := hR.later hb3
  go_wp2
  refine bodyPost_ret (v := .tuple #[.agg #[.int .i64 0, .int .u64 0], .int .i64 1]) ?_ rfl ⟨rfl, ?_⟩
  · simp [results, Try.results29, go_sem, hr0, hr1, hf0, hf1, madeW, madeV, errE]
  · exact bin_end hW1 hb3 (by omega) _ _

set_option maxHeartbeats 1000000 in
theorem ext_cok (w n : Int) (v : Nat) (hm : mayB w v = true) (h1 : 0 < n) (h2 : n ≤ 64) (h3 : n ≤ w) (W : World) (hv : v < 18446744073709551616) :
    Calls Try.prog 29 #[.int .i64 33, .int .i64 n, .agg #[.int .i64 w, .int .u64 v]] W fun e W' => e = Tup n (v &&& mask n) 0 ∧ Below W.heap.size W W' := by
  have d1 : decide (0 < n) = true := by simpa using h1
  have d2 : decide (n ≤ 64) = true := by simpa using h2
  have d3 : decide (n ≤ w) = true := by simpa using h3
  go_enter Try.func29, Try.ntmps29
  go_wp2_with fail
  refine (may_any w v _ hv).mono ?_
  rw [hm]
  rintro e W1 ⟨rfl, hb⟩
  obtain ⟨⟨hA0, hA1, _, _, hl⟩, hR, hW1⟩ := two_box hb
  go_wp2_with fail
  refine (made_any true n v _ (hv)).mono ?_
  rintro e W3 ⟨rfl, hb3⟩
  obtain ⟨hr0, hr1, hf0, hf1, hrl⟩ := hR.later hb3
  go_wp2
  refine bodyPost_ret (v := .tuple #[.agg #[.int .i64 n, .int .u64 (v &&& mask n : Nat)], .int .i64 0]) ?_ rfl ⟨rfl, ?_⟩
  · simp [results, Try.results29, go_sem, hr0, hr1, hf0, hf1, madeW, madeV, errE]
  · exact bin_end hW1 hb3 (by omega) _ _

set_option maxHeartbeats 1000000 in
theorem ext_snm (w n : Int) (v : Nat) (hm : mayB w v = false) (s : Int) (r : Nat) (e1 : IntKind.u64.wrap (v : Int) = (v : Int)) (e2 : IntKind.i64.wrap (v : Int) = s) (e3 : IntKind.u64.wrap s = (r : Int)) (hr : r < 18446744073709551616) (W : World) (hv : v < 18446744073709551616) :
    Calls Try.prog 29 #[.int .i64 32, .int .i64 n, .agg #[.int .i64 w, .int .u64 v]] W fun e W' => e = Tup 0 0 1 ∧ Below W.heap.size W W' := by
  go_enter Try.func29, Try.ntmps29
  go_wp2_with fail
  refine (may_any w v _ hv).mono ?_
  rw [hm]
  rintro e W1 ⟨rfl, hb⟩
  obtain ⟨⟨hA0, hA1, _, _, hl⟩, hR, hW1⟩ := two_box hb
  have kA0 := cell_regrown hA0
  have kA1 := cell_regrown hA1
  have c32 := fun d os => Calls.regrown_of (made_any false n r (grow (redrawn W1 d) os) hr)
  go_wp2_with fail
  refine wp_region_below_tail 19 (by kernel_rfl) (by kernel_rfl) ?_
  simp only [List.take_succ_cons, List.take_zero, List.drop_succ_cons, List.drop_zero]
  repeat (quiet_step (exact c32 _ _))
  refine wpQuiet_nil ?_
  intro _ hw'
  obtain ⟨⟨dq, osq⟩, hw''⟩ := hw'
  subst hw''
  obtain ⟨hr0, hr1, hf0, hf1, hrl⟩ := hR.later (below_regrown W1 dq osq)
  clear kA0 kA1 c32
  go_wp2
  refine bodyPost_ret (v := .tuple #[.agg #[.int .i64 0, .int .u64 0], .int .i64 1]) ?_ rfl ⟨rfl, ?_⟩
  · simp [results, Try.results29, go_sem, hr0, hr1, hf0, hf1, madeW, madeV, errE]
  · exact (((hW1.trans ((below_regrown W1 dq osq).mono hW1.size))).setCell (by simp; try omega) _).setCell (by simp; try omega) _

set_option maxHeartbeats 1000000 in
theorem ext_sn0 (w n : Int) (v : Nat) (hm : mayB w v = true) (h1 : ¬ 0 < n) (s : Int) (r : Nat) (e1 : IntKind.u64.wrap (v : Int) = (v : Int)) (e2 : IntKind.i64.wrap (v : Int) = s) (e3 : IntKind.u64.wrap s = (r : Int)) (hr : r < 18446744073709551616) (W : World) (hv : v < 18446744073709551616) :
    Calls Try.prog 29 #[.int .i64 32, .int .i64 n, .agg #[.int .i64 w, .int .u64 v]] W fun e W' => e = Tup 0 0 1 ∧ Below W.heap.size W W' := by
  have d1 : decide (0 < n) = false := by simpa using h1
  go_enter Try.func29, Try.ntmps29
  go_wp2_with fail
  refine (may_any w v _ hv).mono ?_
  rw [hm]
  rintro e W1 ⟨rfl, hb⟩
  obtain ⟨⟨hA0, hA1, _, _, hl⟩, hR, hW1⟩ := two_box hb
  have kA0 := cell_regrown hA0
  have kA1 := cell_regrown hA1
  have c32 := fun d os => Calls.regrown_of (made_any false n r (grow (redrawn W1 d) os) hr)
  go_wp2_with fail
  refine wp_region_below_tail 19 (by kernel_rfl) (by kernel_rfl) ?_
  simp only [List.take_succ_cons, List.take_zero, List.drop_succ_cons, List.drop_zero]
  repeat (quiet_step (exact c32 _ _))
  refine wpQuiet_nil ?_
  intro _ hw'
  obtain ⟨⟨dq, osq⟩, hw''⟩ := hw'
  subst hw''
  obtain ⟨hr0, hr1, hf0, hf1, hrl⟩ := hR.later (below_regrown W1 dq osq)
  clear kA0 kA1 c32
  go_wp2
  refine bodyPost_ret (v := .tuple #[.agg #[.int .i64 0, .int .u64 0], .int .i64 1]) ?_ rfl ⟨rfl, ?_⟩
  · simp [results, Try.results29, go_sem, hr0, hr1, hf0, hf1, madeW, madeV, errE]
  · exact (((hW1.trans ((below_regrown W1 dq osq).mono hW1.size))).setCell (by simp; try omega) _).setCell (by simp; try omega) _

set_option maxHeartbeats 1000000 in
theorem ext_sn64 (w n : Int) (v : Nat) (hm : mayB w v = true) (h1 : 0 < n) (h2 : ¬ n ≤ 64) (s : Int) (r : Nat) (e1 : IntKind.u64.wrap (v : Int) = (v : Int)) (e2 : IntKind.i64.wrap (v : Int) = s) (e3 : IntKind.u64.wrap s = (r : Int)) (hr : r < 18446744073709551616) (W : World) (hv : v < 18446744073709551616) :
    Calls Try.prog 29 #[.int .i64 32, .int .i64 n, .agg #[.int .i64 w, .int .u64 v]] W fun e W' => e = Tup 0 0 1 ∧ Below W.heap.size W W' := by
  have d1 : decide (0 < n) = true := by simpa using h1
  have d2 : decide (n ≤ 64) = false := by simpa using h2
  go_enter Try.func29, Try.ntmps29
  go_wp2_with fail
  refine (may_any w v _ hv).mono ?_
  rw [hm]
  rintro e W1 ⟨rfl, hb⟩
  obtain ⟨⟨hA0, hA1, _, _, hl⟩, hR, hW1⟩ := two_box hb
  have kA0 := cell_regrown hA0
  have kA1 := cell_regrown hA1
  have c32 := fun d os => Calls.regrown_of (made_any false n r (grow (redrawn W1 d) os) hr)
  go_wp2_with fail
  refine wp_region_below_tail 19 (by kernel_rfl) (by kernel_rfl) ?_
  simp only [List.take_succ_cons, List.take_zero, List.drop_succ_cons, List.drop_zero]
  repeat (quiet_step (exact c32 _ _))
  refine wpQuiet_nil ?_
  intro _ hw'
  obtain ⟨⟨dq, osq⟩, hw''⟩ := hw'
  subst hw''
  obtain ⟨hr0, hr1, hf0, hf1, hrl⟩ := hR.later (below_regrown W1 dq osq)
  clear kA0 kA1 c32
  go_wp2
  refine bodyPost_ret (v := .tuple #[.agg #[.int .i64 0, .int .u64 0], .int .i64 1]) ?_ rfl ⟨rfl, ?_⟩
  · simp [results, Try.results29, go_sem, hr0, hr1, hf0, hf1, madeW, madeV, errE]
  · exact (((hW1.trans ((below_regrown W1 dq osq).mono hW1.size))).setCell (by simp; try omega) _).setCell (by simp; try omega) _

set_option maxHeartbeats 1000000 in
theorem ext_sun (n : Int) (k v : Nat) (hm : mayB (k : Int) v = true) (h1 : 0 < n) (h2 : n ≤ 64) (h3 : ¬ (k : Int) ≤ n) (a : Nat) (s t : Int) (r : Nat) (e0 : (64 : Int) - (k : Int) = (a : Int)) (k64 : k ≤ 64) (a63 : a ≤ 63) (e1 : IntKind.u64.wrap ((v : Int) * 2 ^ a) = ((upN v a : Nat) : Int)) (e2 : IntKind.i64.wrap ((upN v a : Nat) : Int) = s) (e3 : s / 2 ^ a = t) (e4 : IntKind.u64.wrap t = (r : Int)) (hr : r < 18446744073709551616) (W : World) (hv : v < 18446744073709551616) :
    Calls Try.prog 29 #[.int .i64 32, .int .i64 n, .agg #[.int .i64 k, .int .u64 v]] W fun e W' => e = Tup 0 0 1 ∧ Below W.heap.size W W' := by
  have d1 : decide (0 < n) = true := by simpa using h1
  have d2 : decide (n ≤ 64) = true := by simpa using h2
  have d3 : decide ((k : Int) ≤ n) = false := by simpa using h3
  go_enter Try.func29, Try.ntmps29
  go_wp2_with fail
  refine (may_any k v _ hv).mono ?_
  rw [hm]
  rintro e W1 ⟨rfl, hb⟩
  obtain ⟨⟨hA0, hA1, _, _, hl⟩, hR, hW1⟩ := two_box hb
  obtain ⟨hq0, hq1, hg0, hg1, hql⟩ := hR
  go_wp2_with fail
  go_region_held3 (fun w' => w'.cell? ⟨W.heap.size, 0, none⟩ = some (.int .i64 k) ∧ w'.cell? ⟨W.heap.size, 1, none⟩ = some (.int .u64 v)) (go_keep)
    (first
      | (go_at_call 32; refine (made_any false n r _ hr).mono ?_; rintro e W3 ⟨rfl, hb3⟩
         obtain ⟨hr0, hr1, hf0, hf1, hrl⟩ := Box.later (w := W1.drew) ⟨hq0, hq1, hg0, hg1, hql⟩ hb3
         have hA0' := (hb3.cell (p := ⟨W.heap.size, 0, none⟩) hl).trans hA0
         have hA1' := (hb3.cell (p := ⟨W.heap.size, 1, none⟩) hl).trans hA1))
  go_wp2
  refine bodyPost_ret (v := .tuple #[.agg #[.int .i64 0, .int .u64 0], .int .i64 1]) ?_ rfl ⟨rfl, ?_⟩
  · simp [results, Try.results29, go_sem, hr0, hr1, hf0, hf1, madeW, madeV, errE]
  · exact (((hW1.drew).trans (hb3.mono (by simpa using hW1.size))).setCell (by simp; try omega) _).setCell (by simp; try omega) _

set_option maxHeartbeats 1000000 in
theorem ext_sok (n : Int) (k v : Nat) (hm : mayB (k : Int) v = true) (h1 : 0 < n) (h2 : n ≤ 64) (h3 : (k : Int) ≤ n) (a : Nat) (s t : Int) (r : Nat) (e0 : (64 : Int) - (k : Int) = (a : Int)) (k64 : k ≤ 64) (a63 : a ≤ 63) (e1 : IntKind.u64.wrap ((v : Int) * 2 ^ a) = ((upN v a : Nat) : Int)) (e2 : IntKind.i64.wrap ((upN v a : Nat) : Int) = s) (e3 : s / 2 ^ a = t) (e4 : IntKind.u64.wrap t = (r : Int)) (hr : r < 18446744073709551616) (W : World) (hv : v < 18446744073709551616) :
    Calls Try.prog 29 #[.int .i64 32, .int .i64 n, .agg #[.int .i64 k, .int .u64 v]] W fun e W' => e = Tup n (r &&& mask n) 0 ∧ Below W.heap.size W W' := by
  have d1 : decide (0 < n) = true := by simpa using h1
  have d2 : decide (n ≤ 64) = true := by simpa using h2
  have d3 : decide ((k : Int) ≤ n) = true := by simpa using h3
  go_enter Try.func29, Try.ntmps29
  go_wp2_with fail
  refine (may_any k v _ hv).mono ?_
  rw [hm]
  rintro e W1 ⟨rfl, hb⟩
  obtain ⟨⟨hA0, hA1, _, _, hl⟩, hR, hW1⟩ := two_box hb
  obtain ⟨hq0, hq1, hg0, hg1, hql⟩ := hR
  go_wp2_with fail
  go_region_held3 (fun w' => w'.cell? ⟨W.heap.size, 0, none⟩ = some (.int .i64 k) ∧ w'.cell? ⟨W.heap.size, 1, none⟩ = some (.int .u64 v)) (go_keep)
    (first
      | (go_at_call 32; refine (made_any true n r _ hr).mono ?_; rintro e W3 ⟨rfl, hb3⟩
         obtain ⟨hr0, hr1, hf0, hf1, hrl⟩ := Box.later (w := W1.drew) ⟨hq0, hq1, hg0, hg1, hql⟩ hb3
         have hA0' := (hb3.cell (p := ⟨W.heap.size, 0, none⟩) hl).trans hA0
         have hA1' := (hb3.cell (p := ⟨W.heap.size, 1, none⟩) hl).trans hA1))
  go_wp2
  refine bodyPost_ret (v := .tuple #[.agg #[.int .i64 n, .int .u64 (r &&& mask n : Nat)], .int .i64 0]) ?_ rfl ⟨rfl, ?_⟩
  · simp [results, Try.results29, go_sem, hr0, hr1, hf0, hf1, madeW, madeV, errE]
  · exact (((hW1.drew).trans (hb3.mono (by simpa using hW1.size))).setCell (by simp; try omega) _).setCell (by simp; try omega) _

set_option maxHeartbeats 1000000 in
theorem ext_onm (op w n : Int) (v : Nat) (hm : mayB w v = false) (h31 : (op == 31) = false) (h32 : (op == 32) = false) (h33 : (op == 33) = false) (W : World) (hv : v < 18446744073709551616) :
    Calls Try.prog 29 #[.int .i64 op, .int .i64 n, .agg #[.int .i64 w, .int .u64 v]] W fun e W' => e = Tup 0 0 1 ∧ Below W.heap.size W W' := by
  go_enter Try.func29, Try.ntmps29
  go_wp2_with fail
  refine (may_any w v _ hv).mono ?_
  rw [hm]
  rintro e W1 ⟨rfl, hb⟩
  obtain ⟨⟨hA0, hA1, _, _, hl⟩, hR, hW1⟩ := two_box hb
  go_wp2_with fail
  refine (made_any false 0 0 _ (by omega)).mono ?_
  rintro e W3 ⟨rfl, hb3⟩
  obtain ⟨hr0, hr1, hf0, hf1, hrl⟩ := hR.later hb3
  go_wp2
  refine bodyPost_ret (v := .tuple #[.agg #[.int .i64 0, .int .u64 0], .int .i64 1]) ?_ rfl ⟨rfl, ?_⟩
  · simp [results, Try.results29, go_sem, hr0, hr1, hf0, hf1, madeW, madeV, errE]
  · exact bin_end hW1 hb3 (by omega) _ _

set_option maxHeartbeats 1000000 in
theorem ext_on0 (op w n : Int) (v : Nat) (hm : mayB w v = true) (h1 : ¬ 0 < n) (h31 : (op == 31) = false) (h32 : (op == 32) = false) (h33 : (op == 33) = false) (W : World) (hv : v < 18446744073709551616) :
    Calls Try.prog 29 #[.int .i64 op, .int .i64 n, .agg #[.int .i64 w, .int .u64 v]] W fun e W' => e = Tup 0 0 1 ∧ Below W.heap.size W W' := by
  have d1 : decide (0 < n) = false := by simpa using h1
  go_enter Try.func29, Try.ntmps29
  go_wp2_with fail
  refine (may_any w v _ hv).mono ?_
  rw [hm]
  rintro e W1 ⟨rfl, hb⟩
  obtain ⟨⟨hA0, hA1, _, _, hl⟩, hR, hW1⟩ := two_box hb
  go_wp2_with fail
  refine (made_any false 0 0 _ (by omega)).mono ?_
  rintro e W3 ⟨rfl, hb3⟩
  obtain ⟨hr0, hr1, hf0, hf1, hrl⟩ := hR.later hb3
  go_wp2
  refine bodyPost_ret (v := .tuple #[.agg #[.int .i64 0, .int .u64 0], .int .i64 1]) ?_ rfl ⟨rfl, ?_⟩
  · simp [results, Try.results29, go_sem, hr0, hr1, hf0, hf1, madeW, madeV, errE]
  · exact bin_end hW1 hb3 (by omega) _ _

set_option maxHeartbeats 1000000 in
theorem ext_on64 (op w n : Int) (v : Nat) (hm : mayB w v = true) (h1 : 0 < n) (h2 : ¬ n ≤ 64) (h31 : (op == 31) = false) (h32 : (op == 32) = false) (h33 : (op == 33) = false) (W : World) (hv : v < 18446744073709551616) :
    Calls Try.prog 29 #[.int .i64 op, .int .i64 n, .agg #[.int .i64 w, .int .u64 v]] W fun e W' => e = Tup 0 0 1 ∧ Below W.heap.size W W' := by
  have d1 : decide (0 < n) = true := by simpa using h1
  have d2 : decide (n ≤ 64) = false := by simpa using h2
  go_enter Try.func29, Try.ntmps29
  go_wp2_with fail
  refine (may_any w v _ hv).mono ?_
  rw [hm]
  rintro e W1 ⟨rfl, hb⟩
  obtain ⟨⟨hA0, hA1, _, _, hl⟩, hR, hW1⟩ := two_box hb
  go_wp2_with fail
  refine (made_any false 0 0 _ (by omega)).mono ?_
  rintro e W3 ⟨rfl, hb3⟩
  obtain ⟨hr0, hr1, hf0, hf1, hrl⟩ := hR.later hb3
  go_wp2
  refine bodyPost_ret (v := .tuple #[.agg #[.int .i64 0, .int .u64 0], .int .i64 1]) ?_ rfl ⟨rfl, ?_⟩
  · simp [results, Try.results29, go_sem, hr0, hr1, hf0, hf1, madeW, madeV, errE]
  · exact bin_end hW1 hb3 (by omega) _ _

set_option maxHeartbeats 1000000 in
theorem ext_ooo (op w n : Int) (v : Nat) (hm : mayB w v = true) (h1 : 0 < n) (h2 : n ≤ 64) (h31 : (op == 31) = false) (h32 : (op == 32) = false) (h33 : (op == 33) = false) (W : World) (hv : v < 18446744073709551616) :
    Calls Try.prog 29 #[.int .i64 op, .int .i64 n, .agg #[.int .i64 w, .int .u64 v]] W fun e W' => e = Tup 0 0 1 ∧ Below W.heap.size W W' := by
  have d1 : decide (0 < n) = true := by simpa using h1
  have d2 : decide (n ≤ 64) = true := by simpa using h2
  go_enter Try.func29, Try.ntmps29
  go_wp2_with fail
  refine (may_any w v _ hv).mono ?_
  rw [hm]
  rintro e W1 ⟨rfl, hb⟩
  obtain ⟨⟨hA0, hA1, _, _, hl⟩, hR, hW1⟩ := two_box hb
  go_wp2_with fail
  refine (made_any false 0 0 _ (by omega)).mono ?_
  rintro e W3 ⟨rfl, hb3⟩
  obtain ⟨hr0, hr1, hf0, hf1, hrl⟩ := hR.later hb3
  go_wp2
  refine bodyPost_ret (v := .tuple #[.agg #[.int .i64 0, .int .u64 0], .int .i64 1]) ?_ rfl ⟨rfl, ?_⟩
  · simp [results, Try.results29, go_sem, hr0, hr1, hf0, hf1, madeW, madeV, errE]
  · exact bin_end hW1 hb3 (by omega) _ _

end Go.Proofs.Ytafhnkhcbfilaaa
