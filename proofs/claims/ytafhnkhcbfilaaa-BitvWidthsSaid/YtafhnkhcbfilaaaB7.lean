/- bitv.Cat. -/
import Derived.Test.YtafhnkhcbfilaaaB6
import Derived.Test.YtafhnkhcbfilaaaR3
namespace Go.Proofs.Ytafhnkhcbfilaaa
open Go.RowKit Go.Flow
set_option linter.unusedVariables false
set_option linter.unusedSimpArgs false
set_option maxRecDepth 100000

theorem Box.set0 {w : World} {n : Nat} {a b : Value} (h : Box w n a b) (x : Value) : Box (w.setCell ⟨n, 0, none⟩ x) n x b := by
  obtain ⟨h0, h1, f0, f1, hl⟩ := h
  exact ⟨by simp [go_sem, h0], by simp [go_sem, h1], by simp [go_sem, f0], by simp [go_sem, f1], by simpa [World.setCell] using hl⟩
theorem Box.set1 {w : World} {n : Nat} {a b : Value} (h : Box w n a b) (x : Value) : Box (w.setCell ⟨n, 1, none⟩ x) n a x := by
  obtain ⟨h0, h1, f0, f1, hl⟩ := h
  exact ⟨by simp [go_sem, h0], by simp [go_sem, h1], by simp [go_sem, f0], by simp [go_sem, f1], by simpa [World.setCell] using hl⟩
theorem Box.drewN {w : World} {n : Nat} {a b : Value} (h : Box w n a b) (m : Nat) : Box (w.drewN m) n a b := h.later (below_drewN (Below.refl _ _) _)

def catW (l : List (Int × Nat)) : Int := (l.map (·.1)).foldl (· + ·) 0
def catV (l : List (Int × Nat)) : Nat := l.foldl (fun v x => upN v x.1.toNat ||| x.2) 0

theorem catW_snoc (l : List (Int × Nat)) (k : Nat) (x : Int × Nat) (h : l[k]? = some x) : catW (l.take (k + 1)) = catW (l.take k) + x.1 := by
  rw [List.take_add_one, h]
  simp [catW]
theorem catV_snoc (l : List (Int × Nat)) (k : Nat) (x : Int × Nat) (h : l[k]? = some x) : catV (l.take (k + 1)) = upN (catV (l.take k)) x.1.toNat ||| x.2 := by
  rw [List.take_add_one, h]
  simp [catV]

theorem catW_nonneg (l : List (Int × Nat)) (h : (l.all fun x => mayB x.1 x.2) = true) : 0 ≤ catW l := by
  unfold catW
  have : ∀ (l : List (Int × Nat)) (s : Int), 0 ≤ s → (l.all fun x => mayB x.1 x.2) = true → 0 ≤ (l.map (·.1)).foldl (· + ·) s := by
    intro l
    induction l with
    | nil => intro s hs _; exact hs
    | cons x l ih =>
      intro s hs hl
      simp only [List.all_cons, Bool.and_eq_true] at hl
      have := mayB_pos hl.1
      exact ih _ (show 0 ≤ s + x.1 by omega) hl.2
  exact this l 0 (by omega) h

theorem catV_lt (l : List (Int × Nat)) (h : ∀ x ∈ l, x.2 < 18446744073709551616) : catV l < 18446744073709551616 := by
  unfold catV
  have : ∀ (l : List (Int × Nat)) (s : Nat), s < 18446744073709551616 → (∀ x ∈ l, x.2 < 18446744073709551616) → l.foldl (fun v x => upN v x.1.toNat ||| x.2) s < 18446744073709551616 := by
    intro l
    induction l with
    | nil => intro s hs _; exact hs
    | cons x l ih =>
      intro s hs hl
      exact ih _ (Nat.or_lt_two_pow (n := 64) (upN_lt _ _) (hl x (by simp))) (fun y hy => hl y (by simp [hy]))
  exact this l 0 (by omega) h

theorem catW_mono (l : List (Int × Nat)) (h : (l.all fun x => mayB x.1 x.2) = true) : ∀ d k, k + d = l.length → catW (l.take k) ≤ catW l
  | 0, k, e => by rw [List.take_of_length_le (by omega)]; exact Int.le_refl _
  | d + 1, k, e => by
    obtain ⟨x, hx⟩ : ∃ x, l[k]? = some x := ⟨_, List.getElem?_eq_getElem (by omega)⟩
    have h1 := catW_mono l h d (k + 1) (by omega)
    rw [catW_snoc l k x hx] at h1
    have := mayB_pos (List.all_eq_true.1 h x (List.mem_of_getElem? hx))
    omega

def catE (l : List (Int × Nat)) : Int := if l.isEmpty || !(l.all fun x => mayB x.1 x.2) then 1 else if catW l ≤ 64 then 0 else 2

def CatPost (l : List (Int × Nat)) (W : World) (e : Ending) (W' : World) : Prop :=
  e = Tup (if catE l = 0 then catW l else 0) (if catE l = 0 then catV l else 0) (catE l) ∧ Below W.heap.size W W'

set_option maxHeartbeats 1000000 in
theorem cat_nil (W : World) : Calls Try.prog 22 #[.slice none 0 0] W (CatPost [] W) := by
  go_enter Try.func22, Try.ntmps22
  go_wp2
  refine bodyPost_ret (v := .tuple #[.agg #[.int .i64 0, .int .u64 0], .int .i64 1]) ?_ rfl ⟨rfl, (Below.refl _ _).alloc (Nat.le_refl _) _⟩
  simp [results, Try.results22, go_sem]

set_option maxHeartbeats 1000000 in
theorem cat_empty (a : Addr) (cap : Nat) (W : World) : Calls Try.prog 22 #[.slice (some a) 0 cap] W (CatPost [] W) := by
  go_enter Try.func22, Try.ntmps22
  go_wp2
  refine bodyPost_ret (v := .tuple #[.agg #[.int .i64 0, .int .u64 0], .int .i64 1]) ?_ rfl ⟨rfl, (Below.refl _ _).alloc (Nat.le_refl _) _⟩
  simp [results, Try.results22, go_sem]

set_option maxHeartbeats 1000000 in
theorem cat_no (b off cap : Nat) (l : List (Int × Nat)) (W : World) (hl : BitsAt W b off l) (hb : b < W.heap.size) (hlen : l.length ≤ 1000) (h0 : 0 < l.length) (hall : (l.all fun x => mayB x.1 x.2) = false) :
    Calls Try.prog 22 #[.slice (some ⟨b, off, none⟩) l.length cap] W (CatPost l W) := by
  have hne : ((l.length : Int) == 0) = false := by simp; intro h; rw [h] at h0; simp at h0
  have hBW : Below W.heap.size W (W.alloc (.cells #[.int .i64 0, .int .u64 0] 24)) := (Below.refl _ _).alloc (Nat.le_refl _) _
  go_enter Try.func22, Try.ntmps22
  go_wp2_with fail
  refine (all_any b off cap l _ (hl.later hb hBW) (by simp; omega) (by omega)).mono ?_
  rw [hall]
  rintro e W1 ⟨rfl, hb1⟩
  obtain ⟨r0, r1, rf0, rf1, rl⟩ := (Box.new W (.int .i64 0) (.int .u64 0) 24).later hb1
  have hW1 : Below W.heap.size W W1 := hBW.trans (hb1.mono (by simp))
  have he : catE l = 1 := by simp [catE, hall]
  have he' := Lib.hid he
  clear he hall
  go_wp2
  refine bodyPost_ret (v := .tuple #[.agg #[.int .i64 0, .int .u64 0], .int .i64 1]) ?_ rfl ⟨by rw [he'.out]; rfl, (hW1.setCell (by simp) _).setCell (by simp) _⟩
  simp [results, Try.results22, go_sem, r0, r1, rf0, rf1]

set_option maxHeartbeats 1000000 in
theorem cat_yes (b off cap : Nat) (l : List (Int × Nat)) (W : World) (hl : BitsAt W b off l) (hb : b < W.heap.size) (hlen : l.length ≤ 1000) (h0 : 0 < l.length) (hall : (l.all fun x => mayB x.1 x.2) = true) :
    Calls Try.prog 22 #[.slice (some ⟨b, off, none⟩) l.length cap] W (CatPost l W) := by
  have hne : ((l.length : Int) == 0) = false := by simp; intro h; rw [h] at h0; simp at h0
  have hBW : Below W.heap.size W (W.alloc (.cells #[.int .i64 0, .int .u64 0] 24)) := (Below.refl _ _).alloc (Nat.le_refl _) _
  go_enter Try.func22, Try.ntmps22
  go_wp2_with fail
  refine (all_any b off cap l _ (hl.later hb hBW) (by simp; omega) (by omega)).mono ?_
  rw [hall]
  rintro e W1 ⟨rfl, hb1⟩
  have hR := (Box.new W (.int .i64 0) (.int .u64 0) 24).later hb1
  have hW1 : Below W.heap.size W W1 := hBW.trans (hb1.mono (by simp))
  have hall' := Lib.hid hall
  clear hall
  go_wp2_with fail
  go_loopw [17] (fun i wr => ∃ k : Nat, k ≤ l.length ∧ i = .int .i64 k ∧ catW (l.take k) ≤ 64 ∧ Box wr W.heap.size (.int .i64 (catW (l.take k))) (.int .u64 (catV (l.take k))) ∧ Below W.heap.size W wr) (fun i _ => l.length - (intOf i).toNat)
  case atStart => exact ⟨0, by omega, rfl, by simp [catW], by simpa [catW, catV] using hR, hW1⟩
  case round =>
    obtain ⟨k, hk, rfl, h64, hbox, hbel⟩ := hrel
    by_cases hlt : k < l.length
    · obtain ⟨x, hx⟩ : ∃ x, l[k]? = some x := ⟨_, List.getElem?_eq_getElem hlt⟩
      obtain ⟨c0, c1, c2⟩ := hl.later hb hbel k x hx
      obtain ⟨r0, r1, rf0, rf1, rl⟩ := hbox
      have hmx : mayB x.1 x.2 = true := List.all_eq_true.1 hall'.out x (List.mem_of_getElem? hx)
      have htk : ((l.take k).all fun x => mayB x.1 x.2) = true := List.all_eq_true.2 fun y hy => List.all_eq_true.1 hall'.out y (List.mem_of_mem_take hy)
      have hs0 := catW_nonneg _ htk
      have hv0 : catV (l.take k) < 18446744073709551616 := catV_lt _ fun y hy => by
        obtain ⟨q, _, _, q64, hq, _⟩ := mayB_true (List.all_eq_true.1 htk y hy)
        exact Nat.lt_of_lt_of_le hq (pow_le64 q q64)
      have hsn := Lib.hid (catW_snoc l k x hx)
      have hvn := Lib.hid (catV_snoc l k x hx)
      obtain ⟨c, v⟩ := x
      obtain ⟨q, hq, q0, q64, _⟩ := mayB_true hmx
      dsimp only at hq
      subst hq
      dsimp only at c0 c1 c2 hsn hvn
      have hx' := Lib.hid hx
      clear hx hmx htk
      generalize catW (l.take k) = s at *
      generalize catV (l.take k) = z at *
      have q0' : (0 : Int) < (q : Int) := by omega
      have q64' : (q : Int) ≤ 64 := by omega
      by_cases hsum : s + q ≤ 64
      · have u1 := shl_walk z q
        have u2 : IntKind.u64.wrap ((z : Int) * 2 ^ q) = ((upN z q : Nat) : Int) := by rw [← u1, show min q 64 = q by omega]
        have u3 := u64_or_nat (upN z q) v (upN_lt _ _) c2
        go_wp2_with fail
        refine wp_region_reads_tail 9 (by kernel_rfl) (by kernel_rfl) ?_
        simp only [List.take_succ_cons, List.take_zero, List.drop_succ_cons, List.drop_zero]
        repeat (quiet_step (fail))
        refine wpQuiet_nil ?_
        intro _ hw'
        obtain ⟨nq, hw''⟩ := hw'
        subst hw''
        go_wp2
        go_roundw
        case rel =>
          refine ⟨k + 1, by omega, by go_num, by rw [hsn.out]; exact hsum, ?_, ((((hbel.setCell (by simp) _).alloc (by simp [World.setCell]; omega) _).trans (below_drewN (Below.refl _ _) _)).setCell (by simp) _)⟩
          rw [hsn.out, hvn.out]
          exact ((((Box.mk r0 r1 rf0 rf1 rl).set0 _).alloc _).drewN nq).set1 _
        case measure => simp [intOf]; omega
      · have hsum' : 64 < s + (q : Int) := by omega
        go_wp2
        have hwide : ¬ catW l ≤ 64 := by
          have := catW_mono l hall'.out (l.length - (k + 1)) (k + 1) (by omega)
          rw [hsn.out] at this
          omega
        have he : catE l = 2 := by
          have h1 : l.isEmpty = false := by cases l <;> simp_all
          simp [catE, hall'.out, h1, hwide]
        refine bodyPost_ret (v := .tuple #[.agg #[.int .i64 0, .int .u64 0], .int .i64 2]) ?_ rfl ⟨by rw [he]; rfl, ?_⟩
        · obtain ⟨g0, g1, _, _, _⟩ := ((((Box.mk r0 r1 rf0 rf1 rl).set0 (.int .i64 (s + q))).set0 (.int .i64 0)).set1 (.int .u64 0)).alloc (.cells #[.int .i64 q, .int .u64 v] 24)
          simp [results, Try.results22, go_sem, g0, g1]
        · exact ((((hbel.setCell (by simp) _).setCell (by simp) _).setCell (by simp) _).alloc (by simp [World.setCell]; omega) _)
    · obtain rfl : k = l.length := by omega
      rw [List.take_length] at h64 hbox
      obtain ⟨r0, r1, rf0, rf1, rl⟩ := hbox
      have he : catE l = 0 := by
        have h1 : l.isEmpty = false := by cases l <;> simp_all
        simp [catE, hall'.out, h1, h64]
      have he' := Lib.hid he
      clear he
      go_wp2
      refine bodyPost_ret (v := .tuple #[.agg #[.int .i64 (catW l), .int .u64 (catV l)], .int .i64 0]) ?_ rfl ⟨by rw [he'.out]; rfl, ?_⟩
      · simp [results, Try.results22, go_sem, r0, r1, rf0, rf1]
      · exact (hbel.setCell (by simp) _).setCell (by simp) _
end Go.Proofs.Ytafhnkhcbfilaaa
