/- Are tokens alike, but for their places? -/
import Derived.Test.YtpabaabkhmjdhaaDoorV8
import Derived.Test.YtpabaabkhmjdhaaDoorP2
namespace Go.Proofs.YtpabaabkhmjdhaaDoor
open Go.RowKit Go.Proofs.Scn Go.Flow Go.Sort
set_option linter.unusedVariables false
set_option linter.unusedSimpArgs false
set_option maxRecDepth 100000

set_option maxHeartbeats 1000000 in
theorem same_len (p1 p2 : Option Addr) (l1 l2 c1 c2 : Nat) (h : l1 ≠ l2) (W : World) :
    Calls Tryd.prog 24 #[.slice p1 l1 c1, .slice p2 l2 c2] W fun e W' => e = .returned (.bool false) ∧ Below W.heap.size W W' := by
  have hh : ¬ (l1 : Int) = (l2 : Int) := by omega
  go_enter Tryd.func24, Tryd.ntmps24
  go_wp2
  go_ret
  exact ⟨rfl, Below.refl _ _⟩

set_option maxHeartbeats 1000000 in
theorem same_empty (p1 p2 : Option Addr) (c1 c2 : Nat) (W : World) :
    Calls Tryd.prog 24 #[.slice p1 0 c1, .slice p2 0 c2] W fun e W' => e = .returned (.bool true) ∧ Below W.heap.size W W' := by
  go_enter Tryd.func24, Tryd.ntmps24
  go_wp2
  refine wp_loop_rounds 1 ?_
  rw [rounds_succ]
  go_wp2
  go_ret
  exact ⟨rfl, Below.refl _ _⟩

set_option maxHeartbeats 8000000 in
theorem same_some (b1 o1 c1 b2 o2 c2 : Nat) (xs ys : List Tok) (hl : xs.length = ys.length) (hxl : xs.length ≤ 140737488351232) (W : World)
    (hx : ∀ k (h : k < xs.length), TokAt W b1 (o1 + k * 5) xs[k]) (hy : ∀ k (h : k < ys.length), TokAt W b2 (o2 + k * 5) ys[k]) (hb1 : b1 < W.heap.size) (hb2 : b2 < W.heap.size) :
    Calls Tryd.prog 24 #[.slice (some ⟨b1, o1, none⟩) xs.length c1, .slice (some ⟨b2, o2, none⟩) ys.length c2] W fun e W' => e = .returned (.bool (decide (xs.map at0 = ys.map at0))) ∧ Below W.heap.size W W' := by
  have HX := Lib.hid hx
  have HY := Lib.hid hy
  have hll : (xs.length : Int) = (ys.length : Int) := by omega
  have HLL := Lib.hid hl
  clear hx hy hl
  go_enter Tryd.func24, Tryd.ntmps24
  go_wp2
  go_loopw [5] (fun i wr => ∃ k : Nat, k ≤ xs.length ∧ i = .int .i64 k ∧ Hid (Below W.heap.size W wr) ∧ Hid ((xs.take k).map at0 = (ys.take k).map at0)) (fun i _ => xs.length - (intOf i).toNat)
  case atStart => exact ⟨0, Nat.zero_le _, rfl, Lib.hid (Below.refl _ _), Lib.hid rfl⟩
  case round =>
    obtain ⟨k, hk, rfl, HB, HE⟩ := hrel
    by_cases hlt : k < xs.length
    · have hly : k < ys.length := by omega
      have hX := (HX.out k hlt).later hb1 HB.out
      have hY := (HY.out k hly).later hb2 HB.out
      obtain ⟨x0, x1, x2, x3, x4⟩ := hX
      obtain ⟨y0, y1, y2, y3, y4⟩ := hY
      have hE : at0 xs[k] = at0 ys[k] → (xs.take (k + 1)).map at0 = (ys.take (k + 1)).map at0 := by
        intro he
        rw [List.take_succ_eq_append_getElem hlt, List.take_succ_eq_append_getElem hly, List.map_append, List.map_append, HE.out, List.map_cons, List.map_cons, he]
      have hF : ¬ at0 xs[k] = at0 ys[k] → ¬ xs.map at0 = ys.map at0 := by
        intro he hxy
        apply he
        have := congrArg (·[k]?) hxy
        simpa [hlt, hly] using this
      generalize xs[k] = x at *
      generalize ys[k] = y at *
      have w1 : b1 < wr.heap.size := Nat.lt_of_lt_of_le hb1 HB.out.size
      have w2 : b2 < wr.heap.size := Nat.lt_of_lt_of_le hb2 HB.out.size
      have w3 : ¬ b1 = wr.heap.size := by omega
      have w4 : ¬ b2 = wr.heap.size := by omega
      have w5 : ¬ b1 = wr.heap.size + 1 := by omega
      have w6 : ¬ b2 = wr.heap.size + 1 := by omega
      have bl : ∀ (o o' : Obj) (m : Nat), Below W.heap.size W (((wr.alloc o).alloc o').drewN m) := fun o o' m => below_drewN ((HB.out.alloc HB.out.size o).alloc (Nat.le_trans HB.out.size (by simp)) o') m
      have hxs : (bs x.s).toList = x.s := by rw [toList_eq, list_bs]
      have hys : (bs y.s).toList = y.s := by rw [toList_eq, list_bs]
      have HBL := Lib.hid bl
      clear bl
      by_cases a1 : x.k = y.k
      · by_cases a2 : x.s = y.s
        · by_cases a3 : x.w = y.w
          · by_cases a4 : (x.v : Int) = (y.v : Int)
            · have a4' : x.v = y.v := by omega
              have HF := Lib.hid (hE (by simp [at0, a1, a2, a3, a4']))
              clear hE hF a4'
              go_wp2_with fail
              go_region
              all_goals
                go_wp2_with fail
                go_roundw
                case rel => exact ⟨k + 1, by omega, by go_num, Lib.hid (HBL.out _ _ _), HF⟩
                case measure => simp [intOf]; omega
            · have HF := Lib.hid (hF (by simp [at0]; intro _ _ _ h; exact absurd (by omega) a4))
              clear hE hF
              go_wp2_with fail
              go_region
              all_goals
                go_wp2_with fail
                go_ret
                exact ⟨by rw [decide_eq_false HF.out]; rfl, HBL.out _ _ _⟩
          · have HF := Lib.hid (hF (by simp [at0]; intro _ _ h; exact absurd h a3))
            clear hE hF
            go_wp2_with fail
            go_region
            all_goals
              go_wp2_with fail
              go_ret
              exact ⟨by rw [decide_eq_false HF.out]; rfl, HBL.out _ _ _⟩
        · have HF := Lib.hid (hF (by simp [at0]; intro _ h; exact absurd h a2))
          have a2' : ¬ (bs x.s).toList = (bs y.s).toList := by rw [hxs, hys]; exact a2
          clear hE hF hxs hys
          go_wp2_with fail
          go_region
          all_goals
            go_wp2_with fail
            go_ret
            exact ⟨by rw [decide_eq_false HF.out]; rfl, HBL.out _ _ _⟩
      · have HF := Lib.hid (hF (by simp [at0]; intro h; exact absurd h a1))
        clear hE hF
        go_wp2_with fail
        go_region
        all_goals
          go_wp2_with fail
          go_ret
          exact ⟨by rw [decide_eq_false HF.out]; rfl, HBL.out _ _ _⟩
    · have hge : ¬ k < ys.length := by omega
      have hxy : xs.map at0 = ys.map at0 := by
        have := HE.out
        rwa [List.take_of_length_le (by omega), List.take_of_length_le (by omega)] at this
      have HXY := Lib.hid hxy
      clear hxy
      go_wp2_with fail
      go_ret
      exact ⟨by rw [decide_eq_true HXY.out]; rfl, HB.out⟩

theorem same_any (v1 v2 : Value) (xs ys : List Tok) (hxl : xs.length ≤ 140737488351232) (W : World) (h1 : Toks W v1 xs) (h2 : Toks W v2 ys) :
    Calls Tryd.prog 24 #[v1, v2] W fun e W' => e = .returned (.bool (decide (xs.map at0 = ys.map at0))) ∧ Below W.heap.size W W' := by
  by_cases hl : xs.length = ys.length
  · by_cases h0 : xs.length = 0
    · obtain ⟨p1, c1, rfl⟩ := h1.form
      obtain ⟨p2, c2, rfl⟩ := h2.form
      have hx : xs = [] := List.eq_nil_of_length_eq_zero h0
      have hy : ys = [] := List.eq_nil_of_length_eq_zero (by omega)
      subst hx
      subst hy
      exact same_empty p1 p2 c1 c2 W
    · rcases h1 with ⟨rfl, _⟩ | ⟨b1, o1, c1, rfl, hb1, hc1⟩
      · simp at h0
      rcases h2 with ⟨rfl, _⟩ | ⟨b2, o2, c2, rfl, hb2, hc2⟩
      · simp at hl; simp [hl] at h0
      exact same_some b1 o1 c1 b2 o2 c2 xs ys hl hxl W hc1 hc2 hb1 hb2
  · obtain ⟨p1, c1, rfl⟩ := h1.form
    obtain ⟨p2, c2, rfl⟩ := h2.form
    rw [decide_eq_false (fun h => hl (by have := congrArg List.length h; simpa using this))]
    exact same_len p1 p2 _ _ c1 c2 hl W

end Go.Proofs.YtpabaabkhmjdhaaDoor
