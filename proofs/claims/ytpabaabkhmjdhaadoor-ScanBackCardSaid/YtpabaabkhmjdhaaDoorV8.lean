/- Are tokens alike? -/
import Derived.Test.YtpabaabkhmjdhaaDoorV7
namespace Go.Proofs.YtpabaabkhmjdhaaDoor
open Go.RowKit Go.Proofs.Scn Go.Flow Go.Sort
set_option linter.unusedVariables false
set_option linter.unusedSimpArgs false
set_option maxRecDepth 100000

/-- a token's cells from a place on -/
structure TokAt (w : World) (b o : Nat) (t : Tok) : Prop where
  c0 : w.cell? ⟨b, o, none⟩ = some (.int .i64 t.k)
  c1 : w.cell? ⟨b, o + 1, none⟩ = some (.string (bs t.s))
  c2 : w.cell? ⟨b, o + 2, none⟩ = some (.int .i64 t.w)
  c3 : w.cell? ⟨b, o + 3, none⟩ = some (.int .u64 t.v)
  c4 : w.cell? ⟨b, o + 4, none⟩ = some (.int .i64 t.p)
theorem TokAt.later {w w' : World} {b o : Nat} {t : Tok} (h : TokAt w b o t) (hlt : b < w.heap.size) (hb : Below w.heap.size w w') : TokAt w' b o t :=
  ⟨(hb.cell (p := ⟨b, o, none⟩) hlt).trans h.c0, (hb.cell (p := ⟨b, o + 1, none⟩) hlt).trans h.c1, (hb.cell (p := ⟨b, o + 2, none⟩) hlt).trans h.c2, (hb.cell (p := ⟨b, o + 3, none⟩) hlt).trans h.c3, (hb.cell (p := ⟨b, o + 4, none⟩) hlt).trans h.c4⟩
/-- a slice of tokens that can be read -/
def Toks (w : World) (v : Value) (ts : List Tok) : Prop :=
  (ts = [] ∧ ∃ p cap, v = .slice p 0 cap) ∨
  ∃ b off cap, v = .slice (some ⟨b, off, none⟩) ts.length cap ∧ b < w.heap.size ∧ ∀ k (h : k < ts.length), TokAt w b (off + k * 5) ts[k]
theorem Toks.later {w w' : World} {v : Value} {ts : List Tok} (h : Toks w v ts) (hb : Below w.heap.size w w') : Toks w' v ts := by
  rcases h with h | ⟨b, off, cap, hv, hlt, hc⟩
  · exact .inl h
  · exact .inr ⟨b, off, cap, hv, Nat.lt_of_lt_of_le hlt hb.size, fun k hk => (hc k hk).later hlt hb⟩
theorem cellsTs_at (ts : List Tok) (k j : Nat) (h : k < ts.length) (hj : j < 5) : (cellsTs ts)[k * 5 + j]? = (cellsT ts[k])[j]? := by
  induction ts generalizing k with
  | nil => simp at h
  | cons t ts ih =>
    rw [cellsTs, List.flatMap_cons]
    have hl : (cellsT t).length = 5 := rfl
    match k with
    | 0 => rw [List.getElem?_append_left (by rw [hl]; omega), Nat.zero_mul, Nat.zero_add]; rfl
    | k + 1 =>
      rw [List.getElem?_append_right (by rw [hl]; omega), hl, show (k + 1) * 5 + j - 5 = k * 5 + j from by omega]
      exact ih k (by simpa using h)
theorem OwnT.toks {B : Nat} {w : World} {v : Value} {ts : List Tok} (h : OwnT B w v ts) : Toks w v ts := by
  rcases h.2 with ⟨rfl, h0⟩ | ⟨g, cap, cur, rfl, hB, hg, hn, hc, hs, ht⟩
  · exact .inl ⟨List.eq_nil_of_length_eq_zero h0, _, _, rfl⟩
  · refine .inr ⟨g, 0, cap, rfl, (Array.getElem?_eq_some_iff.1 hg).1, fun k hk => ?_⟩
    have key : ∀ j, j < 5 → w.cell? ⟨g, 0 + k * 5 + j, none⟩ = (cellsT ts[k])[j]? := by
      intro j hj
      rw [← cellsTs_at ts k j hk hj, ← ht, List.getElem?_take, if_pos (by omega), Nat.zero_add, cell_of_row w g (k * 5 + j) cur _ (0, 0) hg]
      simp
    exact ⟨key 0 (by omega), key 1 (by omega), key 2 (by omega), key 3 (by omega), key 4 (by omega)⟩

set_option maxHeartbeats 1000000 in
theorem equal_len (p1 p2 : Option Addr) (l1 l2 c1 c2 : Nat) (h : l1 ≠ l2) (W : World) :
    Calls Tryd.prog 16 #[.slice p1 l1 c1, .slice p2 l2 c2] W fun e W' => e = .returned (.bool false) ∧ Below W.heap.size W W' := by
  have hh : ¬ (l1 : Int) = (l2 : Int) := by omega
  go_enter Tryd.func16, Tryd.ntmps16
  go_wp2
  go_ret
  exact ⟨rfl, Below.refl _ _⟩

theorem tok_neq (x y : Tok) (w : World) : (binOp .neq 32 (.agg #[.int .i64 x.k, .string (bs x.s), .int .i64 x.w, .int .u64 x.v, .int .i64 x.p]) (.agg #[.int .i64 y.k, .string (bs y.s), .int .i64 y.w, .int .u64 y.v, .int .i64 y.p])).run Tryd.prog w = .ok (.bool (!decide (x = y))) w := by
  rw [run_neq_struct]
  simp [go_sem]
  rw [toList_eq, toList_eq, list_bs, list_bs]
  obtain ⟨k, s, w1, v, p⟩ := x
  obtain ⟨k', s', w1', v', p'⟩ := y
  simp only [Tok.mk.injEq]
  by_cases h1 : k = k'
  · by_cases h2 : s = s'
    · by_cases h3 : w1 = w1'
      · by_cases h4 : v = v'
        · by_cases h5 : p = p'
          · simp [h1, h2, h3, h4, h5]
          · simp [h1, h2, h3, h4, h5]
        · have : ¬ (v : Int) = (v' : Int) := by omega
          simp [h1, h2, h3, h4, this]
      · simp [h1, h2, h3]
    · simp [h1, h2]
  · simp [h1]

set_option maxHeartbeats 4000000 in
theorem equal_some (b1 o1 c1 b2 o2 c2 : Nat) (xs ys : List Tok) (hl : xs.length = ys.length) (hxl : xs.length ≤ 140737488351232) (W : World)
    (hx : ∀ k (h : k < xs.length), TokAt W b1 (o1 + k * 5) xs[k]) (hy : ∀ k (h : k < ys.length), TokAt W b2 (o2 + k * 5) ys[k]) (hb1 : b1 < W.heap.size) (hb2 : b2 < W.heap.size) :
    Calls Tryd.prog 16 #[.slice (some ⟨b1, o1, none⟩) xs.length c1, .slice (some ⟨b2, o2, none⟩) ys.length c2] W fun e W' => e = .returned (.bool (decide (xs = ys))) ∧ Below W.heap.size W W' := by
  have HX := Lib.hid hx
  have HY := Lib.hid hy
  have hll : (xs.length : Int) = (ys.length : Int) := by omega
  have HLL := Lib.hid hl
  clear hx hy hl
  go_enter Tryd.func16, Tryd.ntmps16
  go_wp2
  go_loopw [5] (fun i wr => ∃ k : Nat, k ≤ xs.length ∧ i = .int .i64 k ∧ Hid (Below W.heap.size W wr) ∧ Hid (xs.take k = ys.take k)) (fun i _ => xs.length - (intOf i).toNat)
  case atStart => exact ⟨0, Nat.zero_le _, rfl, Lib.hid (Below.refl _ _), Lib.hid rfl⟩
  case round =>
    obtain ⟨k, hk, rfl, HB, HE⟩ := hrel
    by_cases hlt : k < xs.length
    · have hly : k < ys.length := by omega
      have hX := (HX.out k hlt).later hb1 HB.out
      have hY := (HY.out k hly).later hb2 HB.out
      obtain ⟨x0, x1, x2, x3, x4⟩ := hX
      obtain ⟨y0, y1, y2, y3, y4⟩ := hY
      have hE : decide (xs[k] = ys[k]) = true → xs.take (k + 1) = ys.take (k + 1) := by
        intro he
        rw [List.take_succ_eq_append_getElem hlt, List.take_succ_eq_append_getElem hly, HE.out, of_decide_eq_true he]
      have hF : decide (xs[k] = ys[k]) = false → ¬ xs = ys := by
        intro he hxy
        subst hxy
        simp at he
      have hneq := tok_neq xs[k] ys[k]
      generalize xs[k] = x at *
      generalize ys[k] = y at *
      cases hxy : decide (x = y)
      · rw [hxy] at hneq
        have HF := Lib.hid (hF hxy)
        clear hE hF hxy
        go_wp2_with fail
        go_quiet (fail)
        go_wp2_with fail
        go_ret
        exact ⟨by rw [decide_eq_false HF.out]; rfl, below_drewN HB.out _⟩
      · rw [hxy] at hneq
        have HF := Lib.hid (hE hxy)
        clear hE hF hxy
        go_wp2_with fail
        go_quiet (fail)
        go_wp2_with fail
        go_roundw
        case rel => exact ⟨k + 1, by omega, by go_num, Lib.hid (below_drewN HB.out _), HF⟩
        case measure => simp [intOf]; omega
    · have hge : ¬ k < ys.length := by omega
      have hxy : xs = ys := by
        have := HE.out
        rwa [List.take_of_length_le (by omega), List.take_of_length_le (by omega)] at this
      have HXY := Lib.hid hxy
      clear hxy
      go_wp2_with fail
      go_ret
      exact ⟨by rw [decide_eq_true HXY.out]; rfl, HB.out⟩

set_option maxHeartbeats 1000000 in
theorem equal_empty (p1 p2 : Option Addr) (c1 c2 : Nat) (W : World) :
    Calls Tryd.prog 16 #[.slice p1 0 c1, .slice p2 0 c2] W fun e W' => e = .returned (.bool true) ∧ Below W.heap.size W W' := by
  go_enter Tryd.func16, Tryd.ntmps16
  go_wp2
  refine wp_loop_rounds 1 ?_
  rw [rounds_succ]
  go_wp2
  go_ret
  exact ⟨rfl, Below.refl _ _⟩

theorem Toks.form {w : World} {v : Value} {ts : List Tok} (h : Toks w v ts) : ∃ p c, v = .slice p ts.length c := by
  rcases h with ⟨rfl, p, c, rfl⟩ | ⟨b, o, c, rfl, _⟩
  · exact ⟨_, _, rfl⟩
  · exact ⟨_, _, rfl⟩

theorem equal_any (v1 v2 : Value) (xs ys : List Tok) (hxl : xs.length ≤ 140737488351232) (W : World) (h1 : Toks W v1 xs) (h2 : Toks W v2 ys) :
    Calls Tryd.prog 16 #[v1, v2] W fun e W' => e = .returned (.bool (decide (xs = ys))) ∧ Below W.heap.size W W' := by
  by_cases hl : xs.length = ys.length
  · by_cases h0 : xs.length = 0
    · obtain ⟨p1, c1, rfl⟩ := h1.form
      obtain ⟨p2, c2, rfl⟩ := h2.form
      have hx : xs = [] := List.eq_nil_of_length_eq_zero h0
      have hy : ys = [] := List.eq_nil_of_length_eq_zero (by omega)
      subst hx
      subst hy
      exact equal_empty p1 p2 c1 c2 W
    · rcases h1 with ⟨rfl, _⟩ | ⟨b1, o1, c1, rfl, hb1, hc1⟩
      · simp at h0
      rcases h2 with ⟨rfl, _⟩ | ⟨b2, o2, c2, rfl, hb2, hc2⟩
      · simp at hl; simp [hl] at h0
      exact equal_some b1 o1 c1 b2 o2 c2 xs ys hl hxl W hc1 hc2 hb1 hb2
  · obtain ⟨p1, c1, rfl⟩ := h1.form
    obtain ⟨p2, c2, rfl⟩ := h2.form
    rw [decide_eq_false (fun h => hl (by rw [h]))]
    exact equal_len p1 p2 _ _ c1 c2 hl W

end Go.Proofs.YtpabaabkhmjdhaaDoor
