/- The law that holds bitv.Cat against its reference: the walk. -/
import Derived.Test.YtafhnkhcbfilaaaD1
namespace Go.Proofs.Ytafhnkhcbfilaaa
open Go.RowKit Go.Flow Go.Sort
set_option linter.unusedVariables false
set_option linter.unusedSimpArgs false
set_option maxRecDepth 100000

/-- what comes in: nothing, or a row of values -/
def SliceIn (W : World) (v : Value) : Prop :=
  v = .slice none 0 0 ∨ ∃ (x : Addr) (l c : Nat), v = .slice (some x) l c ∧ l ≤ c ∧ c ≤ maxLen ∧
    ∀ i, i < c → ∃ (w : Int) (n : Nat), W.cell? (x.add (i * 2)) = some (.int .i64 w) ∧ W.cell? (x.add (i * 2 + 1)) = some (.int .u64 n) ∧ n < 18446744073709551616

theorem add_plain (b off n : Nat) : (⟨b, off, none⟩ : Addr).add n = ⟨b, off + n, none⟩ := by
  unfold Addr.add
  split <;> simp_all

theorem bits_list (W : World) (b off : Nat) : ∀ n : Nat,
    (∀ i, i < n → ∃ (w : Int) (v : Nat), W.cell? ⟨b, off + i * 2, none⟩ = some (.int .i64 w) ∧ W.cell? ⟨b, off + i * 2 + 1, none⟩ = some (.int .u64 v) ∧ v < 18446744073709551616) →
    ∃ l : List (Int × Nat), l.length = n ∧ BitsAt W b off l
  | 0, _ => ⟨[], rfl, fun i x hx => by simp at hx⟩
  | n + 1, h => by
    obtain ⟨l, hl, hb⟩ := bits_list W b off n (fun i hi => h i (by omega))
    obtain ⟨w, v, h0, h1, hv⟩ := h n (by omega)
    refine ⟨l ++ [(w, v)], by simp [hl], fun i x hx => ?_⟩
    rcases Nat.lt_or_ge i l.length with hi | hi
    · rw [List.getElem?_append_left hi] at hx
      exact hb i x hx
    · rw [List.getElem?_append_right hi] at hx
      have hi0 : i - l.length = 0 := by
        rcases Nat.eq_zero_or_pos (i - l.length) with e | e
        · exact e
        · rw [List.getElem?_eq_none (by simp; omega)] at hx
          cases hx
      rw [hi0] at hx
      cases hx
      obtain rfl : i = n := by omega
      exact ⟨h0, h1, hv⟩

set_option maxHeartbeats 4000000 in
theorem cats_core (a : Option Addr) (len cap : Nat) (W : World) (hlen : len ≤ 200) (zw : Int) (zv : Nat) (ze : Int)
    (k1' : ∀ W', Below W.heap.size W W' → Calls Try.prog 22 #[.slice a len cap] W' fun x W2 => x = Tup zw zv ze ∧ Below W'.heap.size W' W2)
    (k2' : ∀ W', Below W.heap.size W W' → Calls Try.prog 23 #[.slice a len cap] W' fun x W2 => x = Tup zw zv ze ∧ Below W'.heap.size W' W2) :
    Calls Try.prog 5 #[.slice a len cap] W fun e W' => e = .returned (.bool true) ∧ Below W.heap.size W W' := by
  have hg : ¬ (200 : Int) < (len : Int) := by omega
  have hg2 : (len : Int) ≤ 200 := by omega
  have k1 := Lib.hid k1'
  have k2 := Lib.hid k2'
  clear k1' k2'
  go_enter Try.func5, Try.ntmps5
  go_wp2_with fail
  refine Calls.mono (live_any _) ?_
  rintro e W0 ⟨rfl, hW⟩
  go_wp2_with fail
  refine Calls.mono (k1 _ hW) ?_
  rintro e W1 ⟨rfl, h1⟩
  replace hW := hW.trans (h1.mono hW.size)
  clear h1
  have X := Box.new W1 (.int .i64 zw) (.int .u64 zv) 24
  replace hW := hW.alloc hW.size (.cells #[.int .i64 zw, .int .u64 zv] 24)
  go_wp2_with fail
  refine Calls.mono (k2 _ hW) ?_
  rintro e W2 ⟨rfl, h2⟩
  replace X := (X.later h2).alloc (.cells #[.int .i64 zw, .int .u64 zv] 24)
  have Y := Box.new W2 (.int .i64 zw) (.int .u64 zv) 24
  replace hW := hW.trans (h2.mono hW.size)
  replace hW := hW.alloc hW.size (.cells #[.int .i64 zw, .int .u64 zv] 24)
  clear h2
  obtain ⟨x0, x1, _, _, _⟩ := X
  obtain ⟨y0, y1, _, _, _⟩ := Y
  go_wp2
  go_ret
  exact ⟨rfl, hW⟩

set_option maxHeartbeats 1000000 in
theorem cats_long (a : Option Addr) (len cap : Nat) (W : World) (hlen : 200 < len) :
    Calls Try.prog 5 #[.slice a len cap] W fun e W' => e = .returned (.bool true) ∧ Below W.heap.size W W' := by
  have hg : (200 : Int) < (len : Int) := by omega
  go_enter Try.func5, Try.ntmps5
  go_wp2_with fail
  refine Calls.mono (live_any _) ?_
  rintro e W0 ⟨rfl, hW⟩
  go_wp2
  go_ret
  exact ⟨rfl, hW⟩

theorem law_cats (v : Value) (W : World) (h : SliceIn W v) :
    Calls Try.prog 5 #[v] W fun e W' => e = .returned (.bool true) ∧ Below W.heap.size W W' := by
  rcases h with rfl | ⟨x, l, c, rfl, hl, hc, hx⟩
  · exact cats_core none 0 0 W (by omega) _ _ _ (fun W' _ => cat_nil W') (fun W' _ => refCat_nil W')
  · by_cases hz : l = 0
    · subst hz
      exact cats_core (some x) 0 c W (by omega) _ _ _ (fun W' _ => cat_empty x c W') (fun W' _ => refCat_empty x c W')
    by_cases h2 : 200 < l
    · exact cats_long (some x) l c W h2
    obtain ⟨b, off, spot⟩ := x
    obtain ⟨w0, v0, c0, _, _⟩ := hx 0 (by omega)
    have hspot : spot = none := by simpa [Addr.add] using World.cell?_spot c0
    subst hspot
    have hb : b < W.heap.size := World.block_lt_of_cell? W _ c0
    obtain ⟨L, hL, hB⟩ := bits_list W b off l (fun i hi => by
      obtain ⟨w, n, a0, a1, hn⟩ := hx i (by omega)
      rw [add_plain] at a0 a1
      exact ⟨w, n, a0, a1, hn⟩)
    subst hL
    refine cats_core (some ⟨b, off, none⟩) L.length c W (by omega) _ _ _ (fun W' hW => ?_) (fun W' hW => refCat_some b off c L W' (hB.later hb hW) (Nat.lt_of_lt_of_le hb hW.size) (by omega) (by omega))
    by_cases hall : (L.all fun x => mayB x.1 x.2) = true
    · exact cat_yes b off c L W' (hB.later hb hW) (Nat.lt_of_lt_of_le hb hW.size) (by omega) (by omega) hall
    · exact cat_no b off c L W' (hB.later hb hW) (Nat.lt_of_lt_of_le hb hW.size) (by omega) (by omega) (by simpa using hall)

end Go.Proofs.Ytafhnkhcbfilaaa
