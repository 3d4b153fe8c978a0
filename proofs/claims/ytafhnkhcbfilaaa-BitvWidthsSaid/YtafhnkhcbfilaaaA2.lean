/- bits.OnesCount64, the reference's odd, up and down; the operations of one, of both. -/
import Derived.Test.YtafhnkhcbfilaaaA1
import Derived.Test.YtafhnkhcbfilaaaP3
namespace Go.Proofs.Ytafhnkhcbfilaaa
open Go.RowKit
set_option linter.unusedVariables false
set_option linter.unusedSimpArgs false

set_option maxHeartbeats 400000 in
theorem onesCount_walk (v x1 x2 a y1 y2 b z c d e f g : Nat) (W : World)
    (E1 : bits .and .u64 ((v : Int) / 2) 6148914691236517205 = (x1 : Int)) (E2 : bits .and .u64 (v : Int) 6148914691236517205 = (x2 : Int))
    (E3 : IntKind.u64.wrap ((x1 : Int) + (x2 : Int)) = (a : Int))
    (E4 : bits .and .u64 ((a : Int) / 4) 3689348814741910323 = (y1 : Int)) (E5 : bits .and .u64 (a : Int) 3689348814741910323 = (y2 : Int))
    (E6 : IntKind.u64.wrap ((y1 : Int) + (y2 : Int)) = (b : Int)) (E7 : IntKind.u64.wrap ((b : Int) / 16 + (b : Int)) = (z : Int))
    (E8 : bits .and .u64 (z : Int) 1085102592571150095 = (c : Int)) (E9 : IntKind.u64.wrap ((c : Int) + (c : Int) / 256) = (d : Int))
    (E10 : IntKind.u64.wrap ((d : Int) + (d : Int) / 65536) = (e : Int)) (E11 : IntKind.u64.wrap ((e : Int) + (e : Int) / 4294967296) = (f : Int))
    (E12 : IntKind.i64.wrap (f : Int) = (f : Int)) (E13 : bits .and .i64 (f : Int) 127 = (g : Int)) :
    Calls Try.prog 34 #[.int .u64 v] W fun e W' => e = .returned (.int .i64 g) ∧ W = W' := by
  go_enter Try.func34, Try.ntmps34
  go_wp2
  go_ret
  exact ⟨rfl, rfl⟩

theorem onesCount_any (v : Nat) (W : World) (hv : v < 18446744073709551616) :
    Calls Try.prog 34 #[.int .u64 v] W fun e W' => e = .returned (.int .i64 (ones 64 v : Nat)) ∧ W = W' := by
  obtain ⟨x1, x2, a, y1, y2, b, z, c, d, e, f, E1, E2, E3, E4, E5, E6, E7, E8, E9, E10, E11, E12, E13⟩ := swar_parts v hv
  exact onesCount_walk v x1 x2 a y1 y2 b z c d e f _ W E1 E2 E3 E4 E5 E6 E7 E8 E9 E10 E11 E12 E13

set_option maxHeartbeats 400000 in
theorem up_any (v n : Nat) (W : World) :
    Calls Try.prog 41 #[.int .u64 v, .int .u64 n] W fun e W' => e = .returned (.int .u64 (upN v n : Nat)) ∧ W = W' := by
  by_cases h : 63 < n
  · have e0 : upN v n = 0 := by rw [upN, if_pos h]
    rw [e0]
    go_enter Try.func41, Try.ntmps41
    go_wp2
    go_ret
    exact ⟨rfl, rfl⟩
  · rw [← up_walk v n h]
    go_enter Try.func41, Try.ntmps41
    go_wp2
    go_ret
    exact ⟨rfl, rfl⟩

set_option maxHeartbeats 400000 in
theorem down_any (v n : Nat) (W : World) :
    Calls Try.prog 42 #[.int .u64 v, .int .u64 n] W fun e W' => e = .returned (.int .u64 (downN v n : Nat)) ∧ W = W' := by
  by_cases h : 63 < n
  · have e0 : downN v n = 0 := by rw [downN, if_pos h]
    rw [e0]
    go_enter Try.func42, Try.ntmps42
    go_wp2
    go_ret
    exact ⟨rfl, rfl⟩
  · rw [← down_walk v n h]
    go_enter Try.func42, Try.ntmps42
    go_wp2
    go_ret
    exact ⟨rfl, rfl⟩

set_option maxHeartbeats 400000 in
theorem odd_any (v : Nat) (W : World) (hv : v < 18446744073709551616) :
    Calls Try.prog 36 #[.int .u64 v] W fun e W' => e = .returned (.bool (oddN 64 v)) ∧ W = W' := by
  go_enter Try.func36, Try.ntmps36
  go_wp2
  go_loop [3, 4] (fun t i => ∃ k : Nat, k ≤ 64 ∧ i = .int .i64 k ∧ t = .bool (oddN k v)) (fun _ i => 64 - (intOf i).toNat)
  case atStart => exact ⟨0, by omega, rfl, rfl⟩
  case round =>
    obtain ⟨k, hk, rfl, rfl⟩ := hrel
    by_cases hlt : k < 64
    · have hs := Lib.hid (oddN_snoc k v)
      have hb := bit_walk v k hv
      by_cases hbit : v / 2 ^ k % 2 = 1
      · have ht : (bits .and .u64 ((v : Int) / 2 ^ k) 1 == 1) = true := by rw [hb, hbit]; rfl
        have hbit' := Lib.hid hbit
        clear hb hbit
        go_wp2
        go_round
        case rel => exact ⟨k + 1, by omega, by go_num, by rw [hs.out, if_pos hbit'.out]⟩
        case measure => simp [intOf]; omega
      · have ht : (bits .and .u64 ((v : Int) / 2 ^ k) 1 == 1) = false := by
          rw [hb, show v / 2 ^ k % 2 = 0 by omega]; rfl
        have hbit' := Lib.hid hbit
        clear hb hbit
        go_wp2
        go_round
        case rel => exact ⟨k + 1, by omega, by go_num, by rw [hs.out, if_neg hbit'.out]⟩
        case measure => simp [intOf]; omega
    · obtain rfl : k = 64 := by omega
      go_wp2
      go_ret
      exact ⟨rfl, rfl⟩


/-- a box of two cells, made by the call, that can be read and written -/
structure Box (w : World) (n : Nat) (a b : Value) : Prop where
  c0 : w.cell? ⟨n, 0, none⟩ = some a
  c1 : w.cell? ⟨n, 1, none⟩ = some b
  f0 : w.frozen? ⟨n, 0, none⟩ = false
  f1 : w.frozen? ⟨n, 1, none⟩ = false
  lt : n < w.heap.size

theorem Box.new (w : World) (a b : Value) (t : TypeId) : Box (w.alloc (.cells #[a, b] t)) w.heap.size a b :=
  ⟨by simp [World.cell?_alloc_new], by simp [World.cell?_alloc_new], by simp [go_sem], by simp [go_sem], by simp⟩

theorem Box.later {w w' : World} {n : Nat} {a b : Value} (h : Box w n a b) (hb : Below w.heap.size w w') : Box w' n a b :=
  ⟨(hb.cell (p := ⟨n, 0, none⟩) h.lt).trans h.c0, (hb.cell (p := ⟨n, 1, none⟩) h.lt).trans h.c1, (hb.frozen (p := ⟨n, 0, none⟩) h.lt).trans h.f0, (hb.frozen (p := ⟨n, 1, none⟩) h.lt).trans h.f1, Nat.lt_of_lt_of_le h.lt hb.size⟩

theorem Box.alloc {w : World} {n : Nat} {a b : Value} (h : Box w n a b) (o : Obj) : Box (w.alloc o) n a b := h.later ((Below.refl _ _).alloc (Nat.le_refl _) _)

/-- a row of values, as it lies in memory -/
def BitsAt (w : World) (b off : Nat) (l : List (Int × Nat)) : Prop :=
  ∀ i x, l[i]? = some x → w.cell? ⟨b, off + i * 2, none⟩ = some (.int .i64 x.1) ∧ w.cell? ⟨b, off + i * 2 + 1, none⟩ = some (.int .u64 x.2) ∧ x.2 < 18446744073709551616

theorem BitsAt.later {w w' : World} {b off : Nat} {l : List (Int × Nat)} (h : BitsAt w b off l) (hb : b < w.heap.size) (hw : Below w.heap.size w w') : BitsAt w' b off l :=
  fun i x hx => ⟨(hw.cell (p := ⟨b, _, none⟩) hb).trans (h i x hx).1, (hw.cell (p := ⟨b, _, none⟩) hb).trans (h i x hx).2.1, (h i x hx).2.2⟩

set_option maxHeartbeats 1000000 in
theorem all_any (b off cap : Nat) (l : List (Int × Nat)) (W : World) (hl : BitsAt W b off l) (hb : b < W.heap.size) (hlen : l.length ≤ 4611686018427387904) :
    Calls Try.prog 39 #[.func (.func 31) #[] #[], .slice (some ⟨b, off, none⟩) l.length cap] W fun e W' => e = .returned (.bool (l.all fun x => mayB x.1 x.2)) ∧ Below W.heap.size W W' := by
  go_enter Try.func39, Try.ntmps39
  go_wp2
  go_loopw [9] (fun i wr => ∃ k : Nat, k ≤ l.length ∧ i = .int .i64 k ∧ (∀ j x, j < k → l[j]? = some x → mayB x.1 x.2 = true) ∧ Below W.heap.size W wr) (fun i _ => l.length - (intOf i).toNat)
  case atStart => exact ⟨0, by omega, rfl, fun j x h => by omega, Below.refl _ _⟩
  case round =>
    obtain ⟨k, hk, rfl, hall, hbel⟩ := hrel
    by_cases hlt : k < l.length
    · obtain ⟨x, hx⟩ : ∃ x, l[k]? = some x := ⟨_, List.getElem?_eq_getElem hlt⟩
      have hh := hl.later hb hbel k x hx
      obtain ⟨h0, h1, h2⟩ := hh
      have hx' := Lib.hid hx
      have hall' := Lib.hid hall
      clear hx hall
      go_wp2_with fail
      refine (may_any x.1 x.2 _ h2).mono ?_
      rintro e W2 ⟨rfl, hb2⟩
      cases hm : mayB x.1 x.2
      · go_wp2
        go_ret
        have : (l.all fun x => mayB x.1 x.2) = false := by
          rw [List.all_eq_false]
          exact ⟨x, List.mem_of_getElem? hx'.out, by simp [hm]⟩
        exact ⟨ret_bool this.symm, (hbel.alloc hbel.size _).trans (hb2.mono (by have := hbel.size; simp; omega))⟩
      · go_wp2
        go_roundw
        case rel =>
          refine ⟨k + 1, by omega, by go_num, fun j y hj hy => ?_, (hbel.alloc hbel.size _).trans (hb2.mono (by have := hbel.size; simp; omega))⟩
          rcases (by omega : j < k ∨ j = k) with h | rfl
          · exact hall'.out j y h hy
          · have := hx'.out
            rw [hy] at this
            cases this
            exact hm
        case measure => simp [intOf]; omega
    · obtain rfl : k = l.length := by omega
      have : (l.all fun x => mayB x.1 x.2) = true := by
        rw [List.all_eq_true]
        intro x hx
        obtain ⟨j, hj, rfl⟩ := List.getElem_of_mem hx
        exact hall j _ hj (List.getElem?_eq_getElem hj)
      go_wp2
      go_ret
      exact ⟨ret_bool this.symm, hbel⟩
end Go.Proofs.Ytafhnkhcbfilaaa
