/- Numerals to base 10 and 16. -/
import Derived.Test.YtpabaabkhmjdhaaDoorV8
import Derived.Shelf.Strconv.Itoa3
import Derived.Shelf.Spec.TrailingZeros
import Derived.Lib.AppendIntMem
namespace Go.Proofs.YtpabaabkhmjdhaaDoor
open Go.RowKit Go.Proofs.Scn Go.Flow Go.Sort
set_option linter.unusedVariables false
set_option linter.unusedSimpArgs false
set_option maxRecDepth 100000

theorem dec_dig (n : Nat) : Lib.decDigits n = digL 10 n := by
  induction n using Nat.strongRecOn with
  | _ n ih =>
    rw [Lib.decDigits]
    split
    · rename_i h
      rw [digL_lt (.inl h), if_pos h]
    · rename_i h
      rw [digL_ge (by omega), ih (n / 10) (by omega), if_pos (by omega)]

set_option maxHeartbeats 1000000 in
theorem fmt10_small (u : Nat) (h : u < 100) (W : World) :
    Calls Tryd.prog 72 #[.int .u64 u, .int .i64 10] W fun e W' => e = .returned (.string (bs (digL 10 u))) ∧ W = W' := by
  have hs := fun w => (Tryd.internal_strconv_small u h w)
  rw [dec_dig] at hs
  have HS := Lib.hid hs
  clear hs
  go_enter Tryd.func72, Tryd.ntmps72
  go_wp2_with fail
  refine (HS.out _).mono ?_
  rintro e w' ⟨rfl, rfl⟩
  go_wp2
  go_ret
  exact ⟨rfl, rfl⟩

set_option maxHeartbeats 4000000 in
theorem fmt10_big (u : Nat) (h100 : 100 ≤ u) (hu64 : u < 18446744073709551616) (W : World) (hB : Base W) :
    Calls Tryd.prog 72 #[.int .u64 u, .int .i64 10] W fun e W' => e = .returned (.string (bs (digL 10 u))) ∧ Below W.heap.size W W' := by
  have hu1 : 1 ≤ u := by omega
  have hnd20 : Lib.nDigits u ≤ 20 := by have := Lib.numDigits_eq u hu1 hu64; split at this <;> omega
  have hsl : ∀ w, (Instr.sliceAt 86 (.pointer (some ⟨W.heap.size, 0, none⟩)) none (some (.int .i64 (Lib.nDigits u : Int))) none).run Tryd.prog w = .ok (.slice (some ⟨W.heap.size, 0, none⟩) (Lib.nDigits u) 24) w := fun w => by
    rw [run_sliceAt_array_h w 86 ⟨W.heap.size, 0, none⟩ (by kernel_rfl) .i64 (Lib.nDigits u : Int) (by omega) (by rw [show Tryd.prog.arrayLen 86 = 24 from by kernel_rfl]; omega)]
    go_simp
  have hH0 : Holds (fun (b : UInt8) => Value.int .u8 (b.toNat : Int)) (W.alloc (.cells Lib.zeros24 86)) W.heap.size 0 (Array.replicate (Lib.nDigits u) (0 : UInt8)) := fun j hj => by
    have hj' : j < Lib.nDigits u := by simpa using hj
    refine ⟨?_, World.frozen?_alloc_new _ _ _ _⟩
    rw [World.cell?_alloc_new, Lib.zeros24_at _ (by omega), getElem!_pos _ j hj]
    simp
  have hfmt := Tryd.internal_strconv_formatBase10 W.heap.size 0 24 u (Array.replicate (Lib.nDigits u) 0) (W.alloc (.cells Lib.zeros24 86)) hH0 (by rw [Array.size_replicate]; exact Lib.lt_pow_nDigits u) hu64 (by rw [Array.size_replicate]; omega)
  rw [Array.size_replicate] at hfmt
  have hnd := Tryd.internal_strconv_numDigits u hu1 hu64 (W.alloc (.cells Lib.zeros24 86)) (Lib.tabIs_alloc hB.pow _)
  have HH0 := Lib.hid hH0
  have HF := Lib.hid hfmt
  have HN := Lib.hid hnd
  clear hH0 hB hfmt hnd
  go_enter Tryd.func72, Tryd.ntmps72
  go_wp2_with fail
  refine HN.out.mono ?_
  rintro e w' ⟨rfl, rfl⟩
  go_wp2_with fail
  refine HF.out.mono ?_
  rintro e w' ⟨rfl, k, v', dk, rfl, hF⟩
  have hcv : (convert 22 9 (.slice (some ⟨W.heap.size, 0, none⟩) (Lib.nDigits u) 24)).run Tryd.prog ((putRow (fun (b : UInt8) => Value.int .u8 (b.toNat : Int)) (W.alloc (.cells Lib.zeros24 86)) W.heap.size 0 dk).drewN k) = .ok (.string (bs (digL 10 u))) ((putRow (fun (b : UInt8) => Value.int .u8 (b.toNat : Int)) (W.alloc (.cells Lib.zeros24 86)) W.heap.size 0 dk).drewN k) := by
    have h := run_convert_bytes_back (P := Tryd.prog) ((putRow (fun (b : UInt8) => Value.int .u8 (b.toNat : Int)) (W.alloc (.cells Lib.zeros24 86)) W.heap.size 0 dk).drewN k) 22 9 5 ⟨W.heap.size, 0, none⟩ 24 (Lib.decDigits u) (by kernel_rfl) (by kernel_rfl) (by kernel_rfl) (fun j hj => by
      rw [Lib.row_is_numeral hF j hj, Lib.add_plain, World.cell?_drewN]
      exact cell?_putRow (fun (b : UInt8) => Value.int .u8 (b.toNat : Int)) _ W.heap.size 0 _ dk HH0.out (by rw [hF.size, Array.size_replicate]) j (by rw [hF.size]; rw [Lib.decDigits_length] at hj; exact hj))
    rw [Lib.decDigits_length, dec_dig] at h
    exact h
  go_wp2
  go_ret
  obtain ⟨os, eo⟩ : ∃ os, (putRow (fun (b : UInt8) => Value.int .u8 (b.toNat : Int)) (W.alloc (.cells Lib.zeros24 86)) W.heap.size 0 dk).drewN k = grow (W.drewN k) os := by
    rw [alloc_eq_grow]
    obtain ⟨os', _, e⟩ := putRow_grow_new (fun (b : UInt8) => Value.int .u8 (b.toNat : Int)) W #[.cells Lib.zeros24 86] W.heap.size 0 dk (Nat.le_refl _)
    exact ⟨os', by rw [e]; rfl⟩
  rw [eo]
  exact ⟨rfl, Go.Lib.below_grow _ _ (Nat.le_refl _) _ _⟩

theorem fmt10_any (u : Nat) (hu64 : u < 18446744073709551616) (W : World) (hB : Base W) :
    Calls Tryd.prog 72 #[.int .u64 u, .int .i64 10] W fun e W' => e = .returned (.string (bs (digL 10 u))) ∧ Below W.heap.size W W' := by
  by_cases h : u < 100
  · exact (fmt10_small u h W).mono fun e W' h => ⟨h.1, h.2 ▸ Below.refl _ _⟩
  · exact fmt10_big u (by omega) hu64 W hB

/-- the array of bytes, from a place on -/
structure Hex (w : World) (m i : Nat) (R : List UInt8) : Prop where
  block : ∃ cur, w.heap[m]? = some (.cells cur 101 (0, 0)) ∧ cur.size = 65
  room : i + R.length = 65
  byte : ∀ j (h : j < R.length), w.cell? ⟨m, i + j, none⟩ = some (.int .u8 R[j].toNat)
theorem Hex.cell {w : World} {m i : Nat} {R : List UInt8} (h : Hex w m i R) (j : Nat) (hj : j < 65) : ∃ x, w.cell? ⟨m, j, none⟩ = some x := by
  obtain ⟨cur, hc, hs⟩ := h.block
  exact ⟨cur[j], by rw [cell_of_row w m j cur _ _ hc]; exact Array.getElem?_eq_getElem (by omega)⟩
theorem Hex.free {w : World} {m i : Nat} {R : List UInt8} (h : Hex w m i R) (j : Nat) : w.frozen? ⟨m, j, none⟩ = false := by
  obtain ⟨cur, hc, hs⟩ := h.block
  simp [World.frozen?, hc]
theorem Hex.push {w : World} {m i : Nat} {R : List UInt8} (h : Hex w m (i + 1) R) (c : UInt8) : Hex (w.setCell ⟨m, i, none⟩ (.int .u8 c.toNat)) m i (c :: R) := by
  obtain ⟨cur, hc, hs⟩ := h.block
  obtain ⟨x, hx⟩ := h.cell i (by have := h.room; omega)
  refine ⟨?_, by have := h.room; simp; omega, fun j hj => ?_⟩
  · exact ⟨cur.setIfInBounds i (.int .u8 c.toNat), by simp [World.setCell, Array.getElem?_modify, hc], by simp [hs]⟩
  · cases j with
    | zero => exact World.cell?_setCell_same _ _ _ hx
    | succ j =>
      rw [World.cell?_setCell_other _ _ _ _ (by simp), show i + (j + 1) = i + 1 + j from by omega]
      exact h.byte j (by simpa using hj)
theorem Hex.later {w w' : World} {m i : Nat} {R : List UInt8} (h : Hex w m i R) (hb : Below w.heap.size w w') : Hex w' m i R := by
  obtain ⟨cur, hc, hs⟩ := h.block
  have hlt := (Array.getElem?_eq_some_iff.1 hc).1
  exact ⟨⟨cur, (hb.block m hlt).trans hc, hs⟩, h.room, fun j hj => (hb.cell (p := ⟨m, i + j, none⟩) hlt).trans (h.byte j hj)⟩
theorem Hex.bytes {w : World} {m i : Nat} {R : List UInt8} (h : Hex w m i R) (c : Nat) : Bytes w (.slice (some ⟨m, i, none⟩) R.length c) (bs R) := by
  obtain ⟨cur, hc, hs⟩ := h.block
  exact .inr ⟨m, i, c, rfl, (Array.getElem?_eq_some_iff.1 hc).1, fun k hk => h.byte k hk⟩

end Go.Proofs.YtpabaabkhmjdhaaDoor
