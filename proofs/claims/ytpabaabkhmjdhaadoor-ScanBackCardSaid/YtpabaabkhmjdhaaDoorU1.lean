/- Numerals to base 16. -/
import Derived.Test.YtpabaabkhmjdhaaDoorV9
namespace Go.Proofs.YtpabaabkhmjdhaaDoor
open Go.RowKit Go.Proofs.Scn Go.Flow Go.Sort
set_option linter.unusedVariables false
set_option linter.unusedSimpArgs false
set_option maxRecDepth 100000

theorem pow2_16 (W : World) : Calls Tryd.prog 96 #[.int .i64 16] W fun e W' => e = .returned (.bool true) ∧ W = W' := by
  go_enter Tryd.func96, Tryd.ntmps96
  go_wp2
  go_ret
  exact ⟨rfl, rfl⟩

theorem tz_16 (W : World) (hB : Base W) : Calls Tryd.prog 97 #[.int .u64 16] W fun e W' => e = .returned (.int .i64 4) ∧ W = W' := by
  refine Calls.mono (Any7.bits_TrailingZeros Tryd.lays7n27 16 (by decide) W (fun _ => hB.tz)) ?_
  rintro e w' h
  exact ⟨h.1.trans (by rw [show Lib.ctz 64 16 = 4 from by decide]; rfl), h.2.symm⟩

theorem and15 (n : Nat) (h : n < 18446744073709551616) : bits BinOp.and IntKind.u64 (n : Int) 15 = ((n % 16 : Nat) : Int) := by
  have := bits_and_u64_nat n 15 h (by omega)
  rw [show n &&& 15 = n % 16 from Nat.and_two_pow_sub_one_eq_mod n 4] at this
  exact this
/-- the digits of a number's text -/
def dig16 (n : Nat) : UInt8 := UInt8.ofNat (if n < 10 then 48 + n else 87 + n)

theorem lit_dig : ∀ d (h : d < 36), d < 16 → (ByteArray.mk #[48, 49, 50, 51, 52, 53, 54, 55, 56, 57, 97, 98, 99, 100, 101, 102, 103, 104, 105, 106, 107, 108, 109, 110, 111, 112, 113, 114, 115, 116, 117, 118, 119, 120, 121, 122])[d] = dig16 d := by decide
theorem digL_16 (n : Nat) (h : 16 ≤ n) : digL 16 n = digL 16 (n / 16) ++ [dig16 (n % 16)] := digL_ge (by omega)
theorem digL_1 (n : Nat) (h : n < 16) : digL 16 n = [dig16 n] := digL_lt (.inl h)

set_option maxHeartbeats 8000000 in
theorem bits16 (v : Nat) (hv : v < 18446744073709551616) (W : World) (hB : Base W) :
    Calls Tryd.prog 88 #[.slice none 0 0, .int .u64 v, .int .i64 16, .bool false, .bool false] W fun e W' => e = .returned (.tuple #[.slice none 0 0, .string (bs (digL 16 v))]) ∧ Below W.heap.size W W' := by
  have kp := pow2_16
  have kt := tz_16
  have KP := Lib.hid kp
  have KT := Lib.hid kt
  have HBase := Lib.hid hB
  clear kp kt hB
  have hzero : Hex (W.alloc (.cells (Array.replicate 65 (.int .u8 0)) 101)) W.heap.size 65 [] := ⟨⟨Array.replicate 65 (.int .u8 0), heap_alloc_new _ _, by simp⟩, rfl, fun j hj => by simp at hj⟩
  have hW : Below W.heap.size W (W.alloc (.cells (Array.replicate 65 (.int .u8 0)) 101)) := (Below.refl _ _).alloc (Nat.le_refl _) _
  have HZ := Lib.hid hzero
  have HW := Lib.hid hW
  clear hzero hW
  go_enter Tryd.func88, Tryd.ntmps88
  go_wp2_with fail
  refine (KP.out _).mono ?_
  rintro e w' ⟨rfl, rfl⟩
  go_wp2_with fail
  refine (KT.out _ (HBase.out.alloc _)).mono ?_
  rintro e w' ⟨rfl, rfl⟩
  go_wp2_with fail
  go_loopw [1, 13] (fun u i wr => ∃ (n k : Nat) (R : List UInt8), u = .int .u64 n ∧ i = .int .i64 k ∧ n ≤ v ∧ R.length ≤ 15 ∧ k + R.length = 65 ∧ Hid (n * 16 ^ R.length ≤ v) ∧ Hid (digL 16 v = digL 16 n ++ R) ∧ Hid (Hex wr W.heap.size k R) ∧ Hid (Below W.heap.size W wr)) (fun u _ _ => (intOf u).toNat)
  case atStart => exact ⟨v, 65, [], rfl, rfl, Nat.le_refl _, by simp, rfl, Lib.hid (by simp), Lib.hid (by simp), HZ, HW⟩
  case round =>
    obtain ⟨n, k, R, rfl, rfl, hn, hR, hk, HV, HD, HX, HB⟩ := hrel
    by_cases hlt : 16 ≤ n
    · have hlt' : (16 : Int) ≤ (n : Int) := by omega
      obtain ⟨j, rfl⟩ : ∃ j, k = j + 1 := ⟨k - 1, by omega⟩
      have hs : ((j + 1 : Nat) : Int) - 1 = (j : Int) := by omega
      obtain ⟨x, hx⟩ := HX.out.cell j (by omega)
      have hf := HX.out.free j
      have hand := and15 n (by omega)
      have hd16 : n % 16 < 16 := Nat.mod_lt _ (by omega)
      have hdig := digL_16 n hlt
      generalize n % 16 = d at hand hd16 hdig
      have hd36 : d < 36 := by omega
      have hlit := lit_dig d hd36 hd16
      have hval : n / 16 * 16 ^ (R.length + 1) ≤ v := by
        have h1 := Nat.div_mul_le_self n 16
        have h2 := Nat.mul_le_mul_right (16 ^ R.length) h1
        rw [Nat.pow_succ, Nat.mul_comm (16 ^ R.length) 16, ← Nat.mul_assoc]
        exact Nat.le_trans h2 HV.out
      have hlen : R.length + 1 ≤ 15 := by
        have h1 := Nat.mul_le_mul_right (16 ^ R.length) hlt
        have h2 := Nat.le_trans h1 HV.out
        rcases Nat.lt_or_ge R.length 15 with h3 | h3
        · omega
        · have h4 : (16 : Nat) ^ 15 ≤ 16 ^ R.length := Nat.pow_le_pow_right (by omega) h3
          have h5 : (16 : Nat) ^ 15 = 1152921504606846976 := by decide
          omega
      have HDig := Lib.hid (show digL 16 v = digL 16 (n / 16) ++ (dig16 d :: R) by rw [HD.out, hdig, List.append_assoc]; rfl)
      have HVal := Lib.hid hval
      have HP := HX.out.push (dig16 d)
      have HBel := Lib.hid (show Below W.heap.size W (wr.setCell ⟨W.heap.size, j, none⟩ (.int .u8 (dig16 d).toNat)) from HB.out.setCell (Nat.le_refl _) _)
      have HPush := Lib.hid HP
      clear hval hdig HP
      have hdiv : n / 16 < n := by omega
      have hq : ((n : Int) / 16) = ((n / 16 : Nat) : Int) := by omega
      generalize n / 16 = n' at *
      go_wp2_with fail
      go_roundw
      case rel => exact ⟨n', j, dig16 d :: R, rfl, rfl, by omega, by simp; omega, by simp; omega, HVal, HDig, HPush, HBel⟩
      case measure => simp [intOf]; omega
    · have hlt' : ¬ (16 : Int) ≤ (n : Int) := by omega
      obtain ⟨j, rfl⟩ : ∃ j, k = j + 1 := ⟨k - 1, by omega⟩
      have hs : ((j + 1 : Nat) : Int) - 1 = (j : Int) := by omega
      obtain ⟨x, hx⟩ := HX.out.cell j (by omega)
      have hf := HX.out.free j
      have hn36 : n < 36 := by omega
      have hlit := lit_dig n hn36 (by omega)
      have hP := HX.out.push (dig16 n)
      have hBel := (show Below W.heap.size W (wr.setCell ⟨W.heap.size, j, none⟩ (.int .u8 (dig16 n).toNat)) from HB.out.setCell (Nat.le_refl _) _)
      have hdig : digL 16 v = dig16 n :: R := by rw [HD.out, digL_1 n (by omega)]; rfl
      have hconv := str_run (hP.bytes (65 - j))
      have HDig := Lib.hid hdig
      have HBel := Lib.hid hBel
      have hjl : (dig16 n :: R).length = 65 - j := by have := hP.room; omega
      rw [hjl] at hconv
      have hsl : ∀ w, (Instr.sliceAt 101 (.pointer (some ⟨W.heap.size, 0, none⟩)) (some (.int .i64 (j : Int))) none none).run Tryd.prog w = .ok (.slice (some ⟨W.heap.size, j, none⟩) (65 - j) (65 - j)) w := fun w => by
        rw [run_sliceAt_array_l w 101 ⟨W.heap.size, 0, none⟩ (by kernel_rfl) .i64 (j : Int) (by omega) (by rw [show Tryd.prog.arrayLen 101 = 65 from by kernel_rfl]; omega)]
        go_simp
        omega
      clear hBel hdig hP hjl
      go_wp2
      refine bodyPost_ret (v := .tuple #[.slice none 0 0, .string (bs (dig16 n :: R))]) ?_ rfl ⟨by rw [HDig.out], HBel.out⟩
      simp [results, Tryd.results88, go_sem]

set_option maxHeartbeats 1000000 in
theorem fmt16_in (v : Nat) (hv : v < 18446744073709551616) (W : World) (hB : Base W) :
    Calls Tryd.prog 72 #[.int .u64 v, .int .i64 16] W fun e W' => e = .returned (.string (bs (digL 16 v))) ∧ Below W.heap.size W W' := by
  have K := Lib.hid (bits16 v hv W hB)
  clear hB
  go_enter Tryd.func72, Tryd.ntmps72
  go_wp2_with fail
  refine K.out.mono ?_
  rintro e w' ⟨rfl, hb⟩
  go_wp2
  go_ret
  exact ⟨rfl, hb⟩

set_option maxHeartbeats 1000000 in
theorem fmt16_any (v : Nat) (hv : v < 18446744073709551616) (W : World) (hB : Base W) :
    Calls Tryd.prog 59 #[.int .u64 v, .int .i64 16] W fun e W' => e = .returned (.string (bs (digL 16 v))) ∧ Below W.heap.size W W' := by
  have K := Lib.hid (fmt16_in v hv W hB)
  clear hB
  go_enter Tryd.func59, Tryd.ntmps59
  go_wp2_with fail
  refine K.out.mono ?_
  rintro e w' ⟨rfl, hb⟩
  go_wp2
  go_ret
  exact ⟨rfl, hb⟩

set_option maxHeartbeats 1000000 in
theorem fmtd_any (v : Nat) (hv : v < 18446744073709551616) (W : World) (hB : Base W) :
    Calls Tryd.prog 59 #[.int .u64 v, .int .i64 10] W fun e W' => e = .returned (.string (bs (digL 10 v))) ∧ Below W.heap.size W W' := by
  have K := Lib.hid (fmt10_any v hv W hB)
  clear hB
  go_enter Tryd.func59, Tryd.ntmps59
  go_wp2_with fail
  refine K.out.mono ?_
  rintro e w' ⟨rfl, hb⟩
  go_wp2
  go_ret
  exact ⟨rfl, hb⟩

end Go.Proofs.YtpabaabkhmjdhaaDoor
