/- A number's figures, so many at least. -/
import Derived.Test.YtpabaabkhmjdhaaDoorT2
namespace Go.Proofs.YtpabaabkhmjdhaaDoor
open Go.RowKit Go.Proofs.Scn Go.Flow Go.Sort
set_option linter.unusedVariables false
set_option linter.unusedSimpArgs false
set_option maxRecDepth 100000

def hexU : ByteArray := ⟨#[48, 49, 50, 51, 52, 53, 54, 55, 56, 57, 65, 66, 67, 68, 69, 70]⟩
theorem ext_fig (d : Nat) (hd : d < 16) : hexU.extract d (d + 1) = bs [figU d] := by
  rw [extract_bs]
  congr 1
  exact (show ∀ d : Fin 16, (hexU.data.toList.take (d.val + 1)).drop d.val = [figU d.val] from by decide) ⟨d, hd⟩
theorem digU_zero (b : Nat) : digU b 0 0 = [] := by rw [digU, dif_pos (.inr ⟨rfl, rfl⟩)]
theorem digU_step (b v n : Nat) (hb : 2 ≤ b) (h : v ≠ 0 ∨ n ≠ 0) : digU b v n = digU b (v / b) (n - 1) ++ [figU (v % b)] := by
  rw [digU, dif_neg (by omega)]

set_option maxHeartbeats 4000000 in
theorem digits_any (v b : Nat) (n : Nat) (hb : 2 ≤ b) (hb' : b ≤ 16) (hv : v < 18446744073709551616) (hn : n ≤ 1000) (W : World) :
    Calls Tryd.prog 25 #[.int .u64 v, .int .u64 b, .int .i64 n] W fun e W' => e = .returned (.string (bs (digU b v n))) ∧ W = W' := by
  have hsl := fun d hd => ext_fig d hd
  unfold hexU at hsl
  have HS := Lib.hid hsl
  clear hsl
  have hb0 : ¬ (b : Int) = 0 := by omega
  generalize hR : bs (digU b v n) = R
  have HR := Lib.hid (show bs (digU b v n) = bs (digU b v n ++ []) by rw [List.append_nil])
  go_enter Tryd.func25, Tryd.ntmps25
  go_wp2
  go_loopw [0, 2, 7] (fun x y z wr => ∃ (u j : Nat) (m : Int) (l : List UInt8), x = .int .u64 u ∧ y = .int .i64 m ∧ z = .string (bs l) ∧ u < 2 ^ j ∧ j ≤ 64 ∧ (j : Int) ≤ m + 64 ∧ (l.length : Int) ≤ 1000 - m ∧ Hid (bs (digU b u m.toNat ++ l) = R) ∧ wr = W) (fun x y _ _ => (intOf x).toNat + (intOf y).toNat)
  case atStart => exact ⟨v, 64, n, [], rfl, rfl, rfl, hv, Nat.le_refl _, by omega, by simp; omega, Lib.hid (by rw [List.append_nil]; exact hR), rfl⟩
  case round =>
    obtain ⟨u, j, m, l, rfl, rfl, rfl, hu, hj, hjm, hm, HE, rfl⟩ := hrel
    have hu64 : u < 18446744073709551616 := Nat.lt_of_lt_of_le hu (Nat.pow_le_pow_right (by omega) hj)
    by_cases h0 : u = 0 ∧ m ≤ 0
    · obtain ⟨rfl, hm0⟩ := h0
      have hm1 : ¬ 0 < m := by omega
      have hfin : bs l = R := by
        have := HE.out
        rwa [show m.toNat = 0 by omega, digU_zero, List.nil_append] at this
      have HF := Lib.hid hfin
      clear hfin
      go_wp2_with fail
      go_ret
      exact ⟨by rw [← HF.out]; rfl, rfl⟩
    · have hstep : bs (digU b (u / b) (m - 1).toNat ++ (figU (u % b) :: l)) = R := by
        have := HE.out
        rw [digU_step b u m.toNat hb (by omega)] at this
        rw [← this, show (m - 1).toNat = m.toNat - 1 by omega, List.append_assoc]
        rfl
      have HN := Lib.hid hstep
      have hnext : ∃ j' : Nat, u / b < 2 ^ j' ∧ j' ≤ 64 ∧ (j' : Int) ≤ m - 1 + 64 := by
        by_cases hu0 : u = 0
        · exact ⟨0, by simp [hu0], by omega, by omega⟩
        · have hj1 : 1 ≤ j := by
            rcases Nat.eq_zero_or_pos j with h | h
            · subst h; simp at hu; omega
            · exact h
          refine ⟨j - 1, ?_, by omega, by omega⟩
          have h2 : 2 ^ j = 2 * 2 ^ (j - 1) := by rw [show j = j - 1 + 1 by omega, Nat.pow_succ, Nat.mul_comm]; rfl
          have h3 : u / b ≤ u / 2 := Nat.div_le_div_left hb (by omega)
          omega
      have hmeas : u / b + (m - 1).toNat < u + m.toNat := by
        by_cases hu0 : u = 0
        · subst hu0; simp; omega
        · have : u / b < u := Nat.div_lt_self (by omega) hb
          omega
      have HM := Lib.hid hmeas
      have HX := Lib.hid hnext
      have hmod : u % b < 16 := Nat.lt_of_lt_of_le (Nat.mod_lt _ (by omega)) hb'
      have he := HS.out (u % b) hmod
      have hcat : bs [figU (u % b)] ++ bs l = bs (figU (u % b) :: l) := by
        apply ByteArray.ext
        simp [bs]
      have hlt : ¬ 9223372036854775807 < (bs [figU (u % b)]).size + (bs l).size := by
        rw [size_bs, size_bs]
        simp
        omega
      have hq0 : u / b ≤ u := Nat.div_le_self _ _
      have hq : IntKind.u64.wrap ((u : Int) / (b : Int)) = ((u / b : Nat) : Int) := by
        have hq1 : u / b < 18446744073709551616 := Nat.lt_of_le_of_lt hq0 hu64
        rw [← Int.natCast_ediv, IntKind.wrap_u64]
        generalize u / b = w at *
        omega
      clear hstep hnext hmeas hq0
      by_cases hu1 : 0 < (u : Int)
      · go_wp2_with fail
        obtain ⟨j', q1, q2, q3⟩ := HX.out
        go_roundw
        case rel => exact ⟨u / b, j', m - 1, figU (u % b) :: l, by first | rfl | (congr 1), by go_num, rfl, q1, q2, q3, by simp; omega, HN, by first | rfl | trivial⟩
        case measure => simp [intOf]; have := HM.out; omega
      · have hm1 : 0 < m := by omega
        obtain rfl : u = 0 := by omega
        simp only [Nat.zero_div, Nat.zero_mod] at HN HX HM he hcat hlt
        rw [Nat.zero_add] at he
        go_wp2_with fail
        obtain ⟨j', q1, q2, q3⟩ := HX.out
        go_roundw
        case rel => exact ⟨0, j', m - 1, figU 0 :: l, rfl, by go_num, rfl, q1, q2, q3, by simp; omega, HN, by first | rfl | trivial⟩
        case measure => simp [intOf]; have := HM.out; omega

end Go.Proofs.YtpabaabkhmjdhaaDoor
