/- Plain: what the operations of two come to. -/
import Derived.Test.YtafhnkhcbfilaaaP3
namespace Go.Proofs.Ytafhnkhcbfilaaa
open Go.RowKit
set_option linter.unusedVariables false
set_option linter.unusedSimpArgs false

def binOk (op wa : Int) (va : Nat) (wb : Int) (vb : Nat) : Bool :=
  mayB wa va && mayB wb vb && (decide (op = 17 ∨ op = 18) || (decide (11 ≤ op ∧ op ≤ 16 ∨ 19 ≤ op ∧ op ≤ 26) && decide (wa = wb) && (decide (op < 25) || decide (wa = 1))))

def rawV (op wa : Int) (va vb : Nat) : Nat :=
  if op = 11 then va &&& vb
  else if op = 12 then va ||| vb
  else if op = 13 then va ^^^ vb
  else if op = 14 then (va + vb) % 18446744073709551616 &&& mask wa
  else if op = 15 then (va + (18446744073709551616 - vb)) % 18446744073709551616 &&& mask wa
  else if op = 16 then va * vb % 18446744073709551616 &&& mask wa
  else if op = 17 then upN va vb &&& mask wa
  else if op = 18 then downN va vb
  else if op = 19 then bitN (decide (va = vb))
  else if op = 20 then bitN (decide (va ≠ vb))
  else if op = 21 then bitN (decide (va < vb))
  else if op = 22 then bitN (decide (va ≤ vb))
  else if op = 23 then bitN (decide (vb < va))
  else if op = 24 then bitN (decide (vb ≤ va))
  else if op = 25 then bitN (decide (va = 1) && decide (vb = 1))
  else bitN (decide (va = 1) || decide (vb = 1))

def binW (op wa : Int) (va : Nat) (wb : Int) (vb : Nat) : Int := if binOk op wa va wb vb then (if 19 ≤ op then 1 else wa) else 0
def binV (op wa : Int) (va : Nat) (wb : Int) (vb : Nat) : Nat := if binOk op wa va wb vb then rawV op wa va vb else 0

/-- bits of two that fit stay as they are under the mask -/
theorem and_keeps {w : Int} {va vb : Nat} (ha : mayB w va = true) (hb : mayB w vb = true) :
    (va &&& vb) &&& mask w = va &&& vb ∧ (va ||| vb) &&& mask w = va ||| vb ∧ (va ^^^ vb) &&& mask w = va ^^^ vb := by
  obtain ⟨k, rfl, k0, k64, hla, hm⟩ := mayB_true ha
  obtain ⟨k', hk, _, _, hlb, _⟩ := mayB_true hb
  obtain rfl : k = k' := by omega
  rw [and_mask k _ k0 k64, and_mask k _ k0 k64, and_mask k _ k0 k64]
  exact ⟨Nat.mod_eq_of_lt (Nat.and_lt_two_pow _ hlb), Nat.mod_eq_of_lt (Nat.or_lt_two_pow hla hlb), Nat.mod_eq_of_lt (Nat.xor_lt_two_pow hla hlb)⟩

theorem down_keeps {w : Int} {va : Nat} (ha : mayB w va = true) (n : Nat) : downN va n &&& mask w = downN va n := by
  obtain ⟨k, rfl, k0, k64, hla, hm⟩ := mayB_true ha
  rw [and_mask k _ k0 k64]
  refine Nat.mod_eq_of_lt ?_
  unfold downN
  split
  · exact Nat.two_pow_pos k
  · exact Nat.lt_of_le_of_lt (Nat.div_le_self _ _) hla

theorem bit1 {v : Nat} (h : mayB 1 v = true) : v = 0 ∨ v = 1 := by
  obtain ⟨k, hk, k0, k64, hla, hm⟩ := mayB_true h
  obtain rfl : k = 1 := by omega
  omega

theorem mayB_pos {w : Int} {v : Nat} (h : mayB w v = true) : 0 < w ∧ w ≤ 64 := by
  obtain ⟨k, rfl, k0, k64, _⟩ := mayB_true h
  omega

end Go.Proofs.Ytafhnkhcbfilaaa
