/- The operations of two: bitv.Bin, by what is to be told. -/
import Derived.Test.YtafhnkhcbfilaaaA8
import Derived.Test.YtafhnkhcbfilaaaP4
namespace Go.Proofs.Ytafhnkhcbfilaaa
open Go.RowKit Go.Flow
set_option linter.unusedVariables false
set_option linter.unusedSimpArgs false

theorem isKey_eq (op : Int) : isKey op = decide (11 ≤ op ∧ op ≤ 16 ∨ 19 ≤ op ∧ op ≤ 26) := by
  rw [Bool.eq_iff_iff, isKey_iff, decide_eq_true_eq]
  constructor
  · rintro ⟨i, h⟩
    revert h
    unfold keyAt
    split <;> intro h <;> first | (cases h; omega) | cases h
  · intro h
    have : op = 11 ∨ op = 12 ∨ op = 13 ∨ op = 14 ∨ op = 15 ∨ op = 16 ∨ op = 19 ∨ op = 20 ∨ op = 21 ∨ op = 22 ∨ op = 23 ∨ op = 24 ∨ op = 25 ∨ op = 26 := by omega
    rcases this with rfl | rfl | rfl | rfl | rfl | rfl | rfl | rfl | rfl | rfl | rfl | rfl | rfl | rfl
    · exact ⟨1, rfl⟩
    · exact ⟨2, rfl⟩
    · exact ⟨3, rfl⟩
    · exact ⟨4, rfl⟩
    · exact ⟨5, rfl⟩
    · exact ⟨6, rfl⟩
    · exact ⟨8, rfl⟩
    · exact ⟨10, rfl⟩
    · exact ⟨13, rfl⟩
    · exact ⟨16, rfl⟩
    · exact ⟨19, rfl⟩
    · exact ⟨22, rfl⟩
    · exact ⟨23, rfl⟩
    · exact ⟨24, rfl⟩

abbrev Tup (w : Int) (v : Nat) (e : Int) : Ending := .returned (.tuple #[.agg #[.int .i64 w, .int .u64 v], .int .i64 e])

theorem tup_eq {a b : Int} {x y : Nat} {p q : Int} (h1 : a = b) (h2 : x = y) (h3 : p = q) : Tup a x p = Tup b y q := by rw [h1, h2, h3]

/-- what a call of Bin tells -/
def BinPost (op wa : Int) (va : Nat) (wb : Int) (vb : Nat) (W : World) (e : Ending) (W' : World) : Prop :=
  e = Tup (binW op wa va wb vb) (binV op wa va wb vb) (errE (binOk op wa va wb vb)) ∧ Below W.heap.size W W'

theorem bin_any (op wa wb : Int) (va vb : Nat) (W : World) (ha : va < 18446744073709551616) (hb : vb < 18446744073709551616) :
    Calls Try.prog 20 #[.int .i64 op, .agg #[.int .i64 wa, .int .u64 va], .agg #[.int .i64 wb, .int .u64 vb]] W (BinPost op wa va wb vb W) := by
  have fin : ∀ {w : Int} {v : Nat} {e' : Int}, w = binW op wa va wb vb → v = binV op wa va wb vb → e' = errE (binOk op wa va wb vb) →
      ∀ e W', (e = Tup w v e' ∧ Below W.heap.size W W') → BinPost op wa va wb vb W e W' := fun h1 h2 h3 e W' h => ⟨h.1.trans (tup_eq h1 h2 h3), h.2⟩
  have no : binOk op wa va wb vb = false → ∀ e W', (e = Tup 0 0 1 ∧ Below W.heap.size W W') → BinPost op wa va wb vb W e W' := fun h =>
    fin (v := 0) (by simp [binW, h]) (by simp [binV, h]) (by simp [h, errE])
  by_cases h17 : op = 17
  · subst h17
    refine (bin_shl wa wb va vb W ha hb).mono (fin (v := madeV _ _ _) ?_ ?_ ?_)
    · cases hm : (mayB wa va && mayB wb vb) <;> simp [madeW, binW, binOk, hm]
    · cases hm : (mayB wa va && mayB wb vb) <;> simp [madeV, binV, binOk, hm, rawV]
    · simp [binOk]
  by_cases h18 : op = 18
  · subst h18
    refine (bin_shr wa wb va vb W ha hb).mono (fin (v := madeV _ _ _) ?_ ?_ ?_)
    · cases hm : (mayB wa va && mayB wb vb) <;> simp [madeW, binW, binOk, hm]
    · cases hm : (mayB wa va && mayB wb vb)
      · simp [madeV, binV, binOk, hm]
      · simp only [Bool.and_eq_true] at hm
        simp [madeV, binV, binOk, hm, rawV, down_keeps hm.1]
    · simp [binOk]
  have q17 : (op == 17) = false := by simp [h17]
  have q18 : (op == 18) = false := by simp [h18]
  cases hk : isKey op
  · refine (bin_nokey op wa wb va vb q17 q18 hk W ha hb).mono (no ?_)
    rw [isKey_eq] at hk
    simp [binOk, h17, h18, hk]
  cases hm : (mayB wa va && mayB wb vb)
  · exact (bin_nomay op wa wb va vb q17 q18 hk hm W ha hb).mono (no (by simp [binOk, hm]))
  by_cases hw : wa = wb
  · subst hw
    have hm' := hm
    simp only [Bool.and_eq_true] at hm'
    obtain ⟨ma, mb⟩ := hm'
    have hpos := mayB_pos ma
    obtain ⟨k1, k2, k3⟩ := and_keeps ma mb
    by_cases h1 : 25 ≤ op ∧ 1 < wa
    · refine (bin_wide op wa wa va vb q17 q18 hk hm (by simp) (by simpa using h1.1) (by simpa using h1.2) W ha hb).mono (no ?_)
      have a1 : ¬ op < 25 := by omega
      have a2 : ¬ wa = 1 := by omega
      simp [binOk, h17, h18, a1, a2]
    · have ok : binOk op wa va wa vb = true := by
        rw [isKey_eq] at hk
        have : (decide (op < 25) || decide (wa = 1)) = true := by
          rw [Bool.or_eq_true, decide_eq_true_eq, decide_eq_true_eq]; omega
        simp [binOk, hm, hk, this]
      have yes : ∀ {w : Int} {v : Nat}, w = (if 19 ≤ op then 1 else wa) → v = rawV op wa va vb → ∀ e W', (e = Tup w v 0 ∧ Below W.heap.size W W') → BinPost op wa va wa vb W e W' := fun h1 h2 =>
        fin (by rw [binW, ok]; exact h1) (by rw [binV, ok]; exact h2) (by rw [ok]; rfl)
      have hk2 := hk
      rw [isKey_eq, decide_eq_true_eq] at hk2
      have : op = 11 ∨ op = 12 ∨ op = 13 ∨ op = 14 ∨ op = 15 ∨ op = 16 ∨ op = 19 ∨ op = 20 ∨ op = 21 ∨ op = 22 ∨ op = 23 ∨ op = 24 ∨ op = 25 ∨ op = 26 := by omega
      clear no fin
      rcases this with rfl | rfl | rfl | rfl | rfl | rfl | rfl | rfl | rfl | rfl | rfl | rfl | rfl | rfl
      · exact (bin_and wa va vb hm W ha hb).mono (yes (v := (va &&& vb) &&& mask wa) (by simp) (by rw [k1]; rfl))
      · exact (bin_or wa va vb hm W ha hb).mono (yes (v := (va ||| vb) &&& mask wa) (by simp) (by rw [k2]; rfl))
      · exact (bin_xor wa va vb hm W ha hb).mono (yes (v := (va ^^^ vb) &&& mask wa) (by simp) (by rw [k3]; rfl))
      · exact (bin_add wa va vb hm W ha hb).mono (yes (v := (va + vb) % 18446744073709551616 &&& mask wa) (by simp) rfl)
      · exact (bin_sub wa va vb hm W ha hb).mono (yes (v := (va + (18446744073709551616 - vb)) % 18446744073709551616 &&& mask wa) (by simp) rfl)
      · exact (bin_mul wa va vb hm W ha hb).mono (yes (v := va * vb % 18446744073709551616 &&& mask wa) (by simp) rfl)
      · exact (bin_eq wa va vb hm W ha hb).mono (yes (v := bitN _ &&& mask 1) (by simp) (by rw [bitN_and, eq_c]; rfl))
      · exact (bin_ne wa va vb hm W ha hb).mono (yes (v := bitN _ &&& mask 1) (by simp) (by rw [bitN_and, bne, eq_c]; simp [rawV]))
      · exact (bin_lt wa va vb hm W ha hb).mono (yes (v := bitN _ &&& mask 1) (by simp) (by rw [bitN_and]; rfl))
      · exact (bin_le wa va vb hm W ha hb).mono (yes (v := bitN _ &&& mask 1) (by simp) (by rw [bitN_and]; simp [rawV, ← Nat.not_lt]))
      · exact (bin_gt wa va vb hm W ha hb).mono (yes (v := bitN _ &&& mask 1) (by simp) (by rw [bitN_and]; rfl))
      · exact (bin_ge wa va vb hm W ha hb).mono (yes (v := bitN _ &&& mask 1) (by simp) (by rw [bitN_and]; simp [rawV, ← Nat.not_lt]))
      · obtain rfl : wa = 1 := by omega
        refine (bin_both 1 va vb hm (by simp) W ha hb).mono (yes (v := (va &&& vb) &&& mask 1) (by simp) ?_)
        rcases bit1 ma with rfl | rfl <;> rcases bit1 mb with rfl | rfl <;> rfl
      · obtain rfl : wa = 1 := by omega
        refine (bin_one 1 va vb hm (by simp) W ha hb).mono (yes (v := (va ||| vb) &&& mask 1) (by simp) ?_)
        rcases bit1 ma with rfl | rfl <;> rcases bit1 mb with rfl | rfl <;> rfl
  · exact (bin_unlike op wa wb va vb q17 q18 hk hm (by simpa using hw) W ha hb).mono (no (by simp [binOk, h17, h18, hw]))

end Go.Proofs.Ytafhnkhcbfilaaa
