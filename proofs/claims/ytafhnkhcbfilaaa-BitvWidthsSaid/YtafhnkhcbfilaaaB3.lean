/- The operations of two: the reference's Bin, by what is to be told. -/
import Derived.Test.YtafhnkhcbfilaaaB2
namespace Go.Proofs.Ytafhnkhcbfilaaa
open Go.RowKit Go.Flow
set_option linter.unusedVariables false
set_option linter.unusedSimpArgs false

theorem refBin_any (op wa wb : Int) (va vb : Nat) (W : World) (ha : va < 18446744073709551616) (hb : vb < 18446744073709551616) :
    Calls Try.prog 21 #[.int .i64 op, .agg #[.int .i64 wa, .int .u64 va], .agg #[.int .i64 wb, .int .u64 vb]] W (BinPost op wa va wb vb W) := by
  have fin : ∀ {w : Int} {v : Nat} {e' : Int}, w = binW op wa va wb vb → v = binV op wa va wb vb → e' = errE (binOk op wa va wb vb) →
      ∀ e W', (e = Tup w v e' ∧ Below W.heap.size W W') → BinPost op wa va wb vb W e W' := fun h1 h2 h3 e W' h => ⟨h.1.trans (tup_eq h1 h2 h3), h.2⟩
  have no : binOk op wa va wb vb = false → ∀ e W', (e = Tup 0 0 1 ∧ Below W.heap.size W W') → BinPost op wa va wb vb W e W' := fun h =>
    fin (v := 0) (by simp [binW, h]) (by simp [binV, h]) (by simp [h, errE])
  cases ma : mayB wa va
  · exact (refBin_noa op wa wb va vb ma W ha hb).mono (no (by simp [binOk, ma]))
  cases mb : mayB wb vb
  · exact (refBin_nob op wa wb va vb ma mb W ha hb).mono (no (by simp [binOk, mb]))
  by_cases h17 : op = 17
  · subst h17
    exact (refBin_shl wa wb va vb ma mb W ha hb).mono (fin (by simp [binW, binOk, ma, mb]) (by simp [binV, binOk, ma, mb, rawV]) (by simp [binOk, ma, mb, errE]))
  by_cases h18 : op = 18
  · subst h18
    exact (refBin_shr wa wb va vb ma mb W ha hb).mono (fin (by simp [binW, binOk, ma, mb]) (by simp [binV, binOk, ma, mb, rawV]) (by simp [binOk, ma, mb, errE]))
  have q17 : (op == 17) = false := by simp [h17]
  have q18 : (op == 18) = false := by simp [h18]
  by_cases hw : wa = wb
  · subst hw
    have q : ∀ k : Int, op ≠ k → (op == k) = false := fun k h => by simp [h]
    by_cases hk : 11 ≤ op ∧ op ≤ 16 ∨ 19 ≤ op ∧ op ≤ 24
    · have ok : binOk op wa va wa vb = true := by
        have h1 : (11 ≤ op ∧ op ≤ 16 ∨ 19 ≤ op ∧ op ≤ 26) := by omega
        have h2 : op < 25 := by omega
        simp [binOk, ma, mb, h1, h2]
      have yes : ∀ {w : Int} {v : Nat}, w = (if 19 ≤ op then 1 else wa) → v = rawV op wa va vb → ∀ e W', (e = Tup w v 0 ∧ Below W.heap.size W W') → BinPost op wa va wa vb W e W' := fun h1 h2 =>
        fin (by rw [binW, ok]; exact h1) (by rw [binV, ok]; exact h2) (by rw [ok]; rfl)
      have : op = 11 ∨ op = 12 ∨ op = 13 ∨ op = 14 ∨ op = 15 ∨ op = 16 ∨ op = 19 ∨ op = 20 ∨ op = 21 ∨ op = 22 ∨ op = 23 ∨ op = 24 := by omega
      clear no fin q
      rcases this with rfl | rfl | rfl | rfl | rfl | rfl | rfl | rfl | rfl | rfl | rfl | rfl
      · exact (refBin_and wa va vb ma mb W ha hb).mono (yes (by simp) rfl)
      · exact (refBin_or wa va vb ma mb W ha hb).mono (yes (by simp) rfl)
      · exact (refBin_xor wa va vb ma mb W ha hb).mono (yes (by simp) rfl)
      · exact (refBin_add wa va vb ma mb W ha hb).mono (yes (by simp) rfl)
      · exact (refBin_sub wa va vb ma mb W ha hb).mono (yes (by simp) rfl)
      · exact (refBin_mul wa va vb ma mb W ha hb).mono (yes (by simp) rfl)
      · exact (refBin_eq wa va vb ma mb W ha hb).mono (yes (v := bitN _) (by simp) (by rw [eq_c]; rfl))
      · exact (refBin_ne wa va vb ma mb W ha hb).mono (yes (v := bitN _) (by simp) (by rw [bne, eq_c]; simp [rawV]))
      · exact (refBin_lt wa va vb ma mb W ha hb).mono (yes (v := bitN _) (by simp) rfl)
      · exact (refBin_le wa va vb ma mb W ha hb).mono (yes (v := bitN _) (by simp) rfl)
      · exact (refBin_gt wa va vb ma mb W ha hb).mono (yes (v := bitN _) (by simp) rfl)
      · exact (refBin_ge wa va vb ma mb W ha hb).mono (yes (v := bitN _) (by simp) rfl)
    · have z := fun k (h : op ≠ k) => q k h
      have l : ∀ k : Int, (11 ≤ k ∧ k ≤ 16 ∨ 19 ≤ k ∧ k ≤ 24) → (op == k) = false := fun k h => q k (fun e => hk (e ▸ h))
      by_cases h1 : wa = 1
      · subst h1
        by_cases h25 : op = 25
        · subst h25
          have ok : binOk 25 1 va 1 vb = true := by simp [binOk, ma, mb]
          rcases bit1 ma with rfl | rfl
          · exact (refBin_both0 1 vb ma mb (by simp) W hb).mono (fin (v := 0) (by rw [binW, ok]; rfl) (by rw [binV, ok]; rfl) (by rw [ok]; rfl))
          · exact (refBin_both1 1 vb ma mb (by simp) W hb).mono (fin (v := bitN _) (by rw [binW, ok]; rfl) (by rw [binV, ok, show ((vb : Int) == 1) = ((vb : Int) == ((1 : Nat) : Int)) from rfl, eq_c]; simp [rawV]) (by rw [ok]; rfl))
        by_cases h26 : op = 26
        · subst h26
          have ok : binOk 26 1 va 1 vb = true := by simp [binOk, ma, mb]
          rcases bit1 ma with rfl | rfl
          · exact (refBin_one0 1 vb ma mb (by simp) W hb).mono (fin (v := bitN _) (by rw [binW, ok]; rfl) (by rw [binV, ok, show ((vb : Int) == 1) = ((vb : Int) == ((1 : Nat) : Int)) from rfl, eq_c]; simp [rawV]) (by rw [ok]; rfl))
          · exact (refBin_one1 1 vb ma mb (by simp) W hb).mono (fin (v := 1) (by rw [binW, ok]; rfl) (by rw [binV, ok]; simp [rawV, bitN]) (by rw [ok]; rfl))
        · refine (refBin_other op 1 va vb ma mb q17 q18 (l 11 (by omega)) (l 12 (by omega)) (l 13 (by omega)) (l 14 (by omega)) (l 15 (by omega)) (l 16 (by omega)) (l 19 (by omega)) (l 20 (by omega)) (l 21 (by omega)) (l 22 (by omega)) (l 23 (by omega)) (l 24 (by omega)) (q 25 h25) (q 26 h26) (by simp) W ha hb).mono (no ?_)
          have : ¬ (11 ≤ op ∧ op ≤ 16 ∨ 19 ≤ op ∧ op ≤ 26) := by omega
          simp [binOk, h17, h18, this]
      · refine (refBin_wide op wa va vb ma mb q17 q18 (l 11 (by omega)) (l 12 (by omega)) (l 13 (by omega)) (l 14 (by omega)) (l 15 (by omega)) (l 16 (by omega)) (l 19 (by omega)) (l 20 (by omega)) (l 21 (by omega)) (l 22 (by omega)) (l 23 (by omega)) (l 24 (by omega)) (by simpa using h1) W ha hb).mono (no ?_)
        by_cases h2 : 11 ≤ op ∧ op ≤ 16 ∨ 19 ≤ op ∧ op ≤ 26
        · have : ¬ op < 25 := by omega
          simp [binOk, h17, h18, this, h1]
        · simp [binOk, h17, h18, h2]
  · exact (refBin_unlike op wa wb va vb ma mb q17 q18 (by simpa using hw) W ha hb).mono (no (by simp [binOk, h17, h18, hw]))

end Go.Proofs.Ytafhnkhcbfilaaa
