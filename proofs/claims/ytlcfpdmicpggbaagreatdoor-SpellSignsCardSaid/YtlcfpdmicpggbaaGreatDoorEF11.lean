/- Texts of the seat, merged. -/
import Derived.Test.YtlcfpdmicpggbaaGreatDoorQ10
import Derived.Test.YtlcfpdmicpggbaaGreatDoorQ11
set_option linter.unusedVariables false
set_option linter.unusedSimpArgs false
set_option maxRecDepth 100000
set_option maxHeartbeats 16000000
namespace Go.Proofs.Spl
open Go.Proofs.Scn
theorem tok_name (s : Ln) : exprT (nameX s) = [nmT s] := by simp [nameX, exprT, nodeT]
theorem tok_bin (n : Int) (a b : X) : exprT (binX n a b) = partT (rankX a, exprT a) (twoR n) ++ sgT (twoS n) :: partT (rankX b, exprT b) (twoR n + 1) := by
 rw [exprT_eq]; rfl
theorem tok_not (a : X) : exprT (notX a) = sgT [126] :: partT (rankX a, exprT a) 11 := by
 rw [exprT_eq]; rfl
theorem rank_name (s : Ln) : rankX (nameX s) = 11 := rfl
theorem rank_bin (n : Int) (a b : X) : rankX (binX n a b) = twoR n := rfl
theorem len_part (k : Nat × List Tok) (n : Nat) : (partT k n).length = if k.1 < n then k.2.length + 2 else k.2.length := by
 unfold partT
 split
 ·simp [parT, inT]
 ·rfl
theorem part_name (s : Ln) {n : Nat} (h : n ≤ 11) : partT (rankX (nameX s), exprT (nameX s)) n = [nmT s] := by
 unfold partT
 rw [rank_name, if_neg (by omega), tok_name]
theorem len_two (n : Int) (a b : Ln) : (exprT (binX n (nameX a) (nameX b))).length = 3 := by
 have := twoR_le n
 rw [tok_bin, part_name _ (by omega), part_name _ (by omega)]
 rfl
theorem len_left (m n : Int) (a b c : Ln) : (exprT (binX m (binX n (nameX a) (nameX b)) (nameX c))).length = if twoR n < twoR m then 7 else 5 := by
 have := twoR_le m
 rw [tok_bin, part_name _ (by omega), List.length_append, len_part, rank_bin, len_two]
 simp only [List.length_cons, List.length_nil]
 split <;> rfl
theorem len_right (m n : Int) (a b c : Ln) : (exprT (binX m (nameX a) (binX n (nameX b) (nameX c)))).length = if twoR n ≤ twoR m then 7 else 5 := by
 have := twoR_le m
 rw [tok_bin, part_name _ (by omega), List.length_append, List.length_cons (a := sgT _), len_part, rank_bin, len_two]
 simp only [List.length_cons, List.length_nil]
 by_cases h : twoR n ≤ twoR m
 ·rw [if_pos h, if_pos (by omega)]
 ·rw [if_neg h, if_neg (by omega)]
theorem len_not (n : Int) (a b : Ln) : (exprT (notX (binX n (nameX a) (nameX b)))).length = 6 := by
 have := twoR_le n
 rw [tok_not, List.length_cons, len_part, rank_bin, len_two, if_pos (by omega)]
end Go.Proofs.Spl
namespace Go.Proofs.YtlcfpdmicpggbaaGreatDoor
open Go.RowKit Go.Proofs.Spl Go.Proofs.Scn Go.Shelf
abbrev RetN (f : FuncId) (args : Array Value) (W : World) (n : Nat) : Prop := Calls Tryz.prog f args W fun e W' => e = .returned (.int .i64 (n : Nat)) ∧ Below W.heap.size W W'
end Go.Proofs.YtlcfpdmicpggbaaGreatDoor
