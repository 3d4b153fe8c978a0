/- Numbers: the value of so many figures, cut to 64 bits, and whether it was cut. Plain. -/
import Derived.Test.YtpabaabkhmjdhaaDoorP3
namespace Go.Proofs.Scn
set_option linter.unusedVariables false
set_option linter.unusedSimpArgs false

def cutV (b : Nat) (l : List UInt8) : Nat := numV b l % two64
def smallV (b : Nat) (l : List UInt8) : Bool := decide (numV b l < two64)

theorem num_snoc (b : Nat) (l : List UInt8) (k : Nat) (h : k < l.length) : numV b (l.take (k + 1)) = numV b (l.take k) * b + figV l[k] := by
  rw [List.take_succ_eq_append_getElem h, numV_append]
theorem fig_snoc (b : Nat) (l : List UInt8) (k : Nat) (h : k < l.length) : allFig b (l.take (k + 1)) = (allFig b (l.take k) && decide (figV l[k] < b)) := by
  unfold allFig
  rw [List.take_succ_eq_append_getElem h, List.all_append]
  simp
theorem allFig_not {b : Nat} {l : List UInt8} {k : Nat} (h : k < l.length) (hb : ¬ figV l[k] < b) : allFig b l = false := by
  unfold allFig
  rw [List.all_eq_false]
  exact ⟨l[k], List.getElem_mem h, by simpa using hb⟩

/-- one figure more -/
theorem num_step (v b d : Nat) (hv : v < two64) (hb : b ≤ 16) (hd : d < b) (small : Bool) (V : Nat) (hV : V % two64 = v) (hs : small = decide (V < two64)) (hb1 : 1 ≤ b) :
    ((v * b % two64 + d + 0) % two64 = (V * b + d) % two64) ∧
    ((small && (v * b / two64 == 0) && ((v * b % two64 + d + 0) / two64 == 0)) = decide (V * b + d < two64)) := by
  have h1 : (v * b) % two64 = (V * b) % two64 := by rw [← hV, Nat.mod_mul_mod]
  refine ⟨by rw [Nat.add_zero, h1, Nat.mod_add_mod], ?_⟩
  subst hs
  by_cases hs : V < two64
  · have hVv : V = v := by rw [← hV]; exact (Nat.mod_eq_of_lt hs).symm
    subst hVv
    clear h1 hV hv
    generalize V * b = p at *
    rw [Bool.eq_iff_iff]
    simp only [Bool.and_eq_true, decide_eq_true_eq, beq_iff_eq]
    simp only [two64] at hs ⊢
    constructor
    · rintro ⟨⟨_, h2⟩, h3⟩; omega
    · intro h; refine ⟨⟨hs, by omega⟩, by omega⟩
  · have : ¬ V * b + d < two64 := by
      have := Nat.le_mul_of_pos_right V hb1
      omega
    simp [hs, this]

theorem numV_nil (b : Nat) : numV b [] = 0 := rfl
end Go.Proofs.Scn
