/- The leaves of scan and of its reference: what each call gives. -/
import Derived.Test.YtpabaabkhmjdhaaDoorProg
import Derived.Test.YtpabaabkhmjdhaaDoorP1
import Derived.WalkSpells
import Derived.WalkLawsBesides
import Derived.BigQuiet
import Derived.Deep.RegionHeld3
import Derived.Deep.DeepCutAuto
import Derived.Lib.Hide
namespace Go.Proofs.YtpabaabkhmjdhaaDoor
open Go.RowKit Go.Proofs.Scn
set_option linter.unusedVariables false
set_option linter.unusedSimpArgs false
set_option maxRecDepth 100000

theorem ret_bool {a b : Bool} (h : a = b) : Ending.returned (.bool a) = .returned (.bool b) := by rw [h]
theorem ret_int {k : IntKind} {a b : Int} (h : a = b) : Ending.returned (.int k a) = .returned (.int k b) := by rw [h]

theorem forall_u8k {P : UInt8 → Prop} (h : ∀ n : Fin 256, P (UInt8.ofNat n.val)) (c : UInt8) : P c := by
  have := h ⟨c.toNat, c.toNat_lt⟩
  simpa using this

theorem digit_any (c : UInt8) (W : World) : Calls Tryd.prog 51 #[.int .u8 c.toNat] W fun e W' => e = .returned (.bool (isDigit c)) ∧ W = W' := by
  by_cases h0 : 48 ≤ (c.toNat : Int)
  all_goals
    go_enter Tryd.func51, Tryd.ntmps51
    go_wp2
    go_ret
    exact ⟨ret_bool (by rw [Bool.eq_iff_iff]; simp only [isDigit, Bool.and_eq_true, decide_eq_true_eq, Bool.false_eq_true, false_iff]; omega), rfl⟩

theorem refDigit_any (c : UInt8) (W : World) : Calls Tryd.prog 55 #[.int .u8 c.toNat] W fun e W' => e = .returned (.bool (isDigit c)) ∧ W = W' := by
  by_cases h0 : 48 ≤ (c.toNat : Int)
  all_goals
    go_enter Tryd.func55, Tryd.ntmps55
    go_wp2
    go_ret
    exact ⟨ret_bool (by rw [Bool.eq_iff_iff]; simp only [isDigit, Bool.and_eq_true, decide_eq_true_eq, Bool.false_eq_true, false_iff]; omega), rfl⟩

theorem low_letter (c : UInt8) : isLetter c = (decide ((c.toNat : Int) = 95) || (decide (97 ≤ bits .or .u8 c.toNat 32) && decide (bits .or .u8 c.toNat 32 ≤ 122))) := by
  refine forall_u8k (P := fun c => isLetter c = (decide ((c.toNat : Int) = 95) || (decide (97 ≤ bits .or .u8 c.toNat 32) && decide (bits .or .u8 c.toNat 32 ≤ 122)))) ?_ c
  decide +kernel

theorem letter_any (c : UInt8) (W : World) : Calls Tryd.prog 49 #[.int .u8 c.toNat] W fun e W' => e = .returned (.bool (isLetter c)) ∧ W = W' := by
  rw [low_letter c]
  by_cases h0 : (c.toNat : Int) = 95
  · rw [h0]
    go_enter Tryd.func49, Tryd.ntmps49
    go_wp2
    go_ret
    exact ⟨rfl, rfl⟩
  · have hd : ((c.toNat : Int) == 95) = false := by simpa using h0
    by_cases h1 : 97 ≤ bits .or .u8 c.toNat 32
    all_goals
      go_enter Tryd.func49, Tryd.ntmps49
      go_wp2
      go_ret
      exact ⟨ret_bool (by rw [Bool.eq_iff_iff]; simp only [Bool.or_eq_true, Bool.and_eq_true, decide_eq_true_eq, Bool.false_eq_true, false_iff]; omega), rfl⟩

theorem refLetter_any (c : UInt8) (W : World) : Calls Tryd.prog 53 #[.int .u8 c.toNat] W fun e W' => e = .returned (.bool (isLetter c)) ∧ W = W' := by
  have fin : ∀ b : Bool, (b = true ↔ (c.toNat : Int) = 95 ∨ (97 ≤ (c.toNat : Int) ∧ (c.toNat : Int) ≤ 122) ∨ (65 ≤ (c.toNat : Int) ∧ (c.toNat : Int) ≤ 90)) → b = isLetter c := by
    intro b hb
    rw [Bool.eq_iff_iff, hb]
    simp only [isLetter, Bool.or_eq_true, Bool.and_eq_true, decide_eq_true_eq]
    omega
  have Fin := Lib.hid fin
  clear fin
  by_cases h1 : 97 ≤ (c.toNat : Int)
  · by_cases h2 : (c.toNat : Int) ≤ 122
    · go_enter Tryd.func53, Tryd.ntmps53
      go_wp2
      go_ret
      exact ⟨ret_bool (Fin.out _ (by simp only [true_iff]; omega)), rfl⟩
    · have h3 : decide ((c.toNat : Int) ≤ 90) = false := by simp only [decide_eq_false_iff_not]; omega
      have h4 : 65 ≤ (c.toNat : Int) := by omega
      have h5 : ((c.toNat : Int) == 95) = false := by rw [beq_eq_false_iff_ne]; omega
      go_enter Tryd.func53, Tryd.ntmps53
      go_wp2
      go_ret
      exact ⟨ret_bool (Fin.out _ (by simp only [Bool.false_eq_true, false_iff]; omega)), rfl⟩
  · by_cases h3 : 65 ≤ (c.toNat : Int)
    · by_cases h4 : (c.toNat : Int) ≤ 90
      · go_enter Tryd.func53, Tryd.ntmps53
        go_wp2
        go_ret
        exact ⟨ret_bool (Fin.out _ (by simp only [true_iff]; omega)), rfl⟩
      · go_enter Tryd.func53, Tryd.ntmps53
        go_wp2
        go_ret
        exact ⟨ret_bool (Fin.out _ (by simp only [beq_iff_eq]; omega)), rfl⟩
    · have h5 : ((c.toNat : Int) == 95) = false := by rw [beq_eq_false_iff_ne]; omega
      go_enter Tryd.func53, Tryd.ntmps53
      go_wp2
      go_ret
      exact ⟨ret_bool (Fin.out _ (by simp only [Bool.false_eq_true, false_iff]; omega)), rfl⟩

theorem low_figure (c : UInt8) : (isDigit c = true ∧ ((c.toNat : Int) - 48) % 256 = figV c ∧ (c.toNat : Int) - 48 = figV c) ∨ (isDigit c = false ∧ 97 ≤ bits .or .u8 c.toNat 32 ∧ bits .or .u8 c.toNat 32 ≤ 102 ∧ (bits .or .u8 c.toNat 32 - 97) % 256 = figV c - 10 ∧ 10 ≤ figV c ∧ figV c ≤ 15) ∨ (isDigit c = false ∧ (bits .or .u8 c.toNat 32 < 97 ∨ 102 < bits .or .u8 c.toNat 32) ∧ figV c = 16) := by
  refine forall_u8k (P := fun c => (isDigit c = true ∧ ((c.toNat : Int) - 48) % 256 = figV c ∧ (c.toNat : Int) - 48 = figV c) ∨ (isDigit c = false ∧ 97 ≤ bits .or .u8 c.toNat 32 ∧ bits .or .u8 c.toNat 32 ≤ 102 ∧ (bits .or .u8 c.toNat 32 - 97) % 256 = figV c - 10 ∧ 10 ≤ figV c ∧ figV c ≤ 15) ∨ (isDigit c = false ∧ (bits .or .u8 c.toNat 32 < 97 ∨ 102 < bits .or .u8 c.toNat 32) ∧ figV c = 16)) ?_ c
  decide +kernel

theorem figure_any (c : UInt8) (W : World) : Calls Tryd.prog 80 #[.int .u8 c.toNat] W fun e W' => e = .returned (.int .u64 (figV c)) ∧ W = W' := by
  have kd := digit_any c
  rcases low_figure c with ⟨h1, h2, _⟩ | ⟨h1, h2, h3, h4, h5, h6⟩ | ⟨h1, h2, h3⟩
  · rw [h1] at kd
    have KD := Lib.hid kd
    clear kd h1
    go_enter Tryd.func80, Tryd.ntmps80
    go_wp2_with (go_at_call 51; refine (KD.out _).mono ?_; rintro e w' ⟨rfl, rfl⟩)
    go_ret
    exact ⟨rfl, rfl⟩
  · rw [h1] at kd
    have KD := Lib.hid kd
    have h6' := Lib.hid h6
    clear kd h1 h6
    go_enter Tryd.func80, Tryd.ntmps80
    go_wp2_with (go_at_call 51; refine (KD.out _).mono ?_; rintro e w' ⟨rfl, rfl⟩)
    go_ret
    exact ⟨ret_int (by omega), rfl⟩
  · rw [h1] at kd
    rw [h3]
    have KD := Lib.hid kd
    clear kd h1 h3
    rcases h2 with h2 | h2
    · go_enter Tryd.func80, Tryd.ntmps80
      go_wp2_with (go_at_call 51; refine (KD.out _).mono ?_; rintro e w' ⟨rfl, rfl⟩)
      go_ret
      exact ⟨rfl, rfl⟩
    · have h4 : 97 ≤ bits .or .u8 c.toNat 32 := by omega
      go_enter Tryd.func80, Tryd.ntmps80
      go_wp2_with (go_at_call 51; refine (KD.out _).mono ?_; rintro e w' ⟨rfl, rfl⟩)
      go_ret
      exact ⟨rfl, rfl⟩

theorem value_any (c : UInt8) (W : World) : Calls Tryd.prog 84 #[.int .u8 c.toNat] W fun e W' => e = .returned (.int .u64 (figV c)) ∧ W = W' := by
  have kd := refDigit_any c
  have hc : (c.toNat : Int) < 256 := by have := c.toNat_lt; omega
  have fin : isDigit c = false → (97 ≤ (c.toNat : Int) ∧ (c.toNat : Int) ≤ 102 ∧ (c.toNat : Int) - 87 = figV c) ∨ ((c.toNat : Int) < 97 ∧ 65 ≤ (c.toNat : Int) ∧ (c.toNat : Int) ≤ 70 ∧ (c.toNat : Int) - 55 = figV c) ∨ (¬ (97 ≤ (c.toNat : Int) ∧ (c.toNat : Int) ≤ 102) ∧ ¬ (65 ≤ (c.toNat : Int) ∧ (c.toNat : Int) ≤ 70) ∧ figV c = 16) := by
    intro h
    unfold figV
    rw [h]
    simp only [Bool.false_eq_true, if_false]
    split
    · left; omega
    · split
      · right; left; omega
      · right; right; omega
  cases h : isDigit c
  · rw [h] at kd
    have KD := Lib.hid kd
    rcases fin h with ⟨h1, h2, h3⟩ | ⟨h0, h1, h2, h3⟩ | ⟨h1, h2, h3⟩
    · have H3 := Lib.hid h3
      clear kd h fin h3
      go_enter Tryd.func84, Tryd.ntmps84
      go_wp2_with (go_at_call 55; refine (KD.out _).mono ?_; rintro e w' ⟨rfl, rfl⟩)
      go_ret
      exact ⟨ret_int (by have := H3.out; omega), rfl⟩
    · have H3 := Lib.hid h3
      clear kd h fin h3
      go_enter Tryd.func84, Tryd.ntmps84
      go_wp2_with (go_at_call 55; refine (KD.out _).mono ?_; rintro e w' ⟨rfl, rfl⟩)
      go_ret
      exact ⟨ret_int (by have := H3.out; omega), rfl⟩
    · rw [h3]
      clear kd h fin h3
      by_cases h4 : 97 ≤ (c.toNat : Int)
      · have h5 : 65 ≤ (c.toNat : Int) := by omega
        have h6 : 70 < (c.toNat : Int) := by omega
        have h7 : 102 < (c.toNat : Int) := by omega
        clear h1 h2
        go_enter Tryd.func84, Tryd.ntmps84
        go_wp2_with (go_at_call 55; refine (KD.out _).mono ?_; rintro e w' ⟨rfl, rfl⟩)
        go_ret
        exact ⟨rfl, rfl⟩
      · by_cases h5 : 65 ≤ (c.toNat : Int)
        · have h6 : 70 < (c.toNat : Int) := by omega
          clear h1 h2
          go_enter Tryd.func84, Tryd.ntmps84
          go_wp2_with (go_at_call 55; refine (KD.out _).mono ?_; rintro e w' ⟨rfl, rfl⟩)
          go_ret
          exact ⟨rfl, rfl⟩
        · clear h1 h2
          go_enter Tryd.func84, Tryd.ntmps84
          go_wp2_with (go_at_call 55; refine (KD.out _).mono ?_; rintro e w' ⟨rfl, rfl⟩)
          go_ret
          exact ⟨rfl, rfl⟩
  · rw [h] at kd
    have KD := Lib.hid kd
    have h3 : (c.toNat : Int) - 48 = figV c := by
      rcases low_figure c with ⟨_, _, h3⟩ | ⟨h1, _⟩ | ⟨h1, _⟩
      · exact h3
      · rw [h] at h1; cases h1
      · rw [h] at h1; cases h1
    have h4 : 48 ≤ (c.toNat : Int) := by omega
    have H3 := Lib.hid h3
    clear kd h fin h3
    go_enter Tryd.func84, Tryd.ntmps84
    go_wp2_with (go_at_call 55; refine (KD.out _).mono ?_; rintro e w' ⟨rfl, rfl⟩)
    go_ret
    exact ⟨ret_int (by have := H3.out; omega), rfl⟩

theorem base_any (c : UInt8) (W : World) : Calls Tryd.prog 83 #[.int .u8 c.toNat] W fun e W' => e = .returned (.int .u64 (baseL c)) ∧ W = W' := by
  have e : ∀ k : UInt8, c = k ↔ (c.toNat : Int) = k.toNat := fun k => by rw [← UInt8.toNat_inj]; omega
  unfold baseL
  by_cases h1 : c = 104
  · subst h1
    go_enter Tryd.func83, Tryd.ntmps83
    go_wp2
    go_ret
    exact ⟨rfl, rfl⟩
  · by_cases h2 : c = 100
    · subst h2
      go_enter Tryd.func83, Tryd.ntmps83
      go_wp2
      go_ret
      exact ⟨rfl, rfl⟩
    · by_cases h3 : c = 98
      · subst h3
        go_enter Tryd.func83, Tryd.ntmps83
        go_wp2
        go_ret
        exact ⟨rfl, rfl⟩
      · rw [if_neg h1, if_neg h2, if_neg h3]
        have d1 : ((c.toNat : Int) == 104) = false := by rw [beq_eq_false_iff_ne]; exact fun h => h1 ((e 104).2 h)
        have d2 : ((c.toNat : Int) == 100) = false := by rw [beq_eq_false_iff_ne]; exact fun h => h2 ((e 100).2 h)
        have d3 : ((c.toNat : Int) == 98) = false := by rw [beq_eq_false_iff_ne]; exact fun h => h3 ((e 98).2 h)
        clear e h1 h2 h3
        go_enter Tryd.func83, Tryd.ntmps83
        go_wp2
        go_ret
        exact ⟨rfl, rfl⟩

theorem blank_any (c : UInt8) (W : World) : Calls Tryd.prog 30 #[.int .u8 c.toNat] W fun e W' => e = .returned (.bool (isBlank c)) ∧ W = W' := by
  by_cases h1 : (c.toNat : Int) = 32
  · have hb : isBlank c = true := by simp only [isBlank, Bool.or_eq_true, decide_eq_true_eq]; omega
    rw [h1, hb]
    go_enter Tryd.func30, Tryd.ntmps30
    go_wp2
    go_ret
    exact ⟨rfl, rfl⟩
  · by_cases h2 : (c.toNat : Int) = 9
    · have hb : isBlank c = true := by simp only [isBlank, Bool.or_eq_true, decide_eq_true_eq]; omega
      rw [h2, hb]
      go_enter Tryd.func30, Tryd.ntmps30
      go_wp2
      go_ret
      exact ⟨rfl, rfl⟩
    · by_cases h3 : (c.toNat : Int) = 10
      · have hb : isBlank c = true := by simp only [isBlank, Bool.or_eq_true, decide_eq_true_eq]; omega
        rw [h3, hb]
        go_enter Tryd.func30, Tryd.ntmps30
        go_wp2
        go_ret
        exact ⟨rfl, rfl⟩
      · have hb : isBlank c = ((c.toNat : Int) == 13) := by
          rw [Bool.eq_iff_iff]
          simp only [isBlank, Bool.or_eq_true, decide_eq_true_eq, beq_iff_eq]
          omega
        have d1 : ((c.toNat : Int) == 32) = false := by rw [beq_eq_false_iff_ne]; exact h1
        have d2 : ((c.toNat : Int) == 9) = false := by rw [beq_eq_false_iff_ne]; exact h2
        have d3 : ((c.toNat : Int) == 10) = false := by rw [beq_eq_false_iff_ne]; exact h3
        rw [hb]
        clear hb h1 h2 h3
        go_enter Tryd.func30, Tryd.ntmps30
        go_wp2
        go_ret
        exact ⟨rfl, rfl⟩
end Go.Proofs.YtpabaabkhmjdhaaDoor
