/- Runs, words, signs, names, widths of scan and of its reference: what each call gives. -/
import Derived.Test.YtpabaabkhmjdhaaDoorW1
import Derived.Test.YtpabaabkhmjdhaaDoorP3
import Derived.Test.YtpabaabkhmjdhaaDoorSh
namespace Go.Proofs.YtpabaabkhmjdhaaDoor
open Go.RowKit Go.Proofs.Scn
set_option linter.unusedVariables false
set_option linter.unusedSimpArgs false
set_option maxRecDepth 100000

theorem ret_str {a b : ByteArray} (h : a = b) : Ending.returned (.string a) = .returned (.string b) := by rw [h]
theorem part_cases {c : UInt8} (h : isPart c = true) : isLetter c = true ∨ isLetter c = false ∧ isDigit c = true := by
  unfold isPart at h
  cases hl : isLetter c
  · right; rw [hl] at h; exact ⟨rfl, by simpa using h⟩
  · left; rfl
theorem part_not {c : UInt8} (h : isPart c = false) : isLetter c = false ∧ isDigit c = false := by
  unfold isPart at h
  rw [Bool.or_eq_false_iff] at h
  exact h

theorem head_facts (p : UInt8 → Bool) (s : ByteArray) : ∃ N, N = headN p s.data.toList ∧ N ≤ s.size ∧ (∀ k (h : k < s.size), k < N → p s[k] = true) ∧ (∀ h : N < s.size, p s[N] = false) :=
  ⟨_, rfl, headN_le p _, fun k h hk => headN_lt hk h, fun h => headN_at h⟩

set_option maxHeartbeats 1000000 in
theorem run_any (s : ByteArray) (hs : s.size ≤ 4611686018427387904) (W : World) :
    Calls Tryd.prog 50 #[.string s] W fun e W' => e = .returned (.string (bs (runL s.data.toList))) ∧ W = W' := by
  obtain ⟨N, hN, hle, h1, h2⟩ := head_facts isPart s
  have hfin : s.extract 0 N = bs (runL s.data.toList) := by
    rw [extract_bs, hN, List.drop_zero, take_headN]; rfl
  have HF := Lib.hid hfin
  have H1 := Lib.hid h1
  have H2 := Lib.hid h2
  clear hfin h1 h2 hN
  go_enter Tryd.func50, Tryd.ntmps50
  go_wp2
  go_loop [3] (fun i => ∃ k : Nat, k ≤ N ∧ i = .int .i64 k) (fun i => s.size - (intOf i).toNat)
  case atStart => exact ⟨0, Nat.zero_le _, rfl⟩
  case round =>
    obtain ⟨k, hk, rfl⟩ := hrel
    by_cases hlt : k < N
    · have hks : k < s.size := by omega
      have kl := letter_any s[k]
      have kd := digit_any s[k]
      rcases part_cases (H1.out k hks hlt) with hl | ⟨hl, hd⟩
      · rw [hl] at kl
        have KL := Lib.hid kl
        clear kl kd hl
        go_wp2_with (go_at_call 49; refine (KL.out _).mono ?_; rintro e w' ⟨rfl, rfl⟩)
        go_round
        case rel => exact ⟨k + 1, by omega, by go_num⟩
        case measure => simp [intOf]; omega
      · rw [hl] at kl
        rw [hd] at kd
        have KL := Lib.hid kl
        have KD := Lib.hid kd
        clear kl kd hl hd
        go_wp2_with (first | (go_at_call 49; refine (KL.out _).mono ?_; rintro e w' ⟨rfl, rfl⟩) | (go_at_call 51; refine (KD.out _).mono ?_; rintro e w' ⟨rfl, rfl⟩))
        go_round
        case rel => exact ⟨k + 1, by omega, by go_num⟩
        case measure => simp [intOf]; omega
    · obtain rfl : k = N := by omega
      by_cases hks : k < s.size
      · have kl := letter_any s[k]
        have kd := digit_any s[k]
        obtain ⟨hl, hd⟩ := part_not (H2.out hks)
        rw [hl] at kl
        rw [hd] at kd
        have KL := Lib.hid kl
        have KD := Lib.hid kd
        clear kl kd hl hd
        go_wp2_with (first | (go_at_call 49; refine (KL.out _).mono ?_; rintro e w' ⟨rfl, rfl⟩) | (go_at_call 51; refine (KD.out _).mono ?_; rintro e w' ⟨rfl, rfl⟩))
        go_ret
        exact ⟨ret_str HF.out, rfl⟩
      · obtain rfl : k = s.size := by omega
        go_wp2
        go_ret
        exact ⟨ret_str (HF.out ▸ by simp), rfl⟩

/-- from a place on -/
theorem head_from (p : UInt8 → Bool) (s : ByteArray) (i : Nat) (hi : i ≤ s.size) : ∃ N, N = headN p (s.data.toList.drop i) ∧ i + N ≤ s.size ∧ (∀ k (h : i + k < s.size), k < N → p s[i + k] = true) ∧ (∀ h : i + N < s.size, p s[i + N] = false) := by
  refine ⟨_, rfl, ?_, fun k h hk => ?_, fun h => ?_⟩
  · have := headN_le p (s.data.toList.drop i)
    rw [List.length_drop] at this
    have e : s.data.toList.length = s.size := rfl
    omega
  · have := headN_lt hk (by rw [List.length_drop]; have e : s.data.toList.length = s.size := rfl; omega)
    rw [List.getElem_drop] at this
    exact this
  · have h2 : headN p (s.data.toList.drop i) < (s.data.toList.drop i).length := by
      rw [List.length_drop]; have e : s.data.toList.length = s.size := rfl; omega
    have := headN_at h2
    rw [List.getElem_drop] at this
    exact this

set_option maxHeartbeats 1000000 in
theorem refRun_any (s : ByteArray) (i : Nat) (hi : i ≤ s.size) (hs : s.size ≤ 4611686018427387904) (W : World) :
    Calls Tryd.prog 54 #[.string s, .int .i64 i] W fun e W' => e = .returned (.int .i64 ((headN isPart (s.data.toList.drop i) : Nat) : Int)) ∧ W = W' := by
  obtain ⟨N, hN, hle, h1, h2⟩ := head_from isPart s i hi
  rw [← hN]
  have H1 := Lib.hid h1
  have H2 := Lib.hid h2
  clear h1 h2 hN
  go_enter Tryd.func54, Tryd.ntmps54
  go_wp2
  go_loop [5] (fun t => ∃ k : Nat, k ≤ N ∧ t = .int .i64 k) (fun t => s.size - (intOf t).toNat)
  case atStart => exact ⟨0, Nat.zero_le _, rfl⟩
  case round =>
    obtain ⟨k, hk, rfl⟩ := hrel
    by_cases hlt : k < N
    · have hks : i + k < s.size := by omega
      have kl := refLetter_any s[i + k]
      have kd := refDigit_any s[i + k]
      rcases part_cases (H1.out k hks hlt) with hl | ⟨hl, hd⟩
      · rw [hl] at kl
        have KL := Lib.hid kl
        clear kl kd hl
        go_wp2_with (go_at_call 53; refine (KL.out _).mono ?_; rintro e w' ⟨rfl, rfl⟩)
        go_round
        case rel => exact ⟨k + 1, by omega, by go_num⟩
        case measure => simp [intOf]; omega
      · rw [hl] at kl
        rw [hd] at kd
        have KL := Lib.hid kl
        have KD := Lib.hid kd
        clear kl kd hl hd
        go_wp2_with (first | (go_at_call 53; refine (KL.out _).mono ?_; rintro e w' ⟨rfl, rfl⟩) | (go_at_call 55; refine (KD.out _).mono ?_; rintro e w' ⟨rfl, rfl⟩))
        go_round
        case rel => exact ⟨k + 1, by omega, by go_num⟩
        case measure => simp [intOf]; omega
    · obtain rfl : k = N := by omega
      by_cases hks : i + k < s.size
      · have kl := refLetter_any s[i + k]
        have kd := refDigit_any s[i + k]
        obtain ⟨hl, hd⟩ := part_not (H2.out hks)
        rw [hl] at kl
        rw [hd] at kd
        have KL := Lib.hid kl
        have KD := Lib.hid kd
        clear kl kd hl hd
        go_wp2_with (first | (go_at_call 53; refine (KL.out _).mono ?_; rintro e w' ⟨rfl, rfl⟩) | (go_at_call 55; refine (KD.out _).mono ?_; rintro e w' ⟨rfl, rfl⟩))
        go_ret
        exact ⟨rfl, rfl⟩
      · go_wp2
        go_ret
        exact ⟨rfl, rfl⟩

set_option maxHeartbeats 1000000 in
theorem refDigits_any (s : ByteArray) (i : Nat) (hi : i ≤ s.size) (hs : s.size ≤ 4611686018427387904) (W : World) :
    Calls Tryd.prog 68 #[.string s, .int .i64 i] W fun e W' => e = .returned (.int .i64 ((headN isDigit (s.data.toList.drop i) : Nat) : Int)) ∧ W = W' := by
  obtain ⟨N, hN, hle, h1, h2⟩ := head_from isDigit s i hi
  rw [← hN]
  have H1 := Lib.hid h1
  have H2 := Lib.hid h2
  clear h1 h2 hN
  go_enter Tryd.func68, Tryd.ntmps68
  go_wp2
  go_loop [5] (fun t => ∃ k : Nat, k ≤ N ∧ t = .int .i64 k) (fun t => s.size - (intOf t).toNat)
  case atStart => exact ⟨0, Nat.zero_le _, rfl⟩
  case round =>
    obtain ⟨k, hk, rfl⟩ := hrel
    by_cases hlt : k < N
    · have hks : i + k < s.size := by omega
      have kd := refDigit_any s[i + k]
      rw [H1.out k hks hlt] at kd
      have KD := Lib.hid kd
      clear kd
      go_wp2_with (go_at_call 55; refine (KD.out _).mono ?_; rintro e w' ⟨rfl, rfl⟩)
      go_round
      case rel => exact ⟨k + 1, by omega, by go_num⟩
      case measure => simp [intOf]; omega
    · obtain rfl : k = N := by omega
      by_cases hks : i + k < s.size
      · have kd := refDigit_any s[i + k]
        rw [H2.out hks] at kd
        have KD := Lib.hid kd
        clear kd
        go_wp2_with (go_at_call 55; refine (KD.out _).mono ?_; rintro e w' ⟨rfl, rfl⟩)
        go_ret
        exact ⟨rfl, rfl⟩
      · go_wp2
        go_ret
        exact ⟨rfl, rfl⟩

end Go.Proofs.YtpabaabkhmjdhaaDoor
