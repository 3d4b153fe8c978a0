/- ScanNumbers. -/
import Derived.Test.YtpabaabkhmjdhaaDoorT4
namespace Go.Proofs.YtpabaabkhmjdhaaDoor
open Go.RowKit Go.Proofs.Scn Go.Flow Go.Sort
set_option linter.unusedVariables false
set_option linter.unusedSimpArgs false
set_option maxRecDepth 100000

theorem digU_len (b : Nat) (hb : 2 ≤ b) : ∀ k v n j, v + n ≤ k → v < 2 ^ j → (digU b v n).length ≤ j + n := by
  intro k
  induction k with
  | zero =>
    intro v n j h hj
    obtain ⟨rfl, rfl⟩ : v = 0 ∧ n = 0 := by omega
    rw [digU_zero]; simp
  | succ k ih =>
    intro v n j h hj
    by_cases h0 : v = 0 ∧ n = 0
    · obtain ⟨rfl, rfl⟩ := h0
      rw [digU_zero]; simp
    · rw [digU_step b v n hb (by omega), List.length_append, List.length_singleton]
      by_cases hv : v = 0
      · subst hv
        have := ih (0 / b) (n - 1) j (by simp; omega) (by rw [Nat.zero_div]; exact Nat.pow_pos (by omega))
        omega
      · have hj1 : 1 ≤ j := by
          rcases Nat.eq_zero_or_pos j with h | h
          · subst h; simp at hj; omega
          · exact h
        have h2 : 2 ^ j = 2 * 2 ^ (j - 1) := by rw [show j = j - 1 + 1 by omega, Nat.pow_succ, Nat.mul_comm]; rfl
        have h3 : v / b ≤ v / 2 := Nat.div_le_div_left hb (by omega)
        have h4 : v / b < v := Nat.div_lt_self (by omega) hb
        have := ih (v / b) (n - 1) (j - 1) (by omega) (by omega)
        omega

theorem toks_one0 {w : World} {v : Value} {k a p : Int} {m : Nat} (h : Toks w v [⟨k, [], a, m, p⟩]) : ∃ b off cap, v = .slice (some ⟨b, off, none⟩) 1 cap ∧ b < w.heap.size ∧ w.cell? ⟨b, off, none⟩ = some (.int .i64 k) ∧ w.cell? ⟨b, off + 1, none⟩ = some (.string ⟨#[]⟩) ∧ w.cell? ⟨b, off + 2, none⟩ = some (.int .i64 a) ∧ w.cell? ⟨b, off + 3, none⟩ = some (.int .u64 m) ∧ w.cell? ⟨b, off + 4, none⟩ = some (.int .i64 p) := by
  obtain ⟨b, off, cap, h1, h2, h3⟩ := toks_one h
  exact ⟨b, off, cap, h1, h2, h3.c0, h3.c1, h3.c2, h3.c3, h3.c4⟩

theorem tok0_neq (k a p : Int) (v : Nat) (w : World) : (binOp .neq 32 (.agg #[.int .i64 k, .string ⟨#[]⟩, .int .i64 a, .int .u64 v, .int .i64 p]) (.agg #[.int .i64 k, .string ⟨#[]⟩, .int .i64 a, .int .u64 v, .int .i64 p])).run Tryd.prog w = .ok (.bool false) w := by
  have := tok_neq ⟨k, [], a, v, p⟩ ⟨k, [], a, v, p⟩ w
  simp only [decide_true, Bool.not_true] at this
  exact this
theorem tok0_eql (k a p : Int) (v : Nat) (w : World) : (binOp .eql 32 (.agg #[.int .i64 k, .string ⟨#[]⟩, .int .i64 a, .int .u64 v, .int .i64 p]) (.agg #[.int .i64 k, .string ⟨#[]⟩, .int .i64 a, .int .u64 v, .int .i64 p])).run Tryd.prog w = .ok (.bool true) w := by
  rw [run_eql_struct]
  simp [go_sem]

/-- what of a number's text the walk needs -/
theorem num_text (w v n b : Nat) (c : UInt8) (hc : baseL c = b) (hb : 2 ≤ b) (hb' : b ≤ 16) (hw : 1 ≤ w) (hw2 : w ≤ 70) (hn : 1 ≤ n) (hn2 : n ≤ 80) (hv : v < two64) :
    ∃ S : ByteArray, bs (digU 10 w 1) ++ ⟨#[39, c]⟩ ++ bs (digU b v n) = S ∧ S.size ≤ 65536 ∧ scanW 0 S.data.toList = if fitsV w v = true then .ok [⟨3, [], w, v, 0⟩] else .error (0, 22) := by
  have h2 : two64 = 2 ^ 64 := rfl
  have l1 := digU_len 10 (by omega) _ w 1 7 (Nat.le_refl _) (by omega)
  have l2 := digU_len b hb _ v n 64 (Nat.le_refl _) (by omega)
  refine ⟨bs (digU 10 w 1 ++ [39, c] ++ digU b v n), ?_, ?_, ?_⟩
  · apply ByteArray.ext
    simp [bs]
  · rw [size_bs]
    simp
    omega
  · rw [list_bs]
    exact scan_wide hc hb hb' hw (by rw [h2]; omega) hn hv
theorem num_size (w v n b : Nat) (hb : 2 ≤ b) (hw2 : w ≤ 70) (hn2 : n ≤ 80) (hv : v < two64) (c : UInt8) : (bs (digU 10 w 1)).size ≤ 10 ∧ (bs (digU b v n)).size ≤ 200 ∧ (bs (digU 10 w 1) ++ (⟨#[39, c]⟩ : ByteArray)).size ≤ 12 := by
  have h2 : two64 = 2 ^ 64 := rfl
  have l1 := digU_len 10 (by omega) _ w 1 7 (Nat.le_refl _) (by omega)
  have l2 := digU_len b hb _ v n 64 (Nat.le_refl _) (by omega)
  rw [ByteArray.size_append, size_bs, size_bs]
  have : (⟨#[39, c]⟩ : ByteArray).size = 2 := rfl
  omega
theorem fits_shl (w v : Nat) (hw : 1 ≤ w) (h : w < 64) : decide ((v : Int) < IntKind.u64.wrap (2 ^ w)) = fitsV w v := by
  have h1 : (2 : Nat) ^ w < 2 ^ 64 := Nat.pow_lt_pow_right (by omega) h
  have h2 : ((2 : Int) ^ w) = ((2 ^ w : Nat) : Int) := by simp
  rw [IntKind.wrap_u64, h2, Bool.eq_iff_iff]
  simp only [fitsV, Bool.and_eq_true, decide_eq_true_eq, Int.toNat_natCast]
  generalize 2 ^ w = x at *
  omega

set_option maxHeartbeats 2000000 in
theorem numbers_out (w n : Int) (v : Nat) (h : ¬ (1 ≤ w ∧ w ≤ 70 ∧ 1 ≤ n ∧ n ≤ 80)) (W : World) (hB : Base W) :
    Calls Tryd.prog 12 #[.int .i64 w, .int .u64 v, .int .i64 n] W fun e W' => e = .returned (.bool true) ∧ Below W.heap.size W W' := by
  have KL := Lib.hid (live_any W hB)
  clear hB
  have key : w < 1 ∨ (¬ w < 1 ∧ 70 < w) ∨ (¬ w < 1 ∧ ¬ 70 < w ∧ n < 1) ∨ (¬ w < 1 ∧ ¬ 70 < w ∧ ¬ n < 1 ∧ 80 < n) := by omega
  rcases key with h1 | ⟨h1, h2⟩ | ⟨h1, h2, h3⟩ | ⟨h1, h2, h3, h4⟩
  all_goals
    clear h
    go_enter Tryd.func12, Tryd.ntmps12
    go_wp2_with fail
    refine KL.out.mono ?_
    rintro e W1 ⟨rfl, hb1⟩
    have HW1 := Lib.hid hb1
    clear hb1
    go_wp2
    go_ret
    exact ⟨rfl, HW1.out⟩
set_option maxHeartbeats 8000000 in
theorem numbers_in (w n v : Nat) (hw : 1 ≤ w) (hw2 : w ≤ 70) (hn : 1 ≤ n) (hn2 : n ≤ 80) (hv : v < two64) (W : World) (hB : Base W) :
    Calls Tryd.prog 12 #[.int .i64 w, .int .u64 v, .int .i64 n] W fun e W' => e = .returned (.bool true) ∧ Below W.heap.size W W' := by
  have KL := Lib.hid (live_any W hB)
  have HB := Lib.hid hB
  clear hB
  have hv' : v < 18446744073709551616 := hv
  have KDw := Lib.hid (fun W => digits_any w 10 1 (by omega) (by omega) (by omega) (by omega) W)
  have KDh := Lib.hid (fun W => digits_any v 16 n (by omega) (by omega) hv' (by omega) W)
  have KDd := Lib.hid (fun W => digits_any v 10 n (by omega) (by omega) hv' (by omega) W)
  have KDb := Lib.hid (fun W => digits_any v 2 n (by omega) (by omega) hv' (by omega) W)
  have g1 : ¬ (w : Int) < 1 := by omega
  have g2 : ¬ 70 < (w : Int) := by omega
  have g3 : ¬ (n : Int) < 1 := by omega
  have g4 : ¬ 80 < (n : Int) := by omega
  obtain ⟨Sh, eh, zh, rh⟩ := num_text w v n 16 104 rfl (by omega) (by omega) hw hw2 hn hn2 hv
  obtain ⟨Sd, ed, zd, rd⟩ := num_text w v n 10 100 rfl (by omega) (by omega) hw hw2 hn hn2 hv
  obtain ⟨Sb, eb, zb, rb⟩ := num_text w v n 2 98 rfl (by omega) (by omega) hw hw2 hn hn2 hv
  obtain ⟨lA, lh, lAh⟩ := num_size w v n 16 (by omega) hw2 hn2 hv 104
  obtain ⟨_, ld, lAd⟩ := num_size w v n 10 (by omega) hw2 hn2 hv 100
  obtain ⟨_, lb, lAb⟩ := num_size w v n 2 (by omega) hw2 hn2 hv 98
  have KSh := Lib.hid (fun v w hb hB => scan_any v Sh zh w hb hB)
  have KSd := Lib.hid (fun v w hb hB => scan_any v Sd zd w hb hB)
  have KSb := Lib.hid (fun v w hb hB => scan_any v Sb zb w hb hB)
  have KSp := Lib.hid (fun x w hb hB => scan_any x (bs (digU 10 v n)) (by omega) w hb hB)
  rw [list_bs, scan_plain hn hv] at KSp
  rw [rh] at KSh
  rw [rd] at KSd
  rw [rb] at KSb
  have hconv := conv_run
  clear rh rd rb zh zd zb
  by_cases hlt : (w : Int) < 64
  · by_cases hf : fitsV w v = true
    · have hfe : decide ((v : Int) < IntKind.u64.wrap (2 ^ w)) = true := by
        rw [fits_shl w v (by omega) (by omega), hf]
      have hfe' : (v : Int) < IntKind.u64.wrap (2 ^ w) := of_decide_eq_true hfe
      rw [if_pos hf] at KSh KSd KSb
      go_enter Tryd.func12, Tryd.ntmps12
      go_wp2_with fail
      refine KL.out.mono ?_
      rintro e W1 ⟨rfl, hb1⟩
      have HW1 := Lib.hid hb1
      clear hb1
      go_wp2_with fail

      refine (KDw.out _).mono ?_
      rintro e w' ⟨rfl, rfl⟩
      have b2 := Box5.new W1 (.int .i64 3) (.string ⟨#[]⟩) (.int .i64 w) (.int .u64 v) (.int .i64 0) 32
      have HW2 := Lib.hid (HW1.out.alloc HW1.out.size (.cells #[.int .i64 3, .string ⟨#[]⟩, .int .i64 w, .int .u64 v, .int .i64 0] 32))
      go_wp2_with fail
      generalize W1.alloc (.cells #[.int .i64 3, .string ⟨#[]⟩, .int .i64 w, .int .u64 v, .int .i64 0] 32) = W2 at *
      generalize bs (digU 10 w 1) = A at *
      generalize bs (digU 16 v n) = Xh at *
      generalize bs (digU 10 v n) = Xd at *
      generalize bs (digU 2 v n) = Xb at *
      refine (KDh.out _).mono ?_
      rintro e w' ⟨rfl, rfl⟩
      go_wp2_with fail
      have hbw := Joins.below_bytesWorld W2.heap.size W2 5 Sh (Nat.le_refl _)
      refine (KSh.out _ _ (conv_bytes W2 Sh _) (HB.out.later (HW2.out.trans (hbw.mono HW2.out.size)))).mono ?_
      rintro e W3 ⟨⟨v3, rfl, ho3⟩, hb3⟩
      have hb3' := hbw.trans (hb3.mono hbw.size)
      have HW3 := Lib.hid (HW2.out.trans (hb3'.mono HW2.out.size))
      have b3 := b2.later hb3'
      have T3 := Lib.hid ho3.toks
      clear ho3
      clear hbw hb3 hb3' b2
      go_wp2_with fail
      refine (KDd.out _).mono ?_
      rintro e w' ⟨rfl, rfl⟩
      go_wp2_with fail
      have hbw := Joins.below_bytesWorld W3.heap.size W3 5 Sd (Nat.le_refl _)
      refine (KSd.out _ _ (conv_bytes W3 Sd _) (HB.out.later (HW3.out.trans (hbw.mono HW3.out.size)))).mono ?_
      rintro e W4 ⟨⟨v4, rfl, ho4⟩, hb4⟩
      have hb4' := hbw.trans (hb4.mono hbw.size)
      have HW4 := Lib.hid (HW3.out.trans (hb4'.mono HW3.out.size))
      have b4 := b3.later hb4'
      have T3 := Lib.hid (T3.out.later hb4')
      have T4 := Lib.hid ho4.toks
      clear ho4
      clear hbw hb4 hb4' b3
      go_wp2_with fail
      refine (KDb.out _).mono ?_
      rintro e w' ⟨rfl, rfl⟩
      go_wp2_with fail
      have hbw := Joins.below_bytesWorld W4.heap.size W4 5 Sb (Nat.le_refl _)
      refine (KSb.out _ _ (conv_bytes W4 Sb _) (HB.out.later (HW4.out.trans (hbw.mono HW4.out.size)))).mono ?_
      rintro e W5 ⟨⟨v5, rfl, ho5⟩, hb5⟩
      have hb5' := hbw.trans (hb5.mono hbw.size)
      have HW5 := Lib.hid (HW4.out.trans (hb5'.mono HW4.out.size))
      have b5 := b4.later hb5'
      have T3 := Lib.hid (T3.out.later hb5')
      have T4 := Lib.hid (T4.out.later hb5')
      have T5 := Lib.hid ho5.toks
      clear ho5
      clear hbw hb5 hb5' b4
      go_wp2_with fail
      refine (KDd.out _).mono ?_
      rintro e w' ⟨rfl, rfl⟩
      go_wp2_with fail
      have hbw := Joins.below_bytesWorld W5.heap.size W5 5 Xd (Nat.le_refl _)
      refine (KSp.out _ _ (conv_bytes W5 Xd _) (HB.out.later (HW5.out.trans (hbw.mono HW5.out.size)))).mono ?_
      rintro e W6 ⟨⟨v6, rfl, ho6⟩, hb6⟩
      have hb6' := hbw.trans (hb6.mono hbw.size)
      have HW6 := Lib.hid (HW5.out.trans (hb6'.mono HW5.out.size))
      have b6 := b5.later hb6'
      have T3 := Lib.hid (T3.out.later hb6')
      have T4 := Lib.hid (T4.out.later hb6')
      have T5 := Lib.hid (T5.out.later hb6')
      have T6 := Lib.hid ho6.toks
      clear ho6
      clear hbw hb6 hb6' b5
      obtain ⟨g3, o3, k3, rfl, lt3, s3a, s3b, s3c, s3d, s3e⟩ := toks_one0 T3.out
      clear T3
      obtain ⟨g4, o4, k4, rfl, lt4, s4a, s4b, s4c, s4d, s4e⟩ := toks_one0 T4.out
      clear T4
      obtain ⟨g5, o5, k5, rfl, lt5, s5a, s5b, s5c, s5d, s5e⟩ := toks_one0 T5.out
      clear T5
      obtain ⟨g6, o6, k6, rfl, lt6, s6a, s6b, s6c, s6d, s6e⟩ := toks_one0 T6.out
      clear T6
      obtain ⟨q0, q1, q2, q3, q4, _, _, _, _, _, _⟩ := b6
      have n1 := tok0_neq 3 0 0 v
      have n2 := tok0_eql 3 w 0 v
      go_wp2_with fail
      go_quiet (fail)
      go_wp2
      go_ret
      exact ⟨rfl, below_drewN HW6.out _⟩
    · have hfe : decide ((v : Int) < IntKind.u64.wrap (2 ^ w)) = false := by
        rw [fits_shl w v (by omega) (by omega)]; simpa using hf
      have hfe' : ¬ (v : Int) < IntKind.u64.wrap (2 ^ w) := of_decide_eq_false hfe
      have h64 : ((w : Int) == 64) = false := by rw [beq_eq_false_iff_ne]; omega
      rw [if_neg hf] at KSh KSd KSb
      go_enter Tryd.func12, Tryd.ntmps12
      go_wp2_with fail
      refine KL.out.mono ?_
      rintro e W1 ⟨rfl, hb1⟩
      have HW1 := Lib.hid hb1
      clear hb1
      go_wp2_with fail

      refine (KDw.out _).mono ?_
      rintro e w' ⟨rfl, rfl⟩
      have b2 := Box5.new W1 (.int .i64 3) (.string ⟨#[]⟩) (.int .i64 w) (.int .u64 v) (.int .i64 0) 32
      have HW2 := Lib.hid (HW1.out.alloc HW1.out.size (.cells #[.int .i64 3, .string ⟨#[]⟩, .int .i64 w, .int .u64 v, .int .i64 0] 32))
      go_wp2_with fail
      generalize W1.alloc (.cells #[.int .i64 3, .string ⟨#[]⟩, .int .i64 w, .int .u64 v, .int .i64 0] 32) = W2 at *
      generalize bs (digU 10 w 1) = A at *
      generalize bs (digU 16 v n) = Xh at *
      generalize bs (digU 10 v n) = Xd at *
      generalize bs (digU 2 v n) = Xb at *
      refine (KDh.out _).mono ?_
      rintro e w' ⟨rfl, rfl⟩
      go_wp2_with fail
      have hbw := Joins.below_bytesWorld W2.heap.size W2 5 Sh (Nat.le_refl _)
      refine (KSh.out _ _ (conv_bytes W2 Sh _) (HB.out.later (HW2.out.trans (hbw.mono HW2.out.size)))).mono ?_
      rintro e W3 ⟨rfl, hb3⟩
      have hb3' := hbw.trans (hb3.mono hbw.size)
      have HW3 := Lib.hid (HW2.out.trans (hb3'.mono HW2.out.size))
      have b3 := b2.later hb3'
      clear hbw hb3 hb3' b2
      go_wp2_with fail
      refine (KDd.out _).mono ?_
      rintro e w' ⟨rfl, rfl⟩
      go_wp2_with fail
      have hbw := Joins.below_bytesWorld W3.heap.size W3 5 Sd (Nat.le_refl _)
      refine (KSd.out _ _ (conv_bytes W3 Sd _) (HB.out.later (HW3.out.trans (hbw.mono HW3.out.size)))).mono ?_
      rintro e W4 ⟨rfl, hb4⟩
      have hb4' := hbw.trans (hb4.mono hbw.size)
      have HW4 := Lib.hid (HW3.out.trans (hb4'.mono HW3.out.size))
      have b4 := b3.later hb4'
      clear hbw hb4 hb4' b3
      go_wp2_with fail
      refine (KDb.out _).mono ?_
      rintro e w' ⟨rfl, rfl⟩
      go_wp2_with fail
      have hbw := Joins.below_bytesWorld W4.heap.size W4 5 Sb (Nat.le_refl _)
      refine (KSb.out _ _ (conv_bytes W4 Sb _) (HB.out.later (HW4.out.trans (hbw.mono HW4.out.size)))).mono ?_
      rintro e W5 ⟨rfl, hb5⟩
      have hb5' := hbw.trans (hb5.mono hbw.size)
      have HW5 := Lib.hid (HW4.out.trans (hb5'.mono HW4.out.size))
      have b5 := b4.later hb5'
      clear hbw hb5 hb5' b4
      go_wp2_with fail
      refine (KDd.out _).mono ?_
      rintro e w' ⟨rfl, rfl⟩
      go_wp2_with fail
      have hbw := Joins.below_bytesWorld W5.heap.size W5 5 Xd (Nat.le_refl _)
      refine (KSp.out _ _ (conv_bytes W5 Xd _) (HB.out.later (HW5.out.trans (hbw.mono HW5.out.size)))).mono ?_
      rintro e W6 ⟨⟨v6, rfl, ho6⟩, hb6⟩
      have hb6' := hbw.trans (hb6.mono hbw.size)
      have HW6 := Lib.hid (HW5.out.trans (hb6'.mono HW5.out.size))
      have b6 := b5.later hb6'
      have T6 := Lib.hid ho6.toks
      clear ho6
      clear hbw hb6 hb6' b5
      obtain ⟨g6, o6, k6, rfl, lt6, s6a, s6b, s6c, s6d, s6e⟩ := toks_one0 T6.out
      clear T6
      obtain ⟨q0, q1, q2, q3, q4, _, _, _, _, _, _⟩ := b6
      have n1 := tok0_neq 3 0 0 v
      have n2 := tok0_eql 3 w 0 v
      go_wp2_with fail
      go_ret
      exact ⟨rfl, HW6.out⟩
  · by_cases h64 : w = 64
    · have h64' : ((w : Int) == 64) = true := by rw [beq_iff_eq]; omega
      have hf : fitsV w v = true := by subst h64; simp [fitsV]; exact hv
      rw [if_pos hf] at KSh KSd KSb
      clear h64
      go_enter Tryd.func12, Tryd.ntmps12
      go_wp2_with fail
      refine KL.out.mono ?_
      rintro e W1 ⟨rfl, hb1⟩
      have HW1 := Lib.hid hb1
      clear hb1
      go_wp2_with fail

      refine (KDw.out _).mono ?_
      rintro e w' ⟨rfl, rfl⟩
      have b2 := Box5.new W1 (.int .i64 3) (.string ⟨#[]⟩) (.int .i64 w) (.int .u64 v) (.int .i64 0) 32
      have HW2 := Lib.hid (HW1.out.alloc HW1.out.size (.cells #[.int .i64 3, .string ⟨#[]⟩, .int .i64 w, .int .u64 v, .int .i64 0] 32))
      go_wp2_with fail
      generalize W1.alloc (.cells #[.int .i64 3, .string ⟨#[]⟩, .int .i64 w, .int .u64 v, .int .i64 0] 32) = W2 at *
      generalize bs (digU 10 w 1) = A at *
      generalize bs (digU 16 v n) = Xh at *
      generalize bs (digU 10 v n) = Xd at *
      generalize bs (digU 2 v n) = Xb at *
      refine (KDh.out _).mono ?_
      rintro e w' ⟨rfl, rfl⟩
      go_wp2_with fail
      have hbw := Joins.below_bytesWorld W2.heap.size W2 5 Sh (Nat.le_refl _)
      refine (KSh.out _ _ (conv_bytes W2 Sh _) (HB.out.later (HW2.out.trans (hbw.mono HW2.out.size)))).mono ?_
      rintro e W3 ⟨⟨v3, rfl, ho3⟩, hb3⟩
      have hb3' := hbw.trans (hb3.mono hbw.size)
      have HW3 := Lib.hid (HW2.out.trans (hb3'.mono HW2.out.size))
      have b3 := b2.later hb3'
      have T3 := Lib.hid ho3.toks
      clear ho3
      clear hbw hb3 hb3' b2
      go_wp2_with fail
      refine (KDd.out _).mono ?_
      rintro e w' ⟨rfl, rfl⟩
      go_wp2_with fail
      have hbw := Joins.below_bytesWorld W3.heap.size W3 5 Sd (Nat.le_refl _)
      refine (KSd.out _ _ (conv_bytes W3 Sd _) (HB.out.later (HW3.out.trans (hbw.mono HW3.out.size)))).mono ?_
      rintro e W4 ⟨⟨v4, rfl, ho4⟩, hb4⟩
      have hb4' := hbw.trans (hb4.mono hbw.size)
      have HW4 := Lib.hid (HW3.out.trans (hb4'.mono HW3.out.size))
      have b4 := b3.later hb4'
      have T3 := Lib.hid (T3.out.later hb4')
      have T4 := Lib.hid ho4.toks
      clear ho4
      clear hbw hb4 hb4' b3
      go_wp2_with fail
      refine (KDb.out _).mono ?_
      rintro e w' ⟨rfl, rfl⟩
      go_wp2_with fail
      have hbw := Joins.below_bytesWorld W4.heap.size W4 5 Sb (Nat.le_refl _)
      refine (KSb.out _ _ (conv_bytes W4 Sb _) (HB.out.later (HW4.out.trans (hbw.mono HW4.out.size)))).mono ?_
      rintro e W5 ⟨⟨v5, rfl, ho5⟩, hb5⟩
      have hb5' := hbw.trans (hb5.mono hbw.size)
      have HW5 := Lib.hid (HW4.out.trans (hb5'.mono HW4.out.size))
      have b5 := b4.later hb5'
      have T3 := Lib.hid (T3.out.later hb5')
      have T4 := Lib.hid (T4.out.later hb5')
      have T5 := Lib.hid ho5.toks
      clear ho5
      clear hbw hb5 hb5' b4
      go_wp2_with fail
      refine (KDd.out _).mono ?_
      rintro e w' ⟨rfl, rfl⟩
      go_wp2_with fail
      have hbw := Joins.below_bytesWorld W5.heap.size W5 5 Xd (Nat.le_refl _)
      refine (KSp.out _ _ (conv_bytes W5 Xd _) (HB.out.later (HW5.out.trans (hbw.mono HW5.out.size)))).mono ?_
      rintro e W6 ⟨⟨v6, rfl, ho6⟩, hb6⟩
      have hb6' := hbw.trans (hb6.mono hbw.size)
      have HW6 := Lib.hid (HW5.out.trans (hb6'.mono HW5.out.size))
      have b6 := b5.later hb6'
      have T3 := Lib.hid (T3.out.later hb6')
      have T4 := Lib.hid (T4.out.later hb6')
      have T5 := Lib.hid (T5.out.later hb6')
      have T6 := Lib.hid ho6.toks
      clear ho6
      clear hbw hb6 hb6' b5
      obtain ⟨g3, o3, k3, rfl, lt3, s3a, s3b, s3c, s3d, s3e⟩ := toks_one0 T3.out
      clear T3
      obtain ⟨g4, o4, k4, rfl, lt4, s4a, s4b, s4c, s4d, s4e⟩ := toks_one0 T4.out
      clear T4
      obtain ⟨g5, o5, k5, rfl, lt5, s5a, s5b, s5c, s5d, s5e⟩ := toks_one0 T5.out
      clear T5
      obtain ⟨g6, o6, k6, rfl, lt6, s6a, s6b, s6c, s6d, s6e⟩ := toks_one0 T6.out
      clear T6
      obtain ⟨q0, q1, q2, q3, q4, _, _, _, _, _, _⟩ := b6
      have n1 := tok0_neq 3 0 0 v
      have n2 := tok0_eql 3 w 0 v
      go_wp2_with fail
      go_quiet (fail)
      go_wp2
      go_ret
      exact ⟨rfl, below_drewN HW6.out _⟩
    · have h64' : ((w : Int) == 64) = false := by rw [beq_eq_false_iff_ne]; omega
      have hf : ¬ fitsV w v = true := by simp [fitsV]; omega
      rw [if_neg hf] at KSh KSd KSb
      go_enter Tryd.func12, Tryd.ntmps12
      go_wp2_with fail
      refine KL.out.mono ?_
      rintro e W1 ⟨rfl, hb1⟩
      have HW1 := Lib.hid hb1
      clear hb1
      go_wp2_with fail

      refine (KDw.out _).mono ?_
      rintro e w' ⟨rfl, rfl⟩
      have b2 := Box5.new W1 (.int .i64 3) (.string ⟨#[]⟩) (.int .i64 w) (.int .u64 v) (.int .i64 0) 32
      have HW2 := Lib.hid (HW1.out.alloc HW1.out.size (.cells #[.int .i64 3, .string ⟨#[]⟩, .int .i64 w, .int .u64 v, .int .i64 0] 32))
      go_wp2_with fail
      generalize W1.alloc (.cells #[.int .i64 3, .string ⟨#[]⟩, .int .i64 w, .int .u64 v, .int .i64 0] 32) = W2 at *
      generalize bs (digU 10 w 1) = A at *
      generalize bs (digU 16 v n) = Xh at *
      generalize bs (digU 10 v n) = Xd at *
      generalize bs (digU 2 v n) = Xb at *
      refine (KDh.out _).mono ?_
      rintro e w' ⟨rfl, rfl⟩
      go_wp2_with fail
      have hbw := Joins.below_bytesWorld W2.heap.size W2 5 Sh (Nat.le_refl _)
      refine (KSh.out _ _ (conv_bytes W2 Sh _) (HB.out.later (HW2.out.trans (hbw.mono HW2.out.size)))).mono ?_
      rintro e W3 ⟨rfl, hb3⟩
      have hb3' := hbw.trans (hb3.mono hbw.size)
      have HW3 := Lib.hid (HW2.out.trans (hb3'.mono HW2.out.size))
      have b3 := b2.later hb3'
      clear hbw hb3 hb3' b2
      go_wp2_with fail
      refine (KDd.out _).mono ?_
      rintro e w' ⟨rfl, rfl⟩
      go_wp2_with fail
      have hbw := Joins.below_bytesWorld W3.heap.size W3 5 Sd (Nat.le_refl _)
      refine (KSd.out _ _ (conv_bytes W3 Sd _) (HB.out.later (HW3.out.trans (hbw.mono HW3.out.size)))).mono ?_
      rintro e W4 ⟨rfl, hb4⟩
      have hb4' := hbw.trans (hb4.mono hbw.size)
      have HW4 := Lib.hid (HW3.out.trans (hb4'.mono HW3.out.size))
      have b4 := b3.later hb4'
      clear hbw hb4 hb4' b3
      go_wp2_with fail
      refine (KDb.out _).mono ?_
      rintro e w' ⟨rfl, rfl⟩
      go_wp2_with fail
      have hbw := Joins.below_bytesWorld W4.heap.size W4 5 Sb (Nat.le_refl _)
      refine (KSb.out _ _ (conv_bytes W4 Sb _) (HB.out.later (HW4.out.trans (hbw.mono HW4.out.size)))).mono ?_
      rintro e W5 ⟨rfl, hb5⟩
      have hb5' := hbw.trans (hb5.mono hbw.size)
      have HW5 := Lib.hid (HW4.out.trans (hb5'.mono HW4.out.size))
      have b5 := b4.later hb5'
      clear hbw hb5 hb5' b4
      go_wp2_with fail
      refine (KDd.out _).mono ?_
      rintro e w' ⟨rfl, rfl⟩
      go_wp2_with fail
      have hbw := Joins.below_bytesWorld W5.heap.size W5 5 Xd (Nat.le_refl _)
      refine (KSp.out _ _ (conv_bytes W5 Xd _) (HB.out.later (HW5.out.trans (hbw.mono HW5.out.size)))).mono ?_
      rintro e W6 ⟨⟨v6, rfl, ho6⟩, hb6⟩
      have hb6' := hbw.trans (hb6.mono hbw.size)
      have HW6 := Lib.hid (HW5.out.trans (hb6'.mono HW5.out.size))
      have b6 := b5.later hb6'
      have T6 := Lib.hid ho6.toks
      clear ho6
      clear hbw hb6 hb6' b5
      obtain ⟨g6, o6, k6, rfl, lt6, s6a, s6b, s6c, s6d, s6e⟩ := toks_one0 T6.out
      clear T6
      obtain ⟨q0, q1, q2, q3, q4, _, _, _, _, _, _⟩ := b6
      have n1 := tok0_neq 3 0 0 v
      have n2 := tok0_eql 3 w 0 v
      go_wp2_with fail
      go_ret
      exact ⟨rfl, HW6.out⟩
theorem numbers_any (w n : Int) (v : Nat) (hv : v < 18446744073709551616) (W : World) (hB : Base W) :
    Calls Tryd.prog 12 #[.int .i64 w, .int .u64 v, .int .i64 n] W fun e W' => e = .returned (.bool true) ∧ Below W.heap.size W W' := by
  by_cases h : 1 ≤ w ∧ w ≤ 70 ∧ 1 ≤ n ∧ n ≤ 80
  · obtain ⟨a, rfl⟩ : ∃ a : Nat, w = a := ⟨w.toNat, by omega⟩
    obtain ⟨b, rfl⟩ : ∃ b : Nat, n = b := ⟨n.toNat, by omega⟩
    exact numbers_in a b v (by omega) (by omega) (by omega) (by omega) hv W hB
  · exact numbers_out w n v h W hB

end Go.Proofs.YtpabaabkhmjdhaaDoor
