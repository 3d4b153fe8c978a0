/- The reference's figures, whole; its token. -/
import Derived.Test.YtpabaabkhmjdhaaDoorV2
namespace Go.Proofs.YtpabaabkhmjdhaaDoor
open Go.RowKit Go.Proofs.Scn Go.Flow Go.Sort
set_option linter.unusedVariables false
set_option linter.unusedSimpArgs false
set_option maxRecDepth 100000

theorem refFigures_any (s : ByteArray) (i : Nat) (hi : i < s.size) (hs : s.size ≤ 140737488351232) (h0 : 0 < headN isDigit (s.data.toList.drop i)) (W : World) :
    Calls Tryd.prog 56 #[.string s, .int .i64 i] W fun e W' => e = .returned (gotV i (figL (s.data.toList.drop i))) ∧ Below W.heap.size W W' := by
  have hlen : s.data.toList.length = s.size := rfl
  have kd := fun W => refDigits_any s i (by omega) (by omega) W
  have hNle := headN_le isDigit (s.data.toList.drop i)
  rw [List.length_drop, hlen] at hNle
  have ht : (s.extract i (i + headN isDigit (s.data.toList.drop i))).data.toList = (s.data.toList.drop i).takeWhile isDigit := by
    rw [extract_bs, list_bs, List.drop_take, Nat.add_sub_cancel_left, take_headN]
  have hdw : s.data.toList.drop (i + headN isDigit (s.data.toList.drop i)) = (s.data.toList.drop i).dropWhile isDigit := by
    rw [← List.drop_drop, drop_headN]
  have hall := all_takeWhile (p := isDigit) (s.data.toList.drop i)
  have hl : ((s.data.toList.drop i).takeWhile isDigit).length = headN isDigit (s.data.toList.drop i) := rfl
  have hfig : figL (s.data.toList.drop i) = match (s.data.toList.drop i).dropWhile isDigit with
    | [] => plainL ((s.data.toList.drop i).takeWhile isDigit)
    | c :: r => if c = 39 then wideL ((s.data.toList.drop i).takeWhile isDigit) r else if isLetter c then .bad 21 else plainL ((s.data.toList.drop i).takeWhile isDigit) := rfl
  rw [hfig]
  clear hfig
  generalize (s.data.toList.drop i).takeWhile isDigit = d at *
  generalize (s.data.toList.drop i).dropWhile isDigit = dr at *
  generalize headN isDigit (s.data.toList.drop i) = n at *
  have hfd := all_dig hall
  have hne : d.isEmpty = false := by
    cases d with
    | nil => simp at hl; omega
    | cons => rfl
  generalize hk : i + n = k at *
  have kn := fun W => refNumber_any (s.extract i k) 10 (by rw [size_list, ht, hl]; omega) (by omega) (by omega) W
  rw [ht] at kn
  have e1 : numA 10 d = cutV 10 d := by unfold numA; rw [hfd]; rfl
  have e2 : numB 10 d = smallV 10 d := by unfold numB; rw [hfd]; rfl
  rw [e1, e2] at kn
  clear e1 e2
  have plain : (smallV 10 d = true → gotV i (plainL d) = .agg #[.int .i64 3, .string ⟨#[]⟩, .int .i64 0, .int .u64 (cutV 10 d : Nat), .int .i64 i, .int .i64 n, .int .i64 0]) ∧
      (smallV 10 d = false → gotV i (plainL d) = .agg #[.int .i64 0, .string ⟨#[]⟩, .int .i64 0, .int .u64 0, .int .i64 0, .int .i64 0, .int .i64 22]) := by
    constructor
    · intro hsm
      have hlt : numV 10 d < two64 := by simpa [smallV] using hsm
      exact gotV_tok (by unfold plainL; rw [if_pos hlt]) rfl rfl rfl (cut_small hsm).symm (by rw [hl])
    · intro hsm
      have hlt : ¬ numV 10 d < two64 := by simpa [smallV] using hsm
      exact gotV_bad (by unfold plainL; rw [if_neg hlt])
  by_cases hks : k < s.size
  · have hdr : dr = s[k] :: s.data.toList.drop (k + 1) := by
      rw [← hdw, List.drop_eq_getElem_cons (show k < s.data.toList.length from hks)]
      rfl
    subst hdr
    by_cases h39 : s[k] = 39
    · simp only [h39, if_true]
      have h39' : ((s[k].toNat : Int) == 39) = true := by rw [h39]; rfl
      have kw := fun W => refWide_any s i n d _ hs (by omega) (by rw [hk]; exact ht) hfd hne rfl W
      rw [hk] at kw
      cases hw : wideL d (s.data.toList.drop (k + 1)) with
      | tok t m =>
        rw [hw] at kw
        exact refFig_wide s i n k hk hs hks h39' kd _ _ _ _ _ _ _ kw W
      | bad er =>
        rw [hw] at kw
        exact refFig_wide s i n k hk hs hks h39' kd _ _ _ _ _ _ _ kw W
    · have h39' : ((s[k].toNat : Int) == 39) = false := nat_ne 39 rfl h39
      simp only [if_neg h39]
      have kl := fun W => refLetter_any s[k] W
      cases hlt : isLetter s[k]
      · rw [hlt] at kl
        simp only [Bool.false_eq_true, if_false]
        cases hsm : smallV 10 d
        · rw [hsm] at kn
          rw [plain.2 hsm]
          exact refFig_in_false s i n k hk hs hks h39' kd kl _ _ kn W
        · rw [hsm] at kn
          rw [plain.1 hsm]
          exact refFig_in_true s i n k hk hs hks h39' kd kl _ _ kn W
      · rw [hlt] at kl
        simp only [if_true]
        rw [gotV_bad rfl]
        exact refFig_letter s i n k hk hs hks h39' kd kl W
  · have hdr : dr = [] := by rw [← hdw]; exact List.drop_of_length_le (by rw [hlen]; omega)
    subst hdr
    simp only []
    cases hsm : smallV 10 d
    · rw [hsm] at kn
      rw [plain.2 hsm]
      exact refFig_out_false s i n k hk hs (by omega) (by omega) kd _ _ kn W
    · rw [hsm] at kn
      rw [plain.1 hsm]
      exact refFig_out_true s i n k hk hs (by omega) (by omega) kd _ _ kn W

set_option maxHeartbeats 4000000 in
theorem refTok_long (s : ByteArray) (i : Nat) (hi : i < s.size) (hs : s.size ≤ 140737488351232) (n : Nat) (hn : 64 < n) (kl : ∀ W, Calls Tryd.prog 53 #[.int .u8 s[i].toNat] W fun e W' => e = .returned (.bool true) ∧ W = W') (kr : ∀ W, Calls Tryd.prog 54 #[.string s, .int .i64 i] W fun e W' => e = .returned (.int .i64 n) ∧ W = W') (W : World) :
    Calls Tryd.prog 32 #[.string s, .int .i64 i] W fun e W' => e = .returned (.agg #[.int .i64 0, .string ⟨#[]⟩, .int .i64 0, .int .u64 0, .int .i64 0, .int .i64 0, .int .i64 2]) ∧ Below W.heap.size W W' := by
  have hn' : (64 : Int) < (n : Int) := by omega
  clear hn
  have KR := Lib.hid kr
  have KL := Lib.hid kl
  clear kl kr
  have R := Box7.new W (.int .i64 0) (.string ⟨#[]⟩) (.int .i64 0) (.int .u64 0) (.int .i64 0) (.int .i64 0) (.int .i64 0) 52
  have hW : Below W.heap.size W (W.alloc (.cells #[.int .i64 0, .string ⟨#[]⟩, .int .i64 0, .int .u64 0, .int .i64 0, .int .i64 0, .int .i64 0] 52)) := (Below.refl _ _).alloc (Nat.le_refl _) _
  go_enter Tryd.func32, Tryd.ntmps32
  go_wp2_with fail
  generalize W.alloc (.cells #[.int .i64 0, .string ⟨#[]⟩, .int .i64 0, .int .u64 0, .int .i64 0, .int .i64 0, .int .i64 0] 52) = X at *
  refine (KL.out _).mono ?_
  rintro e w' ⟨rfl, rfl⟩
  go_wp2_with fail
  refine (KR.out _).mono ?_
  rintro e w' ⟨rfl, rfl⟩
  obtain ⟨c0, c1, c2, c3, c4, c5, c6, gc0, gc1, gc2, gc3, gc4, gc5, gc6, lc⟩ := R
  have HW := Lib.hid hW
  clear hW
  go_wp2
  refine bodyPost_ret (v := .agg #[.int .i64 0, .string ⟨#[]⟩, .int .i64 0, .int .u64 0, .int .i64 0, .int .i64 0, .int .i64 2]) ?_ rfl ⟨rfl, (((((((HW.out.setCell (Nat.le_refl _) _).setCell (Nat.le_refl _) _).setCell (Nat.le_refl _) _).setCell (Nat.le_refl _) _).setCell (Nat.le_refl _) _).setCell (Nat.le_refl _) _).setCell (Nat.le_refl _) _)⟩
  simp [results, Tryd.results32, go_sem, c0, c1, c2, c3, c4, c5, c6, gc0, gc1, gc2, gc3, gc4, gc5, gc6]

set_option maxHeartbeats 4000000 in
theorem refTok_word_true (s : ByteArray) (i : Nat) (hi : i < s.size) (hs : s.size ≤ 140737488351232) (n k : Nat) (hk : i + n = k) (hks : k ≤ s.size) (hn : n ≤ 64) (kl : ∀ W, Calls Tryd.prog 53 #[.int .u8 s[i].toNat] W fun e W' => e = .returned (.bool true) ∧ W = W') (kr : ∀ W, Calls Tryd.prog 54 #[.string s, .int .i64 i] W fun e W' => e = .returned (.int .i64 n) ∧ W = W') (kw : ∀ W, Calls Tryd.prog 20 #[.string (s.extract i k)] W fun e W' => e = .returned (.bool true) ∧ W = W') (W : World) :
    Calls Tryd.prog 32 #[.string s, .int .i64 i] W fun e W' => e = .returned (.agg #[.int .i64 2, .string (s.extract i k), .int .i64 0, .int .u64 0, .int .i64 i, .int .i64 n, .int .i64 0]) ∧ Below W.heap.size W W' := by
  have hki : (i : Int) + (n : Int) = (k : Int) := by omega
  have hn' : (n : Int) ≤ 64 := by omega
  clear hn hk
  have KR := Lib.hid kr
  have KW := Lib.hid kw
  have KL := Lib.hid kl
  clear kl kr kw
  have R := Box7.new W (.int .i64 0) (.string ⟨#[]⟩) (.int .i64 0) (.int .u64 0) (.int .i64 0) (.int .i64 0) (.int .i64 0) 52
  have hW : Below W.heap.size W (W.alloc (.cells #[.int .i64 0, .string ⟨#[]⟩, .int .i64 0, .int .u64 0, .int .i64 0, .int .i64 0, .int .i64 0] 52)) := (Below.refl _ _).alloc (Nat.le_refl _) _
  go_enter Tryd.func32, Tryd.ntmps32
  go_wp2_with fail
  generalize W.alloc (.cells #[.int .i64 0, .string ⟨#[]⟩, .int .i64 0, .int .u64 0, .int .i64 0, .int .i64 0, .int .i64 0] 52) = X at *
  refine (KL.out _).mono ?_
  rintro e w' ⟨rfl, rfl⟩
  go_wp2_with fail
  refine (KR.out _).mono ?_
  rintro e w' ⟨rfl, rfl⟩
  go_wp2_with fail
  refine (KW.out _).mono ?_
  rintro e w' ⟨rfl, rfl⟩
  obtain ⟨c0, c1, c2, c3, c4, c5, c6, gc0, gc1, gc2, gc3, gc4, gc5, gc6, lc⟩ := R
  have HW := Lib.hid hW
  clear hW
  go_wp2
  refine bodyPost_ret (v := .agg #[.int .i64 2, .string (s.extract i k), .int .i64 0, .int .u64 0, .int .i64 i, .int .i64 n, .int .i64 0]) ?_ rfl ⟨rfl, (((((((HW.out.setCell (Nat.le_refl _) _).setCell (Nat.le_refl _) _).setCell (Nat.le_refl _) _).setCell (Nat.le_refl _) _).setCell (Nat.le_refl _) _).setCell (Nat.le_refl _) _).setCell (Nat.le_refl _) _)⟩
  simp [results, Tryd.results32, go_sem, c0, c1, c2, c3, c4, c5, c6, gc0, gc1, gc2, gc3, gc4, gc5, gc6]

set_option maxHeartbeats 4000000 in
theorem refTok_word_false (s : ByteArray) (i : Nat) (hi : i < s.size) (hs : s.size ≤ 140737488351232) (n k : Nat) (hk : i + n = k) (hks : k ≤ s.size) (hn : n ≤ 64) (kl : ∀ W, Calls Tryd.prog 53 #[.int .u8 s[i].toNat] W fun e W' => e = .returned (.bool true) ∧ W = W') (kr : ∀ W, Calls Tryd.prog 54 #[.string s, .int .i64 i] W fun e W' => e = .returned (.int .i64 n) ∧ W = W') (kw : ∀ W, Calls Tryd.prog 20 #[.string (s.extract i k)] W fun e W' => e = .returned (.bool false) ∧ W = W') (W : World) :
    Calls Tryd.prog 32 #[.string s, .int .i64 i] W fun e W' => e = .returned (.agg #[.int .i64 1, .string (s.extract i k), .int .i64 0, .int .u64 0, .int .i64 i, .int .i64 n, .int .i64 0]) ∧ Below W.heap.size W W' := by
  have hki : (i : Int) + (n : Int) = (k : Int) := by omega
  have hn' : (n : Int) ≤ 64 := by omega
  clear hn hk
  have KR := Lib.hid kr
  have KW := Lib.hid kw
  have KL := Lib.hid kl
  clear kl kr kw
  have R := Box7.new W (.int .i64 0) (.string ⟨#[]⟩) (.int .i64 0) (.int .u64 0) (.int .i64 0) (.int .i64 0) (.int .i64 0) 52
  have hW : Below W.heap.size W (W.alloc (.cells #[.int .i64 0, .string ⟨#[]⟩, .int .i64 0, .int .u64 0, .int .i64 0, .int .i64 0, .int .i64 0] 52)) := (Below.refl _ _).alloc (Nat.le_refl _) _
  go_enter Tryd.func32, Tryd.ntmps32
  go_wp2_with fail
  generalize W.alloc (.cells #[.int .i64 0, .string ⟨#[]⟩, .int .i64 0, .int .u64 0, .int .i64 0, .int .i64 0, .int .i64 0] 52) = X at *
  refine (KL.out _).mono ?_
  rintro e w' ⟨rfl, rfl⟩
  go_wp2_with fail
  refine (KR.out _).mono ?_
  rintro e w' ⟨rfl, rfl⟩
  go_wp2_with fail
  refine (KW.out _).mono ?_
  rintro e w' ⟨rfl, rfl⟩
  obtain ⟨c0, c1, c2, c3, c4, c5, c6, gc0, gc1, gc2, gc3, gc4, gc5, gc6, lc⟩ := R
  have HW := Lib.hid hW
  clear hW
  go_wp2
  refine bodyPost_ret (v := .agg #[.int .i64 1, .string (s.extract i k), .int .i64 0, .int .u64 0, .int .i64 i, .int .i64 n, .int .i64 0]) ?_ rfl ⟨rfl, (((((((HW.out.setCell (Nat.le_refl _) _).setCell (Nat.le_refl _) _).setCell (Nat.le_refl _) _).setCell (Nat.le_refl _) _).setCell (Nat.le_refl _) _).setCell (Nat.le_refl _) _).setCell (Nat.le_refl _) _)⟩
  simp [results, Tryd.results32, go_sem, c0, c1, c2, c3, c4, c5, c6, gc0, gc1, gc2, gc3, gc4, gc5, gc6]

set_option maxHeartbeats 4000000 in
theorem refTok_fig (s : ByteArray) (i : Nat) (hi : i < s.size) (hs : s.size ≤ 140737488351232) (kl : ∀ W, Calls Tryd.prog 53 #[.int .u8 s[i].toNat] W fun e W' => e = .returned (.bool false) ∧ W = W') (kg : ∀ W, Calls Tryd.prog 55 #[.int .u8 s[i].toNat] W fun e W' => e = .returned (.bool true) ∧ W = W') (k' w p n' er : Int) (S : ByteArray) (v : Nat) (kf : ∀ W, Calls Tryd.prog 56 #[.string s, .int .i64 i] W fun e' W' => e' = .returned (.agg #[.int .i64 k', .string S, .int .i64 w, .int .u64 v, .int .i64 p, .int .i64 n', .int .i64 er]) ∧ Below W.heap.size W W') (W : World) :
    Calls Tryd.prog 32 #[.string s, .int .i64 i] W fun e W' => e = .returned (.agg #[.int .i64 k', .string S, .int .i64 w, .int .u64 v, .int .i64 p, .int .i64 n', .int .i64 er]) ∧ Below W.heap.size W W' := by
  have KG := Lib.hid kg
  have KF := Lib.hid kf
  have KL := Lib.hid kl
  clear kl kg kf
  have R := Box7.new W (.int .i64 0) (.string ⟨#[]⟩) (.int .i64 0) (.int .u64 0) (.int .i64 0) (.int .i64 0) (.int .i64 0) 52
  have hW : Below W.heap.size W (W.alloc (.cells #[.int .i64 0, .string ⟨#[]⟩, .int .i64 0, .int .u64 0, .int .i64 0, .int .i64 0, .int .i64 0] 52)) := (Below.refl _ _).alloc (Nat.le_refl _) _
  go_enter Tryd.func32, Tryd.ntmps32
  go_wp2_with fail
  generalize W.alloc (.cells #[.int .i64 0, .string ⟨#[]⟩, .int .i64 0, .int .u64 0, .int .i64 0, .int .i64 0, .int .i64 0] 52) = X at *
  refine (KL.out _).mono ?_
  rintro e w' ⟨rfl, rfl⟩
  go_wp2_with fail
  refine (KG.out _).mono ?_
  rintro e w' ⟨rfl, rfl⟩
  go_wp2_with fail
  refine (KF.out _).mono ?_
  rintro e W2 ⟨rfl, hb2⟩
  replace R := R.later hb2
  replace hW := hW.trans (hb2.mono hW.size)
  clear hb2
  obtain ⟨c0, c1, c2, c3, c4, c5, c6, gc0, gc1, gc2, gc3, gc4, gc5, gc6, lc⟩ := R
  have HW := Lib.hid hW
  clear hW
  go_wp2
  refine bodyPost_ret (v := .agg #[.int .i64 k', .string S, .int .i64 w, .int .u64 v, .int .i64 p, .int .i64 n', .int .i64 er]) ?_ rfl ⟨rfl, (((((((HW.out.setCell (Nat.le_refl _) _).setCell (Nat.le_refl _) _).setCell (Nat.le_refl _) _).setCell (Nat.le_refl _) _).setCell (Nat.le_refl _) _).setCell (Nat.le_refl _) _).setCell (Nat.le_refl _) _)⟩
  simp [results, Tryd.results32, go_sem, c0, c1, c2, c3, c4, c5, c6, gc0, gc1, gc2, gc3, gc4, gc5, gc6]

set_option maxHeartbeats 4000000 in
theorem refTok_two (s : ByteArray) (i : Nat) (hi : i < s.size) (hs : s.size ≤ 140737488351232) (j2 : Nat) (hj2 : i + 2 = j2) (h2s : j2 ≤ s.size) (kl : ∀ W, Calls Tryd.prog 53 #[.int .u8 s[i].toNat] W fun e W' => e = .returned (.bool false) ∧ W = W') (kg : ∀ W, Calls Tryd.prog 55 #[.int .u8 s[i].toNat] W fun e W' => e = .returned (.bool false) ∧ W = W') (k2 : ∀ W, Calls Tryd.prog 37 #[.string (s.extract i j2)] W fun e W' => e = .returned (.bool true) ∧ W = W') (W : World) :
    Calls Tryd.prog 32 #[.string s, .int .i64 i] W fun e W' => e = .returned (.agg #[.int .i64 4, .string (s.extract i j2), .int .i64 0, .int .u64 0, .int .i64 i, .int .i64 2, .int .i64 0]) ∧ Below W.heap.size W W' := by
  have hji2 : (i : Int) + 2 = (j2 : Int) := by omega
  have hjs2 : (i : Int) + 1 < (s.size : Int) := by omega
  clear hj2
  have KG := Lib.hid kg
  have K2 := Lib.hid k2
  have KL := Lib.hid kl
  clear kl kg k2
  have R := Box7.new W (.int .i64 0) (.string ⟨#[]⟩) (.int .i64 0) (.int .u64 0) (.int .i64 0) (.int .i64 0) (.int .i64 0) 52
  have hW : Below W.heap.size W (W.alloc (.cells #[.int .i64 0, .string ⟨#[]⟩, .int .i64 0, .int .u64 0, .int .i64 0, .int .i64 0, .int .i64 0] 52)) := (Below.refl _ _).alloc (Nat.le_refl _) _
  go_enter Tryd.func32, Tryd.ntmps32
  go_wp2_with fail
  generalize W.alloc (.cells #[.int .i64 0, .string ⟨#[]⟩, .int .i64 0, .int .u64 0, .int .i64 0, .int .i64 0, .int .i64 0] 52) = X at *
  refine (KL.out _).mono ?_
  rintro e w' ⟨rfl, rfl⟩
  go_wp2_with fail
  refine (KG.out _).mono ?_
  rintro e w' ⟨rfl, rfl⟩
  go_wp2_with fail
  refine (K2.out _).mono ?_
  rintro e w' ⟨rfl, rfl⟩
  obtain ⟨c0, c1, c2, c3, c4, c5, c6, gc0, gc1, gc2, gc3, gc4, gc5, gc6, lc⟩ := R
  have HW := Lib.hid hW
  clear hW
  go_wp2
  refine bodyPost_ret (v := .agg #[.int .i64 4, .string (s.extract i j2), .int .i64 0, .int .u64 0, .int .i64 i, .int .i64 2, .int .i64 0]) ?_ rfl ⟨rfl, (((((((HW.out.setCell (Nat.le_refl _) _).setCell (Nat.le_refl _) _).setCell (Nat.le_refl _) _).setCell (Nat.le_refl _) _).setCell (Nat.le_refl _) _).setCell (Nat.le_refl _) _).setCell (Nat.le_refl _) _)⟩
  simp [results, Tryd.results32, go_sem, c0, c1, c2, c3, c4, c5, c6, gc0, gc1, gc2, gc3, gc4, gc5, gc6]

set_option maxHeartbeats 4000000 in
theorem refTok_in_true (s : ByteArray) (i : Nat) (hi : i < s.size) (hs : s.size ≤ 140737488351232) (j2 : Nat) (hj2 : i + 2 = j2) (h2s : j2 ≤ s.size) (j1 : Nat) (hj1 : i + 1 = j1) (kl : ∀ W, Calls Tryd.prog 53 #[.int .u8 s[i].toNat] W fun e W' => e = .returned (.bool false) ∧ W = W') (kg : ∀ W, Calls Tryd.prog 55 #[.int .u8 s[i].toNat] W fun e W' => e = .returned (.bool false) ∧ W = W') (k2 : ∀ W, Calls Tryd.prog 37 #[.string (s.extract i j2)] W fun e W' => e = .returned (.bool false) ∧ W = W') (k1 : ∀ W, Calls Tryd.prog 37 #[.string (s.extract i j1)] W fun e W' => e = .returned (.bool true) ∧ W = W') (W : World) :
    Calls Tryd.prog 32 #[.string s, .int .i64 i] W fun e W' => e = .returned (.agg #[.int .i64 4, .string (s.extract i j1), .int .i64 0, .int .u64 0, .int .i64 i, .int .i64 1, .int .i64 0]) ∧ Below W.heap.size W W' := by
  have hji2 : (i : Int) + 2 = (j2 : Int) := by omega
  have hji1 : (i : Int) + 1 = (j1 : Int) := by omega
  have hjs1 : (j1 : Int) < (s.size : Int) := by omega
  clear hj2 hj1
  have KG := Lib.hid kg
  have K2 := Lib.hid k2
  have K1 := Lib.hid k1
  have KL := Lib.hid kl
  clear kl kg k2 k1
  have R := Box7.new W (.int .i64 0) (.string ⟨#[]⟩) (.int .i64 0) (.int .u64 0) (.int .i64 0) (.int .i64 0) (.int .i64 0) 52
  have hW : Below W.heap.size W (W.alloc (.cells #[.int .i64 0, .string ⟨#[]⟩, .int .i64 0, .int .u64 0, .int .i64 0, .int .i64 0, .int .i64 0] 52)) := (Below.refl _ _).alloc (Nat.le_refl _) _
  go_enter Tryd.func32, Tryd.ntmps32
  go_wp2_with fail
  generalize W.alloc (.cells #[.int .i64 0, .string ⟨#[]⟩, .int .i64 0, .int .u64 0, .int .i64 0, .int .i64 0, .int .i64 0] 52) = X at *
  refine (KL.out _).mono ?_
  rintro e w' ⟨rfl, rfl⟩
  go_wp2_with fail
  refine (KG.out _).mono ?_
  rintro e w' ⟨rfl, rfl⟩
  go_wp2_with fail
  refine (K2.out _).mono ?_
  rintro e w' ⟨rfl, rfl⟩
  go_wp2_with fail
  refine (K1.out _).mono ?_
  rintro e w' ⟨rfl, rfl⟩
  obtain ⟨c0, c1, c2, c3, c4, c5, c6, gc0, gc1, gc2, gc3, gc4, gc5, gc6, lc⟩ := R
  have HW := Lib.hid hW
  clear hW
  go_wp2
  refine bodyPost_ret (v := .agg #[.int .i64 4, .string (s.extract i j1), .int .i64 0, .int .u64 0, .int .i64 i, .int .i64 1, .int .i64 0]) ?_ rfl ⟨rfl, (((((((HW.out.setCell (Nat.le_refl _) _).setCell (Nat.le_refl _) _).setCell (Nat.le_refl _) _).setCell (Nat.le_refl _) _).setCell (Nat.le_refl _) _).setCell (Nat.le_refl _) _).setCell (Nat.le_refl _) _)⟩
  simp [results, Tryd.results32, go_sem, c0, c1, c2, c3, c4, c5, c6, gc0, gc1, gc2, gc3, gc4, gc5, gc6]

set_option maxHeartbeats 4000000 in
theorem refTok_end_true (s : ByteArray) (i : Nat) (hi : i < s.size) (hs : s.size ≤ 140737488351232) (j1 : Nat) (hj1 : i + 1 = j1) (h1s : s.size ≤ j1) (kl : ∀ W, Calls Tryd.prog 53 #[.int .u8 s[i].toNat] W fun e W' => e = .returned (.bool false) ∧ W = W') (kg : ∀ W, Calls Tryd.prog 55 #[.int .u8 s[i].toNat] W fun e W' => e = .returned (.bool false) ∧ W = W') (k1 : ∀ W, Calls Tryd.prog 37 #[.string (s.extract i j1)] W fun e W' => e = .returned (.bool true) ∧ W = W') (W : World) :
    Calls Tryd.prog 32 #[.string s, .int .i64 i] W fun e W' => e = .returned (.agg #[.int .i64 4, .string (s.extract i j1), .int .i64 0, .int .u64 0, .int .i64 i, .int .i64 1, .int .i64 0]) ∧ Below W.heap.size W W' := by
  have hji1 : (i : Int) + 1 = (j1 : Int) := by omega
  have hjs1 : ¬ (j1 : Int) < (s.size : Int) := by omega
  have hjl1 : j1 ≤ s.size := by omega
  clear hj1
  have KG := Lib.hid kg
  have K1 := Lib.hid k1
  have KL := Lib.hid kl
  clear kl kg k1
  have R := Box7.new W (.int .i64 0) (.string ⟨#[]⟩) (.int .i64 0) (.int .u64 0) (.int .i64 0) (.int .i64 0) (.int .i64 0) 52
  have hW : Below W.heap.size W (W.alloc (.cells #[.int .i64 0, .string ⟨#[]⟩, .int .i64 0, .int .u64 0, .int .i64 0, .int .i64 0, .int .i64 0] 52)) := (Below.refl _ _).alloc (Nat.le_refl _) _
  go_enter Tryd.func32, Tryd.ntmps32
  go_wp2_with fail
  generalize W.alloc (.cells #[.int .i64 0, .string ⟨#[]⟩, .int .i64 0, .int .u64 0, .int .i64 0, .int .i64 0, .int .i64 0] 52) = X at *
  refine (KL.out _).mono ?_
  rintro e w' ⟨rfl, rfl⟩
  go_wp2_with fail
  refine (KG.out _).mono ?_
  rintro e w' ⟨rfl, rfl⟩
  go_wp2_with fail
  refine (K1.out _).mono ?_
  rintro e w' ⟨rfl, rfl⟩
  obtain ⟨c0, c1, c2, c3, c4, c5, c6, gc0, gc1, gc2, gc3, gc4, gc5, gc6, lc⟩ := R
  have HW := Lib.hid hW
  clear hW
  go_wp2
  refine bodyPost_ret (v := .agg #[.int .i64 4, .string (s.extract i j1), .int .i64 0, .int .u64 0, .int .i64 i, .int .i64 1, .int .i64 0]) ?_ rfl ⟨rfl, (((((((HW.out.setCell (Nat.le_refl _) _).setCell (Nat.le_refl _) _).setCell (Nat.le_refl _) _).setCell (Nat.le_refl _) _).setCell (Nat.le_refl _) _).setCell (Nat.le_refl _) _).setCell (Nat.le_refl _) _)⟩
  simp [results, Tryd.results32, go_sem, c0, c1, c2, c3, c4, c5, c6, gc0, gc1, gc2, gc3, gc4, gc5, gc6]

set_option maxHeartbeats 4000000 in
theorem refTok_in_false (s : ByteArray) (i : Nat) (hi : i < s.size) (hs : s.size ≤ 140737488351232) (j2 : Nat) (hj2 : i + 2 = j2) (h2s : j2 ≤ s.size) (j1 : Nat) (hj1 : i + 1 = j1) (kl : ∀ W, Calls Tryd.prog 53 #[.int .u8 s[i].toNat] W fun e W' => e = .returned (.bool false) ∧ W = W') (kg : ∀ W, Calls Tryd.prog 55 #[.int .u8 s[i].toNat] W fun e W' => e = .returned (.bool false) ∧ W = W') (k2 : ∀ W, Calls Tryd.prog 37 #[.string (s.extract i j2)] W fun e W' => e = .returned (.bool false) ∧ W = W') (k1 : ∀ W, Calls Tryd.prog 37 #[.string (s.extract i j1)] W fun e W' => e = .returned (.bool false) ∧ W = W') (W : World) :
    Calls Tryd.prog 32 #[.string s, .int .i64 i] W fun e W' => e = .returned (.agg #[.int .i64 0, .string ⟨#[]⟩, .int .i64 0, .int .u64 0, .int .i64 0, .int .i64 0, .int .i64 20]) ∧ Below W.heap.size W W' := by
  have hji2 : (i : Int) + 2 = (j2 : Int) := by omega
  have hji1 : (i : Int) + 1 = (j1 : Int) := by omega
  have hjs1 : (j1 : Int) < (s.size : Int) := by omega
  clear hj2 hj1
  have KG := Lib.hid kg
  have K2 := Lib.hid k2
  have K1 := Lib.hid k1
  have KL := Lib.hid kl
  clear kl kg k2 k1
  have R := Box7.new W (.int .i64 0) (.string ⟨#[]⟩) (.int .i64 0) (.int .u64 0) (.int .i64 0) (.int .i64 0) (.int .i64 0) 52
  have hW : Below W.heap.size W (W.alloc (.cells #[.int .i64 0, .string ⟨#[]⟩, .int .i64 0, .int .u64 0, .int .i64 0, .int .i64 0, .int .i64 0] 52)) := (Below.refl _ _).alloc (Nat.le_refl _) _
  go_enter Tryd.func32, Tryd.ntmps32
  go_wp2_with fail
  generalize W.alloc (.cells #[.int .i64 0, .string ⟨#[]⟩, .int .i64 0, .int .u64 0, .int .i64 0, .int .i64 0, .int .i64 0] 52) = X at *
  refine (KL.out _).mono ?_
  rintro e w' ⟨rfl, rfl⟩
  go_wp2_with fail
  refine (KG.out _).mono ?_
  rintro e w' ⟨rfl, rfl⟩
  go_wp2_with fail
  refine (K2.out _).mono ?_
  rintro e w' ⟨rfl, rfl⟩
  go_wp2_with fail
  refine (K1.out _).mono ?_
  rintro e w' ⟨rfl, rfl⟩
  obtain ⟨c0, c1, c2, c3, c4, c5, c6, gc0, gc1, gc2, gc3, gc4, gc5, gc6, lc⟩ := R
  have HW := Lib.hid hW
  clear hW
  go_wp2
  refine bodyPost_ret (v := .agg #[.int .i64 0, .string ⟨#[]⟩, .int .i64 0, .int .u64 0, .int .i64 0, .int .i64 0, .int .i64 20]) ?_ rfl ⟨rfl, (((((((HW.out.setCell (Nat.le_refl _) _).setCell (Nat.le_refl _) _).setCell (Nat.le_refl _) _).setCell (Nat.le_refl _) _).setCell (Nat.le_refl _) _).setCell (Nat.le_refl _) _).setCell (Nat.le_refl _) _)⟩
  simp [results, Tryd.results32, go_sem, c0, c1, c2, c3, c4, c5, c6, gc0, gc1, gc2, gc3, gc4, gc5, gc6]

set_option maxHeartbeats 4000000 in
theorem refTok_end_false (s : ByteArray) (i : Nat) (hi : i < s.size) (hs : s.size ≤ 140737488351232) (j1 : Nat) (hj1 : i + 1 = j1) (h1s : s.size ≤ j1) (kl : ∀ W, Calls Tryd.prog 53 #[.int .u8 s[i].toNat] W fun e W' => e = .returned (.bool false) ∧ W = W') (kg : ∀ W, Calls Tryd.prog 55 #[.int .u8 s[i].toNat] W fun e W' => e = .returned (.bool false) ∧ W = W') (k1 : ∀ W, Calls Tryd.prog 37 #[.string (s.extract i j1)] W fun e W' => e = .returned (.bool false) ∧ W = W') (W : World) :
    Calls Tryd.prog 32 #[.string s, .int .i64 i] W fun e W' => e = .returned (.agg #[.int .i64 0, .string ⟨#[]⟩, .int .i64 0, .int .u64 0, .int .i64 0, .int .i64 0, .int .i64 20]) ∧ Below W.heap.size W W' := by
  have hji1 : (i : Int) + 1 = (j1 : Int) := by omega
  have hjs1 : ¬ (j1 : Int) < (s.size : Int) := by omega
  have hjl1 : j1 ≤ s.size := by omega
  clear hj1
  have KG := Lib.hid kg
  have K1 := Lib.hid k1
  have KL := Lib.hid kl
  clear kl kg k1
  have R := Box7.new W (.int .i64 0) (.string ⟨#[]⟩) (.int .i64 0) (.int .u64 0) (.int .i64 0) (.int .i64 0) (.int .i64 0) 52
  have hW : Below W.heap.size W (W.alloc (.cells #[.int .i64 0, .string ⟨#[]⟩, .int .i64 0, .int .u64 0, .int .i64 0, .int .i64 0, .int .i64 0] 52)) := (Below.refl _ _).alloc (Nat.le_refl _) _
  go_enter Tryd.func32, Tryd.ntmps32
  go_wp2_with fail
  generalize W.alloc (.cells #[.int .i64 0, .string ⟨#[]⟩, .int .i64 0, .int .u64 0, .int .i64 0, .int .i64 0, .int .i64 0] 52) = X at *
  refine (KL.out _).mono ?_
  rintro e w' ⟨rfl, rfl⟩
  go_wp2_with fail
  refine (KG.out _).mono ?_
  rintro e w' ⟨rfl, rfl⟩
  go_wp2_with fail
  refine (K1.out _).mono ?_
  rintro e w' ⟨rfl, rfl⟩
  obtain ⟨c0, c1, c2, c3, c4, c5, c6, gc0, gc1, gc2, gc3, gc4, gc5, gc6, lc⟩ := R
  have HW := Lib.hid hW
  clear hW
  go_wp2
  refine bodyPost_ret (v := .agg #[.int .i64 0, .string ⟨#[]⟩, .int .i64 0, .int .u64 0, .int .i64 0, .int .i64 0, .int .i64 20]) ?_ rfl ⟨rfl, (((((((HW.out.setCell (Nat.le_refl _) _).setCell (Nat.le_refl _) _).setCell (Nat.le_refl _) _).setCell (Nat.le_refl _) _).setCell (Nat.le_refl _) _).setCell (Nat.le_refl _) _).setCell (Nat.le_refl _) _)⟩
  simp [results, Tryd.results32, go_sem, c0, c1, c2, c3, c4, c5, c6, gc0, gc1, gc2, gc3, gc4, gc5, gc6]

theorem refToken_any (s : ByteArray) (i : Nat) (hi : i < s.size) (hs : s.size ≤ 140737488351232) (W : World) :
    Calls Tryd.prog 32 #[.string s, .int .i64 i] W fun e W' => e = .returned (gotV i (tokL (s.data.toList.drop i))) ∧ Below W.heap.size W W' := by
  have hlen : s.data.toList.length = s.size := rfl
  have hcons : s.data.toList.drop i = s[i] :: s.data.toList.drop (i + 1) := by
    rw [List.drop_eq_getElem_cons (show i < s.data.toList.length from hi)]
    rfl
  have kl := fun W => refLetter_any s[i] W
  have kg := fun W => refDigit_any s[i] W
  have htok : tokL (s.data.toList.drop i) = if isLetter s[i] then
      if 64 < (runL (s.data.toList.drop i)).length then .bad 2 else .tok ⟨if isWord (runL (s.data.toList.drop i)) then 2 else 1, runL (s.data.toList.drop i), 0, 0, 0⟩ (runL (s.data.toList.drop i)).length
    else if isDigit s[i] then figL (s.data.toList.drop i)
    else if 2 ≤ (s.data.toList.drop i).length ∧ isSign ((s.data.toList.drop i).take 2) = true then .tok ⟨4, (s.data.toList.drop i).take 2, 0, 0, 0⟩ 2
    else if isSign ((s.data.toList.drop i).take 1) then .tok ⟨4, (s.data.toList.drop i).take 1, 0, 0, 0⟩ 1
    else .bad 20 := by
    conv => lhs; rw [hcons]
    rw [tokL, ← hcons]
  rw [htok]
  clear htok
  cases hL : isLetter s[i]
  · rw [hL] at kl
    simp only [Bool.false_eq_true, if_false]
    cases hD : isDigit s[i]
    · rw [hD] at kg
      simp only [Bool.false_eq_true, if_false]
      have x2 : (s.extract i (i + 2)).data.toList = (s.data.toList.drop i).take 2 := by rw [extract_bs, list_bs, List.drop_take, Nat.add_sub_cancel_left]
      have x1 : (s.extract i (i + 1)).data.toList = (s.data.toList.drop i).take 1 := by rw [extract_bs, list_bs, List.drop_take, Nat.add_sub_cancel_left]
      have b2 : bs ((s.data.toList.drop i).take 2) = s.extract i (i + 2) := by rw [← x2, bs_list]
      have b1 : bs ((s.data.toList.drop i).take 1) = s.extract i (i + 1) := by rw [← x1, bs_list]
      have k2 := fun W => refSign_any (s.extract i (i + 2)) W
      have k1 := fun W => refSign_any (s.extract i (i + 1)) W
      rw [x2] at k2
      rw [x1] at k1
      have hll : (s.data.toList.drop i).length = s.size - i := by rw [List.length_drop, hlen]
      by_cases h2 : i + 2 ≤ s.size
      · cases hs2 : isSign ((s.data.toList.drop i).take 2)
        · rw [hs2] at k2
          rw [if_neg (by simp)]
          cases hs1 : isSign ((s.data.toList.drop i).take 1)
          · rw [hs1] at k1
            rw [if_neg (by simp), gotV_bad rfl]
            exact refTok_in_false s i hi hs _ rfl h2 _ rfl kl kg k2 k1 W
          · rw [hs1] at k1
            simp only [if_true]
            rw [gotV_tok rfl rfl b1 rfl rfl rfl]
            exact refTok_in_true s i hi hs _ rfl h2 _ rfl kl kg k2 k1 W
        · rw [hs2] at k2
          rw [if_pos ⟨by omega, rfl⟩, gotV_tok rfl rfl b2 rfl rfl rfl]
          exact refTok_two s i hi hs _ rfl h2 kl kg k2 W
      · rw [if_neg (by omega)]
        cases hs1 : isSign ((s.data.toList.drop i).take 1)
        · rw [hs1] at k1
          rw [if_neg (by simp), gotV_bad rfl]
          exact refTok_end_false s i hi hs _ rfl (by omega) kl kg k1 W
        · rw [hs1] at k1
          simp only [if_true]
          rw [gotV_tok rfl rfl b1 rfl rfl rfl]
          exact refTok_end_true s i hi hs _ rfl (by omega) kl kg k1 W
    · rw [hD] at kg
      simp only [if_true]
      have h0 : 0 < headN isDigit (s.data.toList.drop i) := by
        rw [hcons]
        simp [headN, List.takeWhile_cons, hD]
      have kf := fun W => refFigures_any s i hi hs h0 W
      cases hf : figL (s.data.toList.drop i) with
      | tok t m =>
        rw [hf] at kf
        exact refTok_fig s i hi hs kl kg _ _ _ _ _ _ _ kf W
      | bad er =>
        rw [hf] at kf
        exact refTok_fig s i hi hs kl kg _ _ _ _ _ _ _ kf W
  · rw [hL] at kl
    simp only [if_true]
    have kr := fun W => refRun_any s i (by omega) (by omega) W
    have hle := headN_le isPart (s.data.toList.drop i)
    rw [List.length_drop, hlen] at hle
    have hx : (s.extract i (i + headN isPart (s.data.toList.drop i))).data.toList = runL (s.data.toList.drop i) := by
      rw [extract_bs, list_bs, List.drop_take, Nat.add_sub_cancel_left, take_headN]
      rfl
    have hl : (runL (s.data.toList.drop i)).length = headN isPart (s.data.toList.drop i) := rfl
    have hb : bs (runL (s.data.toList.drop i)) = s.extract i (i + headN isPart (s.data.toList.drop i)) := by rw [← hx, bs_list]
    generalize headN isPart (s.data.toList.drop i) = n at *
    by_cases h64 : 64 < n
    · rw [if_pos (by rw [hl]; exact h64), gotV_bad rfl]
      exact refTok_long s i hi hs n h64 kl kr W
    · rw [if_neg (by rw [hl]; exact h64)]
      have kw := fun W => refWord_any (s.extract i (i + n)) W
      rw [hx] at kw
      cases hw : isWord (runL (s.data.toList.drop i))
      · rw [hw] at kw
        rw [gotV_tok rfl rfl hb rfl rfl (by rw [hl])]
        exact refTok_word_false s i hi hs n _ rfl (by omega) (by omega) kl kr kw W
      · rw [hw] at kw
        rw [gotV_tok rfl rfl hb rfl rfl (by rw [hl])]
        exact refTok_word_true s i hi hs n _ rfl (by omega) (by omega) kl kr kw W

end Go.Proofs.YtpabaabkhmjdhaaDoor
