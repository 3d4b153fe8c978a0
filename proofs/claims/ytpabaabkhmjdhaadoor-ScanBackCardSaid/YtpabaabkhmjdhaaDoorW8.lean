/- What a text begins with: scan. -/
import Derived.Test.YtpabaabkhmjdhaaDoorW7
namespace Go.Proofs.YtpabaabkhmjdhaaDoor
open Go.RowKit Go.Proofs.Scn Go.Flow Go.Sort
set_option linter.unusedVariables false
set_option linter.unusedSimpArgs false
set_option maxRecDepth 100000

/-- what token gives: a token and how long it is; or an error, and some token -/
def TokPost (g : Got) (e : Ending) : Prop := match g with
  | .tok t n => e = .returned (.tuple #[tokVal t, .int .i64 n, .int .i64 0])
  | .bad er => er ≠ 0 ∧ ∃ (k : Int) (S : ByteArray) (w : Int) (v : Nat) (p : Int), e = .returned (.tuple #[.agg #[.int .i64 k, .string S, .int .i64 w, .int .u64 v, .int .i64 p], .int .i64 0, .int .i64 er])

set_option maxHeartbeats 2000000 in
theorem token_word (s : ByteArray) (h0 : 0 < s.size) (S : ByteArray) (wd : Bool) (W : World)
    (kl : ∀ W, Calls Tryd.prog 49 #[.int .u8 s[0].toNat] W fun e W' => e = .returned (.bool true) ∧ W = W')
    (kr : ∀ W, Calls Tryd.prog 50 #[.string s] W fun e W' => e = .returned (.string S) ∧ W = W')
    (kw : ∀ o, Calls Tryd.prog 19 #[.string S] (W.alloc o) fun e W' => e = .returned (.bool wd) ∧ W.alloc o = W') (long : Bool) (hlong : long = true → (64 : Int) < (S.size : Int)) (hshort : long = false → (S.size : Int) ≤ 64) :
    Calls Tryd.prog 29 #[.string s] W fun e W' => e = .returned (.tuple #[.agg #[.int .i64 (if wd then 2 else 1), .string S, .int .i64 0, .int .u64 0, .int .i64 0], .int .i64 (if long then 0 else S.size), .int .i64 (if long then 2 else 0)]) ∧ Below W.heap.size W W' := by
  have KL := Lib.hid kl
  have KR := Lib.hid kr
  have KW := Lib.hid kw
  clear kl kr kw
  cases long
  · replace hshort := hshort rfl
    clear hlong
    cases wd
    all_goals
      go_enter Tryd.func29, Tryd.ntmps29
      go_wp2
      go_step3
      go_wp2_with fail
      refine (KL.out _).mono ?_
      rintro e w' ⟨rfl, rfl⟩
      go_wp2_with fail
      refine (KR.out _).mono ?_
      rintro e w' ⟨rfl, rfl⟩
      go_wp2_with fail
      refine (KW.out _).mono ?_
      rintro e w' ⟨rfl, rfl⟩
      go_wp2
      rw [Exit.noGoto_ret]
      refine bodyPost_ret (v := .tuple #[.agg #[.int .i64 _, .string S, .int .i64 0, .int .u64 0, .int .i64 0], .int .i64 S.size, .int .i64 0]) ?_ rfl ⟨rfl, ?_⟩
      · simp [results, Tryd.results29, go_sem]
      · exact (Below.refl _ _).alloc (Nat.le_refl _) _
  · replace hlong := hlong rfl
    clear hshort
    cases wd
    all_goals
      go_enter Tryd.func29, Tryd.ntmps29
      go_wp2
      go_step3
      go_wp2_with fail
      refine (KL.out _).mono ?_
      rintro e w' ⟨rfl, rfl⟩
      go_wp2_with fail
      refine (KR.out _).mono ?_
      rintro e w' ⟨rfl, rfl⟩
      go_wp2_with fail
      refine (KW.out _).mono ?_
      rintro e w' ⟨rfl, rfl⟩
      go_wp2
      rw [Exit.noGoto_ret]
      refine bodyPost_ret (v := .tuple #[.agg #[.int .i64 _, .string S, .int .i64 0, .int .u64 0, .int .i64 0], .int .i64 0, .int .i64 2]) ?_ rfl ⟨rfl, ?_⟩
      · simp [results, Tryd.results29, go_sem]
      · exact (Below.refl _ _).alloc (Nat.le_refl _) _

set_option maxHeartbeats 2000000 in
theorem token_fig (s : ByteArray) (h0 : 0 < s.size) (a w p n er : Int) (S : ByteArray) (v : Nat) (W : World)
    (kl : ∀ W, Calls Tryd.prog 49 #[.int .u8 s[0].toNat] W fun e W' => e = .returned (.bool false) ∧ W = W')
    (kd : ∀ W, Calls Tryd.prog 51 #[.int .u8 s[0].toNat] W fun e W' => e = .returned (.bool true) ∧ W = W')
    (kf : ∀ W, Calls Tryd.prog 52 #[.string s] W fun e W' => e = .returned (.tuple #[.agg #[.int .i64 a, .string S, .int .i64 w, .int .u64 v, .int .i64 p], .int .i64 n, .int .i64 er]) ∧ Below W.heap.size W W') :
    Calls Tryd.prog 29 #[.string s] W fun e W' => e = .returned (.tuple #[.agg #[.int .i64 a, .string S, .int .i64 w, .int .u64 v, .int .i64 p], .int .i64 n, .int .i64 er]) ∧ Below W.heap.size W W' := by
  have KL := Lib.hid kl
  have KD := Lib.hid kd
  have KF := Lib.hid kf
  clear kl kd kf
  have B := Box5.new W (.int .i64 0) (.string ⟨#[]⟩) (.int .i64 0) (.int .u64 0) (.int .i64 0) 32
  have hW : Below W.heap.size W (W.alloc (.cells #[.int .i64 0, .string ⟨#[]⟩, .int .i64 0, .int .u64 0, .int .i64 0] 32)) := (Below.refl _ _).alloc (Nat.le_refl _) _
  have HB := Lib.hid B
  have HW := Lib.hid hW
  clear B hW
  go_enter Tryd.func29, Tryd.ntmps29
  go_wp2
  go_step3
  go_wp2_with fail
  refine (KL.out _).mono ?_
  rintro e w' ⟨rfl, rfl⟩
  go_wp2_with fail
  refine (KD.out _).mono ?_
  rintro e w' ⟨rfl, rfl⟩
  go_wp2_with fail
  refine (KF.out _).mono ?_
  rintro e W1 ⟨rfl, hb1⟩
  have HV := Lib.hid (HW.out.trans (hb1.mono HW.out.size))
  obtain ⟨c0, c1, c2, c3, c4, f0, f1, f2, f3, f4, lt⟩ := HB.out.later hb1
  clear hb1
  go_wp2
  rw [Exit.noGoto_ret]
  refine bodyPost_ret (v := .tuple #[.agg #[.int .i64 a, .string S, .int .i64 w, .int .u64 v, .int .i64 p], .int .i64 n, .int .i64 er]) ?_ rfl ⟨rfl, (((((HV.out.setCell (Nat.le_refl _) _).setCell (Nat.le_refl _) _).setCell (Nat.le_refl _) _).setCell (Nat.le_refl _) _).setCell (Nat.le_refl _) _)⟩
  simp [results, Tryd.results29, go_sem, c0, c1, c2, c3, c4, f0, f1, f2, f3, f4]


set_option maxHeartbeats 2000000 in
theorem token_s1_yes (s : ByteArray) (h0 : 0 < s.size) (h1 : s.size = 1) (W : World) (kl : ∀ W, Calls Tryd.prog 49 #[.int .u8 s[0].toNat] W fun e W' => e = .returned (.bool false) ∧ W = W') (kd : ∀ W, Calls Tryd.prog 51 #[.int .u8 s[0].toNat] W fun e W' => e = .returned (.bool false) ∧ W = W') (k1 : ∀ o, Calls Tryd.prog 34 #[.string (s.extract 0 1)] (W.alloc o) fun e W' => e = .returned (.bool true) ∧ W.alloc o = W') :
    Calls Tryd.prog 29 #[.string s] W fun e W' => e = .returned (.tuple #[.agg #[.int .i64 4, .string (s.extract 0 1), .int .i64 0, .int .u64 0, .int .i64 0], .int .i64 1, .int .i64 0]) ∧ Below W.heap.size W W' := by
  have KL := Lib.hid kl
  have KD := Lib.hid kd
  clear kl kd
  have hmin : min (2 : Int) (s.size : Int) = 1 := by omega
  have hs1 : (1 : Int) ≤ (s.size : Int) := by omega
  clear h1
  have K1 := Lib.hid k1
  clear k1
  go_enter Tryd.func29, Tryd.ntmps29
  go_wp2
  go_step3
  go_wp2_with fail
  refine (KL.out _).mono ?_
  rintro e w' ⟨rfl, rfl⟩
  go_wp2_with fail
  refine (KD.out _).mono ?_
  rintro e w' ⟨rfl, rfl⟩
  go_wp2_with fail
  go_step3
  go_wp2_with fail
  refine wp_loop_rounds 1 ?_
  rw [rounds_succ]
  go_wp2_with fail
  refine (K1.out _).mono ?_
  rintro e w' ⟨rfl, rfl⟩
  go_wp2
  rw [Exit.noGoto_ret]
  refine bodyPost_ret (v := .tuple #[.agg #[.int .i64 4, .string (s.extract 0 1), .int .i64 0, .int .u64 0, .int .i64 0], .int .i64 1, .int .i64 0]) ?_ rfl ⟨rfl, ?_⟩
  · simp [results, Tryd.results29, go_sem]
  · exact (Below.refl _ _).alloc (Nat.le_refl _) _

set_option maxHeartbeats 2000000 in
theorem token_s1_no (s : ByteArray) (h0 : 0 < s.size) (h1 : s.size = 1) (W : World) (kl : ∀ W, Calls Tryd.prog 49 #[.int .u8 s[0].toNat] W fun e W' => e = .returned (.bool false) ∧ W = W') (kd : ∀ W, Calls Tryd.prog 51 #[.int .u8 s[0].toNat] W fun e W' => e = .returned (.bool false) ∧ W = W') (k1 : ∀ o, Calls Tryd.prog 34 #[.string (s.extract 0 1)] (W.alloc o) fun e W' => e = .returned (.bool false) ∧ W.alloc o = W') :
    Calls Tryd.prog 29 #[.string s] W fun e W' => e = .returned (.tuple #[.agg #[.int .i64 0, .string ⟨#[]⟩, .int .i64 0, .int .u64 0, .int .i64 0], .int .i64 0, .int .i64 20]) ∧ Below W.heap.size W W' := by
  have KL := Lib.hid kl
  have KD := Lib.hid kd
  clear kl kd
  have hmin : min (2 : Int) (s.size : Int) = 1 := by omega
  have hs1 : (1 : Int) ≤ (s.size : Int) := by omega
  clear h1
  have K1 := Lib.hid k1
  clear k1
  go_enter Tryd.func29, Tryd.ntmps29
  go_wp2
  go_step3
  go_wp2_with fail
  refine (KL.out _).mono ?_
  rintro e w' ⟨rfl, rfl⟩
  go_wp2_with fail
  refine (KD.out _).mono ?_
  rintro e w' ⟨rfl, rfl⟩
  go_wp2_with fail
  go_step3
  go_wp2_with fail
  refine wp_loop_rounds 2 ?_
  rw [rounds_succ]
  go_wp2_with fail
  refine (K1.out _).mono ?_
  rintro e w' ⟨rfl, rfl⟩
  go_wp2_with fail
  rw [rounds_succ]
  go_wp2_with fail
  go_wp2
  rw [Exit.noGoto_ret]
  refine bodyPost_ret (v := .tuple #[.agg #[.int .i64 0, .string ⟨#[]⟩, .int .i64 0, .int .u64 0, .int .i64 0], .int .i64 0, .int .i64 20]) ?_ rfl ⟨rfl, ?_⟩
  · simp [results, Tryd.results29, go_sem]
  · exact (Below.refl _ _).alloc (Nat.le_refl _) _

set_option maxHeartbeats 2000000 in
theorem token_s2_two (s : ByteArray) (h0 : 0 < s.size) (h1 : 2 ≤ s.size) (W : World) (kl : ∀ W, Calls Tryd.prog 49 #[.int .u8 s[0].toNat] W fun e W' => e = .returned (.bool false) ∧ W = W') (kd : ∀ W, Calls Tryd.prog 51 #[.int .u8 s[0].toNat] W fun e W' => e = .returned (.bool false) ∧ W = W') (k2 : ∀ o, Calls Tryd.prog 34 #[.string (s.extract 0 2)] (W.alloc o) fun e W' => e = .returned (.bool true) ∧ W.alloc o = W') :
    Calls Tryd.prog 29 #[.string s] W fun e W' => e = .returned (.tuple #[.agg #[.int .i64 4, .string (s.extract 0 2), .int .i64 0, .int .u64 0, .int .i64 0], .int .i64 2, .int .i64 0]) ∧ Below W.heap.size W W' := by
  have KL := Lib.hid kl
  have KD := Lib.hid kd
  clear kl kd
  have hmin : min (2 : Int) (s.size : Int) = 2 := by omega
  have hs1 : (2 : Int) ≤ (s.size : Int) := by omega
  have K2 := Lib.hid k2
  clear k2
  go_enter Tryd.func29, Tryd.ntmps29
  go_wp2
  go_step3
  go_wp2_with fail
  refine (KL.out _).mono ?_
  rintro e w' ⟨rfl, rfl⟩
  go_wp2_with fail
  refine (KD.out _).mono ?_
  rintro e w' ⟨rfl, rfl⟩
  go_wp2_with fail
  go_step3
  go_wp2_with fail
  refine wp_loop_rounds 1 ?_
  rw [rounds_succ]
  go_wp2_with fail
  refine (K2.out _).mono ?_
  rintro e w' ⟨rfl, rfl⟩
  go_wp2
  rw [Exit.noGoto_ret]
  refine bodyPost_ret (v := .tuple #[.agg #[.int .i64 4, .string (s.extract 0 2), .int .i64 0, .int .u64 0, .int .i64 0], .int .i64 2, .int .i64 0]) ?_ rfl ⟨rfl, ?_⟩
  · simp [results, Tryd.results29, go_sem]
  · exact (Below.refl _ _).alloc (Nat.le_refl _) _

set_option maxHeartbeats 2000000 in
theorem token_s2_one (s : ByteArray) (h0 : 0 < s.size) (h1 : 2 ≤ s.size) (W : World) (kl : ∀ W, Calls Tryd.prog 49 #[.int .u8 s[0].toNat] W fun e W' => e = .returned (.bool false) ∧ W = W') (kd : ∀ W, Calls Tryd.prog 51 #[.int .u8 s[0].toNat] W fun e W' => e = .returned (.bool false) ∧ W = W') (k2 : ∀ o, Calls Tryd.prog 34 #[.string (s.extract 0 2)] (W.alloc o) fun e W' => e = .returned (.bool false) ∧ W.alloc o = W') (k1 : ∀ o, Calls Tryd.prog 34 #[.string (s.extract 0 1)] (W.alloc o) fun e W' => e = .returned (.bool true) ∧ W.alloc o = W') :
    Calls Tryd.prog 29 #[.string s] W fun e W' => e = .returned (.tuple #[.agg #[.int .i64 4, .string (s.extract 0 1), .int .i64 0, .int .u64 0, .int .i64 0], .int .i64 1, .int .i64 0]) ∧ Below W.heap.size W W' := by
  have KL := Lib.hid kl
  have KD := Lib.hid kd
  clear kl kd
  have hmin : min (2 : Int) (s.size : Int) = 2 := by omega
  have hs1 : (2 : Int) ≤ (s.size : Int) := by omega
  have K1 := Lib.hid k1
  clear k1
  have K2 := Lib.hid k2
  clear k2
  go_enter Tryd.func29, Tryd.ntmps29
  go_wp2
  go_step3
  go_wp2_with fail
  refine (KL.out _).mono ?_
  rintro e w' ⟨rfl, rfl⟩
  go_wp2_with fail
  refine (KD.out _).mono ?_
  rintro e w' ⟨rfl, rfl⟩
  go_wp2_with fail
  go_step3
  go_wp2_with fail
  refine wp_loop_rounds 2 ?_
  rw [rounds_succ]
  go_wp2_with fail
  refine (K2.out _).mono ?_
  rintro e w' ⟨rfl, rfl⟩
  go_wp2_with fail
  rw [rounds_succ]
  go_wp2_with fail
  refine (K1.out _).mono ?_
  rintro e w' ⟨rfl, rfl⟩
  go_wp2
  rw [Exit.noGoto_ret]
  refine bodyPost_ret (v := .tuple #[.agg #[.int .i64 4, .string (s.extract 0 1), .int .i64 0, .int .u64 0, .int .i64 0], .int .i64 1, .int .i64 0]) ?_ rfl ⟨rfl, ?_⟩
  · simp [results, Tryd.results29, go_sem]
  · exact (Below.refl _ _).alloc (Nat.le_refl _) _

set_option maxHeartbeats 2000000 in
theorem token_s2_no (s : ByteArray) (h0 : 0 < s.size) (h1 : 2 ≤ s.size) (W : World) (kl : ∀ W, Calls Tryd.prog 49 #[.int .u8 s[0].toNat] W fun e W' => e = .returned (.bool false) ∧ W = W') (kd : ∀ W, Calls Tryd.prog 51 #[.int .u8 s[0].toNat] W fun e W' => e = .returned (.bool false) ∧ W = W') (k2 : ∀ o, Calls Tryd.prog 34 #[.string (s.extract 0 2)] (W.alloc o) fun e W' => e = .returned (.bool false) ∧ W.alloc o = W') (k1 : ∀ o, Calls Tryd.prog 34 #[.string (s.extract 0 1)] (W.alloc o) fun e W' => e = .returned (.bool false) ∧ W.alloc o = W') :
    Calls Tryd.prog 29 #[.string s] W fun e W' => e = .returned (.tuple #[.agg #[.int .i64 0, .string ⟨#[]⟩, .int .i64 0, .int .u64 0, .int .i64 0], .int .i64 0, .int .i64 20]) ∧ Below W.heap.size W W' := by
  have KL := Lib.hid kl
  have KD := Lib.hid kd
  clear kl kd
  have hmin : min (2 : Int) (s.size : Int) = 2 := by omega
  have hs1 : (2 : Int) ≤ (s.size : Int) := by omega
  have K1 := Lib.hid k1
  clear k1
  have K2 := Lib.hid k2
  clear k2
  go_enter Tryd.func29, Tryd.ntmps29
  go_wp2
  go_step3
  go_wp2_with fail
  refine (KL.out _).mono ?_
  rintro e w' ⟨rfl, rfl⟩
  go_wp2_with fail
  refine (KD.out _).mono ?_
  rintro e w' ⟨rfl, rfl⟩
  go_wp2_with fail
  go_step3
  go_wp2_with fail
  refine wp_loop_rounds 3 ?_
  rw [rounds_succ]
  go_wp2_with fail
  refine (K2.out _).mono ?_
  rintro e w' ⟨rfl, rfl⟩
  go_wp2_with fail
  rw [rounds_succ]
  go_wp2_with fail
  refine (K1.out _).mono ?_
  rintro e w' ⟨rfl, rfl⟩
  go_wp2_with fail
  rw [rounds_succ]
  go_wp2_with fail
  go_wp2
  rw [Exit.noGoto_ret]
  refine bodyPost_ret (v := .tuple #[.agg #[.int .i64 0, .string ⟨#[]⟩, .int .i64 0, .int .u64 0, .int .i64 0], .int .i64 0, .int .i64 20]) ?_ rfl ⟨rfl, ?_⟩
  · simp [results, Tryd.results29, go_sem]
  · exact (Below.refl _ _).alloc (Nat.le_refl _) _

theorem figL_bad {l : List UInt8} {er : Int} (hf : figL l = .bad er) : er ≠ 0 := by
  have hp : ∀ {d}, plainL d = .bad er → er ≠ 0 := fun {d} h => by
    unfold plainL at h
    split at h <;> cases h
    decide
  unfold figL at hf
  split at hf
  · exact hp hf
  · split at hf
    · unfold wideL at hf
      split at hf
      · cases hf; decide
      · split at hf
        · cases hf; decide
        · split at hf
          · cases hf; decide
          · split at hf <;> cases hf
            decide
    · split at hf
      · cases hf; decide
      · exact hp hf

theorem takeWhile_pos {p : UInt8 → Bool} {c : UInt8} {r : List UInt8} (h : p c = true) : 0 < ((c :: r).takeWhile p).length := by
  rw [List.takeWhile_cons, if_pos h]; simp

theorem token_any (s : ByteArray) (hs : s.size ≤ 140737488351232) (h0 : 0 < s.size) (W : World) (hB : Base W) :
    Calls Tryd.prog 29 #[.string s] W fun e W' => TokPost (tokL s.data.toList) e ∧ Below W.heap.size W W' := by
  obtain ⟨c, r, hcr⟩ : ∃ c r, s.data.toList = c :: r := by
    cases h : s.data.toList with
    | nil => have : s.data.toList.length = s.size := rfl
             rw [h] at this; simp at this; omega
    | cons c r => exact ⟨c, r, rfl⟩
  obtain ⟨_, hg⟩ := head_get s c r hcr
  have kl := fun W => letter_any s[0] W
  have kd := fun W => digit_any s[0] W
  rw [hg] at kl kd
  have hlen : s.data.toList.length = s.size := rfl
  cases hl : isLetter c
  · rw [hl] at kl
    cases hd : isDigit c
    · rw [hd] at kd
      have t1 : (s.extract 0 1).data.toList = s.data.toList.take 1 := by rw [extract_bs, list_bs, List.drop_zero]
      have t2 : (s.extract 0 2).data.toList = s.data.toList.take 2 := by rw [extract_bs, list_bs, List.drop_zero]
      have k1 : ∀ o, Calls Tryd.prog 34 #[.string (s.extract 0 1)] (W.alloc o) fun e W' => e = .returned (.bool (isSign (s.data.toList.take 1))) ∧ W.alloc o = W' := fun o => by
        obtain ⟨m, hm⟩ := (hB.alloc o).max
        have := sign_any (s.extract 0 1) (by rw [size_list, t1]; simp; omega) _ m hm
        rwa [t1] at this
      have k2 : ∀ o, Calls Tryd.prog 34 #[.string (s.extract 0 2)] (W.alloc o) fun e W' => e = .returned (.bool (isSign (s.data.toList.take 2))) ∧ W.alloc o = W' := fun o => by
        obtain ⟨m, hm⟩ := (hB.alloc o).max
        have := sign_any (s.extract 0 2) (by rw [size_list, t2]; simp; omega) _ m hm
        rwa [t2] at this
      have hb1 : bs (s.data.toList.take 1) = s.extract 0 1 := by rw [← t1]; rfl
      have hb2 : bs (s.data.toList.take 2) = s.extract 0 2 := by rw [← t2]; rfl
      have hT : tokL s.data.toList = if 2 ≤ s.data.toList.length ∧ isSign (s.data.toList.take 2) = true then .tok ⟨4, s.data.toList.take 2, 0, 0, 0⟩ 2 else if isSign (s.data.toList.take 1) then .tok ⟨4, s.data.toList.take 1, 0, 0, 0⟩ 1 else .bad 20 := by
        rw [hcr, tokL, if_neg (by simp [hl]), if_neg (by simp [hd])]
      rw [hT, hlen]
      rw [← hg] at kl kd
      by_cases h1 : s.size = 1
      · rw [if_neg (by omega)]
        cases h : isSign (s.data.toList.take 1)
        · rw [h] at k1
          exact (token_s1_no s h0 h1 W kl kd k1).mono fun e W' h => ⟨⟨by decide, _, _, _, _, _, h.1⟩, h.2⟩
        · rw [h] at k1
          exact (token_s1_yes s h0 h1 W kl kd k1).mono fun e W' h => ⟨by rw [h.1, ← hb1]; rfl, h.2⟩
      · have h2 : 2 ≤ s.size := by omega
        cases hh : isSign (s.data.toList.take 2)
        · rw [hh] at k2
          rw [if_neg (by simp)]
          cases h : isSign (s.data.toList.take 1)
          · rw [h] at k1
            exact (token_s2_no s h0 h2 W kl kd k2 k1).mono fun e W' h => ⟨⟨by decide, _, _, _, _, _, h.1⟩, h.2⟩
          · rw [h] at k1
            exact (token_s2_one s h0 h2 W kl kd k2 k1).mono fun e W' h => ⟨by rw [h.1, ← hb1]; rfl, h.2⟩
        · rw [hh] at k2
          rw [if_pos ⟨h2, rfl⟩]
          exact (token_s2_two s h0 h2 W kl kd k2).mono fun e W' h => ⟨by rw [h.1, ← hb2]; rfl, h.2⟩
    · rw [hd] at kd
      rw [← hg] at kl kd
      have hN : 0 < headN isDigit s.data.toList := by rw [hcr]; exact takeWhile_pos hd
      have hT : tokL s.data.toList = figL s.data.toList := by rw [hcr, tokL, if_neg (by simp [hl]), if_pos hd]
      rw [hT]
      have kf := fun W => figures_any s hs hN W
      cases hf : figL s.data.toList with
      | tok t n =>
        rw [hf] at kf
        exact (token_fig s h0 _ _ _ _ _ _ _ W kl kd kf).mono fun e W' h => ⟨h.1, h.2⟩
      | bad er =>
        rw [hf] at kf
        have her : er ≠ 0 := figL_bad hf
        exact (token_fig s h0 _ _ _ _ _ _ _ W kl kd kf).mono fun e W' h => ⟨⟨her, _, _, _, _, _, h.1⟩, h.2⟩
  · rw [hl] at kl
    rw [← hg] at kl
    have hT : tokL s.data.toList = if 64 < (runL s.data.toList).length then .bad 2 else .tok ⟨if isWord (runL s.data.toList) then 2 else 1, runL s.data.toList, 0, 0, 0⟩ (runL s.data.toList).length := by
      rw [hcr, tokL, if_pos hl]
    rw [hT]
    have kr := fun W => run_any s (by omega) W
    have hrl : (runL s.data.toList).length ≤ 140737488351232 := by
      have := takeWhile_le (p := isPart) s.data.toList
      unfold runL; omega
    have kw : ∀ o, Calls Tryd.prog 19 #[.string (bs (runL s.data.toList))] (W.alloc o) fun e W' => e = .returned (.bool (isWord (runL s.data.toList))) ∧ W.alloc o = W' := fun o => by
      obtain ⟨m, hm⟩ := (hB.alloc o).max
      exact word_any (bs (runL s.data.toList)) (by rw [size_bs]; omega) _ m hm
    by_cases h64 : 64 < (runL s.data.toList).length
    · rw [if_pos h64]
      refine (token_word s h0 _ _ W kl kr kw true (fun _ => by rw [size_bs]; omega) (fun h => by cases h)).mono fun e W' h => ⟨⟨by decide, _, _, _, 0, _, h.1⟩, h.2⟩
    · rw [if_neg h64]
      refine (token_word s h0 _ _ W kl kr kw false (fun h => by cases h) (fun _ => by rw [size_bs]; omega)).mono fun e W' h => ⟨?_, h.2⟩
      rw [h.1]
      rfl

end Go.Proofs.YtpabaabkhmjdhaaDoor
