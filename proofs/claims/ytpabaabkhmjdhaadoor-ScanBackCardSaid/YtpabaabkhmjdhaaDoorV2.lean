/- The reference's number with a width, whole; its numbers. -/
import Derived.Test.YtpabaabkhmjdhaaDoorV1
namespace Go.Proofs.YtpabaabkhmjdhaaDoor
open Go.RowKit Go.Proofs.Scn Go.Flow Go.Sort
set_option linter.unusedVariables false
set_option linter.unusedSimpArgs false
set_option maxRecDepth 100000

/-- what the reference gives: a token, where it stands, how long it is; or an error -/
def gotV (i : Int) : Got → Value
  | .tok t n => .agg #[.int .i64 t.k, .string (bs t.s), .int .i64 t.w, .int .u64 t.v, .int .i64 i, .int .i64 n, .int .i64 0]
  | .bad e => .agg #[.int .i64 0, .string ⟨#[]⟩, .int .i64 0, .int .u64 0, .int .i64 0, .int .i64 0, .int .i64 e]
theorem gotV_bad {i e : Int} {g : Got} (h : g = .bad e) : gotV i g = .agg #[.int .i64 0, .string ⟨#[]⟩, .int .i64 0, .int .u64 0, .int .i64 0, .int .i64 0, .int .i64 e] := by rw [h]; rfl
theorem gotV_tok {i : Int} {g : Got} {k w n : Int} {s : ByteArray} {v : Nat} {t : Tok} {m : Nat} (h : g = .tok t m) (h1 : t.k = k) (h2 : bs t.s = s) (h3 : t.w = w) (h4 : t.v = v) (h6 : (m : Int) = n) :
    gotV i g = .agg #[.int .i64 k, .string s, .int .i64 w, .int .u64 v, .int .i64 i, .int .i64 n, .int .i64 0] := by rw [h, gotV, h1, h2, h3, h4, h6]

theorem numO_iff {b : Nat} {l : List UInt8} : numO b l = decide (numE b l = 0) := by
  unfold numO numE
  cases allFig b l <;> cases l.isEmpty <;> simp

theorem refWide_any (s : ByteArray) (i n : Nat) (d r : List UInt8) (hs : s.size ≤ 140737488351232) (hin : i + n < s.size) (hd : (s.extract i (i + n)).data.toList = d) (hda : allFig 10 d = true) (hd0 : d.isEmpty = false) (hr : s.data.toList.drop (i + n + 1) = r) (W : World) :
    Calls Tryd.prog 69 #[.string s, .int .i64 i, .int .i64 n] W fun e W' => e = .returned (gotV i (wideL d r)) ∧ Below W.heap.size W W' := by
  have hlen : s.data.toList.length = s.size := rfl
  have hdl : d.length = n := by
    rw [← hd, extract_bs, list_bs]
    simp
    omega
  by_cases hks : i + n + 1 < s.size
  · generalize hk : i + n + 1 = k at hks hr
    have hrc : r = s[k] :: s.data.toList.drop (k + 1) := by
      rw [← hr, List.drop_eq_getElem_cons (show k < s.data.toList.length from hks)]
      rfl
    clear hr
    subst hrc
    have kb := fun W => base_any s[k] W
    by_cases hb : baseL s[k] = 0
    · rw [hb] at kb
      rw [gotV_bad (show wideL d (s[k] :: s.data.toList.drop (k + 1)) = .bad 21 by rw [wideL, if_pos hb])]
      exact refWide_base s i n k hk hs hks kb W
    generalize hc : s[k] = c at kb hb
    have hbb : 2 ≤ baseL c ∧ baseL c ≤ 16 := by
      unfold baseL at hb ⊢
      split
      · omega
      · split
        · omega
        · split
          · omega
          · rename_i n1 n2 n3; rw [if_neg n1, if_neg n2, if_neg n3] at hb; exact absurd rfl hb
    generalize hrr : s.data.toList.drop (k + 1) = rr
    have hm : headN isPart rr ≤ rr.length := headN_le _ _
    have hrl : rr.length = s.size - (k + 1) := by rw [← hrr]; simp
    have kr := fun W => refRun_any s (k + 1) (by omega) (by omega) W
    rw [hrr] at kr
    have hrun : (s.extract (k + 1) (k + 1 + headN isPart rr)).data.toList = runL rr := by
      rw [extract_bs, list_bs, List.drop_take, hrr, Nat.add_sub_cancel_left, take_headN]
      rfl
    have hml : (runL rr).length = headN isPart rr := rfl
    generalize hmm : headN isPart rr = m at *
    have kv := fun W => refNumber_any (s.extract (k + 1) (k + 1 + m)) (baseL c) (by rw [size_list, hrun, hml]; omega) hbb.1 hbb.2 W
    rw [hrun, numO_iff] at kv
    have kd := fun W => refNumber_any (s.extract i (i + n)) 10 (by rw [size_list, hd, hdl]; omega) (by omega) (by omega) W
    rw [hd] at kd
    have e1 : numA 10 d = cutV 10 d := by unfold numA; rw [hda]; rfl
    have e2 : numB 10 d = smallV 10 d := by unfold numB; rw [hda]; rfl
    rw [e1, e2] at kd
    clear hrun hrr hmm e1 e2
    by_cases he : numE (baseL c) (runL rr) = 0
    · obtain ⟨ha, hw⟩ := wideL_o (d := d) hb he
      rw [hw]
      rw [decide_eq_true he] at kv
      have a1 : numA (baseL c) (runL rr) = cutV (baseL c) (runL rr) := by unfold numA; rw [ha]; rfl
      have a2 : numB (baseL c) (runL rr) = smallV (baseL c) (runL rr) := by unfold numB; rw [ha]; rfl
      rw [a1, a2] at kv
      cases hf : smallV 10 d
      · rw [hf] at kd
        rw [gotV_bad (by simp : _ = Got.bad 22)]
        exact refWide_few s i n k (baseL c) m _ _ hk hs _ _ hks hb (by omega) (by omega) (hc ▸ kb) kr kv kd W
      · rw [hf, cut_small hf] at kd
        by_cases hw0 : numV 10 d < 1
        · have : fitsV (numV 10 d) (numV (baseL c) (runL rr)) = false := by
            simp [fitsV]
            intro h; omega
          rw [gotV_bad (by rw [this]; simp : _ = Got.bad 22)]
          exact refWide_w0 s i n k (baseL c) m _ _ hk hs _ _ hks hb (by omega) (by omega) (hc ▸ kb) kr kv kd hw0 W
        by_cases hw64 : 64 < numV 10 d
        · have : fitsV (numV 10 d) (numV (baseL c) (runL rr)) = false := by
            simp [fitsV]
            intro _ h; omega
          rw [gotV_bad (by rw [this]; simp : _ = Got.bad 22)]
          exact refWide_w64 s i n k (baseL c) m _ _ hk hs _ _ hks hb (by omega) (by omega) (hc ▸ kb) kr kv kd hw64 W
        cases hsm : smallV (baseL c) (runL rr)
        · rw [hsm] at kv
          rw [gotV_bad (by simp : _ = Got.bad 22)]
          exact refWide_sm s i n k (baseL c) m _ _ hk hs _ hks hb (by omega) (by omega) (hc ▸ kb) kr kv kd (by omega) (by omega) W
        · have hlt : numV (baseL c) (runL rr) < 18446744073709551616 := by
            have : numV (baseL c) (runL rr) < two64 := by simpa [smallV] using hsm
            exact this
          rw [hsm, cut_small hsm] at kv
          have kf := fun W => refFits_any (numV 10 d) (numV (baseL c) (runL rr)) hlt W
          cases hfi : fitsV (numV 10 d) (numV (baseL c) (runL rr))
          · rw [hfi] at kf
            rw [gotV_bad (by simp : _ = Got.bad 22)]
            exact refWide_nf s i n k (baseL c) m _ _ hk hs _ hks hb (by omega) (by omega) (hc ▸ kb) kr kv kd kf (by omega) (by omega) W
          · rw [hfi] at kf
            rw [gotV_tok (n := (k : Int) + 1 + (m : Int) - (i : Int)) (by simp; exact ⟨rfl, rfl⟩) rfl rfl rfl rfl (by rw [hdl, hml]; omega)]
            exact refWide_tok s i n k (baseL c) m _ _ hk hs _ hks hb (by omega) (by omega) (hc ▸ kb) kr kv kd kf (by omega) (by omega) W
    · obtain ⟨hw, _⟩ := wideL_e (d := d) hb he
      rw [gotV_bad hw]
      rw [decide_eq_false he] at kv
      exact refWide_ok s i n k (baseL c) m _ hk hs _ hks hb (by omega) (hc ▸ kb) kr kv W
  · have : r = [] := by rw [← hr]; exact List.drop_of_length_le (by rw [hlen]; omega)
    subst this
    exact refWide_end s i n _ rfl hs (by omega) (by omega) W

set_option maxHeartbeats 4000000 in
theorem refFig_wide (s : ByteArray) (i n k : Nat) (hk : i + n = k) (hs : s.size ≤ 140737488351232) (hks : k < s.size) (h39 : ((s[k].toNat : Int) == 39) = true) (kd : ∀ W, Calls Tryd.prog 68 #[.string s, .int .i64 i] W fun e W' => e = .returned (.int .i64 n) ∧ W = W') (k' w p n' er : Int) (S : ByteArray) (v : Nat) (kw : ∀ W, Calls Tryd.prog 69 #[.string s, .int .i64 i, .int .i64 n] W fun e' W' => e' = .returned (.agg #[.int .i64 k', .string S, .int .i64 w, .int .u64 v, .int .i64 p, .int .i64 n', .int .i64 er]) ∧ Below W.heap.size W W') (W : World) :
    Calls Tryd.prog 56 #[.string s, .int .i64 i] W fun e W' => e = .returned (.agg #[.int .i64 k', .string S, .int .i64 w, .int .u64 v, .int .i64 p, .int .i64 n', .int .i64 er]) ∧ Below W.heap.size W W' := by
  have hki : (i : Int) + (n : Int) = (k : Int) := by omega
  have hlt : (k : Int) < (s.size : Int) := by omega
  have KW := Lib.hid kw
  clear kw
  have KD := Lib.hid kd
  clear kd hk
  have R := Box7.new W (.int .i64 0) (.string ⟨#[]⟩) (.int .i64 0) (.int .u64 0) (.int .i64 0) (.int .i64 0) (.int .i64 0) 52
  have hW : Below W.heap.size W (W.alloc (.cells #[.int .i64 0, .string ⟨#[]⟩, .int .i64 0, .int .u64 0, .int .i64 0, .int .i64 0, .int .i64 0] 52)) := (Below.refl _ _).alloc (Nat.le_refl _) _
  go_enter Tryd.func56, Tryd.ntmps56
  go_wp2_with fail
  refine (KD.out _).mono ?_
  rintro e w' ⟨rfl, rfl⟩
  go_wp2_with fail
  generalize W.alloc (.cells #[.int .i64 0, .string ⟨#[]⟩, .int .i64 0, .int .u64 0, .int .i64 0, .int .i64 0, .int .i64 0] 52) = X at *
  refine (KW.out _).mono ?_
  rintro e W2 ⟨rfl, hb2⟩
  replace R := R.later hb2
  replace hW := hW.trans (hb2.mono hW.size)
  clear hb2
  obtain ⟨c0, c1, c2, c3, c4, c5, c6, gc0, gc1, gc2, gc3, gc4, gc5, gc6, lc⟩ := R
  have HW := Lib.hid hW
  clear hW
  go_wp2
  refine bodyPost_ret (v := .agg #[.int .i64 k', .string S, .int .i64 w, .int .u64 v, .int .i64 p, .int .i64 n', .int .i64 er]) ?_ rfl ⟨rfl, (((((((HW.out.setCell (Nat.le_refl _) _).setCell (Nat.le_refl _) _).setCell (Nat.le_refl _) _).setCell (Nat.le_refl _) _).setCell (Nat.le_refl _) _).setCell (Nat.le_refl _) _).setCell (Nat.le_refl _) _)⟩
  simp [results, Tryd.results56, go_sem, c0, c1, c2, c3, c4, c5, c6, gc0, gc1, gc2, gc3, gc4, gc5, gc6]

set_option maxHeartbeats 4000000 in
theorem refFig_letter (s : ByteArray) (i n k : Nat) (hk : i + n = k) (hs : s.size ≤ 140737488351232) (hks : k < s.size) (h39 : ((s[k].toNat : Int) == 39) = false) (kd : ∀ W, Calls Tryd.prog 68 #[.string s, .int .i64 i] W fun e W' => e = .returned (.int .i64 n) ∧ W = W') (kl : ∀ W, Calls Tryd.prog 53 #[.int .u8 s[k].toNat] W fun e W' => e = .returned (.bool true) ∧ W = W') (W : World) :
    Calls Tryd.prog 56 #[.string s, .int .i64 i] W fun e W' => e = .returned (.agg #[.int .i64 0, .string ⟨#[]⟩, .int .i64 0, .int .u64 0, .int .i64 0, .int .i64 0, .int .i64 21]) ∧ Below W.heap.size W W' := by
  have hki : (i : Int) + (n : Int) = (k : Int) := by omega
  have hlt : (k : Int) < (s.size : Int) := by omega
  have KL := Lib.hid kl
  clear kl
  have KD := Lib.hid kd
  clear kd hk
  have R := Box7.new W (.int .i64 0) (.string ⟨#[]⟩) (.int .i64 0) (.int .u64 0) (.int .i64 0) (.int .i64 0) (.int .i64 0) 52
  have hW : Below W.heap.size W (W.alloc (.cells #[.int .i64 0, .string ⟨#[]⟩, .int .i64 0, .int .u64 0, .int .i64 0, .int .i64 0, .int .i64 0] 52)) := (Below.refl _ _).alloc (Nat.le_refl _) _
  go_enter Tryd.func56, Tryd.ntmps56
  go_wp2_with fail
  refine (KD.out _).mono ?_
  rintro e w' ⟨rfl, rfl⟩
  go_wp2_with fail
  generalize W.alloc (.cells #[.int .i64 0, .string ⟨#[]⟩, .int .i64 0, .int .u64 0, .int .i64 0, .int .i64 0, .int .i64 0] 52) = X at *
  refine (KL.out _).mono ?_
  rintro e w' ⟨rfl, rfl⟩
  obtain ⟨c0, c1, c2, c3, c4, c5, c6, gc0, gc1, gc2, gc3, gc4, gc5, gc6, lc⟩ := R
  have HW := Lib.hid hW
  clear hW
  go_wp2
  refine bodyPost_ret (v := .agg #[.int .i64 0, .string ⟨#[]⟩, .int .i64 0, .int .u64 0, .int .i64 0, .int .i64 0, .int .i64 21]) ?_ rfl ⟨rfl, (((((((HW.out.setCell (Nat.le_refl _) _).setCell (Nat.le_refl _) _).setCell (Nat.le_refl _) _).setCell (Nat.le_refl _) _).setCell (Nat.le_refl _) _).setCell (Nat.le_refl _) _).setCell (Nat.le_refl _) _)⟩
  simp [results, Tryd.results56, go_sem, c0, c1, c2, c3, c4, c5, c6, gc0, gc1, gc2, gc3, gc4, gc5, gc6]

set_option maxHeartbeats 4000000 in
theorem refFig_in_true (s : ByteArray) (i n k : Nat) (hk : i + n = k) (hs : s.size ≤ 140737488351232) (hks : k < s.size) (h39 : ((s[k].toNat : Int) == 39) = false) (kd : ∀ W, Calls Tryd.prog 68 #[.string s, .int .i64 i] W fun e W' => e = .returned (.int .i64 n) ∧ W = W') (kl : ∀ W, Calls Tryd.prog 53 #[.int .u8 s[k].toNat] W fun e W' => e = .returned (.bool false) ∧ W = W') (oo : Bool) (v : Nat) (kn : ∀ W, Calls Tryd.prog 70 #[.string (s.extract i k), .int .u64 10] W fun e W' => e = .returned (.agg #[.bool oo, .bool true, .int .u64 v]) ∧ Below W.heap.size W W') (W : World) :
    Calls Tryd.prog 56 #[.string s, .int .i64 i] W fun e W' => e = .returned (.agg #[.int .i64 3, .string ⟨#[]⟩, .int .i64 0, .int .u64 v, .int .i64 i, .int .i64 n, .int .i64 0]) ∧ Below W.heap.size W W' := by
  have hki : (i : Int) + (n : Int) = (k : Int) := by omega
  have hlt : (k : Int) < (s.size : Int) := by omega
  have KL := Lib.hid kl
  clear kl
  have KN := Lib.hid kn
  clear kn
  have KD := Lib.hid kd
  clear kd hk
  have R := Box7.new W (.int .i64 0) (.string ⟨#[]⟩) (.int .i64 0) (.int .u64 0) (.int .i64 0) (.int .i64 0) (.int .i64 0) 52
  have hW : Below W.heap.size W (W.alloc (.cells #[.int .i64 0, .string ⟨#[]⟩, .int .i64 0, .int .u64 0, .int .i64 0, .int .i64 0, .int .i64 0] 52)) := (Below.refl _ _).alloc (Nat.le_refl _) _
  go_enter Tryd.func56, Tryd.ntmps56
  go_wp2_with fail
  refine (KD.out _).mono ?_
  rintro e w' ⟨rfl, rfl⟩
  go_wp2_with fail
  generalize W.alloc (.cells #[.int .i64 0, .string ⟨#[]⟩, .int .i64 0, .int .u64 0, .int .i64 0, .int .i64 0, .int .i64 0] 52) = X at *
  refine (KL.out _).mono ?_
  rintro e w' ⟨rfl, rfl⟩
  go_wp2_with fail
  refine (KN.out _).mono ?_
  rintro e W2 ⟨rfl, hb2⟩
  replace R := R.later hb2
  have N2 := Box3.new W2 (.bool oo) (.bool true) (.int .u64 v) 77
  have hal : Below W2.heap.size W2 (W2.alloc (.cells #[.bool oo, .bool true, .int .u64 v] 77)) := (Below.refl _ _).alloc (Nat.le_refl _) _
  replace R := R.later hal
  replace hW := hW.trans (hb2.mono hW.size)
  replace hW := hW.trans (hal.mono hW.size)
  clear hb2 hal
  obtain ⟨d0, d1, d2, gd0, gd1, gd2, ld⟩ := N2
  obtain ⟨c0, c1, c2, c3, c4, c5, c6, gc0, gc1, gc2, gc3, gc4, gc5, gc6, lc⟩ := R
  have HW := Lib.hid hW
  clear hW
  go_wp2
  refine bodyPost_ret (v := .agg #[.int .i64 3, .string ⟨#[]⟩, .int .i64 0, .int .u64 v, .int .i64 i, .int .i64 n, .int .i64 0]) ?_ rfl ⟨rfl, (((((((HW.out.setCell (Nat.le_refl _) _).setCell (Nat.le_refl _) _).setCell (Nat.le_refl _) _).setCell (Nat.le_refl _) _).setCell (Nat.le_refl _) _).setCell (Nat.le_refl _) _).setCell (Nat.le_refl _) _)⟩
  simp [results, Tryd.results56, go_sem, c0, c1, c2, c3, c4, c5, c6, gc0, gc1, gc2, gc3, gc4, gc5, gc6]

set_option maxHeartbeats 4000000 in
theorem refFig_in_false (s : ByteArray) (i n k : Nat) (hk : i + n = k) (hs : s.size ≤ 140737488351232) (hks : k < s.size) (h39 : ((s[k].toNat : Int) == 39) = false) (kd : ∀ W, Calls Tryd.prog 68 #[.string s, .int .i64 i] W fun e W' => e = .returned (.int .i64 n) ∧ W = W') (kl : ∀ W, Calls Tryd.prog 53 #[.int .u8 s[k].toNat] W fun e W' => e = .returned (.bool false) ∧ W = W') (oo : Bool) (v : Nat) (kn : ∀ W, Calls Tryd.prog 70 #[.string (s.extract i k), .int .u64 10] W fun e W' => e = .returned (.agg #[.bool oo, .bool false, .int .u64 v]) ∧ Below W.heap.size W W') (W : World) :
    Calls Tryd.prog 56 #[.string s, .int .i64 i] W fun e W' => e = .returned (.agg #[.int .i64 0, .string ⟨#[]⟩, .int .i64 0, .int .u64 0, .int .i64 0, .int .i64 0, .int .i64 22]) ∧ Below W.heap.size W W' := by
  have hki : (i : Int) + (n : Int) = (k : Int) := by omega
  have hlt : (k : Int) < (s.size : Int) := by omega
  have KL := Lib.hid kl
  clear kl
  have KN := Lib.hid kn
  clear kn
  have KD := Lib.hid kd
  clear kd hk
  have R := Box7.new W (.int .i64 0) (.string ⟨#[]⟩) (.int .i64 0) (.int .u64 0) (.int .i64 0) (.int .i64 0) (.int .i64 0) 52
  have hW : Below W.heap.size W (W.alloc (.cells #[.int .i64 0, .string ⟨#[]⟩, .int .i64 0, .int .u64 0, .int .i64 0, .int .i64 0, .int .i64 0] 52)) := (Below.refl _ _).alloc (Nat.le_refl _) _
  go_enter Tryd.func56, Tryd.ntmps56
  go_wp2_with fail
  refine (KD.out _).mono ?_
  rintro e w' ⟨rfl, rfl⟩
  go_wp2_with fail
  generalize W.alloc (.cells #[.int .i64 0, .string ⟨#[]⟩, .int .i64 0, .int .u64 0, .int .i64 0, .int .i64 0, .int .i64 0] 52) = X at *
  refine (KL.out _).mono ?_
  rintro e w' ⟨rfl, rfl⟩
  go_wp2_with fail
  refine (KN.out _).mono ?_
  rintro e W2 ⟨rfl, hb2⟩
  replace R := R.later hb2
  have N2 := Box3.new W2 (.bool oo) (.bool false) (.int .u64 v) 77
  have hal : Below W2.heap.size W2 (W2.alloc (.cells #[.bool oo, .bool false, .int .u64 v] 77)) := (Below.refl _ _).alloc (Nat.le_refl _) _
  replace R := R.later hal
  replace hW := hW.trans (hb2.mono hW.size)
  replace hW := hW.trans (hal.mono hW.size)
  clear hb2 hal
  obtain ⟨d0, d1, d2, gd0, gd1, gd2, ld⟩ := N2
  obtain ⟨c0, c1, c2, c3, c4, c5, c6, gc0, gc1, gc2, gc3, gc4, gc5, gc6, lc⟩ := R
  have HW := Lib.hid hW
  clear hW
  go_wp2
  refine bodyPost_ret (v := .agg #[.int .i64 0, .string ⟨#[]⟩, .int .i64 0, .int .u64 0, .int .i64 0, .int .i64 0, .int .i64 22]) ?_ rfl ⟨rfl, (((((((HW.out.setCell (Nat.le_refl _) _).setCell (Nat.le_refl _) _).setCell (Nat.le_refl _) _).setCell (Nat.le_refl _) _).setCell (Nat.le_refl _) _).setCell (Nat.le_refl _) _).setCell (Nat.le_refl _) _)⟩
  simp [results, Tryd.results56, go_sem, c0, c1, c2, c3, c4, c5, c6, gc0, gc1, gc2, gc3, gc4, gc5, gc6]

set_option maxHeartbeats 4000000 in
theorem refFig_out_true (s : ByteArray) (i n k : Nat) (hk : i + n = k) (hs : s.size ≤ 140737488351232) (hks : s.size ≤ k) (hks2 : k ≤ s.size) (kd : ∀ W, Calls Tryd.prog 68 #[.string s, .int .i64 i] W fun e W' => e = .returned (.int .i64 n) ∧ W = W') (oo : Bool) (v : Nat) (kn : ∀ W, Calls Tryd.prog 70 #[.string (s.extract i k), .int .u64 10] W fun e W' => e = .returned (.agg #[.bool oo, .bool true, .int .u64 v]) ∧ Below W.heap.size W W') (W : World) :
    Calls Tryd.prog 56 #[.string s, .int .i64 i] W fun e W' => e = .returned (.agg #[.int .i64 3, .string ⟨#[]⟩, .int .i64 0, .int .u64 v, .int .i64 i, .int .i64 n, .int .i64 0]) ∧ Below W.heap.size W W' := by
  have hki : (i : Int) + (n : Int) = (k : Int) := by omega
  have hge : ¬ (k : Int) < (s.size : Int) := by omega
  have KN := Lib.hid kn
  clear kn
  have KD := Lib.hid kd
  clear kd hk
  have R := Box7.new W (.int .i64 0) (.string ⟨#[]⟩) (.int .i64 0) (.int .u64 0) (.int .i64 0) (.int .i64 0) (.int .i64 0) 52
  have hW : Below W.heap.size W (W.alloc (.cells #[.int .i64 0, .string ⟨#[]⟩, .int .i64 0, .int .u64 0, .int .i64 0, .int .i64 0, .int .i64 0] 52)) := (Below.refl _ _).alloc (Nat.le_refl _) _
  go_enter Tryd.func56, Tryd.ntmps56
  go_wp2_with fail
  refine (KD.out _).mono ?_
  rintro e w' ⟨rfl, rfl⟩
  go_wp2_with fail
  generalize W.alloc (.cells #[.int .i64 0, .string ⟨#[]⟩, .int .i64 0, .int .u64 0, .int .i64 0, .int .i64 0, .int .i64 0] 52) = X at *
  refine (KN.out _).mono ?_
  rintro e W2 ⟨rfl, hb2⟩
  replace R := R.later hb2
  have N2 := Box3.new W2 (.bool oo) (.bool true) (.int .u64 v) 77
  have hal : Below W2.heap.size W2 (W2.alloc (.cells #[.bool oo, .bool true, .int .u64 v] 77)) := (Below.refl _ _).alloc (Nat.le_refl _) _
  replace R := R.later hal
  replace hW := hW.trans (hb2.mono hW.size)
  replace hW := hW.trans (hal.mono hW.size)
  clear hb2 hal
  obtain ⟨d0, d1, d2, gd0, gd1, gd2, ld⟩ := N2
  obtain ⟨c0, c1, c2, c3, c4, c5, c6, gc0, gc1, gc2, gc3, gc4, gc5, gc6, lc⟩ := R
  have HW := Lib.hid hW
  clear hW
  go_wp2
  refine bodyPost_ret (v := .agg #[.int .i64 3, .string ⟨#[]⟩, .int .i64 0, .int .u64 v, .int .i64 i, .int .i64 n, .int .i64 0]) ?_ rfl ⟨rfl, (((((((HW.out.setCell (Nat.le_refl _) _).setCell (Nat.le_refl _) _).setCell (Nat.le_refl _) _).setCell (Nat.le_refl _) _).setCell (Nat.le_refl _) _).setCell (Nat.le_refl _) _).setCell (Nat.le_refl _) _)⟩
  simp [results, Tryd.results56, go_sem, c0, c1, c2, c3, c4, c5, c6, gc0, gc1, gc2, gc3, gc4, gc5, gc6]

set_option maxHeartbeats 4000000 in
theorem refFig_out_false (s : ByteArray) (i n k : Nat) (hk : i + n = k) (hs : s.size ≤ 140737488351232) (hks : s.size ≤ k) (hks2 : k ≤ s.size) (kd : ∀ W, Calls Tryd.prog 68 #[.string s, .int .i64 i] W fun e W' => e = .returned (.int .i64 n) ∧ W = W') (oo : Bool) (v : Nat) (kn : ∀ W, Calls Tryd.prog 70 #[.string (s.extract i k), .int .u64 10] W fun e W' => e = .returned (.agg #[.bool oo, .bool false, .int .u64 v]) ∧ Below W.heap.size W W') (W : World) :
    Calls Tryd.prog 56 #[.string s, .int .i64 i] W fun e W' => e = .returned (.agg #[.int .i64 0, .string ⟨#[]⟩, .int .i64 0, .int .u64 0, .int .i64 0, .int .i64 0, .int .i64 22]) ∧ Below W.heap.size W W' := by
  have hki : (i : Int) + (n : Int) = (k : Int) := by omega
  have hge : ¬ (k : Int) < (s.size : Int) := by omega
  have KN := Lib.hid kn
  clear kn
  have KD := Lib.hid kd
  clear kd hk
  have R := Box7.new W (.int .i64 0) (.string ⟨#[]⟩) (.int .i64 0) (.int .u64 0) (.int .i64 0) (.int .i64 0) (.int .i64 0) 52
  have hW : Below W.heap.size W (W.alloc (.cells #[.int .i64 0, .string ⟨#[]⟩, .int .i64 0, .int .u64 0, .int .i64 0, .int .i64 0, .int .i64 0] 52)) := (Below.refl _ _).alloc (Nat.le_refl _) _
  go_enter Tryd.func56, Tryd.ntmps56
  go_wp2_with fail
  refine (KD.out _).mono ?_
  rintro e w' ⟨rfl, rfl⟩
  go_wp2_with fail
  generalize W.alloc (.cells #[.int .i64 0, .string ⟨#[]⟩, .int .i64 0, .int .u64 0, .int .i64 0, .int .i64 0, .int .i64 0] 52) = X at *
  refine (KN.out _).mono ?_
  rintro e W2 ⟨rfl, hb2⟩
  replace R := R.later hb2
  have N2 := Box3.new W2 (.bool oo) (.bool false) (.int .u64 v) 77
  have hal : Below W2.heap.size W2 (W2.alloc (.cells #[.bool oo, .bool false, .int .u64 v] 77)) := (Below.refl _ _).alloc (Nat.le_refl _) _
  replace R := R.later hal
  replace hW := hW.trans (hb2.mono hW.size)
  replace hW := hW.trans (hal.mono hW.size)
  clear hb2 hal
  obtain ⟨d0, d1, d2, gd0, gd1, gd2, ld⟩ := N2
  obtain ⟨c0, c1, c2, c3, c4, c5, c6, gc0, gc1, gc2, gc3, gc4, gc5, gc6, lc⟩ := R
  have HW := Lib.hid hW
  clear hW
  go_wp2
  refine bodyPost_ret (v := .agg #[.int .i64 0, .string ⟨#[]⟩, .int .i64 0, .int .u64 0, .int .i64 0, .int .i64 0, .int .i64 22]) ?_ rfl ⟨rfl, (((((((HW.out.setCell (Nat.le_refl _) _).setCell (Nat.le_refl _) _).setCell (Nat.le_refl _) _).setCell (Nat.le_refl _) _).setCell (Nat.le_refl _) _).setCell (Nat.le_refl _) _).setCell (Nat.le_refl _) _)⟩
  simp [results, Tryd.results56, go_sem, c0, c1, c2, c3, c4, c5, c6, gc0, gc1, gc2, gc3, gc4, gc5, gc6]

end Go.Proofs.YtpabaabkhmjdhaaDoor
