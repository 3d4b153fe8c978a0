/- Words, signs, names, widths of scan and of its reference: what each call gives. -/
import Derived.Test.YtpabaabkhmjdhaaDoorW2
namespace Go.Proofs.YtpabaabkhmjdhaaDoor
open Go.RowKit Go.Proofs.Scn
set_option linter.unusedVariables false
set_option linter.unusedSimpArgs false
set_option maxRecDepth 100000

theorem empty_of {s : ByteArray} (h : s.data.toList = []) : s = ⟨#[]⟩ := by
  rw [← bs_list s, h]; rfl
theorem toList_eq (s : ByteArray) : s.toList = s.data.toList := Lib.toList_data s

set_option maxHeartbeats 1000000 in
theorem among_any (list s : ByteArray) (hl : list.size < 4294967281) (hs : s.size ≤ 4611686018427387904) (W : World) (m : Int) (hm : W.cell? ⟨0, 0, none⟩ = some (.int .i64 m)) :
    Calls Tryd.prog 39 #[.string list, .string s] W fun e W' => e = .returned (.bool (amongS list.data.toList s.data.toList)) ∧ W = W' := by
  by_cases he : s.data.toList = []
  · obtain rfl := empty_of he
    go_enter Tryd.func39, Tryd.ntmps39
    go_wp2
    go_ret
    exact ⟨rfl, rfl⟩
  · have hb : s.toList.isEmpty = false := by rw [toList_eq]; simpa using he
    have k1 : ∀ W, Calls Tryd.prog 57 #[.string s, .string ⟨#[32]⟩] W fun e W' => e = .returned (.bool (s.data.toList.contains 32)) ∧ W = W' := fun W =>
      (Tryd.strings_Contains_one s 32 W).mono fun e W' h => ⟨by rw [h.1, Lib.contains_iff_indexByte], h.2.symm⟩
    have k2 := Tryd.strings_Contains list (⟨#[32]⟩ ++ s ++ ⟨#[32]⟩) m W hl hm
    rw [show (⟨#[32]⟩ ++ s ++ ⟨#[32]⟩ : ByteArray).data.toList = 32 :: s.data.toList ++ [32] by simp] at k2
    have eS : amongS list.data.toList s.data.toList = (!s.data.toList.contains 32 && Lib.contains list.data.toList (32 :: s.data.toList ++ [32])) := by
      unfold amongS
      have : s.data.toList.isEmpty = false := by simpa using he
      rw [this]
      simp
    rw [eS]
    clear he eS
    generalize hc : s.data.toList.contains 32 = c at *
    have K1 := Lib.hid k1
    have K2 := Lib.hid k2
    clear k1 k2
    cases c
    · go_enter Tryd.func39, Tryd.ntmps39
      go_wp2_with fail
      refine (K1.out _).mono ?_
      rintro e w' ⟨rfl, rfl⟩
      go_wp2_with fail
      refine K2.out.mono ?_
      rintro e w' ⟨rfl, rfl⟩
      go_wp2
      go_ret
      exact ⟨rfl, rfl⟩
    · go_enter Tryd.func39, Tryd.ntmps39
      go_wp2_with fail
      refine (K1.out _).mono ?_
      rintro e w' ⟨rfl, rfl⟩
      go_wp2
      go_ret
      exact ⟨rfl, rfl⟩

theorem takeSucc (l : List UInt8) (k : Nat) (h : k < l.length) : l.take (k + 1) = l.take k ++ [l[k]] := by
  rw [List.take_succ_eq_append_getElem h]

/-- the words ahead of place i, and the one that is under way since place 'from' -/
theorem cuts_at (l : List UInt8) (f i : Nat) (hf : f ≤ i) (hi : i < l.length) (done : List (List UInt8)) (h : cutsF [] l = done ++ cutsF ((l.take i).drop f) (l.drop i)) :
    (l[i] = 32 → cutsF [] l = (done ++ [(l.take i).drop f]) ++ cutsF ((l.take (i + 1)).drop (i + 1)) (l.drop (i + 1))) ∧
    (l[i] ≠ 32 → cutsF [] l = done ++ cutsF ((l.take (i + 1)).drop f) (l.drop (i + 1))) := by
  rw [List.drop_eq_getElem_cons hi] at h
  constructor
  · intro hc
    rw [h]
    have e : (l.take (i + 1)).drop (i + 1) = [] := List.drop_of_length_le (by simp; omega)
    simp only [cutsF, hc, if_true, List.append_assoc, List.singleton_append, e]
  · intro hc
    rw [h]
    simp only [cutsF, if_neg hc]
    rw [takeSucc l i hi, List.drop_append_of_le_length (by simp; omega)]

set_option maxHeartbeats 1000000 in
theorem refAmong_any (list s : ByteArray) (hl : list.size ≤ 4611686018427387904) (W : World) :
    Calls Tryd.prog 40 #[.string list, .string s] W fun e W' => e = .returned (.bool (amongR list.data.toList s.data.toList)) ∧ W = W' := by
  have hfin : ∀ done, cutsF [] list.data.toList = done → (∀ x ∈ done, x ≠ s.data.toList) → amongR list.data.toList s.data.toList = false := by
    intro done h1 h2
    unfold amongR
    rw [h1]
    cases h : done.contains s.data.toList
    · rfl
    · exact absurd rfl (h2 _ (List.contains_iff_mem.1 h))
  have hyes : ∀ done cur rest, cutsF [] list.data.toList = done ++ [cur] ++ rest → cur = s.data.toList → amongR list.data.toList s.data.toList = true := by
    intro done cur rest h1 h2
    unfold amongR
    rw [h1, h2]
    simp
  have HF := Lib.hid hfin
  have HY := Lib.hid hyes
  have hcut := cuts_at list.data.toList
  have HC := Lib.hid hcut
  have hll : list.data.toList.length = list.size := rfl
  have HL := Lib.hid hll
  clear hfin hyes hcut hll
  go_enter Tryd.func40, Tryd.ntmps40
  go_wp2
  go_loop [5, 6] (fun f t => ∃ (a k : Nat) (done : List (List UInt8)), a ≤ k ∧ k ≤ list.size ∧ t = .int .i64 k ∧ f = .int .i64 a ∧ Hid (cutsF [] list.data.toList = done ++ cutsF ((list.data.toList.take k).drop a) (list.data.toList.drop k)) ∧ Hid (∀ x ∈ done, x ≠ s.data.toList)) (fun _ t => list.size - (intOf t).toNat)
  case atStart => exact ⟨0, 0, [], Nat.le_refl _, Nat.zero_le _, rfl, rfl, Lib.hid (by simp), Lib.hid (by simp)⟩
  case round =>
    obtain ⟨a, k, done, hak, hk, rfl, rfl, hD, hN⟩ := hrel
    by_cases hlt : k < list.size
    · obtain ⟨c1, c2⟩ := HC.out a k hak (by rw [HL.out]; exact hlt) done hD.out
      have hge : list[k] = list.data.toList[k] := rfl
      by_cases h32 : list[k] = 32
      · have hb : ((list[k].toNat : Int) == 32) = true := by rw [h32]; rfl
        have C1 := Lib.hid (c1 h32)
        clear c1 c2 hge h32
        by_cases heq : (list.data.toList.take k).drop a = s.data.toList
        · have HQ := Lib.hid heq
          have hex : (list.extract a k).toList == s.toList := by rw [toList_eq, toList_eq, extract_bs, list_bs, heq]; simp
          clear heq
          go_wp2
          go_ret
          exact ⟨ret_bool (HY.out _ _ _ C1.out HQ.out).symm, rfl⟩
        · have HQ := Lib.hid heq
          have hex : ((list.extract a k).toList == s.toList) = false := by rw [toList_eq, toList_eq, extract_bs, list_bs]; simpa using heq
          clear heq
          go_wp2
          go_round
          case rel =>
            refine ⟨k + 1, k + 1, done ++ [(list.data.toList.take k).drop a], Nat.le_refl _, by omega, by go_num, by go_num, C1, Lib.hid fun x hx => ?_⟩
            rcases List.mem_append.1 hx with hx | hx
            · exact hN.out x hx
            · rw [List.mem_singleton.1 hx]; exact HQ.out
          case measure => simp [intOf]; omega
      · have hb : ((list[k].toNat : Int) == 32) = false := by
          rw [beq_eq_false_iff_ne]
          intro h
          exact h32 (by rw [← UInt8.toNat_inj]; exact Int.ofNat_inj.1 h)
        have C2 := Lib.hid (c2 h32)
        clear c1 c2 hge h32
        go_wp2
        go_round
        case rel => exact ⟨a, k + 1, done, by omega, by omega, by go_num, rfl, C2, hN⟩
        case measure => simp [intOf]; omega
    · obtain rfl : k = list.size := by omega
      have hfin : amongR list.data.toList s.data.toList = false := by
        have := hD.out
        have e : list.data.toList.drop list.size = [] := List.drop_of_length_le (by rw [HL.out]; exact Nat.le_refl _)
        rw [e] at this
        simp only [cutsF, List.append_nil] at this
        exact HF.out done this hN.out
      have HG := Lib.hid hfin
      clear hfin
      go_wp2
      go_ret
      exact ⟨ret_bool HG.out.symm, rfl⟩

set_option maxHeartbeats 1000000 in
theorem word_any (s : ByteArray) (hs : s.size ≤ 4611686018427387904) (W : World) (m : Int) (hm : W.cell? ⟨0, 0, none⟩ = some (.int .i64 m)) :
    Calls Tryd.prog 19 #[.string s] W fun e W' => e = .returned (.bool (isWord s.data.toList)) ∧ W = W' := by
  go_enter Tryd.func19, Tryd.ntmps19
  go_wp2_with fail
  refine (among_any _ s (by decide +kernel) hs _ m hm).mono ?_
  rintro e w' ⟨rfl, rfl⟩
  go_wp2
  go_ret
  exact ⟨ret_bool ((congrArg (fun l => amongS l s.data.toList) (by decide +kernel)).trans (among_words _)), rfl⟩

set_option maxHeartbeats 1000000 in
theorem refWord_any (s : ByteArray) (W : World) :
    Calls Tryd.prog 20 #[.string s] W fun e W' => e = .returned (.bool (isWord s.data.toList)) ∧ W = W' := by
  go_enter Tryd.func20, Tryd.ntmps20
  go_wp2_with fail
  refine (refAmong_any _ s (by decide +kernel) _).mono ?_
  rintro e w' ⟨rfl, rfl⟩
  go_wp2
  go_ret
  exact ⟨ret_bool ((congrArg (fun l => amongR l s.data.toList) (by decide +kernel)).trans (amongR_words _)), rfl⟩

set_option maxHeartbeats 1000000 in
theorem refSign_any (s : ByteArray) (W : World) :
    Calls Tryd.prog 37 #[.string s] W fun e W' => e = .returned (.bool (isSign s.data.toList)) ∧ W = W' := by
  go_enter Tryd.func37, Tryd.ntmps37
  go_wp2_with fail
  refine (refAmong_any _ s (by decide +kernel) _).mono ?_
  rintro e w' ⟨rfl, rfl⟩
  go_wp2
  go_ret
  exact ⟨ret_bool ((congrArg (fun l => amongR l s.data.toList) (by decide +kernel)).trans (amongR_signs _)), rfl⟩

set_option maxHeartbeats 1000000 in
theorem sign_any (s : ByteArray) (hs : s.size ≤ 4611686018427387904) (W : World) (m : Int) (hm : W.cell? ⟨0, 0, none⟩ = some (.int .i64 m)) :
    Calls Tryd.prog 34 #[.string s] W fun e W' => e = .returned (.bool (isSign s.data.toList)) ∧ W = W' := by
  have kp : ∀ list : ByteArray, list.data.toList = 32 :: pairsT → list.size < 4294967281 → Calls Tryd.prog 39 #[.string list, .string s] W fun e W' => e = .returned (.bool (pairsL.contains s.data.toList)) ∧ W = W' := fun list h1 h2 =>
    (among_any list s h2 hs W m hm).mono fun e W' h => ⟨by rw [h.1, h1, among_pairs], h.2⟩
  by_cases h1 : s.size = 1
  · obtain ⟨c, hc⟩ : ∃ c, s.data.toList = [c] := by
      have : s.data.toList.length = 1 := h1
      exact List.length_eq_one_iff.1 this
    obtain rfl : s = ⟨#[c]⟩ := by rw [← bs_list s, hc]; rfl
    have hsg : isSign [c] = (pairsL.contains [c] || loneL.contains c) := by simp [isSign]
    have kc : ∀ list : ByteArray, list.data.toList = loneL → Calls Tryd.prog 57 #[.string list, .string ⟨#[c]⟩] W fun e W' => e = .returned (.bool (loneL.contains c)) ∧ W = W' := fun list h1 =>
      (Tryd.strings_Contains_one list c W).mono fun e W' h => ⟨by rw [h.1, ← Lib.contains_iff_indexByte, h1], h.2.symm⟩
    show Calls Tryd.prog 34 _ W fun e W' => e = .returned (.bool (isSign [c])) ∧ W = W'
    rw [hsg]
    clear h1 hc hs hsg
    change ∀ list : ByteArray, list.data.toList = 32 :: pairsT → list.size < 4294967281 → Calls Tryd.prog 39 #[.string list, .string ⟨#[c]⟩] W fun e W' => e = .returned (.bool (pairsL.contains [c])) ∧ W = W' at kp
    generalize pairsL.contains [c] = b1 at *
    generalize loneL.contains c = b2 at *
    have KP := Lib.hid kp
    have KC := Lib.hid kc
    clear kp kc
    cases b1
    · go_enter Tryd.func34, Tryd.ntmps34
      go_wp2_with fail
      refine (KP.out _ (by decide +kernel) (by decide +kernel)).mono ?_
      rintro e w' ⟨rfl, rfl⟩
      go_wp2_with fail
      refine (KC.out _ (by decide +kernel)).mono ?_
      rintro e w' ⟨rfl, rfl⟩
      go_wp2
      go_ret
      exact ⟨rfl, rfl⟩
    · go_enter Tryd.func34, Tryd.ntmps34
      go_wp2_with fail
      refine (KP.out _ (by decide +kernel) (by decide +kernel)).mono ?_
      rintro e w' ⟨rfl, rfl⟩
      go_wp2
      go_ret
      exact ⟨rfl, rfl⟩
  · have hsg : isSign s.data.toList = pairsL.contains s.data.toList := by
      have : (s.data.toList.length == 1) = false := by simpa using h1
      unfold isSign
      rw [this]
      simp
    have hd : ((s.size : Int) == 1) = false := by rw [beq_eq_false_iff_ne]; omega
    rw [hsg]
    clear hsg h1
    generalize pairsL.contains s.data.toList = b1 at *
    have KP := Lib.hid kp
    clear kp
    cases b1
    · go_enter Tryd.func34, Tryd.ntmps34
      go_wp2_with fail
      refine (KP.out _ (by decide +kernel) (by decide +kernel)).mono ?_
      rintro e w' ⟨rfl, rfl⟩
      go_wp2
      go_ret
      exact ⟨rfl, rfl⟩
    · go_enter Tryd.func34, Tryd.ntmps34
      go_wp2_with fail
      refine (KP.out _ (by decide +kernel) (by decide +kernel)).mono ?_
      rintro e w' ⟨rfl, rfl⟩
      go_wp2
      go_ret
      exact ⟨rfl, rfl⟩

theorem all_run {l : List UInt8} : runL l = l ↔ l.all isPart = true := by
  constructor
  · intro h; rw [← h]; exact all_takeWhile l
  · intro h; have := (takeWhile_ends (r := []) h (.inl rfl)).1; rwa [List.append_nil] at this

theorem name_cases (l : List UInt8) (c : UInt8) (r : List UInt8) (h : l = c :: r) :
    (64 < l.length → isName l = false) ∧ (isDigit c = true → isName l = false) ∧ (isLetter c = false → isName l = false) ∧ (runL l ≠ l → isName l = false) ∧
    (l.length ≤ 64 → isDigit c = false → runL l = l → isName l = !isWord l) ∧ (l.length ≤ 64 → isLetter c = true → runL l = l → isName l = !isWord l) := by
  subst h
  refine ⟨fun h => ?_, fun h => ?_, fun h => ?_, fun h => ?_, fun h1 h2 h3 => ?_, fun h1 h2 h3 => ?_⟩
  · simp [isName]; intro h'; simp at h; omega
  · have := (digit_not h).1
    simp [isName, this]
  · simp [isName, h]
  · have : (c :: r).all isPart = false := by
      cases hh : (c :: r).all isPart
      · rfl
      · exact absurd (all_run.2 hh) h
    unfold isName
    rw [this]
    simp
  · have ha := all_run.1 h3
    have hl : isLetter c = true := by
      simp only [List.all_cons, Bool.and_eq_true] at ha
      have := ha.1
      unfold isPart at this
      rw [h2] at this
      simpa using this
    unfold isName
    rw [ha]
    simp only [List.isEmpty_cons, List.headD_cons, hl, decide_eq_true h1]
    simp
  · have ha := all_run.1 h3
    unfold isName
    rw [ha]
    simp only [List.isEmpty_cons, List.headD_cons, h2, decide_eq_true h1]
    simp

theorem head_get (s : ByteArray) (c : UInt8) (r : List UInt8) (h : s.data.toList = c :: r) : ∃ h0 : 0 < s.size, s[0] = c := by
  have h0 : 0 < s.size := by rw [size_list, h]; simp
  refine ⟨h0, ?_⟩
  have : s[0] = s.data.toList[0]'h0 := rfl
  rw [this]
  simp [h]

set_option maxHeartbeats 1000000 in
theorem name_any (s : ByteArray) (hs : s.size ≤ 4611686018427387904) (W : World) (m : Int) (hm : W.cell? ⟨0, 0, none⟩ = some (.int .i64 m)) :
    Calls Tryd.prog 33 #[.string s] W fun e W' => e = .returned (.bool (isName s.data.toList)) ∧ W = W' := by
  by_cases he : s.data.toList = []
  · obtain rfl := empty_of he
    go_enter Tryd.func33, Tryd.ntmps33
    go_wp2
    go_ret
    exact ⟨rfl, rfl⟩
  · obtain ⟨c, r, hcr⟩ : ∃ c r, s.data.toList = c :: r := List.exists_cons_of_ne_nil he
    obtain ⟨h0, hg⟩ := head_get s c r hcr
    have hb : s.toList.isEmpty = false := by rw [toList_eq, hcr]; rfl
    have hb2 : ¬ s.toList = [] := by rw [toList_eq]; exact he
    obtain ⟨n1, n2, _, n4, n5, _⟩ := name_cases _ c r hcr
    have hsz : s.data.toList.length = s.size := rfl
    have kr := run_any s hs W
    have kw := word_any s hs W m hm
    have kd := digit_any s[0]
    rw [hg] at kd
    by_cases h64 : 64 < s.size
    · rw [n1 (by omega)]
      have hd : decide ((s.size : Int) ≤ 64) = false := by simp only [decide_eq_false_iff_not]; omega
      clear n1 n2 n4 n5 kr kw kd hsz h64 hcr he
      go_enter Tryd.func33, Tryd.ntmps33
      go_wp2
      go_ret
      exact ⟨rfl, rfl⟩
    · have hd : (s.size : Int) ≤ 64 := by omega
      cases hdg : isDigit c
      · have kd' := kd
        rw [hdg] at kd'
        by_cases hrun : runL s.data.toList = s.data.toList
        · rw [n5 (by omega) hdg hrun]
          have heq : ((bs (runL s.data.toList)).toList == s.toList) = true := by rw [toList_eq, toList_eq, list_bs, hrun]; simp
          rw [← hg] at kd'
          have KD := Lib.hid kd'
          have KR := Lib.hid kr
          generalize isWord s.data.toList = wd at *
          have KW := Lib.hid kw
          clear n1 n2 n4 n5 kr kw kd kd' hsz h64 hcr he hdg hrun hg
          go_enter Tryd.func33, Tryd.ntmps33
          go_wp2_with fail
          refine (KD.out _).mono ?_
          rintro e w' ⟨rfl, rfl⟩
          go_wp2_with fail
          refine KR.out.mono ?_
          rintro e w' ⟨rfl, rfl⟩
          go_wp2_with fail
          refine KW.out.mono ?_
          rintro e w' ⟨rfl, rfl⟩
          go_wp2
          go_ret
          exact ⟨rfl, rfl⟩
        · rw [n4 hrun]
          have heq : ((bs (runL s.data.toList)).toList == s.toList) = false := by rw [toList_eq, toList_eq, list_bs]; simpa using hrun
          rw [← hg] at kd'
          have KD := Lib.hid kd'
          have KR := Lib.hid kr
          clear n1 n2 n4 n5 kr kw kd kd' hsz h64 hcr he hdg hrun hg
          go_enter Tryd.func33, Tryd.ntmps33
          go_wp2_with fail
          refine (KD.out _).mono ?_
          rintro e w' ⟨rfl, rfl⟩
          go_wp2_with fail
          refine KR.out.mono ?_
          rintro e w' ⟨rfl, rfl⟩
          go_wp2
          go_ret
          exact ⟨rfl, rfl⟩
      · rw [n2 hdg]
        rw [hdg, ← hg] at kd
        have KD := Lib.hid kd
        clear n1 n2 n4 n5 kr kw kd hsz h64 hcr he hdg hg
        go_enter Tryd.func33, Tryd.ntmps33
        go_wp2_with fail
        refine (KD.out _).mono ?_
        rintro e w' ⟨rfl, rfl⟩
        go_wp2
        go_ret
        exact ⟨rfl, rfl⟩

set_option maxHeartbeats 1000000 in
theorem refName_any (s : ByteArray) (hs : s.size ≤ 4611686018427387904) (W : World) :
    Calls Tryd.prog 36 #[.string s] W fun e W' => e = .returned (.bool (isName s.data.toList)) ∧ W = W' := by
  by_cases he : s.data.toList = []
  · obtain rfl := empty_of he
    go_enter Tryd.func36, Tryd.ntmps36
    go_wp2
    go_ret
    exact ⟨rfl, rfl⟩
  · obtain ⟨c, r, hcr⟩ : ∃ c r, s.data.toList = c :: r := List.exists_cons_of_ne_nil he
    obtain ⟨h0, hg⟩ := head_get s c r hcr
    obtain ⟨n1, _, n3, n4, _, n6⟩ := name_cases _ c r hcr
    have hsz : s.data.toList.length = s.size := rfl
    have kr := refRun_any s 0 (Nat.zero_le _) hs W
    rw [List.drop_zero] at kr
    have kw := refWord_any s W
    have kd := refLetter_any s[0]
    rw [hg] at kd
    by_cases h64 : 64 < s.size
    · rw [n1 (by omega)]
      have hd : decide ((s.size : Int) ≤ 64) = false := by simp only [decide_eq_false_iff_not]; omega
      clear n1 n3 n4 n6 kr kw kd hsz h64 hcr he
      go_enter Tryd.func36, Tryd.ntmps36
      go_wp2
      go_ret
      exact ⟨rfl, rfl⟩
    · have hd : (s.size : Int) ≤ 64 := by omega
      cases hdg : isLetter c
      · rw [n3 hdg]
        rw [hdg, ← hg] at kd
        have KD := Lib.hid kd
        clear n1 n3 n4 n6 kr kw kd hsz h64 hcr he hdg hg
        go_enter Tryd.func36, Tryd.ntmps36
        go_wp2_with fail
        refine (KD.out _).mono ?_
        rintro e w' ⟨rfl, rfl⟩
        go_wp2
        go_ret
        exact ⟨rfl, rfl⟩
      · have kd' := kd
        rw [hdg] at kd'
        have hN : headN isPart s.data.toList = (runL s.data.toList).length := rfl
        rw [hN] at kr
        by_cases hrun : runL s.data.toList = s.data.toList
        · rw [n6 (by omega) hdg hrun]
          rw [hrun, hsz] at kr
          rw [← hg] at kd'
          have KD := Lib.hid kd'
          have KR := Lib.hid kr
          generalize isWord s.data.toList = wd at *
          have KW := Lib.hid kw
          clear n1 n3 n4 n6 kr kw kd kd' hsz h64 hcr he hdg hrun hg hN
          go_enter Tryd.func36, Tryd.ntmps36
          go_wp2_with fail
          refine (KD.out _).mono ?_
          rintro e w' ⟨rfl, rfl⟩
          go_wp2_with fail
          refine KR.out.mono ?_
          rintro e w' ⟨rfl, rfl⟩
          go_wp2_with fail
          refine KW.out.mono ?_
          rintro e w' ⟨rfl, rfl⟩
          go_wp2
          go_ret
          exact ⟨rfl, rfl⟩
        · rw [n4 hrun]
          have hlt : (runL s.data.toList).length < s.size := by
            have h1 := takeWhile_le (p := isPart) s.data.toList
            have h2 : (runL s.data.toList).length ≠ s.size := fun h => hrun (by
              have := take_takeWhile (p := isPart) s.data.toList
              have h3 : (s.data.toList.takeWhile isPart).length = s.data.toList.length := h
              rw [h3, List.take_length] at this
              exact this.symm)
            have h4 : (runL s.data.toList).length ≤ s.size := h1
            omega
          generalize (runL s.data.toList).length = N at *
          have hne : ((N : Int) == (s.size : Int)) = false := by rw [beq_eq_false_iff_ne]; omega
          rw [← hg] at kd'
          have KD := Lib.hid kd'
          have KR := Lib.hid kr
          clear n1 n3 n4 n6 kr kw kd kd' hsz h64 hcr he hdg hrun hg hN
          go_enter Tryd.func36, Tryd.ntmps36
          go_wp2_with fail
          refine (KD.out _).mono ?_
          rintro e w' ⟨rfl, rfl⟩
          go_wp2_with fail
          refine KR.out.mono ?_
          rintro e w' ⟨rfl, rfl⟩
          go_wp2
          go_ret
          exact ⟨rfl, rfl⟩
end Go.Proofs.YtpabaabkhmjdhaaDoor
