/- ScanWrites, ScanBack. -/
import Derived.Test.YtpabaabkhmjdhaaDoorT8
import Derived.Test.YtpabaabkhmjdhaaDoorU8
namespace Go.Proofs.YtpabaabkhmjdhaaDoor
open Go.RowKit Go.Proofs.Scn Go.Flow Go.Sort
set_option linter.unusedVariables false
set_option linter.unusedSimpArgs false
set_option maxRecDepth 100000

theorem nil_bytes (w : World) : Bytes w (.slice none 0 0) ⟨#[]⟩ := .inl ⟨rfl, _, _, rfl⟩

set_option maxHeartbeats 8000000 in
theorem writes_any (v : Value) (ts : List Tok) (W : World) (ht : Toks W v ts) (hl : ts.length ≤ 140737488351232) (hv : ∀ t ∈ ts, t.v < two64 ∧ t.s.length ≤ 140737488355328) (hB : Base W) :
    Calls Tryd.prog 5 #[v] W fun e W' => e = .returned (.bool true) ∧ Below W.heap.size W W' := by
  have KL := Lib.hid (live_any W hB)
  have HB := Lib.hid hB
  have HT := Lib.hid ht
  have KF := Lib.hid (fun W ht => few_any v ts hl W ht (fun t h => (hv t h).2))
  have KA := Lib.hid (fun W ht hB => text_any v ts hl W ht hv hB)
  have KR := Lib.hid (fun W ht hB => rtext_any v ts hl W ht hv hB)
  clear hB ht
  cases hf : decide (sumF ts ≤ 4000)
  · rw [hf] at KF
    clear hf
    go_enter Tryd.func5, Tryd.ntmps5
    go_wp2_with fail
    refine KL.out.mono ?_
    rintro e W1 ⟨rfl, hb1⟩
    have HW1 := Lib.hid hb1
    clear hb1
    go_wp2_with fail
    refine (KF.out _ (HT.out.later HW1.out)).mono ?_
    rintro e w' ⟨rfl, rfl⟩
    go_wp2
    go_ret
    exact ⟨rfl, HW1.out⟩
  · rw [hf] at KF
    clear hf
    by_cases hall : ts.all checkT = true
    · by_cases hlen : (textL ts).length ≤ 65536
      · have HA := Lib.hid hall
        have HLn := Lib.hid hlen
        clear hall hlen
        go_enter Tryd.func5, Tryd.ntmps5
        go_wp2_with fail
        refine KL.out.mono ?_
        rintro e W1 ⟨rfl, hb1⟩
        have HW1 := Lib.hid hb1
        clear hb1
        go_wp2_with fail
        refine (KF.out _ (HT.out.later HW1.out)).mono ?_
        rintro e w' ⟨rfl, rfl⟩
        go_wp2_with fail
        refine (KA.out _ (HT.out.later HW1.out) (HB.out.later HW1.out)).mono ?_
        rintro e W3 ⟨hx3, hb3⟩
        rw [if_pos HA.out, if_pos HLn.out] at hx3
        obtain ⟨v3, rfl, ho3⟩ := hx3
        have HY3 := Lib.hid ho3.bytes
        have HW3 := Lib.hid (HW1.out.trans (hb3.mono HW1.out.size))
        clear hb3 ho3
        go_wp2_with fail
        refine (KR.out _ (HT.out.later HW3.out) (HB.out.later HW3.out)).mono ?_
        rintro e W4 ⟨hx4, hb4⟩
        rw [if_pos HA.out, if_pos HLn.out] at hx4
        obtain ⟨v4, rfl, ho4⟩ := hx4
        have q1 := str_run (HY3.out.later hb4)
        have q2 := str_run ho4.bytes
        have HW4 := Lib.hid (HW3.out.trans (hb4.mono HW3.out.size))
        clear hb4 ho4
        go_wp2
        go_ret
        exact ⟨rfl, HW4.out⟩
      · have HA := Lib.hid hall
        have HLn := Lib.hid hlen
        clear hall hlen
        go_enter Tryd.func5, Tryd.ntmps5
        go_wp2_with fail
        refine KL.out.mono ?_
        rintro e W1 ⟨rfl, hb1⟩
        have HW1 := Lib.hid hb1
        clear hb1
        go_wp2_with fail
        refine (KF.out _ (HT.out.later HW1.out)).mono ?_
        rintro e w' ⟨rfl, rfl⟩
        go_wp2_with fail
        refine (KA.out _ (HT.out.later HW1.out) (HB.out.later HW1.out)).mono ?_
        rintro e W3 ⟨hx3, hb3⟩
        rw [if_pos HA.out, if_neg HLn.out] at hx3
        subst hx3
        have HW3 := Lib.hid (HW1.out.trans (hb3.mono HW1.out.size))
        clear hb3
        go_wp2_with fail
        refine (KR.out _ (HT.out.later HW3.out) (HB.out.later HW3.out)).mono ?_
        rintro e W4 ⟨hx4, hb4⟩
        rw [if_pos HA.out, if_neg HLn.out] at hx4
        subst hx4
        have q1 := str_run (nil_bytes W4)
        have HW4 := Lib.hid (HW3.out.trans (hb4.mono HW3.out.size))
        clear hb4
        go_wp2
        go_ret
        exact ⟨rfl, HW4.out⟩
    · have HA := Lib.hid hall
      clear hall
      go_enter Tryd.func5, Tryd.ntmps5
      go_wp2_with fail
      refine KL.out.mono ?_
      rintro e W1 ⟨rfl, hb1⟩
      have HW1 := Lib.hid hb1
      clear hb1
      go_wp2_with fail
      refine (KF.out _ (HT.out.later HW1.out)).mono ?_
      rintro e w' ⟨rfl, rfl⟩
      go_wp2_with fail
      refine (KA.out _ (HT.out.later HW1.out) (HB.out.later HW1.out)).mono ?_
      rintro e W3 ⟨hx3, hb3⟩
      rw [if_neg HA.out] at hx3
      subst hx3
      have HW3 := Lib.hid (HW1.out.trans (hb3.mono HW1.out.size))
      clear hb3
      go_wp2_with fail
      refine (KR.out _ (HT.out.later HW3.out) (HB.out.later HW3.out)).mono ?_
      rintro e W4 ⟨hx4, hb4⟩
      rw [if_neg HA.out] at hx4
      subst hx4
      have q1 := str_run (nil_bytes W4)
      have HW4 := Lib.hid (HW3.out.trans (hb4.mono HW3.out.size))
      clear hb4
      go_wp2
      go_ret
      exact ⟨rfl, HW4.out⟩

set_option maxHeartbeats 8000000 in
theorem back_any (v : Value) (ts : List Tok) (W : World) (ht : Toks W v ts) (hl : ts.length ≤ 140737488351232) (hv : ∀ t ∈ ts, t.v < two64 ∧ t.s.length ≤ 140737488355328) (hB : Base W) :
    Calls Tryd.prog 6 #[v] W fun e W' => e = .returned (.bool true) ∧ Below W.heap.size W W' := by
  have KL := Lib.hid (live_any W hB)
  have HB := Lib.hid hB
  have HT := Lib.hid ht
  have HV := Lib.hid hv
  have KF := Lib.hid (fun W ht => few_any v ts hl W ht (fun t h => (hv t h).2))
  have KA := Lib.hid (fun W ht hB => text_any v ts hl W ht hv hB)
  obtain ⟨p, c, rfl⟩ := ht.form
  clear hB ht
  cases hf : decide (sumF ts ≤ 4000)
  · rw [hf] at KF
    clear hf
    go_enter Tryd.func6, Tryd.ntmps6
    go_wp2_with fail
    refine KL.out.mono ?_
    rintro e W1 ⟨rfl, hb1⟩
    have HW1 := Lib.hid hb1
    clear hb1
    go_wp2_with fail
    refine (KF.out _ (HT.out.later HW1.out)).mono ?_
    rintro e w' ⟨rfl, rfl⟩
    go_wp2
    go_ret
    exact ⟨rfl, HW1.out⟩
  · rw [hf] at KF
    have hshort := sumF_each ts (of_decide_eq_true hf)
    clear hf
    have HS := Lib.hid hshort
    clear hshort hv
    go_enter Tryd.func6, Tryd.ntmps6
    go_wp2_with fail
    refine KL.out.mono ?_
    rintro e W1 ⟨rfl, hb1⟩
    have HW1 := Lib.hid hb1
    clear hb1
    go_wp2_with fail
    refine (KF.out _ (HT.out.later HW1.out)).mono ?_
    rintro e w' ⟨rfl, rfl⟩
    go_wp2_with fail
    go_loopw [4, 5] (fun y i wr => ∃ (k : Nat) (m : Bool), k ≤ ts.length ∧ i = .int .i64 k ∧ y = .bool m ∧ Hid (m = (ts.take k).all checkT) ∧ Hid (Below W.heap.size W wr)) (fun _ i _ => ts.length - (intOf i).toNat)
    case atStart => exact ⟨0, true, Nat.zero_le _, rfl, rfl, Lib.hid rfl, HW1⟩
    case round =>
      obtain ⟨k, m, hk, rfl, rfl, HM, HX⟩ := hrel
      by_cases hks : k < ts.length
      · obtain ⟨b, off, c', hv2, hlt, hc⟩ : ∃ b off c', Value.slice p ts.length c = .slice (some ⟨b, off, none⟩) ts.length c' ∧ b < W.heap.size ∧ ∀ k (h : k < ts.length), TokAt W b (off + k * 5) ts[k] := by
          rcases HT.out with ⟨h0, _⟩ | h
          · rw [h0] at hks; simp at hks
          · exact h
        simp only [Value.slice.injEq, true_and] at hv2
        obtain ⟨rfl, rfl⟩ := hv2
        have hnx : (ts.take (k + 1)).all checkT = (m && checkT ts[k]) := by
          rw [List.take_succ_eq_append_getElem hks, List.all_append, HM.out]
          simp
        obtain ⟨c0, c1, c2, c3, c4⟩ := (hc k hks).later hlt HX.out
        have hvk := HV.out _ (List.getElem_mem hks)
        have kc := fun W hB => check_any ts[k].k ts[k].w ts[k].p (bs ts[k].s) ts[k].v (by show ts[k].s.length ≤ _; omega) hvk.1 W hB
        rw [list_bs, show checkT ⟨ts[k].k, ts[k].s, ts[k].w, ts[k].v, ts[k].p⟩ = checkT ts[k] from rfl] at kc
        have HNX := Lib.hid hnx
        have HBX := Lib.hid (HB.out.later HX.out)
        clear hnx hvk hc
        generalize checkT ts[k] = ct at *
        generalize ts[k] = t at *
        cases m
        · clear kc
          go_wp2_with fail
          go_roundw
          case rel => exact ⟨k + 1, false, by omega, by go_num, rfl, Lib.hid (by rw [HNX.out]; rfl), HX⟩
          case measure => simp [intOf]; omega
        · cases ct
          · rw [show errB false = 1 from rfl] at kc
            have KC := Lib.hid kc
            clear kc
            go_wp2_with fail
            refine (KC.out _ HBX.out).mono ?_
            rintro e W2 ⟨rfl, hb2⟩
            have HZ := Lib.hid (HX.out.trans (hb2.mono HX.out.size))
            clear hb2
            go_wp2_with fail
            go_roundw
            case rel => exact ⟨k + 1, false, by omega, by go_num, rfl, Lib.hid (by rw [HNX.out]; rfl), HZ⟩
            case measure => simp [intOf]; omega
          · rw [show errB true = 0 from rfl] at kc
            have KC := Lib.hid kc
            clear kc
            go_wp2_with fail
            refine (KC.out _ HBX.out).mono ?_
            rintro e W2 ⟨rfl, hb2⟩
            have HZ := Lib.hid (HX.out.trans (hb2.mono HX.out.size))
            clear hb2
            go_wp2_with fail
            go_roundw
            case rel => exact ⟨k + 1, true, by omega, by go_num, rfl, Lib.hid (by rw [HNX.out]; rfl), HZ⟩
            case measure => simp [intOf]; omega
      · obtain rfl : k = ts.length := by omega
        have hm : m = ts.all checkT := by
          have := HM.out
          rwa [List.take_length] at this
        cases m
        · have HA := Lib.hid (show ¬ ts.all checkT = true by rw [← hm]; simp)
          clear hm HM
          go_wp2_with fail
          refine (KA.out _ (HT.out.later HX.out) (HB.out.later HX.out)).mono ?_
          rintro e W3 ⟨hx3, hb3⟩
          rw [if_neg HA.out] at hx3
          subst hx3
          have HW3 := Lib.hid (HX.out.trans (hb3.mono HX.out.size))
          clear hb3
          go_wp2
          go_ret
          exact ⟨rfl, HW3.out⟩
        · have hall := hm.symm
          by_cases hlen : (textL ts).length ≤ 65536
          · obtain ⟨us, hu, hus⟩ := scan_text ts 0 (fun t h => ⟨List.all_eq_true.1 hall t h, (HV.out t h).1⟩)
            have KS := Lib.hid (fun v w hb hB => scan_any v (bs (textL ts)) hlen w hb hB)
            rw [list_bs, hu] at KS
            have KM := Lib.hid (fun v1 v2 w h1 h2 => same_any v1 v2 ts us (by omega) w h1 h2)
            rw [decide_eq_true hus.symm] at KM
            have HA := Lib.hid hall
            have HLn := Lib.hid hlen
            clear hm HM hall hlen hu hus
            go_wp2_with fail
            refine (KA.out _ (HT.out.later HX.out) (HB.out.later HX.out)).mono ?_
            rintro e W3 ⟨hx3, hb3⟩
            rw [if_pos HA.out, if_pos HLn.out] at hx3
            obtain ⟨v3, rfl, ho3⟩ := hx3
            have HW3 := Lib.hid (HX.out.trans (hb3.mono HX.out.size))
            have HY3 := Lib.hid ho3.bytes
            clear hb3 ho3
            go_wp2_with fail
            refine (KS.out _ _ HY3.out (HB.out.later HW3.out)).mono ?_
            rintro e W4 ⟨⟨v4, rfl, ho4⟩, hb4⟩
            have HU4 := Lib.hid ho4.toks
            have HW4 := Lib.hid (HW3.out.trans (hb4.mono HW3.out.size))
            clear hb4 ho4
            go_wp2_with fail
            refine (KM.out _ _ _ (HT.out.later HW4.out) HU4.out).mono ?_
            rintro e W5 ⟨rfl, hb5⟩
            have HW5 := Lib.hid (HW4.out.trans (hb5.mono HW4.out.size))
            clear hb5
            go_wp2
            go_ret
            exact ⟨rfl, HW5.out⟩
          · have HA := Lib.hid hall
            have HLn := Lib.hid hlen
            clear hm HM hall hlen
            go_wp2_with fail
            refine (KA.out _ (HT.out.later HX.out) (HB.out.later HX.out)).mono ?_
            rintro e W3 ⟨hx3, hb3⟩
            rw [if_pos HA.out, if_neg HLn.out] at hx3
            subst hx3
            have HW3 := Lib.hid (HX.out.trans (hb3.mono HX.out.size))
            clear hb3
            go_wp2
            go_ret
            exact ⟨rfl, HW3.out⟩

end Go.Proofs.YtpabaabkhmjdhaaDoor
