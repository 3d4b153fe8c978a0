/- ScanNames. -/
import Derived.Test.YtpabaabkhmjdhaaDoorT0
import Derived.Test.YtpabaabkhmjdhaaDoorU7
namespace Go.Proofs.YtpabaabkhmjdhaaDoor
open Go.RowKit Go.Proofs.Scn Go.Flow Go.Sort
set_option linter.unusedVariables false
set_option linter.unusedSimpArgs false
set_option maxRecDepth 100000

theorem check_name (l : List UInt8) : checkT ⟨1, l, 0, 0, 0⟩ = isName l := by simp [checkT]
theorem check_word (l : List UInt8) : checkT ⟨2, l, 0, 0, 0⟩ = isWord l := by simp [checkT]
theorem name_word {l : List UInt8} (h : isName l = true) : isWord l = false := by simp [isName] at h; exact h.2
theorem err_eq (b : Bool) : decide (errB b = 0) = b := by cases b <;> rfl
theorem toks_one {w : World} {v : Value} {t : Tok} (h : Toks w v [t]) : ∃ b off cap, v = .slice (some ⟨b, off, none⟩) 1 cap ∧ b < w.heap.size ∧ TokAt w b off t := by
  rcases h with ⟨h, _⟩ | ⟨b, off, cap, rfl, hlt, hc⟩
  · cases h
  · refine ⟨b, off, cap, rfl, hlt, ?_⟩
    have := hc 0 (by simp)
    simpa using this

set_option maxHeartbeats 8000000 in
theorem names_any (s : ByteArray) (W : World) (hB : Base W) :
    Calls Tryd.prog 11 #[.string s] W fun e W' => e = .returned (.bool true) ∧ Below W.heap.size W W' := by
  have KL := Lib.hid (live_any W hB)
  have HB := Lib.hid hB
  clear hB
  have hll : s.data.toList.length = s.size := rfl
  by_cases h1 : s.size ≤ 2000
  · have hn : ¬ (2000 : Int) < (s.size : Int) := by omega
    have K1 := Lib.hid (fun W hB => check_any 1 0 0 s 0 (by omega) (by omega) W hB)
    have K2 := Lib.hid (fun W hB => check_any 2 0 0 s 0 (by omega) (by omega) W hB)
    rw [check_name] at K1
    rw [check_word] at K2
    have KS := Lib.hid (fun v w hb hB => scan_any v s (by omega) w hb hB)
    have KW := Lib.hid (fun W mx hm => word_any s (by omega) W mx hm)
    have hconv := conv_run s
    have hname := fun h => @scan_name s.data.toList (.inl ((check_name _).trans h))
    have hword := fun h => @scan_name s.data.toList (.inr ((check_word _).trans h))
    have hnone := fun t h1 h2 h3 => @scan_names s.data.toList t h1 h2 h3
    simp only [check_name, check_word] at hnone
    have hnw := @name_word s.data.toList
    have hll2 : bs s.data.toList = s := by rfl
    cases hN : isName s.data.toList
    · cases hD : isWord s.data.toList
      · rw [hN, show errB false = 1 from rfl] at K1
        rw [hD] at K2 KW
        rw [show errB false = 1 from rfl] at K2
        cases hr : scanW 0 s.data.toList with
        | error x =>
          obtain ⟨k, er⟩ := x
          rw [hr] at KS
          have her := scan_err hr
          clear hr hname hword hnone hnw hN hD
          go_enter Tryd.func11, Tryd.ntmps11
          go_wp2_with fail
          refine KL.out.mono ?_
          rintro e W1 ⟨rfl, hb1⟩
          have HW1 := Lib.hid hb1
          have HB1 := Lib.hid (HB.out.later hb1)
          clear hb1
          go_wp2_with fail
          refine (K1.out _ HB1.out).mono ?_
          rintro e W2 ⟨rfl, hb2⟩
          have HW2 := Lib.hid (HW1.out.trans (hb2.mono HW1.out.size))
          have HB2 := Lib.hid (HB1.out.later hb2)
          clear hb2
          go_wp2_with fail
          refine (K2.out _ HB2.out).mono ?_
          rintro e W3 ⟨rfl, hb3⟩
          have HW3 := Lib.hid (HW2.out.trans (hb3.mono HW2.out.size))
          have HB3 := Lib.hid (HB2.out.later hb3)
          clear hb3
          have hbw := Joins.below_bytesWorld W3.heap.size W3 5 s (Nat.le_refl _)
          have HBy4 := Lib.hid (conv_bytes W3 s (grownCap W3 s.size 0 5))
          have HB4 := Lib.hid (HB3.out.later hbw)
          have HW4 := Lib.hid (HW3.out.trans (hbw.mono HW3.out.size))
          clear hbw
          go_wp2_with fail
          refine (KS.out _ _ HBy4.out HB4.out).mono ?_
          rintro e W5 ⟨rfl, hb5⟩
          have HB5 := Lib.hid (HB4.out.later hb5)
          have HW5 := Lib.hid (HW4.out.trans (hb5.mono HW4.out.size))
          obtain ⟨mx, hmx⟩ := HB5.out.max
          have KW5 := Lib.hid (KW.out _ _ hmx)
          clear hb5 hmx
          go_wp2_with fail
          refine KW5.out.mono ?_
          rintro e w' ⟨rfl, rfl⟩
          go_wp2
          go_ret
          exact ⟨rfl, HW5.out⟩
        | ok ts =>
          rw [hr] at KS
          by_cases h1l : ts.length = 1
          · obtain ⟨t, rfl⟩ : ∃ t, ts = [t] := by
              match ts, h1l with
              | [t], _ => exact ⟨t, rfl⟩
            obtain ⟨tk, tS, tw, tv, tp⟩ := t
            by_cases hs : tS = s.data.toList
            · by_cases hp : tp = 0
              · have hk : tk = 4 := by
                  rcases hnone _ hr hs hp with h | ⟨_, h⟩ | ⟨_, h⟩
                  · exact h
                  · rw [hN] at h; cases h
                  · rw [hD] at h; cases h
                subst hk hs hp
                have hbb : (bs s.data.toList).toList = s.toList := by rw [toList_eq, toList_eq]; rfl
                clear hr hname hword hnone hnw hN hD h1l
                go_enter Tryd.func11, Tryd.ntmps11
                go_wp2_with fail
                refine KL.out.mono ?_
                rintro e W1 ⟨rfl, hb1⟩
                have HW1 := Lib.hid hb1
                have HB1 := Lib.hid (HB.out.later hb1)
                clear hb1
                go_wp2_with fail
                refine (K1.out _ HB1.out).mono ?_
                rintro e W2 ⟨rfl, hb2⟩
                have HW2 := Lib.hid (HW1.out.trans (hb2.mono HW1.out.size))
                have HB2 := Lib.hid (HB1.out.later hb2)
                clear hb2
                go_wp2_with fail
                refine (K2.out _ HB2.out).mono ?_
                rintro e W3 ⟨rfl, hb3⟩
                have HW3 := Lib.hid (HW2.out.trans (hb3.mono HW2.out.size))
                have HB3 := Lib.hid (HB2.out.later hb3)
                clear hb3
                have hbw := Joins.below_bytesWorld W3.heap.size W3 5 s (Nat.le_refl _)
                have HBy4 := Lib.hid (conv_bytes W3 s (grownCap W3 s.size 0 5))
                have HB4 := Lib.hid (HB3.out.later hbw)
                have HW4 := Lib.hid (HW3.out.trans (hbw.mono HW3.out.size))
                clear hbw
                go_wp2_with fail
                refine (KS.out _ _ HBy4.out HB4.out).mono ?_
                rintro e W5 ⟨⟨v5, rfl, ho5⟩, hb5⟩
                have HB5 := Lib.hid (HB4.out.later hb5)
                have HW5 := Lib.hid (HW4.out.trans (hb5.mono HW4.out.size))
                obtain ⟨mx, hmx⟩ := HB5.out.max
                have KW5 := Lib.hid (KW.out _ _ hmx)
                clear hb5 hmx
                obtain ⟨b, off, cp, rfl, hlt, c0, c1, c2, c3, c4⟩ := toks_one ho5.toks
                clear ho5
                go_wp2_with fail
                refine KW5.out.mono ?_
                rintro e w' ⟨rfl, rfl⟩
                go_wp2
                go_ret
                exact ⟨rfl, HW5.out⟩
              · have hp' : ¬ tp = 0 := hp
                subst hs
                have hbb : (bs s.data.toList).toList = s.toList := by rw [toList_eq, toList_eq]; rfl
                clear hr hname hword hnone hnw hN hD h1l hp
                go_enter Tryd.func11, Tryd.ntmps11
                go_wp2_with fail
                refine KL.out.mono ?_
                rintro e W1 ⟨rfl, hb1⟩
                have HW1 := Lib.hid hb1
                have HB1 := Lib.hid (HB.out.later hb1)
                clear hb1
                go_wp2_with fail
                refine (K1.out _ HB1.out).mono ?_
                rintro e W2 ⟨rfl, hb2⟩
                have HW2 := Lib.hid (HW1.out.trans (hb2.mono HW1.out.size))
                have HB2 := Lib.hid (HB1.out.later hb2)
                clear hb2
                go_wp2_with fail
                refine (K2.out _ HB2.out).mono ?_
                rintro e W3 ⟨rfl, hb3⟩
                have HW3 := Lib.hid (HW2.out.trans (hb3.mono HW2.out.size))
                have HB3 := Lib.hid (HB2.out.later hb3)
                clear hb3
                have hbw := Joins.below_bytesWorld W3.heap.size W3 5 s (Nat.le_refl _)
                have HBy4 := Lib.hid (conv_bytes W3 s (grownCap W3 s.size 0 5))
                have HB4 := Lib.hid (HB3.out.later hbw)
                have HW4 := Lib.hid (HW3.out.trans (hbw.mono HW3.out.size))
                clear hbw
                go_wp2_with fail
                refine (KS.out _ _ HBy4.out HB4.out).mono ?_
                rintro e W5 ⟨⟨v5, rfl, ho5⟩, hb5⟩
                have HB5 := Lib.hid (HB4.out.later hb5)
                have HW5 := Lib.hid (HW4.out.trans (hb5.mono HW4.out.size))
                obtain ⟨mx, hmx⟩ := HB5.out.max
                have KW5 := Lib.hid (KW.out _ _ hmx)
                clear hb5 hmx
                obtain ⟨b, off, cp, rfl, hlt, c0, c1, c2, c3, c4⟩ := toks_one ho5.toks
                clear ho5
                go_wp2_with fail
                refine KW5.out.mono ?_
                rintro e w' ⟨rfl, rfl⟩
                go_wp2
                go_ret
                exact ⟨rfl, HW5.out⟩
            · have hs' : ¬ (bs tS).toList = s.toList := by rw [toList_eq, toList_eq, list_bs]; exact hs
              clear hr hname hword hnone hnw hN hD h1l hs
              go_enter Tryd.func11, Tryd.ntmps11
              go_wp2_with fail
              refine KL.out.mono ?_
              rintro e W1 ⟨rfl, hb1⟩
              have HW1 := Lib.hid hb1
              have HB1 := Lib.hid (HB.out.later hb1)
              clear hb1
              go_wp2_with fail
              refine (K1.out _ HB1.out).mono ?_
              rintro e W2 ⟨rfl, hb2⟩
              have HW2 := Lib.hid (HW1.out.trans (hb2.mono HW1.out.size))
              have HB2 := Lib.hid (HB1.out.later hb2)
              clear hb2
              go_wp2_with fail
              refine (K2.out _ HB2.out).mono ?_
              rintro e W3 ⟨rfl, hb3⟩
              have HW3 := Lib.hid (HW2.out.trans (hb3.mono HW2.out.size))
              have HB3 := Lib.hid (HB2.out.later hb3)
              clear hb3
              have hbw := Joins.below_bytesWorld W3.heap.size W3 5 s (Nat.le_refl _)
              have HBy4 := Lib.hid (conv_bytes W3 s (grownCap W3 s.size 0 5))
              have HB4 := Lib.hid (HB3.out.later hbw)
              have HW4 := Lib.hid (HW3.out.trans (hbw.mono HW3.out.size))
              clear hbw
              go_wp2_with fail
              refine (KS.out _ _ HBy4.out HB4.out).mono ?_
              rintro e W5 ⟨⟨v5, rfl, ho5⟩, hb5⟩
              have HB5 := Lib.hid (HB4.out.later hb5)
              have HW5 := Lib.hid (HW4.out.trans (hb5.mono HW4.out.size))
              obtain ⟨mx, hmx⟩ := HB5.out.max
              have KW5 := Lib.hid (KW.out _ _ hmx)
              clear hb5 hmx
              obtain ⟨b, off, cp, rfl, hlt, c0, c1, c2, c3, c4⟩ := toks_one ho5.toks
              clear ho5
              go_wp2_with fail
              refine KW5.out.mono ?_
              rintro e w' ⟨rfl, rfl⟩
              go_wp2
              go_ret
              exact ⟨rfl, HW5.out⟩
          · have h1l' : ¬ (ts.length : Int) = 1 := by omega
            clear hr hname hword hnone hnw hN hD h1l
            go_enter Tryd.func11, Tryd.ntmps11
            go_wp2_with fail
            refine KL.out.mono ?_
            rintro e W1 ⟨rfl, hb1⟩
            have HW1 := Lib.hid hb1
            have HB1 := Lib.hid (HB.out.later hb1)
            clear hb1
            go_wp2_with fail
            refine (K1.out _ HB1.out).mono ?_
            rintro e W2 ⟨rfl, hb2⟩
            have HW2 := Lib.hid (HW1.out.trans (hb2.mono HW1.out.size))
            have HB2 := Lib.hid (HB1.out.later hb2)
            clear hb2
            go_wp2_with fail
            refine (K2.out _ HB2.out).mono ?_
            rintro e W3 ⟨rfl, hb3⟩
            have HW3 := Lib.hid (HW2.out.trans (hb3.mono HW2.out.size))
            have HB3 := Lib.hid (HB2.out.later hb3)
            clear hb3
            have hbw := Joins.below_bytesWorld W3.heap.size W3 5 s (Nat.le_refl _)
            have HBy4 := Lib.hid (conv_bytes W3 s (grownCap W3 s.size 0 5))
            have HB4 := Lib.hid (HB3.out.later hbw)
            have HW4 := Lib.hid (HW3.out.trans (hbw.mono HW3.out.size))
            clear hbw
            go_wp2_with fail
            refine (KS.out _ _ HBy4.out HB4.out).mono ?_
            rintro e W5 ⟨⟨v5, rfl, ho5⟩, hb5⟩
            have HB5 := Lib.hid (HB4.out.later hb5)
            have HW5 := Lib.hid (HW4.out.trans (hb5.mono HW4.out.size))
            obtain ⟨mx, hmx⟩ := HB5.out.max
            have KW5 := Lib.hid (KW.out _ _ hmx)
            clear hb5 hmx
            obtain ⟨q5, c5, rfl⟩ := ho5.toks.form
            clear ho5
            go_wp2_with fail
            refine KW5.out.mono ?_
            rintro e w' ⟨rfl, rfl⟩
            go_wp2
            go_ret
            exact ⟨rfl, HW5.out⟩
      · rw [hD] at K2 KW
        rw [show errB true = 0 from rfl] at K2
        have hNf : isName s.data.toList = false := by
          cases h : isName s.data.toList
          · rfl
          · rw [hnw h] at hD; cases hD
        rw [hNf, show errB false = 1 from rfl] at K1
        have hr := hword hD
        rw [hD] at hr
        simp only [if_true] at hr
        rw [hr] at KS
        have hbb : (bs s.data.toList).toList = s.toList := by rw [toList_eq, toList_eq]; rfl
        clear hr hname hword hnone hnw hN hD hNf
        go_enter Tryd.func11, Tryd.ntmps11
        go_wp2_with fail
        refine KL.out.mono ?_
        rintro e W1 ⟨rfl, hb1⟩
        have HW1 := Lib.hid hb1
        have HB1 := Lib.hid (HB.out.later hb1)
        clear hb1
        go_wp2_with fail
        refine (K1.out _ HB1.out).mono ?_
        rintro e W2 ⟨rfl, hb2⟩
        have HW2 := Lib.hid (HW1.out.trans (hb2.mono HW1.out.size))
        have HB2 := Lib.hid (HB1.out.later hb2)
        clear hb2
        go_wp2_with fail
        refine (K2.out _ HB2.out).mono ?_
        rintro e W3 ⟨rfl, hb3⟩
        have HW3 := Lib.hid (HW2.out.trans (hb3.mono HW2.out.size))
        have HB3 := Lib.hid (HB2.out.later hb3)
        clear hb3
        have hbw := Joins.below_bytesWorld W3.heap.size W3 5 s (Nat.le_refl _)
        have HBy4 := Lib.hid (conv_bytes W3 s (grownCap W3 s.size 0 5))
        have HB4 := Lib.hid (HB3.out.later hbw)
        have HW4 := Lib.hid (HW3.out.trans (hbw.mono HW3.out.size))
        clear hbw
        go_wp2_with fail
        refine (KS.out _ _ HBy4.out HB4.out).mono ?_
        rintro e W5 ⟨⟨v5, rfl, ho5⟩, hb5⟩
        have HB5 := Lib.hid (HB4.out.later hb5)
        have HW5 := Lib.hid (HW4.out.trans (hb5.mono HW4.out.size))
        obtain ⟨mx, hmx⟩ := HB5.out.max
        have KW5 := Lib.hid (KW.out _ _ hmx)
        clear hb5 hmx
        obtain ⟨b, off, cp, rfl, hlt, c0, c1, c2, c3, c4⟩ := toks_one ho5.toks
        clear ho5
        go_wp2_with fail
        refine KW5.out.mono ?_
        rintro e w' ⟨rfl, rfl⟩
        go_wp2
        go_ret
        exact ⟨rfl, HW5.out⟩
    · have hD := hnw hN
      rw [hN, show errB true = 0 from rfl] at K1
      rw [hD] at K2 KW
      rw [show errB false = 1 from rfl] at K2
      have hr := hname hN
      rw [hD] at hr
      simp only [Bool.false_eq_true, if_false] at hr
      rw [hr] at KS
      have hbb : (bs s.data.toList).toList = s.toList := by rw [toList_eq, toList_eq]; rfl
      clear hr hname hword hnone hnw hN hD
      go_enter Tryd.func11, Tryd.ntmps11
      go_wp2_with fail
      refine KL.out.mono ?_
      rintro e W1 ⟨rfl, hb1⟩
      have HW1 := Lib.hid hb1
      have HB1 := Lib.hid (HB.out.later hb1)
      clear hb1
      go_wp2_with fail
      refine (K1.out _ HB1.out).mono ?_
      rintro e W2 ⟨rfl, hb2⟩
      have HW2 := Lib.hid (HW1.out.trans (hb2.mono HW1.out.size))
      have HB2 := Lib.hid (HB1.out.later hb2)
      clear hb2
      go_wp2_with fail
      refine (K2.out _ HB2.out).mono ?_
      rintro e W3 ⟨rfl, hb3⟩
      have HW3 := Lib.hid (HW2.out.trans (hb3.mono HW2.out.size))
      have HB3 := Lib.hid (HB2.out.later hb3)
      clear hb3
      have hbw := Joins.below_bytesWorld W3.heap.size W3 5 s (Nat.le_refl _)
      have HBy4 := Lib.hid (conv_bytes W3 s (grownCap W3 s.size 0 5))
      have HB4 := Lib.hid (HB3.out.later hbw)
      have HW4 := Lib.hid (HW3.out.trans (hbw.mono HW3.out.size))
      clear hbw
      go_wp2_with fail
      refine (KS.out _ _ HBy4.out HB4.out).mono ?_
      rintro e W5 ⟨⟨v5, rfl, ho5⟩, hb5⟩
      have HB5 := Lib.hid (HB4.out.later hb5)
      have HW5 := Lib.hid (HW4.out.trans (hb5.mono HW4.out.size))
      obtain ⟨mx, hmx⟩ := HB5.out.max
      have KW5 := Lib.hid (KW.out _ _ hmx)
      clear hb5 hmx
      obtain ⟨b, off, cp, rfl, hlt, c0, c1, c2, c3, c4⟩ := toks_one ho5.toks
      clear ho5
      go_wp2_with fail
      refine KW5.out.mono ?_
      rintro e w' ⟨rfl, rfl⟩
      go_wp2
      go_ret
      exact ⟨rfl, HW5.out⟩
  · have hn : (2000 : Int) < (s.size : Int) := by omega
    go_enter Tryd.func11, Tryd.ntmps11
    go_wp2_with fail
    refine KL.out.mono ?_
    rintro e W1 ⟨rfl, hb1⟩
    have HW1 := Lib.hid hb1
    clear hb1
    go_wp2
    go_ret
    exact ⟨rfl, HW1.out⟩

end Go.Proofs.YtpabaabkhmjdhaaDoor
