/- A value stands till the next change. -/
import Derived.Test.YtephnfhjobkciaaGreatDoorGZA

namespace Go.Proofs.YtephnfhjobkciaaGreatDoor
open Go.RowKit Go.Proofs.Wav Go.Proofs.Scn Go.Flow Go.Sort Go.Shelf Go.Cal
set_option linter.unusedVariables false
set_option linter.unusedSimpArgs false
set_option maxRecDepth 100000

theorem at_ok {x : Wv} (hc : checkW x = 0) {t s : Nat} (ht : (t : Int) ≤ x.last) (hs : s < x.names.length) : atE x t s = 0 ∧ atV x t s = valAt x.chs t s :=
  atE_ok hc (by omega)
theorem at_hit {x : Wv} (hc : checkW x = 0) {k : Nat} (hk : k < x.chs.length) {t s : Nat} (h1 : x.chs[k].t = t) (h2 : x.chs[k].g = s) : valAt x.chs t s = x.chs[k].v := by
  have := at_change hc (List.getElem_mem hk)
  rw [h1, h2] at this
  exact this
theorem at_no {x : Wv} (hc : checkW x = 0) {t s : Nat} (ht : (t : Int) ≤ x.last) (hs : s < x.names.length) (h : ∀ k (hk : k < x.chs.length), ¬ (x.chs[k].t = t ∧ x.chs[k].g = s)) :
    0 < t ∧ atE x ((t : Int) - 1) s = 0 ∧ atV x ((t : Int) - 1) s = valAt x.chs t s := by
  have h0 : 0 < t := by
    refine Nat.pos_of_ne_zero fun e => ?_
    obtain ⟨c, hm, h1, h2⟩ := at_start hc hs
    obtain ⟨k, hk, rfl⟩ := List.getElem_of_mem hm
    exact h k hk ⟨by rw [h1, e]; rfl, h2⟩
  obtain ⟨e1, e2⟩ := atE_ok (x := x) (t := (t : Int) - 1) (g := s) hc (by omega)
  refine ⟨h0, e1, ?_⟩
  rw [e2]
  refine (val_still fun c hm h1 h2 => ?_).symm
  obtain ⟨k, hk, rfl⟩ := List.getElem_of_mem hm
  exact h k hk ⟨h1, h2⟩

set_option maxHeartbeats 16000000 in
theorem wat_any (vn vw vc : Value) (x : Wv) (W : World) (hwav : WavAt W vn vw vc x) (hf : Fits x) (t s : Nat) (ht : t < 256) (hs : s < 256) (hB : Base W) :
    Calls Tryz.prog 9 #[.agg #[vn, vw, vc, .int .i64 x.last], .int .u8 t, .int .u8 s] W fun e W' => e = .returned (.bool true) ∧ Below W.heap.size W W' := by
  obtain ⟨pn, cn, rfl⟩ := Slc.form hwav.1
  obtain ⟨pw, cw, rfl⟩ := Slc.form hwav.2.1
  obtain ⟨pc, cc, rfl⟩ := Slc.form hwav.2.2
  have hbA := (Below.refl W.heap.size W).alloc (Nat.le_refl _) (.cells #[.slice pn x.names.length cn, .slice pw x.widths.length cw, .slice pc x.chs.length cc, .int .i64 x.last] 26)
  have HX := Lib.hid (Box4.new W (.slice pn x.names.length cn) (.slice pw x.widths.length cw) (.slice pc x.chs.length cc) (.int .i64 x.last) 26)
  have HLive := Lib.hid (live_any _ (hB.later hbA))
  have HV := Lib.hid (fun w hb => hwav.later (w' := w) hb)
  have H0 := Lib.hid hbA
  have HF := Lib.hid hf
  have HC := Lib.hid (fun h => Slc.at hwav.2.2 h)
  clear hbA hwav hB hf
  go_enter Tryz.func9, Tryz.ntmps9
  go_wp2_with fail
  generalize W.alloc (.cells #[.slice pn x.names.length cn, .slice pw x.widths.length cw, .slice pc x.chs.length cc, .int .i64 x.last] 26) = W0 at *
  refine HLive.out.mono ?_
  rintro e W1 ⟨rfl, hb1⟩
  have H1 := Lib.hid (H0.out.trans (hb1.mono H0.out.size))
  have HX1 := Lib.hid (HX.out.later hb1)
  obtain ⟨a0, a1, a2, a3, _, _, _, _, lta⟩ := HX1.out
  clear hb1
  go_wp2_with fail
  refine (few_any _ _ _ x W1 (HV.out W1 H1.out)).mono ?_
  rintro e W2 ⟨⟨fb, rfl, hfb⟩, hb2⟩
  have H2 := Lib.hid (H1.out.trans (hb2.mono H1.out.size))
  have HX2 := Lib.hid (HX1.out.later hb2)
  clear hb2 a0 a1 a2 a3 lta
  obtain ⟨a0, a1, a2, a3, _, _, _, _, lta⟩ := HX2.out
  cases fb with
  | false =>
    go_wp2
    go_ret
    exact ⟨rfl, H2.out⟩
  | true =>
    have hfw := hfb rfl
    have HFew := Lib.hid (hfb rfl)
    have HSX := Lib.hid (few_small hfw)
    clear hfb hfw
    by_cases hA : 1000000 < x.last
    case pos =>
      have hA' : decide (1000000 < x.last) = true := decide_eq_true hA
      go_wp2
      go_ret
      exact ⟨rfl, H2.out⟩
    have hA' : decide (1000000 < x.last) = false := decide_eq_false hA
    go_wp2_with fail
    refine (check_any _ _ _ x HSX.out HF.out W2 (HV.out W2 H2.out)).mono ?_
    rintro e W3 ⟨rfl, hb3⟩
    have H3 := Lib.hid (H2.out.trans (hb3.mono H2.out.size))
    have HX3 := Lib.hid (HX2.out.later hb3)
    clear hb3 a0 a1 a2 a3 lta
    obtain ⟨a0, a1, a2, a3, _, _, _, _, lta⟩ := HX3.out
    by_cases hck : checkW x = 0
    case neg =>
      generalize checkW x = CK at *
      have hck' : (CK != 0) = true := by simpa using hck
      go_wp2
      go_ret
      exact ⟨rfl, H3.out⟩
    have HCK := Lib.hid hck
    rw [hck]
    clear hck
    by_cases hn : x.names.length = 0
    case pos =>
      have hn' : ((x.names.length : Int) == 0) = true := by simp [hn]
      go_wp2
      go_ret
      exact ⟨rfl, H3.out⟩
    have hn' : ((x.names.length : Int) == 0) = false := by simp; exact fun h => hn (by rw [h]; rfl)
    have hlo := (is_of HCK.out).lo
    have hl' : decide (x.last < 0) = false := decide_eq_false (by omega)
    have hl1 : x.last + 1 ≠ 0 := by omega
    have hn1 : ((x.names.length : Int)) ≠ 0 := by omega
    have hfn := HFew.out.1
    go_wp2_with fail
    have ht1 : 0 ≤ (t : Int) % (x.last + 1) := Int.emod_nonneg _ hl1
    have ht2 : (t : Int) % (x.last + 1) < x.last + 1 := Int.emod_lt_of_pos _ (by omega)
    have hs1 : 0 ≤ (s : Int) % (x.names.length : Int) := Int.emod_nonneg _ hn1
    have hs2 : (s : Int) % (x.names.length : Int) < x.names.length := Int.emod_lt_of_pos _ (by omega)
    generalize (t : Int) % (x.last + 1) = ta at *
    generalize (s : Int) % (x.names.length : Int) = sa at *
    obtain ⟨a, rfl⟩ := Int.eq_ofNat_of_zero_le ht1
    obtain ⟨g, rfl⟩ := Int.eq_ofNat_of_zero_le hs1
    have hta : (a : Int) ≤ x.last := by omega
    have hga : g < x.names.length := by omega
    obtain ⟨e1, e2⟩ := at_ok HCK.out hta hga
    have HHit := Lib.hid (fun k hk h1 h2 => at_hit HCK.out (k := k) hk (t := a) (s := g) h1 h2)
    have HNo := Lib.hid (fun h => at_no HCK.out hta hga h)
    refine (at_any _ _ _ x HSX.out HF.out a g W3 (HV.out W3 H3.out)).mono ?_
    rintro e W4 ⟨he, hb4⟩
    rw [e1, e2] at he
    subst he
    have H4 := Lib.hid (H3.out.trans (hb4.mono H3.out.size))
    have HX4 := Lib.hid (HX3.out.later hb4)
    have hcl : x.chs.length ≤ 200 := HFew.out.2.2.1
    have ha9 : (a : Int) ≤ 1000000 := by omega
    clear hb4 a0 a1 a2 a3 lta ht1 ht2 hs1 hs2 e1 e2 hta hga hA hA' hl' hl1 hn' hn hn1 hlo hfn
    obtain ⟨a0, a1, a2, a3, _, _, _, _, lta⟩ := HX4.out
    have HA1 := Lib.hid (fun w h => at_any (.slice pn x.names.length cn) (.slice pw x.widths.length cw) (.slice pc x.chs.length cc) x HSX.out HF.out ((a : Int) - 1) g w h)
    generalize hVA : valAt x.chs a g = VA at *
    go_wp2_with fail
    go_loop [12] (fun i => ∃ k : Nat, k ≤ x.chs.length ∧ i = .int .i64 k ∧ Hid (∀ j (hj : j < x.chs.length), j < k → ¬ (x.chs[j].t = a ∧ x.chs[j].g = g))) (fun i => x.chs.length - (intOf i).toNat)
    case atStart => exact ⟨0, Nat.zero_le _, rfl, Lib.hid (fun j hj h => by omega)⟩
    case round =>
      obtain ⟨k, hk, rfl, HR⟩ := hrel
      by_cases hks : k < x.chs.length
      · obtain ⟨b, off, hpc, hlt, hcell⟩ := HC.out (by omega)
        have x0 := (H4.out.cell (p := ⟨b, off + (k * 3 + 0), none⟩) hlt).trans ((hcell (k * 3 + 0) (by omega)).trans (chgsV_at x.chs k 0 hks (by omega)))
        have x1 := (H4.out.cell (p := ⟨b, off + (k * 3 + 1), none⟩) hlt).trans ((hcell (k * 3 + 1) (by omega)).trans (chgsV_at x.chs k 1 hks (by omega)))
        have x2 := (H4.out.cell (p := ⟨b, off + (k * 3 + 2), none⟩) hlt).trans ((hcell (k * 3 + 2) (by omega)).trans (chgsV_at x.chs k 2 hks (by omega)))
        have hhit := fun h h2 => HHit.out k hks h h2
        have hno : ¬ (x.chs[k].t = a ∧ x.chs[k].g = g) → ∀ j (hj : j < x.chs.length), j < k + 1 → ¬ (x.chs[j].t = a ∧ x.chs[j].g = g) := by
          intro h j hj hjk
          by_cases hjk' : j < k
          · exact HR.out j hj hjk'
          · obtain rfl : j = k := by omega
            exact h
        generalize x.chs[k] = c at *
        obtain ⟨ct, cg, cv⟩ := c
        simp only [chgV, List.getElem?_cons_zero, List.getElem?_cons_succ, Nat.add_zero] at x0 x1 x2
        rw [← Nat.add_assoc] at x1 x2
        subst hpc
        clear hcell hlt
        simp only at hhit hno
        by_cases hg : ct = a
        · by_cases ht' : cg = g
          · have HH := Lib.hid (hhit hg ht')
            clear hhit hno
            subst hg
            subst ht'
            obtain rfl := HH.out
            go_wp2_with fail
            go_ret
            exact ⟨rfl, H4.out⟩
          · have HH := Lib.hid (hno (fun h => ht' h.2))
            have hq : (cg == (g : Int)) = false := by simpa using ht'
            clear hhit hno
            subst hg
            go_wp2_with fail
            go_round
            case rel => exact ⟨k + 1, by omega, by go_num, HH⟩
            case measure => simp [intOf]; omega
        · have HH := Lib.hid (hno (fun h => hg h.1))
          have hq : (ct == (a : Int)) = false := by simpa using hg
          clear hhit hno
          go_wp2_with fail
          go_round
          case rel => exact ⟨k + 1, by omega, by go_num, HH⟩
          case measure => simp [intOf]; omega
      · obtain rfl : k = x.chs.length := by omega
        obtain ⟨h0, e1, e2⟩ := HNo.out (fun j hj => HR.out j hj hj)
        go_wp2_with fail
        refine (HA1.out W4 (HV.out W4 H4.out)).mono ?_
        rintro e W5 ⟨he, hb5⟩
        rw [e1, e2] at he
        subst he
        have H5 := Lib.hid (H4.out.trans (hb5.mono H4.out.size))
        clear hb5
        go_wp2
        go_ret
        exact ⟨rfl, H5.out⟩
end Go.Proofs.YtephnfhjobkciaaGreatDoor
