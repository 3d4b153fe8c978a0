/- A wave is its text, and its rows. -/
import Derived.Test.YtephnfhjobkciaaGreatDoorGZA
import Derived.Test.YtephnfhjobkciaaGreatDoorGZ1

namespace Go.Proofs.YtephnfhjobkciaaGreatDoor
open Go.RowKit Go.Proofs.Wav Go.Proofs.Scn Go.Flow Go.Sort Go.Shelf Go.Cal
set_option linter.unusedVariables false
set_option linter.unusedSimpArgs false
set_option maxRecDepth 100000

theorem back_put {x : Wv} (h : putE x = 0) : checkW x = 0 ∧ (putW x).length ≤ 65536 ∧ getP (putL x) = some x ∧ putL x = putW x := by
  have hL : putL x = putW x := by unfold putL; rw [if_pos h]
  by_cases hc : checkW x = 0
  · by_cases h2 : 65536 < (putW x).length
    · rw [putE_long hc h2] at h; exact absurd h (by decide)
    · exact ⟨hc, by omega, by rw [hL]; exact (getP_iff _ _).2 ⟨hc, by omega, rfl⟩, hL⟩
  · rw [putE_bad hc] at h; exact absurd h hc
theorem back_rows {x : Wv} (h : checkW x = 0) (hl : x.last ≤ 500) (hn : x.names.length ≤ 20) : rowsE x = 0 ∧ makeW x.names x.widths (rowsL x) = (0, x) ∧ (rowsL x).length ≤ 501 ∧ (rowsL x).length * x.names.length ≤ 100000 := by
  have hlo := (is_of h).lo
  have he : rowsE x = 0 := by
    refine rowsE_ok h ?_
    have : (x.last + 1) * (x.names.length : Int) ≤ 501 * 20 := Int.mul_le_mul (by omega) (by omega) (by omega) (by omega)
    omega
  have hR : rowsL x = rowsOf x.names.length x.chs (x.last.toNat + 1) := by unfold rowsL; rw [if_pos he]
  have hle : (rowsL x).length ≤ 501 := by rw [hR]; simp only [rowsOf, List.length_map, List.length_range]; omega
  refine ⟨he, by rw [hR]; exact Go.Proofs.Wav.make_rows h, hle, ?_⟩
  have : (rowsL x).length * x.names.length ≤ 501 * 20 := Nat.mul_le_mul hle hn
  omega
theorem told_lt {l : List Chg} (hv : ∀ c ∈ l, c.v < 18446744073709551616) (g : Int) : (told l g).getD 0 < 18446744073709551616 := by
  have key : ∀ (l : List Chg), (∀ c ∈ l, c.v < 18446744073709551616) → ∀ v, told l g = some v → v < 18446744073709551616 := by
    intro l
    induction l with
    | nil => intro _ v h; rw [told_nil] at h; cases h
    | cons c l ih =>
      intro hv v h
      rw [told_cons] at h
      cases ht : told l g with
      | some w => rw [ht] at h; simp only [Option.some_or, Option.some.injEq] at h; subst h; exact ih (fun c hc => hv c (List.mem_cons_of_mem _ hc)) _ ht
      | none =>
        rw [ht, Option.none_or] at h
        split at h
        · cases h; exact hv c (List.mem_cons_self ..)
        · cases h
  cases ht : told l g with
  | none => simp
  | some v => simpa using key l hv v ht
theorem rowsL_lt {x : Wv} (hf : Fits x) : ∀ r ∈ rowsL x, ∀ y ∈ r, y < 18446744073709551616 := by
  intro r hr y hy
  unfold rowsL at hr
  split at hr
  · simp only [rowsOf, List.mem_map, List.mem_range] at hr
    obtain ⟨t, _, rfl⟩ := hr
    simp only [List.mem_map, List.mem_range] at hy
    obtain ⟨s, _, rfl⟩ := hy
    exact told_lt (fun c hc => hf.v c (List.mem_filter.1 hc).1) _
  · simp at hr
theorem back_make {ns : List Ln} {ws : List Int} {rows : List (List Nat)} (hn : ns.length ≤ 20) (hr : rows.length ≤ 50) (h : (makeW ns ws rows).1 = 0) :
    rowsE (makeW ns ws rows).2 = 0 ∧ rowsL (makeW ns ws rows).2 = rows := by
  have hm : makeW ns ws rows = (0, (makeW ns ws rows).2) := by rw [← h]
  generalize (makeW ns ws rows).2 = m at *
  have hrm := rows_make hm
  obtain ⟨_, hm2, hc⟩ := make_ok hm
  have e1 : m.last = (rows.length : Int) - 1 := by rw [hm2]; rfl
  have e2 : m.names = ns := by rw [hm2]; rfl
  have he : rowsE m = 0 := by
    refine rowsE_ok hc ?_
    have hlo := (is_of hc).lo
    have : (m.last + 1) * (m.names.length : Int) ≤ 50 * 20 := Int.mul_le_mul (by omega) (by rw [e2]; omega) (by omega) (by omega)
    omega
  refine ⟨he, ?_⟩
  unfold rowsL
  rw [if_pos he]
  exact hrm

set_option maxHeartbeats 16000000 in
theorem wback_any (vn vw vc v1 v2 v3 : Value) (x : Wv) (ns : List Ln) (ws : List Int) (rows : List (List Nat)) (W : World) (hwav : WavAt W vn vw vc x) (hf : Fits x) (hcap : Capd vc x.chs.length)
    (y1 : Strs W v1 ns) (y2 : Ints W v2 ws) (y3 : Rws W v3 rows) (hv : ∀ r ∈ rows, ∀ x ∈ r, x < 18446744073709551616) (hB : Base W) :
    Calls Tryz.prog 7 #[.agg #[vn, vw, vc, .int .i64 x.last], v1, v2, v3] W fun e W' => e = .returned (.bool true) ∧ Below W.heap.size W W' := by
  obtain ⟨pc, cc, rfl, hcc⟩ := hcap
  obtain ⟨pn, cn, rfl⟩ := Slc.form hwav.1
  obtain ⟨pw, cw, rfl⟩ := Slc.form hwav.2.1
  obtain ⟨p1, c1, rfl⟩ := Slc.form y1
  obtain ⟨p2, c2, rfl⟩ := Slc.form y2
  obtain ⟨p3, c3, rfl⟩ := y3.form
  have hbA := (Below.refl W.heap.size W).alloc (Nat.le_refl _) (.cells #[.slice pn x.names.length cn, .slice pw x.widths.length cw, .slice pc x.chs.length cc, .int .i64 x.last] 26)
  have HX := Lib.hid (Box4.new W (.slice pn x.names.length cn) (.slice pw x.widths.length cw) (.slice pc x.chs.length cc) (.int .i64 x.last) 26)
  have HLive := Lib.hid (live_any _ (hB.later hbA))
  have HB := Lib.hid hB
  have HV := Lib.hid (fun w hb => hwav.later (w' := w) hb)
  have HY1 := Lib.hid (fun w (hb : Below W.heap.size W w) => Slc.later y1 hb)
  have HY2 := Lib.hid (fun w (hb : Below W.heap.size W w) => Slc.later y2 hb)
  have HY3 := Lib.hid (fun w (hb : Below W.heap.size W w) => y3.later hb)
  have H0 := Lib.hid hbA
  have HF := Lib.hid hf
  have HU := Lib.hid hv
  have HCC := Lib.hid hcc
  clear hbA hwav hB hf hcc y1 y2 y3 hv
  go_enter Tryz.func7, Tryz.ntmps7
  go_wp2_with fail
  generalize W.alloc (.cells #[.slice pn x.names.length cn, .slice pw x.widths.length cw, .slice pc x.chs.length cc, .int .i64 x.last] 26) = W0 at *
  refine HLive.out.mono ?_
  rintro e W1 ⟨rfl, hb1⟩
  have H1 := Lib.hid (H0.out.trans (hb1.mono H0.out.size))
  have HX1 := Lib.hid (HX.out.later hb1)
  obtain ⟨a0, a1, a2, a3, _, _, _, _, lta⟩ := HX1.out
  clear hb1
  go_wp2_with fail
  refine (few_any _ _ _ x W1 (HV.out W1 H1.out)).mono ?_
  rintro e W2 ⟨⟨fb, rfl, hfb⟩, hb2⟩
  have H2 := Lib.hid (H1.out.trans (hb2.mono H1.out.size))
  have HX2 := Lib.hid (HX1.out.later hb2)
  clear hb2 a0 a1 a2 a3 lta
  obtain ⟨a0, a1, a2, a3, _, _, _, _, lta⟩ := HX2.out
  cases fb with
  | false =>
    go_wp2
    go_ret
    exact ⟨rfl, H2.out⟩
  | true =>
    have hsm := few_small (hfb rfl)
    have HFew := Lib.hid (hfb rfl)
    have HSX := Lib.hid hsm
    clear hfb
    by_cases hA : 500 < x.last
    case pos =>
      have hA' : decide (500 < x.last) = true := decide_eq_true hA
      go_wp2
      go_ret
      exact ⟨rfl, H2.out⟩
    have hA' : decide (500 < x.last) = false := decide_eq_false hA
    go_wp2_with fail
    refine (fewRows_any _ _ _ ns ws rows W2 (HY1.out W2 H2.out) (HY2.out W2 H2.out) (HY3.out W2 H2.out)).mono ?_
    rintro e W3 ⟨⟨fr, rfl, hfr⟩, hb3⟩
    have H3 := Lib.hid (H2.out.trans (hb3.mono H2.out.size))
    have HX3 := Lib.hid (HX2.out.later hb3)
    clear hb3 a0 a1 a2 a3 lta hsm
    obtain ⟨a0, a1, a2, a3, _, _, _, _, lta⟩ := HX3.out
    cases fr with
    | false =>
      go_wp2
      go_ret
      exact ⟨rfl, H3.out⟩
    | true =>
      obtain ⟨hfew, hrl, hrr⟩ := hfr rfl
      have hfw := few_fits hfew hrl
      have HRL := Lib.hid (show rows.length ≤ 100000 by omega)
      have HRR := Lib.hid (show ∀ r ∈ rows, r.length ≤ 100000 from fun r hr => by have := hrr r hr; omega)
      have HM := Lib.hid (fun w h0 h1 h2 => make_any (.slice p1 ns.length c1) (.slice p2 ws.length c2) (.slice p3 rows.length c3) ns ws rows hfw.1 hfw.2.1 hfw.2.2.1 hfw.2.2.2.1 hfw.2.2.2.2 HU.out w h0 h1 h2)
      have HSM := Lib.hid (make_small ns ws rows hfw.1 hfw.2.1 hfw.2.2.1 hfw.2.2.2.2)
      have HFM := Lib.hid (make_fits ns ws rows hfw.1 HU.out)
      have HMK := Lib.hid (fun h => back_make (ns := ns) (ws := ws) hfew.1 hrl h)
      clear hfr hfew hrl hrr hfw
      go_wp2_with fail
      refine (put_any _ _ _ x HSX.out HF.out W3 (HB.out.later H3.out) (HV.out W3 H3.out)).mono ?_
      rintro e W4 ⟨⟨pv, he, hpv⟩, hb4⟩
      have H4 := Lib.hid (H3.out.trans (hb4.mono H3.out.size))
      have HX4 := Lib.hid (HX3.out.later hb4)
      have HP4 := Lib.hid (put_bytes hpv)
      clear hb4 hpv a0 a1 a2 a3 lta
      obtain ⟨a0, a1, a2, a3, _, _, _, _, lta⟩ := HX4.out
      by_cases hPE : putE x = 0
      case neg =>
        generalize putE x = PE at *
        subst he
        have hPE' : (PE == 0) = false := by simpa using hPE
        go_wp2_with fail
        refine (HM.out W4 (HY1.out W4 H4.out) (HY2.out W4 H4.out) (HY3.out W4 H4.out)).mono ?_
        rintro e Wa ⟨⟨mn, mw, mc, rfl, hwm, hcm⟩, hba⟩
        have Ha := Lib.hid (H4.out.trans (hba.mono H4.out.size))
        have HMW := Lib.hid hwm
        have HMC := Lib.hid hcm
        clear hba hwm hcm
        generalize (makeW ns ws rows).2 = m at *
        generalize (makeW ns ws rows).1 = ME at *
        obtain ⟨qn, dn, rfl⟩ := Slc.form HMW.out.1
        obtain ⟨qw, dw, rfl⟩ := Slc.form HMW.out.2.1
        obtain ⟨qc, dc, rfl, hdc⟩ := HMC.out
        have HDC := Lib.hid hdc
        have hbA := (Below.refl Wa.heap.size Wa).alloc (Nat.le_refl _) (.cells #[.slice qn m.names.length dn, .slice qw m.widths.length dw, .slice qc m.chs.length dc, .int .i64 m.last] 26)
        have HBM := Lib.hid (Box4.new Wa (.slice qn m.names.length dn) (.slice qw m.widths.length dw) (.slice qc m.chs.length dc) (.int .i64 m.last) 26)
        have Hb := Lib.hid (Ha.out.trans (hbA.mono Ha.out.size))
        have HMb := Lib.hid (HMW.out.later hbA)
        obtain ⟨z0, z1, z2, z3, _, _, _, _, ltz⟩ := HBM.out
        clear hbA hdc
        by_cases hME : ME = 0
        case neg =>
          have hME' : (ME != 0) = true := by simpa using hME
          go_wp2
          go_ret
          exact ⟨rfl, Hb.out⟩
        case pos =>
          subst hME
          obtain ⟨hre, hrl⟩ := HMK.out rfl
          go_wp2_with fail
          generalize Wa.alloc (.cells #[.slice qn m.names.length dn, .slice qw m.widths.length dw, .slice qc m.chs.length dc, .int .i64 m.last] 26) = Wb at *
          refine (rows_any (.slice qn m.names.length dn) (.slice qw m.widths.length dw) qc dc m HSM.out HFM.out HDC.out Wb HMb.out).mono ?_
          rintro e Wc ⟨⟨rv, he, hrv⟩, hbc⟩
          have hrv := rows_rws hrv
          rw [hre] at he
          rw [hrl] at hrv
          subst he
          obtain ⟨qr, dr, rfl⟩ := hrv.form
          have HRV := Lib.hid hrv
          have Hc := Lib.hid (Hb.out.trans (hbc.mono Hb.out.size))
          have HSame := Lib.hid (samerows_any (.slice qr rows.length dr) (.slice p3 rows.length c3) rows rows HRL.out HRR.out Wc HRV.out (HY3.out Wc Hc.out))
          clear hbc hrv hre hrl z0 z1 z2 z3 ltz
          go_wp2_with fail
          refine HSame.out.mono ?_
          rintro e Wd ⟨rfl, hbd⟩
          have Hd := Lib.hid (Hc.out.trans (hbd.mono Hc.out.size))
          clear hbd
          go_wp2
          go_ret
          exact ⟨rfl, Hd.out⟩
      case pos =>
        rw [hPE] at he
        subst he
        obtain ⟨hck, hlen, hget, hpl⟩ := back_put hPE
        obtain ⟨hre, hmr, hr1, hr2⟩ := back_rows hck (by omega) HFew.out.1
        have hlp : (putL x).length ≤ 65536 := by rw [hpl]; exact hlen
        have HG := Lib.hid (get_any pv (putL x) (by omega) W4 (HB.out.later H4.out) HP4.out)
        have HRE := Lib.hid hre
        have HMR := Lib.hid hmr
        have HGet := Lib.hid hget
        have HLP := Lib.hid hlp
        have HSameX := Lib.hid (fun un uw uc wn ww wc w h1 h2 => same_any un uw uc wn ww wc x x ⟨HSX.out.n, HSX.out.w, HSX.out.c⟩ w h1 h2)
        have HMX := Lib.hid (fun v w h0 h1 h2 => make_any (.slice pn x.names.length cn) (.slice pw x.widths.length cw) v x.names x.widths (rowsL x) HSX.out.n HSX.out.w HSX.out.s (rowsL_len x) hr2 (rowsL_lt HF.out) w h0 h1 h2)
        have HRX := Lib.hid (fun w h => rows_any (.slice pn x.names.length cn) (.slice pw x.widths.length cw) pc cc x HSX.out HF.out HCC.out w h)
        clear hck hlen hget hpl hre hmr hr1 hr2 hlp hPE
        go_wp2_with fail
        refine HG.out.mono ?_
        rintro e W5 ⟨hg, hb5⟩
        have := HLP.out
        rw [if_neg (by omega), HGet.out] at hg
        obtain ⟨gn, gw, gc, rfl, hgw, _, _, _⟩ := hg
        obtain ⟨rn, en, rfl⟩ := Slc.form hgw.1
        obtain ⟨rw', ew, rfl⟩ := Slc.form hgw.2.1
        obtain ⟨rc, ec, rfl⟩ := Slc.form hgw.2.2
        have H5 := Lib.hid (H4.out.trans (hb5.mono H4.out.size))
        have HX5 := Lib.hid (HX4.out.later hb5)
        have hbA := (Below.refl W5.heap.size W5).alloc (Nat.le_refl _) (.cells #[.slice rn x.names.length en, .slice rw' x.widths.length ew, .slice rc x.chs.length ec, .int .i64 x.last] 26)
        have HG6 := Lib.hid (Box4.new W5 (.slice rn x.names.length en) (.slice rw' x.widths.length ew) (.slice rc x.chs.length ec) (.int .i64 x.last) 26)
        have H6 := Lib.hid (H5.out.trans (hbA.mono H5.out.size))
        have HX6 := Lib.hid (HX5.out.later hbA)
        have HGW6 := Lib.hid (WavAt.later hgw hbA)
        clear this hb5 hbA hgw a0 a1 a2 a3 lta
        obtain ⟨a0, a1, a2, a3, _, _, _, _, lta⟩ := HX6.out
        go_wp2_with fail
        generalize W5.alloc (.cells #[.slice rn x.names.length en, .slice rw' x.widths.length ew, .slice rc x.chs.length ec, .int .i64 x.last] 26) = W6 at *
        refine (HRX.out W6 (HV.out W6 H6.out)).mono ?_
        rintro e W7 ⟨⟨rv, he, hrv⟩, hb7⟩
        rw [HRE.out] at he
        subst he
        have hrv := rows_rws hrv
        have H7 := Lib.hid (H6.out.trans (hb7.mono H6.out.size))
        have HX7 := Lib.hid (HX6.out.later hb7)
        have HG7 := Lib.hid (HG6.out.later hb7)
        have HGW7 := Lib.hid (HGW6.out.later hb7)
        have HMX7 := Lib.hid (HMX.out rv W7 (HV.out W7 H7.out).1 (HV.out W7 H7.out).2.1 hrv)
        clear hb7 hrv a0 a1 a2 a3 lta
        obtain ⟨a0, a1, a2, a3, _, _, _, _, lta⟩ := HX7.out
        go_wp2_with fail
        refine HMX7.out.mono ?_
        rintro e W8 ⟨⟨bn, bw, bc, he, hbw, _⟩, hb8⟩
        rw [HMR.out] at he hbw
        subst he
        obtain ⟨sn, fn, rfl⟩ := Slc.form hbw.1
        obtain ⟨sw, fw, rfl⟩ := Slc.form hbw.2.1
        obtain ⟨sc, fc, rfl⟩ := Slc.form hbw.2.2
        have H8 := Lib.hid (H7.out.trans (hb8.mono H7.out.size))
        have hbA := (Below.refl W8.heap.size W8).alloc (Nat.le_refl _) (.cells #[.slice sn x.names.length fn, .slice sw x.widths.length fw, .slice sc x.chs.length fc, .int .i64 x.last] 26)
        have HM9 := Lib.hid (Box4.new W8 (.slice sn x.names.length fn) (.slice sw x.widths.length fw) (.slice sc x.chs.length fc) (.int .i64 x.last) 26)
        have H9 := Lib.hid (H8.out.trans (hbA.mono H8.out.size))
        have HX9 := Lib.hid ((HX7.out.later hb8).later hbA)
        have HG9 := Lib.hid ((HG7.out.later hb8).later hbA)
        have HGW9 := Lib.hid ((HGW7.out.later hb8).later hbA)
        have HMW9 := Lib.hid (WavAt.later hbw hbA)
        clear hb8 hbA hbw a0 a1 a2 a3 lta
        obtain ⟨a0, a1, a2, a3, _, _, _, _, lta⟩ := HX9.out
        obtain ⟨z0, z1, z2, z3, _, _, _, _, ltz⟩ := HG9.out
        go_wp2_with fail
        generalize hW9 : W8.alloc (.cells #[.slice sn x.names.length fn, .slice sw x.widths.length fw, .slice sc x.chs.length fc, .int .i64 x.last] 26) = W9 at *
        refine (HSameX.out _ _ _ _ _ _ W9 HGW9.out (HV.out W9 H9.out)).mono ?_
        rintro e W10 ⟨rfl, hb10⟩
        have H10 := Lib.hid (H9.out.trans (hb10.mono H9.out.size))
        have HX10 := Lib.hid (HX9.out.later hb10)
        have HM10 := Lib.hid (HM9.out.later hb10)
        have HMW10 := Lib.hid (HMW9.out.later hb10)
        clear hb10 hW9 a0 a1 a2 a3 lta z0 z1 z2 z3 ltz
        obtain ⟨a0, a1, a2, a3, _, _, _, _, lta⟩ := HX10.out
        obtain ⟨z0, z1, z2, z3, _, _, _, _, ltz⟩ := HM10.out
        go_wp2_with fail
        refine (HSameX.out _ _ _ _ _ _ W10 HMW10.out (HV.out W10 H10.out)).mono ?_
        rintro e W11 ⟨rfl, hb11⟩
        have H11 := Lib.hid (H10.out.trans (hb11.mono H10.out.size))
        clear hb11 a0 a1 a2 a3 lta z0 z1 z2 z3 ltz
        go_wp2_with fail
        refine (HM.out W11 (HY1.out W11 H11.out) (HY2.out W11 H11.out) (HY3.out W11 H11.out)).mono ?_
        rintro e Wa ⟨⟨mn, mw, mc, rfl, hwm, hcm⟩, hba⟩
        have Ha := Lib.hid (H11.out.trans (hba.mono H11.out.size))
        have HMW := Lib.hid hwm
        have HMC := Lib.hid hcm
        clear hba hwm hcm
        generalize (makeW ns ws rows).2 = m at *
        generalize (makeW ns ws rows).1 = ME at *
        obtain ⟨qn, dn, rfl⟩ := Slc.form HMW.out.1
        obtain ⟨qw, dw, rfl⟩ := Slc.form HMW.out.2.1
        obtain ⟨qc, dc, rfl, hdc⟩ := HMC.out
        have HDC := Lib.hid hdc
        have hbA := (Below.refl Wa.heap.size Wa).alloc (Nat.le_refl _) (.cells #[.slice qn m.names.length dn, .slice qw m.widths.length dw, .slice qc m.chs.length dc, .int .i64 m.last] 26)
        have HBM := Lib.hid (Box4.new Wa (.slice qn m.names.length dn) (.slice qw m.widths.length dw) (.slice qc m.chs.length dc) (.int .i64 m.last) 26)
        have Hb := Lib.hid (Ha.out.trans (hbA.mono Ha.out.size))
        have HMb := Lib.hid (HMW.out.later hbA)
        obtain ⟨z0, z1, z2, z3, _, _, _, _, ltz⟩ := HBM.out
        clear hbA hdc
        by_cases hME : ME = 0
        case neg =>
          have hME' : (ME != 0) = true := by simpa using hME
          go_wp2
          go_ret
          exact ⟨rfl, Hb.out⟩
        case pos =>
          subst hME
          obtain ⟨hre, hrl⟩ := HMK.out rfl
          go_wp2_with fail
          generalize Wa.alloc (.cells #[.slice qn m.names.length dn, .slice qw m.widths.length dw, .slice qc m.chs.length dc, .int .i64 m.last] 26) = Wb at *
          refine (rows_any (.slice qn m.names.length dn) (.slice qw m.widths.length dw) qc dc m HSM.out HFM.out HDC.out Wb HMb.out).mono ?_
          rintro e Wc ⟨⟨rv, he, hrv⟩, hbc⟩
          have hrv := rows_rws hrv
          rw [hre] at he
          rw [hrl] at hrv
          subst he
          obtain ⟨qr, dr, rfl⟩ := hrv.form
          have HRV := Lib.hid hrv
          have Hc := Lib.hid (Hb.out.trans (hbc.mono Hb.out.size))
          have HSame := Lib.hid (samerows_any (.slice qr rows.length dr) (.slice p3 rows.length c3) rows rows HRL.out HRR.out Wc HRV.out (HY3.out Wc Hc.out))
          clear hbc hrv hre hrl z0 z1 z2 z3 ltz
          go_wp2_with fail
          refine HSame.out.mono ?_
          rintro e Wd ⟨rfl, hbd⟩
          have Hd := Lib.hid (Hc.out.trans (hbd.mono Hc.out.size))
          clear hbd
          go_wp2
          go_ret
          exact ⟨rfl, Hd.out⟩
end Go.Proofs.YtephnfhjobkciaaGreatDoor
