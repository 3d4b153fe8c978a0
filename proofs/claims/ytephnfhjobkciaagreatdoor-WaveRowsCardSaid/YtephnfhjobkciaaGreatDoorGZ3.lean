/- The rows of any wave that is not too long. -/
import Derived.Test.YtephnfhjobkciaaGreatDoorGZA

namespace Go.Proofs.YtephnfhjobkciaaGreatDoor
open Go.RowKit Go.Proofs.Wav Go.Proofs.Scn Go.Flow Go.Sort Go.Shelf Go.Cal
set_option linter.unusedVariables false
set_option linter.unusedSimpArgs false
set_option maxRecDepth 100000

set_option maxHeartbeats 8000000 in
theorem wrows_any (vn vw vc : Value) (x : Wv) (W : World) (hwav : WavAt W vn vw vc x) (hf : Fits x) (hcap : Capd vc x.chs.length) (hB : Base W) :
    Calls Tryz.prog 5 #[.agg #[vn, vw, vc, .int .i64 x.last]] W fun e W' => e = .returned (.bool true) ∧ Below W.heap.size W W' := by
  obtain ⟨pc, cc, rfl, hcc⟩ := hcap
  obtain ⟨pn, cn, rfl⟩ := Slc.form hwav.1
  obtain ⟨pw, cw, rfl⟩ := Slc.form hwav.2.1
  have hbA := (Below.refl W.heap.size W).alloc (Nat.le_refl _) (.cells #[.slice pn x.names.length cn, .slice pw x.widths.length cw, .slice pc x.chs.length cc, .int .i64 x.last] 26)
  have HX := Lib.hid (Box4.new W (.slice pn x.names.length cn) (.slice pw x.widths.length cw) (.slice pc x.chs.length cc) (.int .i64 x.last) 26)
  have HLive := Lib.hid (live_any _ (hB.later hbA))
  have HV := Lib.hid (fun w hb => hwav.later (w' := w) hb)
  have H0 := Lib.hid hbA
  have HF := Lib.hid hf
  have HCC := Lib.hid hcc
  clear hbA hwav hB hf hcc
  go_enter Tryz.func5, Tryz.ntmps5
  go_wp2_with fail
  generalize W.alloc (.cells #[.slice pn x.names.length cn, .slice pw x.widths.length cw, .slice pc x.chs.length cc, .int .i64 x.last] 26) = W0 at *
  refine HLive.out.mono ?_
  rintro e W1 ⟨rfl, hb1⟩
  have H1 := Lib.hid (H0.out.trans (hb1.mono H0.out.size))
  have HX1 := Lib.hid (HX.out.later hb1)
  obtain ⟨a0, a1, a2, a3, _, _, _, _, lta⟩ := HX1.out
  clear hb1
  go_wp2_with fail
  refine (few_any _ _ _ x W1 (HV.out W1 H1.out)).mono ?_
  rintro e W2 ⟨⟨fb, rfl, hfb⟩, hb2⟩
  have H2 := Lib.hid (H1.out.trans (hb2.mono H1.out.size))
  have HX2 := Lib.hid (HX1.out.later hb2)
  clear hb2 a0 a1 a2 a3 lta
  obtain ⟨a0, a1, a2, a3, _, _, _, _, lta⟩ := HX2.out
  cases fb with
  | false =>
    go_wp2
    go_ret
    exact ⟨rfl, H2.out⟩
  | true =>
    have hsm := few_small (hfb rfl)
    have HR := Lib.hid (fun w h => rows_any (.slice pn x.names.length cn) (.slice pw x.widths.length cw) pc cc x hsm HF.out HCC.out w h)
    have HRR := Lib.hid (fun w h => rrows_any (.slice pn x.names.length cn) (.slice pw x.widths.length cw) (.slice pc x.chs.length cc) x hsm w h)
    have HSame := Lib.hid (fun v u w h1 h2 => samerows_any v u (rowsL x) (rowsL x) (rowsL_len x) (rowsL_row hsm) w h1 h2)
    clear hfb hsm
    rcases (show (2000 < x.last ∧ x.last ≤ 70000) ∨ (2000 < x.last ∧ ¬ x.last ≤ 70000) ∨ (¬ 2000 < x.last ∧ x.last ≤ 70000) by omega) with ⟨hA, hC⟩ | ⟨hA, hC⟩ | ⟨hA, hC⟩
    · have hA' : decide (2000 < x.last) = true := decide_eq_true hA
      have hC' : decide (x.last ≤ 70000) = true := decide_eq_true hC
      go_wp2
      go_ret
      exact ⟨rfl, H2.out⟩
    all_goals
      first
      | have hA' : decide (2000 < x.last) = true := decide_eq_true hA
        have hC' : decide (x.last ≤ 70000) = false := decide_eq_false hC
      | have hA' : decide (2000 < x.last) = false := decide_eq_false hA
      go_wp2_with fail
      refine (HR.out W2 (HV.out W2 H2.out)).mono ?_
      rintro e W3 ⟨⟨rv, rfl, hrv⟩, hb3⟩
      have HRv := Lib.hid (rows_rws hrv)
      have H3 := Lib.hid (H2.out.trans (hb3.mono H2.out.size))
      have HX3 := Lib.hid (HX2.out.later hb3)
      clear hb3 hrv a0 a1 a2 a3 lta
      obtain ⟨a0, a1, a2, a3, _, _, _, _, lta⟩ := HX3.out
      go_wp2_with fail
      refine (HRR.out W3 (HV.out W3 H3.out)).mono ?_
      rintro e W4 ⟨⟨sv, rfl, hsv⟩, hb4⟩
      have H4 := Lib.hid (H3.out.trans (hb4.mono H3.out.size))
      have HS4 := Lib.hid (HSame.out rv sv W4 (HRv.out.later hb4) (rows_rws hsv))
      clear hb4 hsv a0 a1 a2 a3 lta
      generalize rowsE x = RE at *
      go_wp2_with fail
      refine HS4.out.mono ?_
      rintro e W5 ⟨rfl, hb5⟩
      have H5 := Lib.hid (H4.out.trans (hb5.mono H4.out.size))
      clear hb5
      go_wp2
      go_ret
      exact ⟨rfl, H5.out⟩
end Go.Proofs.YtephnfhjobkciaaGreatDoor
