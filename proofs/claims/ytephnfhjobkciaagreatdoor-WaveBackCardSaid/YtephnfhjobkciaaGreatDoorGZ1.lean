/- A text is one wave's; the wave of any text. -/
import Derived.Test.YtephnfhjobkciaaGreatDoorGZ0
import Derived.Test.YtephnfhjobkciaaGreatDoorQ2

namespace Go.Proofs.YtephnfhjobkciaaGreatDoor
open Go.RowKit Go.Proofs.Wav Go.Proofs.Scn Go.Flow Go.Sort Go.Shelf
set_option linter.unusedVariables false
set_option linter.unusedSimpArgs false
set_option maxRecDepth 100000

theorem putE_of {x : Wv} {b : Ln} (h : getP b = some x) : putE x = 0 ∧ putW x = b ∧ checkW x = 0 := by
  obtain ⟨h1, h2, h3⟩ := (getP_iff b x).1 h
  refine ⟨?_, h3, h1⟩
  unfold putE
  rw [if_neg (by simp [h1]), if_neg (by omega)]

set_option maxHeartbeats 4000000 in
theorem one_any (v : Value) (b : Ln) (hcap : Capd v b.length) (W : World) (hby : Bytes W v (bs b)) (hB : Base W) :
    Calls Tryz.prog 8 #[v] W fun e W' => e = .returned (.bool true) ∧ Below W.heap.size W W' := by
  obtain ⟨p, c, rfl, hcb⟩ := hcap
  have HLive := Lib.hid (live_any W hB)
  have HB := Lib.hid hB
  have HBY := Lib.hid hby
  clear hby hB
  go_enter Tryz.func8, Tryz.ntmps8
  go_wp2_with fail
  refine HLive.out.mono ?_
  rintro e W1 ⟨rfl, hb1⟩
  have H1 := Lib.hid hb1
  clear hb1
  by_cases hbig : 600 < b.length
  · have hbig' : decide (600 < b.length) = true := decide_eq_true hbig
    go_wp2
    go_ret
    exact ⟨rfl, H1.out⟩
  have hbig' : decide (600 < b.length) = false := decide_eq_false hbig
  have hlen : b.length ≤ 600 := by omega
  go_wp2_with fail
  refine (get_any _ b (by omega) W1 (HB.out.later H1.out) (HBY.out.later H1.out)).mono ?_
  rintro e W2 ⟨hg, hb2⟩
  rw [if_neg (by omega)] at hg
  have H2 := Lib.hid (H1.out.trans (hb2.mono H1.out.size))
  clear hb2
  cases hgp : getP b with
  | none =>
    rw [hgp] at hg
    simp only at hg
    subst hg
    have hbA := (Below.refl W2.heap.size W2).alloc (Nat.le_refl _) (.cells #[.slice none 0 0, .slice none 0 0, .slice none 0 0, .int .i64 0] 26)
    have H3 := Lib.hid (H2.out.trans (hbA.mono H2.out.size))
    clear hbA
    go_wp2
    go_ret
    exact ⟨rfl, H3.out⟩
  | some x =>
    rw [hgp] at hg
    obtain ⟨vn, vw, vc, rfl, hwav, hsm, hfi, pc, cc, rfl, hcc⟩ := hg
    obtain ⟨pn, cn, rfl⟩ := Slc.form hwav.1
    obtain ⟨pw, cw, rfl⟩ := Slc.form hwav.2.1
    obtain ⟨hpe, hpw, hck⟩ := putE_of hgp
    have hbA := (Below.refl W2.heap.size W2).alloc (Nat.le_refl _) (.cells #[.slice pn x.names.length cn, .slice pw x.widths.length cw, .slice pc x.chs.length cc, .int .i64 x.last] 26)
    have HV := Lib.hid (hwav.later hbA)
    have H3 := Lib.hid (H2.out.trans (hbA.mono H2.out.size))
    have HBX := Lib.hid (Box4.new W2 (.slice pn x.names.length cn) (.slice pw x.widths.length cw) (.slice pc x.chs.length cc) (.int .i64 x.last) 26)
    obtain ⟨a0, a1, a2, a3, _, _, _, _, lta⟩ := HBX.out
    have HPut := Lib.hid (fun w h1 h2 => put_any (.slice pn x.names.length cn) (.slice pw x.widths.length cw) (.slice pc x.chs.length cc) x hsm hfi w h1 h2)
    have HCk := Lib.hid (fun w h1 => check_any (.slice pn x.names.length cn) (.slice pw x.widths.length cw) (.slice pc x.chs.length cc) x hsm hfi w h1)
    have HPE := Lib.hid hpe
    have HPW := Lib.hid hpw
    have HCK := Lib.hid hck
    clear hbA hwav hsm hfi hgp hpe hpw hck
    go_wp2_with fail
    generalize W2.alloc (.cells #[.slice pn x.names.length cn, .slice pw x.widths.length cw, .slice pc x.chs.length cc, .int .i64 x.last] 26) = W3 at *
    refine (HPut.out W3 (HB.out.later H3.out) HV.out).mono ?_
    rintro e W4 ⟨⟨pv, rfl, hpv⟩, hb4⟩
    rw [if_pos HPE.out, HPW.out] at hpv
    rw [HPE.out]
    have H4 := Lib.hid (H3.out.trans (hb4.mono H3.out.size))
    have HV4 := Lib.hid (HV.out.later hb4)
    obtain ⟨a0, a1, a2, a3, _, _, _, _, lta⟩ := HBX.out.later hb4
    have q1 := str_run hpv.bytes
    have q2 := str_run (HBY.out.later H4.out)
    have heq : ((bs b).toList == (bs b).toList) = true := by simp
    clear hb4 hpv
    go_wp2_with fail
    refine (HCk.out W4 HV4.out).mono ?_
    rintro e W5 ⟨rfl, hb5⟩
    rw [HCK.out]
    have H5 := Lib.hid (H4.out.trans (hb5.mono H4.out.size))
    clear hb5
    go_wp2
    go_ret
    exact ⟨rfl, H5.out⟩

end Go.Proofs.YtephnfhjobkciaaGreatDoor
