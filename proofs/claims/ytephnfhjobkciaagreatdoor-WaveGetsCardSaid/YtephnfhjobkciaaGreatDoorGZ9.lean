/- The wave of any text. -/
import Derived.Test.YtephnfhjobkciaaGreatDoorGZ1
import Derived.Test.YtephnfhjobkciaaGreatDoorQ2

namespace Go.Proofs.YtephnfhjobkciaaGreatDoor
open Go.RowKit Go.Proofs.Wav Go.Proofs.Scn Go.Flow Go.Sort Go.Shelf
set_option linter.unusedVariables false
set_option linter.unusedSimpArgs false
set_option maxRecDepth 100000

theorem zero_at (w : World) : WavAt w (.slice none 0 0) (.slice none 0 0) (.slice none 0 0) zeroW := ⟨⟨rfl, .inl ⟨rfl, _, _, rfl⟩⟩, ⟨rfl, .inl ⟨rfl, _, _, rfl⟩⟩, ⟨rfl, .inl ⟨rfl, _, _, rfl⟩⟩⟩

set_option maxHeartbeats 4000000 in
theorem gets_any (v : Value) (b : Ln) (hcap : Capd v b.length) (W : World) (hby : Bytes W v (bs b)) (hB : Base W) :
    Calls Tryz.prog 6 #[v] W fun e W' => e = .returned (.bool true) ∧ Below W.heap.size W W' := by
  have HR := Lib.hid (fun w hb => rget_any v b hb hcap w)
  obtain ⟨p, c, rfl, hcb⟩ := hcap
  have HLive := Lib.hid (live_any W hB)
  have HB := Lib.hid hB
  have HBY := Lib.hid hby
  clear hby hB
  go_enter Tryz.func6, Tryz.ntmps6
  go_wp2_with fail
  refine HLive.out.mono ?_
  rintro e W1 ⟨rfl, hb1⟩
  have H1 := Lib.hid hb1
  clear hb1
  by_cases hbig : 600 < b.length
  · have hbig' : decide (600 < b.length) = true := decide_eq_true hbig
    go_wp2
    go_ret
    exact ⟨rfl, H1.out⟩
  have hbig' : decide (600 < b.length) = false := decide_eq_false hbig
  have hlen : b.length ≤ 600 := by omega
  go_wp2_with fail
  refine (get_any _ b (by omega) W1 (HB.out.later H1.out) (HBY.out.later H1.out)).mono ?_
  rintro e W2 ⟨hg, hb2⟩
  rw [if_neg (by omega)] at hg
  have H2 := Lib.hid (H1.out.trans (hb2.mono H1.out.size))
  clear hb2
  cases hgp : getP b with
  | none =>
    rw [hgp] at hg
    simp only at hg
    subst hg
    have hbA := (Below.refl W2.heap.size W2).alloc (Nat.le_refl _) (.cells #[.slice none 0 0, .slice none 0 0, .slice none 0 0, .int .i64 0] 26)
    have H3 := Lib.hid (H2.out.trans (hbA.mono H2.out.size))
    have HBX := Lib.hid (Box4.new W2 (.slice none 0 0) (.slice none 0 0) (.slice none 0 0) (.int .i64 0) 26)
    clear hbA
    go_wp2_with fail
    generalize W2.alloc (.cells #[.slice none 0 0, .slice none 0 0, .slice none 0 0, .int .i64 0] 26) = W3 at *
    refine (HR.out W3 (by omega) (HBY.out.later H3.out)).mono ?_
    rintro e W4 ⟨hg, hb4⟩
    rw [if_neg (by omega), hgp] at hg
    simp only at hg
    subst hg
    have H4 := Lib.hid (H3.out.trans (hb4.mono H3.out.size))
    have HBX4 := Lib.hid (HBX.out.later hb4)
    have hbA := (Below.refl W4.heap.size W4).alloc (Nat.le_refl _) (.cells #[.slice none 0 0, .slice none 0 0, .slice none 0 0, .int .i64 0] 26)
    have H5 := Lib.hid (H4.out.trans (hbA.mono H4.out.size))
    have HBX5 := Lib.hid (HBX4.out.later hbA)
    have HBY5 := Lib.hid (Box4.new W4 (.slice none 0 0) (.slice none 0 0) (.slice none 0 0) (.int .i64 0) 26)
    obtain ⟨a0, a1, a2, a3, _, _, _, _, lta⟩ := HBX5.out
    obtain ⟨z0, z1, z2, z3, _, _, _, _, ltz⟩ := HBY5.out
    have HSame := Lib.hid (fun w => same_any (.slice none 0 0) (.slice none 0 0) (.slice none 0 0) (.slice none 0 0) (.slice none 0 0) (.slice none 0 0) zeroW zeroW (by decide) w (zero_at w) (zero_at w))
    clear hbA hb4 hgp
    go_wp2_with fail
    refine (HSame.out _).mono ?_
    rintro e W6 ⟨rfl, hb6⟩
    have H6 := Lib.hid (H5.out.trans (hb6.mono H5.out.size))
    clear hb6
    go_wp2
    go_ret
    exact ⟨rfl, H6.out⟩
  | some x =>
    rw [hgp] at hg
    obtain ⟨vn, vw, vc, rfl, hwav, hsm, hfi, pc, cc, rfl, hcc⟩ := hg
    obtain ⟨pn, cn, rfl⟩ := Slc.form hwav.1
    obtain ⟨pw, cw, rfl⟩ := Slc.form hwav.2.1
    have hbA := (Below.refl W2.heap.size W2).alloc (Nat.le_refl _) (.cells #[.slice pn x.names.length cn, .slice pw x.widths.length cw, .slice pc x.chs.length cc, .int .i64 x.last] 26)
    have HV := Lib.hid (hwav.later hbA)
    have H3 := Lib.hid (H2.out.trans (hbA.mono H2.out.size))
    have HBX := Lib.hid (Box4.new W2 (.slice pn x.names.length cn) (.slice pw x.widths.length cw) (.slice pc x.chs.length cc) (.int .i64 x.last) 26)
    have HSM := Lib.hid hsm
    clear hbA hwav hsm hfi
    go_wp2_with fail
    generalize W2.alloc (.cells #[.slice pn x.names.length cn, .slice pw x.widths.length cw, .slice pc x.chs.length cc, .int .i64 x.last] 26) = W3 at *
    refine (HR.out W3 (by omega) (HBY.out.later H3.out)).mono ?_
    rintro e W4 ⟨hg, hb4⟩
    rw [if_neg (by omega), hgp] at hg
    obtain ⟨un, uw, uc, rfl, hwu⟩ := hg
    obtain ⟨qn, dn, rfl⟩ := Slc.form hwu.1
    obtain ⟨qw, dw, rfl⟩ := Slc.form hwu.2.1
    obtain ⟨qc, dc, rfl⟩ := Slc.form hwu.2.2
    have H4 := Lib.hid (H3.out.trans (hb4.mono H3.out.size))
    have HV4 := Lib.hid (HV.out.later hb4)
    have HBX4 := Lib.hid (HBX.out.later hb4)
    have hbA := (Below.refl W4.heap.size W4).alloc (Nat.le_refl _) (.cells #[.slice qn x.names.length dn, .slice qw x.widths.length dw, .slice qc x.chs.length dc, .int .i64 x.last] 26)
    have H5 := Lib.hid (H4.out.trans (hbA.mono H4.out.size))
    have HV5 := Lib.hid (HV4.out.later hbA)
    have HU5 := Lib.hid (WavAt.later hwu hbA)
    have HBX5 := Lib.hid (HBX4.out.later hbA)
    have HBY5 := Lib.hid (Box4.new W4 (.slice qn x.names.length dn) (.slice qw x.widths.length dw) (.slice qc x.chs.length dc) (.int .i64 x.last) 26)
    obtain ⟨a0, a1, a2, a3, _, _, _, _, lta⟩ := HBX5.out
    obtain ⟨z0, z1, z2, z3, _, _, _, _, ltz⟩ := HBY5.out
    have HSame := Lib.hid (same_any _ _ _ _ _ _ x x ⟨HSM.out.n, HSM.out.w, HSM.out.c⟩ _ HV5.out HU5.out)
    clear hbA hb4 hgp hwu
    go_wp2_with fail
    refine HSame.out.mono ?_
    rintro e W6 ⟨rfl, hb6⟩
    have H6 := Lib.hid (H5.out.trans (hb6.mono H5.out.size))
    clear hb6
    go_wp2
    go_ret
    exact ⟨rfl, H6.out⟩
end Go.Proofs.YtephnfhjobkciaaGreatDoor
