/- The wave of any rows. -/
import Derived.Test.YtephnfhjobkciaaGreatDoorGZA

namespace Go.Proofs.YtephnfhjobkciaaGreatDoor
open Go.RowKit Go.Proofs.Wav Go.Proofs.Scn Go.Flow Go.Sort Go.Shelf Go.Cal
set_option linter.unusedVariables false
set_option linter.unusedSimpArgs false
set_option maxRecDepth 100000

set_option maxHeartbeats 8000000 in
theorem wmakes_any (v0 v1 v2 : Value) (ns : List Ln) (ws : List Int) (rows : List (List Nat)) (W : World) (y0 : Strs W v0 ns) (y1 : Ints W v1 ws) (y2 : Rws W v2 rows) (hv : ∀ r ∈ rows, ∀ x ∈ r, x < 18446744073709551616) (hB : Base W) :
    Calls Tryz.prog 4 #[v0, v1, v2] W fun e W' => e = .returned (.bool true) ∧ Below W.heap.size W W' := by
  obtain ⟨p0, c0, rfl⟩ := Slc.form y0
  obtain ⟨p1, c1, rfl⟩ := Slc.form y1
  obtain ⟨p2, c2, rfl⟩ := y2.form
  have HLive := Lib.hid (live_any W hB)
  have HY0 := Lib.hid (fun w (hb : Below W.heap.size W w) => Slc.later y0 hb)
  have HY1 := Lib.hid (fun w (hb : Below W.heap.size W w) => Slc.later y1 hb)
  have HY2 := Lib.hid (fun w (hb : Below W.heap.size W w) => y2.later hb)
  have HU := Lib.hid hv
  clear y0 y1 y2 hB hv
  go_enter Tryz.func4, Tryz.ntmps4
  go_wp2_with fail
  refine HLive.out.mono ?_
  rintro e W1 ⟨rfl, hb1⟩
  have H1 := Lib.hid hb1
  clear hb1
  go_wp2_with fail
  refine (fewRows_any _ _ _ ns ws rows W1 (HY0.out W1 H1.out) (HY1.out W1 H1.out) (HY2.out W1 H1.out)).mono ?_
  rintro e W2 ⟨⟨fb, rfl, hfb⟩, hb2⟩
  have H2 := Lib.hid (H1.out.trans (hb2.mono H1.out.size))
  clear hb2
  cases fb with
  | false =>
    go_wp2
    go_ret
    exact ⟨rfl, H2.out⟩
  | true =>
    obtain ⟨hfew, hrl, hrr⟩ := hfb rfl
    have hfw := few_fits hfew hrl
    have HM := Lib.hid (fun w h0 h1 h2 => make_any (.slice p0 ns.length c0) (.slice p1 ws.length c1) (.slice p2 rows.length c2) ns ws rows hfw.1 hfw.2.1 hfw.2.2.1 hfw.2.2.2.1 hfw.2.2.2.2 HU.out w h0 h1 h2)
    have HRM := Lib.hid (fun w h0 h1 h2 => rmake_any (.slice p0 ns.length c0) (.slice p1 ws.length c1) (.slice p2 rows.length c2) ns ws rows hfw.1 hfw.2.1 hfw.2.2.1 hfw.2.2.2.1 hfw.2.2.2.2 w h0 h1 h2)
    have HSM := Lib.hid (make_small ns ws rows hfw.1 hfw.2.1 hfw.2.2.1 hfw.2.2.2.2)
    clear hfb hfew hrl hrr hfw
    go_wp2_with fail
    refine (HM.out W2 (HY0.out W2 H2.out) (HY1.out W2 H2.out) (HY2.out W2 H2.out)).mono ?_
    rintro e W3 ⟨⟨vn, vw, vc, rfl, hwav, _⟩, hb3⟩
    have H3 := Lib.hid (H2.out.trans (hb3.mono H2.out.size))
    have HW3 := Lib.hid hwav
    clear hb3 hwav
    generalize hX : (makeW ns ws rows).2 = x at *
    generalize hM : (makeW ns ws rows).1 = ME at *
    obtain ⟨pn, cn, rfl⟩ := Slc.form HW3.out.1
    obtain ⟨pw, cw, rfl⟩ := Slc.form HW3.out.2.1
    obtain ⟨pc, cc, rfl⟩ := Slc.form HW3.out.2.2
    have hbA := (Below.refl W3.heap.size W3).alloc (Nat.le_refl _) (.cells #[.slice pn x.names.length cn, .slice pw x.widths.length cw, .slice pc x.chs.length cc, .int .i64 x.last] 26)
    have HBX := Lib.hid (Box4.new W3 (.slice pn x.names.length cn) (.slice pw x.widths.length cw) (.slice pc x.chs.length cc) (.int .i64 x.last) 26)
    have H4 := Lib.hid (H3.out.trans (hbA.mono H3.out.size))
    have HW4 := Lib.hid (HW3.out.later hbA)
    clear hbA
    go_wp2_with fail
    generalize W3.alloc (.cells #[.slice pn x.names.length cn, .slice pw x.widths.length cw, .slice pc x.chs.length cc, .int .i64 x.last] 26) = W4 at *
    refine (HRM.out W4 (HY0.out W4 H4.out) (HY1.out W4 H4.out) (HY2.out W4 H4.out)).mono ?_
    rintro e W5 ⟨⟨un, uw, uc, he, hwu, _⟩, hb5⟩
    rw [hX, hM] at he
    rw [hX] at hwu
    subst he
    have H5 := Lib.hid (H4.out.trans (hb5.mono H4.out.size))
    have HW5 := Lib.hid (HW4.out.later hb5)
    have HBX5 := Lib.hid (HBX.out.later hb5)
    obtain ⟨qn, dn, rfl⟩ := Slc.form hwu.1
    obtain ⟨qw, dw, rfl⟩ := Slc.form hwu.2.1
    obtain ⟨qc, dc, rfl⟩ := Slc.form hwu.2.2
    have hbA := (Below.refl W5.heap.size W5).alloc (Nat.le_refl _) (.cells #[.slice qn x.names.length dn, .slice qw x.widths.length dw, .slice qc x.chs.length dc, .int .i64 x.last] 26)
    have HBY6 := Lib.hid (Box4.new W5 (.slice qn x.names.length dn) (.slice qw x.widths.length dw) (.slice qc x.chs.length dc) (.int .i64 x.last) 26)
    have H6 := Lib.hid (H5.out.trans (hbA.mono H5.out.size))
    have HW6 := Lib.hid (HW5.out.later hbA)
    have HU6 := Lib.hid (WavAt.later hwu hbA)
    have HBX6 := Lib.hid (HBX5.out.later hbA)
    obtain ⟨a0, a1, a2, a3, _, _, _, _, lta⟩ := HBX6.out
    obtain ⟨z0, z1, z2, z3, _, _, _, _, ltz⟩ := HBY6.out
    have HSame := Lib.hid (same_any _ _ _ _ _ _ x x ⟨HSM.out.n, HSM.out.w, HSM.out.c⟩ _ HW6.out HU6.out)
    clear hbA hwu hb5
    go_wp2_with fail
    refine HSame.out.mono ?_
    rintro e W7 ⟨rfl, hb7⟩
    have H7 := Lib.hid (H6.out.trans (hb7.mono H6.out.size))
    clear hb7
    go_wp2
    go_ret
    exact ⟨rfl, H7.out⟩
end Go.Proofs.YtephnfhjobkciaaGreatDoor
