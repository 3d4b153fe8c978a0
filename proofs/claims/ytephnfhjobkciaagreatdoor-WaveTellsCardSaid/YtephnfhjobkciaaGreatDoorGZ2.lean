/- Whether anything is a wave, its text, its value. -/
import Derived.Test.YtephnfhjobkciaaGreatDoorGZA
import Derived.Test.YtephnfhjobkciaaGreatDoorQ10

namespace Go.Proofs.YtephnfhjobkciaaGreatDoor
open Go.RowKit Go.Proofs.Wav Go.Proofs.Scn Go.Flow Go.Sort Go.Shelf Go.Cal
set_option linter.unusedVariables false
set_option linter.unusedSimpArgs false
set_option maxRecDepth 100000

set_option maxHeartbeats 8000000 in
theorem wtells_any (vn vw vc : Value) (x : Wv) (W : World) (hwav : WavAt W vn vw vc x) (hf : Fits x) (t g : Int) (hB : Base W) :
    Calls Tryz.prog 3 #[.agg #[vn, vw, vc, .int .i64 x.last], .int .i64 t, .int .i64 g] W fun e W' => e = .returned (.bool true) ∧ Below W.heap.size W W' := by
  obtain ⟨pn, cn, rfl⟩ := Slc.form hwav.1
  obtain ⟨pw, cw, rfl⟩ := Slc.form hwav.2.1
  obtain ⟨pc, cc, rfl⟩ := Slc.form hwav.2.2
  have hbA := (Below.refl W.heap.size W).alloc (Nat.le_refl _) (.cells #[.slice pn x.names.length cn, .slice pw x.widths.length cw, .slice pc x.chs.length cc, .int .i64 x.last] 26)
  have HX := Lib.hid (Box4.new W (.slice pn x.names.length cn) (.slice pw x.widths.length cw) (.slice pc x.chs.length cc) (.int .i64 x.last) 26)
  have HLive := Lib.hid (live_any _ (hB.later hbA))
  have HB := Lib.hid hB
  have HV := Lib.hid (fun w hb => hwav.later (w' := w) hb)
  have H0 := Lib.hid hbA
  have HF := Lib.hid hf
  clear hbA hwav hB hf
  go_enter Tryz.func3, Tryz.ntmps3
  go_wp2_with fail
  generalize W.alloc (.cells #[.slice pn x.names.length cn, .slice pw x.widths.length cw, .slice pc x.chs.length cc, .int .i64 x.last] 26) = W0 at *
  refine HLive.out.mono ?_
  rintro e W1 ⟨rfl, hb1⟩
  have H1 := Lib.hid (H0.out.trans (hb1.mono H0.out.size))
  have HX1 := Lib.hid (HX.out.later hb1)
  obtain ⟨a0, a1, a2, a3, _, _, _, _, lta⟩ := HX1.out
  clear hb1
  go_wp2_with fail
  refine (few_any _ _ _ x W1 (HV.out W1 H1.out)).mono ?_
  rintro e W2 ⟨⟨fb, rfl, hfb⟩, hb2⟩
  have H2 := Lib.hid (H1.out.trans (hb2.mono H1.out.size))
  have HX2 := Lib.hid (HX1.out.later hb2)
  clear hb2 a0 a1 a2 a3 lta
  cases fb with
  | false =>
    go_wp2
    go_ret
    exact ⟨rfl, H2.out⟩
  | true =>
    have hsm := few_small (hfb rfl)
    have HSM := Lib.hid hsm
    obtain ⟨a0, a1, a2, a3, _, _, _, _, lta⟩ := HX2.out
    clear hfb
    go_wp2_with fail
    refine (put_any _ _ _ x hsm HF.out W2 (HB.out.later H2.out) (HV.out W2 H2.out)).mono ?_
    rintro e W3 ⟨⟨pv, rfl, hpv⟩, hb3⟩
    have HP3 := Lib.hid (put_bytes hpv)
    have H3 := Lib.hid (H2.out.trans (hb3.mono H2.out.size))
    have HX3 := Lib.hid (HX2.out.later hb3)
    clear hb3 hpv a0 a1 a2 a3 lta
    obtain ⟨a0, a1, a2, a3, _, _, _, _, lta⟩ := HX3.out
    go_wp2_with fail
    refine (rput_any _ _ _ x hsm W3 (HV.out W3 H3.out)).mono ?_
    rintro e W4 ⟨⟨qv, rfl, hqv⟩, hb4⟩
    have HQ4 := Lib.hid (put_bytes hqv)
    have HP4 := Lib.hid (HP3.out.later hb4)
    have H4 := Lib.hid (H3.out.trans (hb4.mono H3.out.size))
    have HX4 := Lib.hid (HX3.out.later hb4)
    clear hb4 hqv a0 a1 a2 a3 lta
    obtain ⟨a0, a1, a2, a3, _, _, _, _, lta⟩ := HX4.out
    go_wp2_with fail
    refine (at_any _ _ _ x hsm HF.out t g W4 (HV.out W4 H4.out)).mono ?_
    rintro e W5 ⟨rfl, hb5⟩
    have HQ5 := Lib.hid (HQ4.out.later hb5)
    have HP5 := Lib.hid (HP4.out.later hb5)
    have H5 := Lib.hid (H4.out.trans (hb5.mono H4.out.size))
    have HX5 := Lib.hid (HX4.out.later hb5)
    clear hb5 a0 a1 a2 a3 lta
    obtain ⟨a0, a1, a2, a3, _, _, _, _, lta⟩ := HX5.out
    go_wp2_with fail
    refine (rat_any _ _ _ x hsm t g W5 (HV.out W5 H5.out)).mono ?_
    rintro e W6 ⟨rfl, hb6⟩
    have HQV := Lib.hid (HQ5.out.later hb6)
    have HPV := Lib.hid (HP5.out.later hb6)
    have H6 := Lib.hid (H5.out.trans (hb6.mono H5.out.size))
    have HBX6 := Lib.hid (HX5.out.later hb6)
    have HCk := Lib.hid (fun w (hb : Below W6.heap.size W6 w) => check_any _ _ _ x hsm HF.out w (HV.out w (H6.out.trans (hb.mono H6.out.size))))
    have HRCk := Lib.hid (fun w (hb : Below W6.heap.size W6 w) => rcheck_any _ _ _ x hsm w (HV.out w (H6.out.trans (hb.mono H6.out.size))))
    generalize putL x = L at *
    generalize putE x = PE at *
    generalize atE x t g = AE at *
    generalize atV x t g = AV at *
    generalize checkW x = CK at *
    clear hb6 a0 a1 a2 a3 lta hsm
    go_wp2_with fail
    refine region_w (fun w => w.cell? ⟨W.heap.size, 0, none⟩ = some (.slice pn x.names.length cn) ∧ w.cell? ⟨W.heap.size, 1, none⟩ = some (.slice pw x.widths.length cw) ∧ w.cell? ⟨W.heap.size, 2, none⟩ = some (.slice pc x.chs.length cc) ∧ w.cell? ⟨W.heap.size, 3, none⟩ = some (.int .i64 x.last) ∧ Bytes w pv (bs L) ∧ Bytes w qv (bs L)) [] (by kernel_rfl) ?_
    have HSx := Lib.hid (fun (w : World) (hb : Below W6.heap.size W6 w) => (show w.cell? ⟨W.heap.size, 0, none⟩ = some (.slice pn x.names.length cn) ∧ w.cell? ⟨W.heap.size, 1, none⟩ = some (.slice pw x.widths.length cw) ∧ w.cell? ⟨W.heap.size, 2, none⟩ = some (.slice pc x.chs.length cc) ∧ w.cell? ⟨W.heap.size, 3, none⟩ = some (.int .i64 x.last) ∧ Bytes w pv (bs L) ∧ Bytes w qv (bs L) from ⟨(HBX6.out.later hb).c0, (HBX6.out.later hb).c1, (HBX6.out.later hb).c2, (HBX6.out.later hb).c3, HPV.out.later hb, HQV.out.later hb⟩))
    have hbd := (Below.refl W6.heap.size W6).drew
    have HD := Lib.hid hbd
    generalize World.drew _ = w0 at *
    have hS0 := HSx.out w0 HD.out
    refine AnyW.take (i := 0) (v := ?v1) (by kernel_rfl) rfl (by kernel_rfl) (by kernel_rfl) (by kernel_rfl) (fun _ _ _ h => h) (by rfl) ?hy1 hS0 ?rest1
    case hy1 => intro w; go_simp <;> with_reducible rfl
    simp only [Act.put, List.setIfInBounds_toArray, List.set_cons_zero, List.set_cons_succ]
    refine AnyW.take (i := 1) (v := ?v2) (by kernel_rfl) rfl (by kernel_rfl) (by kernel_rfl) (by kernel_rfl) (fun _ _ _ h => h) (by rfl) ?hy2 hS0 ?rest2
    case hy2 => intro w; go_simp <;> with_reducible rfl
    simp only [Act.put, List.setIfInBounds_toArray, List.set_cons_zero, List.set_cons_succ]
    refine AnyW.takeS (i := 2) (v := ?v3) (by kernel_rfl) rfl (by kernel_rfl) (by kernel_rfl) (by kernel_rfl) (by kernel_rfl) (by kernel_rfl) (fun _ _ _ h => h) (by rfl) ?hy3 hS0 ?rest3
    case hy3 => intro w hSw; obtain ⟨hs0, hs1, hs2, hs3, hs4, hs5⟩ := hSw; go_simp <;> with_reducible rfl
    simp only [Act.put, List.setIfInBounds_toArray, List.set_cons_zero, List.set_cons_succ]
    refine AnyW.takeS (i := 4) (v := ?v4) (by kernel_rfl) rfl (by kernel_rfl) (by kernel_rfl) (by kernel_rfl) (by kernel_rfl) (by kernel_rfl) (fun _ _ _ h => h) (by rfl) ?hy4 hS0 ?rest4
    case hy4 => intro w hSw; obtain ⟨hs0, hs1, hs2, hs3, hs4, hs5⟩ := hSw; go_simp <;> with_reducible rfl
    simp only [Act.put, List.setIfInBounds_toArray, List.set_cons_zero, List.set_cons_succ]
    refine AnyW.nx1 (i := 3) (by kernel_rfl) ?_
    refine NxW.call rfl (by rfl) ?hr5 (HCk.out w0 HD.out) ?hk5
    case hr5 => go_simp <;> with_reducible rfl
    rintro e w1 ⟨rfl, hb⟩
    have HD1 := Lib.hid (HD.out.trans (hb.mono HD.out.size))
    have hS1 := HSx.out w1 HD1.out
    refine ⟨_, rfl, Stt.of hS1, ?_⟩
    simp only [Act.put, List.setIfInBounds_toArray, List.set_cons_zero, List.set_cons_succ]
    refine AnyW.nx1 (i := 5) (by kernel_rfl) ?_
    refine NxW.call rfl (by rfl) ?hr6 (HRCk.out w1 HD1.out) ?hk6
    case hr6 => go_simp <;> with_reducible rfl
    rintro e w2 ⟨rfl, hb2⟩
    have HD2 := Lib.hid (HD1.out.trans (hb2.mono HD1.out.size))
    have hS2 := HSx.out w2 HD2.out
    refine ⟨_, rfl, Stt.of hS2, ?_⟩
    simp only [Act.put, List.setIfInBounds_toArray, List.set_cons_zero, List.set_cons_succ]
    clear hS0 hS1
    refine AnyW.take (i := 6) (v := ?v7) (by kernel_rfl) rfl (by kernel_rfl) (by kernel_rfl) (by kernel_rfl) (fun _ _ _ h => h) (by rfl) ?hy7 hS2 ?rest7
    case hy7 => intro w; go_simp <;> with_reducible rfl
    simp only [Act.put, List.setIfInBounds_toArray, List.set_cons_zero, List.set_cons_succ]
    refine AnyW.take (i := 7) (v := ?v8) (by kernel_rfl) rfl (by kernel_rfl) (by kernel_rfl) (by kernel_rfl) (fun _ _ _ h => h) (by rfl) ?hy8 hS2 ?rest8
    case hy8 => intro w; go_simp <;> with_reducible rfl
    simp only [Act.put, List.setIfInBounds_toArray, List.set_cons_zero, List.set_cons_succ]
    refine AnyW.take (i := 8) (v := ?v9) (by kernel_rfl) rfl (by kernel_rfl) (by kernel_rfl) (by kernel_rfl) (fun _ _ _ h => h) (by rfl) ?hy9 hS2 ?rest9
    case hy9 => intro w; go_simp <;> with_reducible rfl
    simp only [Act.put, List.setIfInBounds_toArray, List.set_cons_zero, List.set_cons_succ]
    refine AnyW.take (i := 9) (v := ?v10) (by kernel_rfl) rfl (by kernel_rfl) (by kernel_rfl) (by kernel_rfl) (fun _ _ _ h => h) (by rfl) ?hy10 hS2 ?rest10
    case hy10 => intro w; go_simp <;> with_reducible rfl
    simp only [Act.put, List.setIfInBounds_toArray, List.set_cons_zero, List.set_cons_succ]
    refine AnyW.takeS (i := 10) (v := ?v11) (by kernel_rfl) rfl (by kernel_rfl) (by kernel_rfl) (by kernel_rfl) (by kernel_rfl) (by kernel_rfl) (fun _ _ _ h => h) (by rfl) ?hy11 hS2 ?rest11
    case hy11 => intro w hSw; obtain ⟨hs0, hs1, hs2, hs3, hs4, hs5⟩ := hSw; have hq1 := str_run hs4; have hq2 := str_run hs5; go_simp <;> with_reducible rfl
    simp only [Act.put, List.setIfInBounds_toArray, List.set_cons_zero, List.set_cons_succ]
    refine AnyW.take (i := 11) (v := ?v12) (by kernel_rfl) rfl (by kernel_rfl) (by kernel_rfl) (by kernel_rfl) (fun _ _ _ h => h) (by rfl) ?hy12 hS2 ?rest12
    case hy12 => intro w; go_simp <;> with_reducible rfl
    simp only [Act.put, List.setIfInBounds_toArray, List.set_cons_zero, List.set_cons_succ]
    refine AnyW.takeS (i := 12) (v := ?v13) (by kernel_rfl) rfl (by kernel_rfl) (by kernel_rfl) (by kernel_rfl) (by kernel_rfl) (by kernel_rfl) (fun _ _ _ h => h) (by rfl) ?hy13 hS2 ?rest13
    case hy13 => intro w hSw; obtain ⟨hs0, hs1, hs2, hs3, hs4, hs5⟩ := hSw; have hq1 := str_run hs4; have hq2 := str_run hs5; go_simp <;> with_reducible rfl
    simp only [Act.put, List.setIfInBounds_toArray, List.set_cons_zero, List.set_cons_succ]
    refine AnyW.take (i := 13) (v := ?v14) (by kernel_rfl) rfl (by kernel_rfl) (by kernel_rfl) (by kernel_rfl) (fun _ _ _ h => h) (by rfl) ?hy14 hS2 ?rest14
    case hy14 => intro w; go_simp <;> with_reducible rfl
    simp only [Act.put, List.setIfInBounds_toArray, List.set_cons_zero, List.set_cons_succ]
    refine AnyW.take (i := 14) (v := ?v15) (by kernel_rfl) rfl (by kernel_rfl) (by kernel_rfl) (by kernel_rfl) (fun _ _ _ h => h) (by rfl) ?hy15 hS2 ?rest15
    case hy15 => intro w; go_simp <;> with_reducible rfl
    simp only [Act.put, List.setIfInBounds_toArray, List.set_cons_zero, List.set_cons_succ]
    refine AnyW.take (i := 15) (v := ?v16) (by kernel_rfl) rfl (by kernel_rfl) (by kernel_rfl) (by kernel_rfl) (fun _ _ _ h => h) (by rfl) ?hy16 hS2 ?rest16
    case hy16 => intro w; go_simp <;> with_reducible rfl
    simp only [Act.put, List.setIfInBounds_toArray, List.set_cons_zero, List.set_cons_succ]
    refine AnyW.take (i := 16) (v := ?v17) (by kernel_rfl) rfl (by kernel_rfl) (by kernel_rfl) (by kernel_rfl) (fun _ _ _ h => h) (by rfl) ?hy17 hS2 ?rest17
    case hy17 => intro w; go_simp <;> with_reducible rfl
    simp only [Act.put, List.setIfInBounds_toArray, List.set_cons_zero, List.set_cons_succ]
    refine AnyW.take (i := 17) (v := ?v18) (by kernel_rfl) rfl (by kernel_rfl) (by kernel_rfl) (by kernel_rfl) (fun _ _ _ h => h) (by rfl) ?hy18 hS2 ?rest18
    case hy18 => intro w; go_simp <;> with_reducible rfl
    simp only [Act.put, List.setIfInBounds_toArray, List.set_cons_zero, List.set_cons_succ]
    refine AnyW.take (i := 18) (v := ?v19) (by kernel_rfl) rfl (by kernel_rfl) (by kernel_rfl) (by kernel_rfl) (fun _ _ _ h => h) (by rfl) ?hy19 hS2 ?rest19
    case hy19 => intro w; go_simp <;> with_reducible rfl
    simp only [Act.put, List.setIfInBounds_toArray, List.set_cons_zero, List.set_cons_succ]
    refine AnyW.take (i := 19) (v := ?v20) (by kernel_rfl) rfl (by kernel_rfl) (by kernel_rfl) (by kernel_rfl) (fun _ _ _ h => h) (by rfl) ?hy20 hS2 ?rest20
    case hy20 => intro w; go_simp <;> with_reducible rfl
    simp only [Act.put, List.setIfInBounds_toArray, List.set_cons_zero, List.set_cons_succ]
    refine AnyW.take (i := 20) (v := ?v21) (by kernel_rfl) rfl (by kernel_rfl) (by kernel_rfl) (by kernel_rfl) (fun _ _ _ h => h) (by rfl) ?hy21 hS2 ?rest21
    case hy21 => intro w; go_simp <;> with_reducible rfl
    simp only [Act.put, List.setIfInBounds_toArray, List.set_cons_zero, List.set_cons_succ]
    refine AnyW.take (i := 21) (v := ?v22) (by kernel_rfl) rfl (by kernel_rfl) (by kernel_rfl) (by kernel_rfl) (fun _ _ _ h => h) (by rfl) ?hy22 hS2 ?rest22
    case hy22 => intro w; go_simp <;> with_reducible rfl
    simp only [Act.put, List.setIfInBounds_toArray, List.set_cons_zero, List.set_cons_succ]
    refine AnyW.take (i := 22) (v := ?v23) (by kernel_rfl) rfl (by kernel_rfl) (by kernel_rfl) (by kernel_rfl) (fun _ _ _ h => h) (by rfl) ?hy23 hS2 ?rest23
    case hy23 => intro w; go_simp <;> with_reducible rfl
    simp only [Act.put, List.setIfInBounds_toArray, List.set_cons_zero, List.set_cons_succ]
    refine AnyW.take (i := 23) (v := ?v24) (by kernel_rfl) rfl (by kernel_rfl) (by kernel_rfl) (by kernel_rfl) (fun _ _ _ h => h) (by rfl) ?hy24 hS2 ?rest24
    case hy24 => intro w; go_simp <;> with_reducible rfl
    simp only [Act.put, List.setIfInBounds_toArray, List.set_cons_zero, List.set_cons_succ]
    refine AnyW.take (i := 24) (v := ?v25) (by kernel_rfl) rfl (by kernel_rfl) (by kernel_rfl) (by kernel_rfl) (fun _ _ _ h => h) (by rfl) ?hy25 hS2 ?rest25
    case hy25 => intro w; go_simp <;> with_reducible rfl
    simp only [Act.put, List.setIfInBounds_toArray, List.set_cons_zero, List.set_cons_succ]
    refine AnyW.take (i := 25) (v := ?v26) (by kernel_rfl) rfl (by kernel_rfl) (by kernel_rfl) (by kernel_rfl) (fun _ _ _ h => h) (by rfl) ?hy26 hS2 ?rest26
    case hy26 => intro w; go_simp <;> with_reducible rfl
    simp only [Act.put, List.setIfInBounds_toArray, List.set_cons_zero, List.set_cons_succ]
    refine AnyW.take (i := 26) (v := ?v27) (by kernel_rfl) rfl (by kernel_rfl) (by kernel_rfl) (by kernel_rfl) (fun _ _ _ h => h) (by rfl) ?hy27 hS2 ?rest27
    case hy27 => intro w; go_simp <;> with_reducible rfl
    simp only [Act.put, List.setIfInBounds_toArray, List.set_cons_zero, List.set_cons_succ]
    refine AnyW.take (i := 27) (v := ?v28) (by kernel_rfl) rfl (by kernel_rfl) (by kernel_rfl) (by kernel_rfl) (fun _ _ _ h => h) (by rfl) ?hy28 hS2 ?rest28
    case hy28 => intro w; go_simp <;> with_reducible rfl
    simp only [Act.put, List.setIfInBounds_toArray, List.set_cons_zero, List.set_cons_succ]
    refine AnyW.take (i := 28) (v := ?v29) (by kernel_rfl) rfl (by kernel_rfl) (by kernel_rfl) (by kernel_rfl) (fun _ _ _ h => h) (by rfl) ?hy29 hS2 ?rest29
    case hy29 => intro w; go_simp <;> with_reducible rfl
    simp only [Act.put, List.setIfInBounds_toArray, List.set_cons_zero, List.set_cons_succ]
    refine AnyW.take (i := 29) (v := ?v30) (by kernel_rfl) rfl (by kernel_rfl) (by kernel_rfl) (by kernel_rfl) (fun _ _ _ h => h) (by rfl) ?hy30 hS2 ?rest30
    case hy30 => intro w; go_simp <;> with_reducible rfl
    simp only [Act.put, List.setIfInBounds_toArray, List.set_cons_zero, List.set_cons_succ]
    refine AnyW.take (i := 30) (v := ?v31) (by kernel_rfl) rfl (by kernel_rfl) (by kernel_rfl) (by kernel_rfl) (fun _ _ _ h => h) (by rfl) ?hy31 hS2 ?rest31
    case hy31 => intro w; go_simp <;> with_reducible rfl
    simp only [Act.put, List.setIfInBounds_toArray, List.set_cons_zero, List.set_cons_succ]
    refine AnyW.done (by kernel_rfl) ?_ _
    go_wp2
    go_ret
    exact ⟨rfl, H6.out.trans (HD2.out.mono H6.out.size)⟩
end Go.Proofs.YtephnfhjobkciaaGreatDoor
