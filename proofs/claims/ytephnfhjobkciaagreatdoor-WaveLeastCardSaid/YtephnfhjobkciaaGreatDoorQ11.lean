/- Texts of the Wave laws, merged: YG, YH, YI. -/
import Derived.Test.YtephnfhjobkciaaGreatDoorQ10
import Derived.Test.YtephnfhjobkciaaGreatDoorQ9
import Derived.Test.YtephnfhjobkciaaGreatDoorQ5
import Derived.Test.YtephnfhjobkciaaGreatDoorQ1

/- A line of a wave's text: the reference's read. -/
namespace Go.Proofs.YtephnfhjobkciaaGreatDoor
open Go.RowKit Go.Proofs.Wav Go.Proofs.Scn Go.Flow Go.Sort Go.Cal
set_option linter.unusedVariables false
set_option linter.unusedSimpArgs false
set_option maxRecDepth 100000

set_option maxHeartbeats 16000000 in
theorem rread_any (B : Nat) (vn vw vc : Value) (x : Wv) (s : Ln) (hs : s.length ≤ 100000) (hn : x.names.length ≤ 1000000) (hw : x.widths.length ≤ 1000000) (hc : x.chs.length ≤ 1000000) (W : World) (hB : B ≤ W.heap.size) (ho : Own3 B W vn vw vc x) :
    Calls Tryz.prog 53 #[.agg #[vn, vw, vc, .int .i64 x.last], .string (bs s)] W (ReadPost B x s W) := by
  have hst := Rd.start hB ho.1 ho.2.1 ho.2.2
  obtain ⟨pn, cn, rfl⟩ := row_form ho.1
  obtain ⟨pw, cw, rfl⟩ := row_form ho.2.1
  obtain ⟨pc, cc, rfl⟩ := row_form ho.2.2
  have HST := Lib.hid hst
  have HO := Lib.hid ho
  have HB := Lib.hid hB
  obtain ⟨a0, a1, a2, a3, f0, f1, f2, f3, lta⟩ := hst.r2.box
  obtain ⟨z0, z1, z2, z3, g0, g1, g2, g3, ltz⟩ := hst.r4.box
  clear ho hst hB
  cases s with
  | nil =>
    have HBad := Lib.hid (show lineR x [] = none from rfl)
    have hz : (bs ([] : Ln)).toList.isEmpty = true := by rw [toL]; rfl
    go_enter Tryz.func53, Tryz.ntmps53
    go_wp2_with fail
    have hb : Below W.heap.size W ((W.alloc (.cells #[.slice pn x.names.length cn, .slice pw x.widths.length cw, .slice pc x.chs.length cc, .int .i64 x.last] 26)).alloc (.cells #[.slice pn x.names.length cn, .slice pw x.widths.length cw, .slice pc x.chs.length cc, .int .i64 x.last] 26)) := ((Below.refl _ _).alloc (Nat.le_refl _) _).alloc (by simp) _
    have b1 := WBox.new (W.alloc (.cells #[.slice pn x.names.length cn, .slice pw x.widths.length cw, .slice pc x.chs.length cc, .int .i64 x.last] 26)) (.slice pn x.names.length cn) (.slice pw x.widths.length cw) (.slice pc x.chs.length cc) (.int .i64 x.last)
    rw [World.size_alloc] at b1
    generalize ((W.alloc (.cells #[.slice pn x.names.length cn, .slice pw x.widths.length cw, .slice pc x.chs.length cc, .int .i64 x.last] 26)).alloc (.cells #[.slice pn x.names.length cn, .slice pw x.widths.length cw, .slice pc x.chs.length cc, .int .i64 x.last] 26)) = X at *
    obtain ⟨y0, y1, y2, y3, _, _, _, _, _⟩ := b1.box
    refine bodyPost_ret (v := .tuple #[.agg #[.slice pn x.names.length cn, .slice pw x.widths.length cw, .slice pc x.chs.length cc, .int .i64 x.last], .bool false]) ?_ rfl (ReadPost.bad HBad.out rfl ⟨row_later HO.out.1 hb, row_later HO.out.2.1 hb, row_later HO.out.2.2 hb⟩ ⟨hb.mono HB.out, Kp.later ⟨Nat.le_refl _, fun _ _ _ h => h⟩ hb⟩)
    simp [results, Tryz.results53, go_sem, y0, y1, y2, y3]
  | cons c r =>
    have hz : (bs (c :: r)).toList.isEmpty = false := by rw [toL]; rfl
    have hsz1 : (1 : Int) ≤ ((bs (c :: r)).size : Int) := by rw [size_bs, List.length_cons]; omega
    have hext : (bs (c :: r)).extract 1 (bs (c :: r)).size = bs r := ext_tail (c :: r) 1
    have hrl : r.length ≤ 100000 := by simp at hs; omega
    have HSplit := Lib.hid (fun w => rsplit_any r hrl w)
    have hi0 : ∀ h, (bs (c :: r))[0]'h = c := fun _ => rfl
    have hsl := splitR_len r
    have HSL := Lib.hid hsl
    go_enter Tryz.func53, Tryz.ntmps53
    have HLR := Lib.hid (show ∀ y, lineR x (c :: r) = y → lineR x (c :: r) = y from fun _ h => h)
    by_cases hv : c = 118
    · subst hv
      obtain ⟨a, b, hab⟩ : ∃ a b, splitR r = (a, b) := ⟨_, _, rfl⟩
      rw [hab] at HSplit hsl
      simp only at HSplit hsl
      obtain ⟨d, f, hdf⟩ : ∃ d f, splitR b = (d, f) := ⟨_, _, rfl⟩
      have hlR : lineR x (118 :: r) = if a = [97, 114] then some { x with names := x.names ++ [f], widths := x.widths ++ [numR d] } else none := by
        show (if (splitR r).1 = [97, 114] then some _ else none) = _
        rw [hab, hdf]
      have HLine := Lib.hid hlR
      have hbl : b.length ≤ 100000 := by omega
      have hdl := splitR_len b
      rw [hdf] at hdl
      simp only at hdl
      have HSplit2 := Lib.hid (fun w => rsplit_any b hbl w)
      rw [hdf] at HSplit2
      simp only at HSplit2
      have HNum := Lib.hid (fun w => rnumber_any d (by omega) w)
      clear hlR hab hdf hsl hdl HSL
      go_wp2_with fail
      refine (HSplit.out _).mono ?_
      rintro e W2 ⟨rfl, hb2⟩
      have HR2 := Lib.hid (HST.out.later hb2)
      clear hb2 a0 a1 a2 a3 f0 f1 f2 f3 lta z0 z1 z2 z3 g0 g1 g2 g3 ltz
      go_wp2_with fail
      refine (HSplit2.out _).mono ?_
      rintro e W3 ⟨rfl, hb3⟩
      have HR3 := Lib.hid (HR2.out.later hb3)
      obtain ⟨a0, a1, a2, a3, f0, f1, f2, f3, lta⟩ := HR3.out.r2.box
      have HRA := Lib.hid (HR3.out.later ((Below.refl _ _).alloc (Nat.le_refl _) (.cells #[.string (bs f)] 9)))
      have HNA := Lib.hid (heap_alloc_new W3 (.cells #[.string (bs f)] 9))
      have HSA := Lib.hid (Nat.le_trans HRA.out.hB HRA.out.bel.size)
      clear hb3
      go_wp2_with (at_builtin; refine wpList_append_one rfl _ _ 22 9 rfl strsSlice (.string ⟨#[]⟩) 1 16 infoStr rfl (by decide) (by decide) B _ x.names.length (x.names.map strV) rfl HRA.out.nm W3.heap.size 1 #[.string (bs f)] rfl HNA.out rfl (by simp [Value.oneCell']) hn HSA.out ?_; intro p' c' N' w4 HN' hown hgr; have HR4 := Lib.hid (HRA.out.nam f HN'.out hown hgr); obtain ⟨hk2, hk4, hkb, hkp⟩ := HRA.out.app HRA.out.nm (by decide) hgr; obtain ⟨a0, a1, a2, a3, f0, f1, f2, f3, lta⟩ := hk2.box; clear hown hgr hk2 hk4 hkb hkp)
      have HN'' := Lib.hid HN'.out
      clear a0 a1 a2 a3 f0 f1 f2 f3 lta
      generalize w4.setCell ⟨W.heap.size, 0, none⟩ (.slice p' N' c') = w5 at *
      obtain ⟨a0, a1, a2, a3, f0, f1, f2, f3, lta⟩ := HR4.out.r2.box
      refine region_w (fun w => w.cell? ⟨W.heap.size, 1, none⟩ = some (.slice pw x.widths.length cw)) [6, 7] (by kernel_rfl) ?_
      have HRd := Lib.hid (HR4.out.later (Below.refl _ _).drew)
      clear a0 a1 a2 a3 f0 f1 f2 f3 lta
      generalize World.drew _ = w0 at *
      have hS0 := HRd.out.r2.box.c1
      refine AnyW.take (i := 0) (v := ?v1) (by kernel_rfl) rfl (by kernel_rfl) (by kernel_rfl) (by kernel_rfl) (fun _ _ _ h => h) (by rfl) ?hy1 hS0 ?rest1
      case hy1 => intro w; go_simp <;> with_reducible rfl
      simp only [Act.put, List.setIfInBounds_toArray, List.set_cons_zero, List.set_cons_succ]
      refine AnyW.takeS (i := 1) (v := ?v2) (by kernel_rfl) rfl (by kernel_rfl) (by kernel_rfl) (by kernel_rfl) (by kernel_rfl) (by kernel_rfl) (fun _ _ _ h => h) (by rfl) ?hy2 hS0 ?rest2
      case hy2 => intro w hSw; go_simp <;> with_reducible rfl
      simp only [Act.put, List.setIfInBounds_toArray, List.set_cons_zero, List.set_cons_succ]
      refine AnyW.take (i := 2) (v := ?v3) (by kernel_rfl) rfl (by kernel_rfl) (by kernel_rfl) (by kernel_rfl) (fun _ _ _ h => h) (by rfl) ?hy3 hS0 ?rest3
      case hy3 => intro w; go_simp <;> with_reducible rfl
      simp only [Act.put, List.setIfInBounds_toArray, List.set_cons_zero, List.set_cons_succ]
      refine AnyW.nx1 (i := 3) (by kernel_rfl) ?_
      refine NxW.call rfl (by rfl) ?hr4 (HNum.out w0) ?hk4
      case hr4 => go_simp <;> with_reducible rfl
      rintro e w' ⟨rfl, rfl⟩
      refine ⟨_, rfl, Stt.of hS0, ?_⟩
      simp only [Act.put, List.setIfInBounds_toArray, List.set_cons_zero, List.set_cons_succ]
      clear hS0
      have HRB := Lib.hid (HRd.out.later ((Below.refl _ _).alloc (Nat.le_refl _) (.cells #[.int .i64 (numR d)] 3)))
      have HNB := Lib.hid (heap_alloc_new w0 (.cells #[.int .i64 (numR d)] 3))
      have HSB := Lib.hid (Nat.le_trans HRB.out.hB HRB.out.bel.size)
      refine AnyW.nx1 (i := 4) (by kernel_rfl) ?_
      refine NxW.val (v := ?v5) (w' := w0.alloc (.cells #[.int .i64 (numR d)] 3)) rfl (by rfl) ?hr5 (Stt.of HRB.out.r2.box.c1) ?hk5
      case hr5 => go_simp <;> with_reducible rfl
      simp only [Act.put, List.setIfInBounds_toArray, List.set_cons_zero, List.set_cons_succ]
      generalize w0.alloc (.cells #[.int .i64 (numR d)] 3) = w1 at *
      refine AnyW.nx1 (i := 5) (by kernel_rfl) ?_
      refine nxW_app rfl rfl _ _ 23 3 rfl intsSlice (.int .i64 0) 1 8 infoInt rfl (by decide) (by decide) B _ x.widths.length (x.widths.map intV) rfl HRB.out.wd w0.heap.size 1 #[.int .i64 (numR d)] rfl HNB.out rfl (by simp [Value.oneCell']) hw HSB.out ?_
      intro p2 c2 w6 hown hgr
      have HR6 := Lib.hid (HRB.out.wid (numR d) rfl hown hgr)
      obtain ⟨hk2, hk4, hkb, hkp⟩ := HRB.out.app HRB.out.wd (by decide) hgr
      obtain ⟨b0, b1, b2, b3, k0, k1, k2, k3, ltb⟩ := hk2.box
      refine ⟨Stt.of b1, ?_⟩
      clear hown hgr hk2 hk4 hkb hkp
      simp only [Act.put, List.setIfInBounds_toArray, List.set_cons_zero, List.set_cons_succ]
      refine AnyW.nx1 (i := 6) (by kernel_rfl) ?_
      refine NxW.val (v := ?v6) (w' := w6) rfl (by rfl) ?hr6 (Stt.past (by kernel_rfl)) ?hk6
      case hr6 => go_simp <;> with_reducible rfl
      simp only [Act.put, List.setIfInBounds_toArray, List.set_cons_zero, List.set_cons_succ]
      refine AnyW.nx1 (i := 7) (by kernel_rfl) ?_
      refine NxW.skip (w' := ?w7) rfl (by rfl) ?hr7 (Stt.past (by kernel_rfl)) ?hk7
      case hr7 => go_simp <;> with_reducible rfl
      simp only [Act.put, List.setIfInBounds_toArray, List.set_cons_zero, List.set_cons_succ]
      refine AnyW.done (by kernel_rfl) ?_ _
      clear b0 b1 b2 b3 k0 k1 k2 k3 ltb
      generalize w6.setCell ⟨W.heap.size, 1, none⟩ (.slice p2 (x.widths.length + 1) c2) = w7 at *
      obtain ⟨a0, a1, a2, a3, f0, f1, f2, f3, lta⟩ := HR6.out.r2.box
      obtain ⟨z0, z1, z2, z3, g0, g1, g2, g3, ltz⟩ := HR6.out.r4.box
      by_cases har : a = [97, 114]
      · have HGood := Lib.hid (HLine.out.trans (if_pos har))
        have har' : ((bs a).toList == [97, 114]) = true := by rw [toL, har]; rfl
        clear har
        go_wp2_with fail
        have hx := HR6.out.out (a := (.slice p' N' c')) (b := (.slice p2 (x.widths.length + 1) c2)) (c := (.slice pc x.chs.length cc)) (d := .int .i64 x.last)
        generalize ((((w7.setCell ⟨W.heap.size + 1, 0, none⟩ (.slice p' N' c')).setCell ⟨W.heap.size + 1, 1, none⟩ (.slice p2 (x.widths.length + 1) c2)).setCell ⟨W.heap.size + 1, 2, none⟩ (.slice pc x.chs.length cc)).setCell ⟨W.heap.size + 1, 3, none⟩ (.int .i64 x.last)) = X at *
        obtain ⟨y0, y1, y2, y3, _, _, _, _, _⟩ := hx.1.box
        refine bodyPost_ret (v := .tuple #[.agg #[(.slice p' N' c'), (.slice p2 (x.widths.length + 1) c2), (.slice pc x.chs.length cc), .int .i64 x.last], .bool true]) ?_ rfl (ReadPost.good HGood.out rfl ⟨hx.2.1, hx.2.2.1, hx.2.2.2.1⟩ hx.2.2.2.2)
        simp [results, Tryz.results53, go_sem, y0, y1, y2, y3]
      · have HBad := Lib.hid (HLine.out.trans (if_neg har))
        have har' : ((bs a).toList == [97, 114]) = false := by rw [toL]; simpa using har
        clear har
        go_wp2_with fail
        have hx := HR6.out.out (a := (.slice p' N' c')) (b := (.slice p2 (x.widths.length + 1) c2)) (c := (.slice pc x.chs.length cc)) (d := .int .i64 x.last)
        generalize ((((w7.setCell ⟨W.heap.size + 1, 0, none⟩ (.slice p' N' c')).setCell ⟨W.heap.size + 1, 1, none⟩ (.slice p2 (x.widths.length + 1) c2)).setCell ⟨W.heap.size + 1, 2, none⟩ (.slice pc x.chs.length cc)).setCell ⟨W.heap.size + 1, 3, none⟩ (.int .i64 x.last)) = X at *
        obtain ⟨y0, y1, y2, y3, _, _, _, _, _⟩ := hx.1.box
        refine bodyPost_ret (v := .tuple #[.agg #[(.slice p' N' c'), (.slice p2 (x.widths.length + 1) c2), (.slice pc x.chs.length cc), .int .i64 x.last], .bool false]) ?_ rfl (ReadPost.bad (y := { x with names := x.names ++ [f], widths := x.widths ++ [numR d] }) HBad.out rfl ⟨hx.2.1, hx.2.2.1, hx.2.2.2.1⟩ hx.2.2.2.2)
        simp [results, Tryz.results53, go_sem, y0, y1, y2, y3]
    have hv' : ((c.toNat : Int) == 118) = false := u8_ne hv
    by_cases ht : c = 35
    · subst ht
      have hlR : lineR x (35 :: r) = if 0 ≤ numR r then some { x with last := numR r } else none := rfl
      have HLine := Lib.hid hlR
      have HNum := Lib.hid (fun w => rnumber_any r hrl w)
      clear hlR hsl
      go_wp2_with fail
      refine (HSplit.out _).mono ?_
      rintro e W2 ⟨rfl, hb2⟩
      have HR2 := Lib.hid (HST.out.later hb2)
      clear hb2 a0 a1 a2 a3 f0 f1 f2 f3 lta z0 z1 z2 z3 g0 g1 g2 g3 ltz
      obtain ⟨a0, a1, a2, a3, f0, f1, f2, f3, lta⟩ := HR2.out.r2.box
      go_wp2_with fail
      refine (HNum.out _).mono ?_
      rintro e w' ⟨rfl, rfl⟩
      go_wp2_with fail
      have HR4 := Lib.hid (HR2.out.time (numR r))
      clear a0 a1 a2 a3 f0 f1 f2 f3 lta
      generalize W2.setCell ⟨W.heap.size, 3, none⟩ (.int .i64 (numR r)) = w5 at *
      refine region_w (fun w => w.cell? ⟨W.heap.size, 0, none⟩ = some (.slice pn x.names.length cn) ∧ w.cell? ⟨W.heap.size, 1, none⟩ = some (.slice pw x.widths.length cw) ∧ w.cell? ⟨W.heap.size, 2, none⟩ = some (.slice pc x.chs.length cc) ∧ w.cell? ⟨W.heap.size, 3, none⟩ = some (.int .i64 (numR r))) [] (by kernel_rfl) ?_
      have HRd := Lib.hid (HR4.out.later (Below.refl _ _).drew)
      generalize World.drew _ = w0 at *
      obtain ⟨a0, a1, a2, a3, f0, f1, f2, f3, lta⟩ := HRd.out.r2.box
      obtain ⟨z0, z1, z2, z3, g0, g1, g2, g3, ltz⟩ := HRd.out.r4.box
      have hS0 := And.intro a0 (And.intro a1 (And.intro a2 a3))
      refine AnyW.takeS (i := 0) (v := ?v8) (by kernel_rfl) rfl (by kernel_rfl) (by kernel_rfl) (by kernel_rfl) (by kernel_rfl) (by kernel_rfl) (fun _ _ _ h => h) (by rfl) ?hy8 hS0 ?rest8
      case hy8 => intro w hSw; obtain ⟨hs0, hs1, hs2, hs3⟩ := hSw; go_simp <;> with_reducible rfl
      simp only [Act.put, List.setIfInBounds_toArray, List.set_cons_zero, List.set_cons_succ]
      refine AnyW.take (i := 1) (v := ?v9) (by kernel_rfl) rfl (by kernel_rfl) (by kernel_rfl) (by kernel_rfl) (fun _ _ _ h => h) (by rfl) ?hy9 hS0 ?rest9
      case hy9 => intro w; go_simp <;> with_reducible rfl
      simp only [Act.put, List.setIfInBounds_toArray, List.set_cons_zero, List.set_cons_succ]
      refine AnyW.takeS (i := 2) (v := ?v10) (by kernel_rfl) rfl (by kernel_rfl) (by kernel_rfl) (by kernel_rfl) (by kernel_rfl) (by kernel_rfl) (fun _ _ _ h => h) (by rfl) ?hy10 hS0 ?rest10
      case hy10 => intro w hSw; obtain ⟨hs0, hs1, hs2, hs3⟩ := hSw; go_simp <;> with_reducible rfl
      simp only [Act.put, List.setIfInBounds_toArray, List.set_cons_zero, List.set_cons_succ]
      refine AnyW.take (i := 3) (v := ?v11) (by kernel_rfl) rfl (by kernel_rfl) (by kernel_rfl) (by kernel_rfl) (fun _ _ _ h => h) (by rfl) ?hy11 hS0 ?rest11
      case hy11 => intro w; go_simp <;> with_reducible rfl
      simp only [Act.put, List.setIfInBounds_toArray, List.set_cons_zero, List.set_cons_succ]
      have hk := wset4 (a' := .slice pn x.names.length cn) (b' := .slice pw x.widths.length cw) (c' := .slice pc x.chs.length cc) (d' := .int .i64 (numR r)) HRd.out.r4
      have hk2 := (wb_set (q := W.heap.size + 1) (o := 3) (u := .int .i64 (numR r)) (wb_set (q := W.heap.size + 1) (o := 2) (u := .slice pc x.chs.length cc) (wb_set (q := W.heap.size + 1) (o := 1) (u := .slice pw x.widths.length cw) (wb_set (q := W.heap.size + 1) (o := 0) (u := .slice pn x.names.length cn) HRd.out.r2 (by omega)) (by omega)) (by omega)) (by omega))
      have hS1 := And.intro hk2.box.c0 (And.intro hk2.box.c1 (And.intro hk2.box.c2 hk2.box.c3))
      refine AnyW.nx1 (i := 4) (by kernel_rfl) ?_
      refine NxW.skip (w' := ((((w0.setCell ⟨W.heap.size + 1, 0, none⟩ (.slice pn x.names.length cn)).setCell ⟨W.heap.size + 1, 1, none⟩ (.slice pw x.widths.length cw)).setCell ⟨W.heap.size + 1, 2, none⟩ (.slice pc x.chs.length cc)).setCell ⟨W.heap.size + 1, 3, none⟩ (.int .i64 (numR r)))) rfl (by rfl) ?hr12 (Stt.of hS1) ?hk12
      case hr12 => go_simp <;> with_reducible rfl
      simp only [Act.put, List.setIfInBounds_toArray, List.set_cons_zero, List.set_cons_succ]
      refine AnyW.nx1 (i := 5) (by kernel_rfl) ?_
      refine NxW.val (v := ?v13) (w' := ((((w0.setCell ⟨W.heap.size + 1, 0, none⟩ (.slice pn x.names.length cn)).setCell ⟨W.heap.size + 1, 1, none⟩ (.slice pw x.widths.length cw)).setCell ⟨W.heap.size + 1, 2, none⟩ (.slice pc x.chs.length cc)).setCell ⟨W.heap.size + 1, 3, none⟩ (.int .i64 (numR r)))) rfl (by rfl) ?hr13 (Stt.of hS1) ?hk13
      case hr13 => go_simp <;> with_reducible rfl
      simp only [Act.put, List.setIfInBounds_toArray, List.set_cons_zero, List.set_cons_succ]
      refine AnyW.done (by kernel_rfl) ?_ _
      clear hS0 hS1 hk hk2
      clear a0 a1 a2 a3 f0 f1 f2 f3 lta z0 z1 z2 z3 g0 g1 g2 g3 ltz
      by_cases hge : 0 ≤ numR r
      · have HGood := Lib.hid (HLine.out.trans (if_pos hge))
        have hge' : decide (0 ≤ numR r) = true := decide_eq_true hge
        go_wp2_with fail
        have hx := HRd.out.out (a := (.slice pn x.names.length cn)) (b := (.slice pw x.widths.length cw)) (c := (.slice pc x.chs.length cc)) (d := .int .i64 (numR r))
        generalize ((((w0.setCell ⟨W.heap.size + 1, 0, none⟩ (.slice pn x.names.length cn)).setCell ⟨W.heap.size + 1, 1, none⟩ (.slice pw x.widths.length cw)).setCell ⟨W.heap.size + 1, 2, none⟩ (.slice pc x.chs.length cc)).setCell ⟨W.heap.size + 1, 3, none⟩ (.int .i64 (numR r))) = X at *
        obtain ⟨y0, y1, y2, y3, _, _, _, _, _⟩ := hx.1.box
        refine bodyPost_ret (v := .tuple #[.agg #[(.slice pn x.names.length cn), (.slice pw x.widths.length cw), (.slice pc x.chs.length cc), .int .i64 (numR r)], .bool true]) ?_ rfl (ReadPost.good HGood.out rfl ⟨hx.2.1, hx.2.2.1, hx.2.2.2.1⟩ hx.2.2.2.2)
        simp [results, Tryz.results53, go_sem, y0, y1, y2, y3, hge]
      · have HBad := Lib.hid (HLine.out.trans (if_neg hge))
        have hge' : decide (0 ≤ numR r) = false := decide_eq_false hge
        go_wp2_with fail
        have hx := HRd.out.out (a := (.slice pn x.names.length cn)) (b := (.slice pw x.widths.length cw)) (c := (.slice pc x.chs.length cc)) (d := .int .i64 (numR r))
        generalize ((((w0.setCell ⟨W.heap.size + 1, 0, none⟩ (.slice pn x.names.length cn)).setCell ⟨W.heap.size + 1, 1, none⟩ (.slice pw x.widths.length cw)).setCell ⟨W.heap.size + 1, 2, none⟩ (.slice pc x.chs.length cc)).setCell ⟨W.heap.size + 1, 3, none⟩ (.int .i64 (numR r))) = X at *
        obtain ⟨y0, y1, y2, y3, _, _, _, _, _⟩ := hx.1.box
        refine bodyPost_ret (v := .tuple #[.agg #[(.slice pn x.names.length cn), (.slice pw x.widths.length cw), (.slice pc x.chs.length cc), .int .i64 (numR r)], .bool false]) ?_ rfl (ReadPost.bad (y := { x with last := numR r }) HBad.out rfl ⟨hx.2.1, hx.2.2.1, hx.2.2.2.1⟩ hx.2.2.2.2)
        simp [results, Tryz.results53, go_sem, y0, y1, y2, y3]
    have ht' : ((c.toNat : Int) == 35) = false := u8_ne ht
    by_cases hb : c = 98
    · subst hb
      obtain ⟨a, b, hab⟩ : ∃ a b, splitR r = (a, b) := ⟨_, _, rfl⟩
      rw [hab] at HSplit hsl
      simp only at HSplit hsl
      have hlR : lineR x (98 :: r) = if (bin2R a).2 = true then some { x with chs := x.chs ++ [⟨x.last, numR b, (bin2R a).1⟩] } else none := by
        show (if (bin2R (splitR r).1).2 = true then some _ else none) = _
        rw [hab]
      have HLine := Lib.hid hlR
      have HNum := Lib.hid (fun w => rnumber_any b (by omega) w)
      have HVal := Lib.hid (fun w => rvalue_any a (by omega) w)
      clear hlR hab hsl HSL
      generalize (bin2R a).1 = v at *
      generalize (bin2R a).2 = vb at *
      go_wp2_with fail
      refine (HSplit.out _).mono ?_
      rintro e W2 ⟨rfl, hb2⟩
      have HR2 := Lib.hid (HST.out.later hb2)
      clear hb2 a0 a1 a2 a3 f0 f1 f2 f3 lta z0 z1 z2 z3 g0 g1 g2 g3 ltz
      go_wp2_with fail
      refine (HVal.out _).mono ?_
      rintro e w' ⟨rfl, rfl⟩
      go_wp2_with fail
      refine region_w (fun w => w.cell? ⟨W.heap.size, 2, none⟩ = some (.slice pc x.chs.length cc) ∧ w.cell? ⟨W.heap.size, 3, none⟩ = some (.int .i64 x.last)) [10, 11] (by kernel_rfl) ?_
      have HRd := Lib.hid (HR2.out.later (Below.refl _ _).drew)
      generalize World.drew _ = w0 at *
      have hS0 := And.intro HRd.out.r2.box.c2 HRd.out.r2.box.c3
      refine AnyW.take (i := 0) (v := ?v14) (by kernel_rfl) rfl (by kernel_rfl) (by kernel_rfl) (by kernel_rfl) (fun _ _ _ h => h) (by rfl) ?hy14 hS0 ?rest14
      case hy14 => intro w; go_simp <;> with_reducible rfl
      simp only [Act.put, List.setIfInBounds_toArray, List.set_cons_zero, List.set_cons_succ]
      refine AnyW.takeS (i := 1) (v := ?v15) (by kernel_rfl) rfl (by kernel_rfl) (by kernel_rfl) (by kernel_rfl) (by kernel_rfl) (by kernel_rfl) (fun _ _ _ h => h) (by rfl) ?hy15 hS0 ?rest15
      case hy15 => intro w hSw; obtain ⟨hs0, hs1⟩ := hSw; go_simp <;> with_reducible rfl
      simp only [Act.put, List.setIfInBounds_toArray, List.set_cons_zero, List.set_cons_succ]
      refine AnyW.take (i := 2) (v := ?v16) (by kernel_rfl) rfl (by kernel_rfl) (by kernel_rfl) (by kernel_rfl) (fun _ _ _ h => h) (by rfl) ?hy16 hS0 ?rest16
      case hy16 => intro w; go_simp <;> with_reducible rfl
      simp only [Act.put, List.setIfInBounds_toArray, List.set_cons_zero, List.set_cons_succ]
      refine AnyW.takeS (i := 3) (v := ?v17) (by kernel_rfl) rfl (by kernel_rfl) (by kernel_rfl) (by kernel_rfl) (by kernel_rfl) (by kernel_rfl) (fun _ _ _ h => h) (by rfl) ?hy17 hS0 ?rest17
      case hy17 => intro w hSw; obtain ⟨hs0, hs1⟩ := hSw; go_simp <;> with_reducible rfl
      simp only [Act.put, List.setIfInBounds_toArray, List.set_cons_zero, List.set_cons_succ]
      refine AnyW.take (i := 4) (v := ?v18) (by kernel_rfl) rfl (by kernel_rfl) (by kernel_rfl) (by kernel_rfl) (fun _ _ _ h => h) (by rfl) ?hy18 hS0 ?rest18
      case hy18 => intro w; go_simp <;> with_reducible rfl
      simp only [Act.put, List.setIfInBounds_toArray, List.set_cons_zero, List.set_cons_succ]
      refine AnyW.take (i := 6) (v := ?v19) (by kernel_rfl) rfl (by kernel_rfl) (by kernel_rfl) (by kernel_rfl) (fun _ _ _ h => h) (by rfl) ?hy19 hS0 ?rest19
      case hy19 => intro w; go_simp <;> with_reducible rfl
      simp only [Act.put, List.setIfInBounds_toArray, List.set_cons_zero, List.set_cons_succ]
      refine AnyW.nx1 (i := 5) (by kernel_rfl) ?_
      refine NxW.call rfl (by rfl) ?hr20 (HNum.out w0) ?hk20
      case hr20 => go_simp <;> with_reducible rfl
      rintro e w' ⟨rfl, rfl⟩
      refine ⟨_, rfl, Stt.of hS0, ?_⟩
      simp only [Act.put, List.setIfInBounds_toArray, List.set_cons_zero, List.set_cons_succ]
      refine AnyW.take (i := 7) (v := ?v21) (by kernel_rfl) rfl (by kernel_rfl) (by kernel_rfl) (by kernel_rfl) (fun _ _ _ h => h) (by rfl) ?hy21 hS0 ?rest21
      case hy21 => intro w; go_simp <;> with_reducible rfl
      simp only [Act.put, List.setIfInBounds_toArray, List.set_cons_zero, List.set_cons_succ]
      clear hS0
      have HRB := Lib.hid (HRd.out.later ((Below.refl _ _).alloc (Nat.le_refl _) (.cells #[.int .i64 x.last, .int .i64 (numR b), .int .u64 v] 50)))
      have HNB := Lib.hid (heap_alloc_new w0 (.cells #[.int .i64 x.last, .int .i64 (numR b), .int .u64 v] 50))
      have HSB := Lib.hid (Nat.le_trans HRB.out.hB HRB.out.bel.size)
      refine AnyW.nx1 (i := 8) (by kernel_rfl) ?_
      refine NxW.val (v := ?v22) (w' := w0.alloc (.cells #[.int .i64 x.last, .int .i64 (numR b), .int .u64 v] 50)) rfl (by rfl) ?hr22 (Stt.of (And.intro HRB.out.r2.box.c2 HRB.out.r2.box.c3)) ?hk22
      case hr22 => go_simp <;> with_reducible rfl
      simp only [Act.put, List.setIfInBounds_toArray, List.set_cons_zero, List.set_cons_succ]
      generalize w0.alloc (.cells #[.int .i64 x.last, .int .i64 (numR b), .int .u64 v] 50) = w1 at *
      refine AnyW.nx1 (i := 9) (by kernel_rfl) ?_
      refine nxW_app rfl rfl _ _ 24 50 rfl chgsSlice (.agg #[.int .i64 0, .int .i64 0, .int .u64 0]) 3 24 infoChg rfl (by decide) (by decide) B _ x.chs.length (chgsV x.chs) rfl HRB.out.ch w0.heap.size 1 #[.int .i64 x.last, .int .i64 (numR b), .int .u64 v] rfl HNB.out rfl (by simp [Value.oneCell']) hc HSB.out ?_
      intro p2 c2 w6 hown hgr
      have HR6 := Lib.hid (HRB.out.chg ⟨x.last, numR b, v⟩ rfl hown hgr)
      obtain ⟨hk2, hk4, hkb, hkp⟩ := HRB.out.app HRB.out.ch (by decide) hgr
      obtain ⟨b0, b1, b2, b3, k0, k1, k2, k3, ltb⟩ := hk2.box
      refine ⟨Stt.of (And.intro b2 b3), ?_⟩
      clear hown hgr hk2 hk4 hkb hkp
      simp only [Act.put, List.setIfInBounds_toArray, List.set_cons_zero, List.set_cons_succ]
      refine AnyW.nx1 (i := 10) (by kernel_rfl) ?_
      refine NxW.val (v := ?v23) (w' := w6) rfl (by rfl) ?hr23 (Stt.past (by kernel_rfl)) ?hk23
      case hr23 => go_simp <;> with_reducible rfl
      simp only [Act.put, List.setIfInBounds_toArray, List.set_cons_zero, List.set_cons_succ]
      refine AnyW.nx1 (i := 11) (by kernel_rfl) ?_
      refine NxW.skip (w' := ?w24) rfl (by rfl) ?hr24 (Stt.past (by kernel_rfl)) ?hk24
      case hr24 => go_simp <;> with_reducible rfl
      simp only [Act.put, List.setIfInBounds_toArray, List.set_cons_zero, List.set_cons_succ]
      refine AnyW.done (by kernel_rfl) ?_ _
      clear b0 b1 b2 b3 k0 k1 k2 k3 ltb
      generalize w6.setCell ⟨W.heap.size, 2, none⟩ (.slice p2 (x.chs.length + 1) c2) = w7 at *
      obtain ⟨a0, a1, a2, a3, f0, f1, f2, f3, lta⟩ := HR6.out.r2.box
      obtain ⟨z0, z1, z2, z3, g0, g1, g2, g3, ltz⟩ := HR6.out.r4.box
      cases vb with
      | true =>
        have HGood := Lib.hid (HLine.out.trans (if_pos rfl))
        go_wp2_with fail
        have hx := HR6.out.out (a := (.slice pn x.names.length cn)) (b := (.slice pw x.widths.length cw)) (c := (.slice p2 (x.chs.length + 1) c2)) (d := .int .i64 x.last)
        generalize ((((w7.setCell ⟨W.heap.size + 1, 0, none⟩ (.slice pn x.names.length cn)).setCell ⟨W.heap.size + 1, 1, none⟩ (.slice pw x.widths.length cw)).setCell ⟨W.heap.size + 1, 2, none⟩ (.slice p2 (x.chs.length + 1) c2)).setCell ⟨W.heap.size + 1, 3, none⟩ (.int .i64 x.last)) = X at *
        obtain ⟨y0, y1, y2, y3, _, _, _, _, _⟩ := hx.1.box
        refine bodyPost_ret (v := .tuple #[.agg #[(.slice pn x.names.length cn), (.slice pw x.widths.length cw), (.slice p2 (x.chs.length + 1) c2), .int .i64 x.last], .bool true]) ?_ rfl (ReadPost.good HGood.out rfl ⟨hx.2.1, hx.2.2.1, hx.2.2.2.1⟩ hx.2.2.2.2)
        simp [results, Tryz.results53, go_sem, y0, y1, y2, y3]
      | false =>
        have HBad := Lib.hid (HLine.out.trans (if_neg (by decide)))
        go_wp2_with fail
        have hx := HR6.out.out (a := (.slice pn x.names.length cn)) (b := (.slice pw x.widths.length cw)) (c := (.slice p2 (x.chs.length + 1) c2)) (d := .int .i64 x.last)
        generalize ((((w7.setCell ⟨W.heap.size + 1, 0, none⟩ (.slice pn x.names.length cn)).setCell ⟨W.heap.size + 1, 1, none⟩ (.slice pw x.widths.length cw)).setCell ⟨W.heap.size + 1, 2, none⟩ (.slice p2 (x.chs.length + 1) c2)).setCell ⟨W.heap.size + 1, 3, none⟩ (.int .i64 x.last)) = X at *
        obtain ⟨y0, y1, y2, y3, _, _, _, _, _⟩ := hx.1.box
        refine bodyPost_ret (v := .tuple #[.agg #[(.slice pn x.names.length cn), (.slice pw x.widths.length cw), (.slice p2 (x.chs.length + 1) c2), .int .i64 x.last], .bool false]) ?_ rfl (ReadPost.bad (y := { x with chs := x.chs ++ [⟨x.last, numR b, v⟩] }) HBad.out rfl ⟨hx.2.1, hx.2.2.1, hx.2.2.2.1⟩ hx.2.2.2.2)
        simp [results, Tryz.results53, go_sem, y0, y1, y2, y3]
    have hb' : ((c.toNat : Int) == 98) = false := u8_ne hb
    have HBad := Lib.hid (lineR_other (x := x) (r := r) hv ht hb)
    clear hv ht hb HLR
    go_wp2_with fail
    refine (HSplit.out _).mono ?_
    rintro e W2 ⟨rfl, hb2⟩
    have HR2 := Lib.hid (HST.out.later hb2)
    clear hb2 a0 a1 a2 a3 f0 f1 f2 f3 lta z0 z1 z2 z3 g0 g1 g2 g3 ltz
    obtain ⟨a0, a1, a2, a3, f0, f1, f2, f3, lta⟩ := HR2.out.r2.box
    obtain ⟨z0, z1, z2, z3, g0, g1, g2, g3, ltz⟩ := HR2.out.r4.box
    go_wp2_with fail
    have hx := HR2.out.out (a := (.slice pn x.names.length cn)) (b := (.slice pw x.widths.length cw)) (c := (.slice pc x.chs.length cc)) (d := .int .i64 x.last)
    generalize ((((W2.setCell ⟨W.heap.size + 1, 0, none⟩ (.slice pn x.names.length cn)).setCell ⟨W.heap.size + 1, 1, none⟩ (.slice pw x.widths.length cw)).setCell ⟨W.heap.size + 1, 2, none⟩ (.slice pc x.chs.length cc)).setCell ⟨W.heap.size + 1, 3, none⟩ (.int .i64 x.last)) = X at *
    obtain ⟨y0, y1, y2, y3, _, _, _, _, _⟩ := hx.1.box
    refine bodyPost_ret (v := .tuple #[.agg #[(.slice pn x.names.length cn), (.slice pw x.widths.length cw), (.slice pc x.chs.length cc), .int .i64 x.last], .bool false]) ?_ rfl (ReadPost.bad (y := x) HBad.out rfl ⟨hx.2.1, hx.2.2.1, hx.2.2.2.1⟩ hx.2.2.2.2)
    simp [results, Tryz.results53, go_sem, y0, y1, y2, y3]
end Go.Proofs.YtephnfhjobkciaaGreatDoor

/- The wave of a text: what the reference's Get holds. -/
namespace Go.Proofs.Wav
set_option linter.unusedVariables false
theorem linesOf_snoc : ∀ (s : Ln) (c : UInt8), linesOf (s ++ [c]) = if c = 10 then ((linesOf s).1 ++ [(linesOf s).2], []) else ((linesOf s).1, (linesOf s).2 ++ [c])
  | [], c => by
    by_cases h : c = 10
    · subst h; rfl
    · rw [if_neg h, List.nil_append]
      show (if c = 10 then _ else _) = _
      rw [if_neg h]; rfl
  | d :: r, c => by
    have ih := linesOf_snoc r c
    rw [List.cons_append]
    by_cases hd : d = 10
    · rw [linesOf, if_pos hd, ih, linesOf, if_pos hd]
      by_cases h : c = 10
      · rw [if_pos h, if_pos h]; rfl
      · rw [if_neg h, if_neg h]
    · rw [linesOf, if_neg hd, ih, linesOf, if_neg hd]
      rcases e : linesOf r with ⟨_ | ⟨l, ls⟩, t⟩
      · by_cases h : c = 10
        · simp [h]
        · simp [h]
      · by_cases h : c = 10
        · simp [h]
        · simp [h]
/-- how big what the reference has read can be -/
structure LimR (k m : Nat) (x : Wv) : Prop where
  n : x.names.length ≤ k
  w : x.widths.length ≤ k
  c : x.chs.length ≤ k
  s : ∀ s ∈ x.names, s.length ≤ m
theorem LimR.more {k k' m : Nat} {x : Wv} (h : LimR k m x) (hk : k ≤ k') : LimR k' m x := ⟨Nat.le_trans h.n hk, Nat.le_trans h.w hk, Nat.le_trans h.c hk, h.s⟩
theorem lineR_lim {k m : Nat} {x y : Wv} {s : Ln} (h : LimR k m x) (hs : s.length ≤ m) (hl : lineR x s = some y) : LimR (k + 1) m y := by
  obtain ⟨h1, h2, h3, h4⟩ := h
  cases s with
  | nil => cases hl
  | cons c r =>
    have hr : r.length ≤ m := by simp at hs; omega
    by_cases hv : c = 118
    · subst hv
      have hl' : (if (splitR r).1 = [97, 114] then some ({ x with names := x.names ++ [(splitR (splitR r).2).2], widths := x.widths ++ [numR (splitR (splitR r).2).1] } : Wv) else none) = some y := hl
      split at hl'
      · cases hl'
        refine ⟨by simp; omega, by simp; omega, by show x.chs.length ≤ _; omega, fun t ht => ?_⟩
        rcases List.mem_append.1 ht with h | h
        · exact h4 t h
        · rw [List.mem_singleton] at h
          rw [h]
          exact Nat.le_trans (Wav.splitR_len _).2 (Nat.le_trans (Wav.splitR_len _).2 hr)
      · cases hl'
    by_cases ht : c = 35
    · subst ht
      have hl' : (if 0 ≤ numR r then some ({ x with last := numR r } : Wv) else none) = some y := hl
      split at hl'
      · cases hl'; exact ⟨by show x.names.length ≤ _; omega, by show x.widths.length ≤ _; omega, by show x.chs.length ≤ _; omega, h4⟩
      · cases hl'
    by_cases hb : c = 98
    · subst hb
      have hl' : (if (bin2R (splitR r).1).2 = true then some ({ x with chs := x.chs ++ [⟨x.last, numR (splitR r).2, (bin2R (splitR r).1).1⟩] } : Wv) else none) = some y := hl
      split at hl'
      · cases hl'; exact ⟨by show x.names.length ≤ _; omega, by show x.widths.length ≤ _; omega, by simp; omega, h4⟩
      · cases hl'
    rw [lineR_other hv ht hb] at hl
    cases hl
/-- behind the first k bytes -/
structure GetR (b : Ln) (k f : Nat) (x : Wv) : Prop where
  hf : f ≤ k
  hk : k ≤ b.length
  rest : (linesOf (b.take k)).2 = (b.take k).drop f
  all : allR emptyW (linesOf (b.take k)).1 = some x
  lim : LimR k b.length x
theorem GetR.nil (b : Ln) : GetR b 0 0 emptyW := ⟨Nat.le_refl _, Nat.zero_le _, by simp [linesOf], by simp [linesOf, allR], ⟨Nat.le_refl _, Nat.le_refl _, Nat.le_refl _, fun s h => by cases h⟩⟩
theorem GetR.step {b : Ln} {k f : Nat} {x : Wv} (h : GetR b k f x) (hk : k < b.length) (hc : ¬ b[k] = 10) : GetR b (k + 1) f x := by
  have e := linesOf_snoc (b.take k) b[k]
  rw [if_neg hc, ← List.take_succ_eq_append_getElem hk] at e
  refine ⟨by have := h.hf; omega, hk, ?_, by rw [e]; exact h.all, h.lim.more (Nat.le_succ _)⟩
  rw [e, List.take_succ_eq_append_getElem hk]
  simp only
  rw [h.rest, List.drop_append_of_le_length (by rw [List.length_take]; have := h.hf; omega)]
theorem GetR.line {b : Ln} {k f : Nat} {x y : Wv} (h : GetR b k f x) (hk : k < b.length) (hc : b[k] = 10) (hl : lineR x ((b.take k).drop f) = some y) : GetR b (k + 1) (k + 1) y := by
  have e := linesOf_snoc (b.take k) b[k]
  rw [if_pos hc, ← List.take_succ_eq_append_getElem hk] at e
  refine ⟨Nat.le_refl _, hk, ?_, ?_, lineR_lim h.lim (by simp; omega) hl⟩
  · rw [e, List.drop_of_length_le (by simp; omega)]
  · rw [e]
    simp only
    rw [allR_append, h.all]
    simp only [allR]
    rw [h.rest, hl]
theorem lines_pre : ∀ (t s : Ln), ∃ m, (linesOf (s ++ t)).1 = (linesOf s).1 ++ m
  | [], s => ⟨[], by simp⟩
  | c :: t, s => by
    obtain ⟨m, hm⟩ := lines_pre t (s ++ [c])
    rw [List.append_assoc, List.singleton_append] at hm
    rw [hm, linesOf_snoc]
    by_cases h : c = 10
    · rw [if_pos h]
      exact ⟨[(linesOf s).2] ++ m, by simp⟩
    · rw [if_neg h]
      exact ⟨m, rfl⟩
theorem GetR.bad {b : Ln} {k f : Nat} {x : Wv} (h : GetR b k f x) (hk : k < b.length) (hc : b[k] = 10) (hl : lineR x ((b.take k).drop f) = none) : getR b = none := by
  have e := linesOf_snoc (b.take k) b[k]
  rw [if_pos hc, ← List.take_succ_eq_append_getElem hk] at e
  obtain ⟨m, hm⟩ := lines_pre (b.drop (k + 1)) (b.take (k + 1))
  rw [List.take_append_drop, e] at hm
  unfold getR
  rw [hm, allR_append, allR_append, h.all]
  simp only [allR]
  rw [h.rest, hl]
theorem GetR.done {b : Ln} {f : Nat} {x : Wv} (h : GetR b b.length f x) : getR b = if checkW x = 0 ∧ (putW x).length ≤ 65536 ∧ putW x = b then some x else none := by
  have e := h.all
  rw [List.take_length] at e
  unfold getR
  rw [e]
end Go.Proofs.Wav
namespace Go.Proofs.YtephnfhjobkciaaGreatDoor
open Go.RowKit Go.Proofs.Wav Go.Proofs.Scn Go.Flow Go.Sort Go.Cal
set_option linter.unusedVariables false
set_option linter.unusedSimpArgs false
set_option maxRecDepth 100000
/-- the result's box, the wave's box and its rows -/
structure Gg (W : World) (x : Wv) (vn vw vc : Value) (w : World) : Prop where
  r2 : WBox w W.heap.size (.slice none 0 0) (.slice none 0 0) (.slice none 0 0) (.int .i64 0)
  r4 : WBox w (W.heap.size + 1) vn vw vc (.int .i64 x.last)
  own : Own3 (W.heap.size + 2) w vn vw vc x
  sz : W.heap.size + 2 ≤ w.heap.size
  bel : Below W.heap.size W w
theorem Own3.later {B : Nat} {w w' : World} {vn vw vc : Value} {x : Wv} (h : Own3 B w vn vw vc x) (hb : Below w.heap.size w w') : Own3 B w' vn vw vc x := ⟨row_later h.1 hb, row_later h.2.1 hb, row_later h.2.2 hb⟩
theorem Own3.set {B q o : Nat} {w : World} {vn vw vc a b c d u : Value} {x : Wv} (h : Own3 B w vn vw vc x) (hq : WBox w q a b c d) : Own3 B (w.setCell ⟨q, o, none⟩ u) vn vw vc x := ⟨row_set h.1 hq (by decide) o u, row_set h.2.1 hq (by decide) o u, row_set h.2.2 hq (by decide) o u⟩
theorem Own3.set4 {B q : Nat} {w : World} {vn vw vc a b c d a' b' c' d' : Value} {x : Wv} (h : Own3 B w vn vw vc x) (hq : WBox w q a b c d) : Own3 B ((((w.setCell ⟨q, 0, none⟩ a').setCell ⟨q, 1, none⟩ b').setCell ⟨q, 2, none⟩ c').setCell ⟨q, 3, none⟩ d') vn vw vc x := by
  have b0 : WBox (w.setCell ⟨q, 0, none⟩ a') q a' b c d := WBox.set hq 0 a'
  have b1 : WBox ((w.setCell ⟨q, 0, none⟩ a').setCell ⟨q, 1, none⟩ b') q a' b' c d := WBox.set b0 1 b'
  have b2 : WBox (((w.setCell ⟨q, 0, none⟩ a').setCell ⟨q, 1, none⟩ b').setCell ⟨q, 2, none⟩ c') q a' b' c' d := WBox.set b1 2 c'
  exact (((h.set hq).set b0).set b1).set b2
theorem wb_set4 {w : World} {R q : Nat} {a b c d a' b' c' d' : Value} (h : WBox w R a b c d) (hne : R ≠ q) : WBox ((((w.setCell ⟨q, 0, none⟩ a').setCell ⟨q, 1, none⟩ b').setCell ⟨q, 2, none⟩ c').setCell ⟨q, 3, none⟩ d') R a b c d := wb_set (wb_set (wb_set (wb_set h hne) hne) hne) hne
theorem Gg.later {W : World} {x : Wv} {vn vw vc : Value} {w w' : World} (h : Gg W x vn vw vc w) (hb : Below w.heap.size w w') : Gg W x vn vw vc w' :=
  ⟨h.r2.later hb, h.r4.later hb, h.own.later hb, Nat.le_trans h.sz hb.size, h.bel.trans (hb.mono h.bel.size)⟩
theorem Gg.start (W : World) : Gg W emptyW (.slice none 0 0) (.slice none 0 0) (.slice none 0 0) ((W.alloc (.cells #[.slice none 0 0, .slice none 0 0, .slice none 0 0, .int .i64 0] 26)).alloc (.cells #[.slice none 0 0, .slice none 0 0, .slice none 0 0, .int .i64 (-1)] 26)) := by
  have b0 := WBox.new W (.slice none 0 0) (.slice none 0 0) (.slice none 0 0) (.int .i64 0)
  have b1 := WBox.new (W.alloc (.cells #[.slice none 0 0, .slice none 0 0, .slice none 0 0, .int .i64 0] 26)) (.slice none 0 0) (.slice none 0 0) (.slice none 0 0) (.int .i64 (-1))
  rw [World.size_alloc] at b1
  exact ⟨b0.later ((Below.refl _ _).alloc (Nat.le_refl _) _), b1, ⟨World.ownsRow_nil _ _ _ _, World.ownsRow_nil _ _ _ _, World.ownsRow_nil _ _ _ _⟩, by simp, ((Below.refl _ _).alloc (Nat.le_refl _) _).alloc (by simp) _⟩
/-- the boxes behind a call of read -/
structure Gr (W : World) (x y : Wv) (vn vw vc vn' vw' vc' : Value) (w : World) : Prop where
  r2 : WBox w W.heap.size (.slice none 0 0) (.slice none 0 0) (.slice none 0 0) (.int .i64 0)
  r4 : WBox w (W.heap.size + 1) vn vw vc (.int .i64 x.last)
  own : Own3 (W.heap.size + 2) w vn' vw' vc' y
  sz : W.heap.size + 2 ≤ w.heap.size
  bel : Below W.heap.size W w
theorem Gg.read {W : World} {x y : Wv} {vn vw vc vn' vw' vc' : Value} {w w' : World} (h : Gg W x vn vw vc w) (ho : Own3 (W.heap.size + 2) w' vn' vw' vc' y) (hb : Below (W.heap.size + 2) w w') : Gr W x y vn vw vc vn' vw' vc' w' :=
  ⟨(hb.block _ (by omega)).trans h.r2, (hb.block _ (by omega)).trans h.r4, ho, Nat.le_trans h.sz hb.size, h.bel.trans (hb.mono (by omega))⟩
theorem Gr.later {W : World} {x y : Wv} {vn vw vc vn' vw' vc' : Value} {w w' : World} (h : Gr W x y vn vw vc vn' vw' vc' w) (hb : Below w.heap.size w w') : Gr W x y vn vw vc vn' vw' vc' w' :=
  ⟨h.r2.later hb, h.r4.later hb, h.own.later hb, Nat.le_trans h.sz hb.size, h.bel.trans (hb.mono h.bel.size)⟩
/-- a box beyond the two is filled -/
theorem Gr.fill {W : World} {x y : Wv} {vn vw vc vn' vw' vc' : Value} {w : World} {q : Nat} {a b c d a' b' c' d' : Value} (h : Gr W x y vn vw vc vn' vw' vc' w) (hq : WBox w q a b c d) (hB : W.heap.size + 2 ≤ q) :
    Gr W x y vn vw vc vn' vw' vc' ((((w.setCell ⟨q, 0, none⟩ a').setCell ⟨q, 1, none⟩ b').setCell ⟨q, 2, none⟩ c').setCell ⟨q, 3, none⟩ d') ∧ WBox ((((w.setCell ⟨q, 0, none⟩ a').setCell ⟨q, 1, none⟩ b').setCell ⟨q, 2, none⟩ c').setCell ⟨q, 3, none⟩ d') q a' b' c' d' :=
  ⟨⟨wb_set4 h.r2 (by omega), wb_set4 h.r4 (by omega), h.own.set4 hq, by simp only [World.size_setCell]; exact h.sz, wbel4 h.bel (by omega)⟩, wset4 hq⟩
theorem Gr.turn {W : World} {x y : Wv} {vn vw vc vn' vw' vc' : Value} {w : World} (h : Gr W x y vn vw vc vn' vw' vc' w) :
    Gg W y vn' vw' vc' ((((w.setCell ⟨W.heap.size + 1, 0, none⟩ vn').setCell ⟨W.heap.size + 1, 1, none⟩ vw').setCell ⟨W.heap.size + 1, 2, none⟩ vc').setCell ⟨W.heap.size + 1, 3, none⟩ (.int .i64 y.last)) :=
  ⟨wb_set4 h.r2 (by omega), wset4 h.r4, h.own.set4 h.r4, by simp only [World.size_setCell]; exact h.sz, wbel4 h.bel (by omega)⟩
/-- how the reference's Get ends -/
def RGetPost (b : Ln) (W : World) (e : Ending) (W' : World) : Prop :=
  (if 65536 < b.length then e = .returned (.tuple #[.agg #[.slice none 0 0, .slice none 0 0, .slice none 0 0, .int .i64 0], .int .i64 2]) else
    match getP b with
    | none => e = .returned (.tuple #[.agg #[.slice none 0 0, .slice none 0 0, .slice none 0 0, .int .i64 0], .int .i64 160])
    | some x => ∃ vn vw vc, e = .returned (.tuple #[.agg #[vn, vw, vc, .int .i64 x.last], .int .i64 0]) ∧ WavAt W' vn vw vc x) ∧
  Below W.heap.size W W'
/-- part of the bytes -/
theorem bytes_part {w : World} {g o c k f : Nat} {b : Ln} (hb : ∀ j (h : j < (bs b).size), w.cell? ⟨g, o + j, none⟩ = some (.int .u8 (bs b)[j].toNat)) (hg : g < w.heap.size) (hk : k ≤ b.length) (hf : f ≤ k) :
    Bytes w (.slice (some ⟨g, o + f, none⟩) (k - f) c) (bs ((b.take k).drop f)) := by
  have hs : (bs ((b.take k).drop f)).size = k - f := by rw [size_bs]; simp; omega
  refine .inr ⟨g, o + f, c, by rw [hs], hg, fun j hj => ?_⟩
  rw [hs] at hj
  rw [Nat.add_assoc, hb (f + j) (by rw [size_bs]; omega)]
  have hj2 : j < ((b.take k).drop f).length := by simp; omega
  have hj3 : f + j < b.length := by omega
  have e : ((b.take k).drop f)[j]'hj2 = b[f + j]'hj3 := by simp
  exact congrArg (fun c : UInt8 => some (Value.int .u8 (c.toNat : Int))) e.symm
end Go.Proofs.YtephnfhjobkciaaGreatDoor

/- The wave of a text: the reference's Get. -/
namespace Go.Proofs.YtephnfhjobkciaaGreatDoor
open Go.RowKit Go.Proofs.Wav Go.Proofs.Scn Go.Flow Go.Sort Go.Cal
set_option linter.unusedVariables false
set_option linter.unusedSimpArgs false
set_option maxRecDepth 100000

set_option maxHeartbeats 16000000 in
theorem rget_any (v : Value) (b : Ln) (hb : b.length ≤ 100000) (hcap : Capd v b.length) (W : World) (hby : Bytes W v (bs b)) :
    Calls Tryz.prog 28 #[v] W (RGetPost b W) := by
  obtain ⟨p, c, rfl, hcb⟩ := hcap
  have HBY := Lib.hid hby
  have HCells := Lib.hid (fun (h0 : 0 < b.length) => show ∃ g o, p = some ⟨g, o, none⟩ ∧ g < W.heap.size ∧ ∀ j (h : j < (bs b).size), W.cell? ⟨g, o + j, none⟩ = some (.int .u8 (bs b)[j].toNat) from by
    rcases hby with ⟨h1, _⟩ | ⟨g, o, c', hv, h2, h3⟩
    · rw [size_bs] at h1; omega
    · simp only [Value.slice.injEq] at hv
      exact ⟨g, o, hv.1, h2, h3⟩)
  clear hby
  by_cases hbig : 65536 < b.length
  · have hbig' : decide (65536 < b.length) = true := decide_eq_true hbig
    go_enter Tryz.func28, Tryz.ntmps28
    go_wp2_with fail
    have hx := WBox.new W (.slice none 0 0) (.slice none 0 0) (.slice none 0 0) (.int .i64 0)
    have hbl := (Below.refl W.heap.size W).alloc (Nat.le_refl _) (.cells #[.slice none 0 0, .slice none 0 0, .slice none 0 0, .int .i64 0] 26)
    generalize W.alloc (.cells #[.slice none 0 0, .slice none 0 0, .slice none 0 0, .int .i64 0] 26) = X at *
    obtain ⟨u0, u1, u2, u3, _, _, _, _, _⟩ := hx.box
    refine bodyPost_ret (v := .tuple #[.agg #[.slice none 0 0, .slice none 0 0, .slice none 0 0, .int .i64 0], .int .i64 2]) ?_ rfl ⟨by rw [if_pos hbig], hbl⟩
    simp [results, Tryz.results28, go_sem, u0, u1, u2, u3]
  have HBig := Lib.hid hbig
  have hbig' : decide (65536 < b.length) = false := decide_eq_false hbig
  have HG0 := Lib.hid (Gg.start W)
  go_enter Tryz.func28, Tryz.ntmps28
  go_wp2_with fail
  generalize ((W.alloc (.cells #[.slice none 0 0, .slice none 0 0, .slice none 0 0, .int .i64 0] 26)).alloc (.cells #[.slice none 0 0, .slice none 0 0, .slice none 0 0, .int .i64 (-1)] 26)) = Z at *
  go_loopw [5, 6] (fun fr i wr => ∃ (k f : Nat) (x : Wv) (vn vw vc : Value), fr = .int .i64 f ∧ i = .int .i64 k ∧ Hid (GetR b k f x) ∧ Hid (Gg W x vn vw vc wr)) (fun _ i _ => b.length - (intOf i).toNat)
  case atStart => exact ⟨0, 0, emptyW, _, _, _, rfl, rfl, Lib.hid (GetR.nil b), HG0⟩
  case round =>
    obtain ⟨k, f, x, vn, vw, vc, rfl, rfl, hR, HG⟩ := hrel
    by_cases hkl : k < b.length
    · obtain ⟨g, o, rfl, hgl, hcells⟩ := HCells.out (by omega)
      have hck := (HG.out.bel.cell (p := ⟨g, o + k, none⟩) hgl).trans (hcells k (by rw [size_bs]; exact hkl))
      have HCell := Lib.hid hcells
      have hbk : (bs b)[k]'(by rw [size_bs]; exact hkl) = b[k] := rfl
      rw [hbk] at hck
      clear hcells hbk
      by_cases hc10 : b[k] = 10
      · have hll : ((b.take k).drop f).length ≤ 100000 := by simp; omega
        obtain ⟨pn, cn, rfl⟩ := row_form HG.out.own.1
        obtain ⟨pw, cw, rfl⟩ := row_form HG.out.own.2.1
        obtain ⟨pc, cc, rfl⟩ := row_form HG.out.own.2.2
        have hf0 := hR.out.hf
        generalize hline : (b.take k).drop f = line at *
        have hc10' := congrArg UInt8.toNat hc10
        have hcv : ((b[k].toNat : Int) != 10) = false := by rw [hc10]; rfl
        have hfk : (f : Int) ≤ (k : Int) := by omega
        have hkc : (k : Int) ≤ (c : Int) := by omega
        have hfc : ¬ c = f := by omega
        subst hline
        clear hc10'
        go_wp2_with fail
        refine region_w (fun w => w.cell? ⟨W.heap.size + 1, 0, none⟩ = some (.slice pn x.names.length cn) ∧ w.cell? ⟨W.heap.size + 1, 1, none⟩ = some (.slice pw x.widths.length cw) ∧ w.cell? ⟨W.heap.size + 1, 2, none⟩ = some (.slice pc x.chs.length cc) ∧ w.cell? ⟨W.heap.size + 1, 3, none⟩ = some (.int .i64 x.last) ∧ Bytes w (.slice (some ⟨g, o + f, none⟩) (k - f) (c - f)) (bs ((b.take k).drop f))) [11] (by kernel_rfl) ?_
        have HGd := Lib.hid (HG.out.later (Below.refl _ _).drew)
        generalize World.drew _ = w0 at *
        have HSx := Lib.hid (fun (w : World) (h4 : WBox w (W.heap.size + 1) (.slice pn x.names.length cn) (.slice pw x.widths.length cw) (.slice pc x.chs.length cc) (.int .i64 x.last)) (hb : Below W.heap.size W w) => (show w.cell? ⟨W.heap.size + 1, 0, none⟩ = some (.slice pn x.names.length cn) ∧ w.cell? ⟨W.heap.size + 1, 1, none⟩ = some (.slice pw x.widths.length cw) ∧ w.cell? ⟨W.heap.size + 1, 2, none⟩ = some (.slice pc x.chs.length cc) ∧ w.cell? ⟨W.heap.size + 1, 3, none⟩ = some (.int .i64 x.last) ∧ Bytes w (.slice (some ⟨g, o + f, none⟩) (k - f) (c - f)) (bs ((b.take k).drop f)) from ⟨h4.box.c0, h4.box.c1, h4.box.c2, h4.box.c3, bytes_part (fun j hj => (hb.cell (p := ⟨g, o + j, none⟩) hgl).trans (HCell.out j hj)) (Nat.lt_of_lt_of_le hgl hb.size) hR.out.hk hR.out.hf⟩))
        have hS0 := HSx.out w0 HGd.out.r4 HGd.out.bel
        refine AnyW.takeS (i := 0) (v := ?v1) (by kernel_rfl) rfl (by kernel_rfl) (by kernel_rfl) (by kernel_rfl) (by kernel_rfl) (by kernel_rfl) (fun _ _ _ h => h) (by rfl) ?hy1 hS0 ?rest1
        case hy1 => intro w hSw; obtain ⟨hs0, hs1, hs2, hs3, hs4⟩ := hSw; go_simp <;> with_reducible rfl
        simp only [Act.put, List.setIfInBounds_toArray, List.set_cons_zero, List.set_cons_succ]
        refine AnyW.take (i := 1) (v := ?v2) (by kernel_rfl) rfl (by kernel_rfl) (by kernel_rfl) (by kernel_rfl) (fun _ _ _ h => h) (by rfl) ?hy2 hS0 ?rest2
        case hy2 => intro w; go_simp <;> with_reducible rfl
        simp only [Act.put, List.setIfInBounds_toArray, List.set_cons_zero, List.set_cons_succ]
        refine AnyW.take (i := 2) (v := ?v3) (by kernel_rfl) rfl (by kernel_rfl) (by kernel_rfl) (by kernel_rfl) (fun _ _ _ h => h) (by rfl) ?hy3 hS0 ?rest3
        case hy3 => intro w; go_simp <;> with_reducible rfl
        simp only [Act.put, List.setIfInBounds_toArray, List.set_cons_zero, List.set_cons_succ]
        refine AnyW.take (i := 3) (v := ?v4) (by kernel_rfl) rfl (by kernel_rfl) (by kernel_rfl) (by kernel_rfl) (fun _ _ _ h => h) (by rfl) ?hy4 hS0 ?rest4
        case hy4 => intro w; go_simp <;> with_reducible rfl
        simp only [Act.put, List.setIfInBounds_toArray, List.set_cons_zero, List.set_cons_succ]
        refine AnyW.take (i := 4) (v := ?v5) (by kernel_rfl) rfl (by kernel_rfl) (by kernel_rfl) (by kernel_rfl) (fun _ _ _ h => h) (by rfl) ?hy5 hS0 ?rest5
        case hy5 => intro w; go_simp <;> with_reducible rfl
        simp only [Act.put, List.setIfInBounds_toArray, List.set_cons_zero, List.set_cons_succ]
        refine AnyW.takeS (i := 5) (v := ?v6) (by kernel_rfl) rfl (by kernel_rfl) (by kernel_rfl) (by kernel_rfl) (by kernel_rfl) (by kernel_rfl) (fun _ _ _ h => h) (by rfl) ?hy6 hS0 ?rest6
        case hy6 => intro w hSw; obtain ⟨hs0, hs1, hs2, hs3, hs4⟩ := hSw; have hs5 := str_run hs4; go_simp <;> with_reducible rfl
        simp only [Act.put, List.setIfInBounds_toArray, List.set_cons_zero, List.set_cons_succ]
        clear hS0
        have HCall := Lib.hid (fun w (h : Gg W x (.slice pn x.names.length cn) (.slice pw x.widths.length cw) (.slice pc x.chs.length cc) w) => rread_any (W.heap.size + 2) (.slice pn x.names.length cn) (.slice pw x.widths.length cw) (.slice pc x.chs.length cc) x ((b.take k).drop f) hll (by have := hR.out.lim.n; have := hR.out.hk; omega) (by have := hR.out.lim.w; have := hR.out.hk; omega) (by have := hR.out.lim.c; have := hR.out.hk; omega) w h.sz h.own)
        refine AnyW.nx2 (i := 6) (j := 10) (by kernel_rfl) ?_ ?_
        · refine NxW.call rfl (by rfl) ?hr7 (HCall.out w0 HGd.out) ?hk7
          case hr7 => go_simp <;> with_reducible rfl
          rintro e w1 ⟨⟨vn', vw', vc', y, rfl, ho, hy⟩, hb, hkp⟩
          have HY := Lib.hid hy
          have HRr := Lib.hid (HGd.out.read ho hb)
          clear hy ho hb hkp
          obtain ⟨pn', cn', rfl⟩ := row_form HRr.out.own.1
          obtain ⟨pw', cw', rfl⟩ := row_form HRr.out.own.2.1
          obtain ⟨pc', cc', rfl⟩ := row_form HRr.out.own.2.2
          have hS1 := HSx.out w1 HRr.out.r4 HRr.out.bel
          refine ⟨_, rfl, Stt.of hS1, ?_⟩
          simp only [Act.put, List.setIfInBounds_toArray, List.set_cons_zero, List.set_cons_succ]
          refine AnyW.take (i := 7) (v := ?v8) (by kernel_rfl) rfl (by kernel_rfl) (by kernel_rfl) (by kernel_rfl) (fun _ _ _ h => h) (by rfl) ?hy8 hS1 ?rest8
          case hy8 => intro w; go_simp <;> with_reducible rfl
          simp only [Act.put, List.setIfInBounds_toArray, List.set_cons_zero, List.set_cons_succ]
          refine AnyW.take (i := 8) (v := ?v9) (by kernel_rfl) rfl (by kernel_rfl) (by kernel_rfl) (by kernel_rfl) (fun _ _ _ h => h) (by rfl) ?hy9 hS1 ?rest9
          case hy9 => intro w; go_simp <;> with_reducible rfl
          simp only [Act.put, List.setIfInBounds_toArray, List.set_cons_zero, List.set_cons_succ]
          refine AnyW.take (i := 9) (v := ?v10) (by kernel_rfl) rfl (by kernel_rfl) (by kernel_rfl) (by kernel_rfl) (fun _ _ _ h => h) (by rfl) ?hy10 hS1 ?rest10
          case hy10 => intro w; go_simp <;> with_reducible rfl
          simp only [Act.put, List.setIfInBounds_toArray, List.set_cons_zero, List.set_cons_succ]
          clear hS1
          have HRq := Lib.hid (HRr.out.later ((Below.refl _ _).alloc (Nat.le_refl _) (.cells #[.slice none 0 0, .slice none 0 0, .slice none 0 0, .int .i64 0] 26)))
          have HQ := Lib.hid (WBox.new w1 (.slice none 0 0) (.slice none 0 0) (.slice none 0 0) (.int .i64 0))
          have HQB := Lib.hid HRr.out.sz
          refine AnyW.nx1 (i := 10) (by kernel_rfl) ?_
          refine NxW.val (v := ?v11) (w' := w1.alloc (.cells #[.slice none 0 0, .slice none 0 0, .slice none 0 0, .int .i64 0] 26)) rfl (by rfl) ?hr11 (Stt.of (HSx.out _ HRq.out.r4 HRq.out.bel)) ?hk11
          case hr11 => go_simp <;> with_reducible rfl
          simp only [Act.put, List.setIfInBounds_toArray, List.set_cons_zero, List.set_cons_succ]
          obtain ⟨q, hq⟩ : ∃ q, q = w1.heap.size := ⟨_, rfl⟩
          rw [← hq] at HQ HQB ⊢
          clear hq
          generalize w1.alloc (.cells #[.slice none 0 0, .slice none 0 0, .slice none 0 0, .int .i64 0] 26) = w2 at *
          obtain ⟨y0, y1, y2, y3, k0, k1, k2, k3, lty⟩ := HQ.out.box
          obtain ⟨hfi, hbx⟩ := HRq.out.fill (a' := .slice pn' y.names.length cn') (b' := .slice pw' y.widths.length cw') (c' := .slice pc' y.chs.length cc') (d' := .int .i64 y.last) HQ.out HQB.out
          refine AnyW.nx1 (i := 11) (by kernel_rfl) ?_
          refine NxW.skip (w' := ((((w2.setCell ⟨q, 0, none⟩ (.slice pn' y.names.length cn')).setCell ⟨q, 1, none⟩ (.slice pw' y.widths.length cw')).setCell ⟨q, 2, none⟩ (.slice pc' y.chs.length cc')).setCell ⟨q, 3, none⟩ (.int .i64 y.last))) rfl (by rfl) ?hr17 (Stt.past (by kernel_rfl)) ?hk17
          case hr17 => go_simp <;> with_reducible rfl
          simp only [Act.put, List.setIfInBounds_toArray, List.set_cons_zero, List.set_cons_succ]
          refine AnyW.nx1 (i := 12) (by kernel_rfl) ?_
          refine NxW.val (v := ?v18) (w' := ((((w2.setCell ⟨q, 0, none⟩ (.slice pn' y.names.length cn')).setCell ⟨q, 1, none⟩ (.slice pw' y.widths.length cw')).setCell ⟨q, 2, none⟩ (.slice pc' y.chs.length cc')).setCell ⟨q, 3, none⟩ (.int .i64 y.last))) rfl (by rfl) ?hr18 (Stt.past (by kernel_rfl)) ?hk18
          case hr18 => go_simp <;> with_reducible rfl
          simp only [Act.put, List.setIfInBounds_toArray, List.set_cons_zero, List.set_cons_succ]
          refine AnyW.done (by kernel_rfl) ?_ _
          have HF := Lib.hid hfi
          have HX := Lib.hid hbx
          clear hfi hbx y0 y1 y2 y3 k0 k1 k2 k3 lty
          generalize ((((w2.setCell ⟨q, 0, none⟩ (.slice pn' y.names.length cn')).setCell ⟨q, 1, none⟩ (.slice pw' y.widths.length cw')).setCell ⟨q, 2, none⟩ (.slice pc' y.chs.length cc')).setCell ⟨q, 3, none⟩ (.int .i64 y.last)) = w9 at *
          obtain ⟨a0, a1, a2, a3, f0, f1, f2, f3, lta⟩ := HF.out.r4.box
          obtain ⟨y0, y1, y2, y3, k0, k1, k2, k3, lty⟩ := HX.out.box
          obtain ⟨z0, z1, z2, z3, g0, g1, g2, g3, ltz⟩ := HF.out.r2.box
          cases hL : lineR x ((b.take k).drop f) with
          | none =>
            have HNone := Lib.hid ((getP_getR b).trans (hR.out.bad hkl hc10 hL))
            clear hL
            simp only [Option.isSome_none]
            go_wp2_with fail
            have hx := wset4 (a' := .slice none 0 0) (b' := .slice none 0 0) (c' := .slice none 0 0) (d' := .int .i64 0) HF.out.r2
            have hbl := wbel4 (a' := .slice none 0 0) (b' := .slice none 0 0) (c' := .slice none 0 0) (d' := .int .i64 0) HF.out.bel (Nat.le_refl W.heap.size)
            generalize ((((w9.setCell ⟨W.heap.size, 0, none⟩ (.slice none 0 0)).setCell ⟨W.heap.size, 1, none⟩ (.slice none 0 0)).setCell ⟨W.heap.size, 2, none⟩ (.slice none 0 0)).setCell ⟨W.heap.size, 3, none⟩ (.int .i64 0)) = X at *
            obtain ⟨u0, u1, u2, u3, _, _, _, _, _⟩ := hx.box
            refine bodyPost_ret (v := .tuple #[.agg #[.slice none 0 0, .slice none 0 0, .slice none 0 0, .int .i64 0], .int .i64 160]) ?_ rfl ⟨by rw [if_neg HBig.out, HNone.out], hbl⟩
            simp [results, Tryz.results28, go_sem, u0, u1, u2, u3]
          | some z =>
            have hzy := HY.out z hL
            subst hzy
            have HR1 := Lib.hid (hR.out.line hkl hc10 hL)
            clear hL
            simp only [Option.isSome_some]
            go_wp2_with fail
            have HG9 := Lib.hid HF.out.turn
            go_roundw
            case rel => exact ⟨k + 1, k + 1, z, _, _, _, by go_num, by go_num, HR1, HG9⟩
            case measure => simp [intOf]; omega
        · have HGa := Lib.hid (HGd.out.later ((Below.refl _ _).alloc (Nat.le_refl _) (.cells #[.slice none 0 0, .slice none 0 0, .slice none 0 0, .int .i64 0] 26)))
          have HQ0 := Lib.hid (WBox.new w0 (.slice none 0 0) (.slice none 0 0) (.slice none 0 0) (.int .i64 0))
          have HQB := Lib.hid HGd.out.sz
          refine NxW.val (v := ?v12) (w' := w0.alloc (.cells #[.slice none 0 0, .slice none 0 0, .slice none 0 0, .int .i64 0] 26)) rfl (by rfl) ?hr12 (Stt.of (HSx.out _ HGa.out.r4 HGa.out.bel)) ?hk12
          case hr12 => go_simp <;> with_reducible rfl
          simp only [Act.put, List.setIfInBounds_toArray, List.set_cons_zero, List.set_cons_succ]
          obtain ⟨q, hq⟩ : ∃ q, q = w0.heap.size := ⟨_, rfl⟩
          rw [← hq] at HQ0 HQB ⊢
          clear hq
          generalize w0.alloc (.cells #[.slice none 0 0, .slice none 0 0, .slice none 0 0, .int .i64 0] 26) = w1 at *
          refine AnyW.nx1 (i := 6) (by kernel_rfl) ?_
          refine NxW.call rfl (by rfl) ?hr13 (HCall.out w1 HGa.out) ?hk13
          case hr13 => go_simp <;> with_reducible rfl
          rintro e w2 ⟨⟨vn', vw', vc', y, rfl, ho, hy⟩, hb, hkp⟩
          have HY := Lib.hid hy
          have HRq := Lib.hid (HGa.out.read ho hb)
          have HQ := Lib.hid (show WBox w2 q (.slice none 0 0) (.slice none 0 0) (.slice none 0 0) (.int .i64 0) from hkp.2 q _ _ HQ0.out)
          clear hy ho hb hkp
          obtain ⟨pn', cn', rfl⟩ := row_form HRq.out.own.1
          obtain ⟨pw', cw', rfl⟩ := row_form HRq.out.own.2.1
          obtain ⟨pc', cc', rfl⟩ := row_form HRq.out.own.2.2
          have hS1 := HSx.out w2 HRq.out.r4 HRq.out.bel
          refine ⟨_, rfl, Stt.of hS1, ?_⟩
          simp only [Act.put, List.setIfInBounds_toArray, List.set_cons_zero, List.set_cons_succ]
          refine AnyW.take (i := 7) (v := ?v14) (by kernel_rfl) rfl (by kernel_rfl) (by kernel_rfl) (by kernel_rfl) (fun _ _ _ h => h) (by rfl) ?hy14 hS1 ?rest14
          case hy14 => intro w; go_simp <;> with_reducible rfl
          simp only [Act.put, List.setIfInBounds_toArray, List.set_cons_zero, List.set_cons_succ]
          refine AnyW.take (i := 8) (v := ?v15) (by kernel_rfl) rfl (by kernel_rfl) (by kernel_rfl) (by kernel_rfl) (fun _ _ _ h => h) (by rfl) ?hy15 hS1 ?rest15
          case hy15 => intro w; go_simp <;> with_reducible rfl
          simp only [Act.put, List.setIfInBounds_toArray, List.set_cons_zero, List.set_cons_succ]
          refine AnyW.take (i := 9) (v := ?v16) (by kernel_rfl) rfl (by kernel_rfl) (by kernel_rfl) (by kernel_rfl) (fun _ _ _ h => h) (by rfl) ?hy16 hS1 ?rest16
          case hy16 => intro w; go_simp <;> with_reducible rfl
          simp only [Act.put, List.setIfInBounds_toArray, List.set_cons_zero, List.set_cons_succ]
          clear hS1
          obtain ⟨y0, y1, y2, y3, k0, k1, k2, k3, lty⟩ := HQ.out.box
          obtain ⟨hfi, hbx⟩ := HRq.out.fill (a' := .slice pn' y.names.length cn') (b' := .slice pw' y.widths.length cw') (c' := .slice pc' y.chs.length cc') (d' := .int .i64 y.last) HQ.out HQB.out
          refine AnyW.nx1 (i := 11) (by kernel_rfl) ?_
          refine NxW.skip (w' := ((((w2.setCell ⟨q, 0, none⟩ (.slice pn' y.names.length cn')).setCell ⟨q, 1, none⟩ (.slice pw' y.widths.length cw')).setCell ⟨q, 2, none⟩ (.slice pc' y.chs.length cc')).setCell ⟨q, 3, none⟩ (.int .i64 y.last))) rfl (by rfl) ?hr19 (Stt.past (by kernel_rfl)) ?hk19
          case hr19 => go_simp <;> with_reducible rfl
          simp only [Act.put, List.setIfInBounds_toArray, List.set_cons_zero, List.set_cons_succ]
          refine AnyW.nx1 (i := 12) (by kernel_rfl) ?_
          refine NxW.val (v := ?v20) (w' := ((((w2.setCell ⟨q, 0, none⟩ (.slice pn' y.names.length cn')).setCell ⟨q, 1, none⟩ (.slice pw' y.widths.length cw')).setCell ⟨q, 2, none⟩ (.slice pc' y.chs.length cc')).setCell ⟨q, 3, none⟩ (.int .i64 y.last))) rfl (by rfl) ?hr20 (Stt.past (by kernel_rfl)) ?hk20
          case hr20 => go_simp <;> with_reducible rfl
          simp only [Act.put, List.setIfInBounds_toArray, List.set_cons_zero, List.set_cons_succ]
          refine AnyW.done (by kernel_rfl) ?_ _
          have HF := Lib.hid hfi
          have HX := Lib.hid hbx
          clear hfi hbx y0 y1 y2 y3 k0 k1 k2 k3 lty
          generalize ((((w2.setCell ⟨q, 0, none⟩ (.slice pn' y.names.length cn')).setCell ⟨q, 1, none⟩ (.slice pw' y.widths.length cw')).setCell ⟨q, 2, none⟩ (.slice pc' y.chs.length cc')).setCell ⟨q, 3, none⟩ (.int .i64 y.last)) = w9 at *
          obtain ⟨a0, a1, a2, a3, f0, f1, f2, f3, lta⟩ := HF.out.r4.box
          obtain ⟨y0, y1, y2, y3, k0, k1, k2, k3, lty⟩ := HX.out.box
          obtain ⟨z0, z1, z2, z3, g0, g1, g2, g3, ltz⟩ := HF.out.r2.box
          cases hL : lineR x ((b.take k).drop f) with
          | none =>
            have HNone := Lib.hid ((getP_getR b).trans (hR.out.bad hkl hc10 hL))
            clear hL
            simp only [Option.isSome_none]
            go_wp2_with fail
            have hx := wset4 (a' := .slice none 0 0) (b' := .slice none 0 0) (c' := .slice none 0 0) (d' := .int .i64 0) HF.out.r2
            have hbl := wbel4 (a' := .slice none 0 0) (b' := .slice none 0 0) (c' := .slice none 0 0) (d' := .int .i64 0) HF.out.bel (Nat.le_refl W.heap.size)
            generalize ((((w9.setCell ⟨W.heap.size, 0, none⟩ (.slice none 0 0)).setCell ⟨W.heap.size, 1, none⟩ (.slice none 0 0)).setCell ⟨W.heap.size, 2, none⟩ (.slice none 0 0)).setCell ⟨W.heap.size, 3, none⟩ (.int .i64 0)) = X at *
            obtain ⟨u0, u1, u2, u3, _, _, _, _, _⟩ := hx.box
            refine bodyPost_ret (v := .tuple #[.agg #[.slice none 0 0, .slice none 0 0, .slice none 0 0, .int .i64 0], .int .i64 160]) ?_ rfl ⟨by rw [if_neg HBig.out, HNone.out], hbl⟩
            simp [results, Tryz.results28, go_sem, u0, u1, u2, u3]
          | some z =>
            have hzy := HY.out z hL
            subst hzy
            have HR1 := Lib.hid (hR.out.line hkl hc10 hL)
            clear hL
            simp only [Option.isSome_some]
            go_wp2_with fail
            have HG9 := Lib.hid HF.out.turn
            go_roundw
            case rel => exact ⟨k + 1, k + 1, z, _, _, _, by go_num, by go_num, HR1, HG9⟩
            case measure => simp [intOf]; omega
      · have hcv : ((b[k].toNat : Int) != 10) = true := by
          rw [bne_iff_ne]
          intro e
          exact hc10 (UInt8.toNat_inj.1 (by have : (10 : UInt8).toNat = 10 := rfl; omega))
        have HR1 := Lib.hid (hR.out.step hkl hc10)
        go_wp2_with fail
        go_roundw
        case rel => exact ⟨k + 1, f, x, vn, vw, vc, rfl, by go_num, HR1, HG⟩
        case measure => simp [intOf]; omega
    · have hkk : k = b.length := by have := hR.out.hk; omega
      subst hkk
      have hdone := (getP_getR b).trans hR.out.done
      have HD := Lib.hid hdone
      have hsm : Small x := ⟨Nat.le_trans hR.out.lim.n hb, Nat.le_trans hR.out.lim.w hb, Nat.le_trans hR.out.lim.c hb, fun s hs => Nat.le_trans (hR.out.lim.s s hs) hb⟩
      have HPut := Lib.hid (rput_any vn vw vc x hsm wr ⟨Slc.own HG.out.own.1, Slc.own HG.out.own.2.1, Slc.own HG.out.own.2.2⟩)
      obtain ⟨pn, cn, rfl⟩ := row_form HG.out.own.1
      obtain ⟨pw, cw, rfl⟩ := row_form HG.out.own.2.1
      obtain ⟨pc, cc, rfl⟩ := row_form HG.out.own.2.2
      obtain ⟨a0, a1, a2, a3, f0, f1, f2, f3, lta⟩ := HG.out.r4.box
      have hkl' : ¬ (b.length : Int) < (b.length : Int) := by omega
      clear hdone hsm
      go_wp2_with fail
      refine HPut.out.mono ?_
      rintro e W6 ⟨⟨pv, rfl, hpv⟩, hb6⟩
      have HG6 := Lib.hid (HG.out.later hb6)
      obtain ⟨a0, a1, a2, a3, f0, f1, f2, f3, lta⟩ := HG6.out.r4.box
      obtain ⟨z0, z1, z2, z3, g0, g1, g2, g3, ltz⟩ := HG6.out.r2.box
      clear hb6
      by_cases hpe : putE x = 0
      · rw [if_pos hpe] at hpv
        rw [hpe]
        have q1 := str_run hpv.bytes
        have q2 := str_run (HBY.out.later HG6.out.bel)
        have hpu : checkW x = 0 ∧ (putW x).length ≤ 65536 := by
          unfold putE at hpe
          by_cases h0 : checkW x = 0
          · rw [if_neg (by simp [h0])] at hpe
            by_cases h2 : 65536 < (putW x).length
            · rw [if_pos h2] at hpe; cases hpe
            · exact ⟨h0, by omega⟩
          · rw [if_pos h0] at hpe; exact absurd hpe h0
        have HPU := Lib.hid hpu
        clear hpe hpv hpu
        by_cases heq : putW x = b
        · have hq1 : ((bs (putW x)).toList == (bs b).toList) = true := by rw [heq]; simp
          have hq2 : ((bs (putW x)).toList != (bs b).toList) = false := by rw [heq]; simp
          have HSome := Lib.hid (HD.out.trans (if_pos ⟨HPU.out.1, HPU.out.2, heq⟩))
          clear heq
          go_wp2_with fail
          have hx := wset4 (a' := .slice pn x.names.length cn) (b' := .slice pw x.widths.length cw) (c' := .slice pc x.chs.length cc) (d' := .int .i64 x.last) HG6.out.r2
          have hbl := wbel4 (a' := .slice pn x.names.length cn) (b' := .slice pw x.widths.length cw) (c' := .slice pc x.chs.length cc) (d' := .int .i64 x.last) HG6.out.bel (Nat.le_refl W.heap.size)
          have hown := HG6.out.own.set4 (a' := .slice pn x.names.length cn) (b' := .slice pw x.widths.length cw) (c' := .slice pc x.chs.length cc) (d' := .int .i64 x.last) HG6.out.r2
          generalize ((((W6.setCell ⟨W.heap.size, 0, none⟩ (.slice pn x.names.length cn)).setCell ⟨W.heap.size, 1, none⟩ (.slice pw x.widths.length cw)).setCell ⟨W.heap.size, 2, none⟩ (.slice pc x.chs.length cc)).setCell ⟨W.heap.size, 3, none⟩ (.int .i64 x.last)) = X at *
          obtain ⟨u0, u1, u2, u3, _, _, _, _, _⟩ := hx.box
          refine bodyPost_ret (v := .tuple #[.agg #[.slice pn x.names.length cn, .slice pw x.widths.length cw, .slice pc x.chs.length cc, .int .i64 x.last], .int .i64 0]) ?_ rfl ⟨by rw [if_neg HBig.out, HSome.out]; exact ⟨_, _, _, rfl, Slc.own hown.1, Slc.own hown.2.1, Slc.own hown.2.2⟩, hbl⟩
          simp [results, Tryz.results28, go_sem, u0, u1, u2, u3]
        · have hq1 : ((bs (putW x)).toList == (bs b).toList) = false := by rw [toL, toL]; simpa using heq
          have hq2 : ((bs (putW x)).toList != (bs b).toList) = true := by rw [toL, toL]; simpa using heq
          have HNone := Lib.hid (HD.out.trans (if_neg (fun h => heq h.2.2)))
          clear heq
          go_wp2_with fail
          have hx := wset4 (a' := .slice none 0 0) (b' := .slice none 0 0) (c' := .slice none 0 0) (d' := .int .i64 0) HG6.out.r2
          have hbl := wbel4 (a' := .slice none 0 0) (b' := .slice none 0 0) (c' := .slice none 0 0) (d' := .int .i64 0) HG6.out.bel (Nat.le_refl W.heap.size)
          generalize ((((W6.setCell ⟨W.heap.size, 0, none⟩ (.slice none 0 0)).setCell ⟨W.heap.size, 1, none⟩ (.slice none 0 0)).setCell ⟨W.heap.size, 2, none⟩ (.slice none 0 0)).setCell ⟨W.heap.size, 3, none⟩ (.int .i64 0)) = X at *
          obtain ⟨u0, u1, u2, u3, _, _, _, _, _⟩ := hx.box
          refine bodyPost_ret (v := .tuple #[.agg #[.slice none 0 0, .slice none 0 0, .slice none 0 0, .int .i64 0], .int .i64 160]) ?_ rfl ⟨by rw [if_neg HBig.out, HNone.out], hbl⟩
          simp [results, Tryz.results28, go_sem, u0, u1, u2, u3]
      · have hpe' : (putE x != 0) = true := by simpa using hpe
        have HNone := Lib.hid (HD.out.trans (if_neg (fun h => hpe (by unfold putE; rw [if_neg (by simp [h.1]), if_neg (by omega)]))))
        rw [if_neg hpe] at hpv
        subst hpv
        clear hpe
        go_wp2_with fail
        have hx := wset4 (a' := .slice none 0 0) (b' := .slice none 0 0) (c' := .slice none 0 0) (d' := .int .i64 0) HG6.out.r2
        have hbl := wbel4 (a' := .slice none 0 0) (b' := .slice none 0 0) (c' := .slice none 0 0) (d' := .int .i64 0) HG6.out.bel (Nat.le_refl W.heap.size)
        generalize ((((W6.setCell ⟨W.heap.size, 0, none⟩ (.slice none 0 0)).setCell ⟨W.heap.size, 1, none⟩ (.slice none 0 0)).setCell ⟨W.heap.size, 2, none⟩ (.slice none 0 0)).setCell ⟨W.heap.size, 3, none⟩ (.int .i64 0)) = X at *
        obtain ⟨u0, u1, u2, u3, _, _, _, _, _⟩ := hx.box
        refine bodyPost_ret (v := .tuple #[.agg #[.slice none 0 0, .slice none 0 0, .slice none 0 0, .int .i64 0], .int .i64 160]) ?_ rfl ⟨by rw [if_neg HBig.out, HNone.out], hbl⟩
        simp [results, Tryz.results28, go_sem, u0, u1, u2, u3]
end Go.Proofs.YtephnfhjobkciaaGreatDoor
