/- No change is none. -/
import Derived.Test.YtephnfhjobkciaaGreatDoorGZA

namespace Go.Proofs.YtephnfhjobkciaaGreatDoor
open Go.RowKit Go.Proofs.Wav Go.Proofs.Scn Go.Flow Go.Sort Go.Shelf Go.Cal
set_option linter.unusedVariables false
set_option linter.unusedSimpArgs false
set_option maxRecDepth 100000

/-- how many changes the rows ahead of t have, and the first s values of row t -/
def cntR (rows : List (List Nat)) (t s : Nat) : Nat := (chsOf rows t).length + (rowC t (Go.Proofs.Wav.ahead rows t) (rows.getD t []) s).length
theorem cntR_one {rows : List (List Nat)} {n : Nat} (h : (rows.getD 0 []).length = n) : cntR rows 1 0 = n := by
  unfold cntR
  rw [chsOf_one, rowC_zero, h]; rfl
theorem cntR_next {rows : List (List Nat)} {n t : Nat} (h : (rows.getD t []).length = n) : cntR rows (t + 1) 0 = cntR rows t n := by
  unfold cntR
  rw [rowC_zero, chsOf, List.length_append, h]; rfl
theorem cntR_step {rows : List (List Nat)} {t s : Nat} (ht : 0 < t) : cntR rows t (s + 1) = cntR rows t s + if (rows.getD (t - 1) []).getD s 0 = (rows.getD t []).getD s 0 then 0 else 1 := by
  unfold cntR
  have : Go.Proofs.Wav.ahead rows t = some (rows.getD (t - 1) []) := by
    unfold Go.Proofs.Wav.ahead
    rw [if_neg (by omega)]
  rw [this, rowC_len]
  omega
theorem cntR_all (rows : List (List Nat)) : cntR rows rows.length 0 = (chsOf rows rows.length).length := by
  unfold cntR
  rw [rowC_zero]; rfl

theorem cntR_le {rows : List (List Nat)} {n : Nat} (hn : ∀ k, k < rows.length → (rows.getD k []).length = n) {t s : Nat} (ht : t < rows.length) (hs : s ≤ n) : cntR rows t s ≤ t * n + n := by
  have h1 := chsOf_bound hn t (by omega)
  have h2 := rowC_bound t (Go.Proofs.Wav.ahead rows t) (rows.getD t []) s
  unfold cntR
  omega
theorem getD_row {rows : List (List Nat)} {k : Nat} (h : k < rows.length) : rows.getD k [] = rows[k] := by rw [List.getD_eq_getElem?_getD, List.getElem?_eq_getElem h, Option.getD_some]
theorem getD_num {r : List Nat} {k : Nat} (h : k < r.length) : r.getD k 0 = r[k] := by rw [List.getD_eq_getElem?_getD, List.getElem?_eq_getElem h, Option.getD_some]

set_option maxHeartbeats 16000000 in
theorem wleast_any (v0 v1 v2 : Value) (ns : List Ln) (ws : List Int) (rows : List (List Nat)) (W : World) (y0 : Strs W v0 ns) (y1 : Ints W v1 ws) (y2 : Rws W v2 rows) (hv : ∀ r ∈ rows, ∀ x ∈ r, x < 18446744073709551616) (hB : Base W) :
    Calls Tryz.prog 10 #[v0, v1, v2] W fun e W' => e = .returned (.bool true) ∧ Below W.heap.size W W' := by
  obtain ⟨p0, c0, rfl⟩ := Slc.form y0
  obtain ⟨p1, c1, rfl⟩ := Slc.form y1
  obtain ⟨p2, c2, rfl⟩ := y2.form
  have HLive := Lib.hid (live_any W hB)
  have HY0 := Lib.hid (fun w (hb : Below W.heap.size W w) => Slc.later y0 hb)
  have HY1 := Lib.hid (fun w (hb : Below W.heap.size W w) => Slc.later y1 hb)
  have HY2 := Lib.hid (fun w (hb : Below W.heap.size W w) => y2.later hb)
  have HRw := Lib.hid (fun w (hb : Below W.heap.size W w) (h0 : 0 < rows.length) => Rws.at (Rws.later (w' := w) y2 hb) h0)
  have HU := Lib.hid hv
  clear y0 y1 y2 hB hv
  go_enter Tryz.func10, Tryz.ntmps10
  go_wp2_with fail
  refine HLive.out.mono ?_
  rintro e W1 ⟨rfl, hb1⟩
  have H1 := Lib.hid hb1
  clear hb1
  go_wp2_with fail
  refine (fewRows_any _ _ _ ns ws rows W1 (HY0.out W1 H1.out) (HY1.out W1 H1.out) (HY2.out W1 H1.out)).mono ?_
  rintro e W2 ⟨⟨fb, rfl, hfb⟩, hb2⟩
  have H2 := Lib.hid (H1.out.trans (hb2.mono H1.out.size))
  clear hb2
  cases fb with
  | false =>
    go_wp2
    go_ret
    exact ⟨rfl, H2.out⟩
  | true =>
    obtain ⟨hfew, hrl, hrr⟩ := hfb rfl
    have hfw := few_fits hfew hrl
    have hnl : ns.length ≤ 20 := hfew.1
    have HM := Lib.hid (fun w h0 h1 h2 => make_any (.slice p0 ns.length c0) (.slice p1 ws.length c1) (.slice p2 rows.length c2) ns ws rows hfw.1 hfw.2.1 hfw.2.2.1 hfw.2.2.2.1 hfw.2.2.2.2 HU.out w h0 h1 h2)
    clear hfb hfew hrr hfw
    go_wp2_with fail
    refine (HM.out W2 (HY0.out W2 H2.out) (HY1.out W2 H2.out) (HY2.out W2 H2.out)).mono ?_
    rintro e W3 ⟨⟨vn, vw, vc, rfl, hwav, _⟩, hb3⟩
    have H3 := Lib.hid (H2.out.trans (hb3.mono H2.out.size))
    have HW3 := Lib.hid hwav
    clear hb3 hwav
    obtain ⟨ME, x, hMX⟩ : ∃ ME x, makeW ns ws rows = (ME, x) := ⟨_, _, rfl⟩
    rw [hMX] at HW3
    rw [hMX]
    simp only at HW3 ⊢
    obtain ⟨pn, cn, rfl⟩ := Slc.form HW3.out.1
    obtain ⟨pw, cw, rfl⟩ := Slc.form HW3.out.2.1
    obtain ⟨pc, cc, rfl⟩ := Slc.form HW3.out.2.2
    have hbA := (Below.refl W3.heap.size W3).alloc (Nat.le_refl _) (.cells #[.slice pn x.names.length cn, .slice pw x.widths.length cw, .slice pc x.chs.length cc, .int .i64 x.last] 26)
    have HBX4 := Lib.hid (Box4.new W3 (.slice pn x.names.length cn) (.slice pw x.widths.length cw) (.slice pc x.chs.length cc) (.int .i64 x.last) 26)
    have H4 := Lib.hid (H3.out.trans (hbA.mono H3.out.size))
    have HW4 := Lib.hid (HW3.out.later hbA)
    clear hbA
    by_cases hME : ME = 0
    case neg =>
      have hME' : (ME != 0) = true := by simpa using hME
      clear hMX
      go_wp2
      go_ret
      exact ⟨rfl, H4.out⟩
    subst hME
    obtain ⟨hfu, hxx, hck⟩ := make_ok hMX
    obtain ⟨hne, hfl⟩ := Go.Proofs.Wav.full_get hfu
    have hpos : 0 < rows.length := List.length_pos_iff.2 hne
    have hl0 : ((rows.length : Int) == 0) = false := by simp; exact fun h => by simp [h] at hpos
    have HFL := Lib.hid hfl
    have HXC := Lib.hid (show x.chs = chsOf rows rows.length by rw [hxx]; rfl)
    have HXB := Lib.hid (show x.chs.length ≤ 1000 by
      rw [HXC.out]
      have h1 := chsOf_bound HFL.out rows.length (Nat.le_refl _)
      have h2 := Nat.mul_le_mul (show rows.length ≤ 50 by omega) (show ns.length ≤ 20 by omega)
      omega)
    have HXL := Lib.hid (show x.last = (rows.length : Int) - 1 by rw [hxx]; rfl)
    clear hMX hfu hxx hck hne hfl
    have HLen := Lib.hid (show ∀ k (h : k < rows.length), rows[k].length = ns.length from fun k h => by have := HFL.out k h; rwa [getD_row h] at this)
    go_wp2_with fail
    generalize W3.alloc (.cells #[.slice pn x.names.length cn, .slice pw x.widths.length cw, .slice pc x.chs.length cc, .int .i64 x.last] 26) = W4 at *
    go_loopw [10, 11] (fun c i wr => ∃ t : Nat, 1 ≤ t ∧ t ≤ rows.length ∧ i = .int .i64 t ∧ c = .int .i64 (cntR rows t 0) ∧ Hid (Below W4.heap.size W4 wr)) (fun _ i _ => rows.length - (intOf i).toNat)
    case atStart => exact ⟨1, Nat.le_refl _, by omega, rfl, by rw [cntR_one (HFL.out 0 hpos)], Lib.hid (Below.refl _ _)⟩
    case round =>
      obtain ⟨t, ht1, ht, rfl, rfl, HR⟩ := hrel
      have HW := Lib.hid (H4.out.trans (HR.out.mono H4.out.size))
      by_cases hts : t < rows.length
      · obtain ⟨u, hu⟩ : ∃ u, u = t - 1 := ⟨_, rfl⟩
        have hus : u < rows.length := by omega
        have hu1 : (t : Int) - 1 = (u : Int) := by omega
        obtain ⟨b, off, hp, hlt, hc⟩ := HRw.out wr HW.out hpos
        obtain ⟨q1, d1, x0, hux⟩ := hc t hts
        obtain ⟨q2, d2, y0, huy⟩ := hc u hus
        have hl1 := HLen.out t hts
        have hl2 := HLen.out u hus
        have HStep := Lib.hid (fun j (hj : j < ns.length) (h1 : j < rows[t].length) (h2 : j < rows[u].length) => (show cntR rows t (j + 1) = cntR rows t j + if (rows[u])[j] = (rows[t])[j] then 0 else 1 by
          rw [cntR_step (by omega), ← hu, getD_row hts, getD_row hus, getD_num h1, getD_num h2]))
        have HNext := Lib.hid (cntR_next (HFL.out t hts))
        have HBd := Lib.hid (fun j (hj : j ≤ ns.length) => (show cntR rows t j ≤ 2000 by
          have := cntR_le HFL.out hts hj
          have h2 : t * ns.length ≤ 50 * 20 := Nat.mul_le_mul (by omega) hnl
          omega))
        have HUX := Lib.hid hux
        have HUY := Lib.hid huy
        clear hux huy hc hu
        subst hp
        generalize rows[t] = r at *
        generalize rows[u] = s at *
        rw [hl1] at x0 HUX
        rw [hl2] at y0 HUY
        have HL1 := Lib.hid hl1
        have HL2 := Lib.hid hl2
        clear hl1 hl2
        go_wp2_with fail
        go_loopw [10, 12] (fun c i wq => ∃ j : Nat, j ≤ ns.length ∧ i = .int .i64 j ∧ c = .int .i64 (cntR rows t j) ∧ Hid (Below wr.heap.size wr wq)) (fun _ i _ => ns.length - (intOf i).toNat)
        case atStart => exact ⟨0, Nat.zero_le _, rfl, rfl, Lib.hid (Below.refl _ _)⟩
        case round =>
          obtain ⟨j, hj, rfl, rfl, HQ⟩ := hrel
          have xk := (HQ.out.cell (p := ⟨b, off + t, none⟩) hlt).trans x0
          have yk := (HQ.out.cell (p := ⟨b, off + u, none⟩) hlt).trans y0
          by_cases hjs : j < ns.length
          · have hj1 : j < r.length := by have := HL1.out; omega
            have hj2 : j < s.length := by have := HL2.out; omega
            obtain ⟨be, oe, hpe, _, hce⟩ := Slc.at (Slc.later HUX.out HQ.out) (show 0 < r.length by omega)
            obtain ⟨bf, of, hpf, _, hcf⟩ := Slc.at (Slc.later HUY.out HQ.out) (show 0 < s.length by omega)
            have e0 := one_at hce j hj1
            have f0 := one_at hcf j hj2
            subst hpe hpf
            clear hce hcf
            unfold u64V at e0 f0
            have hst := HStep.out j hjs hj1 hj2
            have hbd := HBd.out j hj
            generalize r[j] = a at *
            generalize s[j] = d at *
            by_cases had : d = a
            · rw [if_pos had] at hst
              have HST := Lib.hid hst
              clear hst
              subst had
              go_wp2_with fail
              go_quiet (fail)
              go_wp2_with fail
              go_roundw
              case rel => exact ⟨j + 1, by omega, by go_num, by rw [HST.out]; rfl, Lib.hid (below_drewN HQ.out _)⟩
              case measure => simp [intOf]; omega
            · rw [if_neg had] at hst
              have HST := Lib.hid hst
              have hn1 : ((a : Int) == (d : Int)) = false := by rw [beq_eq_false_iff_ne]; omega
              have hn2 : ((a : Int) != (d : Int)) = true := by rw [bne_iff_ne]; omega
              clear hst
              go_wp2_with fail
              go_quiet (fail)
              go_wp2_with fail
              go_roundw
              case rel => exact ⟨j + 1, by omega, by go_num, by rw [HST.out]; go_num, Lib.hid (below_drewN HQ.out _)⟩
              case measure => simp [intOf]; omega
          · obtain rfl : j = ns.length := by omega
            go_wp2_with fail
            go_roundw
            case rel => exact ⟨t + 1, by omega, by omega, by go_num, by rw [HNext.out], Lib.hid (HR.out.trans (HQ.out.mono HR.out.size))⟩
            case measure => simp [intOf]; omega
      · obtain rfl : t = rows.length := by omega
        have hcn := cntR_all rows
        rw [← HXC.out] at hcn
        rw [hcn]
        obtain ⟨a0, a1, a2, a3, _, _, _, _, lta⟩ := HBX4.out.later HR.out
        have hxl : (x.last != (rows.length : Int) - 1) = false := by rw [HXL.out]; simp
        clear hcn
        go_wp2_with fail
        clear a0 a1 a2 a3 lta
        go_loopw [13, 14] (fun i pb wq => ∃ k : Nat, k ≤ x.chs.length ∧ i = .int .i64 k ∧ Hid (Below wr.heap.size wr wq)) (fun i _ _ => x.chs.length - (intOf i).toNat)
        case atStart => exact ⟨0, Nat.zero_le _, rfl, Lib.hid (Below.refl _ _)⟩
        case round =>
          obtain ⟨k, hk, rfl, HQ⟩ := hrel
          have HRQ := Lib.hid (HR.out.trans (HQ.out.mono HR.out.size))
          have HWQ := Lib.hid (H4.out.trans (HRQ.out.mono H4.out.size))
          by_cases hks : k < x.chs.length
          · obtain ⟨cb, co, hpc, hclt, hcc⟩ := Slc.at (Slc.later HW4.out.2.2 HRQ.out) (show 0 < x.chs.length by omega)
            have x0 := (hcc (k * 3 + 0) (by omega)).trans (chgsV_at x.chs k 0 hks (by omega))
            have x1 := (hcc (k * 3 + 1) (by omega)).trans (chgsV_at x.chs k 1 hks (by omega))
            have x2 := (hcc (k * 3 + 2) (by omega)).trans (chgsV_at x.chs k 2 hks (by omega))
            have hmem := List.getElem_mem hks
            obtain ⟨t, g, hct, hcg, htl, hgl, hval, hpre⟩ := mem_made HFL.out (show x.chs[k] ∈ chsOf rows rows.length by rw [← HXC.out]; exact hmem)
            clear hmem
            generalize x.chs[k] = c at *
            obtain ⟨ct, cg, cv⟩ := c
            simp only [chgV, List.getElem?_cons_zero, List.getElem?_cons_succ, Nat.add_zero] at x0 x1 x2
            rw [← Nat.add_assoc] at x1 x2
            simp only at hct hcg hval hpre
            subst hct hcg
            obtain ⟨a0, a1, a2, a3, _, _, _, _, lta⟩ := HBX4.out.later HRQ.out
            subst hpc
            clear hcc
            have hbV := (Below.refl wr.heap.size wr).alloc (Nat.le_refl _) (.cells #[.int .i64 t, .int .i64 g, .int .u64 cv] 50)
            have HNV := Lib.hid (heap_alloc_new wr (.cells #[.int .i64 t, .int .i64 g, .int .u64 cv] 50))
            have HV := Lib.hid (HQ.out.trans (hbV.mono HQ.out.size))
            clear hbV
            go_wp2_with fail
            generalize wr.alloc (.cells #[.int .i64 t, .int .i64 g, .int .u64 cv] 50) = V at *
            have HWV := Lib.hid (HW.out.trans (HV.out.mono HW.out.size))
            have b0 := cell_of_row V wr.heap.size 0 _ _ (0, 0) HNV.out
            have b1 := cell_of_row V wr.heap.size 1 _ _ (0, 0) HNV.out
            have b2 := cell_of_row V wr.heap.size 2 _ _ (0, 0) HNV.out
            simp only [List.getElem?_toArray, List.getElem?_cons_zero, List.getElem?_cons_succ] at b0 b1 b2
            clear x0 x1 x2 a0 a1 a2 a3 lta hclt
            obtain ⟨b, off, hp, hlt, hc⟩ := HRw.out V HWV.out hpos
            obtain ⟨q1, d1, y0, hux⟩ := hc t htl
            have hl1 := HLen.out t htl
            have hg1 : g < rows[t].length := by omega
            rw [getD_row htl, getD_num hg1] at hval
            obtain ⟨be, oe, hpe, _, hce⟩ := Slc.at hux (show 0 < rows[t].length by omega)
            have e0 := one_at hce g hg1
            unfold u64V at e0
            rw [hval] at e0
            rw [hl1] at y0
            have t0 : decide ((t : Int) < 0) = false := decide_eq_false (by omega)
            have t1 : decide ((rows.length : Int) ≤ (t : Int)) = false := decide_eq_false (by omega)
            have t2 : decide ((g : Int) < 0) = false := decide_eq_false (by omega)
            have t3 : decide ((ns.length : Int) ≤ (g : Int)) = false := decide_eq_false (by omega)
            have t4 : (t : Int) < (rows.length : Int) := by omega
            have t5 : (g : Int) < (ns.length : Int) := by omega
            have t6 : ((cv : Int) != (cv : Int)) = false := by simp
            have HKW := Lib.hid (show wrap64 ((k : Int) + 1) = (k : Int) + 1 from Go.IntWalk.wrap64_in _ (by have := HXB.out; omega))
            by_cases ht0 : t = 0
            case pos =>
              have t7 : decide (0 < (t : Int)) = false := decide_eq_false (by omega)
              have t7n : decide (0 < t) = false := decide_eq_false (by omega)
              subst hp hpe
              clear hc hce hux hval hpre ht0
              go_quiet (fail)
              go_wp2_with fail
              go_quiet (fail)
              go_wp2_with fail
              go_roundw
              case rel => exact ⟨k + 1, by omega, by rw [HKW.out]; go_num, Lib.hid (by first | exact below_drewN (below_drewN HV.out _) _ | exact below_drewN HV.out _)⟩
              case measure => rw [HKW.out]; simp [intOf]; omega
            case neg =>
              obtain ⟨u, hu⟩ : ∃ u, u = t - 1 := ⟨_, rfl⟩
              have hus : u < rows.length := by omega
              have hu1 : (t : Int) - 1 = (u : Int) := by omega
              obtain ⟨q2, d2, z0, huz⟩ := hc u hus
              have hl2 := HLen.out u hus
              have hg2 : g < rows[u].length := by omega
              obtain ⟨bf, of, hpf, _, hcf⟩ := Slc.at huz (show 0 < rows[u].length by omega)
              have f0 := one_at hcf g hg2
              unfold u64V at f0
              have hne : rows[u][g] ≠ cv := by
                have := hpre (by omega)
                rwa [← hu, getD_row hus, getD_num hg2] at this
              rw [hl2] at z0
              generalize rows[u][g] = d at *
              have t7 : decide (0 < (t : Int)) = true := decide_eq_true (by omega)
              have t8 : ((d : Int) == (cv : Int)) = false := by rw [beq_eq_false_iff_ne]; omega
              have t9 : (0 : Int) < (t : Int) := by omega
              have t9n : 0 < t := by omega
              have t7n : decide (0 < t) = true := decide_eq_true t9n
              have t10 : (u : Int) < (rows.length : Int) := by omega
              subst hp hpe hpf
              clear hc hce hux hval hpre hcf huz hu ht0 hne
              go_quiet (fail)
              go_wp2_with fail
              go_quiet (fail)
              go_wp2_with fail
              go_roundw
              case rel => exact ⟨k + 1, by omega, by rw [HKW.out]; go_num, Lib.hid (by first | exact below_drewN (below_drewN HV.out _) _ | exact below_drewN HV.out _)⟩
              case measure => rw [HKW.out]; simp [intOf]; omega
          · obtain rfl : k = x.chs.length := by omega
            go_wp2_with fail
            go_ret
            exact ⟨rfl, HWQ.out⟩
end Go.Proofs.YtephnfhjobkciaaGreatDoor
