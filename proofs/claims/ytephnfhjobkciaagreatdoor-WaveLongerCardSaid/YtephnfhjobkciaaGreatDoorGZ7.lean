/- A wave that goes on as it ended. -/
import Derived.Test.YtephnfhjobkciaaGreatDoorGZA

namespace Go.Proofs.YtephnfhjobkciaaGreatDoor
open Go.RowKit Go.Proofs.Wav Go.Proofs.Scn Go.Flow Go.Sort Go.Shelf Go.Cal
set_option linter.unusedVariables false
set_option linter.unusedSimpArgs false
set_option maxRecDepth 100000

/-- the rows with the last one k times more -/
def moreR (rows : List (List Nat)) (k : Nat) : List (List Nat) := rows ++ List.replicate k (rows.getD (rows.length - 1) [])
theorem moreR_len (rows : List (List Nat)) (k : Nat) : (moreR rows k).length = rows.length + k := by simp [moreR]
theorem moreR_row {rows : List (List Nat)} {k : Nat} (h0 : rows ≠ []) {r : List Nat} (h : r ∈ moreR rows k) : r ∈ rows := by
  unfold moreR at h
  rcases List.mem_append.1 h with h1 | h1
  · exact h1
  · have hp : 0 < rows.length := List.length_pos_iff.2 h0
    rw [(List.mem_replicate.1 h1).2, List.getD_eq_getElem?_getD, List.getElem?_eq_getElem (by omega), Option.getD_some]
    exact List.getElem_mem _
/-- such rows in a world -/
theorem more_rws {w : World} {B k : Nat} {v : Value} {rows : List (List Nat)} {vs : List Value} (h0 : rows ≠ []) (hl : vs.length = rows.length) (hv : ∀ j (h : j < rows.length) (h' : j < vs.length), U64s w vs[j] rows[j])
    (ho : w.ownsRow B 52 1 v (rows.length + k) (vs ++ List.replicate k (vs.getD (vs.length - 1) (.slice none 0 0)))) : Rws w v (moreR rows k) := by
  have hp : 0 < rows.length := List.length_pos_iff.2 h0
  refine ⟨vs ++ List.replicate k (vs.getD (vs.length - 1) (.slice none 0 0)), by simp [moreR, hl], by rw [moreR_len]; exact Slc.own ho, fun j h h' => ?_⟩
  by_cases hj : j < rows.length
  · have e1 : (moreR rows k)[j] = rows[j] := by simp only [moreR]; rw [List.getElem_append_left hj]
    rw [e1, List.getElem_append_left (by omega)]
    exact hv j hj (by omega)
  · have e1 : (moreR rows k)[j] = rows[rows.length - 1] := by
      simp only [moreR]
      rw [List.getElem_append_right (by omega), List.getElem_replicate, List.getD_eq_getElem?_getD, List.getElem?_eq_getElem (by omega), Option.getD_some]
    rw [e1, List.getElem_append_right (by omega), List.getElem_replicate, List.getD_eq_getElem?_getD, List.getElem?_eq_getElem (by omega), Option.getD_some]
    have := hv (rows.length - 1) (by omega) (by omega)
    simpa only [hl] using this
theorem rep_snoc {α : Type} (l : List α) (k : Nat) (x : α) : (l ++ List.replicate k x) ++ [x] = l ++ List.replicate (k + 1) x := by
  rw [List.append_assoc, ← List.replicate_succ']
theorem row_one {w : World} {v : Value} {r : List Nat} (h : U64s w v r) : v.oneCell' = true := by
  obtain ⟨p, c, rfl⟩ := Slc.form h
  rfl

theorem made_last (ns : List Ln) (ws : List Int) (rows : List (List Nat)) (h : rows.length ≤ 50) : -1 ≤ (makeW ns ws rows).2.last ∧ (makeW ns ws rows).2.last ≤ 50 := by
  have hz : -1 ≤ zeroW.last ∧ zeroW.last ≤ 50 := by decide
  unfold makeW
  split
  · split
    · show -1 ≤ (rows.length : Int) - 1 ∧ (rows.length : Int) - 1 ≤ 50
      omega
    · exact hz
  · exact hz

set_option maxHeartbeats 16000000 in
theorem wlonger_any (v0 v1 v2 : Value) (ns : List Ln) (ws : List Int) (rows : List (List Nat)) (mo : Nat) (hmo : mo < 256) (W : World) (y0 : Strs W v0 ns) (y1 : Ints W v1 ws) (y2 : Rws W v2 rows) (hv : ∀ r ∈ rows, ∀ x ∈ r, x < 18446744073709551616) (hB : Base W) :
    Calls Tryz.prog 11 #[v0, v1, v2, .int .u8 mo] W fun e W' => e = .returned (.bool true) ∧ Below W.heap.size W W' := by
  obtain ⟨p0, c0, rfl⟩ := Slc.form y0
  obtain ⟨p1, c1, rfl⟩ := Slc.form y1
  obtain ⟨p2, c2, rfl⟩ := y2.form
  have HLive := Lib.hid (live_any W hB)
  have HY0 := Lib.hid (fun w (hb : Below W.heap.size W w) => Slc.later y0 hb)
  have HY1 := Lib.hid (fun w (hb : Below W.heap.size W w) => Slc.later y1 hb)
  have HY2 := Lib.hid (fun w (hb : Below W.heap.size W w) => y2.later hb)
  obtain ⟨vs, hvl, hsl, hve⟩ := y2
  have HSL := Lib.hid (fun w (hb : Below W.heap.size W w) => Slc.later hsl hb)
  have HVE := Lib.hid (fun w (hb : Below W.heap.size W w) j (h : j < rows.length) (h' : j < vs.length) => Slc.later (hve j h h') hb)
  have HON := Lib.hid (show ∀ u ∈ vs, u.oneCell' = true from fun u hu => by
    obtain ⟨j, hj, rfl⟩ := List.getElem_of_mem hu
    exact row_one (hve j (by omega) hj))
  have HU := Lib.hid hv
  clear y0 y1 hB hv hsl hve
  go_enter Tryz.func11, Tryz.ntmps11
  go_wp2_with fail
  refine HLive.out.mono ?_
  rintro e W1 ⟨rfl, hb1⟩
  have H1 := Lib.hid hb1
  clear hb1
  go_wp2_with fail
  refine (fewRows_any _ _ _ ns ws rows W1 (HY0.out W1 H1.out) (HY1.out W1 H1.out) (HY2.out W1 H1.out)).mono ?_
  rintro e W2 ⟨⟨fb, rfl, hfb⟩, hb2⟩
  have H2 := Lib.hid (H1.out.trans (hb2.mono H1.out.size))
  clear hb2
  cases fb with
  | false =>
    go_wp2
    go_ret
    exact ⟨rfl, H2.out⟩
  | true =>
    obtain ⟨hfew, hrl, hrr⟩ := hfb rfl
    by_cases hr0 : rows.length = 0
    case pos =>
      have hr0' : ((rows.length : Int) == 0) = true := by simp [hr0]
      go_wp2
      go_ret
      exact ⟨rfl, H2.out⟩
    have hr0' : ((rows.length : Int) == 0) = false := by simp; exact fun h => hr0 (by rw [h]; rfl)
    have hne : rows ≠ [] := fun h => hr0 (by rw [h]; rfl)
    obtain ⟨M, hM⟩ : ∃ M, M = mo % 20 := ⟨_, rfl⟩
    have hM20 : M < 20 := by omega
    have HMod := Lib.hid hM
    have hfw := few_fits hfew hrl
    have hnl : ns.length ≤ 20 := hfew.1
    have hp2 : (moreR rows M).length * ns.length ≤ 100000 := by
      have : (moreR rows M).length * ns.length ≤ 69 * 20 := Nat.mul_le_mul (by rw [moreR_len]; omega) hnl
      omega
    have HM := Lib.hid (fun w h0 h1 h2 => make_any (.slice p0 ns.length c0) (.slice p1 ws.length c1) (.slice p2 rows.length c2) ns ws rows hfw.1 hfw.2.1 hfw.2.2.1 hfw.2.2.2.1 hfw.2.2.2.2 HU.out w h0 h1 h2)
    have HM2 := Lib.hid (fun v w h0 h1 h2 => make_any (.slice p0 ns.length c0) (.slice p1 ws.length c1) v ns ws (moreR rows M) hfw.1 hfw.2.1 hfw.2.2.1 (by rw [moreR_len]; omega) hp2 (fun r hr => HU.out r (moreR_row hne hr)) w h0 h1 h2)
    have HLg := Lib.hid (make_longer ns ws rows hne M (by omega))
    have HSM := Lib.hid (make_small ns ws rows hfw.1 hfw.2.1 hfw.2.2.1 hfw.2.2.2.2)
    have HNE := Lib.hid hne
    have HLast := Lib.hid (made_last ns ws rows hrl)
    clear hfb hfew hrr hfw hp2 hne hnl
    go_wp2_with fail
    refine (HM.out W2 (HY0.out W2 H2.out) (HY1.out W2 H2.out) (HY2.out W2 H2.out)).mono ?_
    rintro e W3 ⟨⟨vn, vw, vc, rfl, hwav, _⟩, hb3⟩
    have H3 := Lib.hid (H2.out.trans (hb3.mono H2.out.size))
    have HW3 := Lib.hid hwav
    clear hb3 hwav
    obtain ⟨ME, x, hMX⟩ : ∃ ME x, makeW ns ws rows = (ME, x) := ⟨_, _, rfl⟩
    rw [hMX] at HW3 HSM HLg HLast
    rw [hMX]
    simp only at HW3 HSM HLg HLast ⊢
    obtain ⟨pn, cn, rfl⟩ := Slc.form HW3.out.1
    obtain ⟨pw, cw, rfl⟩ := Slc.form HW3.out.2.1
    obtain ⟨pc, cc, rfl⟩ := Slc.form HW3.out.2.2
    have hbA := (Below.refl W3.heap.size W3).alloc (Nat.le_refl _) (.cells #[.slice pn x.names.length cn, .slice pw x.widths.length cw, .slice pc x.chs.length cc, .int .i64 x.last] 26)
    have HBX4 := Lib.hid (Box4.new W3 (.slice pn x.names.length cn) (.slice pw x.widths.length cw) (.slice pc x.chs.length cc) (.int .i64 x.last) 26)
    have H4 := Lib.hid (H3.out.trans (hbA.mono H3.out.size))
    have HW4 := Lib.hid (HW3.out.later hbA)
    clear hbA
    obtain ⟨W4, hW4⟩ : ∃ W4, W4 = W3.alloc (.cells #[.slice pn x.names.length cn, .slice pw x.widths.length cw, .slice pc x.chs.length cc, .int .i64 x.last] 26) := ⟨_, rfl⟩
    rw [← hW4] at HBX4 H4 HW4
    obtain ⟨b, off, hp2, hlt, hcell⟩ := (HSL.out W (Below.refl _ _)).at (by omega)
    subst hp2
    obtain ⟨m, hm⟩ : ∃ m, rows.length = m + 1 := ⟨rows.length - 1, by omega⟩
    have hm1 : (rows.length : Int) - 1 = (m : Int) := by omega
    have hm2 : m < rows.length := by omega
    obtain ⟨lv, hlv⟩ : ∃ lv, lv = vs.getD (vs.length - 1) (.slice none 0 0) := ⟨_, rfl⟩
    have HX0 := Lib.hid (fun w (hb : Below W.heap.size W w) => (show w.cell? ⟨b, off + m, none⟩ = some lv by
      rw [hb.cell (p := ⟨b, off + m, none⟩) hlt, hcell m (by omega), hlv, List.getD_eq_getElem?_getD, show vs.length - 1 = m by omega]
      rw [List.getElem?_eq_getElem (by omega), Option.getD_some]))
    have HLV := Lib.hid (show lv.oneCell' = true by
      refine HON.out _ ?_
      rw [hlv, List.getD_eq_getElem?_getD, List.getElem?_eq_getElem (by omega), Option.getD_some]
      exact List.getElem_mem _)
    have HMR := Lib.hid (fun w (hb : Below W.heap.size W w) v (ho : w.ownsRow W4.heap.size 52 1 v (rows.length + M) (vs ++ List.replicate M lv)) => more_rws (w := w) (v := v) HNE.out hvl (fun j h h' => HVE.out w hb j h h') (by rw [← hlv]; exact ho))
    have hlf : ∃ pl nl cl, lv = .slice pl nl cl := by
      obtain ⟨pl, cl, h⟩ := Slc.form (HVE.out W (Below.refl _ _) m hm2 (by omega))
      refine ⟨pl, _, cl, Eq.trans ?_ h⟩
      rw [hlv, List.getD_eq_getElem?_getD, show vs.length - 1 = m by omega, List.getElem?_eq_getElem (by omega), Option.getD_some]
    clear hcell hlt hlv hm hM
    obtain ⟨pl, nl, cl, rfl⟩ := hlf
    go_wp2_with (at_builtin; go_loud (rw [← hW4]); go_loud (refine clone_end rfl _ _ 38 52 rfl rowsSlice (.slice none 0 0) 24 infoRow rfl (by decide) W4 (by rw [hW4, World.size_alloc]; rfl) rfl rows.length vs ⟨b, off, none⟩ c2 rfl (HSL.out W4 H4.out) HON.out (by omega) ?_); intro v' w' hown hb; have HO := Lib.hid hown; have HB5 := Lib.hid hb; clear hown hb)
    clear hW4
    go_loopw [12, 13] (fun v i wr => ∃ k : Nat, k ≤ M ∧ i = .int .i64 k ∧ Hid (wr.ownsRow W4.heap.size 52 1 v (rows.length + k) (vs ++ List.replicate k (Value.slice pl nl cl))) ∧ Hid (Below W4.heap.size W4 wr)) (fun _ i _ => M - (intOf i).toNat)
    case atStart => exact ⟨0, Nat.zero_le _, rfl, Lib.hid (by rw [List.replicate_zero, List.append_nil]; exact HO.out), HB5⟩
    case round =>
      obtain ⟨k, hk, rfl, HR, HBR⟩ := hrel
      have HW := Lib.hid (H4.out.trans (HBR.out.mono H4.out.size))
      by_cases hks : k < M
      · have hkM : (k : Int) < (mo : Int) % 20 := by have := HMod.out; omega
        have hkM' : decide ((k : Int) < (mo : Int) % 20) = true := decide_eq_true hkM
        obtain ⟨pp, cp, rfl⟩ := row_form HR.out
        have x0 := HX0.out wr HW.out
        have HOA := Lib.hid (row_later HR.out ((Below.refl _ _).alloc (Nat.le_refl _) (.cells #[Value.slice pl nl cl] 52)))
        have HBA := Lib.hid (HBR.out.trans (((Below.refl _ _).alloc (Nat.le_refl _) (.cells #[Value.slice pl nl cl] 52)).mono HBR.out.size))
        have HNA := Lib.hid (heap_alloc_new wr (.cells #[Value.slice pl nl cl] 52))
        go_wp2_with (at_builtin; go_loud (refine wpList_append_one rfl _ _ 38 52 rfl rowsSlice (.slice none 0 0) 1 24 infoRow rfl (by decide) (by decide) W4.heap.size _ (rows.length + k) (vs ++ List.replicate k (Value.slice pl nl cl)) rfl HOA.out wr.heap.size 1 #[Value.slice pl nl cl] rfl HNA.out rfl (by simpa using HLV.out) (by omega) HBA.out.size ?_); intro p' c' N' w2 HN' hown hgr; have hNN := HN'.out; subst hNN; have HO2 := Lib.hid (show w2.ownsRow W4.heap.size 52 1 (.slice p' (rows.length + k + 1) c') (rows.length + (k + 1)) (vs ++ List.replicate (k + 1) (Value.slice pl nl cl)) by rw [← rep_snoc]; exact hown); have HB2 := Lib.hid (row_grown HOA.out (Nat.le_refl _) HBA.out HBA.out.size hgr); clear hown hgr HN')
        go_roundw
        case rel => exact ⟨k + 1, by omega, by go_num, HO2, HB2⟩
        case measure => simp [intOf]; omega
      · obtain rfl : k = M := by omega
        have hkM : ¬ (k : Int) < (mo : Int) % 20 := by have := HMod.out; omega
        have hkM' : decide ((k : Int) < (mo : Int) % 20) = false := decide_eq_false hkM
        obtain ⟨pp, cp, rfl⟩ := row_form HR.out
        have HRw := Lib.hid (HMR.out wr HW.out _ HR.out)
        have HBX5 := Lib.hid (HBX4.out.later HBR.out)
        have HW5 := Lib.hid (HW4.out.later HBR.out)
        have HM6 := Lib.hid (HM2.out _ wr (HY0.out wr HW.out) (HY1.out wr HW.out) HRw.out)
        go_wp2_with fail
        refine HM6.out.mono ?_
        rintro e W6 ⟨⟨un, uw, uc, he, hwu, _⟩, hb6⟩
        have H6 := Lib.hid (HW.out.trans (hb6.mono HW.out.size))
        have HBX6 := Lib.hid (HBX5.out.later hb6)
        have HW6 := Lib.hid (HW5.out.later hb6)
        have hlg : makeW ns ws (moreR rows k) = if ME = 0 then (0, { x with last := x.last + k }) else (ME, x) := HLg.out
        clear hb6
        by_cases hME : ME = 0
        case neg =>
          rw [hlg, if_neg hME] at he hwu
          simp only at he hwu
          subst he
          obtain ⟨qn, dn, rfl⟩ := Slc.form hwu.1
          obtain ⟨qw, dw, rfl⟩ := Slc.form hwu.2.1
          obtain ⟨qc, dc, rfl⟩ := Slc.form hwu.2.2
          have H7 := Lib.hid (H6.out.trans (((Below.refl W6.heap.size W6).alloc (Nat.le_refl _) (.cells #[.slice qn x.names.length dn, .slice qw x.widths.length dw, .slice qc x.chs.length dc, .int .i64 x.last] 26)).mono H6.out.size))
          have hME' : (ME != 0) = true := by simpa using hME
          clear hwu hlg
          go_wp2
          go_ret
          exact ⟨rfl, H7.out⟩
        case pos =>
          subst hME
          rw [hlg, if_pos rfl] at he hwu
          simp only at he hwu
          subst he
          obtain ⟨qn, dn, rfl⟩ := Slc.form hwu.1
          obtain ⟨qw, dw, rfl⟩ := Slc.form hwu.2.1
          obtain ⟨qc, dc, rfl⟩ := Slc.form hwu.2.2
          have hbA := (Below.refl W6.heap.size W6).alloc (Nat.le_refl _) (.cells #[.slice qn x.names.length dn, .slice qw x.widths.length dw, .slice qc x.chs.length dc, .int .i64 x.last] 26)
          have H7 := Lib.hid (H6.out.trans (hbA.mono H6.out.size))
          have HBX7 := Lib.hid (HBX6.out.later hbA)
          have HBY7 := Lib.hid (Box4.new W6 (.slice qn x.names.length dn) (.slice qw x.widths.length dw) (.slice qc x.chs.length dc) (.int .i64 x.last) 26)
          obtain ⟨a0, a1, a2, a3, _, _, _, _, lta⟩ := HBX7.out
          obtain ⟨y0, y1, y2, y3, _, _, _, _, lty⟩ := HBY7.out
          obtain ⟨z0, z1, z2, z3, e0, e1, e2, e3, ltz⟩ := Box4.new W6 (.slice qn x.names.length dn) (.slice qw x.widths.length dw) (.slice qc x.chs.length dc) (.int .i64 (x.last + k)) 26
          have HSame := Lib.hid (same_any _ _ _ _ _ _ x x ⟨HSM.out.n, HSM.out.w, HSM.out.c⟩ _ (HW6.out.later hbA) (WavAt.later (show WavAt W6 _ _ _ x from hwu) hbA))
          have hend : x.last + (k : Int) - (mo : Int) % 20 = x.last := by have := HMod.out; omega
          have hwr : wrap64 x.last = x.last := Go.IntWalk.wrap64_in _ (by have := HLast.out; omega)
          clear hbA hwu hlg
          go_wp2_with fail
          refine HSame.out.mono ?_
          rintro e W8 ⟨rfl, hb8⟩
          have H8 := Lib.hid (H7.out.trans (hb8.mono H7.out.size))
          clear hb8
          go_wp2
          go_ret
          exact ⟨rfl, H8.out⟩
end Go.Proofs.YtephnfhjobkciaaGreatDoor
