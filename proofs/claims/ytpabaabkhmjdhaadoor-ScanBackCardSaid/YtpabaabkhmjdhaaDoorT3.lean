/- ScanRight. -/
import Derived.Test.YtpabaabkhmjdhaaDoorU9
namespace Go.Proofs.YtpabaabkhmjdhaaDoor
open Go.RowKit Go.Proofs.Scn Go.Flow Go.Sort
set_option linter.unusedVariables false
set_option linter.unusedSimpArgs false
set_option maxRecDepth 100000

/-- each of the tokens that stand right -/
theorem right_each : ∀ {ts : List Tok} {i : Nat} {l : List UInt8}, Right i l ts → ∀ k (h : k < ts.length), ∃ d, ts[k].p = ((i + d : Nat) : Int) ∧ d < l.length ∧ checkT ts[k] = true ∧ ts[k].v < two64 ∧ ts[k].s.length ≤ l.length - d ∧ (ts[k].k ≠ 3 → (l.drop d).take ts[k].s.length = ts[k].s) ∧ (ts[k].k = 3 → isDigit ((l.drop d).headD 0) = true ∧ ts[k].s = []) ∧ ∀ h1 : k + 1 < ts.length, ts[k].p + max (ts[k].s.length : Int) 1 ≤ ts[k + 1].p
  | [], _, _, _, k, h => by simp at h
  | t :: ts, i, l, ⟨d, h1, h2, h3, h4, h5, h6, h7, h8⟩, 0, h => by
    refine ⟨d, h1, h2, h3, h4, h5, h6, h7, fun hh => ?_⟩
    match ts, h8, hh with
    | u :: us, ⟨d', g1, _⟩, _ =>
      simp only [List.getElem_cons_zero, List.getElem_cons_succ]
      rw [h1, g1]
      omega
  | t :: ts, i, l, ⟨d, h1, h2, h3, h4, h5, h6, h7, h8⟩, k + 1, h => by
    obtain ⟨d', g1, g2, g3, g4, g5, g6, g7, g8⟩ := right_each h8 k (by simpa using h)
    simp only [List.getElem_cons_succ]
    rw [List.length_drop] at g2 g5
    rw [List.drop_drop] at g6 g7
    exact ⟨d + max t.s.length 1 + d', by rw [g1]; omega, by omega, g3, g4, by omega, g6, g7, fun hh => g8 (by simpa using hh)⟩
theorem right_first {ts : List Tok} {i : Nat} {l : List UInt8} (h : Right i l ts) (h0 : 0 < ts.length) : (i : Int) ≤ ts[0].p := by
  match ts, h, h0 with
  | t :: ts, ⟨d, h1, _⟩, _ =>
    simp only [List.getElem_cons_zero]
    rw [h1]; omega

theorem bytes_mid {w : World} {b off c : Nat} {s : ByteArray} (i n : Nat) (hi : i + n ≤ s.size) (hlt : b < w.heap.size) (hc : ∀ k (h : k < s.size), w.cell? ⟨b, off + k, none⟩ = some (.int .u8 s[k].toNat)) :
    Bytes w (.slice (some ⟨b, off + i, none⟩) n c) (bs ((s.data.toList.drop i).take n)) := by
  have hl : s.data.toList.length = s.size := rfl
  refine .inr ⟨b, off + i, c, by rw [size_bs, List.length_take, List.length_drop, hl, Nat.min_eq_left (by omega)], hlt, fun k hk => ?_⟩
  have hk' : k < n := by rw [size_bs, List.length_take] at hk; omega
  rw [Nat.add_assoc, hc (i + k) (by omega)]
  rw [getElem_list, getElem_list]
  simp [bs]

theorem slice_mid (b off l c i n : Nat) (h1 : i < c) (h2 : i + n ≤ c) (w : World) :
    (Instr.sliceAt 22 (.slice (some ⟨b, off, none⟩) l c) (some (.int .i64 i)) (some (.int .i64 ((i : Int) + (n : Int)))) none).run Tryd.prog w = .ok (.slice (some ⟨b, off + i, none⟩) n (c - i)) w := by
  have hne : ¬ c = i := by omega
  have e1 : ((i : Int) + (n : Int)).toNat = i + n := by omega
  rw [run_sliceAt_slice _ _ _ _ _ _ byteSlice, run_slice_lh w _ _ _ _ byteSlice _ _ _ _ (by omega) (by omega) (by omega), show (sizeOf (Tryd.prog.elem 22)).run Tryd.prog w = .ok 1 w from by simp [go_sem]]
  simp [Result.andThen, sliced, hne, e1, Addr.add]

set_option maxHeartbeats 8000000 in
theorem right_any (v : Value) (s : ByteArray) (hs : s.size ≤ 140737488355328) (W : World) (hb : Bytes W v s) (hcap : ∀ p l c, v = .slice p l c → l ≤ c) (hB : Base W) :
    Calls Tryd.prog 8 #[v] W fun e W' => e = .returned (.bool true) ∧ Below W.heap.size W W' := by
  have KL := Lib.hid (live_any W hB)
  have HB := Lib.hid hB
  have HBy := Lib.hid hb
  obtain ⟨p, c, hv⟩ := hb.form
  subst hv
  have hcp := hcap p _ c rfl
  clear hb hB hcap
  have hll : s.data.toList.length = s.size := rfl
  by_cases h1 : s.size ≤ 2000
  · have hn : ¬ (2000 : Int) < (s.size : Int) := by omega
    have KS := Lib.hid (fun w hb hB => scan_any (.slice p s.size c) s (by omega) w hb hB)
    cases hr : scanW 0 s.data.toList with
    | error x =>
      obtain ⟨k, er⟩ := x
      rw [hr] at KS
      have her := scan_err hr
      clear hr
      go_enter Tryd.func8, Tryd.ntmps8
      go_wp2_with fail
      refine KL.out.mono ?_
      rintro e W1 ⟨rfl, hb1⟩
      have HW1 := Lib.hid hb1
      have HBy1 := Lib.hid (HBy.out.later hb1)
      have HB1 := Lib.hid (HB.out.later hb1)
      clear hb1
      go_wp2_with fail
      refine (KS.out _ HBy1.out HB1.out).mono ?_
      rintro e W2 ⟨rfl, hb2⟩
      have HW2 := Lib.hid (HW1.out.trans (hb2.mono HW1.out.size))
      clear hb2
      go_wp2
      go_ret
      exact ⟨rfl, HW2.out⟩
    | ok ts =>
      rw [hr] at KS
      have hright := scan_right 0 _ ts hr
      have HE := Lib.hid (right_each hright)
      have HF := Lib.hid (fun h0 => right_first (i := 0) hright h0)
      have hl1 := scanned_len hr
      clear hr hright
      go_enter Tryd.func8, Tryd.ntmps8
      go_wp2_with fail
      refine KL.out.mono ?_
      rintro e W1 ⟨rfl, hb1⟩
      have HW1 := Lib.hid hb1
      have HBy1 := Lib.hid (HBy.out.later hb1)
      have HB1 := Lib.hid (HB.out.later hb1)
      clear hb1
      go_wp2_with fail
      refine (KS.out _ HBy1.out HB1.out).mono ?_
      rintro e W2 ⟨⟨v2, rfl, ho2⟩, hb2⟩
      have HT2 := Lib.hid ho2.toks
      have HW2 := Lib.hid (HW1.out.trans (hb2.mono HW1.out.size))
      clear hb2 ho2
      obtain ⟨q2, c2, rfl⟩ := HT2.out.form
      go_wp2_with fail
      go_loopw [7, 8] (fun u i wr => ∃ (k n : Nat), k ≤ ts.length ∧ i = .int .i64 k ∧ u = .int .i64 n ∧ Hid (∀ h : k < ts.length, (n : Int) ≤ ts[k].p) ∧ Hid (Below W2.heap.size W2 wr)) (fun _ i _ => ts.length - (intOf i).toNat)
      case atStart => exact ⟨0, 0, Nat.zero_le _, rfl, rfl, Lib.hid (fun h => HF.out h), Lib.hid (Below.refl _ _)⟩
      case round =>
        obtain ⟨k, n, hk, rfl, rfl, HN, HX⟩ := hrel
        by_cases hks : k < ts.length
        · obtain ⟨d, g1, g2, g3, g4, g5, g6, g7, g8⟩ := HE.out k hks
          have g0 := HN.out hks
          obtain ⟨b2, o2, c2', hv2, hlt2, hc2⟩ : ∃ b off c', Value.slice q2 ts.length c2 = .slice (some ⟨b, off, none⟩) ts.length c' ∧ b < W2.heap.size ∧ ∀ k (h : k < ts.length), TokAt W2 b (off + k * 5) ts[k] := by
            rcases HT2.out with ⟨h0, _⟩ | h
            · rw [h0] at hks; simp at hks
            · exact h
          simp only [Value.slice.injEq, true_and] at hv2
          obtain ⟨rfl, rfl⟩ := hv2
          obtain ⟨b, off, c', hv, hlt, hc⟩ : ∃ b off c', Value.slice p s.size c = .slice (some ⟨b, off, none⟩) s.size c' ∧ b < W2.heap.size ∧ ∀ k (h : k < s.size), W2.cell? ⟨b, off + k, none⟩ = some (.int .u8 s[k].toNat) := by
            rcases HBy.out.later HW2.out with ⟨h0, _⟩ | h
            · omega
            · exact h
          simp only [Value.slice.injEq, true_and] at hv
          obtain ⟨rfl, rfl⟩ := hv
          obtain ⟨c0, c1, c2, c3, c4⟩ := (hc2 k hks).later hlt2 HX.out
          rw [Nat.zero_add] at g1
          have hlt' : b < wr.heap.size := Nat.lt_of_lt_of_le hlt HX.out.size
          have kc := fun W hB => check_any ts[k].k ts[k].w ts[k].p (bs ts[k].s) ts[k].v (by show ts[k].s.length ≤ _; omega) g4 W hB
          rw [list_bs, show checkT ⟨ts[k].k, ts[k].s, ts[k].w, ts[k].v, ts[k].p⟩ = true from g3, show errB true = 0 from rfl] at kc
          have b5 := Box5.new wr (.int .i64 ts[k].k) (.string (bs ts[k].s)) (.int .i64 ts[k].w) (.int .u64 ts[k].v) (.int .i64 ts[k].p) 32
          have hY := HX.out.alloc HX.out.size (.cells #[.int .i64 ts[k].k, .string (bs ts[k].s), .int .i64 ts[k].w, .int .u64 ts[k].v, .int .i64 ts[k].p] 32)
          have hc' := fun j hj => (hY.cell (p := ⟨b, off + j, none⟩) hlt).trans (hc j hj)
          have hZ : ∀ w', Below (wr.alloc (.cells #[.int .i64 ts[k].k, .string (bs ts[k].s), .int .i64 ts[k].w, .int .u64 ts[k].v, .int .i64 ts[k].p] 32)).heap.size (wr.alloc (.cells #[.int .i64 ts[k].k, .string (bs ts[k].s), .int .i64 ts[k].w, .int .u64 ts[k].v, .int .i64 ts[k].p] 32)) w' → ∀ j (hj : j < s.size), w'.cell? ⟨b, off + j, none⟩ = some (.int .u8 s[j].toNat) := fun w' hb j hj => (hb.cell (p := ⟨b, off + j, none⟩) (Nat.lt_of_lt_of_le hlt hY.size)).trans (hc' j hj)
          have HZ := Lib.hid hZ
          have HY := Lib.hid hY
          have HB5 := Lib.hid b5
          have KC := Lib.hid kc
          have hsz : (bs ts[k].s).size = ts[k].s.length := rfl
          have hds : d < s.size := g2
          have hmx : (d : Int) + max (ts[k].s.length : Int) 1 = ((d + max ts[k].s.length 1 : Nat) : Int) := by omega
          have hnext : ∀ h : k + 1 < ts.length, ((d + max ts[k].s.length 1 : Nat) : Int) ≤ ts[k + 1].p := fun h => by
            have := g8 h
            rw [g1] at this
            omega
          have HNX := Lib.hid hnext
          have h48 : ts[k].k = 3 → 48 ≤ (s[d].toNat : Int) ∧ (s[d].toNat : Int) ≤ 57 := fun hk => by
            have h1 := (g7 hk).1
            rw [List.drop_eq_getElem_cons (show d < s.data.toList.length from g2)] at h1
            simp only [List.headD_cons, isDigit, Bool.and_eq_true, decide_eq_true_eq] at h1
            have e1 : s[d] = s.data.toList[d]'g2 := getElem_list ..
            rw [e1]
            exact ⟨by have := of_decide_eq_true h1.1; omega, by have := of_decide_eq_true h1.2; omega⟩
          have hpart : ts[k].k ≠ 3 → bs ((s.data.toList.drop d).take ts[k].s.length) = bs ts[k].s := fun hk => by rw [g6 hk]
          clear hnext g8 hY hc' hZ b5 kc hc2 hc g6 g7
          generalize ts[k] = t at *
          obtain ⟨tk, tS, tw, tv, tp⟩ := t
          simp only at *
          subst g1
          go_wp2_with fail
          refine (KC.out _ (HB.out.later (HW2.out.trans (HY.out.mono HW2.out.size)))).mono ?_
          rintro e W3 ⟨rfl, hb3⟩
          have HW3 := Lib.hid (HY.out.trans (hb3.mono HY.out.size))
          have hcell := HZ.out W3 hb3
          obtain ⟨e0, e1, e2, e3, e4, f0, f1, f2, f3, f4, lt⟩ := HB5.out.later hb3
          clear HZ HB5 hb3
          have d1 : ¬ (d : Int) < (n : Int) := by omega
          have d2 : ¬ (s.size : Int) ≤ (d : Int) := by omega
          have d3 : ¬ (s.size : Int) - (d : Int) < ((bs tS).size : Int) := by omega
          go_wp2_with fail
          have HWW := Lib.hid (HW2.out.trans (HW3.out.mono HW2.out.size))
          by_cases hk3 : tk = 3
          · subst hk3
            obtain ⟨p1, p2⟩ := h48 rfl
            have p3 : ¬ (s[d].toNat : Int) < 48 := by omega
            have p4 : ¬ 57 < (s[d].toNat : Int) := by omega
            have hcd := hcell d hds
            clear h48 hpart hcell
            go_quiet (fail)
            go_wp2_with fail
            go_roundw
            case rel => exact ⟨k + 1, _, by omega, by go_num, by go_num, HNX, Lib.hid (below_drewN HW3.out _)⟩
            case measure => simp [intOf]; omega
          · have hq := fun n => str_run ((bytes_mid (w := W3) (c := c - d) d tS.length (by omega) (Nat.lt_of_lt_of_le hlt' (by omega)) hcell).later (below_drewN (Below.refl _ _) n))
            simp only [hpart hk3] at hq
            clear h48 hpart hcell
            have p1 : (tk == 3) = false := by simpa using hk3
            have p2 : (tk != 3) = true := by simpa using hk3
            have hsl := slice_mid b off s.size c d tS.length (by omega) (by omega)
            go_quiet (fail)
            go_wp2_with fail
            go_roundw
            case rel => exact ⟨k + 1, _, by omega, by go_num, by go_num, HNX, Lib.hid (below_drewN HW3.out _)⟩
            case measure => simp [intOf]; omega
        · go_wp2_with fail
          go_ret
          exact ⟨rfl, HW2.out.trans (HX.out.mono HW2.out.size)⟩
  · have hn : (2000 : Int) < (s.size : Int) := by omega
    go_enter Tryd.func8, Tryd.ntmps8
    go_wp2_with fail
    refine KL.out.mono ?_
    rintro e W1 ⟨rfl, hb1⟩
    have HW1 := Lib.hid hb1
    clear hb1
    go_wp2
    go_ret
    exact ⟨rfl, HW1.out⟩

end Go.Proofs.YtpabaabkhmjdhaaDoor
