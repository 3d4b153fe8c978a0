/- Texts of the Wave laws, merged: W4, W5, W6, W7, W8, W9, WA. -/
import Derived.Test.YtephnfhjobkciaaGreatDoorQ2
import Derived.Test.YtephnfhjobkciaaGreatDoorQS
import Derived.Maps.OwnSet
import Derived.StillTailTactics

/- May names and widths be: the reference. -/
namespace Go.Proofs.Wav
set_option linter.unusedVariables false
set_option linter.unusedSimpArgs false
theorem sigs_step {ns : List Ln} {ws : List Int} {k : Nat} (hl : ws.length = ns.length) (hk : k < ns.length) (hk' : k < ws.length) (h : sigsOk (ns.take k) (ws.take k) = true) (h1 : nameOk ns[k] = true) (h2 : widthOk ws[k] = true) (h3 : ns[k] ∉ ns.take k) :
    sigsOk (ns.take (k + 1)) (ws.take (k + 1)) = true := by
  simp only [sigsOk, Bool.and_eq_true, decide_eq_true_eq] at h ⊢
  obtain ⟨a, b, c, d⟩ := h
  rw [List.take_succ_eq_append_getElem hk, List.take_succ_eq_append_getElem hk']
  refine ⟨by simp only [List.length_append, List.length_singleton]; omega, by rw [List.all_append, b, List.all_cons, h1]; rfl, by rw [List.all_append, c, List.all_cons, h2]; rfl, ?_⟩
  rw [List.nodup_append]
  refine ⟨d, by simp, ?_⟩
  intro x hx y hy
  rw [List.mem_singleton] at hy
  subst hy
  rintro rfl
  exact h3 hx
theorem sigs_bad_name {ns : List Ln} {ws : List Int} {k : Nat} (hk : k < ns.length) (h : nameOk ns[k] = false) : sigsOk ns ws = false := by
  rw [Bool.eq_false_iff]
  intro hs
  simp only [sigsOk, Bool.and_eq_true, decide_eq_true_eq, List.all_eq_true] at hs
  have := hs.2.1 _ (List.getElem_mem hk)
  rw [h] at this
  cases this
theorem sigs_bad_width {ns : List Ln} {ws : List Int} {k : Nat} (hk : k < ws.length) (h : widthOk ws[k] = false) : sigsOk ns ws = false := by
  rw [Bool.eq_false_iff]
  intro hs
  simp only [sigsOk, Bool.and_eq_true, decide_eq_true_eq, List.all_eq_true] at hs
  have := hs.2.2.1 _ (List.getElem_mem hk)
  rw [h] at this
  cases this
theorem sigs_bad_twice {ns : List Ln} {ws : List Int} {j k : Nat} (hk : k < ns.length) (hj : j < k) (h : ns[j]'(by omega) = ns[k]) : sigsOk ns ws = false := by
  rw [Bool.eq_false_iff]
  intro hs
  simp only [sigsOk, Bool.and_eq_true, decide_eq_true_eq] at hs
  have := List.pairwise_iff_getElem.1 hs.2.2.2 j k (by omega) hk hj
  exact this h
theorem sigs_bad_len {ns : List Ln} {ws : List Int} (h : ¬ ws.length = ns.length) : sigsOk ns ws = false := by
  unfold sigsOk
  rw [decide_eq_false h]
  rfl
theorem name_step {s : Ln} {k : Nat} (hk : k < s.length) (h : ((s.take k).all fun c => decide (33 ≤ c.toNat) && decide (c.toNat ≤ 126)) = true) (h1 : 33 ≤ s[k].toNat) (h2 : s[k].toNat ≤ 126) :
    ((s.take (k + 1)).all fun c => decide (33 ≤ c.toNat) && decide (c.toNat ≤ 126)) = true := by
  rw [List.take_succ_eq_append_getElem hk, List.all_append, h]
  simp [h1, h2]
theorem name_bad {s : Ln} {k : Nat} (hk : k < s.length) (h : s[k].toNat < 33 ∨ 126 < s[k].toNat) : nameOk s = false := by
  rw [Bool.eq_false_iff]
  intro hs
  simp only [nameOk, Bool.and_eq_true, decide_eq_true_eq, List.all_eq_true] at hs
  have := hs.2 _ (List.getElem_mem hk)
  omega
theorem name_all {s : Ln} (h : ((s.take s.length).all fun c => decide (33 ≤ c.toNat) && decide (c.toNat ≤ 126)) = true) : nameOk s = !s.isEmpty := by
  rw [List.take_length] at h
  unfold nameOk
  rw [h, Bool.and_true]
end Go.Proofs.Wav
namespace Go.Proofs.YtephnfhjobkciaaGreatDoor
open Go.RowKit Go.Proofs.Wav Go.Sort
set_option linter.unusedVariables false
set_option linter.unusedSimpArgs false
set_option maxRecDepth 100000

set_option maxHeartbeats 2000000 in
theorem rname_any (s : Ln) (hs : s.length ≤ 100000) (W : World) :
    Calls Tryz.prog 65 #[.string (bs s)] W fun e W' => e = .returned (.bool (nameOk s)) ∧ W = W' := by
  have hsz : (bs s).size = s.length := rfl
  have hem : (bs s).toList.isEmpty = s.isEmpty := by rw [toL]
  go_enter Tryz.func65, Tryz.ntmps65
  go_wp2
  go_loopw [3] (fun i wr => ∃ k : Nat, k ≤ s.length ∧ i = .int .i64 k ∧ Hid (((s.take k).all fun c => decide (33 ≤ c.toNat) && decide (c.toNat ≤ 126)) = true) ∧ wr = W) (fun i _ => s.length - (intOf i).toNat)
  case atStart => exact ⟨0, Nat.zero_le _, rfl, Lib.hid (by simp), rfl⟩
  case round =>
    obtain ⟨k, hk, rfl, HE, rfl⟩ := hrel
    by_cases hks : k < s.length
    · have hkz : k < (bs s).size := hks
      have hn := fun h => name_bad hks h
      have hy := fun h1 h2 => name_step hks HE.out h1 h2
      have hg : (bs s)[k] = s[k] := rfl
      generalize s[k] = c at *
      by_cases h1 : c.toNat < 33
      · have h1' : (c.toNat : Int) < 33 := by omega
        have HN := Lib.hid (hn (.inl h1))
        clear h1 hn hy
        go_wp2_with fail
        go_ret
        exact ⟨ret_bool HN.out.symm, rfl⟩
      · have h1' : ¬ (c.toNat : Int) < 33 := by omega
        by_cases h2 : 126 < c.toNat
        · have h2' : 126 < (c.toNat : Int) := by omega
          have HN := Lib.hid (hn (.inr h2))
          clear h1 h2 hn hy
          go_wp2_with fail
          go_ret
          exact ⟨ret_bool HN.out.symm, rfl⟩
        · have h2' : ¬ 126 < (c.toNat : Int) := by omega
          have HN := Lib.hid (hy (by omega) (by omega))
          clear h1 h2 hn hy
          go_wp2_with fail
          go_roundw
          case rel => exact ⟨k + 1, by omega, by go_num, HN, by first | rfl | trivial⟩
          case measure => simp [intOf]; omega
    · obtain rfl : k = s.length := by omega
      have HN := Lib.hid (name_all HE.out)
      go_wp2_with fail
      go_ret
      exact ⟨ret_bool (by rw [HN.out]), rfl⟩

end Go.Proofs.YtephnfhjobkciaaGreatDoor

/- May names and widths be: the reference, whole. -/
namespace Go.Proofs.YtephnfhjobkciaaGreatDoor
open Go.RowKit Go.Proofs.Wav Go.Sort
set_option linter.unusedVariables false
set_option linter.unusedSimpArgs false
set_option maxRecDepth 100000

/-- a wave that is no greater than anybody asks -/
structure Small (x : Wv) : Prop where
  n : x.names.length ≤ 100000
  w : x.widths.length ≤ 100000
  c : x.chs.length ≤ 100000
  s : ∀ s ∈ x.names, s.length ≤ 100000

set_option maxHeartbeats 8000000 in
theorem rsignals_any (vn vw vc : Value) (x : Wv) (hs : Small x) (W : World) (h1 : WavAt W vn vw vc x) :
    Calls Tryz.prog 42 #[.agg #[vn, vw, vc, .int .i64 x.last]] W fun e W' => e = .returned (.bool (sigsOk x.names x.widths)) ∧ Below W.heap.size W W' := by
  obtain ⟨xn, xw, xc, xl⟩ := x
  obtain ⟨s1, s2, s3, s4⟩ := hs
  simp only at *
  obtain ⟨pn, cn, rfl⟩ := h1.1.form
  obtain ⟨pw, cw, rfl⟩ := h1.2.1.form
  obtain ⟨pc, cc, rfl⟩ := h1.2.2.form
  simp only at *
  have b1 := Box4.new W (.slice pn xn.length cn) (.slice pw xw.length cw) (.slice pc xc.length cc) (.int .i64 xl) 26
  have hb1 := (Below.refl W.heap.size W).alloc (Nat.le_refl _) (.cells #[.slice pn xn.length cn, .slice pw xw.length cw, .slice pc xc.length cc, .int .i64 xl] 26)
  have HX := Lib.hid (fun w hb (h0 : 0 < xn.length) => Slc.at (Slc.later (w' := w) (Slc.later h1.1 hb1) hb) h0)
  have HY := Lib.hid (fun w hb (h0 : 0 < xw.length) => Slc.at (Slc.later (w' := w) (Slc.later h1.2.1 hb1) hb) h0)
  have HB := Lib.hid hb1
  have HA := Lib.hid (fun o => (Below.refl W.heap.size W).alloc (Nat.le_refl _) o)
  have HS := Lib.hid s4
  clear hb1 h1 s4
  by_cases hl : xw.length = xn.length
  case neg =>
    have hl' : ¬ (xw.length : Int) = (xn.length : Int) := by omega
    go_enter Tryz.func42, Tryz.ntmps42
    go_wp2
    go_ret
    exact ⟨ret_bool (sigs_bad_len hl).symm, HA.out _⟩
  rw [hl] at b1 HB HX HY ⊢
  have HL := Lib.hid hl
  clear hl
  go_enter Tryz.func42, Tryz.ntmps42
  go_wp2_with fail
  generalize W.alloc (.cells #[.slice pn xn.length cn, .slice pw xn.length cw, .slice pc xc.length cc, .int .i64 xl] 26) = Z at *
  have HB1 := Lib.hid b1
  clear b1
  go_loopw [3] (fun i wr => ∃ k : Nat, k ≤ xn.length ∧ i = .int .i64 k ∧ Hid (Below Z.heap.size Z wr) ∧ Hid (sigsOk (xn.take k) (xw.take k) = true)) (fun i _ => xn.length - (intOf i).toNat)
  case atStart => exact ⟨0, Nat.zero_le _, rfl, Lib.hid (Below.refl _ _), Lib.hid rfl⟩
  case round =>
    obtain ⟨k, hk, rfl, HR, HE⟩ := hrel
    obtain ⟨a0, a1, a2, a3, _, _, _, _, _⟩ := HB1.out.later HR.out
    by_cases hks : k < xn.length
    · have hkw : k < xw.length := by have := HL.out; omega
      obtain ⟨bx, ox, hpx, hltx, hcx⟩ := HX.out _ HR.out (by omega)
      obtain ⟨bw, ow, hpw, hltw, hcw⟩ := HY.out _ HR.out (by omega)
      have x0 := one_at hcx k hks
      have w0 := hcw k (by omega)
      rw [List.getElem?_map, List.getElem?_eq_getElem hkw] at w0
      have HCX := Lib.hid hcx
      have hltx' : bx < wr.heap.size := hltx
      subst hpx hpw
      clear hcx hcw hltx hltw
      unfold strV at x0
      simp only [Option.map_some, intV] at w0
      have kn := fun W => rname_any xn[k] (HS.out _ (List.getElem_mem hks)) W
      cases hn : nameOk xn[k]
      · rw [hn] at kn
        have KN := Lib.hid kn
        have HN := Lib.hid (sigs_bad_name (ws := xw) hks hn)
        clear kn hn
        go_wp2_with fail
        refine (KN.out _).mono ?_
        rintro e w' ⟨rfl, rfl⟩
        go_wp2_with fail
        go_ret
        exact ⟨ret_bool HN.out.symm, HB.out.trans (HR.out.mono HB.out.size)⟩
      · rw [hn] at kn
        have KN := Lib.hid kn
        clear kn
        by_cases w1 : xw[k] < 1
        · have HN := Lib.hid (sigs_bad_width (ns := xn) hkw (by unfold widthOk; rw [decide_eq_false (by omega)]; rfl))
          clear hn
          go_wp2_with fail
          refine (KN.out _).mono ?_
          rintro e w' ⟨rfl, rfl⟩
          go_wp2_with fail
          go_ret
          exact ⟨ret_bool HN.out.symm, HB.out.trans (HR.out.mono HB.out.size)⟩
        · by_cases w2 : 64 < xw[k]
          · have HN := Lib.hid (sigs_bad_width (ns := xn) hkw (by unfold widthOk; rw [decide_eq_false (show ¬ xw[k] ≤ 64 by omega), Bool.and_false]))
            clear hn
            go_wp2_with fail
            refine (KN.out _).mono ?_
            rintro e w' ⟨rfl, rfl⟩
            go_wp2_with fail
            go_ret
            exact ⟨ret_bool HN.out.symm, HB.out.trans (HR.out.mono HB.out.size)⟩
          · have HST := Lib.hid (fun h3 => sigs_step HL.out hks hkw HE.out hn (by unfold widthOk; rw [decide_eq_true (show 1 ≤ xw[k] by omega), decide_eq_true (show xw[k] ≤ 64 by omega)]; rfl) h3)
            have HTW := Lib.hid (fun j (hj : j < k) h => sigs_bad_twice (ws := xw) hks hj h)
            clear hn
            go_wp2_with fail
            refine (KN.out _).mono ?_
            rintro e w' ⟨rfl, rfl⟩
            go_wp2_with fail
            have HR0 := Lib.hid HR.out
            go_loopw [4] (fun i wq => ∃ j : Nat, j ≤ k ∧ i = .int .i64 j ∧ Hid (Below wr.heap.size wr wq) ∧ Hid (∀ s ∈ xn.take j, s ≠ xn[k])) (fun i _ => k - (intOf i).toNat)
            case atStart => exact ⟨0, Nat.zero_le _, rfl, Lib.hid (Below.refl _ _), Lib.hid (by simp)⟩
            case round =>
              obtain ⟨j, hj, rfl, HQ, HM⟩ := hrel
              have HRQ := Lib.hid (HR0.out.trans (HQ.out.mono HR0.out.size))
              obtain ⟨a0, a1, a2, a3, _, _, _, _, _⟩ := HB1.out.later HRQ.out
              have xk := (HQ.out.cell (p := ⟨bx, ox + k, none⟩) hltx').trans x0
              by_cases hjk : j < k
              · have hjn : j < xn.length := by omega
                have xj := (HQ.out.cell (p := ⟨bx, ox + j, none⟩) hltx').trans (one_at HCX.out j hjn)
                unfold strV at xj
                by_cases he : xn[j] = xn[k]
                · have HN := Lib.hid (HTW.out j hjk he)
                  rw [he] at xj
                  clear he
                  go_wp2_with fail
                  go_quiet (fail)
                  go_wp2_with fail
                  go_ret
                  exact ⟨ret_bool HN.out.symm, HB.out.trans ((below_drewN HRQ.out _).mono HB.out.size)⟩
                · have hn0 : ¬ (bs xn[j]).toList = (bs xn[k]).toList := by rw [toL, toL]; exact he
                  have hn1 : ((bs xn[j]).toList == (bs xn[k]).toList) = false := by simpa using hn0
                  have HN : Hid (∀ s ∈ xn.take (j + 1), s ≠ xn[k]) := Lib.hid (by
                    intro s hs
                    rw [List.take_succ_eq_append_getElem hjn] at hs
                    rcases List.mem_append.1 hs with h1 | h1
                    · exact HM.out s h1
                    · rw [List.mem_singleton.1 h1]; exact he)
                  clear he
                  go_wp2_with fail
                  go_quiet (fail)
                  go_wp2_with fail
                  go_roundw
                  case rel => exact ⟨j + 1, by omega, by go_num, Lib.hid (below_drewN HQ.out _), HN⟩
                  case measure => simp [intOf]; omega
              · obtain rfl : j = k := by omega
                have HN := Lib.hid (HST.out (fun hm => HM.out _ hm rfl))
                go_wp2_with fail
                go_roundw
                case rel => exact ⟨j + 1, by omega, by go_num, HRQ, HN⟩
                case measure => simp [intOf]; omega
    · obtain rfl : k = xn.length := by omega
      have hE := HE.out
      rw [List.take_length, ← HL.out, List.take_length] at hE
      have HN := Lib.hid hE
      clear hE
      go_wp2_with fail
      go_ret
      exact ⟨ret_bool HN.out.symm, HB.out.trans (HR.out.mono HB.out.size)⟩

end Go.Proofs.YtephnfhjobkciaaGreatDoor

/- What may be a wave: the reference. -/
namespace Go.Proofs.Wav
set_option linter.unusedVariables false
set_option linter.unusedSimpArgs false
theorem okR_bad {n : Nat} {ws : List Int} {last : Int} {l : List Chg} {k : Nat} (hk : k < l.length) (h : stepR n ws last (l.take k) l[k] = false) : okR n ws last l = false := by
  rw [Bool.eq_false_iff]
  intro hs
  unfold okR at hs
  rw [Bool.and_eq_true, allSteps_iff] at hs
  have := hs.1 k hk
  rw [List.nil_append, h] at this
  cases this
theorem okR_end {n : Nat} {ws : List Int} {last : Int} {l : List Chg} (h : ∀ k (hk : k < l.length), stepR n ws last (l.take k) l[k] = true) : okR n ws last l = decide (zeros l = n) := by
  unfold okR
  rw [allSteps_iff.2 (fun k hk => by rw [List.nil_append]; exact h k hk), Bool.true_and]
theorem check_two {x : Wv} (h : 512 < x.names.length ∨ 65536 < x.chs.length ∨ 2147483647 < x.last) : checkW x = 2 := by
  unfold checkW
  rw [if_pos h]
theorem check_one {x : Wv} (h : ¬ (512 < x.names.length ∨ 65536 < x.chs.length ∨ 2147483647 < x.last)) (h2 : ¬ (sigsOk x.names x.widths = true ∧ 0 ≤ x.last)) : checkW x = 1 := by
  unfold checkW
  rw [if_neg h, if_neg (fun hh => h2 ⟨hh.1, hh.2.1⟩)]
theorem check_rest {x : Wv} (h : ¬ (512 < x.names.length ∨ 65536 < x.chs.length ∨ 2147483647 < x.last)) (h1 : sigsOk x.names x.widths = true) (h2 : 0 ≤ x.last) : checkW x = if okR x.names.length x.widths x.last x.chs = true then 0 else 1 := by
  unfold checkW
  rw [if_neg h, okP_okR]
  by_cases hk : okR x.names.length x.widths x.last x.chs = true
  · rw [if_pos hk, if_pos ⟨h1, h2, hk⟩]
  · rw [if_neg hk, if_neg (fun hh => hk hh.2.2)]
theorem zeros_step (l : List Chg) (k : Nat) (h : k < l.length) : zeros (l.take (k + 1)) = zeros (l.take k) + if l[k].t = 0 then 1 else 0 := by
  rw [List.take_succ_eq_append_getElem h]
  unfold zeros
  rw [List.filter_append, List.length_append]
  by_cases h0 : l[k].t = 0
  · rw [if_pos h0, List.filter_cons_of_pos (by simp [h0])]; rfl
  · rw [if_neg h0, List.filter_cons_of_neg (by simp [h0])]; rfl
theorem stepR_one {n : Nat} {ws : List Int} {last : Int} {pre : List Chg} {c : Chg} (h : okOne n ws last c = false) : stepR n ws last pre c = false := by
  unfold stepR
  rw [h]
  simp
theorem stepR_order {n : Nat} {ws : List Int} {last : Int} {pre : List Chg} {c p : Chg} (hp : pre.getLast? = some p) (h : behindC p c = false) : stepR n ws last pre c = false := by
  unfold stepR
  rw [hp]
  simp [h]
theorem stepR_same {n : Nat} {ws : List Int} {last : Int} {pre : List Chg} {c : Chg} (h0 : 0 < c.t) (h : (told pre c.g).getD 0 = c.v) : stepR n ws last pre c = false := by
  unfold stepR
  rw [decide_eq_true h0, decide_eq_true h]
  simp
theorem stepR_good {n : Nat} {ws : List Int} {last : Int} {pre : List Chg} {c : Chg} (h1 : okOne n ws last c = true) (h2 : ∀ p, pre.getLast? = some p → behindC p c = true) (h3 : ¬ (0 < c.t ∧ (told pre c.g).getD 0 = c.v)) : stepR n ws last pre c = true := by
  have h4 : (decide (0 < c.t) && decide ((told pre c.g).getD 0 = c.v)) = false := by
    by_cases h0 : 0 < c.t
    · rw [decide_eq_false (fun h => h3 ⟨h0, h⟩), Bool.and_false]
    · rw [decide_eq_false h0]; rfl
  unfold stepR
  rw [h1, h4]
  cases h : pre.getLast? with
  | none => rfl
  | some p => simp [h2 p h]
end Go.Proofs.Wav
namespace Go.Proofs.YtephnfhjobkciaaGreatDoor
open Go.RowKit Go.Proofs.Wav Go.Sort
set_option linter.unusedVariables false
set_option linter.unusedSimpArgs false
set_option maxRecDepth 100000

theorem u64Slice : Tryz.prog.underlying 52 = some (.slice 33) := by kernel_rfl
theorem u64Info : (Tryz.prog.info? 33).map (fun i => (i.zero, i.size, i.bytes)) = some (some (.int .u64 0), 1, 8) := by kernel_rfl
theorem make_u64 (n : Nat) (h : n ≤ 1000000) : ∃ cur : Array Value, (∀ s, s < n → cur[s]? = some (.int .u64 0)) ∧ ∀ w, (Instr.makeSlice 52 (.int .i64 n) (.int .i64 n)).run Tryz.prog w = .ok (.slice (some ⟨w.heap.size, 0, none⟩) n n) (w.alloc (.cells cur 33)) := by
  obtain ⟨i0, hi, hz0, hz1, hz2⟩ := info_parts u64Info
  refine ⟨madeCells (Value.int .u64 0).cells (n * i0.size), fun s hs => ?_, fun w => ?_⟩
  · rw [hz1, Nat.mul_one, ← Array.getElem?_toList, show (Value.int .u64 0).cells = #[Value.int .u64 0] from rfl, toList_madeCells_one, List.getElem?_replicate, if_pos hs]
  · have := run_make (P := Tryz.prog) w 52 33 i0 (.int .u64 0) u64Slice hi hz0 .i64 .i64 (n : Int) (n : Int) (by omega) (Int.le_refl _) (by rw [hz2]; omega) (by omega)
    simpa using this

/-- a row of numbers that the call owns -/
def NowAt (w : World) (b n : Nat) (f : Nat → Nat) : Prop := ∃ cur : Array Value, w.heap[b]? = some (.cells cur 33 (0, 0)) ∧ ∀ s, s < n → cur[s]? = some (.int .u64 (f s))
theorem NowAt.cell {w : World} {b n : Nat} {f : Nat → Nat} (h : NowAt w b n f) {s : Nat} (hs : s < n) : w.cell? ⟨b, s, none⟩ = some (.int .u64 (f s)) ∧ w.frozen? ⟨b, s, none⟩ = false := by
  obtain ⟨cur, h1, h2⟩ := h
  exact ⟨by rw [cell_of_row w b s cur _ (0, 0) h1]; exact h2 s hs, by simp [World.frozen?, h1]⟩
theorem NowAt.lt {w : World} {b n : Nat} {f : Nat → Nat} (h : NowAt w b n f) : b < w.heap.size := by
  obtain ⟨cur, h1, h2⟩ := h
  exact (Array.getElem?_eq_some_iff.1 h1).1
theorem NowAt.alloc {w : World} {b n : Nat} {f : Nat → Nat} (h : NowAt w b n f) (o : Obj) : NowAt (w.alloc o) b n f := by
  have hl := h.lt
  obtain ⟨cur, h1, h2⟩ := h
  exact ⟨cur, (heap_alloc_old w o hl).trans h1, h2⟩
theorem NowAt.drewN {w : World} {b n : Nat} {f : Nat → Nat} (h : NowAt w b n f) (m : Nat) : NowAt (w.drewN m) b n f := h
theorem NowAt.set {w : World} {b n : Nat} {f f' : Nat → Nat} (h : NowAt w b n f) {g v : Nat} (hg : g < n) (hf : ∀ s, s < n → f' s = if s = g then v else f s) : NowAt (w.setCell ⟨b, g, none⟩ (.int .u64 v)) b n f' := by
  obtain ⟨cur, h1, h2⟩ := h
  refine ⟨cur.setIfInBounds g (.int .u64 v), by simp [World.setCell, Array.getElem?_modify, h1], fun s hs => ?_⟩
  rw [Array.getElem?_setIfInBounds, hf s hs]
  by_cases he : g = s
  · subst he
    have hlt : g < cur.size := by
      rcases Nat.lt_or_ge g cur.size with h | h
      · exact h
      · have := h2 g hg
        rw [Array.getElem?_eq_none h] at this
        cases this
    rw [if_pos rfl, if_pos rfl, if_pos hlt]
  · rw [if_neg he, if_neg (Ne.symm he)]
    exact h2 s hs
/-- a box of three cells -/
structure Box3 (w : World) (n : Nat) (a b c : Value) : Prop where
  c0 : w.cell? ⟨n, 0, none⟩ = some a
  c1 : w.cell? ⟨n, 1, none⟩ = some b
  c2 : w.cell? ⟨n, 2, none⟩ = some c
  lt : n < w.heap.size
theorem Box3.new (w : World) (a b c : Value) (t : TypeId) : Box3 (w.alloc (.cells #[a, b, c] t)) w.heap.size a b c :=
  ⟨by simp [World.cell?_alloc_new], by simp [World.cell?_alloc_new], by simp [World.cell?_alloc_new], by simp⟩
theorem Box3.later {w w' : World} {n : Nat} {a b c : Value} (h : Box3 w n a b c) (hb : Below w.heap.size w w') : Box3 w' n a b c :=
  ⟨(hb.cell (p := ⟨n, 0, none⟩) h.lt).trans h.c0, (hb.cell (p := ⟨n, 1, none⟩) h.lt).trans h.c1, (hb.cell (p := ⟨n, 2, none⟩) h.lt).trans h.c2, Nat.lt_of_lt_of_le h.lt hb.size⟩

set_option maxHeartbeats 8000000 in
theorem rcheck_any (vn vw vc : Value) (x : Wv) (hs : Small x) (W : World) (h1 : WavAt W vn vw vc x) :
    Calls Tryz.prog 19 #[.agg #[vn, vw, vc, .int .i64 x.last]] W fun e W' => e = .returned (.int .i64 (checkW x)) ∧ Below W.heap.size W W' := by
  have HS := Lib.hid (fun w hb => rsignals_any vn vw vc x hs w (h1.later hb))
  have HC2 := Lib.hid (@check_two x)
  have HC1 := Lib.hid (@check_one x)
  have HC0 := Lib.hid (@check_rest x)
  obtain ⟨xn, xw, xc, xl⟩ := x
  obtain ⟨s1, s2, s3, s4⟩ := hs
  simp only at *
  obtain ⟨pn, cn, rfl⟩ := h1.1.form
  obtain ⟨pw, cw, rfl⟩ := h1.2.1.form
  obtain ⟨pc, cc, rfl⟩ := h1.2.2.form
  simp only at *
  have b1 := Box4.new W (.slice pn xn.length cn) (.slice pw xw.length cw) (.slice pc xc.length cc) (.int .i64 xl) 26
  have hb1 := (Below.refl W.heap.size W).alloc (Nat.le_refl _) (.cells #[.slice pn xn.length cn, .slice pw xw.length cw, .slice pc xc.length cc, .int .i64 xl] 26)
  have HW := Lib.hid (fun w hb (h0 : 0 < xw.length) => Slc.at (Slc.later (w' := w) (Slc.later h1.2.1 hb1) hb) h0)
  have HC := Lib.hid (fun w hb (h0 : 0 < xc.length) => Slc.at (Slc.later (w' := w) (Slc.later h1.2.2 hb1) hb) h0)
  have HB := Lib.hid hb1
  have HA := Lib.hid (fun o => (Below.refl W.heap.size W).alloc (Nat.le_refl _) o)
  clear hb1 h1 s4
  generalize hck : checkW ⟨xn, xw, xc, xl⟩ = R at *
  by_cases c1 : 512 < xn.length
  · have c1' : (512 : Int) < (xn.length : Int) := by omega
    obtain rfl := HC2.out (.inl c1)
    go_enter Tryz.func19, Tryz.ntmps19
    go_wp2
    go_ret
    exact ⟨rfl, HA.out _⟩
  by_cases c2 : 65536 < xc.length
  · have c1' : ¬ (512 : Int) < (xn.length : Int) := by omega
    have c2' : (65536 : Int) < (xc.length : Int) := by omega
    obtain rfl := HC2.out (.inr (.inl c2))
    go_enter Tryz.func19, Tryz.ntmps19
    go_wp2
    go_ret
    exact ⟨rfl, HA.out _⟩
  by_cases c3 : 2147483647 < xl
  · have c1' : ¬ (512 : Int) < (xn.length : Int) := by omega
    have c2' : ¬ (65536 : Int) < (xc.length : Int) := by omega
    obtain rfl := HC2.out (.inr (.inr c3))
    go_enter Tryz.func19, Tryz.ntmps19
    go_wp2
    go_ret
    exact ⟨rfl, HA.out _⟩
  have c1' : ¬ (512 : Int) < (xn.length : Int) := by omega
  have c2' : ¬ (65536 : Int) < (xc.length : Int) := by omega
  have hno : ¬ (512 < xn.length ∨ 65536 < xc.length ∨ 2147483647 < xl) := by omega
  cases hsig : sigsOk xn xw
  · obtain rfl := HC1.out hno (fun h => by rw [hsig] at h; cases h.1)
    rw [hsig] at HS
    go_enter Tryz.func19, Tryz.ntmps19
    go_wp2_with fail
    refine (HS.out _ HB.out).mono ?_
    rintro e W2 ⟨rfl, hb2⟩
    have HW2 := Lib.hid (HB.out.trans (hb2.mono HB.out.size))
    clear hb2
    go_wp2
    go_ret
    exact ⟨rfl, HW2.out⟩
  rw [hsig] at HS
  by_cases c4 : xl < 0
  · obtain rfl := HC1.out hno (fun h => by omega)
    go_enter Tryz.func19, Tryz.ntmps19
    go_wp2_with fail
    refine (HS.out _ HB.out).mono ?_
    rintro e W2 ⟨rfl, hb2⟩
    have HW2 := Lib.hid (HB.out.trans (hb2.mono HB.out.size))
    obtain ⟨a0, a1, a2, a3, _, _, _, _, _⟩ := b1.later hb2
    clear hb2
    go_wp2
    go_ret
    exact ⟨rfl, HW2.out⟩
  have hR := HC0.out hno hsig (by omega)
  have c4' : ¬ xl < 0 := c4
  have HRR := Lib.hid hR
  have HL : Hid (xw.length = xn.length) := Lib.hid (by unfold sigsOk at hsig; rw [Bool.and_eq_true] at hsig; exact of_decide_eq_true hsig.1)
  clear hR HC0 HC1 HC2 hno hsig hck
  go_enter Tryz.func19, Tryz.ntmps19
  go_wp2_with fail
  refine (HS.out _ HB.out).mono ?_
  rintro e W2 ⟨rfl, hb2⟩
  have HW2 := Lib.hid (HB.out.trans (hb2.mono HB.out.size))
  have b2 := b1.later hb2
  have HZ2 := Lib.hid hb2
  clear hb2 b1
  obtain ⟨a0, a1, a2, a3, _, _, _, _, lt0⟩ := id b2
  obtain ⟨cur, hcur, hmake⟩ := make_u64 xn.length (by omega)
  have HN0 : Hid (NowAt (W2.alloc (.cells cur 33)) W2.heap.size xn.length (fun s => (told ([] : List Chg) s).getD 0)) := Lib.hid ⟨cur, heap_alloc_new W2 _, fun s hs => by rw [hcur s hs]; rfl⟩
  have HZ0 := Lib.hid ((Below.refl W2.heap.size W2).alloc (Nat.le_refl _) (.cells cur 33))
  go_wp2_with fail
  generalize W2.alloc (.cells cur 33) = Z at *
  clear hmake hcur a0 a1 a2 a3
  go_loopw [4, 5] (fun f i wr => ∃ k m : Nat, k ≤ xc.length ∧ i = .int .i64 k ∧ f = .int .i64 m ∧ m ≤ k ∧ Hid (m = zeros (xc.take k)) ∧ Hid (Below W2.heap.size W2 wr) ∧ Hid (NowAt wr W2.heap.size xn.length (fun s => (told (xc.take k) s).getD 0)) ∧ Hid (∀ j (h : j < xc.length), j < k → stepR xn.length xw xl (xc.take j) xc[j] = true)) (fun _ i _ => xc.length - (intOf i).toNat)
  case atStart => exact ⟨0, 0, Nat.zero_le _, rfl, rfl, Nat.le_refl _, Lib.hid rfl, HZ0, HN0, Lib.hid (fun j h hj => by omega)⟩
  case round =>
    obtain ⟨k, m, hk, rfl, rfl, hmk, HM, HX, HN, HE⟩ := hrel
    obtain ⟨a0, a1, a2, a3, _, _, _, _, _⟩ := b2.later HX.out
    by_cases hks : k < xc.length
    · have HZX := Lib.hid (HZ2.out.trans (HX.out.mono HZ2.out.size))
      obtain ⟨bc, oc, hpc, hltc, hcc⟩ := HC.out _ HZX.out (by omega)
      obtain ⟨x0, x1, x2⟩ := chg_at hcc k hks
      have HCC := Lib.hid hcc
      subst hpc
      clear hcc
      have HBO := Lib.hid (fun h => (HRR.out.trans (by rw [okR_bad hks (stepR_one h)]; rfl) : R = 1))
      have HBP := Lib.hid (fun p hp h => (HRR.out.trans (by rw [okR_bad hks (stepR_order (p := p) hp h)]; rfl) : R = 1))
      have HBS := Lib.hid (fun h0 h => (HRR.out.trans (by rw [okR_bad hks (stepR_same h0 h)]; rfl) : R = 1))
      have HGO := Lib.hid (@stepR_good xn.length xw xl (xc.take k) (xc[k]'hks))
      have hzs := zeros_step xc k hks
      rw [← HM.out] at hzs
      have HZS := Lib.hid hzs
      clear hzs
      have HTS := Lib.hid (fun s : Int => (show told (xc.take (k + 1)) s = if xc[k].g = s then some xc[k].v else told (xc.take k) s by rw [List.take_succ_eq_append_getElem hks, told_snoc]))
      have HNX := Lib.hid (fun (h : stepR xn.length xw xl (xc.take k) xc[k] = true) j (hj : j < xc.length) (hjk : j < k + 1) => (show stepR xn.length xw xl (xc.take j) xc[j] = true by
        by_cases he : j = k
        · subst he; exact h
        · exact HE.out j hj (by omega)))
      have HLA := Lib.hid (fun (j : Nat) (hj : j + 1 = k) => (show (xc.take k).getLast? = some (xc[j]'(by omega)) by subst hj; exact take_last xc j (by omega)))
      have HLO := Lib.hid (fun (h : k = 0) => (show (xc.take k).getLast? = none by subst h; rfl))
      generalize hck : xc[k] = c at *
      have HCK := Lib.hid hck
      clear hck
      obtain ⟨t, g, v⟩ := c
      simp only at *
      have HY := Lib.hid ((Below.refl wr.heap.size wr).alloc (Nat.le_refl _) (.cells #[.int .i64 t, .int .i64 g, .int .u64 v] 50))
      have HXY := Lib.hid (HX.out.alloc HX.out.size (.cells #[.int .i64 t, .int .i64 g, .int .u64 v] 50))
      have HNY := Lib.hid (HN.out.alloc (.cells #[.int .i64 t, .int .i64 g, .int .u64 v] 50))
      have b4 := b2.later HXY.out
      have b3 := Box3.new wr (.int .i64 t) (.int .i64 g) (.int .u64 v) 50
      obtain ⟨y0, y1, y2, ltY⟩ := b3
      by_cases q1 : t < 0
      · have HBD := Lib.hid (HBO.out (by unfold okOne; rw [decide_eq_false (show ¬ 0 ≤ t by omega)]; simp))
        obtain rfl := HBD.out
        go_wp2_with fail
        obtain ⟨a0, a1, a2, a3, _, _, _, _, _⟩ := b4
        go_big_quiet (fail)
        go_wp2_with fail
        go_ret
        exact ⟨rfl, HW2.out.trans ((below_drewN HXY.out _).mono HW2.out.size)⟩
      have dq1 : decide (t < 0) = false := decide_eq_false q1
      by_cases q2 : xl < t
      · have HBD := Lib.hid (HBO.out (by unfold okOne; rw [decide_eq_false (show ¬ t ≤ xl by omega)]; simp))
        obtain rfl := HBD.out
        go_wp2_with fail
        obtain ⟨a0, a1, a2, a3, _, _, _, _, _⟩ := b4
        go_big_quiet (fail)
        go_wp2_with fail
        go_ret
        exact ⟨rfl, HW2.out.trans ((below_drewN HXY.out _).mono HW2.out.size)⟩
      have dq2 : decide (xl < t) = false := decide_eq_false q2
      by_cases q3 : g < 0
      · have HBD := Lib.hid (HBO.out (by unfold okOne; rw [decide_eq_false (show ¬ 0 ≤ g by omega)]; simp))
        obtain rfl := HBD.out
        go_wp2_with fail
        obtain ⟨a0, a1, a2, a3, _, _, _, _, _⟩ := b4
        go_big_quiet (fail)
        go_wp2_with fail
        go_ret
        exact ⟨rfl, HW2.out.trans ((below_drewN HXY.out _).mono HW2.out.size)⟩
      have dq3 : decide (g < 0) = false := decide_eq_false q3
      by_cases q4 : (xn.length : Int) ≤ g
      · have HBD := Lib.hid (HBO.out (by unfold okOne; rw [decide_eq_false (show ¬ g < (xn.length : Int) by omega)]; simp))
        obtain rfl := HBD.out
        go_wp2_with fail
        obtain ⟨a0, a1, a2, a3, _, _, _, _, _⟩ := b4
        go_big_quiet (fail)
        go_wp2_with fail
        go_ret
        exact ⟨rfl, HW2.out.trans ((below_drewN HXY.out _).mono HW2.out.size)⟩
      have dq4 : decide ((xn.length : Int) ≤ g) = false := decide_eq_false q4
      obtain ⟨G, rfl⟩ : ∃ G : Nat, g = G := ⟨g.toNat, by omega⟩
      have hG : G < xn.length := by omega
      have dq4n : decide (xn.length ≤ G) = false := decide_eq_false (by omega)
      have dq4m : decide (G < xn.length) = true := decide_eq_true (by omega)
      have hGw : G < xw.length := by have := HL.out; omega
      have hGi : (G : Int) < xw.length := by omega
      have hGn : (G : Int) < xn.length := by omega
      obtain ⟨bw, ow, hpw, hltw, hcw⟩ := HW.out _ (HZ2.out.trans (HXY.out.mono HZ2.out.size)) (by omega)
      have w0 := one_at hcw G hGw
      simp only [intV] at w0
      subst hpw
      clear hcw
      have KM : Hid (∀ n, Calls Tryz.prog 43 #[.int .i64 xw[G]] ((wr.alloc (.cells #[.int .i64 t, .int .i64 G, .int .u64 v] 50)).drewN n) fun e w' => e = .returned (.int .u64 (maskN xw[G])) ∧ ∃ n', w' = (wr.alloc (.cells #[.int .i64 t, .int .i64 G, .int .u64 v] 50)).drewN n') := Lib.hid (fun n => (rmask_any xw[G] _).mono (fun e w' h => ⟨h.1, n, h.2.symm⟩))
      have HGD : Hid (xw.getD ((G : Int)).toNat 0 = xw[G]) := Lib.hid (by rw [Int.toNat_natCast, List.getD_eq_getElem?_getD, List.getElem?_eq_getElem hGw]; rfl)
      have HNC := Lib.hid (HNY.out.cell hG)
      by_cases q5 : maskN xw[G] < v
      · have HBD := Lib.hid (HBO.out (by
          unfold okOne
          simp only
          rw [HGD.out, decide_eq_false (show ¬ v ≤ maskN xw[G] by omega), Bool.and_false]))
        have q5' : decide (((maskN xw[G] : Nat) : Int) < (v : Int)) = true := decide_eq_true (by omega)
        have q5n : decide (maskN xw[G] < v) = true := decide_eq_true (by omega)
        obtain rfl := HBD.out
        go_wp2_with fail
        obtain ⟨a0, a1, a2, a3, _, _, _, _, _⟩ := b4
        generalize xw[G] = wg at *
        generalize maskN wg = M at *
        go_big_quiet (exact KM.out _)
        go_wp2_with fail
        go_ret
        exact ⟨rfl, HW2.out.trans ((below_drewN HXY.out _).mono HW2.out.size)⟩
      have HOK : Hid (okOne xn.length xw xl ⟨t, G, v⟩ = true) := Lib.hid (by
        unfold okOne
        simp only
        rw [HGD.out, decide_eq_true (show 0 ≤ t by omega), decide_eq_true (show t ≤ xl by omega), decide_eq_true (show (0 : Int) ≤ G by omega), decide_eq_true hGn, decide_eq_true (show v ≤ maskN xw[G] by omega)]
        rfl)
      have dq5n : decide (maskN xw[G] < v) = false := decide_eq_false (by omega)
      have dq5 : decide (((maskN xw[G] : Nat) : Int) < (v : Int)) = false := decide_eq_false (by omega)
      clear HBO HGD
      obtain ⟨N, hN⟩ : ∃ N, (told (xc.take k) (G : Int)).getD 0 = N := ⟨_, rfl⟩
      rw [hN] at HNC
      have HNN := Lib.hid hN
      clear hN
      have HGO1 := Lib.hid (HGO.out HOK.out)
      clear HGO
      by_cases hk0 : Hid (k = 0)
      · have hk1 : decide (0 < k) = false := decide_eq_false (by have := hk0.out; omega)
        have hk2 : decide ((0 : Int) < (k : Int)) = false := decide_eq_false (by have := hk0.out; omega)
        go_wp2_with fail
        obtain ⟨a0, a1, a2, a3, _, _, _, _, _⟩ := b4
        generalize xw[G] = wg at *
        generalize maskN wg = M at *
        go_big_quiet (exact KM.out _)
        clear KM w0 a0 a1 a2 a3 HNC dq5 dq5n dq1 dq2 dq3 dq4 dq4n dq4m x0 x1 x2
        have HYQ := Lib.hid (below_drewN HY.out nq)
        have HXQ := Lib.hid (below_drewN HXY.out nq)
        have HNQ := Lib.hid (HNY.out.drewN nq)
        have b4 : Hid (Box4 _ _ _ _ _ _) := Lib.hid (b2.later HXQ.out)
        have b3 : Hid (Box3 ((wr.alloc (.cells #[.int .i64 t, .int .i64 G, .int .u64 v] 50)).drewN nq) wr.heap.size (.int .i64 t) (.int .i64 G) (.int .u64 v)) := Lib.hid ⟨y0, y1, y2, ltY⟩
        clear y0 y1 y2 ltY HY HXY HNY
        generalize (wr.alloc (.cells #[.int .i64 t, .int .i64 G, .int .u64 v] 50)).drewN nq = V at *
        have HXU := HXQ
        have HNU := HNQ
        obtain ⟨a0, a1, a2, a3, _, _, _, _, _⟩ := b4.out
        obtain ⟨y0, y1, y2, ltY⟩ := b3.out
        have HGO2 := Lib.hid (HGO1.out (fun p hp => by rw [HLO.out hk0.out] at hp; cases hp))
        obtain ⟨hnc, hnf⟩ := HNU.out.cell hG
        rw [HNN.out] at hnc
        have HNV := Lib.hid (fun m => (HNU.out.drewN m).set (f' := fun s => (told (xc.take (k + 1)) s).getD 0) hG (v := v) (fun s hs => by
          try simp only
          rw [HTS.out]
          try simp only
          by_cases he : s = G
          · subst he; rw [if_pos rfl, if_pos rfl]; rfl
          · rw [if_neg (by omega), if_neg he]))
        have HXV := Lib.hid (fun m => (below_drewN HXU.out m).setCell (p := ⟨W2.heap.size, G, none⟩) (Nat.le_refl _) (.int .u64 v))
        by_cases z : t = 0
        · have z0 : decide (t = 0) = true := decide_eq_true z
          have z1 : decide ((0 : Int) < t) = false := decide_eq_false (by omega)
          have HNX1 := Lib.hid (HNX.out (HGO2.out (fun h => by have := h.1; (try simp only at this); omega)))
          have HM1 : Hid (m + 1 = zeros (xc.take (k + 1))) := Lib.hid (by rw [HZS.out]; (try simp only); rw [if_pos z])
          subst z
          go_wp2_with fail
          go_big_quiet (fail)
          go_wp2_with fail
          go_roundw
          case rel => exact ⟨k + 1, m + 1, by omega, by go_num, by go_num, by omega, HM1, Lib.hid (HXV.out _), Lib.hid (HNV.out _), HNX1⟩
          case measure => simp [intOf]; omega
        · have z0 : decide (t = 0) = false := decide_eq_false z
          have z1 : decide ((0 : Int) < t) = true := decide_eq_true (by omega)
          by_cases q6 : v = N
          · have q6i : decide ((v : Int) = (N : Int)) = true := decide_eq_true (by omega)
            have q6n : decide (v = N) = true := decide_eq_true q6
            have HBD := Lib.hid (HBS.out (by (try simp only); omega) (HNN.out.trans q6.symm))
            obtain rfl := HBD.out
            go_wp2_with fail
            go_big_quiet (fail)
            go_wp2_with fail
            go_ret
            exact ⟨rfl, HW2.out.trans ((below_drewN HXU.out _).mono HW2.out.size)⟩
          · have q6i : decide ((v : Int) = (N : Int)) = false := decide_eq_false (by omega)
            have q6n : decide (v = N) = false := decide_eq_false q6
            have HNX1 := Lib.hid (HNX.out (HGO2.out (fun h => q6 (h.2.symm.trans HNN.out))))
            have HM1 : Hid (m = zeros (xc.take (k + 1))) := Lib.hid (by rw [HZS.out]; (try simp only); rw [if_neg z]; rfl)
            go_wp2_with fail
            go_big_quiet (fail)
            go_wp2_with fail
            go_roundw
            case rel => exact ⟨k + 1, m, by omega, by go_num, rfl, by omega, HM1, Lib.hid (HXV.out _), Lib.hid (HNV.out _), HNX1⟩
            case measure => simp [intOf]; omega
      have hk0' : k ≠ 0 := fun h => hk0 (Lib.hid h)
      have hk3 : 0 < k := by omega
      have hk1 : decide (0 < k) = true := decide_eq_true hk3
      have hk2 : decide ((0 : Int) < (k : Int)) = true := decide_eq_true (by omega)
      clear hk0 hk0'
      go_wp2_with fail
      obtain ⟨a0, a1, a2, a3, _, _, _, _, _⟩ := b4
      generalize xw[G] = wg at *
      generalize maskN wg = M at *
      go_big_quiet (exact KM.out _)
      clear KM w0 a0 a1 a2 a3 HNC dq5 dq5n dq1 dq2 dq3 dq4 dq4n dq4m x0 x1 x2
      have HYQ := Lib.hid (below_drewN HY.out nq)
      have HXQ := Lib.hid (below_drewN HXY.out nq)
      have HNQ := Lib.hid (HNY.out.drewN nq)
      have b4 : Hid (Box4 _ _ _ _ _ _) := Lib.hid (b2.later HXQ.out)
      have b3 : Hid (Box3 ((wr.alloc (.cells #[.int .i64 t, .int .i64 G, .int .u64 v] 50)).drewN nq) wr.heap.size (.int .i64 t) (.int .i64 G) (.int .u64 v)) := Lib.hid ⟨y0, y1, y2, ltY⟩
      clear y0 y1 y2 ltY HY HXY HNY
      generalize (wr.alloc (.cells #[.int .i64 t, .int .i64 G, .int .u64 v] 50)).drewN nq = V at *
      obtain ⟨j, hj⟩ : ∃ j, j + 1 = k := ⟨k - 1, by omega⟩
      have hjk : (k : Int) - 1 = (j : Int) := by omega
      have hjc : j < xc.length := by omega
      have hji : (j : Int) < xc.length := by omega
      have HLJ : Hid ((xc.take k).getLast? = some (xc[j]'hjc)) := Lib.hid (HLA.out j hj)
      have HKJ := Lib.hid hj
      clear hj
      obtain ⟨x0, x1, x2⟩ := chg_at (l := xc) (w := V) (fun i hi => (HYQ.out.cell hltc).trans (HCC.out i hi)) j hjc
      generalize xc[j] = pc at *
      obtain ⟨pt, pg, pv⟩ := pc
      simp only at x0 x1 x2
      have HUV := Lib.hid ((Below.refl V.heap.size V).alloc (Nat.le_refl _) (.cells #[.int .i64 pt, .int .i64 pg, .int .u64 pv] 50))
      have HXU := Lib.hid (HXQ.out.alloc HXQ.out.size (.cells #[.int .i64 pt, .int .i64 pg, .int .u64 pv] 50))
      have HNU := Lib.hid (HNQ.out.alloc (.cells #[.int .i64 pt, .int .i64 pg, .int .u64 pv] 50))
      obtain ⟨a0, a1, a2, a3, _, _, _, _, _⟩ := b4.out
      obtain ⟨y0, y1, y2, ltY⟩ := b3.out
      obtain ⟨a0', a1', a2', a3', _, _, _, _, _⟩ := b4.out.later HUV.out
      obtain ⟨y0', y1', y2', ltY'⟩ := b3.out.later HUV.out
      obtain ⟨p0, p1, p2, ltP⟩ := Box3.new V (.int .i64 pt) (.int .i64 pg) (.int .u64 pv) 50
      by_cases o1 : t < pt
      · have HBD := Lib.hid (HBP.out _ HLJ.out (by unfold behindC; (try simp only); rw [decide_eq_false (show ¬ pt < t by omega), decide_eq_false (show ¬ t = pt by omega)]; rfl))
        have o1' : decide (t < pt) = true := decide_eq_true o1
        obtain rfl := HBD.out
        go_wp2_with fail
        go_ret
        exact ⟨rfl, HW2.out.trans (HXU.out.mono HW2.out.size)⟩
      have o1' : decide (t < pt) = false := decide_eq_false o1
      by_cases o2 : t = pt
      · subst o2
        by_cases o3 : (G : Int) ≤ pg
        · have HBD := Lib.hid (HBP.out _ HLJ.out (by unfold behindC; (try simp only); rw [decide_eq_false (show ¬ t < t by omega), decide_eq_false (show ¬ pg < (G : Int) by omega)]; simp))
          have o3' : decide ((G : Int) ≤ pg) = true := decide_eq_true o3
          obtain rfl := HBD.out
          go_wp2_with fail
          go_ret
          exact ⟨rfl, HW2.out.trans (HXU.out.mono HW2.out.size)⟩
        have o3' : decide ((G : Int) ≤ pg) = false := decide_eq_false o3
        have HGO2 := Lib.hid (HGO1.out (fun p hp => by rw [HLJ.out] at hp; cases hp; unfold behindC; (try simp only); rw [decide_eq_true (show pg < (G : Int) by omega)]; simp))
        obtain ⟨hnc, hnf⟩ := HNU.out.cell hG
        rw [HNN.out] at hnc
        have HNV := Lib.hid (fun m => (HNU.out.drewN m).set (f' := fun s => (told (xc.take (k + 1)) s).getD 0) hG (v := v) (fun s hs => by
          try simp only
          rw [HTS.out]
          try simp only
          by_cases he : s = G
          · subst he; rw [if_pos rfl, if_pos rfl]; rfl
          · rw [if_neg (by omega), if_neg he]))
        have HXV := Lib.hid (fun m => (below_drewN HXU.out m).setCell (p := ⟨W2.heap.size, G, none⟩) (Nat.le_refl _) (.int .u64 v))
        by_cases z : t = 0
        · have z0 : decide (t = 0) = true := decide_eq_true z
          have z1 : decide ((0 : Int) < t) = false := decide_eq_false (by omega)
          have HNX1 := Lib.hid (HNX.out (HGO2.out (fun h => by have := h.1; (try simp only at this); omega)))
          have HM1 : Hid (m + 1 = zeros (xc.take (k + 1))) := Lib.hid (by rw [HZS.out]; (try simp only); rw [if_pos z])
          subst z
          go_wp2_with fail
          go_big_quiet (fail)
          go_wp2_with fail
          go_roundw
          case rel => exact ⟨k + 1, m + 1, by omega, by go_num, by go_num, by omega, HM1, Lib.hid (HXV.out _), Lib.hid (HNV.out _), HNX1⟩
          case measure => simp [intOf]; omega
        · have z0 : decide (t = 0) = false := decide_eq_false z
          have z1 : decide ((0 : Int) < t) = true := decide_eq_true (by omega)
          by_cases q6 : v = N
          · have q6i : decide ((v : Int) = (N : Int)) = true := decide_eq_true (by omega)
            have q6n : decide (v = N) = true := decide_eq_true q6
            have HBD := Lib.hid (HBS.out (by (try simp only); omega) (HNN.out.trans q6.symm))
            obtain rfl := HBD.out
            go_wp2_with fail
            go_big_quiet (fail)
            go_wp2_with fail
            go_ret
            exact ⟨rfl, HW2.out.trans ((below_drewN HXU.out _).mono HW2.out.size)⟩
          · have q6i : decide ((v : Int) = (N : Int)) = false := decide_eq_false (by omega)
            have q6n : decide (v = N) = false := decide_eq_false q6
            have HNX1 := Lib.hid (HNX.out (HGO2.out (fun h => q6 (h.2.symm.trans HNN.out))))
            have HM1 : Hid (m = zeros (xc.take (k + 1))) := Lib.hid (by rw [HZS.out]; (try simp only); rw [if_neg z]; rfl)
            go_wp2_with fail
            go_big_quiet (fail)
            go_wp2_with fail
            go_roundw
            case rel => exact ⟨k + 1, m, by omega, by go_num, rfl, by omega, HM1, Lib.hid (HXV.out _), Lib.hid (HNV.out _), HNX1⟩
            case measure => simp [intOf]; omega
      have o2' : decide (t = pt) = false := decide_eq_false o2
      have HGO2 := Lib.hid (HGO1.out (fun p hp => by rw [HLJ.out] at hp; cases hp; unfold behindC; (try simp only); rw [decide_eq_true (show pt < t by omega)]; rfl))
      obtain ⟨hnc, hnf⟩ := HNU.out.cell hG
      rw [HNN.out] at hnc
      have HNV := Lib.hid (fun m => (HNU.out.drewN m).set (f' := fun s => (told (xc.take (k + 1)) s).getD 0) hG (v := v) (fun s hs => by
        try simp only
        rw [HTS.out]
        try simp only
        by_cases he : s = G
        · subst he; rw [if_pos rfl, if_pos rfl]; rfl
        · rw [if_neg (by omega), if_neg he]))
      have HXV := Lib.hid (fun m => (below_drewN HXU.out m).setCell (p := ⟨W2.heap.size, G, none⟩) (Nat.le_refl _) (.int .u64 v))
      by_cases z : t = 0
      · have z0 : decide (t = 0) = true := decide_eq_true z
        have z1 : decide ((0 : Int) < t) = false := decide_eq_false (by omega)
        have HNX1 := Lib.hid (HNX.out (HGO2.out (fun h => by have := h.1; (try simp only at this); omega)))
        have HM1 : Hid (m + 1 = zeros (xc.take (k + 1))) := Lib.hid (by rw [HZS.out]; (try simp only); rw [if_pos z])
        subst z
        go_wp2_with fail
        go_big_quiet (fail)
        go_wp2_with fail
        go_roundw
        case rel => exact ⟨k + 1, m + 1, by omega, by go_num, by go_num, by omega, HM1, Lib.hid (HXV.out _), Lib.hid (HNV.out _), HNX1⟩
        case measure => simp [intOf]; omega
      · have z0 : decide (t = 0) = false := decide_eq_false z
        have z1 : decide ((0 : Int) < t) = true := decide_eq_true (by omega)
        by_cases q6 : v = N
        · have q6i : decide ((v : Int) = (N : Int)) = true := decide_eq_true (by omega)
          have q6n : decide (v = N) = true := decide_eq_true q6
          have HBD := Lib.hid (HBS.out (by (try simp only); omega) (HNN.out.trans q6.symm))
          obtain rfl := HBD.out
          go_wp2_with fail
          go_big_quiet (fail)
          go_wp2_with fail
          go_ret
          exact ⟨rfl, HW2.out.trans ((below_drewN HXU.out _).mono HW2.out.size)⟩
        · have q6i : decide ((v : Int) = (N : Int)) = false := decide_eq_false (by omega)
          have q6n : decide (v = N) = false := decide_eq_false q6
          have HNX1 := Lib.hid (HNX.out (HGO2.out (fun h => q6 (h.2.symm.trans HNN.out))))
          have HM1 : Hid (m = zeros (xc.take (k + 1))) := Lib.hid (by rw [HZS.out]; (try simp only); rw [if_neg z]; rfl)
          go_wp2_with fail
          go_big_quiet (fail)
          go_wp2_with fail
          go_roundw
          case rel => exact ⟨k + 1, m, by omega, by go_num, rfl, by omega, HM1, Lib.hid (HXV.out _), Lib.hid (HNV.out _), HNX1⟩
          case measure => simp [intOf]; omega
    · obtain rfl : k = xc.length := by omega
      have hend := okR_end fun j hj => HE.out j hj hj
      have hM := HM.out
      rw [List.take_length] at hM
      rw [← hM] at hend
      rw [hend] at HRR
      by_cases hz : m = xn.length
      · have hz' : (m : Int) = (xn.length : Int) := by omega
        have hR := HRR.out
        rw [decide_eq_true hz, if_pos rfl] at hR
        subst hR
        clear hM hend hz
        go_wp2_with fail
        go_ret
        exact ⟨rfl, HW2.out.trans (HX.out.mono HW2.out.size)⟩
      · have hz' : ¬ (m : Int) = (xn.length : Int) := by omega
        have hR := HRR.out
        rw [decide_eq_false hz, if_neg Bool.false_ne_true] at hR
        subst hR
        clear hM hend hz
        go_wp2_with fail
        go_ret
        exact ⟨rfl, HW2.out.trans (HX.out.mono HW2.out.size)⟩

end Go.Proofs.YtephnfhjobkciaaGreatDoor

/- Are rows alike? -/
namespace Go.Proofs.YtephnfhjobkciaaGreatDoor
open Go.RowKit Go.Proofs.Wav Go.Sort
set_option linter.unusedVariables false
set_option linter.unusedSimpArgs false
set_option maxRecDepth 100000

theorem Rws.form {w : World} {v : Value} {rows : List (List Nat)} (h : Rws w v rows) : ∃ p c, v = .slice p rows.length c := by
  obtain ⟨vs, _, h2, _⟩ := h
  exact h2.form
theorem Rws.at {w : World} {p : Option Addr} {n' c : Nat} {rows : List (List Nat)} (h : Rws w (.slice p n' c) rows) (hn : 0 < rows.length) :
    ∃ b off, p = some ⟨b, off, none⟩ ∧ b < w.heap.size ∧ ∀ k (hk : k < rows.length), ∃ q d, w.cell? ⟨b, off + k, none⟩ = some (.slice q rows[k].length d) ∧ U64s w (.slice q rows[k].length d) rows[k] := by
  obtain ⟨vs, h1, h2, h3⟩ := h
  obtain ⟨b, off, hp, hlt, hc⟩ := h2.at hn
  refine ⟨b, off, hp, hlt, fun k hk => ?_⟩
  have hv := h3 k hk (by omega)
  obtain ⟨q, d, hq⟩ := Slc.form hv
  rw [hq] at hv
  refine ⟨q, d, ?_, hv⟩
  rw [hc k (by omega), List.getElem?_eq_getElem (show k < vs.length by omega), hq]

set_option maxHeartbeats 8000000 in
theorem samerows_any (v1 v2 : Value) (xs ys : List (List Nat)) (hx : xs.length ≤ 100000) (hr : ∀ r ∈ xs, r.length ≤ 100000) (W : World) (h1 : Rws W v1 xs) (h2 : Rws W v2 ys) :
    Calls Tryz.prog 26 #[v1, v2] W fun e W' => e = .returned (.bool (decide (xs = ys))) ∧ Below W.heap.size W W' := by
  obtain ⟨p1, c1, rfl⟩ := h1.form
  obtain ⟨p2, c2, rfl⟩ := h2.form
  by_cases hl : xs.length = ys.length
  case neg =>
    have hl' : ¬ (xs.length : Int) = (ys.length : Int) := by omega
    go_enter Tryz.func26, Tryz.ntmps26
    go_wp2
    go_ret
    exact ⟨ret_bool (decide_eq_false (fun h => hl (by rw [h]))).symm, Below.refl _ _⟩
  have HX := Lib.hid (fun w hb (h0 : 0 < xs.length) => Rws.at (Rws.later (w' := w) h1 hb) h0)
  have HY := Lib.hid (fun w hb (h0 : 0 < ys.length) => Rws.at (Rws.later (w' := w) h2 hb) h0)
  have HS := Lib.hid hr
  rw [← hl]
  have HL := Lib.hid hl
  clear hl h1 h2 hr
  go_enter Tryz.func26, Tryz.ntmps26
  go_wp2_with fail
  go_loopw [5] (fun i wr => ∃ k : Nat, k ≤ xs.length ∧ i = .int .i64 k ∧ Hid (Below W.heap.size W wr) ∧ Hid (xs.take k = ys.take k)) (fun i _ => xs.length - (intOf i).toNat)
  case atStart => exact ⟨0, Nat.zero_le _, rfl, Lib.hid (Below.refl _ _), Lib.hid rfl⟩
  case round =>
    obtain ⟨k, hk, rfl, HR, HE⟩ := hrel
    by_cases hks : k < xs.length
    · have hky : k < ys.length := by have := HL.out; omega
      obtain ⟨bx, ox, hpx, hltx, hcx⟩ := HX.out _ HR.out (by omega)
      obtain ⟨by', oy, hpy, hlty, hcy⟩ := HY.out _ HR.out (by omega)
      obtain ⟨q1, d1, x0, hux⟩ := hcx k hks
      obtain ⟨q2, d2, y0, huy⟩ := hcy k hky
      have hrs := HS.out _ (List.getElem_mem hks)
      have HT := Lib.hid (take_eq hks hky HE.out)
      have HN := Lib.hid (take_ne hks hky)
      subst hpx hpy
      clear hcx hcy
      have HUX := Lib.hid hux
      have HUY := Lib.hid huy
      clear hux huy
      generalize xs[k] = r at *
      generalize ys[k] = s at *
      by_cases hrl : r.length = s.length
      · rw [← hrl] at y0 HUY
        have HRL := Lib.hid hrl
        clear hrl
        go_wp2_with fail
        go_quiet (fail)
        have HQ0 := Lib.hid (below_drewN (Below.refl wr.heap.size wr) nq)
        go_wp2_with fail
        go_loopw [6] (fun i wq => ∃ j : Nat, j ≤ r.length ∧ i = .int .i64 j ∧ Hid (Below wr.heap.size wr wq) ∧ Hid (r.take j = s.take j)) (fun i _ => r.length - (intOf i).toNat)
        case atStart => exact ⟨0, Nat.zero_le _, rfl, HQ0, Lib.hid rfl⟩
        case round =>
          obtain ⟨j, hj, rfl, HQ, HM⟩ := hrel
          have HRQ := Lib.hid (HR.out.trans (HQ.out.mono HR.out.size))
          have xk := (HQ.out.cell (p := ⟨bx, ox + k, none⟩) hltx).trans x0
          have yk := (HQ.out.cell (p := ⟨by', oy + k, none⟩) hlty).trans y0
          by_cases hjr : j < r.length
          · have hjs : j < s.length := by have := HRL.out; omega
            obtain ⟨be, oe, hpe, _, hce⟩ := Slc.at (Slc.later HUX.out HQ.out) (show 0 < r.length by omega)
            obtain ⟨bf, of, hpf, _, hcf⟩ := Slc.at (Slc.later HUY.out HQ.out) (show 0 < s.length by omega)
            have e0 := one_at hce j hjr
            have f0 := one_at hcf j hjs
            subst hpe hpf
            clear hce hcf
            unfold u64V at e0 f0
            by_cases he : r[j] = s[j]
            · have HTT := Lib.hid (take_eq hjr hjs HM.out he)
              rw [he] at e0
              clear he
              go_wp2_with fail
              go_quiet (fail)
              go_wp2_with fail
              go_roundw
              case rel => exact ⟨j + 1, by omega, by go_num, Lib.hid (below_drewN HQ.out _), HTT⟩
              case measure => simp [intOf]; omega
            · have HNN := Lib.hid (take_ne hjr hjs he)
              have hn0 : ¬ (r[j] : Int) = (s[j] : Int) := by omega
              have hn1 : ((r[j] : Int) == (s[j] : Int)) = false := by rw [beq_eq_false_iff_ne]; exact hn0
              have hn2 : ((r[j] : Int) != (s[j] : Int)) = true := by rw [bne_iff_ne]; exact hn0
              clear he
              go_wp2_with fail
              go_quiet (fail)
              go_wp2_with fail
              go_ret
              exact ⟨ret_bool (decide_eq_false (HN.out HNN.out)).symm, below_drewN HRQ.out _⟩
          · obtain rfl : j = r.length := by omega
            have HTT := Lib.hid (HT.out (take_all HRL.out HM.out))
            go_wp2_with fail
            go_roundw
            case rel => exact ⟨k + 1, by omega, by go_num, HRQ, HTT⟩
            case measure => simp [intOf]; omega
      · have hrl' : ¬ (r.length : Int) = (s.length : Int) := by omega
        have hn2 : ((r.length : Int) != (s.length : Int)) = true := by rw [bne_iff_ne]; exact hrl'
        have HNN := Lib.hid (show ¬ r = s from fun h => hrl (by rw [h]))
        clear hrl
        go_wp2_with fail
        go_quiet (fail)
        go_wp2_with fail
        go_ret
        exact ⟨ret_bool (decide_eq_false (HN.out HNN.out)).symm, below_drewN HR.out _⟩
    · obtain rfl : k = xs.length := by omega
      have HTT := Lib.hid (take_all HL.out HE.out)
      go_wp2_with fail
      go_ret
      exact ⟨ret_bool (decide_eq_true HTT.out).symm, HR.out⟩

end Go.Proofs.YtephnfhjobkciaaGreatDoor

/- Are rows few? -/
namespace Go.Proofs.YtephnfhjobkciaaGreatDoor
open Go.RowKit Go.Proofs.Wav Go.Sort
set_option linter.unusedVariables false
set_option linter.unusedSimpArgs false
set_option maxRecDepth 100000

def FewRowsPost (ns : List Ln) (ws : List Int) (rows : List (List Nat)) (W : World) (e : Ending) (W' : World) : Prop :=
  (∃ b, e = .returned (.bool b) ∧ (b = true → Few ⟨ns, ws, [], 0⟩ ∧ rows.length ≤ 50 ∧ ∀ r ∈ rows, r.length ≤ 30)) ∧ Below W.heap.size W W'

set_option maxHeartbeats 4000000 in
theorem fewRows_any (vn vw vr : Value) (ns : List Ln) (ws : List Int) (rows : List (List Nat)) (W : World) (h1 : Strs W vn ns) (h2 : Ints W vw ws) (h3 : Rws W vr rows) :
    Calls Tryz.prog 20 #[vn, vw, vr] W (FewRowsPost ns ws rows W) := by
  obtain ⟨p, c, rfl⟩ := h3.form
  obtain ⟨pn, cn, rfl⟩ := Slc.form h1
  obtain ⟨pw, cw, rfl⟩ := Slc.form h2
  have HX := Lib.hid (fun w hb (h0 : 0 < rows.length) => Rws.at (Rws.later (w' := w) h3 hb) h0)
  have KF := Lib.hid (fun w (hb : Below W.heap.size W w) => few_any (.slice pn ns.length cn) (.slice pw ws.length cw) (.slice none 0 0) ⟨ns, ws, [], 0⟩ w ⟨Slc.later h1 hb, Slc.later h2 hb, ⟨rfl, .inl ⟨rfl, _, _, rfl⟩⟩⟩)
  clear h1 h2 h3
  go_enter Tryz.func20, Tryz.ntmps20
  go_wp2_with fail
  go_loopw [7] (fun i wr => ∃ k : Nat, k ≤ rows.length ∧ k ≤ 60 ∧ i = .int .i64 k ∧ Hid (Below W.heap.size W wr) ∧ Hid (∀ r ∈ rows.take k, r.length ≤ 30)) (fun i _ => 60 - (intOf i).toNat)
  case atStart => exact ⟨0, Nat.zero_le _, Nat.zero_le _, rfl, Lib.hid (Below.refl _ _), Lib.hid (by simp)⟩
  case round =>
    obtain ⟨k, hk, hk60, rfl, HR, HE⟩ := hrel
    by_cases hks : k < rows.length
    · by_cases hk6 : k < 60
      · obtain ⟨b, off, hp, hlt, hc⟩ := HX.out _ HR.out (by omega)
        obtain ⟨q, d, x0, _⟩ := hc k hks
        subst hp
        clear hc hlt
        have hnx : rows[k].length ≤ 30 → ∀ r ∈ rows.take (k + 1), r.length ≤ 30 := by
          intro h s hs
          rw [List.take_succ_eq_append_getElem hks] at hs
          rcases List.mem_append.1 hs with h1 | h1
          · exact HE.out s h1
          · rw [List.mem_singleton.1 h1]; exact h
        generalize rows[k] = r at *
        by_cases hbig : 30 < r.length
        · have hb' : (30 : Int) < (r.length : Int) := by omega
          clear hnx
          go_wp2_with fail
          go_ret
          exact ⟨⟨false, rfl, fun h => by cases h⟩, HR.out⟩
        · have hb' : ¬ (30 : Int) < (r.length : Int) := by omega
          have HN := Lib.hid (hnx (by omega))
          clear hnx
          go_wp2_with fail
          go_roundw
          case rel => exact ⟨k + 1, by omega, by omega, by go_num, HR, HN⟩
          case measure => simp [intOf]; omega
      · have hk6' : ¬ (k : Int) < 60 := by omega
        have h50 : ¬ (rows.length : Int) ≤ 50 := by omega
        go_wp2_with fail
        go_ret
        exact ⟨⟨false, rfl, fun h => by cases h⟩, HR.out⟩
    · obtain rfl : k = rows.length := by omega
      have hall := HE.out
      rw [List.take_length] at hall
      have HA := Lib.hid hall
      clear hall
      by_cases h1 : (rows.length : Int) ≤ 50
      · go_wp2_with fail
        refine (KF.out _ HR.out).mono ?_
        rintro e W2 ⟨⟨b, rfl, hb⟩, hb2⟩
        have HB := Lib.hid hb
        have HW2 := Lib.hid (HR.out.trans (hb2.mono HR.out.size))
        clear hb2 hb
        go_wp2_with fail
        go_ret
        exact ⟨⟨b, rfl, fun h => ⟨HB.out h, by omega, HA.out⟩⟩, HW2.out⟩
      · go_wp2_with fail
        go_ret
        exact ⟨⟨false, rfl, fun h => by cases h⟩, HR.out⟩

end Go.Proofs.YtephnfhjobkciaaGreatDoor

/- What may be a name and a width: the program. -/
namespace Go.Proofs.Wav
set_option linter.unusedVariables false
set_option linter.unusedSimpArgs false
theorem decode_high (s : ByteArray) (pos : Nat) (h : ¬ (s.get! pos).toNat < 128) : 128 ≤ (Utf8.decode s pos).1 := by
  simp only [Utf8.decode, Nat.add_zero, if_neg h]
  repeat' split
  all_goals simp_all [Utf8.runeError, Utf8.valid]
  all_goals omega
theorem decode_low (s : ByteArray) (pos : Nat) (h : (s.get! pos).toNat < 128) : Utf8.decode s pos = ((s.get! pos).toNat, 1) := by
  simp only [Utf8.decode, Nat.add_zero, if_pos h]
def oddR (r : Nat) : Bool := decide (r < 33) || decide (126 < r)
def fineB (c : UInt8) : Bool := decide (33 ≤ c.toNat) && decide (c.toNat ≤ 126)
theorem get_bang (s : ByteArray) (pos : Nat) (h : pos < s.data.toList.length) : s.get! pos = s.data.toList[pos] := by
  have h' : pos < s.data.size := by rw [Array.length_toList] at h; exact h
  show s.data[pos]! = _
  rw [getElem!_pos s.data pos h', Array.getElem_toList]
theorem odd_from (s : ByteArray) : ∀ (f pos : Nat), s.data.toList.length ≤ f + pos → decide (0 ≤ Lib.idxFuncFrom oddR true s f pos) = !(s.data.toList.drop pos).all fineB
  | 0, pos, h => by
    rw [List.drop_eq_nil_of_le (by omega)]
    rfl
  | f + 1, pos, h => by
    unfold Lib.idxFuncFrom
    by_cases hp : pos < s.size
    · have hl : pos < s.data.toList.length := by rw [Array.length_toList]; exact hp
      rw [if_pos hp, List.drop_eq_getElem_cons hl, List.all_cons, ← get_bang s pos hl]
      by_cases h8 : (s.get! pos).toNat < 128
      · rw [decode_low s pos h8]
        by_cases ho : oddR (s.get! pos).toNat = true
        · have hf : fineB (s.get! pos) = false := by
            unfold oddR at ho
            unfold fineB
            rw [Bool.or_eq_true, decide_eq_true_eq, decide_eq_true_eq] at ho
            rcases ho with ho | ho
            · rw [decide_eq_false (by omega)]; rfl
            · rw [decide_eq_false (show ¬ (s.get! pos).toNat ≤ 126 by omega), Bool.and_false]
          rw [if_pos ho, hf, decide_eq_true (by omega)]
          rfl
        · have hf : fineB (s.get! pos) = true := by
            unfold oddR at ho
            unfold fineB
            rw [Bool.or_eq_true, decide_eq_true_eq, decide_eq_true_eq] at ho
            rw [decide_eq_true (by omega), decide_eq_true (by omega)]
            rfl
          rw [if_neg ho, hf, Bool.true_and]
          exact odd_from s f (pos + 1) (by omega)
      · have h9 := decode_high s pos h8
        have ho : oddR (Utf8.decode s pos).1 = true := by
          unfold oddR
          rw [decide_eq_true (show 126 < (Utf8.decode s pos).1 by omega), Bool.or_true]
        have hf : fineB (s.get! pos) = false := by
          unfold fineB
          rw [decide_eq_false (show ¬ (s.get! pos).toNat ≤ 126 by omega), Bool.and_false]
        rw [if_pos ho, hf, decide_eq_true (by omega)]
        rfl
    · have hl : ¬ pos < s.data.toList.length := by rw [Array.length_toList]; exact hp
      rw [if_neg hp, List.drop_eq_nil_of_le (by omega)]
      rfl
theorem odd_name (s : ByteArray) : decide (0 ≤ Lib.idxFunc oddR true s) = !s.data.toList.all fineB := by
  unfold Lib.idxFunc
  rw [odd_from s s.size 0 (by rw [Array.length_toList]; exact Nat.le_refl _), List.drop_zero]
theorem run_enters {P : Program} {f : FuncId} {fn : Func} (hf : P.funcs[f]? = some fn) (hname : (fn.name == "runtime.NumGoroutine") = false) (hb : fn.body.isSome = true) (args : Array Value) (w : World) :
    (callFunc f args).run P w = .ok (.enter f args) w := by
  have h1 : fn.name ≠ "runtime.NumGoroutine" := by simpa using hname
  obtain ⟨c, hc⟩ := Option.isSome_iff_exists.1 hb
  simp [callFunc, hf, h1, hc]
end Go.Proofs.Wav
namespace Go.Proofs.YtephnfhjobkciaaGreatDoor
open Go.RowKit Go.Proofs.Wav Go.Sort
set_option linter.unusedVariables false
set_option linter.unusedSimpArgs false
set_option maxRecDepth 100000

set_option maxHeartbeats 1000000 in
theorem odd_any (r : Nat) (hr : r ≤ 1114111) (w : World) :
    Calls Tryz.prog 89 #[.int .i32 r] w fun e w' => e = .returned (.bool (oddR r)) ∧ Below w.heap.size w w' := by
  unfold oddR
  by_cases h1 : r < 33
  · have h1' : (r : Int) < 33 := by omega
    rw [decide_eq_true h1]
    go_enter Tryz.func89, Tryz.ntmps89
    go_wp2
    go_ret
    exact ⟨rfl, Below.refl _ _⟩
  · have h1' : ¬ (r : Int) < 33 := by omega
    rw [decide_eq_false h1]
    by_cases h2 : 126 < r
    · have h2' : (126 : Int) < (r : Int) := by omega
      rw [decide_eq_true h2]
      go_enter Tryz.func89, Tryz.ntmps89
      go_wp2
      go_ret
      exact ⟨rfl, Below.refl _ _⟩
    · have h2' : ¬ (126 : Int) < (r : Int) := by omega
      rw [decide_eq_false h2]
      go_enter Tryz.func89, Tryz.ntmps89
      go_wp2
      go_ret
      exact ⟨rfl, Below.refl _ _⟩

theorem enter_odd : ∀ args w, (callFunc 89 args).run Tryz.prog w = .ok (.enter 89 args) w := by
  intro args w
  exact run_enters Tryz.func89 (by kernel_rfl) (by kernel_rfl) args w
theorem contains_odd (l : Ln) (w : World) :
    Calls Tryz.prog 90 #[.string (bs l), .func (.func 89) #[] #[]] w fun e w' => e = .returned (.bool (!l.all fineB)) ∧ Below w.heap.size w w' := by
  have h := Tryz.strings_ContainsFunc_grows 89 #[] enter_odd oddR (bs l) w (fun W x hx hb => odd_any x hx W)
  rw [odd_name] at h
  exact h

set_option maxHeartbeats 1000000 in
theorem fits_any (l : Ln) (n : Int) (w : World) :
    Calls Tryz.prog 64 #[.string (bs l), .int .i64 n] w fun e w' => e = .returned (.bool (nameOk l && widthOk n)) ∧ Below w.heap.size w w' := by
  have HC := Lib.hid (fun w => contains_odd l w)
  by_cases h0 : l = []
  · subst h0
    have hb0 : (bs ([] : Ln)).toList = [] := toL []
    clear HC
    go_enter Tryz.func64, Tryz.ntmps64
    go_wp2
    go_ret
    exact ⟨rfl, Below.refl _ _⟩
  have hn : nameOk l = l.all fineB := by
    unfold nameOk
    have : l.isEmpty = false := by cases l with | nil => exact absurd rfl h0 | cons a b => rfl
    rw [this]
    rfl
  rw [hn]
  have h0' : ((bs l).toList == ([] : List UInt8)) = false := by rw [toL]; cases l with | nil => exact absurd rfl h0 | cons a b => rfl
  have h0s : ¬ bs l = ⟨#[]⟩ := fun h => h0 (bs_inj.1 h)
  unfold widthOk
  cases hf : l.all fineB
  · rw [hf] at HC
    go_enter Tryz.func64, Tryz.ntmps64
    go_wp2_with fail
    refine (HC.out _).mono ?_
    rintro e w' ⟨rfl, hb⟩
    go_wp2_with fail
    go_ret
    exact ⟨rfl, hb⟩
  · rw [hf] at HC
    by_cases q1 : (0 : Int) < n
    · by_cases q2 : n ≤ 64
      · go_enter Tryz.func64, Tryz.ntmps64
        go_wp2_with fail
        refine (HC.out _).mono ?_
        rintro e w' ⟨rfl, hb⟩
        go_wp2_with fail
        go_ret
        exact ⟨by rw [decide_eq_true (show 1 ≤ n by omega), decide_eq_true q2]; rfl, hb⟩
      · go_enter Tryz.func64, Tryz.ntmps64
        go_wp2_with fail
        refine (HC.out _).mono ?_
        rintro e w' ⟨rfl, hb⟩
        go_wp2_with fail
        go_ret
        exact ⟨by rw [decide_eq_true (show 1 ≤ n by omega), decide_eq_false (show ¬ n ≤ 64 by omega)]; rfl, hb⟩
    · go_enter Tryz.func64, Tryz.ntmps64
      go_wp2_with fail
      refine (HC.out _).mono ?_
      rintro e w' ⟨rfl, hb⟩
      go_wp2_with fail
      go_ret
      exact ⟨by rw [decide_eq_false (show ¬ 1 ≤ n by omega)]; rfl, hb⟩
end Go.Proofs.YtephnfhjobkciaaGreatDoor

/- May names and widths be: the program, whole. -/
namespace Go.Proofs.YtephnfhjobkciaaGreatDoor
open Go.RowKit Go.Proofs.Wav Go.Sort Go.Maps
set_option linter.unusedVariables false
set_option linter.unusedSimpArgs false
set_option maxRecDepth 100000

theorem below_map {w w' : World} {B : Nat} {P : Program} {k : TypeId} {R : Value → Option (DataW Unit × List MemPlace)} {b n : Nat} {D : DataW Unit} (h : w.ownsMap P k R b n D) (hb : Below B w w') (hlt : b < B) : w'.ownsMap P k R b n D := by
  obtain ⟨es, clock, h1, r⟩ := h
  exact ⟨es, clock, (hb.block b hlt).trans h1, r⟩
theorem map_lt {w : World} {P : Program} {k : TypeId} {R : Value → Option (DataW Unit × List MemPlace)} {b n : Nat} {D : DataW Unit} (h : w.ownsMap P k R b n D) : b < w.heap.size := by
  obtain ⟨es, clock, h1, r⟩ := h
  exact (Array.getElem?_eq_some_iff.1 h1).1

theorem law_str : Keyed Tryz.prog 9 := string_keyed Tryz.underlying9
theorem zero_bool (w : World) : (zeroValue 4).run Tryz.prog w = .ok (.bool false) w := by kernel_rfl

/-- the names that were seen -/
def Seen (w : World) (b n : Nat) (l : List Ln) : Prop := ∃ D : DataW Unit, w.ownsMap Tryz.prog 9 (plainElem Tryz.prog 4) b n D ∧ ∀ s : Ln, D.atKey (.string s) (.lit (.bool false)) = .lit (.bool (l.contains s))
theorem Seen.made (w : World) : Seen (w.alloc (.map #[] 0)) w.heap.size 0 [] := ⟨.map [], World.ownsMap_made _ _ _ _, fun s => rfl⟩
theorem Seen.later {w w' : World} {b n : Nat} {l : List Ln} (h : Seen w b n l) (hb : Below w.heap.size w w') : Seen w' b n l := by
  obtain ⟨D, h1, h2⟩ := h
  exact ⟨D, below_map h1 hb (map_lt h1), h2⟩
theorem Seen.look {w : World} {b n : Nat} {l : List Ln} (h : Seen w b n l) (s : Ln) (hs : s.length ≤ 100000) : (Instr.lookup 101 (.map (some b)) (.string (bs s)) false).run Tryz.prog w = .ok (.bool (l.contains s)) w := by
  obtain ⟨D, h1, h2⟩ := h
  obtain ⟨v, ps, hrun, hv⟩ := h1.lookup law_str Tryz.underlying101 (zero_bool w) (plainElem_bool Tryz.underlying4 false) (Go.WideMaps.keyOf_string_mk Tryz.underlying9 (s := bs s) (by rw [size_bs]; unfold maxLen; omega))
  rw [list_bs, h2] at hv
  have : v = .bool (l.contains s) := by
    unfold plainElem at hv
    rw [Tryz.underlying4] at hv
    cases v <;> simp at hv
    rw [hv.1]
    simp
  rw [this] at hrun
  exact hrun
theorem Seen.put {w : World} {b n : Nat} {l : List Ln} (h : Seen w b n l) (hn : n ≤ 100000) (s : Ln) (hs : s.length ≤ 100000) : ∃ w', (Instr.mapUpdate 101 (.map (some b)) (.string (bs s)) (.bool true)).run Tryz.prog w = .ok () w' ∧ Seen w' b (n + 1) (l ++ [s]) ∧ w.grownBy w' (some b) := by
  obtain ⟨D, h1, h2⟩ := h
  obtain ⟨w', hr, ho, hg⟩ := h1.update law_str Tryz.underlying101 (by unfold maxLen; omega) (Go.WideMaps.keyOf_string_mk Tryz.underlying9 (s := bs s) (by rw [size_bs]; unfold maxLen; omega)) (plainElem_bool Tryz.underlying4 true)
  rw [list_bs] at ho
  refine ⟨w', hr, ⟨_, ho, fun x => ?_⟩, hg⟩
  by_cases hx : x = s
  · subst hx
    rw [atKey_put_same h1.isMap (by constructor)]
    simp
  · rw [atKey_put_other (by simpa using hx), h2]
    simp [List.contains_eq_mem, hx]

set_option maxHeartbeats 8000000 in
theorem signals_any (vn vw vc : Value) (x : Wv) (hs : Small x) (W : World) (h1 : WavAt W vn vw vc x) :
    Calls Tryz.prog 39 #[.agg #[vn, vw, vc, .int .i64 x.last]] W fun e W' => e = .returned (.bool (sigsOk x.names x.widths)) ∧ Below W.heap.size W W' := by
  obtain ⟨xn, xw, xc, xl⟩ := x
  obtain ⟨s1, s2, s3, s4⟩ := hs
  simp only at *
  obtain ⟨pn, cn, rfl⟩ := h1.1.form
  obtain ⟨pw, cw, rfl⟩ := h1.2.1.form
  obtain ⟨pc, cc, rfl⟩ := h1.2.2.form
  simp only at *
  have b1 := Box4.new W (.slice pn xn.length cn) (.slice pw xw.length cw) (.slice pc xc.length cc) (.int .i64 xl) 26
  have hb1 := (Below.refl W.heap.size W).alloc (Nat.le_refl _) (.cells #[.slice pn xn.length cn, .slice pw xw.length cw, .slice pc xc.length cc, .int .i64 xl] 26)
  have HX := Lib.hid (fun w hb (h0 : 0 < xn.length) => Slc.at (Slc.later (w' := w) (Slc.later h1.1 hb1) hb) h0)
  have HY := Lib.hid (fun w hb (h0 : 0 < xw.length) => Slc.at (Slc.later (w' := w) (Slc.later h1.2.1 hb1) hb) h0)
  have HB := Lib.hid hb1
  have HA := Lib.hid (fun o => (Below.refl W.heap.size W).alloc (Nat.le_refl _) o)
  have HS := Lib.hid s4
  clear hb1 h1 s4
  by_cases hl : xw.length = xn.length
  case neg =>
    have hl' : ¬ (xw.length : Int) = (xn.length : Int) := by omega
    go_enter Tryz.func39, Tryz.ntmps39
    go_wp2
    go_ret
    exact ⟨ret_bool (sigs_bad_len hl).symm, HA.out _⟩
  rw [hl] at b1 HB HX HY ⊢
  have HL := Lib.hid hl
  clear hl
  have hmm := @run_makeMap Tryz.prog
  go_enter Tryz.func39, Tryz.ntmps39
  go_wp2_with fail
  clear hmm
  have hsz : (W.alloc (.cells #[.slice pn xn.length cn, .slice pw xn.length cw, .slice pc xc.length cc, .int .i64 xl] 26)).heap.size = W.heap.size + 1 := by simp
  generalize W.alloc (.cells #[.slice pn xn.length cn, .slice pw xn.length cw, .slice pc xc.length cc, .int .i64 xl] 26) = Z at *
  have HM := Lib.hid (Seen.made Z)
  rw [hsz] at HM
  have HSZ := Lib.hid hsz
  have HZ1 := Lib.hid ((Below.refl Z.heap.size Z).alloc (Nat.le_refl _) (.map #[] 0))
  clear hsz
  have HB1 := Lib.hid b1
  clear b1
  go_loopw [17] (fun i wr => ∃ k : Nat, k ≤ xn.length ∧ i = .int .i64 k ∧ Hid (Below Z.heap.size Z wr) ∧ Hid (Seen wr (W.heap.size + 1) k (xn.take k)) ∧ Hid (sigsOk (xn.take k) (xw.take k) = true)) (fun i _ => xn.length - (intOf i).toNat)
  case atStart => exact ⟨0, Nat.zero_le _, rfl, HZ1, HM, Lib.hid rfl⟩
  case round =>
    obtain ⟨k, hk, rfl, HR, HM, HE⟩ := hrel
    obtain ⟨a0, a1, a2, a3, _, _, _, _, _⟩ := HB1.out.later HR.out
    by_cases hks : k < xn.length
    · have hkw : k < xw.length := by have := HL.out; omega
      obtain ⟨bx, ox, hpx, hltx, hcx⟩ := HX.out _ HR.out (by omega)
      obtain ⟨bw, ow, hpw, hltw, hcw⟩ := HY.out _ HR.out (by omega)
      have x0 := one_at hcx k hks
      have w0 := hcw k (by omega)
      rw [List.getElem?_map, List.getElem?_eq_getElem hkw] at w0
      subst hpx hpw
      clear hcx hcw hltx hltw
      unfold strV at x0
      simp only [Option.map_some, intV] at w0
      have hsl : xn[k].length ≤ 100000 := HS.out _ (List.getElem_mem hks)
      have hlk := HM.out.look xn[k] hsl
      cases hsn : (xn.take k).contains xn[k]
      · rw [hsn] at hlk
        have HST := Lib.hid (fun hn hw => sigs_step HL.out hks hkw HE.out hn hw (fun hm => by rw [List.contains_iff_mem.2 hm] at hsn; cases hsn))
        have HBN := Lib.hid (fun h => sigs_bad_name (ws := xw) hks h)
        have HBW := Lib.hid (fun h => sigs_bad_width (ns := xn) hkw h)
        have HF := Lib.hid (fun w => fits_any xn[k] xw[k] w)
        have HPU := Lib.hid (fun w' (hb : Below wr.heap.size wr w') => (HM.out.later hb).put (by omega) xn[k] hsl)
        have HTK := Lib.hid (List.take_succ_eq_append_getElem hks)
        clear hsn
        cases hf : nameOk xn[k] && widthOk xw[k]
        · rw [hf] at HF
          have HN : Hid (sigsOk xn xw = false) := Lib.hid (by
            rcases Bool.and_eq_false_iff.1 hf with h | h
            · exact HBN.out h
            · exact HBW.out h)
          clear hf
          go_wp2_with fail
          refine (HF.out _).mono ?_
          rintro e w' ⟨rfl, hb⟩
          go_wp2_with fail
          go_ret
          exact ⟨ret_bool HN.out.symm, HB.out.trans ((HR.out.trans (hb.mono HR.out.size)).mono HB.out.size)⟩
        · rw [hf] at HF
          obtain ⟨h1, h2⟩ := Bool.and_eq_true_iff.1 hf
          have HE1 := Lib.hid (HST.out h1 h2)
          clear h1 h2 hf
          go_wp2_with fail
          refine (HF.out _).mono ?_
          rintro e w' ⟨rfl, hb⟩
          obtain ⟨w2, hr2, hs2, hg2⟩ := HPU.out w' hb
          rw [← HTK.out] at hs2
          have HS2 := Lib.hid hs2
          have HR2 := Lib.hid ((HR.out.trans (hb.mono HR.out.size)).grown hg2 (Nat.le_trans HR.out.size hb.size) (fun j hj => by cases hj; exact Nat.le_of_eq HSZ.out))
          clear hs2 hg2 hb
          go_wp2_with fail
          go_roundw
          case rel => exact ⟨k + 1, by omega, by go_num, HR2, HS2, HE1⟩
          case measure => simp [intOf]; omega
      · rw [hsn] at hlk
        have HN : Hid (sigsOk xn xw = false) := Lib.hid (by
          obtain ⟨j, hj, he⟩ := List.getElem_of_mem (List.contains_iff_mem.1 hsn)
          rw [List.length_take] at hj
          rw [List.getElem_take] at he
          exact sigs_bad_twice hks (by omega) he)
        clear hsn
        go_wp2_with fail
        go_ret
        exact ⟨ret_bool HN.out.symm, HB.out.trans (HR.out.mono HB.out.size)⟩
    · obtain rfl : k = xn.length := by omega
      have hE := HE.out
      rw [List.take_length, ← HL.out, List.take_length] at hE
      have HN := Lib.hid hE
      clear hE
      go_wp2_with fail
      go_ret
      exact ⟨ret_bool HN.out.symm, HB.out.trans (HR.out.mono HB.out.size)⟩

end Go.Proofs.YtephnfhjobkciaaGreatDoor
