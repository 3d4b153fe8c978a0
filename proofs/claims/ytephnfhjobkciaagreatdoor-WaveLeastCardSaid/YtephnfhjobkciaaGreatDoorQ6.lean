/- Texts of the Wave laws, merged: WM, WN, WO, WP, WQ. -/
import Derived.Test.YtephnfhjobkciaaGreatDoorQ5
import Derived.Test.YtephnfhjobkciaaGreatDoorQ3

/- The text of a wave: the program. -/
namespace Go.Proofs.YtephnfhjobkciaaGreatDoor
open Go.RowKit Go.Proofs.Wav Go.Proofs.Scn Go.Flow Go.Sort
set_option linter.unusedVariables false
set_option linter.unusedSimpArgs false
set_option maxRecDepth 100000

theorem cells_bytes (l : Ln) : Lib.byteCells l = cellsB l := rfl

set_option maxHeartbeats 16000000 in
theorem put_any (vn vw vc : Value) (x : Wv) (hs : Small x) (hf : Fits x) (W : World) (hBs : Base W) (h1 : WavAt W vn vw vc x) :
    Calls Tryz.prog 14 #[.agg #[vn, vw, vc, .int .i64 x.last]] W (PutPost x W) := by
  have HBase := Lib.hid hBs
  clear hBs
  have HCk := Lib.hid (fun w hb => check_any vn vw vc x hs hf w (h1.later hb))
  have HBad := Lib.hid (fun (W' : World) (e : Ending) h he hb => @PutPost.bad x W W' e h he hb)
  have HGood := Lib.hid (fun (W' : World) (e : Ending) (v : Value) h he ho hb => @PutPost.good x W W' e v h he ho hb)
  have HE1 := Lib.hid (@putE_bad x)
  have HE2 := Lib.hid (@putE_long x)
  have HE3 := Lib.hid (@putE_ok x)
  have HIs := Lib.hid (@is_of x)
  have HS0 := Lib.hid (sigT_zero x)
  have HS1 := Lib.hid (fun k h h' => @sigT_succ x k h h')
  have HS2 := Lib.hid (sigT_all x)
  have HS3 := Lib.hid (fun k h => @chgT_succ x k h)
  have HS4 := Lib.hid (fun k h => @chgT_last x k h)
  have HS5 := Lib.hid (putW_last x)
  obtain ⟨xn, xw, xc, xl⟩ := x
  obtain ⟨s1, s2, s3, s4⟩ := hs
  simp only at *
  obtain ⟨pn, cn, rfl⟩ := h1.1.form
  obtain ⟨pw, cw, rfl⟩ := h1.2.1.form
  obtain ⟨pc, cc, rfl⟩ := h1.2.2.form
  simp only at *
  have b1 := Box4.new W (.slice pn xn.length cn) (.slice pw xw.length cw) (.slice pc xc.length cc) (.int .i64 xl) 26
  have hb1 := (Below.refl W.heap.size W).alloc (Nat.le_refl _) (.cells #[.slice pn xn.length cn, .slice pw xw.length cw, .slice pc xc.length cc, .int .i64 xl] 26)
  have HX := Lib.hid (fun w hb (h0 : 0 < xn.length) => Slc.at (Slc.later (w' := w) (Slc.later h1.1 hb1) hb) h0)
  have HY := Lib.hid (fun w hb (h0 : 0 < xw.length) => Slc.at (Slc.later (w' := w) (Slc.later h1.2.1 hb1) hb) h0)
  have HC := Lib.hid (fun w hb (h0 : 0 < xc.length) => Slc.at (Slc.later (w' := w) (Slc.later h1.2.2 hb1) hb) h0)
  have HB := Lib.hid hb1
  have HS := Lib.hid s4
  clear hb1 h1 s4
  have hsz : (W.alloc (.cells #[.slice pn xn.length cn, .slice pw xw.length cw, .slice pc xc.length cc, .int .i64 xl] 26)).heap.size = W.heap.size + 1 := by simp
  generalize hputW : putW ⟨xn, xw, xc, xl⟩ = PW at *
  generalize hputE : putE ⟨xn, xw, xc, xl⟩ = PE at *
  generalize hST : sigT ⟨xn, xw, xc, xl⟩ = ST at *
  generalize hCT : chgT ⟨xn, xw, xc, xl⟩ = CT at *
  clear hputW hputE hST hCT
  by_cases hck : checkW ⟨xn, xw, xc, xl⟩ = 0
  case neg =>
    have HPE := Lib.hid (HE1.out hck)
    generalize checkW ⟨xn, xw, xc, xl⟩ = R at *
    have hck' : (R != 0) = true := by simpa using hck
    go_enter Tryz.func14, Tryz.ntmps14
    go_wp2_with fail
    refine (HCk.out _ HB.out).mono ?_
    rintro e W2 ⟨rfl, hb2⟩
    have HW2 := Lib.hid (HB.out.trans (hb2.mono HB.out.size))
    clear hb2
    go_wp2
    go_ret2
    exact HBad.out _ _ (by rw [HPE.out]; exact hck) (by rw [HPE.out]; rfl) HW2.out
  have his := HIs.out hck
  have HIS := Lib.hid his
  have hlen : xw.length = xn.length := his.len
  have hn512 : xn.length ≤ 512 := his.n
  have hc65 : xc.length ≤ 65536 := his.c
  have hli : xl ≤ 2147483647 := his.hi
  have hlo : 0 ≤ xl := his.lo
  rw [hlen] at b1 HB HX HY HC HCk hsz ⊢
  have HL := Lib.hid hlen
  rw [hck] at HCk
  have HCK0 := Lib.hid hck
  clear his hlen HE1 hck
  go_enter Tryz.func14, Tryz.ntmps14
  go_wp2_with fail
  refine (HCk.out _ HB.out).mono ?_
  rintro e W2 ⟨rfl, hb2⟩
  generalize W.alloc (.cells #[.slice pn xn.length cn, .slice pw xn.length cw, .slice pc xc.length cc, .int .i64 xl] 26) = Z at *
  have HZW := Lib.hid hb2
  have HSZ := Lib.hid hsz
  have b2 := b1.later hb2
  have HB1 := Lib.hid b1
  clear hb2 hsz b1
  obtain ⟨a0, a1, a2, a3, _, _, _, _, _⟩ := b2
  have HF0 := Lib.hid (Buf.new W2)
  have HY0 := Lib.hid ((Below.refl W2.heap.size W2).alloc (Nat.le_refl _) (.cells #[.slice none 0 0, .int .i64 0, .int .i8 0] 57))
  have hbB := ((Below.refl W2.heap.size W2).alloc (Nat.le_refl _) (.cells #[.slice none 0 0, .int .i64 0, .int .i8 0] 57))
  have a0' := (hbB.cell (p := ⟨W.heap.size, 0, none⟩) (by simp only; omega)).trans a0
  clear hbB
  go_wp2_with fail
  clear a0 a1 a2 a3 a0'
  go_loopw [21] (fun i wr => ∃ k : Nat, i = .int .i64 k ∧ k ≤ xn.length ∧ Hid (Buf W2.heap.size (ST k) wr) ∧ Hid (Below W2.heap.size W2 wr) ∧ (ST k).length ≤ k * 100100) (fun i _ => xn.length - (intOf i).toNat)
  case atStart => exact ⟨0, rfl, Nat.zero_le _, by rw [HS0.out]; exact HF0, HY0, by rw [HS0.out]; simp⟩
  case round =>
    obtain ⟨k, rfl, hk, HO, HR, hSTl⟩ := hrel
    have HZR := Lib.hid (HZW.out.trans (HR.out.mono HZW.out.size))
    obtain ⟨a0, a1, a2, a3, _, _, _, _, _⟩ := HB1.out.later HZR.out
    by_cases hks : k < xn.length
    · have hkw : k < xw.length := by have := HL.out; omega
      obtain ⟨bx, ox, hpx, hltx, hcx⟩ := HX.out _ HZR.out (by omega)
      obtain ⟨bw, ow, hpw, hltw, hcw⟩ := HY.out _ HZR.out (by omega)
      have x0 := one_at hcx k hks
      have w0 := hcw k (by omega)
      rw [List.getElem?_map, List.getElem?_eq_getElem hkw] at w0
      subst hpx hpw
      clear hcx hcw hltx hltw
      unfold strV at x0
      simp only [Option.map_some, intV] at w0
      have hsl : xn[k].length ≤ 100000 := HS.out _ (List.getElem_mem hks)
      have hwk := width_get HIS.out.widths (k := k) hkw
      rw [List.getD_eq_getElem?_getD, List.getElem?_eq_getElem hkw, Option.getD_some] at hwk
      simp only [widthOk, Bool.and_eq_true, decide_eq_true_eq] at hwk
      have hstep := HS1.out k hks hkw
      obtain ⟨n, hn⟩ : ∃ n : Nat, xw[k] = (n : Int) := ⟨xw[k].toNat, by omega⟩
      unfold sigLine at hstep
      rw [hn, Int.toNat_natCast] at hstep
      rw [hn] at w0 hwk
      have hdl := dec_len (n := n) (by omega)
      generalize xn[k] = N at *
      have hline : bs ([118, 97, 114, 32] ++ dec n ++ [32] ++ N ++ [10]) = ⟨#[118, 97, 114, 32]⟩ ++ bs (dec n) ++ ⟨#[32]⟩ ++ bs N ++ ⟨#[10]⟩ := by
        apply ByteArray.ext
        simp [bs]
      have hll : ([118, 97, 114, 32] ++ dec n ++ [32] ++ N ++ [10] : Ln).length ≤ 100100 := by simp; omega
      generalize hT : ([118, 97, 114, 32] ++ dec n ++ [32] ++ N ++ [10] : Ln) = T at *
      have hDs : (bs (dec n)).size ≤ 10 := hdl
      have hNs : (bs N).size ≤ 100000 := hsl
      have HI := Lib.hid (itoa_any n (by omega) wr (HBase.out.later (HB.out.trans (HZR.out.mono HB.out.size))))
      have HWr := Lib.hid (fun w (h : Buf W2.heap.size (ST k) w) => wstr_any W2.heap.size (ST k) T w h (by omega))
      rw [hline] at HWr
      generalize bs (dec n) = D at *
      generalize bs N = NB at *
      have hS1 : (⟨#[118, 97, 114, 32]⟩ ++ D : ByteArray).size = D.size + 4 := by rw [ByteArray.size_append, Nat.add_comm]; rfl
      have hS2 : (⟨#[118, 97, 114, 32]⟩ ++ D ++ ⟨#[32]⟩ : ByteArray).size = D.size + 5 := by rw [ByteArray.size_append, hS1]; rfl
      have hS3 : (⟨#[118, 97, 114, 32]⟩ ++ D ++ ⟨#[32]⟩ ++ NB : ByteArray).size = D.size + 5 + NB.size := by rw [ByteArray.size_append, hS2]
      have HStep := Lib.hid hstep
      have hk0 : (0 : Int) ≤ (k : Int) := by omega
      have hk1 : (k : Int) < (xn.length : Int) := by omega
      clear hn hT hline hstep hdl hsl
      go_wp2_with fail
      refine HI.out.mono ?_
      rintro e W3 ⟨rfl, hb3⟩
      have HB3 := Lib.hid hb3
      clear hb3
      go_wp2_with fail
      refine (HWr.out _ (HO.out.old HB3.out)).mono ?_
      rintro e W4 ⟨rfl, hbuf4, hb4, hlies⟩
      rw [← HStep.out] at hbuf4
      have hl4 : (ST (k + 1)).length ≤ (k + 1) * 100100 := by rw [HStep.out, List.length_append]; omega
      have HBuf4 := Lib.hid hbuf4
      have HX4 := Lib.hid ((HR.out.trans (HB3.out.mono HR.out.size)).trans hb4)
      clear hbuf4 hb4 hlies
      go_wp2_with fail
      go_roundw
      case rel => exact ⟨k + 1, by go_num, by omega, HBuf4, HX4, hl4⟩
      case measure => simp [intOf]; omega
    · obtain rfl : k = xn.length := by omega
      have HCT0 := HS2.out HL.out
      rw [HCT0] at HO hSTl
      have HXL := Lib.hid hSTl
      have HBufA := Lib.hid (HO.out.old ((Below.refl _ _).alloc (Nat.le_refl _) (.cells #[.int .i64 (-1)] 3)))
      have HBoxA := Lib.hid (Boxed.new wr 3 (.int .i64 (-1)))
      have HXA := Lib.hid (HR.out.alloc HR.out.size (.cells #[.int .i64 (-1)] 3))
      have HLB := Lib.hid HO.out.lt
      have a2' := ((Below.refl wr.heap.size wr).alloc (Nat.le_refl _) (.cells #[.int .i64 (-1)] 3)).cell (p := ⟨W.heap.size, 2, none⟩) (by simp only; omega) |>.trans a2
      clear HO hSTl HCT0
      generalize hL0 : CT 0 = L0 at *
      have HL0 := Lib.hid hL0
      clear hL0
      go_wp2_with fail
      obtain ⟨LB, hLB⟩ : ∃ LB, LB = wr.heap.size := ⟨_, rfl⟩
      rw [← hLB] at HBoxA HLB ⊢
      generalize wr.alloc (.cells #[.int .i64 (-1)] 3) = WA at *
      clear hLB a0 a1 a2 a3 a2' HZR HR
      go_loopw [43] (fun i wq => ∃ k : Nat, i = .int .i64 k ∧ k ≤ xc.length ∧ Hid (Buf W2.heap.size (CT k) wq) ∧ Hid (Boxed wq LB 3 (.int .i64 (lastT (-1) (xc.take k)))) ∧ Hid (Below W2.heap.size W2 wq) ∧ (CT k).length ≤ 100000000 + k * 200) (fun i _ => xc.length - (intOf i).toNat)
      case atStart => exact ⟨0, rfl, Nat.zero_le _, by rw [HL0.out]; exact HBufA, HBoxA, HXA, by rw [HL0.out]; have := HXL.out; omega⟩
      case round =>
        obtain ⟨k, rfl, hk, HO, HBX, HR, hSTl⟩ := hrel
        have HZR := Lib.hid (HZW.out.trans (HR.out.mono HZW.out.size))
        obtain ⟨a0, a1, a2, a3, _, _, _, _, lta⟩ := HB1.out.later HZR.out
        by_cases hks : k < xc.length
        · obtain ⟨bc, oc, hpc, hltc, hcc⟩ := HC.out _ HZR.out (by omega)
          obtain ⟨x0, x1, x2⟩ := chg_at hcc k hks
          subst hpc
          clear hcc hltc
          have hst := HS3.out k hks
          have hla := HS4.out k hks
          have hok := HIS.out.chs.1 _ (List.getElem_mem hks)
          generalize xc[k] = c at *
          obtain ⟨t, g, v⟩ := c
          simp only at x0 x1 x2 hst hla hok
          simp only [okOne, Bool.and_eq_true, decide_eq_true_eq] at hok
          obtain ⟨⟨⟨⟨ht0, ht1⟩, hg0⟩, hg1⟩, hvm⟩ := hok
          obtain ⟨T, rfl⟩ : ∃ T : Nat, t = (T : Int) := ⟨t.toNat, by omega⟩
          obtain ⟨G, rfl⟩ : ∃ G : Nat, g = (G : Int) := ⟨g.toNat, by omega⟩
          have hGw : G < xw.length := by have := HL.out; omega
          rw [Int.toNat_natCast] at hvm
          have hwk := width_get HIS.out.widths (k := G) hGw
          obtain ⟨m, hm1, hm2, hm3⟩ := Go.Proofs.Wav.mask_pow hwk hvm
          rw [List.getD_eq_getElem?_getD, List.getElem?_eq_getElem hGw, Option.getD_some] at hwk hm1
          simp only [widthOk, Bool.and_eq_true, decide_eq_true_eq] at hwk
          obtain ⟨n, hn⟩ : ∃ n : Nat, xw[G] = (n : Int) := ⟨xw[G].toNat, by omega⟩
          have hnm : n = m + 1 := by rw [hn, Int.toNat_natCast] at hm1; exact hm1
          have hv64 : v < 18446744073709551616 := hm3
          have hd2l : (digL 2 v).length ≤ n := by
            rw [hnm]
            exact digL_len 2 (by omega) (m + 1) v (by omega) hm2
          have hpad := binL_pad m v hm2
          rw [← hnm] at hpad
          obtain ⟨r, hr⟩ : ∃ r, n - (digL 2 v).length = r := ⟨_, rfl⟩
          rw [hr] at hpad
          have hline : chgLine xw ⟨T, G, v⟩ ++ [10] = [98] ++ List.replicate r 48 ++ digL 2 v ++ [32] ++ dec G ++ [10] := by
            unfold chgLine
            simp only [Int.toNat_natCast, List.getD_eq_getElem?_getD, List.getElem?_eq_getElem hGw, Option.getD_some, hn]
            rw [← hpad]
            simp
          rw [hline, ← List.append_assoc] at hst
          rw [hn] at hwk
          have hdl2 := dec_len (n := G) (by omega)
          have hlG : bs ([98] ++ List.replicate r 48 ++ digL 2 v ++ [32] ++ dec G ++ [10]) = ⟨#[98]⟩ ++ bs (List.replicate r 48) ++ bs (digL 2 v) ++ ⟨#[32]⟩ ++ bs (dec G) ++ ⟨#[10]⟩ := by
            apply ByteArray.ext
            simp [bs]
          have hGl : ([98] ++ List.replicate r 48 ++ digL 2 v ++ [32] ++ dec G ++ [10] : Ln).length ≤ 100 := by simp; omega
          have hGs : (bs (dec G)).size ≤ 10 := hdl2
          have hVs : (bs (digL 2 v)).size = n - r := by rw [size_bs]; omega
          have hRs : (bs (List.replicate r (48 : UInt8))).size = r := by rw [size_bs, List.length_replicate]
          have HRp := Lib.hid (fun w => show Calls Tryz.prog 33 #[.string ⟨#[48]⟩, .int .i64 r] w fun e w' => e = .returned (.string (bs (List.replicate r 48))) ∧ Below w.heap.size w w' from
            (Tryz.strings_Repeat ⟨#[48]⟩ r w (by omega) (by rw [show (⟨#[48]⟩ : ByteArray).size = 1 from rfl]; omega)).mono fun e w' h => ⟨by rw [h.1, show Lib.repeatL (⟨#[48]⟩ : ByteArray).data.toList r = List.replicate r 48 by have := Lib.repeatL_replicate 48 1 r; rwa [Nat.mul_one] at this]; rfl, h.2⟩)
          have HFm := Lib.hid (fun w hb => fmt2_any v hv64 w hb)
          have HIt := Lib.hid (fun w hb => itoa_any G (by omega) w hb)
          have HTm := Lib.hid (fun w hB hbuf hbox => time_any W2.heap.size LB (CT k) T (lastT (-1) (xc.take k)) (by omega) w hB hbuf hbox HLB.out (by omega))
          have htl : (joinL (timeLines (lastT (-1) (xc.take k)) (T : Int))).length ≤ 12 := by
            have hdl := dec_len (n := T) (by omega)
            by_cases h : (T : Int) = lastT (-1) (xc.take k)
            · rw [time_none h]; simp
            · rw [time_some h, Int.toNat_natCast]; simp; omega
          generalize lastT (-1) (xc.take k) = P at *
          have hTLl : (CT k ++ joinL (timeLines P (T : Int))).length ≤ 100000012 + k * 200 := by rw [List.length_append]; omega
          obtain ⟨L1, hL1⟩ : ∃ L1, L1 = CT k ++ joinL (timeLines P (T : Int)) := ⟨_, rfl⟩
          rw [← hL1] at hst hTLl
          have HL1 := Lib.hid hL1
          clear hL1
          generalize ([98] ++ List.replicate r 48 ++ digL 2 v ++ [32] ++ dec G ++ [10] : Ln) = GL at *
          have HWr := Lib.hid (fun w (h : Buf W2.heap.size L1 w) => wstr_any W2.heap.size L1 GL w h (Nat.le_trans (Nat.add_le_add hTLl hGl) (by omega)))
          rw [hlG] at HWr
          generalize bs (dec G) = DG at *
          generalize bs (digL 2 v) = DV at *
          generalize bs (List.replicate r (48 : UInt8)) = RP at *
          have hn64 : n ≤ 64 := by omega
          have hrn : r ≤ n := by omega
          have hS1 : (⟨#[98]⟩ ++ RP : ByteArray).size = r + 1 := by rw [ByteArray.size_append, hRs, Nat.add_comm]; rfl
          have hS2 : (⟨#[98]⟩ ++ RP ++ DV : ByteArray).size = n + 1 := by rw [ByteArray.size_append, hS1, hVs]; omega
          have hS3 : (⟨#[98]⟩ ++ RP ++ DV ++ ⟨#[32]⟩ : ByteArray).size = n + 2 := by rw [ByteArray.size_append, hS2]; rfl
          have hS4 : (⟨#[98]⟩ ++ RP ++ DV ++ ⟨#[32]⟩ ++ DG : ByteArray).size = n + 2 + DG.size := by rw [ByteArray.size_append, hS3]
          have hsub : IntKind.i64.wrap ((n : Int) - ((n - r : Nat) : Int)) = (r : Int) := by rw [show (n : Int) - ((n - r : Nat) : Int) = (r : Int) by omega]; exact IntWalk.i64_in _ (by omega)
          have HST := Lib.hid hst
          have HLA := Lib.hid hla
          have hYW : Hid (∀ w, Below W2.heap.size W2 w → ∃ bw ow, pw = some ⟨bw, ow, none⟩ ∧ w.cell? ⟨bw, ow + G, none⟩ = some (.int .i64 n)) := Lib.hid (by
            intro w hb
            obtain ⟨bw, ow, h1, _, hc⟩ := HY.out w (HZW.out.trans (hb.mono HZW.out.size)) (by omega)
            refine ⟨bw, ow, h1, ?_⟩
            rw [hc G (by omega), List.getElem?_map, List.getElem?_eq_getElem hGw]
            simp only [Option.map_some, intV, hn])
          have HCB := Lib.hid (heap_alloc_new wr (.cells #[.int .i64 T, .int .i64 G, .int .u64 v] 50))
          have HYB := Lib.hid ((Below.refl wr.heap.size wr).alloc (Nat.le_refl _) (.cells #[.int .i64 T, .int .i64 G, .int .u64 v] 50))
          have hk0 : (0 : Int) ≤ (k : Int) := by omega
          have hk1 : (k : Int) < (xc.length : Int) := by omega
          have hG0 : (0 : Int) ≤ (G : Int) := by omega
          clear hst hla hline hn hm1 hm2 hm3 hvm ht0 hg0 hlG hdl2 hpad hr hnm hd2l
          go_wp2_with fail
          have hbY := HYB.out
          refine (HTm.out _ (HBase.out.later (HB.out.trans ((HZR.out.trans (hbY.mono HZR.out.size)).mono HB.out.size))) (HO.out.old hbY) ((hbY.block LB HBX.out.lt).trans HBX.out)).mono ?_
          rintro e W3 ⟨rfl, hbuf3, hbox3, hb3, hlies3⟩
          rw [← HL1.out] at hbuf3
          have hcb3 := hlies3 wr.heap.size _ _ _ HCB.out (by decide) (by have := HO.out.lt; omega) (by have := HBX.out.lt; simp; omega)
          have HX3 := Lib.hid ((HR.out.trans (hbY.mono HR.out.size)).trans hb3)
          have HBuf3 := Lib.hid hbuf3
          have HBox3 := Lib.hid hbox3
          have HCB3 := Lib.hid hcb3
          have z2 := cell_of_row W3 wr.heap.size 2 _ _ (0, 0) hcb3
          simp only [List.getElem?_toArray, List.getElem?_cons_zero, List.getElem?_cons_succ] at z2
          clear hbuf3 hbox3 hb3 hlies3 hcb3 hbY a0 a1 a2 a3 x0 x1 x2 lta
          go_wp2_with fail
          refine (HFm.out _ (HBase.out.later (HB.out.trans ((HZW.out.trans (HX3.out.mono HZW.out.size)).mono HB.out.size)))).mono ?_
          rintro e W4 ⟨rfl, hb4⟩
          have HX4 := Lib.hid (HX3.out.trans (hb4.mono HX3.out.size))
          have HBuf4 := Lib.hid (HBuf3.out.old hb4)
          have HBox4 := Lib.hid (show Boxed W4 LB 3 (.int .i64 T) from (hb4.block LB HBox3.out.lt).trans HBox3.out)
          have HCB4 := Lib.hid ((hb4.block wr.heap.size (Array.getElem?_eq_some_iff.1 HCB3.out).1).trans HCB3.out)
          have z1 := cell_of_row W4 wr.heap.size 1 _ _ (0, 0) HCB4.out
          simp only [List.getElem?_toArray, List.getElem?_cons_zero, List.getElem?_cons_succ] at z1
          clear hb4 z2
          obtain ⟨bw, ow, rfl, w0⟩ := hYW.out W4 HX4.out
          obtain ⟨_, a1, _, _, _, _, _, _, _⟩ := HB1.out.later (HZW.out.trans (HX4.out.mono HZW.out.size))
          have HB4s := Lib.hid (HBase.out.later (HB.out.trans ((HZW.out.trans (HX4.out.mono HZW.out.size)).mono HB.out.size)))
          have qr := fun d os => Calls.regrown_of (HRp.out (grow (redrawn W4 d) os))
          have qi := fun d os => Calls.regrown_of (HIt.out (grow (redrawn W4 d) os) (HB4s.out.later (below_regrown W4 d os)))
          have a1' := cell_regrown a1
          have z1' := cell_regrown z1
          have w0' := cell_regrown w0
          go_wp2_with fail
          refine wp_region_below_tail 19 (by kernel_rfl) (by kernel_rfl) ?_
          simp only [List.take_succ_cons, List.take_zero, List.drop_succ_cons, List.drop_zero]
          repeat (go_big_quiet_step (first | with_reducible exact qr _ _ | with_reducible exact qi _ _))
          refine wpQuiet_nil ?_
          intro Y hw'
          obtain ⟨⟨dq, osq⟩, hw''⟩ := hw'
          have hz : Below W4.heap.size W4 Y := hw'' ▸ below_regrown W4 dq osq
          have HX5 := Lib.hid (HX4.out.trans (hz.mono HX4.out.size))
          have HBuf5 := Lib.hid (HBuf4.out.old hz)
          have HBox5 := Lib.hid (show Boxed Y LB 3 (.int .i64 T) from (hz.block LB HBox4.out.lt).trans HBox4.out)
          clear hw'' dq osq hz a1 z1 w0 a1' z1' w0' qr qi
          go_wp2_with fail
          refine (HWr.out _ HBuf5.out).mono ?_
          rintro e W6 ⟨rfl, hbuf6, hb6, hlies6⟩
          rw [← HST.out] at hbuf6
          have hl6 : (CT (k + 1)).length ≤ 100000000 + (k + 1) * 200 := by rw [HST.out, List.length_append, HL1.out, List.length_append]; omega
          have HBuf6 := Lib.hid hbuf6
          have HX6 := Lib.hid (HX5.out.trans hb6)
          have HBox6 : Hid (Boxed W6 LB 3 (.int .i64 (lastT (-1) (xc.take (k + 1))))) := Lib.hid (by
            rw [HLA.out]
            exact hlies6 LB _ _ _ HBox5.out (by decide) (by have := HLB.out; omega) (by simp))
          clear hbuf6 hb6 hlies6
          go_wp2_with fail
          go_roundw
          case rel => exact ⟨k + 1, by go_num, by omega, HBuf6, HBox6, HX6, hl6⟩
          case measure => simp [intOf]; omega
        · obtain rfl : k = xc.length := by omega
          rw [List.take_length] at HBX
          have h5 := HS5.out
          have he2 := HE2.out HCK0.out
          have he3 := HE3.out HCK0.out
          obtain ⟨T, rfl⟩ : ∃ T : Nat, xl = (T : Int) := ⟨xl.toNat, by omega⟩
          have HTm := Lib.hid (fun w hB hbuf hbox => time_any W2.heap.size LB (CT xc.length) T (lastT (-1) xc) (by omega) w hB hbuf hbox HLB.out (by omega))
          rw [← h5] at HTm
          have HE2' := Lib.hid he2
          have HE3' := Lib.hid he3
          have HBW := Lib.hid (HBase.out.later (HB.out.trans (HZR.out.mono HB.out.size)))
          have HW0 := Lib.hid (show W.heap.size ≤ W2.heap.size by have := HZW.out.size; have := HSZ.out; omega)
          have HWW2 := Lib.hid (HB.out.trans (HZW.out.mono HB.out.size))
          clear he2 he3 h5
          go_wp2_with fail
          refine (HTm.out _ HBW.out HO.out HBX.out).mono ?_
          rintro e W3 ⟨rfl, hbuf3, hbox3, hb3, hlies3⟩
          have HBuf3 := Lib.hid hbuf3
          have HX3 := Lib.hid (HR.out.trans hb3)
          clear hbuf3 hbox3 hb3 hlies3 a0 a1 a2 a3
          go_wp2_with fail
          refine (Tryz.Buffer_Len W2.heap.size W2.heap.size _ W3 HBuf3.out).mono ?_
          rintro e W4 ⟨rfl, nq, rfl⟩
          rw [Lib.byteCells_length]
          have HX4 := Lib.hid (below_drewN HX3.out nq)
          have HBuf4 : Hid (Buf W2.heap.size PW (W3.drewN nq)) := Lib.hid (Lib.IsBuffer.drewN HBuf3.out nq)
          by_cases hlong : 65536 < PW.length
          · have HP := Lib.hid (HE2'.out hlong)
            have hlong' : (65536 : Int) < (PW.length : Int) := by omega
            go_wp2_with fail
            go_ret2
            exact HBad.out _ _ (by rw [HP.out]; decide) (by rw [HP.out]; rfl) (HWW2.out.trans (HX4.out.mono HW0.out))
          · have HP := Lib.hid (HE3'.out hlong)
            have hlong' : ¬ (65536 : Int) < (PW.length : Int) := by omega
            go_wp2_with fail
            refine (Tryz.Buffer_Bytes W2.heap.size W2.heap.size _ _ HBuf4.out).mono ?_
            rintro e W5 ⟨v, rfl, hown, nr, rfl⟩
            rw [Lib.byteCells_length] at hown
            have HOwn := Lib.hid (show OwnB W.heap.size ((W3.drewN nq).drewN nr) v PW from OwnB.base hown HW0.out)
            clear hown
            go_wp2_with fail
            go_ret2
            exact HGood.out _ _ _ HP.out rfl HOwn.out (HWW2.out.trans ((below_drewN HX3.out (nq + nr)).mono HW0.out))

end Go.Proofs.YtephnfhjobkciaaGreatDoor

/- Rows of the call's own, of whatever element; a wave's box; slices.Clone. -/
namespace Go.Proofs.YtephnfhjobkciaaGreatDoor
open Go.RowKit Go.Proofs.Wav Go.Proofs.Scn Go.Flow Go.Sort
set_option linter.unusedVariables false
set_option linter.unusedSimpArgs false
set_option maxRecDepth 100000

theorem infoStr : (Tryz.prog.info? 9).map (fun i => (i.zero, i.size, i.bytes)) = some (some (.string ⟨#[]⟩), 1, 16) := by kernel_rfl
theorem infoInt : (Tryz.prog.info? 3).map (fun i => (i.zero, i.size, i.bytes)) = some (some (.int .i64 0), 1, 8) := by kernel_rfl
theorem infoU64 : (Tryz.prog.info? 33).map (fun i => (i.zero, i.size, i.bytes)) = some (some (.int .u64 0), 1, 8) := by kernel_rfl
theorem infoChg : (Tryz.prog.info? 50).map (fun i => (i.zero, i.size, i.bytes)) = some (some (.agg #[.int .i64 0, .int .i64 0, .int .u64 0]), 3, 24) := by kernel_rfl
theorem strsSlice : Tryz.prog.underlying 22 = some (.slice 9) := by kernel_rfl
theorem intsSlice : Tryz.prog.underlying 23 = some (.slice 3) := by kernel_rfl
theorem u64sSlice : Tryz.prog.underlying 52 = some (.slice 33) := by kernel_rfl
theorem chgsSlice : Tryz.prog.underlying 24 = some (.slice 50) := by kernel_rfl

/-- a row of a call's own -/
abbrev Own' (B : Nat) (e : TypeId) (m : Nat) (w : World) (v : Value) (n : Nat) (cs : List Value) : Prop := w.ownsRow B e m v n cs
theorem row_later {B e m n : Nat} {w w' : World} {v : Value} {cs : List Value} (h : w.ownsRow B e m v n cs) (hb : Below w.heap.size w w') : w'.ownsRow B e m v n cs := by
  refine ⟨h.1, ?_⟩
  rcases h.2 with h0 | ⟨g, cap, cur, hv, hB, hg, h1⟩
  · exact .inl h0
  · exact .inr ⟨g, cap, cur, hv, hB, (hb.block g (Array.getElem?_eq_some_iff.1 hg).1).trans hg, h1⟩
/-- another block than one of that element turns -/
theorem row_other {B e m n q : Nat} {w w' : World} {v : Value} {cs : List Value} {ob : Option Nat} (h : w.ownsRow B e m v n cs) (hg : w.grownBy w' ob) (ho : ∀ b, ob = some b → ∃ cur e' fr, w.heap[b]? = some (.cells cur e' fr) ∧ e' ≠ e) : w'.ownsRow B e m v n cs := by
  refine ⟨h.1, ?_⟩
  rcases h.2 with h0 | ⟨g, cap, cur, hv, hB, hgg, h1⟩
  · exact .inl h0
  · refine .inr ⟨g, cap, cur, hv, hB, (hg.block g (Array.getElem?_eq_some_iff.1 hgg).1 (fun e0 => ?_)).trans hgg, h1⟩
    obtain ⟨cur', e', fr, h2, h3⟩ := ho g e0.symm
    rw [hgg] at h2
    simp only [Option.some.injEq, Obj.cells.injEq] at h2
    exact h3 h2.2.1.symm
/-- whose block a row is -/
theorem row_block {B e m n : Nat} {w : World} {v : Value} {cs : List Value} (h : w.ownsRow B e m v n cs) : ∀ b, v.ownBlock = some b → ∃ cur fr, w.heap[b]? = some (.cells cur e fr) := by
  intro b hb
  rcases h.2 with ⟨h0, _⟩ | ⟨g, cap, cur, hv, hB, hg, h1⟩
  · rw [h0] at hb; cases hb
  · rw [hv] at hb
    simp only [Value.ownBlock, Option.some.injEq] at hb
    subst hb
    exact ⟨cur, _, hg⟩
theorem row_form {B e m n : Nat} {w : World} {v : Value} {cs : List Value} (h : w.ownsRow B e m v n cs) : ∃ p c, v = .slice p n c := by
  rcases h.2 with ⟨h1, h0⟩ | ⟨g, cap, cur, h1, _⟩
  · exact ⟨none, 0, by rw [h1, h0]⟩
  · exact ⟨_, _, h1⟩
theorem row_grown {B C e m n : Nat} {W w w' : World} {v : Value} {cs : List Value} (ho : w.ownsRow B e m v n cs) (hC : C ≤ B) (hb : Below C W w) (hs : C ≤ w.heap.size) (hg : w.grownBy w' v.ownBlock) : Below C W w' :=
  Below.grown hb hg hs fun k hk => Nat.le_trans hC (World.ownsRow.lt ho k hk).1
theorem row_base {B C e m n : Nat} {w : World} {v : Value} {cs : List Value} (h : w.ownsRow B e m v n cs) (hb : C ≤ B) : w.ownsRow C e m v n cs := by
  refine ⟨h.1, ?_⟩
  rcases h.2 with h0 | ⟨g, cap, cur, hv, hB, h1⟩
  · exact .inl h0
  · exact .inr ⟨g, cap, cur, hv, Nat.le_trans hb hB, h1⟩
/-- a row and a store into a block of another element -/
theorem row_set {B e m n q : Nat} {w : World} {v : Value} {cs : List Value} {cur : Array Value} {e' : TypeId} {fr : Nat × Nat} (h : w.ownsRow B e m v n cs) (hq : w.heap[q]? = some (.cells cur e' fr)) (hne : e' ≠ e) (o : Nat) (u : Value) : (w.setCell ⟨q, o, none⟩ u).ownsRow B e m v n cs := by
  have key : ∀ k, k ≠ q → (w.setCell ⟨q, o, none⟩ u).heap[k]? = w.heap[k]? := fun k hk => Below.heap_setCell w ⟨q, o, none⟩ u k hk
  refine ⟨h.1, ?_⟩
  rcases h.2 with h0 | ⟨g, cap, cur', hv, hB, hgg, h1⟩
  · exact .inl h0
  · refine .inr ⟨g, cap, cur', hv, hB, (key g (fun e0 => ?_)).trans hgg, h1⟩
    subst e0
    rw [hgg] at hq
    simp only [Option.some.injEq, Obj.cells.injEq] at hq
    exact hne hq.2.1.symm

/-- a wave's box -/
def WBox (w : World) (n : Nat) (a b c d : Value) : Prop := w.heap[n]? = some (.cells #[a, b, c, d] 26 (0, 0))
theorem WBox.new (w : World) (a b c d : Value) : WBox (w.alloc (.cells #[a, b, c, d] 26)) w.heap.size a b c d := heap_alloc_new w _
theorem WBox.lt {w : World} {n : Nat} {a b c d : Value} (h : WBox w n a b c d) : n < w.heap.size := (Array.getElem?_eq_some_iff.1 h).1
theorem WBox.later {w w' : World} {n : Nat} {a b c d : Value} (h : WBox w n a b c d) (hb : Below w.heap.size w w') : WBox w' n a b c d := (hb.block n h.lt).trans h
theorem WBox.box {w : World} {n : Nat} {a b c d : Value} (h : WBox w n a b c d) : Box4 w n a b c d := by
  have key : ∀ j, w.cell? ⟨n, j, none⟩ = #[a, b, c, d][j]? := fun j => by
    rw [cell_of_row w n j _ _ (0, 0) h]
  have kf : ∀ j, w.frozen? ⟨n, j, none⟩ = false := fun j => by simp [World.frozen?, show w.heap[n]? = _ from h]
  exact ⟨key 0, key 1, key 2, key 3, kf 0, kf 1, kf 2, kf 3, h.lt⟩
theorem WBox.set {w : World} {n : Nat} {cs : Array Value} (h : w.heap[n]? = some (.cells cs 26 (0, 0))) (j : Nat) (u : Value) : (w.setCell ⟨n, j, none⟩ u).heap[n]? = some (.cells (cs.setIfInBounds j u) 26 (0, 0)) := by
  simp [World.setCell, Array.getElem?_modify, h]
theorem WBox.grown {w w' : World} {n : Nat} {a b c d : Value} {ob : Option Nat} (h : WBox w n a b c d) (hg : w.grownBy w' ob) (ho : ∀ k, ob = some k → ∃ cur e fr, w.heap[k]? = some (.cells cur e fr) ∧ e ≠ 26) : WBox w' n a b c d := by
  refine (hg.block n h.lt (fun e0 => ?_)).trans h
  obtain ⟨cur, e, fr, h2, h3⟩ := ho n e0.symm
  rw [show w.heap[n]? = _ from h] at h2
  simp only [Option.some.injEq, Obj.cells.injEq] at h2
  exact h3 h2.2.1.symm

/-- append(v, x): one element, of whatever make -/
theorem wpList_append_one {w : World} {ops : Array Oper} {rest : List Oper} {o : Oper} {a : Act} {Q : Exit → Act → World → Prop} (hgd : o.guard = none) (s x : Operand) (t e : TypeId)
    (ho : o.op = .call { callee := .builtin .append, args := #[s, x], argTypes := #[t, t] }) (ht : Tryz.prog.underlying t = some (.slice e))
    (z : Value) (m b : Nat) (hi : (Tryz.prog.info? e).map (fun i => (i.zero, i.size, i.bytes)) = some (some z, m, b)) (hz : z.cells.size = m) (hm : 0 < m) (hb24 : b ≤ 24)
    (base : Nat) (v : Value) (n : Nat) (xs : List Value) (hs : a.eval s = v) (hown : w.ownsRow base e m v n xs) (q c : Nat) (cs : Array Value) (hx : a.eval x = .slice (some ⟨q, 0, none⟩) 1 c) (hq : w.heap[q]? = some (.cells cs e (0, 0)))
    (hl : cs.size = m) (h1 : ∀ u ∈ cs.toList, u.oneCell' = true) (hn : n ≤ 1000000) (hbase : base ≤ w.heap.size)
    (h : ∀ p c' N w', Hid (N = n + 1) → w'.ownsRow base e m (.slice p N c') N (xs ++ cs.toList) → w.grownBy w' v.ownBlock → wpList Tryz.prog ops Q rest (a.put o.dst (.slice p N c')) w') : wpList Tryz.prog ops Q (o :: rest) a w := by
  obtain ⟨i0, hi0, hz0, hz1, hz2⟩ := info_parts hi
  refine wpList_append_own w hgd s x t ho base e i0 z m b ht hi0 hz0 hz1 hz2 hz hm v n xs hs hown ⟨q, 0, none⟩ 1 c cs.toList hx (by simpa using hl) (fun j u hu => ?_) h1 (by unfold maxLen; omega) (by have := Nat.mul_le_mul (show n + 1 ≤ 1000001 by omega) hb24; omega) hbase ?_
  · exact World.news_of_block hq j u hu
  · intro v' w' h2 h3 _
    obtain ⟨p, c', rfl⟩ := row_form h2
    exact h p c' (n + 1) w' (Lib.hid rfl) h2 h3

/-- slices.Clone, of whatever element of one cell -/
theorem clone_end {w : World} {ops : Array Oper} {rest : List Oper} {o : Oper} {a : Act} {Q : Exit → Act → World → Prop} (hgd : o.guard = none) (s x : Operand) (t e : TypeId)
    (ho : o.op = .call { callee := .builtin .append, args := #[s, x], argTypes := #[t, t] }) (ht : Tryz.prog.underlying t = some (.slice e))
    (z : Value) (b : Nat) (hi : (Tryz.prog.info? e).map (fun i => (i.zero, i.size, i.bytes)) = some (some z, 1, b)) (hz : z.cells.size = 1) (hb24 : b ≤ 24)
    (W : World) (hs : a.eval s = .slice (some ⟨W.heap.size, 0, none⟩) 0 0) (hw : w = W.alloc (.cells #[] e)) (n : Nat) (cs : List Value) (ad : Addr) (c : Nat) (hx : a.eval x = .slice (some ad) n c) (hv : Slc W 1 (.slice (some ad) n c) n cs) (h1 : ∀ u ∈ cs, u.oneCell' = true) (hn : n ≤ 1000000)
    (h : ∀ v' w', w'.ownsRow W.heap.size e 1 v' n cs → Below W.heap.size W w' → wpList Tryz.prog ops Q rest (a.put o.dst v') w') : wpList Tryz.prog ops Q (o :: rest) a w := by
  subst hw
  obtain ⟨i0, hi0, hz0, hz1, hz2⟩ := info_parts hi
  have hown : (W.alloc (.cells #[] e)).ownsRow W.heap.size e 1 (.slice (some ⟨W.heap.size, 0, none⟩) 0 0) 0 [] := World.ownsRow_made W #[] 0 (Nat.le_refl _) (by decide) rfl
  have hlen : cs.length = n := by have := hv.1; omega
  refine wpList_append_own _ hgd s x t ho W.heap.size e i0 z 1 b ht hi0 hz0 hz1 hz2 hz (by decide) _ 0 [] hs hown ad n c cs hx (by omega) (fun j u hu => ?_) h1 (by unfold maxLen; omega) (by have := Nat.mul_le_mul (show 0 + n ≤ 1000000 by omega) hb24; omega) (by simp) ?_
  · have hj : j < n := by
      rcases Nat.lt_or_ge j cs.length with h | h
      · omega
      · rw [List.getElem?_eq_none h] at hu; cases hu
    have hb := (Below.refl W.heap.size W).alloc (Nat.le_refl _) (.cells #[] e)
    obtain ⟨b', off, hp, hlt, hc⟩ := hv.at (by omega)
    simp only [Option.some.injEq] at hp
    subst hp
    have : (⟨b', off, none⟩ : Addr).add j = ⟨b', off + j, none⟩ := by simp [Addr.add]
    rw [this, hb.cell (p := ⟨b', off + j, none⟩) hlt, hc j (by omega)]
    exact hu
  · intro v' w' h2 h3 _
    rw [Nat.zero_add, List.nil_append] at h2
    refine h v' w' h2 ?_
    exact Below.grown ((Below.refl _ _).alloc (Nat.le_refl _) _) h3 (by simp) (fun k hk => by simp [Value.ownBlock] at hk; omega)

def ClonePost (e : TypeId) (n : Nat) (cs : List Value) (W : World) (en : Ending) (W' : World) : Prop := (∃ v', en = .returned v' ∧ W'.ownsRow W.heap.size e 1 v' n cs) ∧ Below W.heap.size W W'

set_option maxHeartbeats 1000000 in
theorem cloneStr_any (v : Value) (n : Nat) (cs : List Value) (W : World) (hv : Slc W 1 v n cs) (h1 : ∀ u ∈ cs, u.oneCell' = true) (hn : n ≤ 1000000) : Calls Tryz.prog 44 #[v] W (ClonePost 9 n cs W) := by
  obtain ⟨p, c, rfl⟩ := hv.form
  have hnil : ∀ w : World, (binOp .eql 22 (.slice p n c) (.slice none 0 0)).run Tryz.prog w = .ok (.bool p.isNone) w := fun w => Lib.run_eql_slice_nil w 22 9 p n c 0 0 strsSlice
  cases p with
  | none =>
    have hn0 : n = 0 := by
      rcases Nat.eq_zero_or_pos n with h | h
      · exact h
      · obtain ⟨b, off, hp, _⟩ := hv.at h
        cases hp
    subst hn0
    have hcs : cs = [] := List.eq_nil_of_length_eq_zero (by have := hv.1; omega)
    subst hcs
    go_enter Tryz.func44, Tryz.ntmps44
    go_wp2
    go_ret
    exact ⟨⟨_, rfl, World.ownsRow_nil _ _ _ _⟩, Below.refl _ _⟩
  | some ad =>
    have HV := Lib.hid hv
    have H1 := Lib.hid h1
    clear hv h1
    go_enter Tryz.func44, Tryz.ntmps44
    go_wp2_with (at_builtin; refine clone_end rfl _ _ 22 9 rfl strsSlice (.string ⟨#[]⟩) 16 infoStr rfl (by decide) W rfl rfl n cs ad c rfl HV.out H1.out hn ?_; intro v' w' hown hb; have HO := Lib.hid hown; have HB := Lib.hid hb; clear hown hb)
    go_ret
    exact ⟨⟨_, rfl, HO.out⟩, HB.out⟩

set_option maxHeartbeats 1000000 in
theorem cloneInt_any (v : Value) (n : Nat) (cs : List Value) (W : World) (hv : Slc W 1 v n cs) (h1 : ∀ u ∈ cs, u.oneCell' = true) (hn : n ≤ 1000000) : Calls Tryz.prog 45 #[v] W (ClonePost 3 n cs W) := by
  obtain ⟨p, c, rfl⟩ := hv.form
  have hnil : ∀ w : World, (binOp .eql 23 (.slice p n c) (.slice none 0 0)).run Tryz.prog w = .ok (.bool p.isNone) w := fun w => Lib.run_eql_slice_nil w 23 3 p n c 0 0 intsSlice
  cases p with
  | none =>
    have hn0 : n = 0 := by
      rcases Nat.eq_zero_or_pos n with h | h
      · exact h
      · obtain ⟨b, off, hp, _⟩ := hv.at h
        cases hp
    subst hn0
    have hcs : cs = [] := List.eq_nil_of_length_eq_zero (by have := hv.1; omega)
    subst hcs
    go_enter Tryz.func45, Tryz.ntmps45
    go_wp2
    go_ret
    exact ⟨⟨_, rfl, World.ownsRow_nil _ _ _ _⟩, Below.refl _ _⟩
  | some ad =>
    have HV := Lib.hid hv
    have H1 := Lib.hid h1
    clear hv h1
    go_enter Tryz.func45, Tryz.ntmps45
    go_wp2_with (at_builtin; refine clone_end rfl _ _ 23 3 rfl intsSlice (.int .i64 0) 8 infoInt rfl (by decide) W rfl rfl n cs ad c rfl HV.out H1.out hn ?_; intro v' w' hown hb; have HO := Lib.hid hown; have HB := Lib.hid hb; clear hown hb)
    go_ret
    exact ⟨⟨_, rfl, HO.out⟩, HB.out⟩

set_option maxHeartbeats 1000000 in
theorem cloneU64_any (v : Value) (n : Nat) (cs : List Value) (W : World) (hv : Slc W 1 v n cs) (h1 : ∀ u ∈ cs, u.oneCell' = true) (hn : n ≤ 1000000) : Calls Tryz.prog 46 #[v] W (ClonePost 33 n cs W) := by
  obtain ⟨p, c, rfl⟩ := hv.form
  have hnil : ∀ w : World, (binOp .eql 52 (.slice p n c) (.slice none 0 0)).run Tryz.prog w = .ok (.bool p.isNone) w := fun w => Lib.run_eql_slice_nil w 52 33 p n c 0 0 u64sSlice
  cases p with
  | none =>
    have hn0 : n = 0 := by
      rcases Nat.eq_zero_or_pos n with h | h
      · exact h
      · obtain ⟨b, off, hp, _⟩ := hv.at h
        cases hp
    subst hn0
    have hcs : cs = [] := List.eq_nil_of_length_eq_zero (by have := hv.1; omega)
    subst hcs
    go_enter Tryz.func46, Tryz.ntmps46
    go_wp2
    go_ret
    exact ⟨⟨_, rfl, World.ownsRow_nil _ _ _ _⟩, Below.refl _ _⟩
  | some ad =>
    have HV := Lib.hid hv
    have H1 := Lib.hid h1
    clear hv h1
    go_enter Tryz.func46, Tryz.ntmps46
    go_wp2_with (at_builtin; refine clone_end rfl _ _ 52 33 rfl u64sSlice (.int .u64 0) 8 infoU64 rfl (by decide) W rfl rfl n cs ad c rfl HV.out H1.out hn ?_; intro v' w' hown hb; have HO := Lib.hid hown; have HB := Lib.hid hb; clear hown hb)
    go_ret
    exact ⟨⟨_, rfl, HO.out⟩, HB.out⟩

end Go.Proofs.YtephnfhjobkciaaGreatDoor

/- A wave that the call makes: its box and its three rows. -/
namespace Go.Proofs.YtephnfhjobkciaaGreatDoor
open Go.RowKit Go.Proofs.Wav Go.Proofs.Scn Go.Flow Go.Sort
set_option linter.unusedVariables false
set_option linter.unusedSimpArgs false
set_option maxRecDepth 100000

/-- the wave x, in a box R and in rows from B on, made since W -/
structure WSt (B : Nat) (W : World) (R : Nat) (x : Wv) (vn vw vc : Value) (w : World) : Prop where
  hB : W.heap.size ≤ B
  hR : W.heap.size ≤ R
  hs : B ≤ w.heap.size
  box : WBox w R vn vw vc (.int .i64 x.last)
  nm : w.ownsRow B 9 1 vn x.names.length (x.names.map strV)
  wd : w.ownsRow B 3 1 vw x.widths.length (x.widths.map intV)
  ch : w.ownsRow B 50 3 vc x.chs.length (chgsV x.chs)
  bel : Below W.heap.size W w
theorem WSt.wav {B : Nat} {W : World} {R : Nat} {x : Wv} {vn vw vc : Value} {w : World} (h : WSt B W R x vn vw vc w) : WavAt w vn vw vc x := ⟨Slc.own h.nm, Slc.own h.wd, Slc.own h.ch⟩
theorem WSt.later {B : Nat} {W : World} {R : Nat} {x : Wv} {vn vw vc : Value} {w w' : World} (h : WSt B W R x vn vw vc w) (hb : Below w.heap.size w w') : WSt B W R x vn vw vc w' :=
  ⟨h.hB, h.hR, Nat.le_trans h.hs hb.size, h.box.later hb, row_later h.nm hb, row_later h.wd hb, row_later h.ch hb, h.bel.trans (hb.mono h.bel.size)⟩
theorem chgsV_snoc (l : List Chg) (c : Chg) : chgsV (l ++ [c]) = chgsV l ++ chgV c := by simp [chgsV]
theorem t_str_int : (9 : TypeId) ≠ 3 := by decide
/-- what turns for one of the rows leaves the box and the other ones -/
theorem WSt.chg {B : Nat} {W : World} {R : Nat} {x : Wv} {vn vw vc : Value} {w w2 : World} (h : WSt B W R x vn vw vc w) (c : Chg) {p : Option Addr} {N c' : Nat} (hN : N = x.chs.length + 1)
    (ho : w2.ownsRow B 50 3 (.slice p N c') N (chgsV x.chs ++ chgV c)) (hg : w.grownBy w2 vc.ownBlock) :
    WSt B W R { x with chs := x.chs ++ [c] } vn vw (.slice p N c') (w2.setCell ⟨R, 2, none⟩ (.slice p N c')) := by
  have hb : ∀ b, vc.ownBlock = some b → ∃ cur fr, w.heap[b]? = some (.cells cur 50 fr) := row_block h.ch
  have hbox : WBox w2 R vn vw vc (.int .i64 x.last) := h.box.grown hg fun k e => by obtain ⟨cur, fr, h1⟩ := hb k e; exact ⟨cur, _, fr, h1, by decide⟩
  have hn := row_other (q := 0) h.nm hg fun k e => by obtain ⟨cur, fr, h1⟩ := hb k e; exact ⟨cur, _, fr, h1, by decide⟩
  have hw := row_other (q := 0) h.wd hg fun k e => by obtain ⟨cur, fr, h1⟩ := hb k e; exact ⟨cur, _, fr, h1, by decide⟩
  have hbel : Below W.heap.size W w2 := row_grown h.ch h.hB h.bel h.bel.size hg
  refine ⟨h.hB, h.hR, by rw [World.size_setCell]; exact Nat.le_trans h.hs hg.size, ?_, row_set hn hbox (by decide) 2 _, row_set hw hbox (by decide) 2 _, ?_, hbel.setCell h.hR _⟩
  · have := WBox.set hbox 2 (.slice p N c')
    exact this
  · have := row_set ho hbox (by decide) 2 (.slice p N c')
    show World.ownsRow _ _ _ _ _ (x.chs ++ [c]).length (chgsV (x.chs ++ [c]))
    rw [chgsV_snoc, List.length_append, List.length_singleton, ← hN]
    exact this
theorem WSt.nam {B : Nat} {W : World} {R : Nat} {x : Wv} {vn vw vc : Value} {w w2 : World} (h : WSt B W R x vn vw vc w) (s : Ln) {p : Option Addr} {N c' : Nat} (hN : N = x.names.length + 1)
    (ho : w2.ownsRow B 9 1 (.slice p N c') N (x.names.map strV ++ [strV s])) (hg : w.grownBy w2 vn.ownBlock) :
    WSt B W R { x with names := x.names ++ [s] } (.slice p N c') vw vc (w2.setCell ⟨R, 0, none⟩ (.slice p N c')) := by
  have hb : ∀ b, vn.ownBlock = some b → ∃ cur fr, w.heap[b]? = some (.cells cur 9 fr) := row_block h.nm
  have hbox : WBox w2 R vn vw vc (.int .i64 x.last) := h.box.grown hg fun k e => by obtain ⟨cur, fr, h1⟩ := hb k e; exact ⟨cur, _, fr, h1, by decide⟩
  have hc := row_other (q := 0) h.ch hg fun k e => by obtain ⟨cur, fr, h1⟩ := hb k e; exact ⟨cur, _, fr, h1, by decide⟩
  have hw := row_other (q := 0) h.wd hg fun k e => by obtain ⟨cur, fr, h1⟩ := hb k e; exact ⟨cur, _, fr, h1, by decide⟩
  have hbel : Below W.heap.size W w2 := row_grown h.nm h.hB h.bel h.bel.size hg
  refine ⟨h.hB, h.hR, by rw [World.size_setCell]; exact Nat.le_trans h.hs hg.size, ?_, ?_, row_set hw hbox (by decide) 0 _, row_set hc hbox (by decide) 0 _, hbel.setCell h.hR _⟩
  · have := WBox.set hbox 0 (.slice p N c')
    exact this
  · have := row_set ho hbox (by decide) 0 (.slice p N c')
    show World.ownsRow _ _ _ _ _ (x.names ++ [s]).length ((x.names ++ [s]).map strV)
    rw [List.map_append, List.length_append, List.length_singleton, ← hN]
    exact this
theorem WSt.wid {B : Nat} {W : World} {R : Nat} {x : Wv} {vn vw vc : Value} {w w2 : World} (h : WSt B W R x vn vw vc w) (n : Int) {p : Option Addr} {N c' : Nat} (hN : N = x.widths.length + 1)
    (ho : w2.ownsRow B 3 1 (.slice p N c') N (x.widths.map intV ++ [intV n])) (hg : w.grownBy w2 vw.ownBlock) :
    WSt B W R { x with widths := x.widths ++ [n] } vn (.slice p N c') vc (w2.setCell ⟨R, 1, none⟩ (.slice p N c')) := by
  have hb : ∀ b, vw.ownBlock = some b → ∃ cur fr, w.heap[b]? = some (.cells cur 3 fr) := row_block h.wd
  have hbox : WBox w2 R vn vw vc (.int .i64 x.last) := h.box.grown hg fun k e => by obtain ⟨cur, fr, h1⟩ := hb k e; exact ⟨cur, _, fr, h1, by decide⟩
  have hc := row_other (q := 0) h.ch hg fun k e => by obtain ⟨cur, fr, h1⟩ := hb k e; exact ⟨cur, _, fr, h1, by decide⟩
  have hn := row_other (q := 0) h.nm hg fun k e => by obtain ⟨cur, fr, h1⟩ := hb k e; exact ⟨cur, _, fr, h1, by decide⟩
  have hbel : Below W.heap.size W w2 := row_grown h.wd h.hB h.bel h.bel.size hg
  refine ⟨h.hB, h.hR, by rw [World.size_setCell]; exact Nat.le_trans h.hs hg.size, ?_, row_set hn hbox (by decide) 1 _, ?_, row_set hc hbox (by decide) 1 _, hbel.setCell h.hR _⟩
  · have := WBox.set hbox 1 (.slice p N c')
    exact this
  · have := row_set ho hbox (by decide) 1 (.slice p N c')
    show World.ownsRow _ _ _ _ _ (x.widths ++ [n]).length ((x.widths ++ [n]).map intV)
    rw [List.map_append, List.length_append, List.length_singleton, ← hN]
    exact this
theorem WSt.end_ {B : Nat} {W : World} {R : Nat} {x : Wv} {vn vw vc : Value} {w : World} (h : WSt B W R x vn vw vc w) (t : Int) :
    WSt B W R { x with last := t } vn vw vc (w.setCell ⟨R, 3, none⟩ (.int .i64 t)) := by
  refine ⟨h.hB, h.hR, by rw [World.size_setCell]; exact h.hs, ?_, row_set h.nm h.box (by decide) 3 _, row_set h.wd h.box (by decide) 3 _, row_set h.ch h.box (by decide) 3 _, h.bel.setCell h.hR _⟩
  have := WBox.set h.box 3 (.int .i64 t)
  exact this

/-- a wave is stored into its box -/
theorem wset4 {w : World} {R : Nat} {a b c d a' b' c' d' : Value} (h : WBox w R a b c d) : WBox ((((w.setCell ⟨R, 0, none⟩ a').setCell ⟨R, 1, none⟩ b').setCell ⟨R, 2, none⟩ c').setCell ⟨R, 3, none⟩ d') R a' b' c' d' :=
  WBox.set (WBox.set (WBox.set (WBox.set h 0 a') 1 b') 2 c') 3 d'
theorem wbel4 {C R : Nat} {W w : World} {a' b' c' d' : Value} (h : Below C W w) (hR : C ≤ R) : Below C W ((((w.setCell ⟨R, 0, none⟩ a').setCell ⟨R, 1, none⟩ b').setCell ⟨R, 2, none⟩ c').setCell ⟨R, 3, none⟩ d') :=
  (((h.setCell hR _).setCell hR _).setCell hR _).setCell hR _
theorem wst4 {B : Nat} {W : World} {R : Nat} {x : Wv} {vn vw vc : Value} {w : World} (h : WSt B W R x vn vw vc w) : WSt B W R x vn vw vc ((((w.setCell ⟨R, 0, none⟩ vn).setCell ⟨R, 1, none⟩ vw).setCell ⟨R, 2, none⟩ vc).setCell ⟨R, 3, none⟩ (.int .i64 x.last)) := by
  have b0 := WBox.set h.box 0 vn
  have b1 := WBox.set b0 1 vw
  have b2 := WBox.set b1 2 vc
  exact ⟨h.hB, h.hR, by simp only [World.size_setCell]; exact h.hs, wset4 h.box, row_set (row_set (row_set (row_set h.nm h.box (by decide) 0 _) b0 (by decide) 1 _) b1 (by decide) 2 _) b2 (by decide) 3 _,
    row_set (row_set (row_set (row_set h.wd h.box (by decide) 0 _) b0 (by decide) 1 _) b1 (by decide) 2 _) b2 (by decide) 3 _, row_set (row_set (row_set (row_set h.ch h.box (by decide) 0 _) b0 (by decide) 1 _) b1 (by decide) 2 _) b2 (by decide) 3 _, wbel4 h.bel h.hR⟩

end Go.Proofs.YtephnfhjobkciaaGreatDoor

/- The wave of rows: the program. -/
namespace Go.Proofs.Wav
set_option linter.unusedVariables false
set_option linter.unusedSimpArgs false
theorem make_bad {ns : List Ln} {ws : List Int} {rows : List (List Nat)} {k : Nat} (hk : k < rows.length) (h : ¬ rows[k].length = ns.length) : makeW ns ws rows = (1, zeroW) := by
  have : fullR ns.length rows = false := by
    rw [Bool.eq_false_iff]
    intro hf
    simp only [fullR, Bool.and_eq_true, decide_eq_true_eq, List.all_eq_true] at hf
    exact h (hf.2 _ (List.getElem_mem hk))
  unfold makeW
  rw [this]
  rfl
theorem make_none {ns : List Ln} {ws : List Int} : makeW ns ws [] = (1, zeroW) := rfl
theorem make_full {ns : List Ln} {ws : List Int} {rows : List (List Nat)} (h0 : 0 < rows.length) (h : ∀ k (hk : k < rows.length), rows[k].length = ns.length) :
    (checkW (rawW ns ws rows) = 0 → makeW ns ws rows = (0, rawW ns ws rows)) ∧ (checkW (rawW ns ws rows) ≠ 0 → makeW ns ws rows = (checkW (rawW ns ws rows), zeroW)) := by
  have : fullR ns.length rows = true := by
    simp only [fullR, Bool.and_eq_true, decide_eq_true_eq, List.all_eq_true]
    refine ⟨List.length_pos_iff.1 h0, fun r hr => ?_⟩
    obtain ⟨k, hk, rfl⟩ := List.getElem_of_mem hr
    exact h k hk
  unfold makeW
  rw [this]
  exact ⟨fun h => by rw [if_pos h]; rfl, fun h => by rw [if_neg h]; rfl⟩
theorem rowC_le (t : Nat) (was : Option (List Nat)) (r : List Nat) : ∀ k, (rowC t was r k).length ≤ k
  | 0 => by simp [rowC_zero]
  | k + 1 => by
    rw [rowC_succ, List.length_append]
    have := rowC_le t was r k
    split <;> simp <;> omega
theorem rowC_put {t : Nat} {was : Option (List Nat)} {r : List Nat} {k : Nat} (h : was.map (fun p => p.getD k 0) ≠ some (r.getD k 0)) : rowC t was r (k + 1) = rowC t was r k ++ [⟨t, k, r.getD k 0⟩] := by rw [rowC_succ, if_neg h]
theorem rowC_not {t : Nat} {was : Option (List Nat)} {r : List Nat} {k : Nat} (h : was.map (fun p => p.getD k 0) = some (r.getD k 0)) : rowC t was r (k + 1) = rowC t was r k := by rw [rowC_succ, if_pos h, List.append_nil]
theorem chs_row {rows : List (List Nat)} {k : Nat} (h : k < rows.length) : chsOf rows (k + 1) = chsOf rows k ++ rowC k (ahead rows k) rows[k] rows[k].length := by
  rw [chsOf, List.getD_eq_getElem?_getD, List.getElem?_eq_getElem h]
  rfl
theorem getD_at {r : List Nat} {s : Nat} (h : s < r.length) : r.getD s 0 = r[s] := by
  rw [List.getD_eq_getElem?_getD, List.getElem?_eq_getElem h]
  rfl
end Go.Proofs.Wav
namespace Go.Proofs.YtephnfhjobkciaaGreatDoor
open Go.RowKit Go.Proofs.Wav Go.Proofs.Scn Go.Flow Go.Sort
set_option linter.unusedVariables false
set_option linter.unusedSimpArgs false
set_option maxRecDepth 100000

theorem row_cap {B e m n : Nat} {w : World} {v : Value} {cs : List Value} (h : w.ownsRow B e m v n cs) : ∃ p c, v = .slice p n c ∧ n ≤ c := by
  rcases h.2 with ⟨h1, h0⟩ | ⟨g, cap, cur, h1, _, _, h2, _⟩
  · exact ⟨none, 0, by rw [h1, h0], by omega⟩
  · exact ⟨_, _, h1, h2⟩
/-- a slice that may be cut again -/
def Capd (v : Value) (n : Nat) : Prop := ∃ p c, v = .slice p n c ∧ n ≤ c
def MakePost (ns : List Ln) (ws : List Int) (rows : List (List Nat)) (W : World) (e : Ending) (W' : World) : Prop :=
  (∃ vn vw vc, e = .returned (.tuple #[.agg #[vn, vw, vc, .int .i64 (makeW ns ws rows).2.last], .int .i64 (makeW ns ws rows).1]) ∧ WavAt W' vn vw vc (makeW ns ws rows).2 ∧ Capd vc (makeW ns ws rows).2.chs.length) ∧ Below W.heap.size W W'
theorem MakePost.bad {ns : List Ln} {ws : List Int} {rows : List (List Nat)} {er : Int} {W W' : World} {e : Ending} (h : makeW ns ws rows = (er, zeroW)) (he : e = .returned (.tuple #[.agg #[.slice none 0 0, .slice none 0 0, .slice none 0 0, .int .i64 0], .int .i64 er])) (hb : Below W.heap.size W W') : MakePost ns ws rows W e W' := by
  unfold MakePost
  rw [h]
  have hn : ∀ e, Slc W' e (.slice none 0 0) 0 [] := fun e => ⟨by simp, .inl ⟨rfl, _, _, rfl⟩⟩
  exact ⟨⟨_, _, _, he, ⟨hn 1, hn 1, hn 3⟩, none, 0, rfl, Nat.le_refl _⟩, hb⟩
theorem MakePost.good {ns : List Ln} {ws : List Int} {rows : List (List Nat)} {x : Wv} {W W' : World} {e : Ending} {vn vw vc : Value} (h : makeW ns ws rows = (0, x)) (he : e = .returned (.tuple #[.agg #[vn, vw, vc, .int .i64 x.last], .int .i64 0])) (hx : WavAt W' vn vw vc x) (hc : Capd vc x.chs.length) (hb : Below W.heap.size W W') : MakePost ns ws rows W e W' := by
  unfold MakePost
  rw [h]
  exact ⟨⟨_, _, _, he, hx, hc⟩, hb⟩
/-- the row ahead, as the loop has it -/
def Was (w : World) (rows : List (List Nat)) (k : Nat) (p : Option Addr) (l c : Nat) : Prop := (k = 0 → p = none ∧ l = 0 ∧ c = 0) ∧ (∀ (hk : k - 1 < rows.length), 0 < k → l = (rows[k - 1]).length ∧ U64s w (.slice p l c) rows[k - 1])
theorem Was.later {w w' : World} {rows : List (List Nat)} {k : Nat} {p : Option Addr} {l c : Nat} (h : Was w rows k p l c) (hb : Below w.heap.size w w') : Was w' rows k p l c :=
  ⟨h.1, fun hk h0 => ⟨(h.2 hk h0).1, Slc.later (h.2 hk h0).2 hb⟩⟩

theorem WSt.boxg {B : Nat} {W : World} {R : Nat} {x : Wv} {vn vw vc : Value} {w w2 : World} (h : WSt B W R x vn vw vc w) (hg : w.grownBy w2 vc.ownBlock) : Box4 w2 R vn vw vc (.int .i64 x.last) :=
  (h.box.grown hg fun k e => by obtain ⟨cur, fr, h1⟩ := row_block h.ch k e; exact ⟨cur, _, fr, h1, by decide⟩).box

set_option maxHeartbeats 16000000 in
theorem make_any (vn vw vr : Value) (ns : List Ln) (ws : List Int) (rows : List (List Nat)) (hn : ns.length ≤ 100000) (hw : ws.length ≤ 100000) (hst : ∀ s ∈ ns, s.length ≤ 100000) (hr : rows.length ≤ 100000) (hp : rows.length * ns.length ≤ 100000)
    (hv : ∀ r ∈ rows, ∀ x ∈ r, x < 18446744073709551616) (W : World) (h1 : Strs W vn ns) (h2 : Ints W vw ws) (h3 : Rws W vr rows) :
    Calls Tryz.prog 21 #[vn, vw, vr] W (MakePost ns ws rows W) := by
  obtain ⟨pn, cn, rfl⟩ := Slc.form h1
  obtain ⟨pw, cw, rfl⟩ := Slc.form h2
  obtain ⟨pr, cr, rfl⟩ := h3.form
  have HRw := Lib.hid (fun w (hb : Below W.heap.size W w) (h0 : 0 < rows.length) => Rws.at (Rws.later (w' := w) h3 hb) h0)
  have hb0 := (Below.refl W.heap.size W).alloc (Nat.le_refl _) (.cells #[.slice none 0 0, .slice none 0 0, .slice none 0 0, .int .i64 0] 26)
  have hx0 := WBox.new W (.slice none 0 0) (.slice none 0 0) (.slice none 0 0) (.int .i64 0)
  have HC1 := Lib.hid (cloneStr_any (.slice pn ns.length cn) ns.length (ns.map strV) (W.alloc (.cells #[.slice none 0 0, .slice none 0 0, .slice none 0 0, .int .i64 0] 26)) (Slc.later h1 hb0) (by simp [strV, Value.oneCell']) (by omega))
  have HC2 := Lib.hid (fun w (hb : Below W.heap.size W w) => cloneInt_any (.slice pw ws.length cw) ws.length (ws.map intV) w (Slc.later h2 hb) (by simp [intV, Value.oneCell']) (by omega))
  have HM1 := Lib.hid (fun k hk h => @make_bad ns ws rows k hk h)
  have HM2 := Lib.hid (fun h0 h => @make_full ns ws rows h0 h)
  have HNone := Lib.hid (fun (h : rows = []) => show makeW ns ws rows = (1, zeroW) by rw [h]; rfl)
  have HB0 := Lib.hid hb0
  have HX0 := Lib.hid hx0
  have HST := Lib.hid hst
  have HV := Lib.hid hv
  have HP := Lib.hid hp
  clear h1 h2 h3 hb0 hst hv hp
  obtain ⟨a0, a1, a2, a3, f0, f1, f2, f3, lt0⟩ := hx0.box
  clear hx0
  go_enter Tryz.func21, Tryz.ntmps21
  go_wp2_with fail
  refine HC1.out.mono ?_
  rintro e W2 ⟨⟨v1, rfl, ho1⟩, hb2⟩
  have HX2 := Lib.hid (HX0.out.later hb2)
  have HB2 := Lib.hid (HB0.out.trans (hb2.mono HB0.out.size))
  have HO1 := Lib.hid (row_base ho1 (show W.heap.size ≤ _ by simp))
  obtain ⟨q1, c1, rfl⟩ := row_form ho1
  clear hb2 ho1 a0 a1 a2 a3 f0 f1 f2 f3 lt0
  go_wp2_with fail
  refine (HC2.out _ HB2.out).mono ?_
  rintro e W3 ⟨⟨v2, rfl, ho2⟩, hb3⟩
  have HX3 := Lib.hid (HX2.out.later hb3)
  have HB3 := Lib.hid (HB2.out.trans (hb3.mono HB2.out.size))
  have HO1' := Lib.hid (row_later HO1.out hb3)
  have HO2 := Lib.hid (row_base ho2 HB2.out.size)
  obtain ⟨q2, c2, rfl⟩ := row_form ho2
  obtain ⟨a0, a1, a2, a3, f0, f1, f2, f3, lt0⟩ := HX3.out.box
  clear hb3 ho2
  go_wp2_with fail
  have hW4 : WSt W.heap.size W W.heap.size ⟨ns, ws, [], (rows.length : Int) - 1⟩ (.slice q1 ns.length c1) (.slice q2 ws.length c2) (.slice none 0 0)
      ((((W3.setCell ⟨W.heap.size, 0, none⟩ (.slice q1 ns.length c1)).setCell ⟨W.heap.size, 1, none⟩ (.slice q2 ws.length c2)).setCell ⟨W.heap.size, 2, none⟩ (.slice none 0 0)).setCell ⟨W.heap.size, 3, none⟩ (.int .i64 ((rows.length : Int) - 1))) := by
    have b0 := WBox.set HX3.out 0 (.slice q1 ns.length c1)
    have b1 := WBox.set b0 1 (.slice q2 ws.length c2)
    have b2 := WBox.set b1 2 (.slice none 0 0)
    have b3 := WBox.set b2 3 (.int .i64 ((rows.length : Int) - 1))
    refine ⟨Nat.le_refl _, Nat.le_refl _, by simp only [World.size_setCell]; exact HB3.out.size, b3, ?_, ?_, World.ownsRow_nil _ _ _ _, (((HB3.out.setCell (Nat.le_refl _) _).setCell (Nat.le_refl _) _).setCell (Nat.le_refl _) _).setCell (Nat.le_refl _) _⟩
    · exact row_set (row_set (row_set (row_set HO1'.out HX3.out (by decide) 0 _) b0 (by decide) 1 _) b1 (by decide) 2 _) b2 (by decide) 3 _
    · exact row_set (row_set (row_set (row_set HO2.out HX3.out (by decide) 0 _) b0 (by decide) 1 _) b1 (by decide) 2 _) b2 (by decide) 3 _
  generalize (((W3.setCell ⟨W.heap.size, 0, none⟩ (.slice q1 ns.length c1)).setCell ⟨W.heap.size, 1, none⟩ (.slice q2 ws.length c2)).setCell ⟨W.heap.size, 2, none⟩ (.slice none 0 0)).setCell ⟨W.heap.size, 3, none⟩ (.int .i64 ((rows.length : Int) - 1)) = W4 at *
  have HW4 := Lib.hid hW4
  clear hW4 a0 a1 a2 a3 f0 f1 f2 f3 lt0
  go_loopw [23, 8] (fun i was wr => ∃ (k : Nat) (p : Option Addr) (l c : Nat) (vc : Value), i = .int .i64 k ∧ was = .slice p l c ∧ k ≤ rows.length ∧ Hid (Was W rows k p l c) ∧ Hid (∀ j (hj : j < rows.length), j < k → rows[j].length = ns.length) ∧ Hid ((chsOf rows k).length ≤ k * ns.length) ∧ Hid (WSt W.heap.size W W.heap.size ⟨ns, ws, chsOf rows k, (rows.length : Int) - 1⟩ (.slice q1 ns.length c1) (.slice q2 ws.length c2) vc wr)) (fun i _ _ => rows.length - (intOf i).toNat)
  case atStart => exact ⟨0, none, 0, 0, .slice none 0 0, rfl, rfl, Nat.zero_le _, Lib.hid ⟨fun _ => ⟨rfl, rfl, rfl⟩, fun _ h => by omega⟩, Lib.hid (fun j _ h => by omega), Lib.hid (by simp [chsOf]), HW4⟩
  case round =>
    obtain ⟨k, p, l, c, vc, rfl, rfl, hk, HWas, HLen, HCl, HSt⟩ := hrel
    by_cases hks : k < rows.length
    · obtain ⟨br, or, hpr, hltr, hcr⟩ := HRw.out W (Below.refl _ _) (by omega)
      obtain ⟨qk, dk, xk, huk⟩ := hcr k hks
      replace xk := (HSt.out.bel.cell (p := ⟨br, or + k, none⟩) hltr).trans xk
      subst hpr
      clear hcr hltr
      have hk0 : (0 : Int) ≤ (k : Int) := by omega
      have hk1 : (k : Int) < (rows.length : Int) := by omega
      by_cases hl : rows[k].length = ns.length
      case neg =>
        have hl' : ((rows[k].length : Int) != (ns.length : Int)) = true := by simp; omega
        have HBad := Lib.hid (HM1.out k hks hl)
        obtain ⟨a0, a1, a2, a3, f0, f1, f2, f3, lt0⟩ := HSt.out.box.box
        clear hl huk
        go_wp2
        refine bodyPost_ret (v := .tuple #[.agg #[.slice none 0 0, .slice none 0 0, .slice none 0 0, .int .i64 0], .int .i64 1]) ?_ rfl (MakePost.bad HBad.out rfl ?_)
        · simp [results, Tryz.results21, go_sem, a0, a1, a2, a3, f0, f1, f2, f3]
        · exact (((HSt.out.bel.setCell (Nat.le_refl _) _).setCell (Nat.le_refl _) _).setCell (Nat.le_refl _) _).setCell (Nat.le_refl _) _
      rw [hl] at xk huk
      have hl2 : ((ns.length : Int) != (ns.length : Int)) = false := by simp
      have HL := Lib.hid hl
      clear hl
      have hrow := chs_row hks
      rw [HL.out] at hrow
      have HRow := Lib.hid hrow
      have hkn : k * ns.length ≤ 100000 := Nat.le_trans (Nat.mul_le_mul_right _ (Nat.le_of_lt hks)) HP.out
      have hcl0 := HCl.out
      have hvr := HV.out _ (List.getElem_mem hks)
      have hrl := HL.out
      have hNx : ns.length = (rows[k]'hks).length ∧ U64s W (.slice qk ns.length dk) (rows[k]'hks) := ⟨HL.out.symm, huk⟩
      generalize hrr : rows[k] = r at *
      have HRR := Lib.hid hrr
      have HNx := Lib.hid hNx
      have HUK := Lib.hid huk
      have HRL := Lib.hid hrl
      have HVR := Lib.hid hvr
      have hnil : ∀ w : World, (binOp .eql 52 (.slice p l c) (.slice none 0 0)).run Tryz.prog w = .ok (.bool p.isNone) w := fun w => Lib.run_eql_slice_nil w 52 33 p l c 0 0 u64sSlice
      clear hrow huk hrl hvr hrr hNx
      go_wp2_with fail
      generalize hch : chsOf rows k = ch at *
      clear hch
      go_loopw [36] (fun i wq => ∃ (s : Nat) (vc' : Value), i = .int .i64 s ∧ s ≤ ns.length ∧ Hid (WSt W.heap.size W W.heap.size ⟨ns, ws, ch ++ rowC k (Wav.ahead rows k) r s, (rows.length : Int) - 1⟩ (.slice q1 ns.length c1) (.slice q2 ws.length c2) vc' wq)) (fun i _ => ns.length - (intOf i).toNat)
      case atStart => exact ⟨0, vc, rfl, Nat.zero_le _, by rw [rowC_zero, List.append_nil]; exact HSt⟩
      case round =>
        obtain ⟨s, vc', rfl, hs, HQ⟩ := hrel
        by_cases hsn : s < ns.length
        · obtain ⟨bk, ok, hpk, hltk, hck⟩ := Slc.at HUK.out (by rw [HRL.out]; omega)
          have hsr : s < r.length := by rw [HRL.out]; exact hsn
          have xs := (HQ.out.bel.cell (p := ⟨bk, ok + s, none⟩) hltk).trans (one_at hck s hsr)
          have hput := fun h => @rowC_put k (Wav.ahead rows k) r s h
          have hnot := fun h => @rowC_not k (Wav.ahead rows k) r s h
          rw [getD_at hsr] at hput hnot
          have hv64 := HVR.out _ (List.getElem_mem hsr)
          generalize r[s] = v at *
          unfold u64V at xs
          subst hpk
          clear hck hltk
          have hcl1 : (ch ++ rowC k (Wav.ahead rows k) r s).length ≤ 200000 := by
            rw [List.length_append]
            have := rowC_le k (Wav.ahead rows k) r s
            omega
          obtain ⟨pc, cc, hvc⟩ := row_form HQ.out.ch
          obtain ⟨N, hN⟩ : ∃ N, N = (ch ++ rowC k (Wav.ahead rows k) r s).length := ⟨_, rfl⟩
          simp only at hvc
          rw [← hN] at hvc
          subst hvc
          have hN6 : N ≤ 1000000 := by omega
          obtain ⟨a0, a1, a2, a3, f0, f1, f2, f3, lt0⟩ := HQ.out.box.box
          have HN := Lib.hid hN
          have HQA := Lib.hid (HQ.out.later ((Below.refl wr.heap.size wr).alloc (Nat.le_refl _) (.cells #[.int .i64 k, .int .i64 s, .int .u64 v] 50)))
          have HOA := Lib.hid (show (wr.alloc (.cells #[.int .i64 k, .int .i64 s, .int .u64 v] 50)).ownsRow W.heap.size 50 3 (.slice pc N cc) N (chgsV (ch ++ rowC k (Wav.ahead rows k) r s)) by rw [hN]; have := HQA.out.ch; rw [← hN] at this ⊢; exact this)
          have HNA := Lib.hid (heap_alloc_new wr (.cells #[.int .i64 k, .int .i64 s, .int .u64 v] 50))
          have HSA := Lib.hid HQA.out.hs
          have hs0 : (0 : Int) ≤ (s : Int) := by omega
          have hs1 : (s : Int) < (ns.length : Int) := by omega
          clear hN hcl1
          have HEnd := Lib.hid (fun (hp : rowC k (Wav.ahead rows k) r (s + 1) = rowC k (Wav.ahead rows k) r s ++ [⟨k, s, v⟩]) (p' : Option Addr) (c' N' : Nat) (w2 : World) (hN' : N' = N + 1) ho hg => (show WSt W.heap.size W W.heap.size ⟨ns, ws, ch ++ rowC k (Wav.ahead rows k) r (s + 1), (rows.length : Int) - 1⟩ (.slice q1 ns.length c1) (.slice q2 ws.length c2) (.slice p' N' c') (w2.setCell ⟨W.heap.size, 2, none⟩ (.slice p' N' c')) from by
            have := HQA.out.chg ⟨k, s, v⟩ (p := p') (N := N') (c' := c') (w2 := w2) (by rw [hN', HN.out]) ho hg
            rw [hp, ← List.append_assoc]
            exact this))
          by_cases hk00 : k = 0
          · have hp0 : p = none ∧ l = 0 ∧ c = 0 := HWas.out.1 hk00
            obtain ⟨rfl, rfl, rfl⟩ := hp0
            have HK00 := Lib.hid hk00
            clear hk00
            have HPut := Lib.hid (HEnd.out (hput (by unfold Wav.ahead; rw [if_pos HK00.out]; simp)))
            clear hput hnot
            go_wp2_with (at_builtin; refine wpList_append_one rfl _ _ 24 50 rfl chgsSlice (.agg #[.int .i64 0, .int .i64 0, .int .u64 0]) 3 24 infoChg rfl (by decide) (by decide) W.heap.size _ N (chgsV (ch ++ rowC k (Wav.ahead rows k) r s)) rfl HOA.out wr.heap.size 1 #[.int .i64 k, .int .i64 s, .int .u64 v] rfl HNA.out rfl (by simp [Value.oneCell']) hN6 (Nat.le_trans HQA.out.hB HSA.out) ?_; intro p' c' N' w2 HN' hown2 hgr2; have HSt2 := Lib.hid (HPut.out p' c' N' w2 HN'.out hown2 hgr2); obtain ⟨_, _, b2, _, _, _, g2, _, _⟩ := HQA.out.boxg hgr2; clear hown2 hgr2 HN')
            go_roundw
            case rel => exact ⟨s + 1, _, by go_num, by omega, HSt2⟩
            case measure => simp [intOf]; omega
          · obtain ⟨hl1, hu1⟩ := HWas.out.2 (by omega) (by omega)
            have hkp : k - 1 < rows.length := by omega
            have hlp : rows[k - 1].length = ns.length := HLen.out (k - 1) hkp (by omega)
            obtain ⟨bq, oq, hpq, hltq, hcq⟩ := Slc.at (hl1 ▸ hu1) (by rw [hlp]; omega)
            have hsp : s < rows[k - 1].length := by omega
            have xp := (HQ.out.bel.cell (p := ⟨bq, oq + s, none⟩) hltq).trans (one_at hcq s hsp)
            have hah : (Wav.ahead rows k).map (fun p => p.getD s 0) = some (rows[k - 1][s]) := by
              unfold Wav.ahead
              rw [if_neg hk00, List.getD_eq_getElem?_getD, List.getElem?_eq_getElem hkp, Option.getD_some, Option.map_some, getD_at hsp]
            rw [hah] at hput hnot
            rw [hlp] at hl1
            generalize rows[k - 1][s] = u at *
            unfold u64V at xp
            subst hpq
            subst hl1
            clear hcq hltq hah hu1 hlp hsp
            by_cases huv : u = v
            · have HNot := Lib.hid (hnot (by rw [huv]))
              have huv' : ((u : Int) != (v : Int)) = false := by simp [huv]
              clear hput hnot
              go_wp2_with fail
              go_roundw
              case rel => exact ⟨s + 1, _, by go_num, by omega, by rw [HNot.out]; exact HQ⟩
              case measure => simp [intOf]; omega
            · have huv' : ((u : Int) != (v : Int)) = true := by simp; omega
              have HPut := Lib.hid (HEnd.out (hput (by simp; exact huv)))
              clear hput hnot
              go_wp2_with (at_builtin; refine wpList_append_one rfl _ _ 24 50 rfl chgsSlice (.agg #[.int .i64 0, .int .i64 0, .int .u64 0]) 3 24 infoChg rfl (by decide) (by decide) W.heap.size _ N (chgsV (ch ++ rowC k (Wav.ahead rows k) r s)) rfl HOA.out wr.heap.size 1 #[.int .i64 k, .int .i64 s, .int .u64 v] rfl HNA.out rfl (by simp [Value.oneCell']) hN6 (Nat.le_trans HQA.out.hB HSA.out) ?_; intro p' c' N' w2 HN' hown2 hgr2; have HSt2 := Lib.hid (HPut.out p' c' N' w2 HN'.out hown2 hgr2); obtain ⟨_, _, b2, _, _, _, g2, _, _⟩ := HQA.out.boxg hgr2; clear hown2 hgr2 HN')
              go_roundw
              case rel => exact ⟨s + 1, _, by go_num, by omega, HSt2⟩
              case measure => simp [intOf]; omega
        · obtain rfl : s = ns.length := by omega
          have hlr := HRow.out
          have HQ2 := Lib.hid (show WSt W.heap.size W W.heap.size ⟨ns, ws, chsOf rows (k + 1), (rows.length : Int) - 1⟩ (.slice q1 ns.length c1) (.slice q2 ws.length c2) vc' wr by rw [hlr]; exact HQ.out)
          have hcl2 : (chsOf rows (k + 1)).length ≤ (k + 1) * ns.length := by
            rw [hlr, List.length_append, Nat.succ_mul]
            have := rowC_le k (Wav.ahead rows k) r ns.length
            omega
          have HCl2 := Lib.hid hcl2
          have HWas2 : Hid (Was W rows (k + 1) qk ns.length dk) := Lib.hid ⟨fun h => by omega, fun hk' _ => by
            simp only [Nat.add_sub_cancel] at hk' ⊢
            rw [HRR.out]
            exact HNx.out⟩
          have HLen2 : Hid (∀ j (hj : j < rows.length), j < k + 1 → rows[j].length = ns.length) := Lib.hid (fun j hj hjk => by
            rcases Nat.lt_or_ge j k with h | h
            · exact HLen.out j hj h
            · obtain rfl : j = k := by omega
              rw [HRR.out]
              exact HL.out)
          clear hcl2 hlr
          go_wp2_with fail
          go_roundw
          case rel => exact ⟨k + 1, qk, ns.length, dk, vc', by go_num, rfl, by omega, HWas2, HLen2, HCl2, HQ2⟩
          case measure => simp [intOf]; omega
    · obtain rfl : k = rows.length := by omega
      have HW0 := Lib.hid (Nat.le_refl W.heap.size)
      obtain ⟨pc, cc, hvc⟩ := row_form HSt.out.ch
      simp only at hvc
      by_cases h0 : rows.length = 0
      · have hE : rows = [] := List.eq_nil_of_length_eq_zero h0
        have HBad := Lib.hid (HNone.out hE)
        have h0' : ((rows.length : Int) == 0) = true := by simp [h0]
        obtain ⟨a0, a1, a2, a3, f0, f1, f2, f3, lt0⟩ := HSt.out.box.box
        clear hE h0
        go_wp2
        have hz := wset4 (a' := .slice none 0 0) (b' := .slice none 0 0) (c' := .slice none 0 0) (d' := .int .i64 0) (wset4 (a' := .slice none 0 0) (b' := .slice none 0 0) (c' := .slice none 0 0) (d' := .int .i64 0) HSt.out.box)
        have hbl := wbel4 (a' := .slice none 0 0) (b' := .slice none 0 0) (c' := .slice none 0 0) (d' := .int .i64 0) (wbel4 (a' := .slice none 0 0) (b' := .slice none 0 0) (c' := .slice none 0 0) (d' := .int .i64 0) HSt.out.bel (Nat.le_refl _)) (Nat.le_refl _)
        generalize ((((((((wr).setCell ⟨W.heap.size, 0, none⟩ (.slice none 0 0)).setCell ⟨W.heap.size, 1, none⟩ (.slice none 0 0)).setCell ⟨W.heap.size, 2, none⟩ (.slice none 0 0)).setCell ⟨W.heap.size, 3, none⟩ (.int .i64 0)).setCell ⟨W.heap.size, 0, none⟩ (.slice none 0 0)).setCell ⟨W.heap.size, 1, none⟩ (.slice none 0 0)).setCell ⟨W.heap.size, 2, none⟩ (.slice none 0 0)).setCell ⟨W.heap.size, 3, none⟩ (.int .i64 0) = X at *
        obtain ⟨z0, z1, z2, z3, _, _, _, _, _⟩ := hz.box
        refine bodyPost_ret (v := .tuple #[.agg #[.slice none 0 0, .slice none 0 0, .slice none 0 0, .int .i64 0], .int .i64 1]) ?_ rfl (MakePost.bad HBad.out rfl hbl)
        simp [results, Tryz.results21, go_sem, z0, z1, z2, z3]
      · have h0' : ((rows.length : Int) == 0) = false := beq_eq_false_iff_ne.2 (by omega)
        obtain ⟨hG, hB⟩ := HM2.out (by omega) (fun k hk => HLen.out k hk hk)
        have hcl2 : (chsOf rows rows.length).length ≤ 100000 := Nat.le_trans HCl.out HP.out
        have hsm : Small (rawW ns ws rows) := ⟨hn, hw, hcl2, HST.out⟩
        have hfit : Fits (rawW ns ws rows) := by
          have key : ∀ c ∈ chsOf rows rows.length, (0 ≤ c.g ∧ c.g ≤ 100000) ∧ c.v < 18446744073709551616 := by
            intro c hc
            obtain ⟨t, s, e1, e2, ht, hs, e3, _⟩ := mem_made (n := ns.length) (fun k hk => by rw [List.getD_eq_getElem?_getD, List.getElem?_eq_getElem hk]; exact HLen.out k hk hk) hc
            have hrt : rows.getD t [] = rows[t] := by rw [List.getD_eq_getElem?_getD, List.getElem?_eq_getElem ht]; rfl
            have hsl : s < rows[t].length := by rw [HLen.out t ht ht]; exact hs
            rw [hrt, getD_at hsl] at e3
            have := HV.out _ (List.getElem_mem ht) _ (List.getElem_mem hsl)
            exact ⟨by omega, by rw [← e3]; exact this⟩
          exact ⟨fun c hc => by have := key c hc; omega, fun c hc => (key c hc).2⟩
        have HCk := Lib.hid (check_any (.slice q1 ns.length c1) (.slice q2 ws.length c2) vc (rawW ns ws rows) hsm hfit wr HSt.out.wav)
        have HSt1 : Hid (WSt W.heap.size W W.heap.size (rawW ns ws rows) (.slice q1 ns.length c1) (.slice q2 ws.length c2) vc wr) := HSt
        obtain ⟨N, hN⟩ : ∃ N, N = (chsOf rows rows.length).length := ⟨_, rfl⟩
        rw [← hN] at hvc
        subst hvc
        clear hN
        have hlast : (rawW ns ws rows).last = (rows.length : Int) - 1 := rfl
        have HLast := Lib.hid hlast
        rw [hlast] at HCk
        obtain ⟨a0, a1, a2, a3, f0, f1, f2, f3, lt0⟩ := HSt.out.box.box
        clear hlast hsm hfit h0
        by_cases hck : checkW (rawW ns ws rows) = 0
        · have HG := Lib.hid (hG hck)
          rw [hck] at HCk
          clear hck hG hB
          go_wp2_with fail
          refine HCk.out.mono ?_
          rintro e W5 ⟨rfl, hb5⟩
          have HSt5 := Lib.hid (HSt1.out.later hb5)
          obtain ⟨a0, a1, a2, a3, f0, f1, f2, f3, lt0⟩ := HSt5.out.box.box
          clear hb5
          go_wp2
          have hz := wst4 HSt5.out
          generalize ((((W5).setCell ⟨W.heap.size, 0, none⟩ (.slice q1 ns.length c1)).setCell ⟨W.heap.size, 1, none⟩ (.slice q2 ws.length c2)).setCell ⟨W.heap.size, 2, none⟩ (.slice pc N cc)).setCell ⟨W.heap.size, 3, none⟩ (.int .i64 (rawW ns ws rows).last) = X at *
          obtain ⟨z0, z1, z2, z3, _, _, _, _, _⟩ := hz.box.box
          refine bodyPost_ret (v := .tuple #[.agg #[.slice q1 ns.length c1, .slice q2 ws.length c2, .slice pc N cc, .int .i64 (rawW ns ws rows).last], .int .i64 0]) ?_ rfl (MakePost.good HG.out rfl hz.wav (row_cap hz.ch) hz.bel)
          simp [results, Tryz.results21, go_sem, z0, z1, z2, z3]
        · have HG := Lib.hid (hB hck)
          have hck' : (checkW (rawW ns ws rows) != 0) = true := by simpa using hck
          generalize checkW (rawW ns ws rows) = R at *
          clear hck hG hB
          go_wp2_with fail
          refine HCk.out.mono ?_
          rintro e W5 ⟨rfl, hb5⟩
          have HSt5 := Lib.hid (HSt1.out.later hb5)
          obtain ⟨a0, a1, a2, a3, f0, f1, f2, f3, lt0⟩ := HSt5.out.box.box
          clear hb5
          go_wp2
          have hz := wset4 (a' := .slice none 0 0) (b' := .slice none 0 0) (c' := .slice none 0 0) (d' := .int .i64 0) (wset4 (a' := .slice none 0 0) (b' := .slice none 0 0) (c' := .slice none 0 0) (d' := .int .i64 0) HSt5.out.box)
          have hbl := wbel4 (a' := .slice none 0 0) (b' := .slice none 0 0) (c' := .slice none 0 0) (d' := .int .i64 0) (wbel4 (a' := .slice none 0 0) (b' := .slice none 0 0) (c' := .slice none 0 0) (d' := .int .i64 0) HSt5.out.bel (Nat.le_refl _)) (Nat.le_refl _)
          generalize ((((((((W5).setCell ⟨W.heap.size, 0, none⟩ (.slice none 0 0)).setCell ⟨W.heap.size, 1, none⟩ (.slice none 0 0)).setCell ⟨W.heap.size, 2, none⟩ (.slice none 0 0)).setCell ⟨W.heap.size, 3, none⟩ (.int .i64 0)).setCell ⟨W.heap.size, 0, none⟩ (.slice none 0 0)).setCell ⟨W.heap.size, 1, none⟩ (.slice none 0 0)).setCell ⟨W.heap.size, 2, none⟩ (.slice none 0 0)).setCell ⟨W.heap.size, 3, none⟩ (.int .i64 0) = X at *
          obtain ⟨z0, z1, z2, z3, _, _, _, _, _⟩ := hz.box
          refine bodyPost_ret (v := .tuple #[.agg #[.slice none 0 0, .slice none 0 0, .slice none 0 0, .int .i64 0], .int .i64 R]) ?_ rfl (MakePost.bad HG.out rfl hbl)
          simp [results, Tryz.results21, go_sem, z0, z1, z2, z3]

end Go.Proofs.YtephnfhjobkciaaGreatDoor

/- The rows of a wave: the program. -/
namespace Go.Proofs.Wav
set_option linter.unusedVariables false
set_option linter.unusedSimpArgs false
def rowsE (x : Wv) : Int := if checkW x ≠ 0 then checkW x else if 65536 < x.last ∨ 65536 < (x.last + 1) * x.names.length then 2 else 0
theorem rowsE_bad {x : Wv} (h : checkW x ≠ 0) : rowsE x = checkW x := by unfold rowsE; rw [if_pos h]
theorem rowsE_long {x : Wv} (h : checkW x = 0) (h2 : 65536 < x.last ∨ 65536 < (x.last + 1) * x.names.length) : rowsE x = 2 := by unfold rowsE; rw [if_neg (by simp [h]), if_pos h2]
theorem rowsE_ok {x : Wv} (h : checkW x = 0) (h2 : ¬ (65536 < x.last ∨ 65536 < (x.last + 1) * x.names.length)) : rowsE x = 0 := by unfold rowsE; rw [if_neg (by simp [h]), if_neg h2]
theorem filter_take {l : List Chg} {i : Nat} {t : Int} (h1 : ∀ c ∈ l.take i, c.t ≤ t) (h2 : ∀ c ∈ l.drop i, t < c.t) : l.filter (fun c => decide (c.t ≤ t)) = l.take i := by
  have h3 : (l.take i).filter (fun c => decide (c.t ≤ t)) = l.take i := List.filter_eq_self.2 fun c hc => decide_eq_true (h1 c hc)
  have h4 : (l.drop i).filter (fun c => decide (c.t ≤ t)) = [] := List.filter_eq_nil_iff.2 fun c hc => by have := h2 c hc; simp; omega
  have h5 := congrArg (List.filter fun c => decide (c.t ≤ t)) (List.take_append_drop i l)
  rw [List.filter_append, h3, h4, List.append_nil] at h5
  exact h5.symm
theorem drop_gt {l : List Chg} (hs : l.Pairwise (fun a b => a.t ≤ b.t)) {i : Nat} {t : Int} (hi : i < l.length) (h : t < l[i].t) : ∀ c ∈ l.drop i, t < c.t := by
  intro c hc
  obtain ⟨j, hj, rfl⟩ := List.getElem_of_mem hc
  rw [List.getElem_drop]
  rw [List.length_drop] at hj
  rcases Nat.eq_zero_or_pos j with rfl | hp
  · simpa using h
  · have := List.pairwise_iff_getElem.1 hs i (i + j) hi (by omega) (by omega)
    omega
/-- the values when i changes are told -/
def nowF (l : List Chg) (i s : Nat) : Nat := (told (l.take i) s).getD 0
theorem nowF_zero (l : List Chg) (s : Nat) : nowF l 0 s = 0 := by simp [nowF, told]
theorem nowF_succ {l : List Chg} {i : Nat} (hi : i < l.length) (s : Nat) : nowF l (i + 1) s = if l[i].g = s then l[i].v else nowF l i s := by
  unfold nowF
  rw [List.take_succ_eq_append_getElem hi, told_snoc]
  split <;> rfl
def rowF (n : Nat) (l : List Chg) (k : Nat) : List Nat := (List.range n).map fun (s : Nat) => valAt l k s
theorem row_now {l : List Chg} {n i k : Nat} (h1 : ∀ c ∈ l.take i, c.t ≤ (k : Int)) (h2 : ∀ c ∈ l.drop i, (k : Int) < c.t) : rowF n l k = (List.range n).map (nowF l i) := by
  unfold rowF
  refine List.map_congr_left fun s _ => ?_
  unfold valAt nowF
  rw [filter_take h1 h2]
theorem rowsOf_at (n : Nat) (l : List Chg) (m : Nat) : rowsOf n l m = (List.range m).map (rowF n l) := rfl
end Go.Proofs.Wav
namespace Go.Proofs.YtephnfhjobkciaaGreatDoor
open Go.RowKit Go.Proofs.Wav Go.Proofs.Scn Go.Flow Go.Sort
set_option linter.unusedVariables false
set_option linter.unusedSimpArgs false
set_option maxRecDepth 100000

theorem rowsSlice : Tryz.prog.underlying 38 = some (.slice 52) := by kernel_rfl
theorem infoRow : (Tryz.prog.info? 52).map (fun i => (i.zero, i.size, i.bytes)) = some (some (.slice none 0 0), 1, 24) := by kernel_rfl
theorem make_rows (n : Nat) (h : n ≤ 1000000) : ∃ cur : Array Value, cur.size = n ∧ ∀ w, (Instr.makeSlice 38 (.int .i64 n) (.int .i64 n)).run Tryz.prog w = .ok (.slice (some ⟨w.heap.size, 0, none⟩) n n) (w.alloc (.cells cur 52)) := by
  obtain ⟨i0, hi, hz0, hz1, hz2⟩ := info_parts infoRow
  refine ⟨madeCells (Value.slice none 0 0).cells (n * i0.size), ?_, fun w => ?_⟩
  · rw [hz1, Nat.mul_one, ← Array.length_toList, show (Value.slice none 0 0).cells = #[Value.slice none 0 0] from rfl, toList_madeCells_one, List.length_replicate]
  · have := run_make (P := Tryz.prog) w 38 52 i0 (.slice none 0 0) rowsSlice hi hz0 .i64 .i64 (n : Int) (n : Int) (by omega) (Int.le_refl _) (by rw [hz2]; omega) (by omega)
    simpa using this

/-- the first rows, in a row of rows -/
def RowsAt (w : World) (NB RB n m : Nat) (rws : List (List Nat)) : Prop := ∃ cur : Array Value, w.heap[RB]? = some (.cells cur 52 (0, 0)) ∧ cur.size = m ∧ ∀ j (hj : j < rws.length), ∃ q c, cur[j]? = some (.slice q n c) ∧ rws[j].length = n ∧ w.ownsRow (NB + 1) 33 1 (.slice q n c) n (rws[j].map u64V)
theorem RowsAt.later {w w' : World} {NB RB n m : Nat} {rws : List (List Nat)} (h : RowsAt w NB RB n m rws) (hb : Below w.heap.size w w') : RowsAt w' NB RB n m rws := by
  obtain ⟨cur, h1, h2, h3⟩ := h
  refine ⟨cur, (hb.block RB (Array.getElem?_eq_some_iff.1 h1).1).trans h1, h2, fun j hj => ?_⟩
  obtain ⟨q, c, h4, h5, h6⟩ := h3 j hj
  exact ⟨q, c, h4, h5, row_later h6 hb⟩
theorem RowsAt.now {w : World} {NB RB n m : Nat} {rws : List (List Nat)} (h : RowsAt w NB RB n m rws) (hne : RB ≠ NB) (s : Nat) (u : Value) : RowsAt (w.setCell ⟨NB, s, none⟩ u) NB RB n m rws := by
  obtain ⟨cur, h1, h2, h3⟩ := h
  refine ⟨cur, (Below.heap_setCell w ⟨NB, s, none⟩ u RB hne).trans h1, h2, fun j hj => ?_⟩
  obtain ⟨q, c, h4, h5, h6⟩ := h3 j hj
  refine ⟨q, c, h4, h5, h6.1, ?_⟩
  rcases h6.2 with h0 | ⟨g, cap, cu, e1, e2, e3, e4⟩
  · exact .inl h0
  · exact .inr ⟨g, cap, cu, e1, e2, (Below.heap_setCell w ⟨NB, s, none⟩ u g (by simp only; omega)).trans e3, e4⟩
theorem RowsAt.put {w : World} {NB RB n m : Nat} {rws : List (List Nat)} (h : RowsAt w NB RB n m rws) (hl : rws.length < m) {r : List Nat} {q : Option Addr} {c : Nat} (hr : r.length = n) (ho : w.ownsRow (NB + 1) 33 1 (.slice q n c) n (r.map u64V)) :
    RowsAt (w.setCell ⟨RB, rws.length, none⟩ (.slice q n c)) NB RB n m (rws ++ [r]) := by
  obtain ⟨cur, h1, h2, h3⟩ := h
  refine ⟨cur.setIfInBounds rws.length (.slice q n c), by simp [World.setCell, Array.getElem?_modify, h1], by simp [h2], fun j hj => ?_⟩
  rw [List.length_append, List.length_singleton] at hj
  rcases Nat.lt_or_ge j rws.length with h | h
  · obtain ⟨q', c', h4, h5, h6⟩ := h3 j h
    refine ⟨q', c', ?_, ?_, ?_⟩
    · rw [Array.getElem?_setIfInBounds_ne (by omega)]; exact h4
    · rw [List.getElem_append_left h]; exact h5
    · rw [List.getElem_append_left h]; exact row_set h6 h1 (by decide) rws.length _
  · obtain rfl : j = rws.length := by omega
    refine ⟨q, c, ?_, ?_, ?_⟩
    · rw [Array.getElem?_setIfInBounds_self_of_lt (by omega)]
    · rw [List.getElem_append_right (by omega)]; simpa using hr
    · rw [List.getElem_append_right (by omega)]; simp only [Nat.sub_self, List.getElem_cons_zero]; exact row_set ho h1 (by decide) rws.length _
theorem RowsAt.cell {w : World} {NB RB n m : Nat} {rws : List (List Nat)} (h : RowsAt w NB RB n m rws) {k : Nat} (hk : k < m) : (∃ x, w.cell? ⟨RB, k, none⟩ = some x) ∧ w.frozen? ⟨RB, k, none⟩ = false := by
  obtain ⟨cur, h1, h2, h3⟩ := h
  exact ⟨⟨cur[k], by rw [cell_of_row w RB k cur _ (0, 0) h1]; exact Array.getElem?_eq_getElem (by omega)⟩, by simp [World.frozen?, h1]⟩
theorem RowsAt.rws {w : World} {NB RB n m : Nat} {rws : List (List Nat)} (h : RowsAt w NB RB n m rws) (hm : rws.length = m) : Rws w (.slice (some ⟨RB, 0, none⟩) m m) rws := by
  obtain ⟨cur, h1, h2, h3⟩ := h
  refine ⟨cur.toList, by simp; omega, ⟨by simp; omega, .inr ⟨RB, 0, m, by rw [hm], (Array.getElem?_eq_some_iff.1 h1).1, fun j hj => ?_⟩⟩, fun k hk hk' => ?_⟩
  · rw [Nat.zero_add, cell_of_row w RB j cur _ (0, 0) h1]; simp
  · obtain ⟨q, c, h4, h5, h6⟩ := h3 k hk
    have : cur.toList[k] = .slice q n c := by
      have h7 : cur.toList[k]? = some (.slice q n c) := by rw [Array.getElem?_toList]; exact h4
      exact (List.getElem?_eq_some_iff.1 h7).2
    rw [this]
    unfold U64s
    rw [h5]
    exact Slc.own h6

end Go.Proofs.YtephnfhjobkciaaGreatDoor
