/- Texts of the Wave laws, merged: WH, WI, WJ, WK, WL. -/
import Derived.Test.YtephnfhjobkciaaGreatDoorQ4
import Derived.Lib.QuietBelow
import Derived.BigQuiet
import Derived.Deep.RegionHeld3
import Derived.Deep.DrawnRows
import Derived.RangeFuncNested
import Derived.RangeFuncBound
import Derived.RangeFuncCalls
import Derived.RangeFuncLeaves
import Derived.RangeFuncBox
import Derived.Shelf.Abstract
import Derived.OwnWalkIn
import Derived.TacticsInMore
import Derived.LoopNIn
import Derived.LoopIn
import Derived.BigRegionIn
import Derived.Shelf.RegionOpen
import Derived.Lib.SmallJoins
import Derived.Lib.AppendIntMem
import Derived.Shelf.Strconv.Itoa3
import Derived.Shelf.Spec.TrailingZeros
import Derived.Lib.BufferOld
import Derived.Lib.BufferKept
import Derived.Lib.UnsafeStr

/- The text of a wave: the reference. -/
namespace Go.Proofs.YtephnfhjobkciaaGreatDoor
open Go.RowKit Go.Proofs.Wav Go.Proofs.Scn Go.Flow Go.Sort
set_option linter.unusedVariables false
set_option linter.unusedSimpArgs false
set_option maxRecDepth 100000

def PutPost (x : Wv) (W : World) (e : Ending) (W' : World) : Prop :=
  (∃ v, e = .returned (.tuple #[v, .int .i64 (putE x)]) ∧ if putE x = 0 then OwnB W.heap.size W' v (putW x) else v = .slice none 0 0) ∧ Below W.heap.size W W'
theorem PutPost.bad {x : Wv} {W W' : World} {e : Ending} (h : putE x ≠ 0) (he : e = .returned (.tuple #[.slice none 0 0, .int .i64 (putE x)])) (hb : Below W.heap.size W W') : PutPost x W e W' :=
  ⟨⟨_, he, by rw [if_neg h]⟩, hb⟩
theorem PutPost.good {x : Wv} {W W' : World} {e : Ending} {v : Value} (h : putE x = 0) (he : e = .returned (.tuple #[v, .int .i64 0])) (ho : OwnB W.heap.size W' v (putW x)) (hb : Below W.heap.size W W') : PutPost x W e W' :=
  ⟨⟨v, by rw [h]; exact he, by rw [if_pos h]; exact ho⟩, hb⟩
theorem OwnB.base {B C : Nat} {w : World} {v : Value} {l : Ln} (h : OwnB B w v l) (hb : C ≤ B) : OwnB C w v l := by
  refine ⟨h.1, ?_⟩
  rcases h.2 with h0 | ⟨g, cap, cur, hv, hB, h1⟩
  · exact .inl h0
  · exact .inr ⟨g, cap, cur, hv, Nat.le_trans hb hB, h1⟩
theorem own_grown {B : Nat} {W w w' : World} {v : Value} {L : Ln} (ho : OwnB B w v L) (hb : Below B W w) (hs : B ≤ w.heap.size) (hg : w.grownBy w' v.ownBlock) : Below B W w' :=
  Below.grown hb hg hs fun k hk => (World.ownsRow.lt ho k hk).1

set_option maxHeartbeats 16000000 in
theorem rput_any (vn vw vc : Value) (x : Wv) (hs : Small x) (W : World) (h1 : WavAt W vn vw vc x) :
    Calls Tryz.prog 15 #[.agg #[vn, vw, vc, .int .i64 x.last]] W (PutPost x W) := by
  have HCk := Lib.hid (fun w hb => rcheck_any vn vw vc x hs w (h1.later hb))
  have HBad := Lib.hid (fun (W' : World) (e : Ending) h he hb => @PutPost.bad x W W' e h he hb)
  have HGood := Lib.hid (fun (W' : World) (e : Ending) (v : Value) h he ho hb => @PutPost.good x W W' e v h he ho hb)
  have HE1 := Lib.hid (@putE_bad x)
  have HE2 := Lib.hid (@putE_long x)
  have HE3 := Lib.hid (@putE_ok x)
  have HIs := Lib.hid (@is_of x)
  have HS0 := Lib.hid (sigT_zero x)
  have HS1 := Lib.hid (fun k h h' => @sigT_succ x k h h')
  have HS2 := Lib.hid (sigT_all x)
  have HS3 := Lib.hid (fun k h => @chgT_succ x k h)
  have HS4 := Lib.hid (fun k h => @chgT_last x k h)
  have HS5 := Lib.hid (putW_last x)
  obtain ⟨xn, xw, xc, xl⟩ := x
  obtain ⟨s1, s2, s3, s4⟩ := hs
  simp only at *
  obtain ⟨pn, cn, rfl⟩ := h1.1.form
  obtain ⟨pw, cw, rfl⟩ := h1.2.1.form
  obtain ⟨pc, cc, rfl⟩ := h1.2.2.form
  simp only at *
  have b1 := Box4.new W (.slice pn xn.length cn) (.slice pw xw.length cw) (.slice pc xc.length cc) (.int .i64 xl) 26
  have hb1 := (Below.refl W.heap.size W).alloc (Nat.le_refl _) (.cells #[.slice pn xn.length cn, .slice pw xw.length cw, .slice pc xc.length cc, .int .i64 xl] 26)
  have HX := Lib.hid (fun w hb (h0 : 0 < xn.length) => Slc.at (Slc.later (w' := w) (Slc.later h1.1 hb1) hb) h0)
  have HY := Lib.hid (fun w hb (h0 : 0 < xw.length) => Slc.at (Slc.later (w' := w) (Slc.later h1.2.1 hb1) hb) h0)
  have HC := Lib.hid (fun w hb (h0 : 0 < xc.length) => Slc.at (Slc.later (w' := w) (Slc.later h1.2.2 hb1) hb) h0)
  have HB := Lib.hid hb1
  have HS := Lib.hid s4
  clear hb1 h1 s4
  have hsz : (W.alloc (.cells #[.slice pn xn.length cn, .slice pw xw.length cw, .slice pc xc.length cc, .int .i64 xl] 26)).heap.size = W.heap.size + 1 := by simp
  generalize hputW : putW ⟨xn, xw, xc, xl⟩ = PW at *
  generalize hputE : putE ⟨xn, xw, xc, xl⟩ = PE at *
  generalize hST : sigT ⟨xn, xw, xc, xl⟩ = ST at *
  generalize hCT : chgT ⟨xn, xw, xc, xl⟩ = CT at *
  clear hputW hputE hST hCT
  by_cases hck : checkW ⟨xn, xw, xc, xl⟩ = 0
  case neg =>
    have HPE := Lib.hid (HE1.out hck)
    generalize checkW ⟨xn, xw, xc, xl⟩ = R at *
    have hck' : (R != 0) = true := by simpa using hck
    go_enter Tryz.func15, Tryz.ntmps15
    go_wp2_with fail
    refine (HCk.out _ HB.out).mono ?_
    rintro e W2 ⟨rfl, hb2⟩
    have HW2 := Lib.hid (HB.out.trans (hb2.mono HB.out.size))
    clear hb2
    go_wp2
    go_ret2
    exact HBad.out _ _ (by rw [HPE.out]; exact hck) (by rw [HPE.out]; rfl) HW2.out
  have his := HIs.out hck
  have HIS := Lib.hid his
  have hlen : xw.length = xn.length := his.len
  have hn512 : xn.length ≤ 512 := his.n
  have hc65 : xc.length ≤ 65536 := his.c
  have hli : xl ≤ 2147483647 := his.hi
  have hlo : 0 ≤ xl := his.lo
  rw [hlen] at b1 HB HX HY HC HCk hsz ⊢
  have HL := Lib.hid hlen
  rw [hck] at HCk
  have HCK0 := Lib.hid hck
  clear his hlen HE1 hck
  go_enter Tryz.func15, Tryz.ntmps15
  go_wp2_with fail
  refine (HCk.out _ HB.out).mono ?_
  rintro e W2 ⟨rfl, hb2⟩
  generalize W.alloc (.cells #[.slice pn xn.length cn, .slice pw xn.length cw, .slice pc xc.length cc, .int .i64 xl] 26) = Z at *
  have HZW := Lib.hid hb2
  have HSZ := Lib.hid hsz
  have b2 := b1.later hb2
  have HB1 := Lib.hid b1
  clear hb2 hsz b1
  obtain ⟨a0, a1, a2, a3, _, _, _, _, _⟩ := b2
  have HO0 : Hid (OwnB W2.heap.size (W2.alloc (.cells #[] 5)) (.slice (some ⟨W2.heap.size, 0, none⟩) 0 0) []) := Lib.hid (World.ownsRow_made W2 #[] 0 (Nat.le_refl _) (by decide) rfl)
  have HY0 := Lib.hid ((Below.refl W2.heap.size W2).alloc (Nat.le_refl _) (.cells #[] 5))
  go_wp2_with fail
  clear a0 a1 a2 a3
  go_loopw [5, 6] (fun v i wr => ∃ (k : Nat) (q : Option Addr) (cp : Nat), v = .slice q (ST k).length cp ∧ i = .int .i64 k ∧ k ≤ xn.length ∧ Hid (OwnB W2.heap.size wr (.slice q (ST k).length cp) (ST k)) ∧ Hid (Below W2.heap.size W2 wr) ∧ (ST k).length ≤ k * 100100) (fun _ i _ => xn.length - (intOf i).toNat)
  case atStart => exact ⟨0, some ⟨W2.heap.size, 0, none⟩, 0, by rw [HS0.out]; rfl, rfl, Nat.zero_le _, by rw [HS0.out]; exact HO0, HY0, by rw [HS0.out]; simp⟩
  case round =>
    obtain ⟨k, q, cp, rfl, rfl, hk, HO, HR, hSTl⟩ := hrel
    have HZR := Lib.hid (HZW.out.trans (HR.out.mono HZW.out.size))
    obtain ⟨a0, a1, a2, a3, _, _, _, _, _⟩ := HB1.out.later HZR.out
    by_cases hks : k < xn.length
    · have hkw : k < xw.length := by have := HL.out; omega
      obtain ⟨bx, ox, hpx, hltx, hcx⟩ := HX.out _ HZR.out (by omega)
      obtain ⟨bw, ow, hpw, hltw, hcw⟩ := HY.out _ HZR.out (by omega)
      have x0 := one_at hcx k hks
      have w0 := hcw k (by omega)
      rw [List.getElem?_map, List.getElem?_eq_getElem hkw] at w0
      subst hpx hpw
      clear hcx hcw hltx hltw
      unfold strV at x0
      simp only [Option.map_some, intV] at w0
      have hsl : xn[k].length ≤ 100000 := HS.out _ (List.getElem_mem hks)
      have hwk := width_get HIS.out.widths (k := k) hkw
      rw [List.getD_eq_getElem?_getD, List.getElem?_eq_getElem hkw, Option.getD_some] at hwk
      simp only [widthOk, Bool.and_eq_true, decide_eq_true_eq] at hwk
      have hstep := HS1.out k hks hkw
      obtain ⟨n, hn⟩ : ∃ n : Nat, xw[k] = (n : Int) := ⟨xw[k].toNat, by omega⟩
      unfold sigLine at hstep
      rw [hn, Int.toNat_natCast] at hstep
      rw [hn] at w0 hwk
      have hdl := dec_len (n := n) (by omega)
      generalize xn[k] = N at *
      have hline : bs ([118, 97, 114, 32] ++ dec n ++ [32] ++ N ++ [10]) = ⟨#[118, 97, 114, 32]⟩ ++ bs (dec n) ++ ⟨#[32]⟩ ++ bs N ++ ⟨#[10]⟩ := by
        apply ByteArray.ext
        simp [bs]
      have hll : ([118, 97, 114, 32] ++ dec n ++ [32] ++ N ++ [10] : Ln).length ≤ 100100 := by simp; omega
      generalize hT : ([118, 97, 114, 32] ++ dec n ++ [32] ++ N ++ [10] : Ln) = T at *
      have hDs : (bs (dec n)).size ≤ 10 := hdl
      have hNs : (bs N).size ≤ 100000 := hsl
      have hd := fun w => (rdigits_any n (by omega) w).mono fun e w' h => (⟨h.1, h.2 ▸ Below.refl _ _⟩ : e = .returned (.string (bs (dec n))) ∧ Below w.heap.size w w')
      generalize bs (dec n) = D at *
      generalize bs N = NB at *
      have hS1 : (⟨#[118, 97, 114, 32]⟩ ++ D : ByteArray).size = D.size + 4 := by rw [ByteArray.size_append, Nat.add_comm]; rfl
      have hS2 : (⟨#[118, 97, 114, 32]⟩ ++ D ++ ⟨#[32]⟩ : ByteArray).size = D.size + 5 := by rw [ByteArray.size_append, hS1]; rfl
      have hS3 : (⟨#[118, 97, 114, 32]⟩ ++ D ++ ⟨#[32]⟩ ++ NB : ByteArray).size = D.size + 5 + NB.size := by rw [ByteArray.size_append, hS2]
      have HLine := Lib.hid hline
      have HStep := Lib.hid hstep
      have qd := fun d os => Calls.regrown_of (hd (grow (redrawn wr d) os))
      have a0' := cell_regrown a0
      have a1' := cell_regrown a1
      have x0' := cell_regrown x0
      have w0' := cell_regrown w0
      have hk0 : (0 : Int) ≤ (k : Int) := by omega
      have hk1 : (k : Int) < (xn.length : Int) := by omega
      clear hn hT hd hline hstep hdl hsl
      go_wp2_with fail
      refine wp_region_below_tail 16 (by kernel_rfl) (by kernel_rfl) ?_
      simp only [List.take_succ_cons, List.take_zero, List.drop_succ_cons, List.drop_zero]
      repeat (go_big_quiet_step (first | with_reducible exact qd _ _))
      refine wpQuiet_nil ?_
      intro Y hw'
      obtain ⟨⟨dq, osq⟩, hw''⟩ := hw'
      have hz : Below wr.heap.size wr Y := hw'' ▸ below_regrown wr dq osq
      clear hw'' dq osq a0 a1 a2 a3 a0' a1' x0 w0 x0' w0' qd
      have HOY := Lib.hid (HO.out.later hz)
      have HRY := Lib.hid (HR.out.trans (hz.mono HR.out.size))
      have HBY := Lib.hid HRY.out.size
      clear hz
      refine wpList_append_str rfl _ _ rfl W2.heap.size _ (ST k) T rfl HOY.out (by rw [HLine.out]; rfl) (by omega) HBY.out ?_
      intro q3 cp3 w3 hown3 hgr3
      have X3 := Lib.hid (own_grown HOY.out HRY.out HBY.out hgr3)
      have hl3 : (ST k ++ T).length ≤ (k + 1) * 100100 := by rw [List.length_append]; omega
      rw [← HStep.out] at hown3 hl3
      have hlen3 := congrArg List.length HStep.out
      rw [← hlen3]
      have own3 := Lib.hid hown3
      clear hown3 hgr3 hlen3
      go_wp2_with fail
      go_roundw
      case rel => exact ⟨k + 1, q3, cp3, rfl, by go_num, by omega, own3, X3, hl3⟩
      case measure => simp [intOf]; omega
    · obtain rfl : k = xn.length := by omega
      have HCT0 := HS2.out HL.out
      rw [HCT0] at HO hSTl ⊢
      have HXL := Lib.hid hSTl
      have HOC := Lib.hid HO.out
      clear HO hSTl HCT0
      generalize hL0 : CT 0 = L0 at *
      have HL0 := Lib.hid hL0
      clear hL0
      go_wp2_with fail
      clear a0 a1 a2 a3
      go_loopw [5, 7, 8] (fun v la i wq => ∃ (k : Nat) (q : Option Addr) (cp : Nat), v = .slice q (CT k).length cp ∧ la = .int .i64 (lastT (-1) (xc.take k)) ∧ i = .int .i64 k ∧ k ≤ xc.length ∧ Hid (OwnB W2.heap.size wq (.slice q (CT k).length cp) (CT k)) ∧ Hid (Below W2.heap.size W2 wq) ∧ (CT k).length ≤ 100000000 + k * 200) (fun _ _ i _ => xc.length - (intOf i).toNat)
      case atStart => exact ⟨0, q, cp, by rw [HL0.out], rfl, rfl, Nat.zero_le _, by rw [HL0.out]; exact HOC, HR, by rw [HL0.out]; have := HXL.out; omega⟩
      case round =>
        obtain ⟨k, q, cp, rfl, rfl, rfl, hk, HO, HR, hSTl⟩ := hrel
        have HZR := Lib.hid (HZW.out.trans (HR.out.mono HZW.out.size))
        obtain ⟨a0, a1, a2, a3, _, _, _, _, _⟩ := HB1.out.later HZR.out
        by_cases hks : k < xc.length
        · obtain ⟨bc, oc, hpc, hltc, hcc⟩ := HC.out _ HZR.out (by omega)
          obtain ⟨x0, x1, x2⟩ := chg_at hcc k hks
          subst hpc
          clear hcc hltc
          have hst := HS3.out k hks
          have hla := HS4.out k hks
          have hok := HIS.out.chs.1 _ (List.getElem_mem hks)
          generalize xc[k] = c at *
          obtain ⟨t, g, v⟩ := c
          simp only at x0 x1 x2 hst hla hok
          simp only [okOne, Bool.and_eq_true, decide_eq_true_eq] at hok
          obtain ⟨⟨⟨⟨ht0, ht1⟩, hg0⟩, hg1⟩, hvm⟩ := hok
          obtain ⟨T, rfl⟩ : ∃ T : Nat, t = (T : Int) := ⟨t.toNat, by omega⟩
          obtain ⟨G, rfl⟩ : ∃ G : Nat, g = (G : Int) := ⟨g.toNat, by omega⟩
          have hGw : G < xw.length := by have := HL.out; omega
          rw [Int.toNat_natCast] at hvm
          obtain ⟨bw, ow, hpw, hltw, hcw⟩ := HY.out _ HZR.out (by omega)
          have w0 := hcw G (by omega)
          rw [List.getElem?_map, List.getElem?_eq_getElem hGw] at w0
          subst hpw
          clear hcw
          simp only [Option.map_some, intV] at w0
          have hwk := width_get HIS.out.widths (k := G) hGw
          obtain ⟨m, hm1, hm2, hm3⟩ := Go.Proofs.Wav.mask_pow hwk hvm
          rw [List.getD_eq_getElem?_getD, List.getElem?_eq_getElem hGw, Option.getD_some] at hwk hm1
          simp only [widthOk, Bool.and_eq_true, decide_eq_true_eq] at hwk
          obtain ⟨n, hn⟩ : ∃ n : Nat, xw[G] = (n : Int) := ⟨xw[G].toNat, by omega⟩
          have hline : chgLine xw ⟨T, G, v⟩ ++ [10] = [98] ++ binL n v ++ ([32] ++ dec G ++ [10]) := by
            unfold chgLine
            simp only [Int.toNat_natCast, List.getD_eq_getElem?_getD, List.getElem?_eq_getElem hGw, Option.getD_some, hn]
            simp
          rw [hline] at hst
          rw [hn] at hwk
          have hv64 : v < 18446744073709551616 := hm3
          have hdl := dec_len (n := T) (by omega)
          have hdl2 := dec_len (n := G) (by omega)
          generalize lastT (-1) (xc.take k) = P at *
          have hlT : bs (35 :: dec T ++ [10]) = ⟨#[35]⟩ ++ bs (dec T) ++ ⟨#[10]⟩ := by
            apply ByteArray.ext
            simp [bs]
          have hlG : bs ([32] ++ dec G ++ [10]) = ⟨#[32]⟩ ++ bs (dec G) ++ ⟨#[10]⟩ := by
            apply ByteArray.ext
            simp [bs]
          have hd := fun w => rdigits_any T (by omega) w
          have hd2 := fun w => rdigits_any G (by omega) w
          have hTs : (bs (dec T)).size ≤ 10 := hdl
          have hGs : (bs (dec G)).size ≤ 10 := hdl2
          have hTl : (35 :: dec T ++ [10] : Ln).length ≤ 12 := by simp; omega
          have hGl : ([32] ++ dec G ++ [10] : Ln).length ≤ 12 := by simp; omega
          have hT0 := fun h => time_some (p := P) (t := (T : Int)) h
          rw [Int.toNat_natCast] at hT0
          generalize bs (dec T) = DT at *
          generalize bs (dec G) = DG at *
          generalize (35 :: dec T ++ [10] : Ln) = TL at *
          generalize ([32] ++ dec G ++ [10] : Ln) = GL at *
          have hS1 : (⟨#[35]⟩ ++ DT : ByteArray).size = DT.size + 1 := by rw [ByteArray.size_append, Nat.add_comm]; rfl
          have hS2 : (⟨#[32]⟩ ++ DG : ByteArray).size = DG.size + 1 := by rw [ByteArray.size_append, Nat.add_comm]; rfl
          have HlT := Lib.hid hlT
          have HlG := Lib.hid hlG
          have HT1 := Lib.hid hT0
          have HT2 := Lib.hid (fun h => time_none (p := P) (t := (T : Int)) h)
          have HST := Lib.hid hst
          have HLA := Lib.hid hla
          have hbl : (binL n v).length = n := binL_len n v
          have hbne : binL n v ≠ [] := fun h => by rw [h] at hbl; simp at hbl; omega
          have HBL := Lib.hid hbl
          have HBN := Lib.hid hbne
          have HD := Lib.hid hd
          have HD2 := Lib.hid hd2
          have HBin := Lib.hid (fun w => rbinary_any n v (by omega) hv64 w)
          have hk0 : (0 : Int) ≤ (k : Int) := by omega
          have hk1 : (k : Int) < (xc.length : Int) := by omega
          have hG0 : (0 : Int) ≤ (G : Int) := by omega
          have HSx : Hid (∀ w, Below W2.heap.size W2 w → w.heap[wr.heap.size]? = some (.cells #[.int .i64 T, .int .i64 G, .int .u64 v] 50 (0, 0)) →
              w.cell? ⟨W.heap.size, 1, none⟩ = some (.slice (some ⟨bw, ow, none⟩) xn.length cw) ∧ w.cell? ⟨bw, ow + G, none⟩ = some (.int .i64 n) ∧ w.cell? ⟨wr.heap.size, 1, none⟩ = some (.int .i64 G) ∧ w.cell? ⟨wr.heap.size, 2, none⟩ = some (.int .u64 v)) := Lib.hid (by
            intro w hb hbl
            have hz := HZW.out.trans (hb.mono HZW.out.size)
            refine ⟨(HB1.out.later hz).c1, ?_, ?_, ?_⟩
            · obtain ⟨b', o', he, _, hc⟩ := HY.out w hz (by omega)
              simp only [Option.some.injEq, Addr.mk.injEq, and_true] at he
              obtain ⟨rfl, rfl⟩ := he
              have := hc G (by omega)
              rw [List.getElem?_map, List.getElem?_eq_getElem hGw] at this
              rw [this]
              simp only [Option.map_some, intV, hn]
            · rw [cell_of_row w wr.heap.size 1 _ _ (0, 0) hbl]; rfl
            · rw [cell_of_row w wr.heap.size 2 _ _ (0, 0) hbl]; rfl)
          have HCB := Lib.hid (heap_alloc_new wr (.cells #[.int .i64 T, .int .i64 G, .int .u64 v] 50))
          have HYB := Lib.hid ((Below.refl wr.heap.size wr).alloc (Nat.le_refl _) (.cells #[.int .i64 T, .int .i64 G, .int .u64 v] 50))
          clear hst hla hline hn hm1 hm2 hm3 hvm ht0 hg0 hd hd2 hbl hbne w0 hltw hlT hlG hT0 hdl hdl2
          by_cases ht : (T : Int) = P
          case' pos =>
            have hT0 : ((T : Int) != P) = false := by simpa using ht
            have hs3 := HST.out
            rw [HT2.out ht, List.nil_append] at hs3
            have hLA2 : lastT (-1) (xc.take (k + 1)) = P := by rw [HLA.out]; exact ht
            have HLA2 := Lib.hid hLA2
            clear ht hLA2
            go_wp2_with fail
            have HOV := Lib.hid (HO.out.later HYB.out)
            have HRV := Lib.hid (HR.out.trans (HYB.out.mono HR.out.size))
            have hlV : (CT k).length ≤ 100000012 + k * 200 := by omega
            have HCV : Hid ((wr.alloc (.cells #[.int .i64 T, .int .i64 G, .int .u64 v] 50)).heap[wr.heap.size]? = some (.cells #[.int .i64 T, .int .i64 G, .int .u64 v] 50 (0, 0))) := HCB
            generalize wr.alloc (.cells #[.int .i64 T, .int .i64 G, .int .u64 v] 50) = V at *
            generalize hq0 : q = q0 at *
            generalize hcp0 : cp = cp0 at *
            generalize hL : CT k = L at *
            clear hL hq0 hcp0
          case' neg =>
            have hT0 : ((T : Int) != P) = true := by simpa using ht
            have hs3 := HST.out
            rw [HT1.out ht, ← List.append_assoc] at hs3
            have HLA2 : Hid (lastT (-1) (xc.take (k + 1)) = (T : Int)) := HLA
            clear ht
            go_wp2_with fail
            refine (HD.out _).mono ?_
            rintro e w' ⟨rfl, rfl⟩
            have HOV0 := Lib.hid (HO.out.later HYB.out)
            have HRV0 := Lib.hid (HR.out.trans (HYB.out.mono HR.out.size))
            have HBV0 := Lib.hid HRV0.out.size
            go_wp2_with (at_builtin; refine wpList_append_strN rfl _ _ rfl W2.heap.size _ (CT k) TL rfl HOV0.out (by rw [HlT.out]; rfl) (by omega) HBV0.out ?_; intro q0 cp0 N0 L V HL0x HN0 hownV hgrV; have HRV := Lib.hid (own_grown HOV0.out HRV0.out HBV0.out hgrV); have HCV := Lib.hid (HOV0.out.kept HCB.out (by decide) hgrV); have HOV := Lib.hid hownV; have c00 := cell_of_row V wr.heap.size 0 _ _ (0, 0) HCV.out; clear hownV hgrV)
            have hlV : L.length ≤ 100000012 + k * 200 := by rw [HL0x.out, List.length_append]; omega
            rw [← HL0x.out] at hs3
            have hN0 := HN0.out
            subst hN0
            clear c00 HL0x HN0
          all_goals
            have HBV := Lib.hid HRV.out.size
            have hb1 : Below V.heap.size V (V.alloc (.cells #[.int .u8 98] 5)).drew := ((Below.refl _ _).alloc (Nat.le_refl _) _).drew
            have HOV1 := Lib.hid (HOV.out.later hb1)
            have HRV1 := Lib.hid (HRV.out.trans (hb1.mono HRV.out.size))
            have HCV1 := Lib.hid ((hb1.block wr.heap.size (Array.getElem?_eq_some_iff.1 HCV.out).1).trans HCV.out)
            have HBV1 := Lib.hid HRV1.out.size
            have HSrc : Hid (Src (V.alloc (.cells #[.int .u8 98] 5)).drew (.slice (some ⟨V.heap.size, 0, none⟩) 1 1) [98]) := Lib.hid (src_one V 98 98 rfl)
            clear hb1
            have hsc := HSx.out V HRV.out HCV.out
            obtain ⟨z1, z2, z3, z4⟩ := hsc
            have HST' : Hid (CT (k + 1) = ((L ++ [98]) ++ binL n v) ++ GL) := Lib.hid (by rw [hs3]; simp)
            have hl98 : (L ++ [98]).length ≤ 100000013 + k * 200 := by simp; omega
            have hl99 : ((L ++ [98]) ++ binL n v).length ≤ 100000078 + k * 200 := by rw [List.length_append, HBL.out]; omega
            clear hs3
            have hadd1 : ∀ w, (Op.stringOp .add ⟨#[32]⟩ DG).run Tryz.prog w = .ok (.string (⟨#[32]⟩ ++ DG)) w := fun w => run_string_add_sum (P := Tryz.prog) (w := w) _ _ (by have : (⟨#[32]⟩ : ByteArray).size = 1 := rfl; omega)
            have hadd2 : ∀ w, (Op.stringOp .add (⟨#[32]⟩ ++ DG) ⟨#[10]⟩).run Tryz.prog w = .ok (.string (⟨#[32]⟩ ++ DG ++ ⟨#[10]⟩)) w := fun w => run_string_add_sum (P := Tryz.prog) (w := w) _ _ (by have : (⟨#[10]⟩ : ByteArray).size = 1 := rfl; omega)
            go_region_held3 (fun w' => w'.cell? ⟨W.heap.size, 1, none⟩ = some (.slice (some ⟨bw, ow, none⟩) xn.length cw) ∧ w'.cell? ⟨bw, ow + G, none⟩ = some (.int .i64 n) ∧ w'.cell? ⟨wr.heap.size, 1, none⟩ = some (.int .i64 G) ∧ w'.cell? ⟨wr.heap.size, 2, none⟩ = some (.int .u64 v))
              (first | exact HSx.out _ X7.out C7.out | exact HSx.out _ X5.out C5.out | exact HSx.out _ X4.out C4.out | exact HSx.out _ X3.out C3.out | exact HSx.out _ HRV1.out HCV1.out | go_keep)
              (first
                | (refine step_append_src rfl _ _ rfl W2.heap.size (.slice q0 L.length cp0) L [98] (by rfl) HOV1.out _ (by rfl) HSrc.out (by simp) (by simp; omega) HBV1.out ?_; intro q3 cp3 N3 M3 w3 HM3 HN3 hown3 hgr3; have X3 := Lib.hid (own_grown HOV1.out HRV1.out HBV1.out hgr3); have C3 := Lib.hid (HOV1.out.kept HCV1.out (by decide) hgr3); have own3 := Lib.hid hown3; clear hown3 hgr3)
                | (go_at_call 37; refine (HBin.out _).mono ?_; rintro e w4 ⟨⟨x4, rfl, ho4⟩, hb4⟩; have own4 := Lib.hid (own3.out.later hb4); have X4 := Lib.hid (X3.out.trans (hb4.mono X3.out.size)); have C4 := Lib.hid ((hb4.block wr.heap.size (Array.getElem?_eq_some_iff.1 C3.out).1).trans C3.out); have B4 := Lib.hid X4.out.size; have src4 := Lib.hid ho4.src; clear ho4 hb4)
                | (refine step_append_src rfl _ _ rfl W2.heap.size (.slice q3 N3 cp3) M3 (binL n v) (by rfl) own4.out x4 (by rfl) src4.out HBN.out (by rw [HM3.out, HBL.out]; omega) B4.out ?_; intro q5 cp5 N5 M5 w5 HM5 HN5 hown5 hgr5; have X5 := Lib.hid (own_grown own4.out X4.out B4.out hgr5); have C5 := Lib.hid (own4.out.kept C4.out (by decide) hgr5); have own5 := Lib.hid hown5; have B5 := Lib.hid X5.out.size; clear hown5 hgr5)
                | (go_at_call 36; refine (HD2.out _).mono ?_; rintro e w6 ⟨rfl, rfl⟩)
                | (refine step_append_str rfl _ _ rfl W2.heap.size (.slice q5 N5 cp5) M5 GL (by rfl) own5.out (by rw [HlG.out]; rfl) (by rw [HM5.out, HM3.out]; omega) B5.out ?_; intro q7 cp7 N7 M7 w7 HM7 HN7 hown7 hgr7; have X7 := Lib.hid (own_grown own5.out X5.out B5.out hgr7); have C7 := Lib.hid (own5.out.kept C5.out (by decide) hgr7); have own7 := Lib.hid hown7; clear hown7 hgr7))
            have hM7 : M7 = CT (k + 1) := by rw [HM7.out, HM5.out, HM3.out, HST'.out]
            have hN7 := HN7.out
            subst hM7
            subst hN7
            have hl7 : (CT (k + 1)).length ≤ 100000000 + (k + 1) * 200 := by rw [HST'.out, List.length_append]; omega
            clear HM7 HN7
            go_wp2_with fail
            go_roundw
            case rel => exact ⟨k + 1, q7, cp7, rfl, by rw [HLA2.out], by go_num, by omega, own7, X7, hl7⟩
            case measure => simp [intOf]; omega
        · obtain rfl : k = xc.length := by omega
          rw [List.take_length]
          have h5 := HS5.out
          have he2 := HE2.out HCK0.out
          have he3 := HE3.out HCK0.out
          have HOW := Lib.hid (HO.out.base (show W.heap.size ≤ W2.heap.size by have := HZW.out.size; have := HSZ.out; omega))
          have HBW := Lib.hid ((HB.out.trans (HZR.out.mono HB.out.size)))
          generalize CT xc.length = A at *
          generalize lastT (-1) xc = PL at *
          by_cases ht : PL = xl
          · subst ht
            rw [time_none rfl, List.append_nil] at h5
            subst h5
            have hp0 : (PL != PL) = false := by simp
            have HE2' := Lib.hid he2
            have HE3' := Lib.hid he3
            clear he2 he3 hp0
            by_cases hlong : 65536 < PW.length
            · have HP := Lib.hid (HE2'.out hlong)
              have hlong' : (65536 : Int) < (PW.length : Int) := by omega
              go_wp2_with fail
              go_ret2
              exact HBad.out _ _ (by rw [HP.out]; decide) (by rw [HP.out]; rfl) HBW.out
            · have HP := Lib.hid (HE3'.out hlong)
              have hlong' : ¬ (65536 : Int) < (PW.length : Int) := by omega
              go_wp2_with fail
              go_ret2
              exact HGood.out _ _ _ HP.out rfl HOW.out HBW.out
          · have hp0 : (PL != xl) = true := by simpa using ht
            rw [time_some (fun e => ht e.symm)] at h5
            obtain ⟨T, rfl⟩ : ∃ T : Nat, xl = (T : Int) := ⟨xl.toNat, by omega⟩
            rw [Int.toNat_natCast] at h5
            have hlT : bs (35 :: dec T ++ [10]) = ⟨#[35]⟩ ++ bs (dec T) ++ ⟨#[10]⟩ := by
              apply ByteArray.ext
              simp [bs]
            have hdl := dec_len (n := T) (by omega)
            have hd := fun w => rdigits_any T (by omega) w
            have hTs : (bs (dec T)).size ≤ 10 := hdl
            have hTl : (35 :: dec T ++ [10] : Ln).length ≤ 12 := by simp; omega
            generalize bs (dec T) = DT at *
            generalize (35 :: dec T ++ [10] : Ln) = TL at *
            have hS1 : (⟨#[35]⟩ ++ DT : ByteArray).size = DT.size + 1 := by rw [ByteArray.size_append, Nat.add_comm]; rfl
            have HlT := Lib.hid hlT
            have HD := Lib.hid hd
            have H5 := Lib.hid h5
            have HE2' := Lib.hid he2
            have HE3' := Lib.hid he3
            have HBR := Lib.hid HR.out.size
            clear ht hlT hd hdl h5 he2 he3
            have HB0 := Lib.hid (show W.heap.size ≤ W2.heap.size by have := HZW.out.size; have := HSZ.out; omega)
            by_cases hlong : 65536 < PW.length
            · have HP := Lib.hid (HE2'.out hlong)
              go_wp2_with fail
              refine (HD.out _).mono ?_
              rintro e w' ⟨rfl, rfl⟩
              go_wp2_with (at_builtin; refine wpList_append_strN rfl _ _ rfl W2.heap.size _ A TL rfl HO.out (by rw [HlT.out]; rfl) (by omega) HBR.out ?_; intro q0 cp0 N0 L V HL0x HN0 hownV hgrV; have HRV := Lib.hid (own_grown HO.out HR.out HBR.out hgrV); have HLx := HL0x.out; rw [← H5.out] at HLx; have HOV := Lib.hid (OwnB.base hownV HB0.out); have hN0 := HN0.out; rw [HLx] at hN0 HOV; have hlN : (65536 : Int) < (N0 : Int) := (by rw [hN0]; omega); have HN := Lib.hid hN0; clear HL0x hownV hgrV HLx HN0 hN0)
              go_ret2
              rw [HN.out] at HOV
              have hz := HB.out.trans ((HZW.out.trans (HRV.out.mono HZW.out.size)).mono HB.out.size)
              exact HBad.out _ _ (by rw [HP.out]; decide) (by rw [HP.out]; rfl) hz
            · have HP := Lib.hid (HE3'.out hlong)
              go_wp2_with fail
              refine (HD.out _).mono ?_
              rintro e w' ⟨rfl, rfl⟩
              go_wp2_with (at_builtin; refine wpList_append_strN rfl _ _ rfl W2.heap.size _ A TL rfl HO.out (by rw [HlT.out]; rfl) (by omega) HBR.out ?_; intro q0 cp0 N0 L V HL0x HN0 hownV hgrV; have HRV := Lib.hid (own_grown HO.out HR.out HBR.out hgrV); have HLx := HL0x.out; rw [← H5.out] at HLx; have HOV := Lib.hid (OwnB.base hownV HB0.out); have hN0 := HN0.out; rw [HLx] at hN0 HOV; have hlN : ¬ (65536 : Int) < (N0 : Int) := (by rw [hN0]; omega); have HN := Lib.hid hN0; clear HL0x hownV hgrV HLx HN0 hN0)
              go_ret2
              rw [HN.out] at HOV
              have hz := HB.out.trans ((HZW.out.trans (HRV.out.mono HZW.out.size)).mono HB.out.size)
              exact HGood.out _ _ _ HP.out rfl (by rw [HN.out]; exact HOV.out) hz

end Go.Proofs.YtephnfhjobkciaaGreatDoor

/- slices.Backward over changes. -/
namespace Go.Proofs.Wav
set_option linter.unusedVariables false
set_option linter.unusedSimpArgs false
def hitC (t g : Int) (c : Chg) : Bool := decide (c.g = g) && decide (c.t ≤ t)
theorem told_hit' (t g : Int) : ∀ r : List Chg, told (r.reverse.filter fun c => decide (c.t ≤ t)) g = (r.find? (hitC t g)).map (·.v)
  | [] => rfl
  | c :: r => by
    rw [List.reverse_cons, List.filter_append]
    by_cases h : c.t ≤ t
    · rw [show ([c].filter fun c => decide (c.t ≤ t)) = [c] by simp [h], told_snoc, told_hit' t g r]
      by_cases hg : c.g = g
      · simp [hitC, h, hg]
      · simp [hitC, hg]
    · rw [show ([c].filter fun c => decide (c.t ≤ t)) = [] by simp [h], List.append_nil, told_hit' t g r]
      simp [hitC, h]
theorem told_hit (t g : Int) (l : List Chg) : told (l.filter fun c => decide (c.t ≤ t)) g = (l.reverse.find? (hitC t g)).map (·.v) := by
  have := told_hit' t g l.reverse
  rwa [List.reverse_reverse] at this
theorem valAt_hit (l : List Chg) (t g : Int) : valAt l t g = ((l.reverse.find? (hitC t g)).map (·.v)).getD 0 := by
  unfold valAt
  rw [told_hit]
/-- what has come, backward, when k rounds are over -/
def bkF (l : List Chg) (k : Nat) : Int × Chg := ((l.length : Int) - 1 - k, l[l.length - 1 - k]?.getD default)
def bkU (l : List Chg) (k : Nat) : List (Int × Chg) := (List.range k).map (bkF l)
theorem bkU_succ (l : List Chg) (k : Nat) : bkU l (k + 1) = bkU l k ++ [bkF l k] := by simp [bkU, List.range_succ]
theorem bkU_length (l : List Chg) (k : Nat) : (bkU l k).length = k := by simp [bkU]
theorem bkU_map (l : List Chg) {k : Nat} (h : k ≤ l.length) : (bkU l k).map Prod.snd = l.reverse.take k := by
  apply List.ext_getElem
  · simp [bkU]; omega
  · intro i h1 h2
    have hi : i < k := by simpa [bkU] using h1
    have h3 : l.length - 1 - i < l.length := by omega
    simp [bkU, bkF, List.getElem?_eq_getElem h3]
end Go.Proofs.Wav
namespace Go.Proofs.YtephnfhjobkciaaGreatDoor
open Go.RowKit Go.Proofs.Wav Go.Sort Go.Shelf
attribute [local go_sem] Oper.semAt_some
set_option linter.unusedVariables false
set_option linter.unusedSimpArgs false
set_option maxRecDepth 100000

def chgE (x : Int × Chg) : Array Value := #[.int .i64 x.1, .agg #[.int .i64 x.2.t, .int .i64 x.2.g, .int .u64 x.2.v]]

set_option maxHeartbeats 4000000 in
theorem back1_in (F : Fence) (n : Nat) (hf : F.fn 63) (hro : F.round = none) (hn : 1 ≤ n) (l Bs n₀ : Nat) (pc : Option Addr) (cc : Nat) (xc : List Chg) (hlen : xc.length ≤ 100000) (J Jx : List (Int × Chg) → World → Prop)
    (hY : ∀ pre x W, J pre W → pre.length < xc.length → YieldAt F (n - 1) Tryz.prog l (chgE x) W fun e W' =>
      (e = .returned (.bool true) ∧ J (pre ++ [x]) W' ∧ Below n₀ W W') ∨ (e = .returned (.bool false) ∧ Jx (pre ++ [x]) W'))
    (W : World) (hn0 : n₀ ≤ W.heap.size) (hBn : Bs < n₀) (hBs : W.cell? ⟨Bs, 0, none⟩ = some (.slice pc xc.length cc)) (hc : 0 < xc.length → ∃ b off, pc = some ⟨b, off, none⟩ ∧ b < n₀ ∧ ∀ j, j < xc.length * 3 → W.cell? ⟨b, off + j, none⟩ = (chgsV xc)[j]?) (h0 : J [] W) :
    CallsIn F n Tryz.prog 63 #[.func (.yield l) #[] #[], .pointer (some ⟨Bs, 0, none⟩)] W fun e W' => (∃ v, e = .returned v) ∧
      ((∃ ys, ys = bkU xc xc.length ∧ J ys W') ∨ (∃ pre, (∃ k, k ≤ xc.length ∧ pre = bkU xc k) ∧ Jx pre W')) := by
  refine callsIn_of_wp Tryz.func63 rfl hf ?_ hro
  simp only [Tryz.ntmps63, List.size_toArray, List.length_cons, List.length_nil, Nat.reduceAdd, Nat.reduceSub, Array.replicate_succ, Array.replicate_zero, List.push_toArray, List.append_toArray, List.nil_append, List.cons_append]
  gi_wp2
  gi_loopw [3] (fun i wr => ∃ k : Nat, k ≤ xc.length ∧ i = .int .i64 ((xc.length : Int) - 1 - k) ∧ J (bkU xc k) wr ∧ Below n₀ W wr)
    (fun i _ => (intOf i + 1).toNat)
  case atStart => exact ⟨0, Nat.zero_le _, by simp, h0, Below.refl _ _⟩
  case round =>
    obtain ⟨k, hk, rfl, hJs, hnx⟩ := hrel
    have hBs' := (hnx.cell (p := ⟨Bs, 0, none⟩) hBn).trans hBs
    by_cases hlt : k < xc.length
    · obtain ⟨b, off, rfl, hb, hcs⟩ := hc (by omega)
      obtain ⟨m, hm⟩ : ∃ m : Nat, xc.length - 1 - k = m := ⟨_, rfl⟩
      have hmi : (xc.length : Int) - 1 - k = m := by omega
      have hml : m < xc.length := by omega
      obtain ⟨x0, x1, x2⟩ := chg_at (w := wr) (fun j hj => (hnx.cell (p := ⟨b, off + j, none⟩) hb).trans (hcs j hj)) m hml
      have hbk : bkF xc k = ((m : Int), xc[m]) := by
        unfold bkF
        rw [hm, hmi, List.getElem?_eq_getElem hml]
        rfl
      obtain ⟨fn, tmps, assign, body, hy, hR⟩ := hY _ (bkF xc k) wr hJs (by rw [bkU_length]; exact hlt)
      rw [← bkU_succ] at hR
      rw [hbk] at hy
      unfold chgE at hy
      simp only at hy
      rw [hmi]
      generalize xc[m] = c at *
      obtain ⟨t, g, v⟩ := c
      simp only at hy x0 x1 x2
      have HM := Lib.hid hmi
      have HJ := Lib.hid hJs
      have HN := Lib.hid hnx
      clear hbk hm hmi hJs hnx
      gi_wp2
      refine hR.mono ?_
      rintro e W3 (⟨rfl, hJ3, hk3⟩ | ⟨rfl, hJx3⟩)
      · gi_wp2
        go_roundw
        case rel => exact ⟨k + 1, by omega, by rw [show (m : Int) - 1 = (xc.length : Int) - 1 - ((k + 1 : Nat) : Int) by have := HM.out; omega], hJ3, HN.out.trans hk3⟩
        case measure => simp [intOf]
      · gi_wp2
        refine bodyPost_ret (results_none rfl _ _ _) rfl ?_
        exact ⟨⟨_, rfl⟩, .inr ⟨_, ⟨k + 1, by omega, rfl⟩, hJx3⟩⟩
    · obtain rfl : k = xc.length := by omega
      have hz : (xc.length : Int) - 1 - (xc.length : Int) = -1 := by omega
      rw [hz]
      gi_wp2
      go_end0
      exact ⟨⟨_, rfl⟩, .inl ⟨_, rfl, hJs⟩⟩

theorem back_stops (F : Fence) (n : Nat) (hf : F.fn 63) (hro : F.round = none) (hn : 1 ≤ n) (Bs n₀ : Nat) (pc : Option Addr) (cc : Nat) (xc : List Chg) (hlen : xc.length ≤ 100000) (w : World) (hBn : Bs < n₀) (hn₀ : n₀ ≤ w.heap.size)
    (hBs : w.cell? ⟨Bs, 0, none⟩ = some (.slice pc xc.length cc)) (hc : 0 < xc.length → ∃ b off, pc = some ⟨b, off, none⟩ ∧ b < n₀ ∧ ∀ j, j < xc.length * 3 → w.cell? ⟨b, off + j, none⟩ = (chgsV xc)[j]?) :
    SeqStopsK F n Tryz.prog 63 #[.pointer (some ⟨Bs, 0, none⟩)] chgE (Below n₀) (fun ys => ys = bkU xc xc.length)
      (fun pre => ∃ k, k ≤ xc.length ∧ pre = bkU xc k) xc.length w := fun l J Jx W hW _ _ hY h0 => by
  refine back1_in F n hf hro hn l Bs n₀ pc cc xc hlen J Jx hY W (Nat.le_trans hn₀ hW.size) hBn ((hW.cell (p := ⟨Bs, 0, none⟩) (Nat.lt_of_lt_of_le hBn hn₀)).trans hBs) ?_ h0
  intro h
  obtain ⟨b, off, h1, h2, h3⟩ := hc h
  exact ⟨b, off, h1, h2, fun j hj => (hW.cell (p := ⟨b, off + j, none⟩) (Nat.lt_of_lt_of_le h2 hn₀)).trans (h3 j hj)⟩

set_option maxHeartbeats 1000000 in
theorem backward_any (pc : Option Addr) (n cc : Nat) (W : World) :
    Calls Tryz.prog 38 #[.slice pc n cc] W fun e W' => e = .returned (.func (.func 63) #[] #[.pointer (some ⟨W.heap.size, 0, none⟩)]) ∧ W.alloc (.cells #[.slice pc n cc] 24) = W' := by
  go_enter Tryz.func38, Tryz.ntmps38
  go_wp2
  go_ret
  exact ⟨rfl, rfl⟩

end Go.Proofs.YtephnfhjobkciaaGreatDoor

/- A value at a time: the program. -/
namespace Go.Proofs.Wav
set_option linter.unusedVariables false
set_option linter.unusedSimpArgs false
/-- what At says -/
def atE (x : Wv) (t g : Int) : Int := if checkW x ≠ 0 then checkW x else if t < 0 ∨ x.last < t ∨ g < 0 ∨ (x.names.length : Int) ≤ g then 1 else 0
def atV (x : Wv) (t g : Int) : Nat := if atE x t g = 0 then valAt x.chs t g else 0
theorem atE_bad {x : Wv} {t g : Int} (h : checkW x ≠ 0) : atE x t g = checkW x ∧ atV x t g = 0 := by
  have h1 : atE x t g = checkW x := by unfold atE; rw [if_pos h]
  refine ⟨h1, ?_⟩
  unfold atV
  rw [h1, if_neg h]
theorem atE_arg {x : Wv} {t g : Int} (h : checkW x = 0) (h2 : t < 0 ∨ x.last < t ∨ g < 0 ∨ (x.names.length : Int) ≤ g) : atE x t g = 1 ∧ atV x t g = 0 := by
  have h1 : atE x t g = 1 := by unfold atE; rw [if_neg (by simp [h]), if_pos h2]
  refine ⟨h1, ?_⟩
  unfold atV
  rw [h1, if_neg (by decide)]
theorem atE_ok {x : Wv} {t g : Int} (h : checkW x = 0) (h2 : ¬ (t < 0 ∨ x.last < t ∨ g < 0 ∨ (x.names.length : Int) ≤ g)) : atE x t g = 0 ∧ atV x t g = valAt x.chs t g := by
  have h1 : atE x t g = 0 := by unfold atE; rw [if_neg (by simp [h]), if_neg h2]
  refine ⟨h1, ?_⟩
  unfold atV
  rw [h1, if_pos rfl]
def NoHit (t g : Int) (pre : List (Int × Chg)) : Prop := ∀ p ∈ pre, hitC t g p.2 = false
theorem NoHit.nil (t g : Int) : NoHit t g [] := fun p hp => by cases hp
theorem NoHit.snoc {t g : Int} {pre : List (Int × Chg)} {x : Int × Chg} (h : NoHit t g pre) (hx : hitC t g x.2 = false) : NoHit t g (pre ++ [x]) := fun p hp => (List.mem_append.1 hp).elim (h p) (fun e => by rw [List.mem_singleton] at e; rw [e]; exact hx)
theorem find_none {L : List Chg} {f : Chg → Bool} {pre : List (Int × Chg)} (h : pre.map Prod.snd = L) (hi : ∀ p ∈ pre, f p.2 = false) : L.find? f = none := by
  rw [← h, List.find?_eq_none]
  intro x hx
  rw [List.mem_map] at hx
  obtain ⟨p, hp, rfl⟩ := hx
  rw [hi p hp]
  simp
theorem find_stop {L : List Chg} {f : Chg → Bool} {k : Nat} {ini : List (Int × Chg)} {last : Int × Chg} (h : (ini ++ [last]).map Prod.snd = L.take k) (hi : ∀ p ∈ ini, f p.2 = false) (hl : f last.2 = true) : L.find? f = some last.2 := by
  have h1 := find_none (L := ini.map Prod.snd) rfl hi
  rw [← List.take_append_drop k L, List.find?_append, ← h, List.map_append, List.find?_append, h1]
  simp [hl]
end Go.Proofs.Wav
namespace Go.Proofs.YtephnfhjobkciaaGreatDoor
open Go.RowKit Go.Proofs.Wav Go.Sort Go.Shelf
attribute [local go_sem] Oper.semAt_some
set_option linter.unusedVariables false
set_option linter.unusedSimpArgs false
set_option maxRecDepth 100000

theorem bx_later {w w' : World} {B : Nat} {t : TypeId} {v : Value} (h : Boxed w B t v) (hb : Below w.heap.size w w') : Boxed w' B t v := (hb.block B (Array.getElem?_eq_some_iff.1 h).1).trans h
theorem bx_lt {w : World} {B : Nat} {t : TypeId} {v : Value} (h : Boxed w B t v) : B < w.heap.size := (Array.getElem?_eq_some_iff.1 h).1
theorem bx_below {C : Nat} {w w' : World} {B : Nat} {t : TypeId} {v : Value} (h : Boxed w B t v) (hC : B < C) (hb : Below C w w') : Boxed w' B t v := (hb.block B hC).trans h

theorem own_blk {n B : Nat} {cs : Array Value} {T : TypeId} {fr : Nat × Nat} {β : Type} : OwnFrom B (fun (_ : β) (W : World) => W.heap[n]? = some (.cells cs T fr)) := fun _ W W' row hs hg hr =>
  (hg.block n (Array.getElem?_eq_some_iff.1 hs).1 (fun e => by obtain ⟨_, o, ho, hc⟩ := hr n e.symm; rw [show W.heap[n]? = _ from hs] at ho; cases ho; cases hc)).trans hs

set_option maxHeartbeats 16000000 in
theorem at_any (vn vw vc : Value) (x : Wv) (hs : Small x) (hf : Fits x) (t g : Int) (W : World) (h1 : WavAt W vn vw vc x) :
    Calls Tryz.prog 16 #[.agg #[vn, vw, vc, .int .i64 x.last], .int .i64 t, .int .i64 g] W fun e W' => e = .returned (.tuple #[.int .u64 (atV x t g), .int .i64 (atE x t g)]) ∧ Below W.heap.size W W' := by
  have HCk := Lib.hid (fun w hb => check_any vn vw vc x hs hf w (h1.later hb))
  have HE1 := Lib.hid (@atE_bad x t g)
  have HE2 := Lib.hid (@atE_arg x t g)
  have HE3 := Lib.hid (@atE_ok x t g)
  have HV := Lib.hid (valAt_hit x.chs t g)
  obtain ⟨xn, xw, xc, xl⟩ := x
  obtain ⟨s1, s2, s3, s4⟩ := hs
  simp only at *
  obtain ⟨pn, cn, rfl⟩ := h1.1.form
  obtain ⟨pw, cw, rfl⟩ := h1.2.1.form
  obtain ⟨pc, cc, rfl⟩ := h1.2.2.form
  simp only at *
  generalize atE ⟨xn, xw, xc, xl⟩ t g = AE at *
  generalize atV ⟨xn, xw, xc, xl⟩ t g = AV at *
  generalize valAt xc t g = VA at *
  have b1 := Box4.new W (.slice pn xn.length cn) (.slice pw xw.length cw) (.slice pc xc.length cc) (.int .i64 xl) 26
  obtain ⟨Z, hZ⟩ : ∃ Z, Z = ((((W.alloc (.cells #[.slice pn xn.length cn, .slice pw xw.length cw, .slice pc xc.length cc, .int .i64 xl] 26)).alloc (.cells #[.int .i64 t] 3)).alloc (.cells #[.int .i64 g] 3)).alloc (.cells #[.int .u64 0] 33)).alloc (.cells #[.int .i64 0] 30) := ⟨_, rfl⟩
  have hbZ : Below W.heap.size W Z := by
    rw [hZ]
    exact (((((Below.refl _ _).alloc (Nat.le_refl _) _).alloc (by simp) _).alloc (by simp <;> omega) _).alloc (by simp <;> omega) _).alloc (by simp <;> omega) _
  have hsZ : Z.heap.size = W.heap.size + 5 := by rw [hZ]; simp
  have z0 : Box4 Z W.heap.size (.slice pn xn.length cn) (.slice pw xw.length cw) (.slice pc xc.length cc) (.int .i64 xl) := by
    rw [hZ]
    exact b1.later ((((Below.refl _ _).alloc (Nat.le_refl _) _).alloc (by simp) _).alloc (by simp <;> omega) _ |>.alloc (by simp <;> omega) _)
  have z1 : Boxed Z (W.heap.size + 1) 3 (.int .i64 t) := by
    rw [hZ]
    have := Boxed.new (W.alloc (.cells #[.slice pn xn.length cn, .slice pw xw.length cw, .slice pc xc.length cc, .int .i64 xl] 26)) 3 (.int .i64 t)
    rw [World.size_alloc] at this
    exact ((this.alloc _).alloc _).alloc _
  have z2 : Boxed Z (W.heap.size + 1 + 1) 3 (.int .i64 g) := by
    rw [hZ]
    have := Boxed.new ((W.alloc (.cells #[.slice pn xn.length cn, .slice pw xw.length cw, .slice pc xc.length cc, .int .i64 xl] 26)).alloc (.cells #[.int .i64 t] 3)) 3 (.int .i64 g)
    simp only [World.size_alloc] at this
    exact (this.alloc _).alloc _
  have z3 : Boxed Z (W.heap.size + 1 + 1 + 1) 33 (.int .u64 0) := by
    rw [hZ]
    have := Boxed.new (((W.alloc (.cells #[.slice pn xn.length cn, .slice pw xw.length cw, .slice pc xc.length cc, .int .i64 xl] 26)).alloc (.cells #[.int .i64 t] 3)).alloc (.cells #[.int .i64 g] 3)) 33 (.int .u64 0)
    simp only [World.size_alloc] at this
    exact this.alloc _
  have z4 : Boxed Z (W.heap.size + 1 + 1 + 1 + 1) 30 (.int .i64 0) := by
    rw [hZ]
    have := Boxed.new ((((W.alloc (.cells #[.slice pn xn.length cn, .slice pw xw.length cw, .slice pc xc.length cc, .int .i64 xl] 26)).alloc (.cells #[.int .i64 t] 3)).alloc (.cells #[.int .i64 g] 3)).alloc (.cells #[.int .u64 0] 33)) 30 (.int .i64 0)
    simp only [World.size_alloc] at this
    exact this
  have HC := Lib.hid (fun w (hb : Below W.heap.size W w) (h0 : 0 < xc.length) => Slc.at (Slc.later (w' := w) h1.2.2 hb) h0)
  have HB := Lib.hid hbZ
  have HSZ := Lib.hid hsZ
  have HZ0 := Lib.hid z0
  have HZ1 := Lib.hid z1
  have HZ2 := Lib.hid z2
  have HZ3 := Lib.hid z3
  have HZ4 := Lib.hid z4
  have HZ := Lib.hid hZ
  clear b1 hbZ hsZ h1 s4 z1 z2 z3 z4
  refine (callsIn_wide (n := 6)).1 ?_
  refine callsIn_of_wp_marks Tryz.func16 rfl trivial ?_ rfl
  simp only [Tryz.ntmps16, List.size_toArray, List.length_cons, List.length_nil, Nat.reduceAdd, Nat.reduceSub, Array.replicate_succ, Array.replicate_zero, List.push_toArray, List.append_toArray, List.nil_append, List.cons_append]
  refine wpIn_wide.2 ?_
  by_cases hck : checkW ⟨xn, xw, xc, xl⟩ = 0
  case neg =>
    obtain ⟨he, hv⟩ := HE1.out hck
    have HEV := Lib.hid (And.intro he hv)
    clear he hv
    generalize checkW ⟨xn, xw, xc, xl⟩ = R at *
    have hck' : (R != 0) = true := by simpa using hck
    go_wp2_with fail
    rw [← HZ.out]
    refine (HCk.out _ HB.out).mono ?_
    rintro e W2 ⟨rfl, hb2⟩
    have HW2 := Lib.hid (HB.out.trans (hb2.mono HB.out.size))
    have v3 := (bx_later HZ3.out hb2).cell
    have v4 := (bx_later HZ4.out hb2).cell
    have w3 := (bx_later HZ3.out hb2).frozen
    have w4 := (bx_later HZ4.out hb2).frozen
    clear hb2
    go_wp2
    go_region
    all_goals
      go_wp2
      refine ⟨.tuple #[.int .u64 0, .int .i64 R], ?_, by rw [HEV.out.1, HEV.out.2]; rfl, ?_⟩
      · simp [results, Tryz.f16, go_sem, v3, v4, w3, w4]
      · exact (((HW2.out.setCell (by simp <;> omega) _).setCell (by simp <;> omega) _).setCell (by simp <;> omega) _).drew
  by_cases c1 : t < 0
  · obtain ⟨he, hv⟩ := HE2.out hck (by omega)
    have HEV := Lib.hid (And.intro he hv)
    clear he hv
    go_wp2_with fail
    rw [← HZ.out]
    refine (HCk.out _ HB.out).mono ?_
    rintro e W2 ⟨rfl, hb2⟩
    rw [hck]
    have HW2 := Lib.hid (HB.out.trans (hb2.mono HB.out.size))
    have y1 := bx_later HZ1.out hb2
    have y2 := bx_later HZ2.out hb2
    have y3 := bx_later HZ3.out hb2
    have y4 := bx_later HZ4.out hb2
    obtain ⟨a0, a1, a2, a3, _, _, _, _, lta⟩ := HZ0.out.later hb2
    have v1 := y1.cell
    have v2 := y2.cell
    have v3 := y3.cell
    have v4 := y4.cell
    have w3 := y3.frozen
    have w4 := y4.frozen
    clear hb2 y1 y2 y3 y4
    go_wp2
    refine ⟨.tuple #[.int .u64 0, .int .i64 1], ?_, by rw [HEV.out.1, HEV.out.2]; rfl, ?_⟩
    · simp [results, Tryz.f16, go_sem, v1, v2, v3, v4, w3, w4]
    · exact ((HW2.out.setCell (by simp <;> omega) _).setCell (by simp <;> omega) _).setCell (by simp <;> omega) _
  by_cases c2 : xl < t
  · have c1' : decide (t < 0) = false := decide_eq_false c1
    obtain ⟨he, hv⟩ := HE2.out hck (by omega)
    have HEV := Lib.hid (And.intro he hv)
    clear he hv
    go_wp2_with fail
    rw [← HZ.out]
    refine (HCk.out _ HB.out).mono ?_
    rintro e W2 ⟨rfl, hb2⟩
    rw [hck]
    have HW2 := Lib.hid (HB.out.trans (hb2.mono HB.out.size))
    have y1 := bx_later HZ1.out hb2
    have y2 := bx_later HZ2.out hb2
    have y3 := bx_later HZ3.out hb2
    have y4 := bx_later HZ4.out hb2
    obtain ⟨a0, a1, a2, a3, _, _, _, _, lta⟩ := HZ0.out.later hb2
    have v1 := y1.cell
    have v2 := y2.cell
    have v3 := y3.cell
    have v4 := y4.cell
    have w3 := y3.frozen
    have w4 := y4.frozen
    clear hb2 y1 y2 y3 y4
    go_wp2
    refine ⟨.tuple #[.int .u64 0, .int .i64 1], ?_, by rw [HEV.out.1, HEV.out.2]; rfl, ?_⟩
    · simp [results, Tryz.f16, go_sem, v1, v2, v3, v4, w3, w4]
    · exact ((HW2.out.setCell (by simp <;> omega) _).setCell (by simp <;> omega) _).setCell (by simp <;> omega) _
  by_cases c3 : g < 0
  · have c1' : decide (t < 0) = false := decide_eq_false c1
    have c2' : decide (xl < t) = false := decide_eq_false c2
    obtain ⟨he, hv⟩ := HE2.out hck (by omega)
    have HEV := Lib.hid (And.intro he hv)
    clear he hv
    go_wp2_with fail
    rw [← HZ.out]
    refine (HCk.out _ HB.out).mono ?_
    rintro e W2 ⟨rfl, hb2⟩
    rw [hck]
    have HW2 := Lib.hid (HB.out.trans (hb2.mono HB.out.size))
    have y1 := bx_later HZ1.out hb2
    have y2 := bx_later HZ2.out hb2
    have y3 := bx_later HZ3.out hb2
    have y4 := bx_later HZ4.out hb2
    obtain ⟨a0, a1, a2, a3, _, _, _, _, lta⟩ := HZ0.out.later hb2
    have v1 := y1.cell
    have v2 := y2.cell
    have v3 := y3.cell
    have v4 := y4.cell
    have w3 := y3.frozen
    have w4 := y4.frozen
    clear hb2 y1 y2 y3 y4
    go_wp2
    refine ⟨.tuple #[.int .u64 0, .int .i64 1], ?_, by rw [HEV.out.1, HEV.out.2]; rfl, ?_⟩
    · simp [results, Tryz.f16, go_sem, v1, v2, v3, v4, w3, w4]
    · exact ((HW2.out.setCell (by simp <;> omega) _).setCell (by simp <;> omega) _).setCell (by simp <;> omega) _
  by_cases c4 : (xn.length : Int) ≤ g
  · have c1' : decide (t < 0) = false := decide_eq_false c1
    have c2' : decide (xl < t) = false := decide_eq_false c2
    have c3' : decide (g < 0) = false := decide_eq_false c3
    obtain ⟨he, hv⟩ := HE2.out hck (by omega)
    have HEV := Lib.hid (And.intro he hv)
    clear he hv
    go_wp2_with fail
    rw [← HZ.out]
    refine (HCk.out _ HB.out).mono ?_
    rintro e W2 ⟨rfl, hb2⟩
    rw [hck]
    have HW2 := Lib.hid (HB.out.trans (hb2.mono HB.out.size))
    have y1 := bx_later HZ1.out hb2
    have y2 := bx_later HZ2.out hb2
    have y3 := bx_later HZ3.out hb2
    have y4 := bx_later HZ4.out hb2
    obtain ⟨a0, a1, a2, a3, _, _, _, _, lta⟩ := HZ0.out.later hb2
    have v1 := y1.cell
    have v2 := y2.cell
    have v3 := y3.cell
    have v4 := y4.cell
    have w3 := y3.frozen
    have w4 := y4.frozen
    clear hb2 y1 y2 y3 y4
    go_wp2
    refine ⟨.tuple #[.int .u64 0, .int .i64 1], ?_, by rw [HEV.out.1, HEV.out.2]; rfl, ?_⟩
    · simp [results, Tryz.f16, go_sem, v1, v2, v3, v4, w3, w4]
    · exact ((HW2.out.setCell (by simp <;> omega) _).setCell (by simp <;> omega) _).setCell (by simp <;> omega) _
  obtain ⟨he, hv⟩ := HE3.out hck (by omega)
  have HEV := Lib.hid (And.intro he hv)
  clear he hv
  have c1' : decide (t < 0) = false := decide_eq_false c1
  have c2' : decide (xl < t) = false := decide_eq_false c2
  have c3' : decide (g < 0) = false := decide_eq_false c3
  have c4' : decide ((xn.length : Int) ≤ g) = false := decide_eq_false c4
  go_wp2_with fail
  rw [← HZ.out]
  refine (HCk.out _ HB.out).mono ?_
  rintro e W2 ⟨rfl, hb2⟩
  rw [hck]
  have HZW2 := Lib.hid hb2
  have HW2 := Lib.hid (HB.out.trans (hb2.mono HB.out.size))
  have y1 := bx_later HZ1.out hb2
  have y2 := bx_later HZ2.out hb2
  have y3 := bx_later HZ3.out hb2
  have y4 := bx_later HZ4.out hb2
  obtain ⟨a0, a1, a2, a3, _, _, _, _, lta⟩ := HZ0.out.later hb2
  have v1 := y1.cell
  have v2 := y2.cell
  have v3 := y3.cell
  have v4 := y4.cell
  have w3 := y3.frozen
  have w4 := y4.frozen
  clear hb2
  go_wp2_with fail
  refine (backward_any _ _ _ _).mono ?_
  rintro e w' ⟨rfl, rfl⟩
  go_wp2_with fail
  have hf5 := (Boxed.new (W2.setCell ⟨W.heap.size + 1 + 1 + 1 + 1, 0, none⟩ (.int .i64 0)) 24 (.slice pc xc.length cc))
  have hs5 : (W2.setCell ⟨W.heap.size + 1 + 1 + 1 + 1, 0, none⟩ (.int .i64 0)).heap.size = W2.heap.size := by simp [World.setCell]
  rw [hs5] at hf5
  obtain ⟨W5, hW5⟩ : ∃ W5, W5 = (W2.setCell ⟨W.heap.size + 1 + 1 + 1 + 1, 0, none⟩ (.int .i64 0)).alloc (.cells #[.slice pc xc.length cc] 24) := ⟨_, rfl⟩
  have HSW2 := Lib.hid (show W.heap.size + 5 ≤ W2.heap.size by have := HZW2.out.size; have := HSZ.out; omega)
  have hB5 : Below W.heap.size W W5 := by
    rw [hW5]
    exact (HW2.out.setCell (by simp <;> omega) _).alloc (by have := HSW2.out; simp [World.setCell]; omega) _
  have y1 := bx_later HZ1.out HZW2.out
  have y2 := bx_later HZ2.out HZW2.out
  have y3 := bx_later HZ3.out HZW2.out
  have y4 := bx_later HZ4.out HZW2.out
  have u1 : Boxed W5 (W.heap.size + 1) 3 (.int .i64 t) := by rw [hW5]; exact (y1.other (by omega) _).alloc _
  have u2 : Boxed W5 (W.heap.size + 1 + 1) 3 (.int .i64 g) := by rw [hW5]; exact (y2.other (by omega) _).alloc _
  have u3 : Boxed W5 (W.heap.size + 1 + 1 + 1) 33 (.int .u64 0) := by rw [hW5]; exact (y3.other (by omega) _).alloc _
  have u4 : Boxed W5 (W.heap.size + 1 + 1 + 1 + 1) 30 (.int .i64 0) := by rw [hW5]; exact (y4.set _).alloc _
  have u5 : Boxed W5 W2.heap.size 24 (.slice pc xc.length cc) := by rw [hW5]; exact hf5
  have HN5 := Lib.hid (show W2.heap.size < W5.heap.size from bx_lt u5)
  rw [← hW5]
  have HB5 := Lib.hid hB5
  have HU1 := Lib.hid u1
  have HU2 := Lib.hid u2
  have HU3 := Lib.hid u3
  have HU4 := Lib.hid u4
  have hcc := fun h => HC.out W5 hB5 h
  clear y1 y2 y3 y4 v1 v2 v3 v4 w3 w4 a0 a1 a2 a3 lta u1 u2 u3 u4 hf5 hs5 hB5 hW5
  refine (wpIn_wide (n := 6)).1 ?_
  refine wpIn_rangeFunc_ownH (F := Fence.wide) (n := 6) rfl (by omega) (gf := 63) (lb := #[.pointer (some ⟨W2.heap.size, 0, none⟩)]) rfl trivial (enters_of Tryz.func63 (by kernel_rfl) rfl)
    (back_stops Fence.wide 5 trivial rfl (by omega) W2.heap.size W5.heap.size pc cc xc s3 W5 HN5.out (Nat.le_refl _) u5.cell hcc) belowK_t (belowK_b (Nat.le_refl _)) (Below.refl _ _) (fun _ => rfl)
    (fun pre V => NoHit t g pre ∧ Below W5.heap.size W5 V)
    (fun c pre V => (∃ ini last, c = .ret ∧ pre = ini ++ [last] ∧ NoHit t g ini ∧ hitC t g last.2 = true ∧ Boxed V (W.heap.size + 1 + 1 + 1) 33 (.int .u64 last.2.v) ∧ Boxed V (W.heap.size + 1 + 1 + 1 + 1) 30 (.int .i64 0)) ∧ Below W.heap.size W5 V)
    (OwnFrom.and (ownFrom_pure _ _) (ownFrom_below (Nat.le_refl _) (Nat.le_refl _)))
    (fun c => OwnFrom.and (fun s A B row hs hg hr => by
      obtain ⟨ini, last, e1, e2, e3, e4, e5, e6⟩ := hs
      exact ⟨ini, last, e1, e2, e3, e4, own_blk () A B row e5 hg hr, own_blk () A B row e6 hg hr⟩) (ownFrom_below HB5.out.size HB5.out.size))
    ⟨NoHit.nil _ _, Below.refl _ _⟩
    (fun x a' V => ∃ Bx, W5.heap.size ≤ Bx ∧ V.heap[Bx]? = some (.cells #[.int .i64 x.2.t, .int .i64 x.2.g, .int .u64 x.2.v] 50 (0, 0)) ∧ a' = { tmps := #[.agg #[.slice pn xn.length cn, .slice pw xw.length cw, .slice pc xc.length cc, .int .i64 xl], .int .i64 t, .int .i64 g, .pointer (some ⟨W.heap.size, 0, none⟩), .pointer (some ⟨W.heap.size + 1, 0, none⟩), .pointer (some ⟨W.heap.size + 1 + 1, 0, none⟩), .pointer (some ⟨W.heap.size + 1 + 1 + 1, 0, none⟩), .pointer (some ⟨W.heap.size + 1 + 1 + 1 + 1, 0, none⟩), undef, .pointer (some ⟨Bx, 0, none⟩), .agg #[.slice pn xn.length cn, .slice pw xw.length cw, .slice pc xc.length cc, .int .i64 xl], .int .i64 0, .int .i64 0, .bool false, undef, undef, .int .i64 t, .bool false, .bool false, .int .i64 t, .pointer (some ⟨W.heap.size, 3, none⟩), .int .i64 xl, .bool false, .bool false, .bool false, .int .i64 g, .bool false, .bool false, .bool false, .int .i64 g, .pointer (some ⟨W.heap.size, 0, none⟩), .slice pn xn.length cn, .int .i64 ↑xn.length, .bool false, .bool false, undef, .pointer (some ⟨W.heap.size, 2, none⟩), .slice pc xc.length cc, .func (Fn.func 63) #[] #[.pointer (some ⟨W2.heap.size, 0, none⟩)], .int .i64 x.1, .agg #[.int .i64 x.2.t, .int .i64 x.2.g, .int .u64 x.2.v], undef, undef, undef, undef, undef, undef, undef, undef, undef, undef, undef, undef, undef, undef, undef], defers := [] })
    (fun x a' s A B row hs hg hr => by
      obtain ⟨Bx, e1, e2, e3⟩ := hs
      exact ⟨Bx, e1, own_blk () A B row e2 hg hr, e3⟩) ?assign ?body ?done ?stop
  case assign =>
    rintro l pre x V K ⟨hi, hbv⟩ hK
    simp only [chgE]
    gi_wp2
    refine hK _ _ ((KeepsOthers.alloc _ _).from _) ((Below.refl _ V).alloc hbv.size _) ⟨hi, hbv.alloc hbv.size _⟩ ⟨V.heap.size, hbv.size, heap_alloc_new V _, rfl⟩
  case body =>
    rintro l pre x a' V hl ⟨r, hr⟩ ⟨hi, hbv⟩ ⟨Bx, hBx, hbx, rfl⟩ hlt
    obtain ⟨i, ⟨ct, cg, cv⟩⟩ := x
    simp only at hbx
    have u1 := bx_later HU1.out hbv
    have u2 := bx_later HU2.out hbv
    have u3 := bx_later HU3.out hbv
    have u4 := bx_later HU4.out hbv
    have v1 := u1.cell
    have v2 := u2.cell
    have v3 := u3.cell
    have v4 := u4.cell
    have w3 := u3.frozen
    have w4 := u4.frozen
    have x0 := cell_of_row V Bx 0 _ _ (0, 0) hbx
    have x1 := cell_of_row V Bx 1 _ _ (0, 0) hbx
    have x2 := cell_of_row V Bx 2 _ _ (0, 0) hbx
    simp only [List.getElem?_toArray, List.getElem?_cons_zero, List.getElem?_cons_succ] at x0 x1 x2
    have HI := Lib.hid hi
    have HBV := Lib.hid hbv
    have HU3V := Lib.hid u3
    have HU4V := Lib.hid u4
    clear u1 u2 u3 u4 hi hbv hbx
    by_cases hg : cg = g
    · by_cases ht : ct ≤ t
      · have ht' : decide (ct ≤ t) = true := decide_eq_true ht
        have HH : Hid (hitC t g ⟨ct, cg, cv⟩ = true) := Lib.hid (by simp [hitC, hg, ht])
        subst hg
        gi_wp2
        gi_region
        all_goals gi_wp2
        all_goals exact ⟨(((KeepsOthers.setCell _ _ _).trans (KeepsOthers.setCell _ _ _)).trans (KeepsOthers.drew _)).from _, ⟨pre, _, rfl, rfl, HI.out, HH.out, (HU3V.out.set _).other (by omega) _, (HU4V.out.other (by omega) _).set _⟩, (((HBV.out.mono HB5.out.size).setCell (by simp <;> omega) _).setCell (by simp <;> omega) _).drew⟩
      · have ht' : decide (ct ≤ t) = false := decide_eq_false ht
        have HH : Hid (hitC t g ⟨ct, cg, cv⟩ = false) := Lib.hid (by simp [hitC, ht])
        subst hg
        gi_wp2
        exact ⟨KeepsFrom.refl _ _, Below.refl _ _, HI.out.snoc HH.out, HBV.out⟩
    · have hg' : (cg == g) = false := by simpa using hg
      have HH : Hid (hitC t g ⟨ct, cg, cv⟩ = false) := Lib.hid (by simp [hitC, hg])
      gi_wp2
      exact ⟨KeepsFrom.refl _ _, Below.refl _ _, HI.out.snoc HH.out, HBV.out⟩
  case done =>
    rintro D xs V hD rfl ⟨hi, hbv⟩ hK
    have hva : VA = 0 := by
      rw [HV.out, find_none (pre := bkU xc xc.length) (by rw [bkU_map xc (Nat.le_refl _), List.take_of_length_le (by simp)]) hi]
      rfl
    have u3 := bx_later HU3.out hbv
    have u4 := bx_later HU4.out hbv
    have v3 := u3.cell
    have v4 := u4.cell
    have w3 := u3.frozen
    have w4 := u4.frozen
    have HU3V := Lib.hid u3
    have HU4V := Lib.hid u4
    have HBV := Lib.hid hbv
    have HVA := Lib.hid hva
    have HK := Lib.hid hK
    clear u3 u4 hi hbv hva hK
    go_wp2
    go_region
    all_goals go_wp2
    all_goals
      have hK' := (((KeepsOthers.setCell V ⟨W.heap.size + 1 + 1 + 1, 0, none⟩ (.int .u64 0)).trans (KeepsOthers.setCell _ ⟨W.heap.size + 1 + 1 + 1 + 1, 0, none⟩ (.int .i64 0))).trans (KeepsOthers.drew _)).same D _ HK.out rfl
      refine ⟨by simp, .inl ⟨_, _, rfl, run_takeDeferred hK', ?_⟩⟩
      have hc3 := cell_kept (show World.cell? (((V.setCell ⟨W.heap.size + 1 + 1 + 1, 0, none⟩ (.int .u64 0)).setCell ⟨W.heap.size + 1 + 1 + 1 + 1, 0, none⟩ (.int .i64 0)).drew) ⟨W.heap.size + 1 + 1 + 1, 0, none⟩ = _ from ((HU3V.out.set (.int .u64 0)).other (by omega) (.int .i64 0)).cell) (grownBy_putObj' _ D (.deferred none)) (fun r e => by cases e; exact ⟨_, hK', rfl⟩)
      have hc4 := cell_kept (show World.cell? (((V.setCell ⟨W.heap.size + 1 + 1 + 1, 0, none⟩ (.int .u64 0)).setCell ⟨W.heap.size + 1 + 1 + 1 + 1, 0, none⟩ (.int .i64 0)).drew) ⟨W.heap.size + 1 + 1 + 1 + 1, 0, none⟩ = _ from ((HU4V.out.other (by omega) (.int .u64 0)).set (.int .i64 0)).cell) (grownBy_putObj' _ D (.deferred none)) (fun r e => by cases e; exact ⟨_, hK', rfl⟩)
      refine ⟨.tuple #[.int .u64 0, .int .i64 0], ?_, by rw [HEV.out.1, HEV.out.2, HVA.out]; rfl, ((((HB5.out.trans (HBV.out.mono HB5.out.size)).setCell (by simp <;> omega) _).setCell (by simp <;> omega) _).drew).trans (belowK_b (w := W5) HB5.out.size _ D _ _ hD hK' rfl rfl)⟩
      simp [results, Tryz.f16, go_sem, hc3, hc4]
  case stop =>
    rintro D c pre V hD ⟨k, hk, rfl⟩ ⟨⟨ini, last, rfl, e2, e3, e4, u3, u4⟩, hbv⟩ hK
    have hva : VA = last.2.v := by
      rw [HV.out, find_stop (k := k) (by rw [← e2]; exact bkU_map xc hk) e3 e4]
      rfl
    refine wpIn_wide.2 ?_
    have HVA := Lib.hid hva
    have HBV := Lib.hid hbv
    have HK := Lib.hid hK
    have HU3V := Lib.hid u3
    have HU4V := Lib.hid u4
    clear hva hbv hK u3 u4
    go_wp2
    have hK' := HK.out
    refine ⟨by simp, .inl ⟨_, _, rfl, run_takeDeferred hK', ?_⟩⟩
    have hc3 := cell_kept HU3V.out.cell (grownBy_putObj' _ D (.deferred none)) (fun r e => by cases e; exact ⟨_, hK', rfl⟩)
    have hc4 := cell_kept HU4V.out.cell (grownBy_putObj' _ D (.deferred none)) (fun r e => by cases e; exact ⟨_, hK', rfl⟩)
    refine ⟨.tuple #[.int .u64 last.2.v, .int .i64 0], ?_, by rw [HEV.out.1, HEV.out.2, HVA.out], (HB5.out.trans HBV.out).trans (belowK_b (w := W5) HB5.out.size _ D _ _ hD hK' rfl rfl)⟩
    simp [results, Tryz.f16, go_sem, hc3, hc4]

end Go.Proofs.YtephnfhjobkciaaGreatDoor

/- What the library's tables hold; binary numerals; decimal ones. -/
namespace Go.Proofs.YtephnfhjobkciaaGreatDoor
open Go.RowKit Go.Proofs.Wav Go.Proofs.Scn Go.Flow Go.Sort
set_option linter.unusedVariables false
set_option linter.unusedSimpArgs false
set_option maxRecDepth 100000

/-- what is known of the variables of Go's library -/
structure Base (w : World) : Prop where
  max : ∃ m, w.cell? ⟨4, 0, none⟩ = some (.int .i64 m)
  pow : Lib.TabIs Tryz.prog w "internal/strconv.uint64pow10" .u64 Lib.pow10Tab
  tz : TabAt 6 Lib.deBruijn64tab w
  syn : ∃ t p, w.cell? ⟨2, 0, none⟩ = some (.iface t p)
  rng : ∃ t p, w.cell? ⟨3, 0, none⟩ = some (.iface t p)
theorem Base.later {w w' : World} (h : Base w) (hb : Below w.heap.size w w') : Base w' := by
  obtain ⟨⟨m, h1⟩, h2, h3, ⟨t, p, h4⟩, ⟨t', p', h5⟩⟩ := h
  exact ⟨⟨m, (hb.cell (World.block_lt_of_cell? w _ h1)).trans h1⟩, Joins.tab_stays (g := 1) (by kernel_rfl) h2 hb (Nat.le_refl _), fun j hj => (hb.cell (World.block_lt_of_cell? w _ (h3 j hj))).trans (h3 j hj),
    ⟨t, p, (hb.cell (World.block_lt_of_cell? w _ h4)).trans h4⟩, ⟨t', p', (hb.cell (World.block_lt_of_cell? w _ h5)).trans h5⟩⟩
theorem Base.alloc {w : World} (h : Base w) (o : Obj) : Base (w.alloc o) := h.later ((Below.refl _ _).alloc (Nat.le_refl _) _)

/-- the array of bytes, from a place on -/
structure Hex (w : World) (m i : Nat) (R : List UInt8) : Prop where
  block : ∃ cur, w.heap[m]? = some (.cells cur 148 (0, 0)) ∧ cur.size = 65
  room : i + R.length = 65
  byte : ∀ j (h : j < R.length), w.cell? ⟨m, i + j, none⟩ = some (.int .u8 R[j].toNat)
theorem Hex.cell {w : World} {m i : Nat} {R : List UInt8} (h : Hex w m i R) (j : Nat) (hj : j < 65) : ∃ x, w.cell? ⟨m, j, none⟩ = some x := by
  obtain ⟨cur, hc, hs⟩ := h.block
  exact ⟨cur[j], by rw [cell_of_row w m j cur _ _ hc]; exact Array.getElem?_eq_getElem (by omega)⟩
theorem Hex.free {w : World} {m i : Nat} {R : List UInt8} (h : Hex w m i R) (j : Nat) : w.frozen? ⟨m, j, none⟩ = false := by
  obtain ⟨cur, hc, hs⟩ := h.block
  simp [World.frozen?, hc]
theorem Hex.push {w : World} {m i : Nat} {R : List UInt8} (h : Hex w m (i + 1) R) (c : UInt8) : Hex (w.setCell ⟨m, i, none⟩ (.int .u8 c.toNat)) m i (c :: R) := by
  obtain ⟨cur, hc, hs⟩ := h.block
  obtain ⟨x, hx⟩ := h.cell i (by have := h.room; omega)
  refine ⟨?_, by have := h.room; simp; omega, fun j hj => ?_⟩
  · exact ⟨cur.setIfInBounds i (.int .u8 c.toNat), by simp [World.setCell, Array.getElem?_modify, hc], by simp [hs]⟩
  · cases j with
    | zero => exact World.cell?_setCell_same _ _ _ hx
    | succ j =>
      rw [World.cell?_setCell_other _ _ _ _ (by simp), show i + (j + 1) = i + 1 + j from by omega]
      exact h.byte j (by simpa using hj)
theorem Hex.later {w w' : World} {m i : Nat} {R : List UInt8} (h : Hex w m i R) (hb : Below w.heap.size w w') : Hex w' m i R := by
  obtain ⟨cur, hc, hs⟩ := h.block
  have hlt := (Array.getElem?_eq_some_iff.1 hc).1
  exact ⟨⟨cur, (hb.block m hlt).trans hc, hs⟩, h.room, fun j hj => (hb.cell (p := ⟨m, i + j, none⟩) hlt).trans (h.byte j hj)⟩
theorem Hex.bytes {w : World} {m i : Nat} {R : List UInt8} (h : Hex w m i R) (c : Nat) : Bytes w (.slice (some ⟨m, i, none⟩) R.length c) (bs R) := by
  obtain ⟨cur, hc, hs⟩ := h.block
  exact .inr ⟨m, i, c, rfl, (Array.getElem?_eq_some_iff.1 hc).1, fun k hk => h.byte k hk⟩

theorem pow2_2 (W : World) : Calls Tryz.prog 110 #[.int .i64 2] W fun e W' => e = .returned (.bool true) ∧ W = W' := by
  go_enter Tryz.func110, Tryz.ntmps110
  go_wp2
  go_ret
  exact ⟨rfl, rfl⟩

theorem tz_2 (W : World) (hB : Base W) : Calls Tryz.prog 111 #[.int .u64 2] W fun e W' => e = .returned (.int .i64 1) ∧ W = W' := by
  refine Calls.mono (Any7.bits_TrailingZeros Tryz.lays7n27 2 (by decide) W (fun _ => hB.tz)) ?_
  rintro e w' h
  exact ⟨h.1.trans (by rw [show Lib.ctz 64 2 = 1 from by decide]; rfl), h.2.symm⟩

theorem and1 (n : Nat) (h : n < 18446744073709551616) : bits BinOp.and IntKind.u64 (n : Int) 1 = ((n % 2 : Nat) : Int) := by
  have := bits_and_u64_nat n 1 h (by omega)
  rw [show n &&& 1 = n % 2 from Nat.and_two_pow_sub_one_eq_mod n 1] at this
  exact this
/-- the digits of a number's text -/
def dig2 (n : Nat) : UInt8 := UInt8.ofNat (if n < 10 then 48 + n else 87 + n)
theorem lit_dig : ∀ d (h : d < 36), d < 2 → (ByteArray.mk #[48, 49, 50, 51, 52, 53, 54, 55, 56, 57, 97, 98, 99, 100, 101, 102, 103, 104, 105, 106, 107, 108, 109, 110, 111, 112, 113, 114, 115, 116, 117, 118, 119, 120, 121, 122])[d] = dig2 d := by decide
theorem digL_2 (n : Nat) (h : 2 ≤ n) : digL 2 n = digL 2 (n / 2) ++ [dig2 (n % 2)] := digL_ge (by omega)
theorem digL_1 (n : Nat) (h : n < 2) : digL 2 n = [dig2 n] := digL_lt (.inl h)

set_option maxHeartbeats 8000000 in
theorem bits2 (v : Nat) (hv : v < 18446744073709551616) (W : World) (hB : Base W) :
    Calls Tryz.prog 84 #[.slice none 0 0, .int .u64 v, .int .i64 2, .bool false, .bool false] W fun e W' => e = .returned (.tuple #[.slice none 0 0, .string (bs (digL 2 v))]) ∧ Below W.heap.size W W' := by
  have kp := pow2_2
  have kt := tz_2
  have KP := Lib.hid kp
  have KT := Lib.hid kt
  have HBase := Lib.hid hB
  clear kp kt hB
  have hzero : Hex (W.alloc (.cells (Array.replicate 65 (.int .u8 0)) 148)) W.heap.size 65 [] := ⟨⟨Array.replicate 65 (.int .u8 0), heap_alloc_new _ _, by simp⟩, rfl, fun j hj => by simp at hj⟩
  have hW : Below W.heap.size W (W.alloc (.cells (Array.replicate 65 (.int .u8 0)) 148)) := (Below.refl _ _).alloc (Nat.le_refl _) _
  have HZ := Lib.hid hzero
  have HW := Lib.hid hW
  clear hzero hW
  go_enter Tryz.func84, Tryz.ntmps84
  go_wp2_with fail
  refine (KP.out _).mono ?_
  rintro e w' ⟨rfl, rfl⟩
  go_wp2_with fail
  refine (KT.out _ (HBase.out.alloc _)).mono ?_
  rintro e w' ⟨rfl, rfl⟩
  go_wp2_with fail
  go_loopw [1, 13] (fun u i wr => ∃ (n k : Nat) (R : List UInt8), u = .int .u64 n ∧ i = .int .i64 k ∧ n ≤ v ∧ R.length ≤ 63 ∧ k + R.length = 65 ∧ Hid (n * 2 ^ R.length ≤ v) ∧ Hid (digL 2 v = digL 2 n ++ R) ∧ Hid (Hex wr W.heap.size k R) ∧ Hid (Below W.heap.size W wr)) (fun u _ _ => (intOf u).toNat)
  case atStart => exact ⟨v, 65, [], rfl, rfl, Nat.le_refl _, by simp, rfl, Lib.hid (by simp), Lib.hid (by simp), HZ, HW⟩
  case round =>
    obtain ⟨n, k, R, rfl, rfl, hn, hR, hk, HV, HD, HX, HB⟩ := hrel
    by_cases hlt : 2 ≤ n
    · have hlt' : (2 : Int) ≤ (n : Int) := by omega
      obtain ⟨j, rfl⟩ : ∃ j, k = j + 1 := ⟨k - 1, by omega⟩
      have hs : ((j + 1 : Nat) : Int) - 1 = (j : Int) := by omega
      obtain ⟨x, hx⟩ := HX.out.cell j (by omega)
      have hf := HX.out.free j
      have hand := and1 n (by omega)
      have hd2 : n % 2 < 2 := Nat.mod_lt _ (by omega)
      have hdig := digL_2 n hlt
      generalize n % 2 = d at hand hd2 hdig
      have hd36 : d < 36 := by omega
      have hlit := lit_dig d hd36 hd2
      have hval : n / 2 * 2 ^ (R.length + 1) ≤ v := by
        have h1 := Nat.div_mul_le_self n 2
        have h2 := Nat.mul_le_mul_right (2 ^ R.length) h1
        rw [Nat.pow_succ, Nat.mul_comm (2 ^ R.length) 2, ← Nat.mul_assoc]
        exact Nat.le_trans h2 HV.out
      have hlen : R.length + 1 ≤ 63 := by
        have h1 := Nat.mul_le_mul_right (2 ^ R.length) hlt
        have h2 := Nat.le_trans h1 HV.out
        rcases Nat.lt_or_ge R.length 63 with h3 | h3
        · omega
        · have h4 : (2 : Nat) ^ 63 ≤ 2 ^ R.length := Nat.pow_le_pow_right (by omega) h3
          have h5 : (2 : Nat) ^ 63 = 9223372036854775808 := by decide
          omega
      have HDig := Lib.hid (show digL 2 v = digL 2 (n / 2) ++ (dig2 d :: R) by rw [HD.out, hdig, List.append_assoc]; rfl)
      have HVal := Lib.hid hval
      have HP := HX.out.push (dig2 d)
      have HBel := Lib.hid (show Below W.heap.size W (wr.setCell ⟨W.heap.size, j, none⟩ (.int .u8 (dig2 d).toNat)) from HB.out.setCell (Nat.le_refl _) _)
      have HPush := Lib.hid HP
      clear hval hdig HP
      have hdiv : n / 2 < n := by omega
      have hq : ((n : Int) / 2) = ((n / 2 : Nat) : Int) := by omega
      generalize n / 2 = n' at *
      go_wp2_with fail
      go_roundw
      case rel => exact ⟨n', j, dig2 d :: R, rfl, rfl, by omega, by simp; omega, by simp; omega, HVal, HDig, HPush, HBel⟩
      case measure => simp [intOf]; omega
    · have hlt' : ¬ (2 : Int) ≤ (n : Int) := by omega
      obtain ⟨j, rfl⟩ : ∃ j, k = j + 1 := ⟨k - 1, by omega⟩
      have hs : ((j + 1 : Nat) : Int) - 1 = (j : Int) := by omega
      obtain ⟨x, hx⟩ := HX.out.cell j (by omega)
      have hf := HX.out.free j
      have hn36 : n < 36 := by omega
      have hlit := lit_dig n hn36 (by omega)
      have hP := HX.out.push (dig2 n)
      have hBel := (show Below W.heap.size W (wr.setCell ⟨W.heap.size, j, none⟩ (.int .u8 (dig2 n).toNat)) from HB.out.setCell (Nat.le_refl _) _)
      have hdig : digL 2 v = dig2 n :: R := by rw [HD.out, digL_1 n (by omega)]; rfl
      have hconv := str_run (hP.bytes (65 - j))
      have HDig := Lib.hid hdig
      have HBel := Lib.hid hBel
      have hjl : (dig2 n :: R).length = 65 - j := by have := hP.room; omega
      rw [hjl] at hconv
      have hsl : ∀ w, (Instr.sliceAt 148 (.pointer (some ⟨W.heap.size, 0, none⟩)) (some (.int .i64 (j : Int))) none none).run Tryz.prog w = .ok (.slice (some ⟨W.heap.size, j, none⟩) (65 - j) (65 - j)) w := fun w => by
        rw [run_sliceAt_array_l w 148 ⟨W.heap.size, 0, none⟩ (by kernel_rfl) .i64 (j : Int) (by omega) (by rw [show Tryz.prog.arrayLen 148 = 65 from by kernel_rfl]; omega)]
        go_simp
        omega
      clear hBel hdig hP hjl
      go_wp2
      refine bodyPost_ret (v := .tuple #[.slice none 0 0, .string (bs (dig2 n :: R))]) ?_ rfl ⟨by rw [HDig.out], HBel.out⟩
      simp [results, Tryz.results84, go_sem]

set_option maxHeartbeats 1000000 in
theorem fmt2_in (v : Nat) (hv : v < 18446744073709551616) (W : World) (hB : Base W) :
    Calls Tryz.prog 57 #[.int .u64 v, .int .i64 2] W fun e W' => e = .returned (.string (bs (digL 2 v))) ∧ Below W.heap.size W W' := by
  have K := Lib.hid (bits2 v hv W hB)
  clear hB
  go_enter Tryz.func57, Tryz.ntmps57
  go_wp2_with fail
  refine K.out.mono ?_
  rintro e w' ⟨rfl, hb⟩
  go_wp2
  go_ret
  exact ⟨rfl, hb⟩

set_option maxHeartbeats 1000000 in
theorem fmt2_any (v : Nat) (hv : v < 18446744073709551616) (W : World) (hB : Base W) :
    Calls Tryz.prog 32 #[.int .u64 v, .int .i64 2] W fun e W' => e = .returned (.string (bs (digL 2 v))) ∧ Below W.heap.size W W' := by
  have K := Lib.hid (fmt2_in v hv W hB)
  clear hB
  go_enter Tryz.func32, Tryz.ntmps32
  go_wp2_with fail
  refine K.out.mono ?_
  rintro e w' ⟨rfl, hb⟩
  go_wp2
  go_ret
  exact ⟨rfl, hb⟩


theorem dec_dig (n : Nat) : Lib.decDigits n = digL 10 n := by
  induction n using Nat.strongRecOn with
  | _ n ih =>
    rw [Lib.decDigits]
    split
    · rename_i h
      rw [digL_lt (.inl h), if_pos h]
    · rename_i h
      rw [digL_ge (by omega), ih (n / 10) (by omega), if_pos (by omega)]
theorem itoa_any (n : Nat) (hn : n < 9223372036854775808) (W : World) (hB : Base W) :
    Calls Tryz.prog 30 #[.int .i64 n] W fun e W' => e = .returned (.string (bs (dec n))) ∧ Below W.heap.size W W' := by
  refine (Tryz.strconv_Itoa n (by omega) (by omega) W hB.pow).mono ?_
  rintro e w' ⟨rfl, k, os, rfl⟩
  refine ⟨?_, ?_⟩
  · have : Lib.itoa (n : Int) = dec n := by
      unfold dec
      rw [← dec_dig]
      simp [Lib.itoa]
    rw [this]
    rfl
  · exact Go.Lib.below_grow _ _ (Nat.le_refl _) _ _

end Go.Proofs.YtephnfhjobkciaaGreatDoor

/- A line that is put into the buffer; the time's line: the program. -/
namespace Go.Proofs.YtephnfhjobkciaaGreatDoor
open Go.RowKit Go.Proofs.Wav Go.Proofs.Scn Go.Flow Go.Sort
set_option linter.unusedVariables false
set_option linter.unusedSimpArgs false
set_option maxRecDepth 100000

/-- the buffer of the call holds L -/
def Buf (B : Nat) (L : Ln) (w : World) : Prop := Lib.IsBuffer 57 5 B B (Lib.byteCells L) w
theorem Buf.old {B : Nat} {L : Ln} {w w' : World} (h : Buf B L w) (hb : Below w.heap.size w w') : Buf B L w' := Lib.IsBuffer.old h hb
theorem Buf.lt {B : Nat} {L : Ln} {w : World} (h : Buf B L w) : B < w.heap.size := Lib.IsBuffer.lt h
theorem Buf.new (w : World) : Buf w.heap.size [] (w.alloc (.cells #[.slice none 0 0, .int .i64 0, .int .i8 0] 57)) := Lib.fresh_isBuffer 57 5 w
/-- a store into a box that is no row of bytes -/
theorem Buf.other {B n : Nat} {L : Ln} {w : World} {cs : Array Value} {T : TypeId} {fr : Nat × Nat} (h : Buf B L w) (hb : w.heap[n]? = some (.cells cs T fr)) (hT : T ≠ 5) (hn : n ≠ B) (u : Value) : Buf B L (w.setCell ⟨n, 0, none⟩ u) := by
  obtain ⟨h0, v, lr, h1, h2, h3⟩ := h
  have hg : w.grownBy (w.setCell ⟨n, 0, none⟩ u) (some n) := grownBy_setCell' w n u
  refine ⟨h0, v, lr, (hg.block B (Array.getElem?_eq_some_iff.1 h1).1 (by simp; exact fun e => hn e.symm)).trans h1, ?_, h3⟩
  refine ⟨h2.1, ?_⟩
  rcases h2.2 with h4 | ⟨g, cap, cur, e1, e2, e3, e4⟩
  · exact .inl h4
  · refine .inr ⟨g, cap, cur, e1, e2, (hg.block g (Array.getElem?_eq_some_iff.1 e3).1 ?_).trans e3, e4⟩
    intro e
    simp only [Option.some.injEq] at e
    subst e
    rw [hb] at e3
    simp only [Option.some.injEq, Obj.cells.injEq] at e3
    exact hT e3.2.1
/-- what is no row of bytes, no buffer and not that box lies as it lay -/
def Lies (B : Nat) (o : Option Nat) (w w' : World) : Prop := ∀ k cs T fr, w.heap[k]? = some (.cells cs T fr) → T ≠ 5 → k ≠ B → some k ≠ o → w'.heap[k]? = some (.cells cs T fr)
theorem Lies.of_kept {B : Nat} {w w' : World} (h : Lib.OthersKept 5 (some B) w w') : Lies B none w w' := fun k cs T fr hk hT hB _ => h k _ hk (by simpa using hB) (fun c fz e => by cases e; exact hT rfl)

theorem wstr_any (B : Nat) (L l : Ln) (w : World) (h : Buf B L w) (hlim : L.length + l.length ≤ 140737488355328) :
    Calls Tryz.prog 29 #[.pointer (some ⟨B, 0, none⟩), .string (bs l)] w fun e w' => e = .returned (.tuple #[.int .i64 l.length, .nilIface]) ∧ Buf B (L ++ l) w' ∧ Below B w w' ∧ Lies B none w w' := by
  refine (Tryz.Buffer_WriteString_k B B (Lib.byteCells L) (bs l) w h (Nat.le_of_lt h.lt) (Lib.byteCells_one L) (by rw [Lib.byteCells_length, size_bs]; exact hlim)).mono ?_
  rintro e w' ⟨rfl, h1, h2, h3⟩
  refine ⟨rfl, ?_, h2, Lies.of_kept h3⟩
  unfold Buf
  rw [Lib.byteCells_append]
  exact h1

/-- what the time's line leaves -/
def TimePost (B LB : Nat) (L : Ln) (t : Int) (w : World) (e : Ending) (w' : World) : Prop :=
  e = .returned (.tuple #[]) ∧ Buf B L w' ∧ Boxed w' LB 3 (.int .i64 t) ∧ Below B w w' ∧ Lies B (some LB) w w'

set_option maxHeartbeats 2000000 in
theorem time_any (B LB : Nat) (L : Ln) (t : Nat) (p : Int) (ht : t < 10000000000) (W : World) (hB : Base W) (hbuf : Buf B L W) (hbox : Boxed W LB 3 (.int .i64 p)) (hne : B < LB) (hl : L.length ≤ 100000000000) :
    Calls Tryz.prog 31 #[.int .i64 t, .pointer (some ⟨LB, 0, none⟩), .pointer (some ⟨B, 0, none⟩)] W (TimePost B LB (L ++ joinL (timeLines p t)) t W) := by
  have hc := hbox.cell
  have hf := hbox.frozen
  by_cases h : (t : Int) = p
  · rw [time_none h, List.append_nil]
    subst h
    have HB := Lib.hid hbox
    go_enter Tryz.func31, Tryz.ntmps31
    go_wp2
    go_end0
    exact ⟨rfl, hbuf, HB.out, Below.refl _ _, fun k cs T fr hk _ _ _ => hk⟩
  · rw [time_some h, Int.toNat_natCast]
    have h' : ((t : Int) != p) = true := by simpa using h
    have hdl := dec_len ht
    have hlT : bs (35 :: dec t ++ [10]) = ⟨#[35]⟩ ++ bs (dec t) ++ ⟨#[10]⟩ := by
      apply ByteArray.ext
      simp [bs]
    have hTs : (bs (dec t)).size ≤ 10 := hdl
    have hTl : (35 :: dec t ++ [10] : Ln).length ≤ 12 := by simp; omega
    have HI := Lib.hid (itoa_any t (by omega) W hB)
    generalize bs (dec t) = DT at *
    generalize (35 :: dec t ++ [10] : Ln) = TL at *
    have hS1 : (⟨#[35]⟩ ++ DT : ByteArray).size = DT.size + 1 := by rw [ByteArray.size_append, Nat.add_comm]; rfl
    have HW := Lib.hid (fun w (h : Buf B L w) => wstr_any B L TL w h (by omega))
    rw [hlT] at HW
    have HBuf := Lib.hid hbuf
    have HBox := Lib.hid hbox
    clear hbuf hbox hlT hdl hB h
    go_enter Tryz.func31, Tryz.ntmps31
    go_wp2_with fail
    refine HI.out.mono ?_
    rintro e W1 ⟨rfl, hb1⟩
    have HB1 := Lib.hid hb1
    clear hb1
    go_wp2_with fail
    refine (HW.out _ (HBuf.out.old HB1.out)).mono ?_
    rintro e W2 ⟨rfl, hbuf2, hb2, hlies⟩
    have hbox2 : Boxed W2 LB 3 (.int .i64 p) := hlies LB _ _ _ ((HB1.out.block LB HBox.out.lt).trans HBox.out) (by decide) (by omega) (by simp)
    have hc2 := hbox2.cell
    have hf2 := hbox2.frozen
    have HBox2 := Lib.hid hbox2
    have HBuf2 := Lib.hid hbuf2
    have HB2 := Lib.hid hb2
    have HL2 := Lib.hid hlies
    clear hbox2 hbuf2 hb2 hlies
    go_wp2
    go_end0
    refine ⟨rfl, HBuf2.out.other HBox2.out (by decide) (by omega) _, HBox2.out.set _, ((HB1.out.mono (Nat.le_of_lt HBuf.out.lt)).trans HB2.out).setCell (Nat.le_of_lt hne) _, ?_⟩
    intro k cs T fr hk hT hB hLB
    have h1 := HL2.out k cs T fr ((HB1.out.block k (Array.getElem?_eq_some_iff.1 hk).1).trans hk) hT hB (by simp)
    exact ((grownBy_setCell' W2 LB (.int .i64 t)).block k (Array.getElem?_eq_some_iff.1 h1).1 hLB).trans h1

end Go.Proofs.YtephnfhjobkciaaGreatDoor
