/- Texts of the Wave laws, merged: WR, WS, WT, WU, WV, WX. -/
import Derived.Test.YtephnfhjobkciaaGreatDoorQ6
import Derived.Test.YtephnfhjobkciaaGreatDoorQ5
import Derived.Lib.AtoiAll
import Derived.Lib.AtoiBound
import Derived.Test.YtephnfhjobkciaaGreatDoorQ4
import Derived.RangeFuncNested
import Derived.RangeFuncBound
import Derived.RangeFuncCalls
import Derived.RangeFuncLeaves
import Derived.RangeFuncBox
import Derived.Test.YtephnfhjobkciaaGreatDoorQ1
import Derived.Lib.Bytealg
import Derived.Test.YtephnfhjobkciaaGreatDoorQS

/- The rows of a wave: the program, whole. -/
namespace Go.Proofs.YtephnfhjobkciaaGreatDoor
open Go.RowKit Go.Proofs.Wav Go.Proofs.Scn Go.Flow Go.Sort
set_option linter.unusedVariables false
set_option linter.unusedSimpArgs false
set_option maxRecDepth 100000

def RowsPost (x : Wv) (W : World) (e : Ending) (W' : World) : Prop :=
  (∃ v, e = .returned (.tuple #[v, .int .i64 (rowsE x)]) ∧ if rowsE x = 0 then Rws W' v (rowsOf x.names.length x.chs (x.last.toNat + 1)) else v = .slice none 0 0) ∧ Below W.heap.size W W'
theorem RowsPost.bad {x : Wv} {W W' : World} {e : Ending} (h : rowsE x ≠ 0) (he : e = .returned (.tuple #[.slice none 0 0, .int .i64 (rowsE x)])) (hb : Below W.heap.size W W') : RowsPost x W e W' :=
  ⟨⟨_, he, by rw [if_neg h]⟩, hb⟩
theorem RowsPost.good {x : Wv} {W W' : World} {e : Ending} {v : Value} (h : rowsE x = 0) (he : e = .returned (.tuple #[v, .int .i64 0])) (ho : Rws W' v (rowsOf x.names.length x.chs (x.last.toNat + 1))) (hb : Below W.heap.size W W') : RowsPost x W e W' :=
  ⟨⟨v, by rw [h]; exact he, by rw [if_pos h]; exact ho⟩, hb⟩
/-- what is left of the changes -/
def Rest (W : World) (xc : List Chg) (i : Nat) (p : Option Addr) (m c : Nat) : Prop := m + i = xc.length ∧ m ≤ c ∧ (0 < m → ∃ b off, p = some ⟨b, off + i * 3, none⟩ ∧ b < W.heap.size ∧ ∀ j, j < xc.length * 3 → W.cell? ⟨b, off + j, none⟩ = (chgsV xc)[j]?)

set_option maxHeartbeats 16000000 in
theorem rows_any (vn vw : Value) (pc : Option Addr) (cc : Nat) (x : Wv) (hs : Small x) (hf : Fits x) (hcap : x.chs.length ≤ cc) (W : World) (h1 : WavAt W vn vw (.slice pc x.chs.length cc) x) :
    Calls Tryz.prog 24 #[.agg #[vn, vw, .slice pc x.chs.length cc, .int .i64 x.last]] W (RowsPost x W) := by
  have HCk := Lib.hid (fun w hb => check_any vn vw (.slice pc x.chs.length cc) x hs hf w (h1.later hb))
  have HBad := Lib.hid (fun (W' : World) (e : Ending) h he hb => @RowsPost.bad x W W' e h he hb)
  have HGood := Lib.hid (fun (W' : World) (e : Ending) (v : Value) h he ho hb => @RowsPost.good x W W' e v h he ho hb)
  have HE1 := Lib.hid (@rowsE_bad x)
  have HE2 := Lib.hid (@rowsE_long x)
  have HE3 := Lib.hid (@rowsE_ok x)
  have HIs := Lib.hid (@is_of x)
  obtain ⟨xn, xw, xc, xl⟩ := x
  obtain ⟨s1, s2, s3, s4⟩ := hs
  simp only at *
  obtain ⟨pn, cn, rfl⟩ := h1.1.form
  obtain ⟨pw, cw, rfl⟩ := h1.2.1.form
  simp only at *
  have b1 := Box4.new W (.slice pn xn.length cn) (.slice pw xw.length cw) (.slice pc xc.length cc) (.int .i64 xl) 26
  have hb1 := (Below.refl W.heap.size W).alloc (Nat.le_refl _) (.cells #[.slice pn xn.length cn, .slice pw xw.length cw, .slice pc xc.length cc, .int .i64 xl] 26)
  have HR0 : Hid (Rest W xc 0 pc xc.length cc) := Lib.hid ⟨rfl, hcap, fun h => by
    obtain ⟨b, off, h3, h4, h5⟩ := Slc.at h1.2.2 h
    exact ⟨b, off, by rw [h3]; simp, h4, h5⟩⟩
  have HB := Lib.hid hb1
  clear hb1 h1 s4
  have hsz : (W.alloc (.cells #[.slice pn xn.length cn, .slice pw xw.length cw, .slice pc xc.length cc, .int .i64 xl] 26)).heap.size = W.heap.size + 1 := by simp
  generalize hPE : rowsE ⟨xn, xw, xc, xl⟩ = PE at *
  clear hPE
  by_cases hck : checkW ⟨xn, xw, xc, xl⟩ = 0
  case neg =>
    have HPE := Lib.hid (HE1.out hck)
    generalize checkW ⟨xn, xw, xc, xl⟩ = R at *
    have hck' : (R != 0) = true := by simpa using hck
    go_enter Tryz.func24, Tryz.ntmps24
    go_wp2_with fail
    refine (HCk.out _ HB.out).mono ?_
    rintro e W2 ⟨rfl, hb2⟩
    have HW2 := Lib.hid (HB.out.trans (hb2.mono HB.out.size))
    clear hb2
    go_wp2
    go_ret2
    exact HBad.out _ _ (by rw [HPE.out]; exact hck) (by rw [HPE.out]; rfl) HW2.out
  have his := HIs.out hck
  have HIS := Lib.hid his
  have hn512 : xn.length ≤ 512 := his.n
  have hc65 : xc.length ≤ 65536 := his.c
  have hli : xl ≤ 2147483647 := his.hi
  have hlo : 0 ≤ xl := his.lo
  rw [hck] at HCk
  have he2 := HE2.out hck
  have he3 := HE3.out hck
  clear his HE1 hck
  obtain ⟨L, rfl⟩ : ∃ L : Nat, xl = (L : Int) := ⟨xl.toNat, by omega⟩
  obtain ⟨n, hn⟩ : ∃ n, n = xn.length := ⟨_, rfl⟩
  have hmul : ((L : Int) + 1) * (xn.length : Int) = (((L + 1) * xn.length : Nat) : Int) := by simp
  rw [hmul] at he2 he3
  by_cases hbig : 65536 < L
  · have HPE := Lib.hid (he2 (by omega))
    have hbig' : (65537 : Int) < (L : Int) + 1 := by omega
    clear he2 he3 hmul
    go_enter Tryz.func24, Tryz.ntmps24
    go_wp2_with fail
    refine (HCk.out _ HB.out).mono ?_
    rintro e W2 ⟨rfl, hb2⟩
    have HW2 := Lib.hid (HB.out.trans (hb2.mono HB.out.size))
    obtain ⟨a0, a1, a2, a3, _, _, _, _, _⟩ := b1.later hb2
    clear hb2
    go_wp2
    go_ret2
    exact HBad.out _ _ (by rw [HPE.out]; decide) (by rw [HPE.out]; rfl) HW2.out
  have hbig' : ¬ (65537 : Int) < (L : Int) + 1 := by omega
  have hb' : decide ((65537 : Int) < (L : Int) + 1) = false := decide_eq_false hbig'
  obtain ⟨M, hM⟩ : ∃ M, M = (L + 1) * xn.length := ⟨_, rfl⟩
  rw [← hM] at he2 he3 hmul
  have hM2 : M ≤ 40000000 := by
    rw [hM]
    exact Nat.le_trans (Nat.mul_le_mul (show L + 1 ≤ 65537 by omega) hn512) (by omega)
  by_cases hprod : 65536 < M
  · have HPE := Lib.hid (he2 (by omega))
    have hprod' : (65536 : Int) < (M : Int) := by omega
    clear he2 he3 hM hn
    go_enter Tryz.func24, Tryz.ntmps24
    go_wp2_with fail
    refine (HCk.out _ HB.out).mono ?_
    rintro e W2 ⟨rfl, hb2⟩
    have HW2 := Lib.hid (HB.out.trans (hb2.mono HB.out.size))
    obtain ⟨a0, a1, a2, a3, _, _, _, _, _⟩ := b1.later hb2
    clear hb2
    go_wp2
    go_ret2
    exact HBad.out _ _ (by rw [HPE.out]; decide) (by rw [HPE.out]; rfl) HW2.out
  have HPE := Lib.hid (he3 (by omega))
  have hprod' : ¬ (65536 : Int) < (M : Int) := by omega
  have hp' : decide ((65536 : Int) < (M : Int)) = false := decide_eq_false hprod'
  obtain ⟨c1, hc1, hm1⟩ := make_rows (L + 1) (by omega)
  obtain ⟨c2, hc2, hm2⟩ := make_u64 xn.length (by omega)
  rw [show ((L + 1 : Nat) : Int) = (L : Int) + 1 by omega] at hm1
  have HC1 := Lib.hid hc1
  have HC2 := Lib.hid hc2
  clear he2 he3 hM hn hc1 hc2
  go_enter Tryz.func24, Tryz.ntmps24
  go_wp2_with fail
  refine (HCk.out _ HB.out).mono ?_
  rintro e W2 ⟨rfl, hb2⟩
  generalize W.alloc (.cells #[.slice pn xn.length cn, .slice pw xw.length cw, .slice pc xc.length cc, .int .i64 (L : Int)] 26) = Z at *
  obtain ⟨a0, a1, a2, a3, _, _, _, _, lta⟩ := b1.later hb2
  have HZW := Lib.hid hb2
  have HW2 := Lib.hid (HB.out.trans (hb2.mono HB.out.size))
  have HS2 := Lib.hid (show W.heap.size < W2.heap.size by have := hb2.size; omega)
  clear hb2 hsz b1
  have hA := (Below.refl W2.heap.size W2).alloc (Nat.le_refl _) (.cells c1 52)
  have hAA := hA.alloc (by simp) (.cells c2 33)
  have HR1 : Hid (RowsAt ((W2.alloc (.cells c1 52)).alloc (.cells c2 33)) (W2.heap.size + 1) W2.heap.size xn.length (L + 1) []) := Lib.hid ⟨c1, by
    have := heap_alloc_new W2 (.cells c1 52)
    exact (heap_alloc_old _ _ (by simp)).trans this, HC1.out, fun j hj => by simp at hj⟩
  have HN1 : Hid (NowAt ((W2.alloc (.cells c1 52)).alloc (.cells c2 33)) (W2.heap.size + 1) xn.length (nowF xc 0)) := Lib.hid ⟨c2, by
    have := heap_alloc_new (W2.alloc (.cells c1 52)) (.cells c2 33)
    rwa [World.size_alloc] at this, fun s hs => by rw [nowF_zero]; exact HC2.out s hs⟩
  have HX1 := Lib.hid (show Below W.heap.size W ((W2.alloc (.cells c1 52)).alloc (.cells c2 33)) from HW2.out.trans (hAA.mono (Nat.le_of_lt HS2.out)))
  have a0' := (hA.cell (p := ⟨W.heap.size, 0, none⟩) HS2.out).trans a0
  have a2' := (hAA.cell (p := ⟨W.heap.size, 2, none⟩) HS2.out).trans a2
  have hsa : (W2.alloc (.cells c1 52)).heap.size = W2.heap.size + 1 := by simp
  clear hA hAA
  go_wp2_with fail
  have HNE := Lib.hid (show W2.heap.size ≠ W2.heap.size + 1 by omega)
  clear a0 a1 a2 a3 a0' a2' lta hm1 hm2 hsa
  go_loopw [40, 8] (fun i v wr => ∃ (k j : Nat) (p : Option Addr) (m c : Nat), i = .int .i64 k ∧ v = .slice p m c ∧ k ≤ L + 1 ∧ j ≤ xc.length ∧ Hid (Rest W xc j p m c) ∧ Hid (∀ x ∈ xc.take j, x.t < (k : Int)) ∧ Hid (∀ x ∈ xc.drop j, (k : Int) ≤ x.t) ∧ Hid (RowsAt wr (W2.heap.size + 1) W2.heap.size xn.length (L + 1) ((List.range k).map (rowF xn.length xc))) ∧ Hid (NowAt wr (W2.heap.size + 1) xn.length (nowF xc j)) ∧ Hid (Below W.heap.size W wr)) (fun i _ _ => L + 1 - (intOf i).toNat)
  case atStart => exact ⟨0, 0, pc, xc.length, cc, rfl, rfl, Nat.zero_le _, Nat.zero_le _, HR0, Lib.hid (by simp), Lib.hid (fun x hx => by
    have := HIS.out.chs.1 x (by simpa using hx)
    simp only [okOne, Bool.and_eq_true, decide_eq_true_eq] at this
    simp only [Int.natCast_zero]
    omega), HR1, HN1, HX1⟩
  case round =>
    obtain ⟨k, j, p, m, c, rfl, rfl, hk, hj, HRest, HLo, HHi, HRows, HNow, HX⟩ := hrel
    by_cases hks : k < L + 1
    · have hk' : (k : Int) < (L : Int) + 1 := by omega
      have HLo1 := Lib.hid (fun x hx => Int.le_of_lt (HLo.out x hx))
      go_wp2_with fail
      go_loopw [8] (fun v wr => ∃ (j : Nat) (p : Option Addr) (m c : Nat), v = .slice p m c ∧ j ≤ xc.length ∧ Hid (Rest W xc j p m c) ∧ Hid (∀ x ∈ xc.take j, x.t ≤ (k : Int)) ∧ Hid (∀ x ∈ xc.drop j, (k : Int) ≤ x.t) ∧ Hid (RowsAt wr (W2.heap.size + 1) W2.heap.size xn.length (L + 1) ((List.range k).map (rowF xn.length xc))) ∧ Hid (NowAt wr (W2.heap.size + 1) xn.length (nowF xc j)) ∧ Hid (Below W.heap.size W wr)) (fun v _ => match v with | .slice _ m _ => m | _ => 0)
      case atStart => exact ⟨j, p, m, c, rfl, hj, HRest, HLo1, HHi, HRows, HNow, HX⟩
      case round =>
        clear HRest HLo HHi HRows HNow HX HLo1 hj
        obtain ⟨j, p, m, c, rfl, hj, HRest, HLo, HHi, HRows, HNow, HX⟩ := hrel
        obtain ⟨hmj, hmc, hp⟩ := HRest.out
        by_cases hm0 : 0 < m
        · have hjl : j < xc.length := by omega
          obtain ⟨b, off, rfl, hb, hcs⟩ := hp hm0
          obtain ⟨x0, x1, x2⟩ := chg_at (w := wr) (fun q hq => (HX.out.cell (p := ⟨b, off + q, none⟩) hb).trans (hcs q hq)) j hjl
          have hok := HIS.out.chs.1 _ (List.getElem_mem hjl)
          have hns := fun s => nowF_succ hjl s
          have hgt := fun h => drop_gt (t := (k : Int)) HIS.out.chs.2 hjl h
          have hlo := HHi.out xc[j] (by rw [List.drop_eq_getElem_cons hjl]; exact List.mem_cons_self)
          have htk : ∀ x ∈ xc.take (j + 1), x = xc[j] ∨ x ∈ xc.take j := fun x hx => by
            rw [List.take_succ_eq_append_getElem hjl] at hx
            rcases List.mem_append.1 hx with h | h
            · exact .inr h
            · exact .inl (List.mem_singleton.1 h)
          have hdr : ∀ x ∈ xc.drop (j + 1), x ∈ xc.drop j := fun x hx => by
            rw [List.drop_eq_getElem_cons hjl]
            exact List.mem_cons_of_mem _ hx
          generalize xc[j] = ch at *
          obtain ⟨t, g, v⟩ := ch
          simp only at x0 x1 x2 hns hgt hlo htk
          simp only [okOne, Bool.and_eq_true, decide_eq_true_eq] at hok
          obtain ⟨⟨⟨⟨ht0, ht1⟩, hg0⟩, hg1⟩, hvm⟩ := hok
          obtain ⟨G, rfl⟩ : ∃ G : Nat, g = (G : Int) := ⟨g.toNat, by omega⟩
          have hGn : G < xn.length := by omega
          have hm0' : (0 : Int) < (m : Int) := by omega
          have HNS := Lib.hid hns
          have HGT := Lib.hid hgt
          have HTK := Lib.hid htk
          have HDR := Lib.hid hdr
          have HCS := Lib.hid hcs
          clear hns hgt htk hdr hcs hp hvm
          by_cases htk : t = (k : Int)
          · subst htk
            obtain ⟨n0, n1⟩ := HNow.out.cell hGn
            have hG0 : (0 : Int) ≤ (G : Int) := by omega
            have hG1 : (G : Int) < (xn.length : Int) := by omega
            have HRows1 := Lib.hid (fun q => RowsAt.now (w := wr.drewN q) (show RowsAt (wr.drewN q) (W2.heap.size + 1) W2.heap.size xn.length (L + 1) ((List.range k).map (rowF xn.length xc)) from HRows.out) HNE.out G (.int .u64 v))
            have HNow1 := Lib.hid (fun q => NowAt.set (f' := nowF xc (j + 1)) (HNow.out.drewN q) hGn (v := v) (fun s _ => by
              rw [HNS.out s]
              by_cases h : s = G
              · rw [if_pos h, if_pos (by rw [h])]
              · rw [if_neg h, if_neg (by omega)]))
            have HX1 := Lib.hid (fun q => (below_drewN HX.out q).setCell (p := ⟨W2.heap.size + 1, G, none⟩) (Nat.le_of_lt (Nat.lt_succ_of_lt HS2.out)) (.int .u64 v))
            have HLo1 : Hid (∀ x ∈ xc.take (j + 1), x.t ≤ (k : Int)) := Lib.hid (fun x hx => by
              rcases HTK.out x hx with h | h
              · rw [h]; exact Int.le_refl _
              · exact HLo.out x h)
            have HHi1 : Hid (∀ x ∈ xc.drop (j + 1), (k : Int) ≤ x.t) := Lib.hid (fun x hx => HHi.out x (HDR.out x hx))
            have hm1 : (1 : Int) ≤ (m : Int) := by omega
            have hmc' : (m : Int) ≤ (c : Int) := by omega
            have hc1 : (1 : Int) ≤ (c : Int) := by omega
            go_wp2_with fail
            refine wp_region_reads_tail 10 (by kernel_rfl) (by kernel_rfl) ?_
            simp only [List.take_succ_cons, List.take_zero, List.drop_succ_cons, List.drop_zero]
            repeat (quiet_step (fail))
            refine wpQuiet_nil ?_
            intro _ hw'
            obtain ⟨nq, hw''⟩ := hw'
            subst hw''
            go_wp2_with fail
            have HRest1 : Hid (Rest W xc (j + 1) (if c = 1 then some ⟨b, off + j * 3, none⟩ else some ⟨b, off + j * 3 + 3, none⟩) (m - 1) (c - 1)) := Lib.hid ⟨by omega, by omega, fun h => ⟨b, off, by rw [if_neg (by omega), Nat.succ_mul, Nat.add_assoc], hb, HCS.out⟩⟩
            go_roundw
            case rel => exact ⟨j + 1, _, m - 1, c - 1, rfl, by omega, HRest1, HLo1, HHi1, HRows1.out nq, HNow1.out nq, HX1.out nq⟩
            case measure => simp; omega
          · have htk' : ((t : Int) == (k : Int)) = false := by simpa using htk
            have HGt := Lib.hid (HGT.out (by omega))
            have HRw := Lib.hid (row_now (n := xn.length) HLo.out HGt.out)
            have hcl : Slc wr 1 (.slice (some ⟨W2.heap.size + 1, 0, none⟩) xn.length xn.length) xn.length ((rowF xn.length xc k).map u64V) := by
              obtain ⟨cur, h1, h2⟩ := HNow.out
              refine ⟨by simp [rowF], .inr ⟨W2.heap.size + 1, 0, xn.length, rfl, (Array.getElem?_eq_some_iff.1 h1).1, fun q hq => ?_⟩⟩
              rw [Nat.zero_add, cell_of_row wr _ q cur _ (0, 0) h1, h2 q (by omega), HRw.out]
              simp [show q < xn.length by omega, u64V]
            have HCl := Lib.hid (cloneU64_any _ _ _ wr hcl (by simp [u64V, Value.oneCell']) (by omega))
            have hk0 : (0 : Int) ≤ (k : Int) := by omega
            have HLo2 : Hid (∀ x ∈ xc.take j, x.t < ((k + 1 : Nat) : Int)) := Lib.hid (fun x hx => (show x.t < ((k + 1 : Nat) : Int) by have := HLo.out x hx; omega))
            have HHi2 : Hid (∀ x ∈ xc.drop j, ((k + 1 : Nat) : Int) ≤ x.t) := Lib.hid (fun x hx => (show ((k + 1 : Nat) : Int) ≤ x.t by have := HGt.out x hx; omega))
            clear hcl
            go_wp2_with fail
            refine HCl.out.mono ?_
            rintro e W5 ⟨⟨v5, rfl, ho5⟩, hb5⟩
            obtain ⟨q5, c5, rfl⟩ := row_form ho5
            have hro := HRows.out.later hb5
            have hnow5 : NowAt W5 (W2.heap.size + 1) xn.length (nowF xc j) := by
              obtain ⟨cur, h1, h2⟩ := HNow.out
              exact ⟨cur, (hb5.block _ HNow.out.lt).trans h1, h2⟩
            obtain ⟨⟨y5, r5⟩, g5⟩ := hro.cell (k := k) (by omega)
            have hlk : ((List.range k).map (rowF xn.length xc)).length = k := by simp
            have hput := hro.put (by rw [hlk]; omega) (r := rowF xn.length xc k) (by simp [rowF]) (row_base ho5 (show W2.heap.size + 1 + 1 ≤ _ from HNow.out.lt))
            rw [hlk, show (List.range k).map (rowF xn.length xc) ++ [rowF xn.length xc k] = (List.range (k + 1)).map (rowF xn.length xc) by simp [List.range_succ]] at hput
            have HPut := Lib.hid hput
            have HNow5 : Hid (NowAt (W5.setCell ⟨W2.heap.size, k, none⟩ (.slice q5 xn.length c5)) (W2.heap.size + 1) xn.length (nowF xc j)) := Lib.hid (by
              obtain ⟨cur, h1, h2⟩ := hnow5
              exact ⟨cur, (Below.heap_setCell W5 ⟨W2.heap.size, k, none⟩ _ _ (by simp)).trans h1, h2⟩)
            have HX5 := Lib.hid ((HX.out.trans (hb5.mono HX.out.size)).setCell (p := ⟨W2.heap.size, k, none⟩) (Nat.le_of_lt HS2.out) (.slice q5 xn.length c5))
            clear hput hnow5 hro ho5 hb5
            go_wp2_with fail
            go_roundw
            case rel => exact ⟨k + 1, j, _, m, c, by go_num, rfl, by omega, hj, HRest, HLo2, HHi2, HPut, HNow5, HX5⟩
            case measure => simp [intOf]; omega
        · obtain rfl : m = 0 := by omega
          obtain rfl : j = xc.length := by omega
          have HGt : Hid (∀ x ∈ xc.drop xc.length, (k : Int) < x.t) := Lib.hid (by simp)
          have hm0' : ¬ (0 : Int) < ((0 : Nat) : Int) := by simp
          have HRw := Lib.hid (row_now (n := xn.length) HLo.out HGt.out)
          have hcl : Slc wr 1 (.slice (some ⟨W2.heap.size + 1, 0, none⟩) xn.length xn.length) xn.length ((rowF xn.length xc k).map u64V) := by
            obtain ⟨cur, h1, h2⟩ := HNow.out
            refine ⟨by simp [rowF], .inr ⟨W2.heap.size + 1, 0, xn.length, rfl, (Array.getElem?_eq_some_iff.1 h1).1, fun q hq => ?_⟩⟩
            rw [Nat.zero_add, cell_of_row wr _ q cur _ (0, 0) h1, h2 q (by omega), HRw.out]
            simp [show q < xn.length by omega, u64V]
          have HCl := Lib.hid (cloneU64_any _ _ _ wr hcl (by simp [u64V, Value.oneCell']) (by omega))
          have hk0 : (0 : Int) ≤ (k : Int) := by omega
          have HLo2 : Hid (∀ x ∈ xc.take xc.length, x.t < ((k + 1 : Nat) : Int)) := Lib.hid (fun x hx => (show x.t < ((k + 1 : Nat) : Int) by have := HLo.out x hx; omega))
          have HHi2 : Hid (∀ x ∈ xc.drop xc.length, ((k + 1 : Nat) : Int) ≤ x.t) := Lib.hid (fun x hx => (show ((k + 1 : Nat) : Int) ≤ x.t by have := HGt.out x hx; omega))
          clear hcl
          go_wp2_with fail
          refine HCl.out.mono ?_
          rintro e W5 ⟨⟨v5, rfl, ho5⟩, hb5⟩
          obtain ⟨q5, c5, rfl⟩ := row_form ho5
          have hro := HRows.out.later hb5
          have hnow5 : NowAt W5 (W2.heap.size + 1) xn.length (nowF xc xc.length) := by
            obtain ⟨cur, h1, h2⟩ := HNow.out
            exact ⟨cur, (hb5.block _ HNow.out.lt).trans h1, h2⟩
          obtain ⟨⟨y5, r5⟩, g5⟩ := hro.cell (k := k) (by omega)
          have hlk : ((List.range k).map (rowF xn.length xc)).length = k := by simp
          have hput := hro.put (by rw [hlk]; omega) (r := rowF xn.length xc k) (by simp [rowF]) (row_base ho5 (show W2.heap.size + 1 + 1 ≤ _ from HNow.out.lt))
          rw [hlk, show (List.range k).map (rowF xn.length xc) ++ [rowF xn.length xc k] = (List.range (k + 1)).map (rowF xn.length xc) by simp [List.range_succ]] at hput
          have HPut := Lib.hid hput
          have HNow5 : Hid (NowAt (W5.setCell ⟨W2.heap.size, k, none⟩ (.slice q5 xn.length c5)) (W2.heap.size + 1) xn.length (nowF xc xc.length)) := Lib.hid (by
            obtain ⟨cur, h1, h2⟩ := hnow5
            exact ⟨cur, (Below.heap_setCell W5 ⟨W2.heap.size, k, none⟩ _ _ (by simp)).trans h1, h2⟩)
          have HX5 := Lib.hid ((HX.out.trans (hb5.mono HX.out.size)).setCell (p := ⟨W2.heap.size, k, none⟩) (Nat.le_of_lt HS2.out) (.slice q5 xn.length c5))
          clear hput hnow5 hro ho5 hb5
          go_wp2_with fail
          go_roundw
          case rel => exact ⟨k + 1, xc.length, p, 0, c, by go_num, rfl, by omega, Nat.le_refl _, HRest, HLo2, HHi2, HPut, HNow5, HX5⟩
          case measure => simp [intOf]; omega
    · obtain rfl : k = L + 1 := by omega
      have HRw := Lib.hid (HRows.out.rws (by simp))
      go_wp2_with fail
      go_ret2
      refine HGood.out _ _ _ HPE.out rfl ?_ HX.out
      rw [rowsOf_at, Int.toNat_natCast]
      exact HRw.out

end Go.Proofs.YtephnfhjobkciaaGreatDoor

/- A text's number: the program. -/
namespace Go.Proofs.Wav
open Go.Proofs.Scn
set_option linter.unusedVariables false
set_option linter.unusedSimpArgs false
theorem fold_ge : ∀ (l : Ln) (a : Nat), a ≤ l.foldl (fun v c => v * 10 + figV c) a
  | [], a => Nat.le_refl _
  | c :: l, a => Nat.le_trans (by omega) (fold_ge l (a * 10 + figV c))
theorem pu_ok : ∀ (l : Ln) (a : Nat), (∀ c ∈ l, isDigit c = true) → l.foldl (fun v c => v * 10 + figV c) a < 18446744073709551616 → Go.Lib.parseUint10 a l = .ok (l.foldl (fun v c => v * 10 + figV c) a)
  | [], a, _, _ => rfl
  | c :: l, a, hd, h => by
    have hc := hd c List.mem_cons_self
    have hf : 48 ≤ c.toNat ∧ c.toNat ≤ 57 ∧ figV c = c.toNat - 48 := by
      unfold isDigit at hc
      rw [Bool.and_eq_true, decide_eq_true_eq, decide_eq_true_eq] at hc
      exact ⟨hc.1, hc.2, (fig_dig hc.1 hc.2).2⟩
    rw [List.foldl_cons] at h ⊢
    have hge := fold_ge l (a * 10 + figV c)
    rw [Go.Lib.parseUint10, if_pos ⟨hf.1, hf.2.1⟩, ← hf.2.2, if_neg (by omega), if_neg (by omega)]
    exact pu_ok l _ (fun x hx => hd x (List.mem_cons_of_mem _ hx)) h
theorem atoi_dec {n : Nat} (h : n < 9223372036854775808) : Go.Lib.atoiAll (dec n) = .ok n := by
  have hd := dec_mem n
  have hv := dec_val n
  have hne := dec_ne n
  cases hl : dec n with
  | nil => exact absurd hl hne
  | cons c r =>
    rw [hl] at hd hv
    have hc := hd c List.mem_cons_self
    unfold isDigit at hc
    rw [Bool.and_eq_true, decide_eq_true_eq, decide_eq_true_eq] at hc
    have h1 : ¬ (c.toNat = 43 ∨ c.toNat = 45) := by omega
    have h2 : ¬ c.toNat = 45 := by omega
    have hp : Go.Lib.parseMag (c :: r) = .ok n := by
      unfold Go.Lib.parseMag
      rw [if_neg (by simp)]
      have := pu_ok (c :: r) 0 hd (by have : numV 10 (c :: r) = n := hv; unfold numV at this; omega)
      rw [this]
      have : numV 10 (c :: r) = n := hv
      unfold numV at this
      rw [this]
    unfold Go.Lib.atoiAll
    simp only [if_neg h1, hp]
    rw [if_neg (by omega), if_neg (by omega), if_neg h2]
theorem numP_some {s : Ln} {n : Nat} (h : numP s = some n) : n < 9223372036854775808 ∧ s = dec n := by
  unfold numP at h
  split at h
  · rename_i h1
    cases h
    exact h1
  · cases h
theorem numP_bad {s : Ln} (h : ∀ n : Nat, Go.Lib.atoiAll s ≠ .ok n) : numP s = none := by
  cases hn : numP s with
  | none => rfl
  | some n =>
    obtain ⟨h1, h2⟩ := numP_some hn
    exact absurd (by rw [h2]; exact atoi_dec h1) (h n)
theorem numP_ok {s : Ln} {v : Nat} (h : Go.Lib.atoiAll s = .ok v) (hv : v < 9223372036854775808) : numP s = if dec v = s then some v else none := by
  by_cases he : dec v = s
  · rw [if_pos he, ← he, numP_dec hv]
  · rw [if_neg he]
    cases hn : numP s with
    | none => rfl
    | some n =>
      obtain ⟨h1, h2⟩ := numP_some hn
      rw [h2, atoi_dec h1] at h
      simp only [Go.Lib.NumEnd.ok.injEq] at h
      have : n = v := by omega
      subst this
      exact absurd h2.symm he
end Go.Proofs.Wav
namespace Go.Proofs.YtephnfhjobkciaaGreatDoor
open Go.RowKit Go.Proofs.Wav Go.Proofs.Scn Go.Flow Go.Sort
set_option linter.unusedVariables false
set_option linter.unusedSimpArgs false
set_option maxRecDepth 100000

def NumPost (s : Ln) (W : World) (e : Ending) (W' : World) : Prop :=
  (∃ n : Int, -9223372036854775808 ≤ n ∧ n ≤ 9223372036854775807 ∧ e = .returned (.tuple #[.int .i64 n, .bool (numP s).isSome]) ∧ ∀ m, numP s = some m → n = m) ∧ Below W.heap.size W W'

set_option maxHeartbeats 4000000 in
theorem number_any (s : Ln) (hs : s.length ≤ 100000) (W : World) (hB : Base W) :
    Calls Tryz.prog 48 #[.string (bs s)] W (NumPost s W) := by
  have hbnd := fun v h => @Go.Lib.atoiAll_bounds s v h
  cases ha : Go.Lib.atoiAll s with
  | ok v =>
    have HA := Lib.hid (Tryz.strconv_Atoi_ok (bs s) (by rw [size_bs]; omega) v ha W)
    have hv := hbnd v ha
    by_cases h0 : 0 ≤ v
    · obtain ⟨n, rfl⟩ : ∃ n : Nat, v = (n : Int) := ⟨v.toNat, by omega⟩
      have hn := numP_ok ha (by omega)
      have HI := Lib.hid (fun w (hb : Below W.heap.size W w) => itoa_any n (by omega) w (hB.later hb))
      have heq : ((bs (dec n)).toList == (bs s).toList) = decide (dec n = s) := by
        rw [toL, toL]
        by_cases h : dec n = s
        · simp [h]
        · simp [h]
      have HN := Lib.hid hn
      clear hn ha hbnd hB
      go_enter Tryz.func48, Tryz.ntmps48
      go_wp2_with fail
      refine HA.out.mono ?_
      rintro e w' ⟨rfl, hw'⟩
      have hb : Below W.heap.size W w' := by
        rcases hw' with rfl | ⟨t, rfl⟩
        · exact Below.refl _ _
        · exact Joins.below_bytesWorld _ _ _ _ (Nat.le_refl _)
      clear hw'
      have HB := Lib.hid hb
      clear hb
      go_wp2_with fail
      refine (HI.out _ HB.out).mono ?_
      rintro e w2 ⟨rfl, hb2⟩
      have HB2 := Lib.hid (HB.out.trans (hb2.mono HB.out.size))
      clear hb2
      go_wp2_with fail
      go_ret2
      refine ⟨⟨n, hv.1, hv.2, ?_, fun m hm => ?_⟩, HB2.out⟩
      · have : (numP s).isSome = decide (dec n = s) := by
          rw [HN.out]
          by_cases h : dec n = s
          · simp [h]
          · simp [h]
        rw [this]
        rfl
      · rw [HN.out] at hm
        split at hm
        · cases hm; rfl
        · cases hm
    · have hn : numP s = none := numP_bad fun n h => by
        rw [ha] at h
        simp only [Go.Lib.NumEnd.ok.injEq] at h
        omega
      have h0' : decide (0 ≤ v) = false := decide_eq_false h0
      have HN := Lib.hid hn
      clear hn ha hbnd hB
      go_enter Tryz.func48, Tryz.ntmps48
      go_wp2_with fail
      refine HA.out.mono ?_
      rintro e w' ⟨rfl, hw'⟩
      have hb : Below W.heap.size W w' := by
        rcases hw' with rfl | ⟨t, rfl⟩
        · exact Below.refl _ _
        · exact Joins.below_bytesWorld _ _ _ _ (Nat.le_refl _)
      clear hw'
      have HB := Lib.hid hb
      clear hb
      go_wp2_with fail
      go_ret2
      exact ⟨⟨v, hv.1, hv.2, by rw [HN.out]; rfl, fun m hm => by rw [HN.out] at hm; cases hm⟩, HB.out⟩
  | range =>
    obtain ⟨tp, p, hsyn⟩ := hB.rng
    have HA := Lib.hid (Tryz.strconv_Atoi_range (bs s) (by rw [size_bs]; omega) ha _ W hsyn (.inr ⟨tp, p, rfl⟩))
    have hn : numP s = none := numP_bad fun n h => by rw [ha] at h; cases h
    have HN := Lib.hid hn
    have hsat : -9223372036854775808 ≤ Go.Lib.atoiSat s ∧ Go.Lib.atoiSat s ≤ 9223372036854775807 := by
      unfold Go.Lib.atoiSat
      split <;> omega
    rw [list_bs] at HA
    generalize Go.Lib.atoiSat s = v at *
    clear hn ha hbnd hB hsyn
    go_enter Tryz.func48, Tryz.ntmps48
    go_wp2_with fail
    refine HA.out.mono ?_
    rintro e w' ⟨N, rfl, _, _, hb⟩
    have HB := Lib.hid hb
    clear hb
    go_wp2_with fail
    go_ret2
    exact ⟨⟨v, hsat.1, hsat.2, by rw [HN.out]; rfl, fun m hm => by rw [HN.out] at hm; cases hm⟩, HB.out⟩
  | _ =>
    obtain ⟨tp, p, hsyn⟩ := hB.syn
    have HA := Lib.hid (Tryz.strconv_Atoi_syntax (bs s) (by rw [size_bs]; omega) ha _ W hsyn (.inr ⟨tp, p, rfl⟩))
    have hn : numP s = none := numP_bad fun n h => by rw [ha] at h; cases h
    have HN := Lib.hid hn
    clear hn ha hbnd hB hsyn
    go_enter Tryz.func48, Tryz.ntmps48
    go_wp2_with fail
    refine HA.out.mono ?_
    rintro e w' ⟨N, rfl, _, _, hb⟩
    have HB := Lib.hid hb
    clear hb
    go_wp2_with fail
    go_ret2
    exact ⟨⟨0, by omega, by omega, by rw [HN.out]; rfl, fun m hm => by rw [HN.out] at hm; cases hm⟩, HB.out⟩

end Go.Proofs.YtephnfhjobkciaaGreatDoor

/- A text's binary number: strconv.ParseUint at base 2. -/
namespace Go.Proofs.Wav
open Go.Proofs.Scn
set_option linter.unusedVariables false
set_option linter.unusedSimpArgs false
theorem fold2_ge : ∀ (l : Ln) (a : Nat), a ≤ l.foldl (fun v c => v * 2 + figV c) a
  | [], a => Nat.le_refl _
  | c :: l, a => Nat.le_trans (by omega) (fold2_ge l (a * 2 + figV c))
theorem num2_take {s : Ln} {k : Nat} (hk : k < s.length) : numV 2 (s.take (k + 1)) = numV 2 (s.take k) * 2 + figV s[k] := by
  rw [List.take_succ_eq_append_getElem hk, numV_append]
theorem num2_ge {s : Ln} {k : Nat} (hk : k < s.length) : numV 2 (s.take k) * 2 ≤ numV 2 s := by
  have h1 := num2_take hk
  have h2 : numV 2 s = (s.drop (k + 1)).foldl (fun v c => v * 2 + figV c) (numV 2 (s.take (k + 1))) := by
    conv => lhs; rw [← List.take_append_drop (k + 1) s]
    unfold numV
    rw [List.foldl_append]
  have h3 := fold2_ge (s.drop (k + 1)) (numV 2 (s.take (k + 1)))
  omega
theorem bin2_empty : bin2 [] = none := by
  unfold bin2
  rw [if_neg (by simp)]
theorem bin2_bad {s : Ln} {k : Nat} (hk : k < s.length) (h : twoB s[k] = false) : bin2 s = none := by
  unfold bin2
  rw [if_neg]
  rintro ⟨h1, _⟩
  rw [List.all_eq_true] at h1
  have := h1 _ (List.getElem_mem hk)
  unfold twoB at h
  rw [h] at this
  cases this
theorem bin2_big {s : Ln} {k : Nat} (hk : k < s.length) (h : 9223372036854775808 ≤ numV 2 (s.take k)) : bin2 s = none := by
  unfold bin2
  rw [if_neg]
  rintro ⟨_, _, h3⟩
  have := num2_ge hk
  unfold two64 at h3
  omega
theorem bin2_all {s : Ln} (h0 : s ≠ []) (h : s.all twoB = true) (h2 : numV 2 s < 18446744073709551616) : bin2 s = some (numV 2 s) := by
  unfold bin2
  unfold twoB at h
  rw [if_pos ⟨h, h0, h2⟩]
end Go.Proofs.Wav
namespace Go.Proofs.YtephnfhjobkciaaGreatDoor
open Go.RowKit Go.Proofs.Wav Go.Proofs.Scn Go.Flow Go.Sort
set_option linter.unusedVariables false
set_option linter.unusedSimpArgs false
set_option maxRecDepth 100000

/-- how the inner ParseUint ends -/
def PuIn (s : Ln) (W : World) (e : Ending) (W' : World) : Prop :=
  ((∃ n : Nat, bin2 s = some n ∧ e = .returned (.tuple #[.int .u64 n, .nilIface])) ∨ (bin2 s = none ∧ ∃ (n : Nat) (k : Int), n < 18446744073709551616 ∧ (k = 1 ∨ k = 2) ∧ e = .returned (.tuple #[.int .u64 n, .iface 134 (.int .i64 k)]))) ∧ Below W.heap.size W W'
theorem PuIn.bad {s : Ln} {W W' : World} {e : Ending} (n : Nat) (k : Int) (h : bin2 s = none) (hn : n < 18446744073709551616) (hk : k = 1 ∨ k = 2) (he : e = .returned (.tuple #[.int .u64 n, .iface 134 (.int .i64 k)])) (hb : Below W.heap.size W W') : PuIn s W e W' := ⟨.inr ⟨h, n, k, hn, hk, he⟩, hb⟩
theorem PuIn.good {s : Ln} {W W' : World} {e : Ending} (n : Nat) (h : bin2 s = some n) (he : e = .returned (.tuple #[.int .u64 n, .nilIface])) (hb : Below W.heap.size W W') : PuIn s W e W' := ⟨.inl ⟨n, h, he⟩, hb⟩

set_option maxHeartbeats 16000000 in
theorem pu2_in (s : Ln) (hs : s.length ≤ 100000) (W : World) :
    Calls Tryz.prog 72 #[.string (bs s), .int .i64 2, .int .i64 64] W (PuIn s W) := by
  have hsz : (bs s).size = s.length := rfl
  by_cases h0 : s = []
  · subst h0
    have hb0 : (bs ([] : Ln)).toList = [] := toL []
    go_enter Tryz.func72, Tryz.ntmps72
    go_wp2
    go_ret2
    exact PuIn.bad 0 2 bin2_empty (by omega) (.inr rfl) rfl (Below.refl _ _)
  have hb1 : ((bs s).toList == ([] : List UInt8)) = false := by rw [toL]; cases s with | nil => exact absurd rfl h0 | cons a b => rfl
  have hb2 : (bs s).toList.isEmpty = false := by rw [toL]; cases s with | nil => exact absurd rfl h0 | cons a b => rfl
  have hconv := conv_run (bs s)
  have HBy := Lib.hid (conv_bytes W (bs s) (grownCap W (bs s).size 0 5))
  have HBel := Lib.hid (Joins.below_bytesWorld W.heap.size W 5 (bs s) (Nat.le_refl _))
  have H0 := Lib.hid h0
  have hlow := fun c w => Tryz.internal_strconv_lower c w
  have HLow := Lib.hid hlow
  have hwr : IntKind.u64.wrap (IntKind.u64.wrap 18446744073709551616 - 1) = 18446744073709551615 := by rw [IntKind.wrap_u64, IntKind.wrap_u64]; omega
  clear h0 hlow
  go_enter Tryz.func72, Tryz.ntmps72
  go_wp2_with fail
  generalize hcp : grownCap W (bs s).size 0 5 = cp at *
  clear hcp hconv hwr
  rw [hsz] at HBy
  generalize hWb : Lib.bytesWorld W 5 (bs s) = Wb at *
  clear hWb
  go_loopw [101, 13, 12] (fun i v u wr => ∃ k n : Nat, i = .int .i64 k ∧ v = .int .u64 n ∧ u = .bool false ∧ k ≤ s.length ∧ n < 18446744073709551616 ∧ Hid (n = numV 2 (s.take k)) ∧ Hid ((s.take k).all twoB = true) ∧ wr = Wb) (fun i _ _ _ => s.length - (intOf i).toNat)
  case atStart => exact ⟨0, 0, rfl, rfl, rfl, Nat.zero_le _, by omega, Lib.hid rfl, Lib.hid (by simp), rfl⟩
  case round =>
    obtain ⟨k, n, rfl, rfl, rfl, hk, hn, HV, HA, rfl⟩ := hrel
    by_cases hks : k < s.length
    · have hby := HBy.out
      rcases hby with ⟨he, _⟩ | ⟨b, off, cap, hv, hlt, hc⟩
      · rw [size_bs] at he; omega
      simp only [Value.slice.injEq, Option.some.injEq, Addr.mk.injEq] at hv
      obtain ⟨⟨rfl, rfl, hv1⟩, hv2, rfl⟩ := hv
      clear hv1 hv2
      have xk := hc k hks
      rw [Nat.zero_add] at xk
      have hbad := fun h => bin2_bad hks h
      have hbig := fun h => bin2_big hks h
      have hst := num2_take hks
      have hal := fun h => all_take (p := twoB) hks HA.out h
      have hg : (bs s)[k] = s[k] := rfl
      rw [hg] at xk
      generalize s[k] = c at *
      have hk0 : (0 : Int) ≤ (k : Int) := by omega
      have hk1 : (k : Int) < (s.length : Int) := by omega
      have hc255 : (c.toNat : Int) ≤ 255 := by have := c.toNat_lt; omega
      clear hc hlt hg
      by_cases h1 : c = 48 ∨ c = 49
      · obtain ⟨f, hf2, hcf, hfig⟩ : ∃ f : Nat, f < 2 ∧ (c.toNat : Int) = 48 + f ∧ figV c = f := by
          rcases h1 with rfl | rfl
          · exact ⟨0, by omega, rfl, rfl⟩
          · exact ⟨1, by omega, rfl, rfl⟩
        have hA1 := Lib.hid (hal (by unfold twoB; exact decide_eq_true h1))
        rw [hfig] at hst
        rw [hcf] at xk
        have HST := Lib.hid hst
        have g1 : ¬ (48 + (f : Int)) = 95 := by omega
        have g2 : (48 : Int) ≤ 48 + (f : Int) := by omega
        have g3 : (48 : Int) + (f : Int) ≤ 57 := by omega
        have g4 : (48 + (f : Int) - 48) % 256 = f := by omega
        have g5 : ¬ (2 : Int) ≤ (f : Int) := by omega
        clear hbad hst hal h1 hfig hcf hc255
        by_cases hcut : 9223372036854775808 ≤ n
        · have HB := Lib.hid (hbig (by rw [← HV.out]; exact hcut))
          have hcut' : (9223372036854775808 : Int) ≤ (n : Int) := by omega
          clear hbig hcut
          go_wp2_with fail
          go_ret2
          exact PuIn.bad 18446744073709551615 1 HB.out (by omega) (.inl rfl) rfl HBel.out
        · have hcut' : ¬ (9223372036854775808 : Int) ≤ (n : Int) := by omega
          have HN := Lib.hid (show n * 2 + f = numV 2 (s.take (k + 1)) by rw [HST.out, HV.out])
          have hn2 : n * 2 + f < 18446744073709551616 := by omega
          have e1 : IntKind.u64.wrap ((n : Int) * 2) = (n : Int) * 2 := by rw [IntKind.wrap_u64]; omega
          have e2 : IntKind.u64.wrap ((n : Int) * 2 + (f : Int)) = (n : Int) * 2 + f := by rw [IntKind.wrap_u64]; omega
          have e3 : ¬ (n : Int) * 2 + (f : Int) < (n : Int) * 2 := by omega
          have e4 : ¬ (18446744073709551615 : Int) < (n : Int) * 2 + (f : Int) := by omega
          clear hbig hcut
          go_wp2_with fail
          go_roundw
          case rel => exact ⟨k + 1, n * 2 + f, by go_num, by go_num, rfl, by omega, hn2, HN, hA1, by first | rfl | trivial⟩
          case measure => simp [intOf]; omega
      · have HB := Lib.hid (hbad (by unfold twoB; exact decide_eq_false h1))
        have hne48 : ¬ c.toNat = 48 := fun h => h1 (.inl (by rw [← UInt8.toNat_inj]; exact h))
        have hne49 : ¬ c.toNat = 49 := fun h => h1 (.inr (by rw [← UInt8.toNat_inj]; exact h))
        clear hbad hbig hst hal h1
        generalize c.toNat = z at *
        by_cases hd : 48 ≤ z ∧ z ≤ 57
        · obtain ⟨f, rfl⟩ : ∃ f, z = 48 + f := ⟨z - 48, by omega⟩
          have g0 : ((48 + f : Nat) : Int) = 48 + (f : Int) := by omega
          rw [g0] at xk
          have g1 : ¬ (48 + (f : Int)) = 95 := by omega
          have g2 : (48 : Int) ≤ 48 + (f : Int) := by omega
          have g3 : (48 : Int) + (f : Int) ≤ 57 := by omega
          have g4 : (48 + (f : Int) - 48) % 256 = f := by omega
          have g5 : (2 : Int) ≤ (f : Int) := by omega
          clear hd hne48 hne49 g0
          go_wp2_with fail
          go_ret2
          exact PuIn.bad 0 2 HB.out (by omega) (.inr rfl) rfl HBel.out
        · obtain ⟨lc, hlc⟩ : ∃ lc, bits BinOp.or IntKind.u8 (z : Int) 32 = lc := ⟨_, rfl⟩
          have HLow2 := Lib.hid (fun w => HLow.out (z : Int) w)
          rw [hlc] at HLow2
          clear hlc hne48 hne49
          by_cases d1 : 48 ≤ z
          · have d1' : decide ((48 : Int) ≤ (z : Int)) = true := decide_eq_true (by omega)
            have d2' : decide ((z : Int) ≤ 57) = false := decide_eq_false (by omega)
            by_cases d3 : z = 95
            · have d3' : ((z : Int) == 95) = true := by simp; omega
              clear d3 d1 hd
              by_cases l1 : (97 : Int) ≤ lc
              · have l1' : decide ((97 : Int) ≤ lc) = true := decide_eq_true l1
                by_cases l2 : lc ≤ 122
                · have l2' : decide (lc ≤ 122) = true := decide_eq_true l2
                  have m1 : (lc - 97) % 256 = lc - 97 := by omega
                  have m2 : (lc - 97 + 10) % 256 = lc - 97 + 10 := by omega
                  have m3 : (2 : Int) ≤ lc - 97 + 10 := by omega
                  go_wp2_with (go_at_call 96; refine (HLow2.out _).mono ?_; rintro e w' ⟨rfl, hw'⟩; subst hw')
                  go_ret2
                  exact PuIn.bad 0 2 HB.out (by omega) (.inr rfl) rfl HBel.out
                · have l2' : decide (lc ≤ 122) = false := decide_eq_false l2
                  go_wp2_with (go_at_call 96; refine (HLow2.out _).mono ?_; rintro e w' ⟨rfl, hw'⟩; subst hw')
                  go_ret2
                  exact PuIn.bad 0 2 HB.out (by omega) (.inr rfl) rfl HBel.out
              · have l1' : decide ((97 : Int) ≤ lc) = false := decide_eq_false l1
                go_wp2_with (go_at_call 96; refine (HLow2.out _).mono ?_; rintro e w' ⟨rfl, hw'⟩; subst hw')
                go_ret2
                exact PuIn.bad 0 2 HB.out (by omega) (.inr rfl) rfl HBel.out
            · have d3' : ((z : Int) == 95) = false := by simp; omega
              clear d3 d1 hd
              by_cases l1 : (97 : Int) ≤ lc
              · have l1' : decide ((97 : Int) ≤ lc) = true := decide_eq_true l1
                by_cases l2 : lc ≤ 122
                · have l2' : decide (lc ≤ 122) = true := decide_eq_true l2
                  have m1 : (lc - 97) % 256 = lc - 97 := by omega
                  have m2 : (lc - 97 + 10) % 256 = lc - 97 + 10 := by omega
                  have m3 : (2 : Int) ≤ lc - 97 + 10 := by omega
                  go_wp2_with (go_at_call 96; refine (HLow2.out _).mono ?_; rintro e w' ⟨rfl, hw'⟩; subst hw')
                  go_ret2
                  exact PuIn.bad 0 2 HB.out (by omega) (.inr rfl) rfl HBel.out
                · have l2' : decide (lc ≤ 122) = false := decide_eq_false l2
                  go_wp2_with (go_at_call 96; refine (HLow2.out _).mono ?_; rintro e w' ⟨rfl, hw'⟩; subst hw')
                  go_ret2
                  exact PuIn.bad 0 2 HB.out (by omega) (.inr rfl) rfl HBel.out
              · have l1' : decide ((97 : Int) ≤ lc) = false := decide_eq_false l1
                go_wp2_with (go_at_call 96; refine (HLow2.out _).mono ?_; rintro e w' ⟨rfl, hw'⟩; subst hw')
                go_ret2
                exact PuIn.bad 0 2 HB.out (by omega) (.inr rfl) rfl HBel.out
          · have d1' : decide ((48 : Int) ≤ (z : Int)) = false := decide_eq_false (by omega)
            have d3' : ((z : Int) == 95) = false := by simp; omega
            clear d1 hd
            by_cases l1 : (97 : Int) ≤ lc
            · have l1' : decide ((97 : Int) ≤ lc) = true := decide_eq_true l1
              by_cases l2 : lc ≤ 122
              · have l2' : decide (lc ≤ 122) = true := decide_eq_true l2
                have m1 : (lc - 97) % 256 = lc - 97 := by omega
                have m2 : (lc - 97 + 10) % 256 = lc - 97 + 10 := by omega
                have m3 : (2 : Int) ≤ lc - 97 + 10 := by omega
                go_wp2_with (go_at_call 96; refine (HLow2.out _).mono ?_; rintro e w' ⟨rfl, hw'⟩; subst hw')
                go_ret2
                exact PuIn.bad 0 2 HB.out (by omega) (.inr rfl) rfl HBel.out
              · have l2' : decide (lc ≤ 122) = false := decide_eq_false l2
                go_wp2_with (go_at_call 96; refine (HLow2.out _).mono ?_; rintro e w' ⟨rfl, hw'⟩; subst hw')
                go_ret2
                exact PuIn.bad 0 2 HB.out (by omega) (.inr rfl) rfl HBel.out
            · have l1' : decide ((97 : Int) ≤ lc) = false := decide_eq_false l1
              go_wp2_with (go_at_call 96; refine (HLow2.out _).mono ?_; rintro e w' ⟨rfl, hw'⟩; subst hw')
              go_ret2
              exact PuIn.bad 0 2 HB.out (by omega) (.inr rfl) rfl HBel.out
    · obtain rfl : k = s.length := by omega
      have hV := HV.out
      have hA := HA.out
      rw [List.take_length] at hV hA
      have HG := Lib.hid (show bin2 s = some n by rw [hV]; exact bin2_all H0.out hA (by rw [← hV]; exact hn))
      clear hV hA
      go_wp2_with fail
      go_ret2
      exact PuIn.good n HG.out rfl HBel.out

/-- how ParseUint ends -/
def PuPost (s : Ln) (W : World) (e : Ending) (W' : World) : Prop :=
  ((∃ n : Nat, bin2 s = some n ∧ e = .returned (.tuple #[.int .u64 n, .nilIface])) ∨ (bin2 s = none ∧ ∃ (n : Nat) (b : Nat), n < 18446744073709551616 ∧ e = .returned (.tuple #[.int .u64 n, .iface 136 (.pointer (some ⟨b, 0, none⟩))]))) ∧ Below W.heap.size W W'

set_option maxHeartbeats 4000000 in
theorem pu2_any (s : Ln) (hs : s.length ≤ 100000) (W : World) (hB : Base W) :
    Calls Tryz.prog 50 #[.string (bs s), .int .i64 2, .int .i64 64] W (PuPost s W) := by
  obtain ⟨ts, ps, hsyn⟩ := hB.syn
  obtain ⟨tr, pr, hrng⟩ := hB.rng
  have HP := Lib.hid (pu2_in s hs W)
  have HE2 := Lib.hid (fun w (hb : Below W.heap.size W w) => Tryz.strconv_toError_syntax ⟨#[80, 97, 114, 115, 101, 85, 105, 110, 116]⟩ (bs s) 2 64 _ w (by rw [size_bs]; omega) ((hb.cell (World.block_lt_of_cell? W _ hsyn)).trans hsyn) (.inr ⟨ts, ps, rfl⟩))
  have HE1 := Lib.hid (fun w (hb : Below W.heap.size W w) => Tryz.strconv_toError_range ⟨#[80, 97, 114, 115, 101, 85, 105, 110, 116]⟩ (bs s) 2 64 _ w (by rw [size_bs]; omega) ((hb.cell (World.block_lt_of_cell? W _ hrng)).trans hrng) (.inr ⟨tr, pr, rfl⟩))
  clear hsyn hrng hB
  go_enter Tryz.func50, Tryz.ntmps50
  go_wp2_with fail
  refine HP.out.mono ?_
  rintro e w' ⟨⟨n, hn, rfl⟩ | ⟨hn, n, k, hlt, rfl | rfl, rfl⟩, hb⟩
  · have HN := Lib.hid hn
    have HB := Lib.hid hb
    clear hn hb
    go_wp2_with fail
    go_ret2
    exact ⟨.inl ⟨n, HN.out, rfl⟩, HB.out⟩
  · have HN := Lib.hid hn
    have HB := Lib.hid hb
    clear hn hb
    go_wp2_with fail
    refine (HE1.out _ HB.out).mono ?_
    rintro e w2 ⟨N, rfl, _, _, hb2⟩
    have HB2 := Lib.hid (HB.out.trans (hb2.mono HB.out.size))
    clear hb2
    go_wp2_with fail
    go_ret2
    exact ⟨.inr ⟨HN.out, n, N, hlt, rfl⟩, HB2.out⟩
  · have HN := Lib.hid hn
    have HB := Lib.hid hb
    clear hn hb
    go_wp2_with fail
    refine (HE2.out _ HB.out).mono ?_
    rintro e w2 ⟨N, rfl, _, _, hb2⟩
    have HB2 := Lib.hid (HB.out.trans (hb2.mono HB.out.size))
    clear hb2
    go_wp2_with fail
    go_ret2
    exact ⟨.inr ⟨HN.out, n, N, hlt, rfl⟩, HB2.out⟩

end Go.Proofs.YtephnfhjobkciaaGreatDoor

/- A range over a function whose iterator turns blocks of its own: an adapter's law. -/
namespace Go.Proofs.Wav
open Go Go.RowKit
set_option linter.unusedVariables false
variable {F : Fence} {n : Nat} {P : Program}

/-- a block that the iterator may turn: one that T names, or one that it has laid itself -/
def Turns (T : Nat → Prop) (B C r : Nat) : Prop := T r ∨ (B ≤ r ∧ r < C)
def Lets {β : Type} (T : Nat → Prop) (B C : Nat) (J : β → World → Prop) : Prop :=
  ∀ s W W' row, J s W → W.grownBy W' row → (∀ r, row = some r → Turns T B C r) → J s W'
/-- what a round leaves as it lay -/
structure Stays (T : Nat → Prop) (B C : Nat) (W W' : World) : Prop where
  size : W.heap.size ≤ W'.heap.size
  same : ∀ r, Turns T B C r → r < W.heap.size → W'.heap[r]? = W.heap[r]?
theorem Stays.refl (T : Nat → Prop) (B C : Nat) (W : World) : Stays T B C W W := ⟨Nat.le_refl _, fun _ _ _ => rfl⟩
theorem Stays.trans {T : Nat → Prop} {B C : Nat} {X Y Z : World} (h : Stays T B C X Y) (k : Stays T B C Y Z) : Stays T B C X Z :=
  ⟨Nat.le_trans h.size k.size, fun r hr hl => (k.same r hr (Nat.lt_of_lt_of_le hl h.size)).trans (h.same r hr hl)⟩
theorem Stays.of {T : Nat → Prop} {B C : Nat} {W W' : World} {row : Option Nat} (hg : W.grownBy W' row) (hr : ∀ r, row = some r → ¬ Turns T B C r) : Stays T B C W W' :=
  ⟨hg.size, fun r ht hl => hg.block r hl (fun e => hr r e.symm ht)⟩
theorem Stays.less {T T' : Nat → Prop} {B B' C : Nat} {W W' : World} (h : Stays T B C W W') (hs : ∀ r, Turns T' B' C r → Turns T B C r) : Stays T' B' C W W' :=
  ⟨h.size, fun r hr hl => h.same r (hs r hr) hl⟩
theorem Lets.put {β : Type} {T : Nat → Prop} {B C : Nat} {J : β → World → Prop} (h : Lets T B C J) {s : β} {W : World} {l : Nat} (o : Obj) (hs : J s W) (hl : Turns T B C l) : J s (W.putObj l o) :=
  h s W _ (some l) hs (grownBy_putObj' W l o) (fun r e => by cases e; exact hl)
theorem Lets.cell {β : Type} {T : Nat → Prop} {B C : Nat} {J : β → World → Prop} (h : Lets T B C J) {s : β} {W : World} {l : Nat} (v : Value) (hs : J s W) (hl : Turns T B C l) : J s (W.setCell ⟨l, 0, none⟩ v) :=
  h s W _ (some l) hs (grownBy_setCell' W l v) (fun r e => by cases e; exact hl)

/-- the contract of such an iterator -/
def SeqWall {α : Type} (F : Fence) (n : Nat) (P : Program) (g : Nat) (lb : Array Value) (encs : α → Array Value) (T : Nat → Prop) (G : α → World → Prop) (Nd : World → Prop) (S Sp : List α → Prop) (N : Nat) (w : World) : Prop :=
  ∀ (l : Nat) (J Jx : Nat → List α → World → Prop) (W : World), Below w.heap.size w W →
    (∀ C, W.heap.size ≤ C → Lets T W.heap.size C (J C)) → (∀ C, W.heap.size ≤ C → Lets T W.heap.size C (Jx C)) →
    (∀ C pre W1, J C pre W1 → Nd W1) → (∀ C W', W.heap.size ≤ C → C ≤ W'.heap.size → Below W.heap.size W W' → J C [] W') →
    (∀ C pre x W1, W.heap.size ≤ C → C ≤ W1.heap.size → J C pre W1 → G x W1 → pre.length < N → YieldAt F (n - 1) P l (encs x) W1 fun e W' =>
      (e = .returned (.bool true) ∧ J C (pre ++ [x]) W' ∧ Stays T W.heap.size C W1 W') ∨ (e = .returned (.bool false) ∧ Jx C (pre ++ [x]) W' ∧ Stays T W.heap.size C W1 W')) →
    CallsIn F n P g (#[.func (.yield l) #[] #[]] ++ lb) W fun e W' => (∃ v, e = .returned v) ∧ ((∃ C xs, W.heap.size ≤ C ∧ S xs ∧ J C xs W') ∨ (∃ C pre, W.heap.size ≤ C ∧ Sp pre ∧ Jx C pre W'))

/-- how a round's body may be left -/
def wallPost {α : Type} (T : Nat → Prop) (B C : Nat) (I : Nat → List α → World → Prop) (Ix : Code → Nat → List α → World → Prop) (xs : List α) (W : World) : Exit → Act → World → Prop
  | .normal, _, W' => Stays T B C W W' ∧ I C xs W'
  | .ret, _, W' => Stays T B C W W' ∧ Ix .ret C xs W'
  | .exit id, _, W' => Stays T B C W W' ∧ Ix (.exit id) C xs W'
  | .goto t, _, W' => Stays T B C W W' ∧ Ix (.goto t) C xs W'
  | .panic _, _, _ => False
  | .outgrown, _, _ => False

theorem wpIn_rangeFunc_wall {α : Type} {g : Operand} {ps : Array Tmp} {assign body : Code} {Q : Exit → Act → World → Prop} {a : Act} {w : World}
    (hro : F.round = none) (h1 : 1 ≤ n) {gf : Nat} {lb : Array Value} (hg : a.eval g = .func (.func gf) #[] lb) (hFg : F.fn gf) (eg : ∀ args w, (callFunc gf args).run P w = .ok (.enter gf args) w)
    {encs : α → Array Value} {T : Nat → Prop} {G : α → World → Prop} {Nd : World → Prop} {S Sp : List α → Prop} {N : Nat} {w0 : World} (hseq : SeqWall F (n - 1) P gf lb encs T G Nd S Sp N w0)
    (hb0 : Below w0.heap.size w0 w) (hps : ∀ x, (encs x).size = ps.size) (hT : ∀ r, T r → r < w.heap.size)
    (hG : ∀ (x : α) (W : World) (l : Nat) (r : Loop) (o : Obj), W.heap[l]? = some (.loop r) → G x W → G x (W.putObj l o))
    (I : Nat → List α → World → Prop) (Ix : Code → Nat → List α → World → Prop)
    (hI : ∀ C, w.heap.size ≤ C → Lets T w.heap.size C (I C)) (hIx : ∀ c C, w.heap.size ≤ C → Lets T w.heap.size C (Ix c C))
    (hNd : ∀ C pre W, I C pre W → Nd W) (h0 : ∀ C W', w.heap.size + 2 ≤ C → C ≤ W'.heap.size → Below w.heap.size w W' → I C [] W') (a₁ : α → Act)
    (hassign : ∀ (l : Nat) (x : α) (W : World) (K : Act → World → Prop), K (a₁ x) W →
      assign.wpIn (F.inRound l) (n - 1 - 1) P (Exit.then K (fun _ _ _ => False)) { tmps := (ps.zip (encs x)).foldl (fun t (p, v) => t.setIfInBounds p v) a.tmps, defers := [] } W)
    (hbody : ∀ (l C : Nat) (pre : List α) (x : α) (W : World), w.heap.size + 2 ≤ C → C ≤ W.heap.size → I C pre W → G x W → pre.length < N →
      body.wpIn (F.inRound l) (n - 1 - 1) P (wallPost T w.heap.size C I Ix (pre ++ [x]) W) (a₁ x) W)
    (hdone : ∀ (D C : Nat) (xs : List α) (W : World), w.heap.size ≤ D → D < C → S xs → I C xs W → W.heap[D]? = some (.deferred (some [])) → Q .normal { a with defers := { target := .collected D, args := #[] } :: a.defers } W)
    (hstop : ∀ (D C : Nat) (c : Code) (pre : List α) (W : World), w.heap.size ≤ D → D < C → Sp pre → Ix c C pre W → W.heap[D]? = some (.deferred (some [])) → c.wpIn F n P Q { a with defers := { target := .collected D, args := #[] } :: a.defers } W) :
    (Code.rangeFunc g ps assign body).wpIn F n P Q a w := by
  refine wpIn_rangeFunc ?_
  intro fn hfn
  rw [hro]
  obtain ⟨rec, hrec⟩ : ∃ rec : LoopState → Option Code → Loop, rec = fun st pe => { state := st, pending := pe, fn, tmps := a.tmps, params := ps, assign, body, defers := w.heap.size } := ⟨_, rfl⟩
  obtain ⟨W1, hW1⟩ : ∃ W1, (w.alloc (.deferred (some []))).alloc (.loop (rec .ready none)) = W1 := ⟨_, rfl⟩
  obtain ⟨b, hb⟩ : ∃ b, w.heap.size = b := ⟨_, rfl⟩
  have hsz : W1.heap.size = b + 2 := by rw [← hW1, ← hb]; simp
  have hbl : Below w.heap.size w W1 := by rw [← hW1]; exact ((Below.refl _ w).alloc (Nat.le_refl _) _).alloc (by simp) _
  have hL1 : W1.heap[b + 1]? = some (.loop (rec .ready none)) := by
    rw [← hW1, ← hb]; have := World.alloc_heap_new (w.alloc (.deferred (some []))) (.loop (rec .ready none)); rwa [World.size_alloc] at this
  have hD1 : W1.heap[b]? = some (.deferred (some [])) := by
    rw [← hW1, ← hb]; exact (Below.heap_alloc _ _ _ (by simp)).trans (World.alloc_heap_new w _)
  refine ⟨b + 1, [{ target := .collected b, args := #[] }], W1, { target := .fn (.func gf) lb, args := #[.func (.yield (b + 1)) #[] #[]] }, W1, gf, #[.func (.yield (b + 1)) #[] #[]] ++ lb, W1, ?_, ?_, ?_, ?_, fun _ => h1, ?_⟩
  · rw [← hW1, hrec, ← hb]; exact run_enterLoop_outer _ _ _ _ _
  · simp only [resolve, hg]
    simp [go_sem]
  · intro f' hf'; simp [Target.leads] at hf'; subst hf'; exact hFg
  · simp [invoke, go_sem, eg]
  rw [hb] at hI hIx h0 hbody hdone hstop hT hbl
  have tB : ∀ {C r : Nat}, Turns T (b + 2) C r → Turns T b C r := fun h => h.imp id (fun h => ⟨by omega, h.2⟩)
  have tL : ∀ {C : Nat}, b + 2 ≤ C → Turns T b C (b + 1) := fun h => .inr ⟨by omega, by omega⟩
  have tD : ∀ {C : Nat}, b + 2 ≤ C → Turns T b C b := fun h => .inr ⟨by omega, by omega⟩
  have nL : ∀ {C : Nat}, ¬ Turns T (b + 2) C (b + 1) := fun h => h.elim (fun h => by have := hT _ h; omega) (fun h => by omega)
  have nD : ∀ {C : Nat}, ¬ Turns T (b + 2) C b := fun h => h.elim (fun h => by have := hT _ h; omega) (fun h => by omega)
  have hseq' := hseq (b + 1)
    (fun C pre W => I C pre W ∧ W.heap[b + 1]? = some (.loop (rec .ready none)) ∧ W.heap[b]? = some (.deferred (some [])))
    (fun C pre W => ∃ c, Ix c C pre W ∧ W.heap[b + 1]? = some (.loop (rec .done (some c))) ∧ W.heap[b]? = some (.deferred (some [])))
    W1 (hb0.trans ((hb ▸ hbl).mono hb0.size))
  rw [hsz] at hseq'
  have keeps : ∀ {C k : Nat} {A B : World} {row : Option Nat} {o : Obj}, A.grownBy B row → (∀ r, row = some r → Turns T (b + 2) C r) → ¬ Turns T (b + 2) C k → A.heap[k]? = some o → B.heap[k]? = some o :=
    fun hg hr hk ho => (hg.block _ (Array.getElem?_eq_some_iff.1 ho).1 (fun e => hk (hr _ e.symm))).trans ho
  refine (hseq' ?_ ?_ (fun C pre W1 h => hNd C pre W1 h.1) ?_ ?_).mono ?_
  · intro C hC s A B row hs hg' hr
    exact ⟨hI C (by omega) s A B row hs.1 hg' (fun r e => tB (hr r e)), keeps hg' hr nL hs.2.1, keeps hg' hr nD hs.2.2⟩
  · intro C hC s A B row hs hg' hr
    obtain ⟨c, h, h', h''⟩ := hs
    exact ⟨c, hIx c C (by omega) s A B row h hg' (fun r e => tB (hr r e)), keeps hg' hr nL h', keeps hg' hr nD h''⟩
  · intro C W' hC hC' hbW
    exact ⟨h0 C W' hC hC' (hbl.trans (hbW.mono (by omega))), (hbW.block _ (by omega)).trans hL1, (hbW.block _ (by omega)).trans hD1⟩
  · rintro C pre x W hC hCW ⟨hi, hl, hd⟩ hgx hlen
    have hy := run_yield (P := P) (args := encs x) hl (by rw [hrec]; exact hps x)
    rw [hrec] at hy
    refine ⟨fn, _, assign, body, hy, roundIn_of_wpIn hfn (hassign _ x W _ ?_)⟩
    clear hy
    refine ⟨_, run_beginRound hl (by rw [hrec]), ?_⟩
    obtain ⟨W2, hW2⟩ : ∃ W2, W2 = W.putObj (b + 1) (.loop { rec .ready none with state := .busy }) := ⟨_, rfl⟩
    have hlt : b + 1 < W.heap.size := by omega
    have hl2 : W2.heap[b + 1]? = some (.loop { rec .ready none with state := .busy }) := by rw [hW2]; exact World.putObj_heap_same hlt
    have hd2 : W2.heap[b]? = some (.deferred (some [])) := by rw [hW2]; exact (World.putObj_heap_other (by omega)).trans hd
    have hi2 : I C pre W2 := by rw [hW2]; exact (hI C (by omega)).put _ hi (tL hC)
    have hv2 : Stays T (b + 2) C W W2 := by rw [hW2]; exact Stays.of (grownBy_putObj' W (b + 1) _) (fun r e => by cases e; exact nL)
    rw [← hW2]
    refine wpIn_mono (hbody _ C pre x W2 hC (Nat.le_trans hCW hv2.size) hi2 (by rw [hW2]; exact hG x W _ _ _ hl hgx) hlen) ?_
    have fin : ∀ (jump : Option Code) (W3 : World), Stays T b C W2 W3 →
        (Instr.endRound (b + 1) jump).run P W3 = .ok (.bool jump.isNone) (W3.putObj (b + 1) (.loop (rec (if jump.isNone then .ready else .done) jump))) ∧
        (W3.putObj (b + 1) (.loop (rec (if jump.isNone then .ready else .done) jump))).heap[b + 1]? = some (.loop (rec (if jump.isNone then .ready else .done) jump)) ∧
        (W3.putObj (b + 1) (.loop (rec (if jump.isNone then .ready else .done) jump))).heap[b]? = some (.deferred (some [])) ∧
        Stays T (b + 2) C W (W3.putObj (b + 1) (.loop (rec (if jump.isNone then .ready else .done) jump))) := fun jump W3 hk3 => by
      have hs2 := hv2.size
      have hl3 := (hk3.same _ (tL hC) (by omega)).trans hl2
      have hr := run_endRound (P := P) jump hl3
      rw [hrec] at hr ⊢
      refine ⟨hr, World.putObj_heap_same (by have := hk3.size; omega), (World.putObj_heap_other (by omega)).trans ((hk3.same _ (tD hC) (by omega)).trans hd2), ?_⟩
      exact (hv2.trans (hk3.less (fun r h => tB h))).trans (Stays.of (grownBy_putObj' W3 (b + 1) _) (fun r e => by cases e; exact nL))
    rintro e a3 W3 hp
    cases e with
    | normal =>
      obtain ⟨hr, hl4, hd4, hv4⟩ := fin none W3 hp.1
      exact ⟨_, _, hr, .inl ⟨rfl, ⟨(hI C (by omega)).put _ hp.2 (tL hC), hl4, hd4⟩, hv4⟩⟩
    | ret =>
      obtain ⟨hr, hl4, hd4, hv4⟩ := fin (some .ret) W3 hp.1
      exact ⟨_, _, hr, .inr ⟨rfl, ⟨.ret, (hIx _ C (by omega)).put _ hp.2 (tL hC), hl4, hd4⟩, hv4⟩⟩
    | exit id =>
      obtain ⟨hr, hl4, hd4, hv4⟩ := fin (some (.exit id)) W3 hp.1
      exact ⟨_, _, hr, .inr ⟨rfl, ⟨.exit id, (hIx _ C (by omega)).put _ hp.2 (tL hC), hl4, hd4⟩, hv4⟩⟩
    | goto t =>
      obtain ⟨hr, hl4, hd4, hv4⟩ := fin (some (.goto t)) W3 hp.1
      exact ⟨_, _, hr, .inr ⟨rfl, ⟨.goto t, (hIx _ C (by omega)).put _ hp.2 (tL hC), hl4, hd4⟩, hv4⟩⟩
    | panic ch => exact hp.elim
    | outgrown => exact hp.elim
  · rintro e W2 ⟨⟨v, rfl⟩, (⟨C, xs, hC, hS, hi, hl, hd⟩ | ⟨C, pre, hC, hSp, c, hi, hl, hd⟩)⟩
    · refine ⟨none, _, by have := run_endLoop (P := P) hl (by rw [hrec]; simp); rw [hrec] at this; exact this, ?_⟩
      exact hdone b C xs _ (Nat.le_refl _) (by omega) hS ((hI C (by omega)).put _ hi (tL hC)) ((World.putObj_heap_other (by omega)).trans hd)
    · refine ⟨some c, _, by have := run_endLoop (P := P) hl (by rw [hrec]; simp); rw [hrec] at this; exact this, ?_⟩
      exact hstop b C c pre _ (Nat.le_refl _) (by omega) hSp ((hIx c C (by omega)).put _ hi (tL hC)) ((World.putObj_heap_other (by omega)).trans hd)

theorem room_none {F : Fence} (hd : F.depth = none) (k : Nat) : F.room k := fun d h => by rw [hd] at h; cases h
/-- where no depth is asked, a round is the same at every figure -/
theorem yieldAt_depth {F : Fence} (hd : F.depth = none) {m : Nat} (m' : Nat) {l : Nat} {args : Array Value} {W : World} {R : Ending → World → Prop} (h : YieldAt F m P l args W R) : YieldAt F m' P l args W R := by
  obtain ⟨fn, tmps, assign, body, hy, hR⟩ := h
  exact ⟨fn, tmps, assign, body, hy, hR.1, fun c cs _ => hR.2 c cs (room_none hd _)⟩
end Go.Proofs.Wav

/- The pieces of a text, as strings.Lines hands them on: plain. -/
namespace Go.Proofs.Wav
set_option linter.unusedVariables false
set_option linter.unusedSimpArgs false
/-- a text's lines, each with its end; the last one may lack it -/
def pieces (s : Ln) : List Ln := (linesOf s).1.map (· ++ [10]) ++ (if (linesOf s).2 = [] then [] else [(linesOf s).2])
theorem idx_neg : ∀ {s : Ln}, Lib.indexByte s 10 = -1 → 10 ∉ s
  | [], _ => by simp
  | b :: l, h => by
    unfold Lib.indexByte at h
    by_cases e : b = 10
    · rw [if_pos (by simp [e])] at h; exact absurd h (by decide)
    · rw [if_neg (by simpa using e)] at h
      by_cases h2 : Lib.indexByte l 10 = -1
      · intro hm
        rcases List.mem_cons.1 hm with h3 | h3
        · exact e h3.symm
        · exact idx_neg h2 h3
      · rw [if_neg (by simpa using h2)] at h
        have := Lib.indexByte_ge l 10
        omega
theorem idx_pos : ∀ {s : Ln} {i : Nat}, Lib.indexByte s 10 = i → i < s.length ∧ 10 ∉ s.take i ∧ s = s.take i ++ 10 :: s.drop (i + 1)
  | [], i, h => by unfold Lib.indexByte at h; omega
  | b :: l, i, h => by
    unfold Lib.indexByte at h
    by_cases e : b = 10
    · rw [if_pos (by simp [e])] at h
      obtain rfl : i = 0 := by omega
      simp [e]
    · rw [if_neg (by simpa using e)] at h
      by_cases h2 : Lib.indexByte l 10 = -1
      · rw [if_pos (by simpa using h2)] at h; omega
      · rw [if_neg (by simpa using h2)] at h
        obtain ⟨k, rfl⟩ : ∃ k, i = k + 1 := ⟨i - 1, by have := Lib.indexByte_ge l 10; omega⟩
        obtain ⟨h3, h4, h5⟩ := idx_pos (s := l) (i := k) (by omega)
        refine ⟨by simp; omega, ?_, ?_⟩
        · rw [List.take_succ_cons]
          intro hm
          rcases List.mem_cons.1 hm with h6 | h6
          · exact e h6.symm
          · exact h4 h6
        · rw [List.take_succ_cons, List.drop_succ_cons, List.cons_append, ← h5]
theorem linesOf_none : ∀ {s : Ln}, 10 ∉ s → linesOf s = ([], s)
  | [], _ => rfl
  | c :: r, h => by
    have hc : c ≠ 10 := fun e => h (by rw [e]; exact List.mem_cons_self)
    rw [linesOf, if_neg hc, linesOf_none (s := r) (fun hh => h (List.mem_cons_of_mem _ hh))]
theorem pieces_nil : pieces [] = [] := rfl
theorem pieces_none {s : Ln} (h : 10 ∉ s) (h0 : s ≠ []) : pieces s = [s] := by
  unfold pieces
  rw [linesOf_none h, if_neg h0]
  rfl
theorem pieces_line {s : Ln} {i : Nat} (h : Lib.indexByte s 10 = i) : pieces s = s.take (i + 1) :: pieces (s.drop (i + 1)) := by
  obtain ⟨h1, h2, h3⟩ := idx_pos h
  have h4 : s.take (i + 1) = s.take i ++ [10] := by
    have : s.take (i + 1) = (s.take i ++ 10 :: s.drop (i + 1)).take (i + 1) := by rw [← h3]
    rw [this, List.take_append, List.length_take, Nat.min_eq_left (by omega), show i + 1 - i = 1 by omega, List.take_of_length_le (by rw [List.length_take]; omega)]
    rfl
  have h5 : linesOf s = (s.take i :: (linesOf (s.drop (i + 1))).1, (linesOf (s.drop (i + 1))).2) := by
    conv => lhs; rw [h3]
    exact linesOf_line _ _ h2
  unfold pieces
  rw [h5, h4]
  rfl
/-- what lines makes of a piece -/
def lineOf (l : Ln) : Ln := if l.getLast? = some 10 then l.dropLast else []
theorem lineOf_end (l : Ln) : lineOf (l ++ [10]) = l := by simp [lineOf]
theorem lineOf_none {l : Ln} (h : 10 ∉ l) : lineOf l = [] := by
  unfold lineOf
  rw [if_neg]
  intro e
  exact h (List.mem_of_getLast? e)
theorem linesOf_rest : ∀ s : Ln, 10 ∉ (linesOf s).2
  | [] => by simp [linesOf]
  | c :: r => by
    have ih := linesOf_rest r
    rw [linesOf]
    split
    · exact ih
    · rename_i hc
      split
      · rename_i t e
        rw [e] at ih
        intro hm
        rcases List.mem_cons.1 hm with h6 | h6
        · exact hc h6.symm
        · exact ih h6
      · rename_i l ls t e
        rw [e] at ih
        exact ih
theorem pieces_lineOf (s : Ln) : (pieces s).map lineOf = (linesOf s).1 ++ (if (linesOf s).2 = [] then [] else [[]]) := by
  unfold pieces
  rw [List.map_append, List.map_map, show (lineOf ∘ fun x => x ++ [10]) = id from funext lineOf_end, List.map_id]
  split
  · rfl
  · rw [List.map_singleton, lineOf_none (linesOf_rest s)]
/-- a word of nothing is no line -/
theorem lineP_nil (w : Wv) (named : Bool) : lineP w named [] = none := rfl
theorem pieces_length (s : Ln) : (pieces s).length ≤ s.length := by
  induction hn : s.length using Nat.strongRecOn generalizing s with
  | ind n ih =>
    by_cases h : Lib.indexByte s 10 = -1
    · by_cases h0 : s = []
      · subst h0; simp [pieces_nil]
      · rw [pieces_none (idx_neg h) h0]
        cases s with
        | nil => exact absurd rfl h0
        | cons a b => simp at hn ⊢; omega
    · obtain ⟨i, hi⟩ : ∃ i : Nat, Lib.indexByte s 10 = i := ⟨(Lib.indexByte s 10).toNat, by have := Lib.indexByte_ge s 10; omega⟩
      rw [pieces_line hi, List.length_cons]
      have h1 := (idx_pos hi).1
      have := ih (s.drop (i + 1)).length (by rw [List.length_drop]; omega) (s.drop (i + 1)) rfl
      rw [List.length_drop] at this
      omega
end Go.Proofs.Wav

/- strings.Lines: its iterator keeps to the contract of an adapter's iterator. -/
namespace Go.Proofs.YtephnfhjobkciaaGreatDoor
open Go.RowKit Go.Proofs.Wav Go.Proofs.Scn Go.Flow Go.Sort Go.Shelf
attribute [local go_sem] Oper.semAt_some
set_option linter.unusedVariables false
set_option linter.unusedSimpArgs false
set_option maxRecDepth 100000

/-- what has come, what is to come -/
def LnAt (s : Ln) (J : List Ln → World → Prop) (t : TypeId) (Bs C : Nat) (r : Ln) (wr : World) : Prop :=
  ∃ pre, J pre wr ∧ C ≤ wr.heap.size ∧ Boxed wr Bs t (.string (bs r)) ∧ pre ++ pieces r = pieces s
def lnE (x : Ln) : Array Value := #[.string (bs x)]

set_option maxHeartbeats 8000000 in
theorem lines1_in (n : Nat) (hn : 1 ≤ n) (l Bs : Nat) (s : Ln) (hs : s.length ≤ 100000) (J Jx : List Ln → World → Prop) (W : World)
    (hJ : Lets (· = Bs) W.heap.size W.heap.size J) (hBn : Bs < W.heap.size)
    (hY : ∀ pre x W1, W.heap.size ≤ W1.heap.size → J pre W1 → x.length ≤ s.length → pre.length < (pieces s).length → YieldAt Fence.wide (n - 1) Tryz.prog l (lnE x) W1 fun e W' =>
      (e = .returned (.bool true) ∧ J (pre ++ [x]) W' ∧ Stays (· = Bs) W.heap.size W.heap.size W1 W') ∨ (e = .returned (.bool false) ∧ Jx (pre ++ [x]) W' ∧ Stays (· = Bs) W.heap.size W.heap.size W1 W'))
    (hBs : Boxed W Bs 9 (.string (bs s))) (h0 : J [] W) :
    CallsIn Fence.wide n Tryz.prog 91 #[.func (.yield l) #[] #[], .pointer (some ⟨Bs, 0, none⟩)] W fun e W' => (∃ v, e = .returned v) ∧
      (J (pieces s) W' ∨ (∃ k, Jx ((pieces s).take k) W')) := by
  refine callsIn_of_wp Tryz.func91 rfl trivial ?_ rfl
  simp only [Tryz.ntmps91, List.size_toArray, List.length_cons, List.length_nil, Nat.reduceAdd, Nat.reduceSub, Array.replicate_succ, Array.replicate_zero, List.push_toArray, List.append_toArray, List.nil_append, List.cons_append]
  gi_wp2
  gi_loopw [3] (fun _ wr => ∃ r : Ln, r.length ≤ s.length ∧ LnAt s J 9 Bs W.heap.size r wr)
    (fun _ wr => match wr.cell? ⟨Bs, 0, none⟩ with | some (.string b) => b.size | _ => 0)
  case atStart => exact ⟨s, Nat.le_refl _, [], h0, Nat.le_refl _, hBs, rfl⟩
  case round =>
    obtain ⟨r, hr, pre, hJr, hwr, hbx, hp⟩ := hrel
    have v1 := hbx.cell
    have v2 := hbx.frozen
    have hsz : (bs r).size = r.length := rfl
    by_cases hr0 : r = []
    · subst hr0
      rw [pieces_nil, List.append_nil] at hp
      gi_wp2
      go_end0
      exact ⟨⟨_, rfl⟩, .inl (hp ▸ hJr)⟩
    have hr1 : 0 < r.length := by cases r with | nil => exact absurd rfl hr0 | cons a b => simp
    have hr2 : decide (0 < r.length) = true := decide_eq_true hr1
    by_cases hix : Lib.indexByte r 10 = -1
    · have hpc := pieces_none (idx_neg hix) hr0
      gi_wp2_with fail
      refine ⟨trivial, ((callsIn_wide (n := n - 1)).2 (Tryz.strings_IndexByte _ _ _)).mono ?_⟩
      rintro e W2 ⟨rfl, rfl⟩
      rw [show (bs r).data.toList = r from rfl, show ((10 : Int).toNat.toUInt8) = 10 from rfl, hix]
      have hj2 : J pre (W2.setCell ⟨Bs, 0, none⟩ (.string { data := #[] })) := hJ.cell _ hJr (.inl rfl)
      have hb2 : Boxed (W2.setCell ⟨Bs, 0, none⟩ (.string { data := #[] })) Bs 9 (.string (bs [])) := hbx.set _
      have hs2 : W.heap.size ≤ (W2.setCell ⟨Bs, 0, none⟩ (.string { data := #[] })).heap.size := by simp [World.setCell]; omega
      have hq : pre ++ [r] = pieces s := by rw [← hp, hpc]
      generalize hW4 : W2.setCell ⟨Bs, 0, none⟩ (.string { data := #[] }) = W4 at hj2 hb2 hs2
      obtain ⟨fn, tmps, assign, body, hy, hR⟩ := hY pre r W4 hs2 hj2 hr (by rw [← hq]; simp)
      unfold lnE at hy
      have HQ := Lib.hid hq
      have HB2 := Lib.hid hb2
      have HS2 := Lib.hid hs2
      clear hj2 hb2 hs2 hq hp hpc
      gi_wp2_with fail
      refine hR.mono ?_
      rintro e W3 (⟨rfl, hJ3, hk3⟩ | ⟨rfl, hJx3, hk3⟩)
      · have hb3 : Boxed W3 Bs 9 (.string (bs [])) := (hk3.same Bs (.inl rfl) (bx_lt HB2.out)).trans HB2.out
        gi_wp2
        go_roundw
        case rel => exact ⟨[], Nat.zero_le _, pre ++ [r], hJ3, Nat.le_trans HS2.out hk3.size, hb3, by rw [pieces_nil, List.append_nil]; exact HQ.out⟩
        case measure => simp [hb3.cell, v1, size_bs]; exact hr1
      · gi_wp2
        refine bodyPost_ret (results_none rfl _ _ _) rfl ?_
        exact ⟨⟨_, rfl⟩, .inr ⟨(pre ++ [r]).length, by rw [HQ.out, List.take_length, ← HQ.out]; exact hJx3⟩⟩
    · obtain ⟨i, hi⟩ : ∃ i : Nat, Lib.indexByte r 10 = i := ⟨(Lib.indexByte r 10).toNat, by have := Lib.indexByte_ge r 10; omega⟩
      have hpc := pieces_line hi
      have hil := (idx_pos hi).1
      gi_wp2_with fail
      refine ⟨trivial, ((callsIn_wide (n := n - 1)).2 (Tryz.strings_IndexByte _ _ _)).mono ?_⟩
      rintro e W2 ⟨rfl, rfl⟩
      rw [show (bs r).data.toList = r from rfl, show ((10 : Int).toNat.toUInt8) = 10 from rfl, hi]
      have he := ext_head r (i + 1) (by omega)
      have ht := ext_tail r (i + 1)
      rw [hsz] at ht
      have hw1 : IntKind.i64.wrap ((i : Int) + 1) = (i : Int) + 1 := IntWalk.i64_in _ (by omega)
      have hw2 : (0 : Int) ≤ (i : Int) + 1 := by omega
      have hw3 : ((i : Int) + 1).toNat = i + 1 := by omega
      have hw5 : (i : Int) + 1 ≤ (r.length : Int) := by omega
      have hj2 : J pre (W2.setCell ⟨Bs, 0, none⟩ (.string (bs (r.drop (i + 1))))).drew := hJ _ _ _ none (hJ.cell _ hJr (.inl rfl)) ⟨rfl, rfl, rfl, Nat.le_refl _, fun _ _ _ => rfl⟩ (fun r e => by cases e)
      have hb2 : Boxed (W2.setCell ⟨Bs, 0, none⟩ (.string (bs (r.drop (i + 1))))).drew Bs 9 (.string (bs (r.drop (i + 1)))) := hbx.set _
      have hs2 : W.heap.size ≤ (W2.setCell ⟨Bs, 0, none⟩ (.string (bs (r.drop (i + 1))))).drew.heap.size := by simp [World.setCell]; omega
      have hq : (pre ++ [r.take (i + 1)]) ++ pieces (r.drop (i + 1)) = pieces s := by rw [← hp, hpc]; simp
      generalize hW4 : (W2.setCell ⟨Bs, 0, none⟩ (.string (bs (r.drop (i + 1))))).drew = W4 at hj2 hb2 hs2
      obtain ⟨fn, tmps, assign, body, hy, hR⟩ := hY pre (r.take (i + 1)) W4 hs2 hj2 (by rw [List.length_take]; omega) (by rw [← hq]; simp)
      unfold lnE at hy
      have HQ := Lib.hid hq
      have HB2 := Lib.hid hb2
      have HS2 := Lib.hid hs2
      clear hj2 hb2 hs2 hq hp hpc
      gi_wp2_with fail
      gi_region
      all_goals gi_wp2_with fail
      all_goals refine hR.mono ?_
      all_goals rintro e W3 (⟨rfl, hJ3, hk3⟩ | ⟨rfl, hJx3, hk3⟩)
      · have hb3 : Boxed W3 Bs 9 (.string (bs (r.drop (i + 1)))) := (hk3.same Bs (.inl rfl) (bx_lt HB2.out)).trans HB2.out
        gi_wp2
        go_roundw
        case rel => exact ⟨r.drop (i + 1), by rw [List.length_drop]; omega, pre ++ [r.take (i + 1)], hJ3, Nat.le_trans HS2.out hk3.size, hb3, HQ.out⟩
        case measure => simp [hb3.cell, v1, size_bs]; omega
      · gi_wp2
        refine bodyPost_ret (results_none rfl _ _ _) rfl ?_
        refine ⟨⟨_, rfl⟩, .inr ⟨(pre ++ [r.take (i + 1)]).length, ?_⟩⟩
        rw [← HQ.out, List.take_left]
        exact hJx3
theorem lines1_wall (n : Nat) (hn : 1 ≤ n) (Bs : Nat) (s : Ln) (hs : s.length ≤ 100000) (w : World) (hBs : Boxed w Bs 9 (.string (bs s))) :
    SeqWall Fence.wide n Tryz.prog 91 #[.pointer (some ⟨Bs, 0, none⟩)] lnE (· = Bs) (fun x _ => x.length ≤ s.length) (fun _ => True) (fun xs => xs = pieces s) (fun pre => ∃ k, pre = (pieces s).take k) (pieces s).length w := by
  intro l J Jx W hW hJ hJx _ hup hY
  refine (lines1_in n hn l Bs s hs (J W.heap.size) (Jx W.heap.size) W (hJ _ (Nat.le_refl _)) (Nat.lt_of_lt_of_le (bx_lt hBs) hW.size) (fun pre x W1 h1 h2 hg h3 => hY W.heap.size pre x W1 (Nat.le_refl _) h1 h2 hg h3) (bx_later hBs hW)
    (hup _ _ (Nat.le_refl _) (Nat.le_refl _) (Below.refl _ _))).mono ?_
  rintro e W' ⟨h, (hJ' | ⟨k, hk⟩)⟩
  · exact ⟨h, .inl ⟨_, _, Nat.le_refl _, rfl, hJ'⟩⟩
  · exact ⟨h, .inr ⟨_, _, Nat.le_refl _, ⟨k, rfl⟩, hk⟩⟩

theorem slines_any (s : ByteArray) (W : World) :
    Calls Tryz.prog 67 #[.string s] W fun e W' => e = .returned (.func (.func 91) #[] #[.pointer (some ⟨W.heap.size, 0, none⟩)]) ∧ W.alloc (.cells #[.string s] 9) = W' := by
  go_enter Tryz.func67, Tryz.ntmps67
  go_wp2
  go_ret
  exact ⟨rfl, rfl⟩

theorem glines_any (p : Option Addr) (n c : Nat) (W : World) :
    Calls Tryz.prog 47 #[.slice p n c] W fun e W' => e = .returned (.func (.func 66) #[] #[.pointer (some ⟨W.heap.size, 0, none⟩)]) ∧ W.alloc (.cells #[.slice p n c] 29) = W' := by
  go_enter Tryz.func47, Tryz.ntmps47
  go_wp2
  go_ret
  exact ⟨rfl, rfl⟩
end Go.Proofs.YtephnfhjobkciaaGreatDoor
