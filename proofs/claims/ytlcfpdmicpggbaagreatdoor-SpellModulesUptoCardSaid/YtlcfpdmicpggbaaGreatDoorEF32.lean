/- Texts of the seat, merged. -/
import Derived.Test.YtlcfpdmicpggbaaGreatDoorEF31
import Derived.Test.YtlcfpdmicpggbaaGreatDoorQ16
set_option linter.unusedVariables false
set_option linter.unusedSimpArgs false
set_option maxRecDepth 100000
set_option maxHeartbeats 16000000
namespace Go.Proofs.YtlcfpdmicpggbaaGreatDoor
open Go.RowKit Go.Proofs.Spl Go.Proofs.Scn Go.Shelf
theorem max_in {α : Type} (g : α → Nat) (m : Nat) : ∀ l : List α, max (1 + m) (maxN (fun p => g p + 1) l) = 1 + max m (maxN g l)
 | [] => by simp [maxN]
 | x :: l => by
  have ih := max_in g m l
  have e1 : maxN (fun p => g p + 1) (x :: l) = max (g x + 1) (maxN (fun p => g p + 1) l) := rfl
  have e2 : maxN g (x :: l) = max (g x) (maxN g l) := rfl
  omega
theorem mx3 (r c : Nat) : max (r : Int) (2 + (c : Int)) = ((max r (2 + c) : Nat) : Int) := by omega
theorem mx5 (A B c : Nat) : max A (max B (c + 1 + 1)) = max (max A B) (2 + c) := by omega
theorem one_sM (m : Md) : 1 ≤ sizeM m := by unfold sizeM; omega
theorem rSize_any (f : List Md) (p : Option Addr) (cap : Nat) (hl : sumN sizeM f ≤ 1000000000) (W : World) (hR : MsR W (.slice p f.length cap) f) :
  RetN 39 #[.agg #[.slice p f.length cap]] W (sumN sizeM f) := by
 have hlen : f.length ≤ 1000000000 := Nat.le_trans (sumN_len sizeM one_sM f) hl
 obtain ⟨W1, hW1⟩ : ∃ W1, W1 = W.alloc (.cells #[.slice p f.length cap] 24) := ⟨_, rfl⟩
 have hb1 : Below W.heap.size W W1 := by rw [hW1]; exact (Below.refl _ _).alloc (Nat.le_refl _) _
 have hR1 := MsR.later hR hb1
 have HL1 := Lib.hid (show W.heap.size < W1.heap.size by rw [hW1]; simp)
 have HC5 := Lib.hid (show W1.cell? ⟨W.heap.size, 0, none⟩ = some (.slice p f.length cap) by rw [hW1]; exact (cell_of_row _ _ _ _ _ _ (World.alloc_heap_new W _)).trans rfl)
 obtain ⟨p', cap', hpe, hcap, hcell⟩ := hR1
 cases hpe
 have HC := Lib.hid hcell
 have HLL := Lib.hid hl
 have HB1 := Lib.hid hb1
 clear hcell hl hb1 hR
 go_enter Tryz.func39, Tryz.ntmps39
 go_wp2
 rw [← hW1]
 clear hW1
 go_loopw [3, 4] (fun n i wr => ∃ k : Nat, i = .int .i64 k ∧ n = .int .i64 ((sumN sizeM (f.take k) : Nat)) ∧ k ≤ f.length ∧ Hid (Below W1.heap.size W1 wr)) (fun _ i _ => f.length - (intOf i).toNat)
 case atStart => exact ⟨0, rfl, rfl, Nat.zero_le _, Lib.hid (Below.refl _ _)⟩
 case round =>
  obtain ⟨k, rfl, rfl, hk, HW⟩ := hrel
  have k5 := (HW.out.cell (p := ⟨W.heap.size, 0, none⟩) HL1.out).trans HC5.out
  by_cases hlt : k < f.length
  ·have hlt' : (k : Int) < (f.length : Int) := by omega
   rcases HC.out with hc | ⟨q, off, rfl, hq, hc⟩
   ·subst hc; simp at hlt
   obtain ⟨cs, hR, hcs⟩ := hc k hlt
   have hB := HW.out
   have hR0 := Lib.hid hR
   clear hR hc
   obtain ⟨vp, vt, vi, rfl, h1, h2, h3⟩ := hR0.out
   have g1 := h1
   have g2 := h2
   have g3 := h3
   obtain ⟨p1, c1, rfl, _⟩ := h1
   obtain ⟨p2, c2, rfl, _, hpt⟩ := h2
   obtain ⟨p3, c3, rfl, _⟩ := h3
   have x0 := (hB.cell (p := ⟨q, off + k * 4 + 0, none⟩) hq).trans (hcs 0 (by omega))
   have x1 := (hB.cell (p := ⟨q, off + k * 4 + 1, none⟩) hq).trans (hcs 1 (by omega))
   have x2 := (hB.cell (p := ⟨q, off + k * 4 + 2, none⟩) hq).trans (hcs 2 (by omega))
   have x3 := (hB.cell (p := ⟨q, off + k * 4 + 3, none⟩) hq).trans (hcs 3 (by omega))
   simp only [Nat.add_zero, List.getElem?_cons_zero, List.getElem?_cons_succ] at x0 x1 x2 x3
   have hyb := Nat.le_trans (sumN_mem sizeM (List.getElem_mem hlt)) HLL.out
   have hTK : f.take (k + 1) = f.take k ++ [f[k]] := (List.take_append_getElem hlt).symm
   have hSZ := Nat.le_trans (sumN_take sizeM f (k + 1)) HLL.out
   have hdl := maxN_le_sumN (l := f.take (k + 1)) (fun y _ => deepM_le y)
   obtain ⟨s, hs⟩ : ∃ s, s = sumN sizeM (f.take k) := ⟨_, rfl⟩
   obtain ⟨a, ha⟩ : ∃ n : Nat, n = sumN sizeB f[k].ps := ⟨_, rfl⟩
   obtain ⟨b, hb⟩ : ∃ n : Nat, n = sumN sizeI f[k].l := ⟨_, rfl⟩
   rw [hTK, sumN_snoc, ← hs, sizeM, sizeIs_sum, ← ha, ← hb] at hSZ
   rw [sizeM, sizeIs_sum] at hyb
   have C0 := Lib.hid (fun (W9 : World) (h : Below W1.heap.size W1 W9) => show RetN 78 #[.slice p1 f[k].ps.length c1] W9 a by rw [ha]; exact rsizeB_any _ f[k].ps (Nat.le_trans (sumN_len sizeB one_sB _) (Nat.le_trans (by omega) hyb)) (Nat.le_trans (by omega) hyb) W9 (BsR.later g1 h))
   have C1 := Lib.hid (fun (W9 : World) (h : Below W1.heap.size W1 W9) => show RetN 79 #[.slice p3 f[k].l.length c3] W9 b by rw [hb]; exact szIs_ok _ (Nat.le_trans (by omega) hyb) _ W9 (IsR.later g3 h))
   have CX := Lib.hid (fun (j : Nat) (hj : j < f[k].pts.length) (W9 : World) (cs : List Value) (h : XR W9 f[k].pts[j].w cs) => szX_ok f[k].pts[j].w (by have := Nat.le_trans (sumN_mem sizeP (List.getElem_mem hj)) (Nat.le_trans (by omega) hyb); unfold sizeP at this; exact Nat.le_trans (by omega) this) W9 cs h)
   have HP := Lib.hid hpt
   have hpl := Nat.le_trans (sumN_len sizeP one_sP f[k].pts) (Nat.le_trans (by omega) hyb)
   have HV := Lib.hid (show ((sumN sizeM (f.take (k + 1)) : Nat) : Int) = ((s + 1 + a + b + sumN sizeP f[k].pts : Nat) : Int) by rw [hTK, sumN_snoc, ← hs, sizeM, sizeIs_sum, ← ha, ← hb]; clear hSZ hs ha hb hdl hyb; omega)
   rw [← hs]
   clear hTK hs ha hb hcs hB hyb hdl
   have hw1 := wrs (e := (s : Int) + 1) (s + 1) (Nat.le_trans (by omega) hSZ) (by push_cast; rfl)
   have ha1 := hw1.1
   have hb1 := hw1.2
   clear hw1
   have hw2 := wrs (e := (s : Int) + 1 + (a : Int)) (s + 1 + a) (Nat.le_trans (by omega) hSZ) (by push_cast; rfl)
   have ha2 := hw2.1
   have hb2 := hw2.2
   clear hw2
   have hw3 := wrs (e := (s : Int) + 1 + (a : Int) + (b : Int)) (s + 1 + a + b) (Nat.le_trans (by omega) hSZ) (by push_cast; rfl)
   have ha3 := hw3.1
   have hb3 := hw3.2
   clear hw3
   generalize f[k] = y at *
   go_wp2_with fail
   obtain ⟨V, hV⟩ : ∃ V, V = wr.alloc (.cells #[.string (bs y.name), .slice p1 y.ps.length c1, .slice p2 y.pts.length c2, .slice p3 y.l.length c3] 53) := ⟨_, rfl⟩
   have HWV := Lib.hid (show Below W1.heap.size W1 V by rw [hV]; exact HW.out.alloc HW.out.size _)
   have HVl := Lib.hid (show wr.heap.size < V.heap.size by rw [hV]; simp)
   have HVr := Lib.hid (show V.heap[wr.heap.size]? = some (.cells #[.string (bs y.name), .slice p1 y.ps.length c1, .slice p2 y.pts.length c2, .slice p3 y.l.length c3] 53 (0, 0)) by rw [hV]; exact World.alloc_heap_new wr _)
   rw [← hV]
   clear hV x0 x1 x2 x3
   have HSy := Lib.hid (show ∀ w', Below V.heap.size V w' → w'.cell? ⟨wr.heap.size, 0, none⟩ = some (.string (bs y.name)) ∧ w'.cell? ⟨wr.heap.size, 1, none⟩ = some (.slice p1 y.ps.length c1) ∧ w'.cell? ⟨wr.heap.size, 2, none⟩ = some (.slice p2 y.pts.length c2) ∧ w'.cell? ⟨wr.heap.size, 3, none⟩ = some (.slice p3 y.l.length c3) from fun w' h => cells4 ((h.block _ HVl.out).trans HVr.out))
   obtain ⟨x0, x1, x2, x3⟩ := HSy.out _ (Below.refl _ _)
   have Z0 := Lib.hid ((Below.refl V.heap.size V).drew)
   have X0 := Lib.hid (HWV.out.drew)
   go_region_held3 (fun w' => w'.cell? ⟨wr.heap.size, 0, none⟩ = some (.string (bs y.name)) ∧ w'.cell? ⟨wr.heap.size, 1, none⟩ = some (.slice p1 y.ps.length c1) ∧ w'.cell? ⟨wr.heap.size, 2, none⟩ = some (.slice p2 y.pts.length c2) ∧ w'.cell? ⟨wr.heap.size, 3, none⟩ = some (.slice p3 y.l.length c3))
    (first | exact HSy.out _ Z2.out | exact HSy.out _ Z1.out | exact HSy.out _ Z0.out | go_keep)
    (first
     | (go_at_call 78; refine (C0.out _ X0.out).mono ?_; rintro e W5 ⟨rfl, hb⟩; have X1 := Lib.hid (X0.out.trans (hb.mono X0.out.size)); have Z1 := Lib.hid (Z0.out.trans (hb.mono Z0.out.size)); clear hb C0)
     | (go_at_call 79; refine (C1.out _ X1.out).mono ?_; rintro e W6 ⟨rfl, hb⟩; have X2 := Lib.hid (X1.out.trans (hb.mono X1.out.size)); have Z2 := Lib.hid (Z1.out.trans (hb.mono Z1.out.size)); clear hb C1))
   go_wp2_with fail
   go_loopw [3, 6] (fun n i wq => ∃ j : Nat, i = .int .i64 j ∧ n = .int .i64 ((s + 1 + a + b + sumN sizeP (y.pts.take j) : Nat)) ∧ j ≤ y.pts.length ∧ Hid (Below W6.heap.size W6 wq)) (fun _ i _ => y.pts.length - (intOf i).toNat)
   case atStart => exact ⟨0, rfl, by simp [sumN], Nat.zero_le _, Lib.hid (Below.refl _ _)⟩
   case round =>
    obtain ⟨j, rfl, rfl, hj, HQ⟩ := hrel
    obtain ⟨z0, z1, z2, z3⟩ := HSy.out _ (Z2.out.trans (HQ.out.mono Z2.out.size))
    by_cases hjt : j < y.pts.length
    ·have hjt' : (j : Int) < (y.pts.length : Int) := by omega
     rcases HP.out with hc | ⟨qp, op, rfl, hqp, hc⟩
     ·rw [hc] at hjt; simp at hjt
     obtain ⟨ds, hD, hds⟩ := hc j hjt
     have hD0 := Lib.hid hD
     have HBQ := Lib.hid (X2.out.trans (HQ.out.mono X2.out.size))
     clear hD hc
     obtain ⟨xs, rfl, hXR⟩ := hD0.out
     have hXR0 := hXR
     obtain ⟨_, ls, rfl, hL⟩ := XR_iff.1 hXR
     obtain ⟨pl, cl, rfl, _⟩ := hL
     have y0 := (HBQ.out.cell (p := ⟨qp, op + j * 8 + 0, none⟩) hqp).trans (hds 0 (by omega))
     have y1 := (HBQ.out.cell (p := ⟨qp, op + j * 8 + 1, none⟩) hqp).trans (hds 1 (by omega))
     have y2 := (HBQ.out.cell (p := ⟨qp, op + j * 8 + 2, none⟩) hqp).trans (hds 2 (by omega))
     have y3 := (HBQ.out.cell (p := ⟨qp, op + j * 8 + 3, none⟩) hqp).trans (hds 3 (by omega))
     have y4 := (HBQ.out.cell (p := ⟨qp, op + j * 8 + 4, none⟩) hqp).trans (hds 4 (by omega))
     have y5 := (HBQ.out.cell (p := ⟨qp, op + j * 8 + 5, none⟩) hqp).trans (hds 5 (by omega))
     have y6 := (HBQ.out.cell (p := ⟨qp, op + j * 8 + 6, none⟩) hqp).trans (hds 6 (by omega))
     have y7 := (HBQ.out.cell (p := ⟨qp, op + j * 8 + 7, none⟩) hqp).trans (hds 7 (by omega))
     simp only [Nat.add_zero, List.getElem?_cons_zero, List.getElem?_cons_succ] at y0 y1 y2 y3 y4 y5 y6 y7
     have hTJ : y.pts.take (j + 1) = y.pts.take j ++ [y.pts[j]] := (List.take_append_getElem hjt).symm
     obtain ⟨c, hc⟩ : ∃ c : Nat, c = sizeX y.pts[j].w := ⟨_, rfl⟩
     obtain ⟨r, hr⟩ : ∃ r : Nat, r = s + 1 + a + b + sumN sizeP (y.pts.take j) := ⟨_, rfl⟩
     have hpj := sumN_take sizeP y.pts (j + 1)
     rw [hTJ, sumN_snoc, sizeP, ← hc] at hpj
     have hSJ : r + 1 + c ≤ 1000000000 := Nat.le_trans (by rw [hr]; clear hr hc; omega) hSZ
     clear hpj
     have hw4 := wrs (e := (r : Int) + 1) (r + 1) (Nat.le_trans (by omega) hSJ) (by push_cast; rfl)
     have ha4 := hw4.1
     have hb4 := hw4.2
     clear hw4
     have hw5 := wrs (e := (r : Int) + 1 + (c : Int)) (r + 1 + c) (Nat.le_trans (by omega) hSJ) (by push_cast; rfl)
     have ha5 := hw5.1
     have hb5 := hw5.2
     clear hw5
     have CY := Lib.hid (fun (W9 : World) (h : Below W1.heap.size W1 W9) => show RetN 41 #[.agg #[.int .i64 y.pts[j].w.op, .string (bs y.pts[j].w.name), .int .i64 y.pts[j].w.n, .int .i64 y.pts[j].w.w, .int .u64 y.pts[j].w.v, .slice pl y.pts[j].w.l.length cl]] W9 c by rw [hc]; exact CX.out j hjt W9 _ (XR.later h _ _ hXR0))
     have HJ := Lib.hid (show ((s + 1 + a + b + sumN sizeP (y.pts.take (j + 1)) : Nat) : Int) = (r : Int) + 1 + (c : Int) by rw [hTJ]; rw [sumN_snoc, sizeP, ← hc, hr]; clear hr hc hSZ hSJ; omega)
     rw [← hr]
     clear hTJ hc hr hds hXR0 hXR
     generalize y.pts[j] = z at *
     go_wp2_with (go_at_call 41; refine (CY.out _ HBQ.out).mono ?_; rintro e W7 ⟨rfl, hb⟩; have Y1 := Lib.hid (HQ.out.trans (hb.mono HQ.out.size)); clear hb)
     go_roundw
     case rel => exact ⟨j + 1, by go_num, by rw [HJ.out], hjt, Y1⟩
     case measure => simp [intOf]; omega
    ·have hge : ¬ ((j : Int) < (y.pts.length : Int)) := by omega
     have htk : y.pts.take j = y.pts := List.take_of_length_le (by omega)
     rw [htk]
     go_wp2_with fail
     go_roundw
     case rel => exact ⟨k + 1, by go_num, by rw [HV.out], hlt, Lib.hid (X2.out.trans (HQ.out.mono X2.out.size))⟩
     case measure => simp [intOf]; omega
  ·have hge : ¬ ((k : Int) < (f.length : Int)) := by omega
   have htk : f.take k = f := List.take_of_length_le (by omega)
   rw [htk]
   go_wp2
   go_ret
   exact ⟨rfl, HB1.out.trans (HW.out.mono HB1.out.size)⟩
theorem rDeep_any (f : List Md) (p : Option Addr) (cap : Nat) (hl : sumN sizeM f ≤ 1000000000) (W : World) (hR : MsR W (.slice p f.length cap) f) :
  RetN 40 #[.agg #[.slice p f.length cap]] W (maxN deepM f) := by
 have hlen : f.length ≤ 1000000000 := Nat.le_trans (sumN_len sizeM one_sM f) hl
 obtain ⟨W1, hW1⟩ : ∃ W1, W1 = W.alloc (.cells #[.slice p f.length cap] 24) := ⟨_, rfl⟩
 have hb1 : Below W.heap.size W W1 := by rw [hW1]; exact (Below.refl _ _).alloc (Nat.le_refl _) _
 have hR1 := MsR.later hR hb1
 have HL1 := Lib.hid (show W.heap.size < W1.heap.size by rw [hW1]; simp)
 have HC5 := Lib.hid (show W1.cell? ⟨W.heap.size, 0, none⟩ = some (.slice p f.length cap) by rw [hW1]; exact (cell_of_row _ _ _ _ _ _ (World.alloc_heap_new W _)).trans rfl)
 obtain ⟨p', cap', hpe, hcap, hcell⟩ := hR1
 cases hpe
 have HC := Lib.hid hcell
 have HLL := Lib.hid hl
 have HB1 := Lib.hid hb1
 clear hcell hl hb1 hR
 go_enter Tryz.func40, Tryz.ntmps40
 go_wp2
 rw [← hW1]
 clear hW1
 go_loopw [3, 4] (fun n i wr => ∃ k : Nat, i = .int .i64 k ∧ n = .int .i64 ((maxN deepM (f.take k) : Nat)) ∧ k ≤ f.length ∧ Hid (Below W1.heap.size W1 wr)) (fun _ i _ => f.length - (intOf i).toNat)
 case atStart => exact ⟨0, rfl, rfl, Nat.zero_le _, Lib.hid (Below.refl _ _)⟩
 case round =>
  obtain ⟨k, rfl, rfl, hk, HW⟩ := hrel
  have k5 := (HW.out.cell (p := ⟨W.heap.size, 0, none⟩) HL1.out).trans HC5.out
  by_cases hlt : k < f.length
  ·have hlt' : (k : Int) < (f.length : Int) := by omega
   rcases HC.out with hc | ⟨q, off, rfl, hq, hc⟩
   ·subst hc; simp at hlt
   obtain ⟨cs, hR, hcs⟩ := hc k hlt
   have hB := HW.out
   have hR0 := Lib.hid hR
   clear hR hc
   obtain ⟨vp, vt, vi, rfl, h1, h2, h3⟩ := hR0.out
   have g1 := h1
   have g2 := h2
   have g3 := h3
   obtain ⟨p1, c1, rfl, _⟩ := h1
   obtain ⟨p2, c2, rfl, _, hpt⟩ := h2
   obtain ⟨p3, c3, rfl, _⟩ := h3
   have x0 := (hB.cell (p := ⟨q, off + k * 4 + 0, none⟩) hq).trans (hcs 0 (by omega))
   have x1 := (hB.cell (p := ⟨q, off + k * 4 + 1, none⟩) hq).trans (hcs 1 (by omega))
   have x2 := (hB.cell (p := ⟨q, off + k * 4 + 2, none⟩) hq).trans (hcs 2 (by omega))
   have x3 := (hB.cell (p := ⟨q, off + k * 4 + 3, none⟩) hq).trans (hcs 3 (by omega))
   simp only [Nat.add_zero, List.getElem?_cons_zero, List.getElem?_cons_succ] at x0 x1 x2 x3
   have hyb := Nat.le_trans (sumN_mem sizeM (List.getElem_mem hlt)) HLL.out
   have hTK : f.take (k + 1) = f.take k ++ [f[k]] := (List.take_append_getElem hlt).symm
   have hSZ := Nat.le_trans (sumN_take sizeM f (k + 1)) HLL.out
   have hdl := maxN_le_sumN (l := f.take (k + 1)) (fun y _ => deepM_le y)
   obtain ⟨s, hs⟩ : ∃ s, s = maxN deepM (f.take k) := ⟨_, rfl⟩
   obtain ⟨a, ha⟩ : ∃ n : Nat, n = maxN deepB f[k].ps := ⟨_, rfl⟩
   obtain ⟨b, hb⟩ : ∃ n : Nat, n = maxN deepI f[k].l := ⟨_, rfl⟩
   have hSZ := Nat.le_trans hdl hSZ
   rw [hTK, maxN_snoc, ← hs, deepM, deepIs_max, ← ha, ← hb] at hSZ
   rw [sizeM, sizeIs_sum] at hyb
   have C0 := Lib.hid (fun (W9 : World) (h : Below W1.heap.size W1 W9) => show RetN 80 #[.slice p1 f[k].ps.length c1] W9 a by rw [ha]; exact rdeepB_any _ f[k].ps (Nat.le_trans (sumN_len sizeB one_sB _) (Nat.le_trans (by omega) hyb)) (Nat.le_trans (maxN_le_sumN fun z _ => deepB_le z) (Nat.le_trans (by omega) hyb)) W9 (BsR.later g1 h) (fun z hz => by have := Nat.le_trans (sumN_mem sizeB hz) (Nat.le_trans (by omega) hyb); unfold sizeB at this; exact Nat.le_trans (by omega) this))
   have C1 := Lib.hid (fun (W9 : World) (h : Below W1.heap.size W1 W9) => show RetN 81 #[.slice p3 f[k].l.length c3] W9 b by rw [hb]; exact dpIs_ok _ (Nat.le_trans (by omega) hyb) _ W9 (IsR.later g3 h))
   have CX := Lib.hid (fun (j : Nat) (hj : j < f[k].pts.length) (W9 : World) (cs : List Value) (h : XR W9 f[k].pts[j].w cs) => dpX_ok f[k].pts[j].w (by have := Nat.le_trans (sumN_mem sizeP (List.getElem_mem hj)) (Nat.le_trans (by omega) hyb); unfold sizeP at this; exact Nat.le_trans (by omega) this) W9 cs h)
   have HP := Lib.hid hpt
   have hpl := Nat.le_trans (sumN_len sizeP one_sP f[k].pts) (Nat.le_trans (by omega) hyb)
   have HV := Lib.hid (show ((maxN deepM (f.take (k + 1)) : Nat) : Int) = ((max (max s (1 + max a b)) (maxN (fun p => deepP p + 1) f[k].pts) : Nat) : Int) by have hmi := max_in deepP (max a b) f[k].pts; rw [hTK, maxN_snoc, ← hs, deepM, deepIs_max, ← ha, ← hb]; clear hSZ hs ha hb hdl hyb; omega)
   rw [← hs]
   clear hTK hs ha hb hcs hB hyb hdl
   have hm1 : max (a : Int) (b : Int) = ((max a b : Nat) : Int) := mx1 a b
   have hw1 := wrs (e := 1 + ((max a b : Nat) : Int)) (1 + max a b) (Nat.le_trans (by omega) hSZ) (by push_cast; rfl)
   have ha1 := hw1.1
   have hb1 := hw1.2
   clear hw1
   have hm2 : max (s : Int) (1 + ((max a b : Nat) : Int)) = ((max s (1 + max a b) : Nat) : Int) := mx2 s (max a b)
   generalize f[k] = y at *
   go_wp2_with fail
   obtain ⟨V, hV⟩ : ∃ V, V = wr.alloc (.cells #[.string (bs y.name), .slice p1 y.ps.length c1, .slice p2 y.pts.length c2, .slice p3 y.l.length c3] 53) := ⟨_, rfl⟩
   have HWV := Lib.hid (show Below W1.heap.size W1 V by rw [hV]; exact HW.out.alloc HW.out.size _)
   have HVl := Lib.hid (show wr.heap.size < V.heap.size by rw [hV]; simp)
   have HVr := Lib.hid (show V.heap[wr.heap.size]? = some (.cells #[.string (bs y.name), .slice p1 y.ps.length c1, .slice p2 y.pts.length c2, .slice p3 y.l.length c3] 53 (0, 0)) by rw [hV]; exact World.alloc_heap_new wr _)
   rw [← hV]
   clear hV x0 x1 x2 x3
   have HSy := Lib.hid (show ∀ w', Below V.heap.size V w' → w'.cell? ⟨wr.heap.size, 0, none⟩ = some (.string (bs y.name)) ∧ w'.cell? ⟨wr.heap.size, 1, none⟩ = some (.slice p1 y.ps.length c1) ∧ w'.cell? ⟨wr.heap.size, 2, none⟩ = some (.slice p2 y.pts.length c2) ∧ w'.cell? ⟨wr.heap.size, 3, none⟩ = some (.slice p3 y.l.length c3) from fun w' h => cells4 ((h.block _ HVl.out).trans HVr.out))
   obtain ⟨x0, x1, x2, x3⟩ := HSy.out _ (Below.refl _ _)
   have Z0 := Lib.hid ((Below.refl V.heap.size V).drew)
   have X0 := Lib.hid (HWV.out.drew)
   go_region_held3 (fun w' => w'.cell? ⟨wr.heap.size, 0, none⟩ = some (.string (bs y.name)) ∧ w'.cell? ⟨wr.heap.size, 1, none⟩ = some (.slice p1 y.ps.length c1) ∧ w'.cell? ⟨wr.heap.size, 2, none⟩ = some (.slice p2 y.pts.length c2) ∧ w'.cell? ⟨wr.heap.size, 3, none⟩ = some (.slice p3 y.l.length c3))
    (first | exact HSy.out _ Z2.out | exact HSy.out _ Z1.out | exact HSy.out _ Z0.out | go_keep)
    (first
     | (go_at_call 80; refine (C0.out _ X0.out).mono ?_; rintro e W5 ⟨rfl, hb⟩; have X1 := Lib.hid (X0.out.trans (hb.mono X0.out.size)); have Z1 := Lib.hid (Z0.out.trans (hb.mono Z0.out.size)); clear hb C0)
     | (go_at_call 81; refine (C1.out _ X1.out).mono ?_; rintro e W6 ⟨rfl, hb⟩; have X2 := Lib.hid (X1.out.trans (hb.mono X1.out.size)); have Z2 := Lib.hid (Z1.out.trans (hb.mono Z1.out.size)); clear hb C1))
   go_wp2_with fail
   go_loopw [3, 6] (fun n i wq => ∃ j : Nat, i = .int .i64 j ∧ n = .int .i64 ((max (max s (1 + max a b)) (maxN (fun p => deepP p + 1) (y.pts.take j)) : Nat)) ∧ j ≤ y.pts.length ∧ Hid (Below W6.heap.size W6 wq)) (fun _ i _ => y.pts.length - (intOf i).toNat)
   case atStart => exact ⟨0, rfl, by simp [maxN], Nat.zero_le _, Lib.hid (Below.refl _ _)⟩
   case round =>
    obtain ⟨j, rfl, rfl, hj, HQ⟩ := hrel
    obtain ⟨z0, z1, z2, z3⟩ := HSy.out _ (Z2.out.trans (HQ.out.mono Z2.out.size))
    by_cases hjt : j < y.pts.length
    ·have hjt' : (j : Int) < (y.pts.length : Int) := by omega
     rcases HP.out with hc | ⟨qp, op, rfl, hqp, hc⟩
     ·rw [hc] at hjt; simp at hjt
     obtain ⟨ds, hD, hds⟩ := hc j hjt
     have hD0 := Lib.hid hD
     have HBQ := Lib.hid (X2.out.trans (HQ.out.mono X2.out.size))
     clear hD hc
     obtain ⟨xs, rfl, hXR⟩ := hD0.out
     have hXR0 := hXR
     obtain ⟨_, ls, rfl, hL⟩ := XR_iff.1 hXR
     obtain ⟨pl, cl, rfl, _⟩ := hL
     have y0 := (HBQ.out.cell (p := ⟨qp, op + j * 8 + 0, none⟩) hqp).trans (hds 0 (by omega))
     have y1 := (HBQ.out.cell (p := ⟨qp, op + j * 8 + 1, none⟩) hqp).trans (hds 1 (by omega))
     have y2 := (HBQ.out.cell (p := ⟨qp, op + j * 8 + 2, none⟩) hqp).trans (hds 2 (by omega))
     have y3 := (HBQ.out.cell (p := ⟨qp, op + j * 8 + 3, none⟩) hqp).trans (hds 3 (by omega))
     have y4 := (HBQ.out.cell (p := ⟨qp, op + j * 8 + 4, none⟩) hqp).trans (hds 4 (by omega))
     have y5 := (HBQ.out.cell (p := ⟨qp, op + j * 8 + 5, none⟩) hqp).trans (hds 5 (by omega))
     have y6 := (HBQ.out.cell (p := ⟨qp, op + j * 8 + 6, none⟩) hqp).trans (hds 6 (by omega))
     have y7 := (HBQ.out.cell (p := ⟨qp, op + j * 8 + 7, none⟩) hqp).trans (hds 7 (by omega))
     simp only [Nat.add_zero, List.getElem?_cons_zero, List.getElem?_cons_succ] at y0 y1 y2 y3 y4 y5 y6 y7
     have hTJ : y.pts.take (j + 1) = y.pts.take j ++ [y.pts[j]] := (List.take_append_getElem hjt).symm
     obtain ⟨c, hc⟩ : ∃ c : Nat, c = deepX y.pts[j].w := ⟨_, rfl⟩
     obtain ⟨r, hr⟩ : ∃ r : Nat, r = max (max s (1 + max a b)) (maxN (fun p => deepP p + 1) (y.pts.take j)) := ⟨_, rfl⟩
     have hpj := maxN_mem deepP (List.getElem_mem hjt)
     rw [deepP, ← hc] at hpj
     have hSJ : 2 + c ≤ 1000000000 := Nat.le_trans (by clear hr hc hSZ; omega) hSZ
     clear hpj
     have hw4 := wrs (e := 2 + (c : Int)) (2 + c) hSJ (by push_cast; rfl)
     have ha4 := hw4.1
     have hb4 := hw4.2
     clear hw4
     have hm3 : max (r : Int) (2 + (c : Int)) = ((max r (2 + c) : Nat) : Int) := mx3 r c
     have CY := Lib.hid (fun (W9 : World) (h : Below W1.heap.size W1 W9) => show RetN 42 #[.agg #[.int .i64 y.pts[j].w.op, .string (bs y.pts[j].w.name), .int .i64 y.pts[j].w.n, .int .i64 y.pts[j].w.w, .int .u64 y.pts[j].w.v, .slice pl y.pts[j].w.l.length cl]] W9 c by rw [hc]; exact CX.out j hjt W9 _ (XR.later h _ _ hXR0))
     have HJ := Lib.hid (show ((max (max s (1 + max a b)) (maxN (fun p => deepP p + 1) (y.pts.take (j + 1))) : Nat) : Int) = ((max r (2 + c) : Nat) : Int) by rw [hTJ]; rw [maxN_snoc, deepP, ← hc, hr, mx5])
     rw [← hr]
     clear hTJ hc hr hds hXR0 hXR
     generalize y.pts[j] = z at *
     go_wp2_with (go_at_call 42; refine (CY.out _ HBQ.out).mono ?_; rintro e W7 ⟨rfl, hb⟩; have Y1 := Lib.hid (HQ.out.trans (hb.mono HQ.out.size)); clear hb)
     go_roundw
     case rel => exact ⟨j + 1, by go_num, by rw [HJ.out], hjt, Y1⟩
     case measure => simp [intOf]; omega
    ·have hge : ¬ ((j : Int) < (y.pts.length : Int)) := by omega
     have htk : y.pts.take j = y.pts := List.take_of_length_le (by omega)
     rw [htk]
     go_wp2_with fail
     go_roundw
     case rel => exact ⟨k + 1, by go_num, by rw [HV.out], hlt, Lib.hid (X2.out.trans (HQ.out.mono X2.out.size))⟩
     case measure => simp [intOf]; omega
  ·have hge : ¬ ((k : Int) < (f.length : Int)) := by omega
   have htk : f.take k = f := List.take_of_length_le (by omega)
   rw [htk]
   go_wp2
   go_ret
   exact ⟨rfl, HB1.out.trans (HW.out.mono HB1.out.size)⟩
end Go.Proofs.YtlcfpdmicpggbaaGreatDoor
namespace Go.Proofs.YtlcfpdmicpggbaaGreatDoor
open Go.RowKit Go.Proofs.Spl Go.Proofs.Scn Go.Shelf
def fewB (n d : Nat) : Bool := decide (n ≤ 2000) && decide (d ≤ 100)
theorem few_any (f : List Md) (p : Option Addr) (c : Nat) (W : World) (hR : MsR W (.slice p f.length c) f) (h2 : sumN sizeM f ≤ 1000000000) : RetB 13 #[.agg #[.slice p f.length c]] W (fewB (sumN sizeM f) (maxN deepM f)) := by
 have H1 := Lib.hid (fun (W9 : World) (h : Below W.heap.size W W9) => rSize_any f p c h2 W9 (MsR.later hR h))
 have H2 := Lib.hid (fun (W9 : World) (h : Below W.heap.size W W9) => rDeep_any f p c h2 W9 (MsR.later hR h))
 clear hR h2
 generalize sumN sizeM f = a at *
 generalize maxN deepM f = b at *
 by_cases h : a ≤ 2000
 ·have h' : (a : Int) ≤ 2000 := by omega
  go_enter Tryz.func13, Tryz.ntmps13
  go_wp2_with (first
   | (go_at_call 39; refine (H1.out _ ((Below.refl _ _).alloc (Nat.le_refl _) _)).mono ?_; rintro e W2 ⟨rfl, hb⟩; have k0 : W2.cell? ⟨W.heap.size, 0, none⟩ = some (.slice p f.length c) := (cell_of_row _ _ _ _ _ _ ((hb.block W.heap.size (by simp)).trans (World.alloc_heap_new W _))).trans rfl; have C2 := Lib.hid (((Below.refl _ _).alloc (Nat.le_refl _) _).trans (hb.mono (by simp))); clear hb H1)
   | (go_at_call 40; refine (H2.out _ C2.out).mono ?_; rintro e W3 ⟨rfl, hb⟩; have C3 := Lib.hid (C2.out.trans (hb.mono C2.out.size)); clear hb))
  go_ret
  exact ⟨ret_bool (by unfold fewB; rw [decide_eq_true h, Bool.true_and, Bool.eq_iff_iff]; simp; omega), C3.out⟩
 ·have h' : ¬ (a : Int) ≤ 2000 := by omega
  have hd : decide ((a : Int) ≤ 2000) = false := by simpa using h'
  go_enter Tryz.func13, Tryz.ntmps13
  go_wp2_with (go_at_call 39; refine (H1.out _ ((Below.refl _ _).alloc (Nat.le_refl _) _)).mono ?_; rintro e W2 ⟨rfl, hb⟩; have C2 := Lib.hid (((Below.refl _ _).alloc (Nat.le_refl _) _).trans (hb.mono (by simp))); clear hb H1)
  go_ret
  exact ⟨ret_bool (by unfold fewB; rw [decide_eq_false h]; rfl), C2.out⟩
end Go.Proofs.YtlcfpdmicpggbaaGreatDoor
