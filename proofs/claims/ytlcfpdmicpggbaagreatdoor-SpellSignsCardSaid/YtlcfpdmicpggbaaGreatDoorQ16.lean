/- Texts of the seat, merged. -/
import Derived.Test.YtlcfpdmicpggbaaGreatDoorQ15
set_option linter.unusedVariables false
set_option linter.unusedSimpArgs false
set_option maxRecDepth 100000
set_option maxHeartbeats 16000000
namespace Go.Proofs.YtlcfpdmicpggbaaGreatDoor
open Go.RowKit Go.Proofs.Spl Go.Proofs.Scn Go.Shelf Go.Grow
theorem module_any (name : Ln) (ps : List Bd) (pts : List Pt) (l : List It) (pp pt pl : Option Addr) (cp ct cl : Nat) (W : World) (lo : Nat) (hlo : lo ≤ W.heap.size)
  (hpl : ps.length ≤ 1000000) (hPs0 : BsR W (.slice pp ps.length cp) ps) (hP : ∀ y ∈ ps, BindOK y) (htl : pts.length ≤ 1000000) (hTs0 : PsR W (.slice pt pts.length ct) pts) (hT : ∀ y ∈ pts, PortOK y) (hll : l.length ≤ 1000000) (hLs0 : IsR W (.slice pl l.length cl) l) (hL : ∀ y ∈ l, ItemOK y) :
  Calls Tryz.prog 48 #[.agg #[.string (bs name), .slice pp ps.length cp, .slice pt pts.length ct, .slice pl l.length cl]] W (MkPost lo W (List.flatten [[wdT [109, 111, 100, 117, 108, 101]], [nmT name], paramsT ps, inT 40 41 (sepS [44] (pts.map portT)), cubT (l.map itemT).flatten])) := by
 go_enter Tryz.func48, Tryz.ntmps48
 go_wp2_with fail
 obtain ⟨hbx0, hls, hW1⟩ := one_box W (.cells #[.string (bs name), .slice pp ps.length cp, .slice pt pts.length ct, .slice pl l.length cl] 53)
 generalize W.alloc (.cells #[.string (bs name), .slice pp ps.length cp, .slice pt pts.length ct, .slice pl l.length cl] 53) = W1 at *
 have hlo1 : lo ≤ W1.heap.size := by omega
 have hbl0 : W.heap.size < W1.heap.size := by omega
 have y0_0 : W1.cell? ⟨W.heap.size, 0, none⟩ = some (.string (bs name)) := by simp [World.cell?, hbx0]
 have y0_1 : W1.cell? ⟨W.heap.size, 1, none⟩ = some (.slice pp ps.length cp) := by simp [World.cell?, hbx0]
 have y0_2 : W1.cell? ⟨W.heap.size, 2, none⟩ = some (.slice pt pts.length ct) := by simp [World.cell?, hbx0]
 have y0_3 : W1.cell? ⟨W.heap.size, 3, none⟩ = some (.slice pl l.length cl) := by simp [World.cell?, hbx0]
 clear hls hbx0
 have hPs := BsR.later hPs0 hW1
 have hTs := PsR.later hTs0 hW1
 have hLs := IsR.later hLs0 hW1
 refine region_grow Grw (spcAt lo [.seq ([wdT [109, 111, 100, 117, 108, 101]]), .is (.pointer (some ⟨W.heap.size, 0, none⟩)), .is (.string (bs name)), .seq ([nmT (name)]), .is (.pointer (some ⟨W.heap.size, 1, none⟩)), .is (.slice pp ps.length cp), .seq (paramsT (ps)), .is (.pointer (some ⟨W.heap.size, 2, none⟩)), .is (.slice pt pts.length ct), .seq (sepS [44] ((pts).map portT)), .seq (inT 40 41 (sepS [44] ((pts).map portT))), .is (.pointer (some ⟨W.heap.size, 3, none⟩)), .is (.slice pl l.length cl), .seq (cubT ((l).map itemT).flatten), .seqs [[wdT [109, 111, 100, 117, 108, 101]], [nmT (name)], paramsT (ps), inT 40 41 (sepS [44] ((pts).map portT)), cubT ((l).map itemT).flatten], .seq (List.flatten [[wdT [109, 111, 100, 117, 108, 101]], [nmT (name)], paramsT (ps), inT 40 41 (sepS [44] ((pts).map portT)), cubT ((l).map itemT).flatten]), .seq (List.flatten [[wdT [109, 111, 100, 117, 108, 101]], [nmT (name)], paramsT (ps), inT 40 41 (sepS [44] ((pts).map portT)), cubT ((l).map itemT).flatten])])
  (by kernel_rfl) rfl (by kernel_rfl) (by kernel_rfl) (grw_drawn _) grw_trans (spcAt_grw lo _) ?hops ?hfin
 case hops =>
  refine ⟨?o0, ?o1, ?o2, ?o3, ?o4, ?o5, ?o6, ?o7, ?o8, ?o9, ?o10, ?o11, ?o12, ?o13, ?o14, ?o15, ?o16, trivial⟩
  all_goals (intro ev W' hG hr hD; have hc := hr.const; have hf := hr.func)
  case o0 =>
   refine ok_call (f := 92) (args := #[.string { data := #[109, 111, 100, 117, 108, 101] }]) (by simp [execOp, go_sem, hc, hf]) ?_
   have hlo' := Nat.le_trans hlo1 hG.size
   refine (sword_any [109, 111, 100, 117, 108, 101] W' lo hlo').mono ?_
   rintro e W2 ⟨f, rfl, h1, h2⟩
   refine ⟨f, rfl, h2, ?_⟩
   show Seq lo W2 f ([wdT [109, 111, 100, 117, 108, 101]])
   exact h1
  case o1 =>
   have e1 : ev (.tmp 1) = .pointer (some ⟨W.heap.size, 0, none⟩) := hr.tmp 1 (by kernel_rfl)
   exact ok_val (v := .pointer (some ⟨W.heap.size, 0, none⟩)) (by simp [execOp, go_sem, e1]) ⟨Below.refl _ _, rfl⟩
  case o2 =>
   have e4 : ev (.tmp 4) = .pointer (some ⟨W.heap.size, 0, none⟩) := hD 1 4 (by kernel_rfl)
   have m0 := (hG.cell (p := ⟨W.heap.size, 0, none⟩) hbl0).trans y0_0
   exact ok_val (v := .string (bs name)) (by simp [execOp, go_sem, e4, m0]) ⟨Below.refl _ _, rfl⟩
  case o3 =>
   have e5 : ev (.tmp 5) = .string (bs name) := hD 2 5 (by kernel_rfl)
   refine ok_call (f := 93) (args := #[.string (bs name)]) (by simp [execOp, go_sem, hc, hf, e5]) ?_
   have hlo' := Nat.le_trans hlo1 hG.size
   refine (sname_any (name) W' lo hlo').mono ?_
   rintro e W2 ⟨f, rfl, h1, h2⟩
   refine ⟨f, rfl, h2, ?_⟩
   show Seq lo W2 f ([nmT (name)])
   exact h1
  case o4 =>
   have e1 : ev (.tmp 1) = .pointer (some ⟨W.heap.size, 0, none⟩) := hr.tmp 1 (by kernel_rfl)
   exact ok_val (v := .pointer (some ⟨W.heap.size, 1, none⟩)) (by simp [execOp, go_sem, e1]) ⟨Below.refl _ _, rfl⟩
  case o5 =>
   have e7 : ev (.tmp 7) = .pointer (some ⟨W.heap.size, 1, none⟩) := hD 4 7 (by kernel_rfl)
   have m0 := (hG.cell (p := ⟨W.heap.size, 1, none⟩) hbl0).trans y0_1
   exact ok_val (v := .slice pp ps.length cp) (by simp [execOp, go_sem, e7, m0]) ⟨Below.refl _ _, rfl⟩
  case o6 =>
   have e8 : ev (.tmp 8) = .slice pp ps.length cp := hD 5 8 (by kernel_rfl)
   refine ok_call (f := 94) (args := #[.slice pp ps.length cp]) (by simp [execOp, go_sem, hc, hf, e8]) ?_
   have hlo' := Nat.le_trans hlo1 hG.size
   refine (params_any _ (ps) hpl W' lo hlo' (BsR.later hPs hG) hP).mono ?_
   rintro e W2 ⟨f, rfl, h1, h2⟩
   refine ⟨f, rfl, h2, ?_⟩
   show Seq lo W2 f (paramsT (ps))
   exact h1
  case o7 =>
   have e1 : ev (.tmp 1) = .pointer (some ⟨W.heap.size, 0, none⟩) := hr.tmp 1 (by kernel_rfl)
   exact ok_val (v := .pointer (some ⟨W.heap.size, 2, none⟩)) (by simp [execOp, go_sem, e1]) ⟨Below.refl _ _, rfl⟩
  case o8 =>
   have e10 : ev (.tmp 10) = .pointer (some ⟨W.heap.size, 2, none⟩) := hD 7 10 (by kernel_rfl)
   have m0 := (hG.cell (p := ⟨W.heap.size, 2, none⟩) hbl0).trans y0_2
   exact ok_val (v := .slice pt pts.length ct) (by simp [execOp, go_sem, e10, m0]) ⟨Below.refl _ _, rfl⟩
  case o9 =>
   have e11 : ev (.tmp 11) = .slice pt pts.length ct := hD 8 11 (by kernel_rfl)
   refine ok_call (f := 96) (args := #[.slice pt pts.length ct, .string { data := #[44] }, .func (.func 97) #[] #[]]) (by simp [execOp, go_sem, hc, hf, e11]) ?_
   have hlo' := Nat.le_trans hlo1 hG.size
   refine (eachP_any [44] (by decide) _ (pts) htl W' lo hlo' (PsR.later hTs hG) hT).mono ?_
   rintro e W2 ⟨f, rfl, h1, h2⟩
   refine ⟨f, rfl, h2, ?_⟩
   show Seq lo W2 f (sepS [44] ((pts).map portT))
   exact h1
  case o10 =>
   have s12 : Seq lo W' (ev (.tmp 12)) (sepS [44] ((pts).map portT)) := hD 9 12 (by kernel_rfl)
   refine ok_call (f := 95) (args := #[.string { data := #[40, 41] }, ev (.tmp 12)]) (by simp [execOp, go_sem, hc, hf]) ?_
   have hlo' := Nat.le_trans hlo1 hG.size
   refine (in_any 40 41 _ _ W' lo hlo' s12).mono ?_
   rintro e W2 ⟨f, rfl, h1, h2⟩
   refine ⟨f, rfl, h2, ?_⟩
   show Seq lo W2 f (inT 40 41 (sepS [44] ((pts).map portT)))
   exact h1
  case o11 =>
   have e1 : ev (.tmp 1) = .pointer (some ⟨W.heap.size, 0, none⟩) := hr.tmp 1 (by kernel_rfl)
   exact ok_val (v := .pointer (some ⟨W.heap.size, 3, none⟩)) (by simp [execOp, go_sem, e1]) ⟨Below.refl _ _, rfl⟩
  case o12 =>
   have e14 : ev (.tmp 14) = .pointer (some ⟨W.heap.size, 3, none⟩) := hD 11 14 (by kernel_rfl)
   have m0 := (hG.cell (p := ⟨W.heap.size, 3, none⟩) hbl0).trans y0_3
   exact ok_val (v := .slice pl l.length cl) (by simp [execOp, go_sem, e14, m0]) ⟨Below.refl _ _, rfl⟩
  case o13 =>
   have e15 : ev (.tmp 15) = .slice pl l.length cl := hD 12 15 (by kernel_rfl)
   refine ok_call (f := 98) (args := #[.slice pl l.length cl]) (by simp [execOp, go_sem, hc, hf, e15]) ?_
   have hlo' := Nat.le_trans hlo1 hG.size
   refine (items_any _ (l) hll W' lo hlo' (IsR.later hLs hG) hL).mono ?_
   rintro e W2 ⟨f, rfl, h1, h2⟩
   refine ⟨f, rfl, h2, ?_⟩
   show Seq lo W2 f (cubT ((l).map itemT).flatten)
   exact h1
  case o14 =>
   obtain ⟨g3, l3, e3, s3⟩ := seq_form (show Seq lo W' (ev (.tmp 3)) ([wdT [109, 111, 100, 117, 108, 101]]) from hD 0 3 (by kernel_rfl))
   obtain ⟨g6, l6, e6, s6⟩ := seq_form (show Seq lo W' (ev (.tmp 6)) ([nmT (name)]) from hD 3 6 (by kernel_rfl))
   obtain ⟨g9, l9, e9, s9⟩ := seq_form (show Seq lo W' (ev (.tmp 9)) (paramsT (ps)) from hD 6 9 (by kernel_rfl))
   obtain ⟨g13, l13, e13, s13⟩ := seq_form (show Seq lo W' (ev (.tmp 13)) (inT 40 41 (sepS [44] ((pts).map portT))) from hD 10 13 (by kernel_rfl))
   obtain ⟨g16, l16, e16, s16⟩ := seq_form (show Seq lo W' (ev (.tmp 16)) (cubT ((l).map itemT).flatten) from hD 13 16 (by kernel_rfl))
   have hn := seqs_new (lo := lo) (W := W') (fs := [.func (.func g3) #[] l3, .func (.func g6) #[] l6, .func (.func g9) #[] l9, .func (.func g13) #[] l13, .func (.func g16) #[] l16]) (ls := [[wdT [109, 111, 100, 117, 108, 101]], [nmT (name)], paramsT (ps), inT 40 41 (sepS [44] ((pts).map portT)), cubT ((l).map itemT).flatten]) ⟨s3, s6, s9, s13, s16, trivial⟩ (Nat.le_trans hlo1 hG.size)
   exact ok_new (v := .slice (some ⟨W'.heap.size, 0, none⟩) 5 5) (W' := W'.alloc (.cells #[.func (.func g3) #[] l3, .func (.func g6) #[] l6, .func (.func g9) #[] l9, .func (.func g13) #[] l13, .func (.func g16) #[] l16] 79)) (by simp [execOp, go_sem, e3, e6, e9, e13, e16]) ⟨hn.2, hn.1⟩
  case o15 =>
   have s17 : Seqs lo W' (ev (.tmp 17)) [[wdT [109, 111, 100, 117, 108, 101]], [nmT (name)], paramsT (ps), inT 40 41 (sepS [44] ((pts).map portT)), cubT ((l).map itemT).flatten] := hD 14 17 (by kernel_rfl)
   refine ok_call (f := 91) (args := #[ev (.tmp 17)]) (by simp [execOp, go_sem, hc, hf]) ?_
   have hlo' := Nat.le_trans hlo1 hG.size
   refine (row_any _ _ (by simp) W' lo hlo' s17).mono ?_
   rintro e W2 ⟨f, rfl, h1, h2⟩
   refine ⟨f, rfl, h2, ?_⟩
   show Seq lo W2 f (List.flatten [[wdT [109, 111, 100, 117, 108, 101]], [nmT (name)], paramsT (ps), inT 40 41 (sepS [44] ((pts).map portT)), cubT ((l).map itemT).flatten])
   exact h1
  case o16 =>
   have s18 : Seq lo W' (ev (.tmp 18)) (List.flatten [[wdT [109, 111, 100, 117, 108, 101]], [nmT (name)], paramsT (ps), inT 40 41 (sepS [44] ((pts).map portT)), cubT ((l).map itemT).flatten]) := hD 15 18 (by kernel_rfl)
   exact ok_val (v := ev (.tmp 18)) (by simp [execOp, go_sem]) ⟨Below.refl _ _, s18⟩
 case hfin =>
  intro zz W' hG hzz
  have h9 : Seq lo W' (zz 16) (List.flatten [[wdT [109, 111, 100, 117, 108, 101]], [nmT (name)], paramsT (ps), inT 40 41 (sepS [44] ((pts).map portT)), cubT ((l).map itemT).flatten]) := hzz 16 (by simp)
  simp only [putAll, Act.put, List.setIfInBounds_toArray, List.set_cons_zero, List.set_cons_succ]
  go_wp2_with fail
  go_ret
  refine ⟨_, rfl, ?_, hW1.trans (Below.mono hG (by omega))⟩
  exact h9
theorem bind_ok (b : Bd) (h : okB b = true) (hs : sizeB b ≤ 1000000) : BindOK b := by
 unfold okB at h
 unfold sizeB at hs
 rw [Bool.and_eq_true] at h
 exact bind_any b (expr_ok b.x h.2 (by omega))
theorem port_ok (b : Pt) (h : okP b = true) (hs : sizeP b ≤ 1000000) : PortOK b := by
 unfold okP at h
 unfold sizeP at hs
 rw [Bool.and_eq_true] at h
 exact port_any b (expr_ok b.w h.2 (by omega))
theorem one_sizeB (b : Bd) : 1 ≤ sizeB b := by unfold sizeB; omega
theorem one_sizeP (b : Pt) : 1 ≤ sizeP b := by unfold sizeP; omega
theorem sizeI_eq (t : It) : sizeI t = sumN sizeX t.x + sumN sizeS t.s + sumN sizeI t.l + sumN sizeI t.e + sumN sizeB t.ps + sumN sizeB t.bs + 1 := by
 cases t; rw [sizeI, sizeXs_sum, sizeSs_sum, sizeIs_sum, sizeIs_sum]; rfl
theorem itemT_eq (op : Int) (name f : Ln) (x : List X) (s : List S) (l e : List It) (ps bb : List Bd) : itemT (.mk op name f x s l e ps bb) = itT op name f x s e ps bb (l.map itemT) (e.map itemT) := by
 rw [itemT, itemsT_map, itemsT_map]
theorem xs_rows {W : World} {n c : Nat} {p : Option Addr} {x : List X} (h : XsR W (.slice p n c) x) (h0 : x ≠ []) : ∃ q o, p = some ⟨q, o, none⟩ ∧ q < W.heap.size ∧ Spl.Rows W 6 (XR W) q o x := by
 obtain ⟨p', c', h1, _, h2⟩ := h
 cases h1
 rcases h2 with h2 | ⟨b, o, h3, h4, h5⟩
 ·exact absurd h2 h0
 ·exact ⟨b, o, h3, h4, h5⟩
theorem two_of {x : List X} (h : x.length = 2) : ∃ a b, x = [a, b] := by
 match x, h with
 | [a, b], _ => exact ⟨a, b, rfl⟩
theorem one_of {x : List X} (h : x.length = 1) : ∃ a, x = [a] := by
 match x, h with
 | [a], _ => exact ⟨a, rfl⟩
theorem item_ok : ∀ t : It, okI t = true → sizeI t ≤ 1000000 → ItemOK t := by
 refine It.ind ?_
 intro t ihl ihe ht hsz W lo cs hlo hR
 obtain ⟨op, name, fo, x, s, l, e, ps, bb⟩ := t
 have ht' := ht
 rw [okI_iff] at ht'
 rw [sizeI_eq] at hsz
 obtain ⟨vx, vs, vl, ve, vp, vb, rfl, hX, hS, hP, hB, hL, hEe⟩ := IR_iff.1 hR
 simp only [It.op, It.name, It.of, It.x, It.s, It.l, It.e, It.ps, It.bs, Bool.and_eq_true, List.all_eq_true] at *
 obtain ⟨⟨⟨⟨⟨⟨h0, hx⟩, hs⟩, hl⟩, he⟩, hp⟩, hb⟩ := ht'
 have hE : ∀ y ∈ x, ExprOK y := fun y hy => expr_ok y (hx y hy) (by have := sumN_mem sizeX hy; omega)
 have hSS : ∀ put : Ln, put ≠ [] → ∀ y ∈ s, StmtOK put y := fun put hput y hy => stmt_ok put hput y (by have := hs; rw [okSs_all, List.all_eq_true] at this; exact this y hy) (by have := sumN_mem sizeS hy; omega)
 have hLL : ∀ y ∈ l, ItemOK y := fun y hy => ihl y hy (hl y hy) (by have := sumN_mem sizeI hy; omega)
 have hEE : ∀ y ∈ e, ItemOK y := fun y hy => ihe y hy (he y hy) (by have := sumN_mem sizeI hy; omega)
 have hPP : ∀ y ∈ ps, BindOK y := fun y hy => bind_ok y (hp y hy) (by have := sumN_mem sizeB hy; omega)
 have hBB : ∀ y ∈ bb, BindOK y := fun y hy => bind_ok y (hb y hy) (by have := sumN_mem sizeB hy; omega)
 have hxl : x.length ≤ 1000000 := by have := sumN_len sizeX one_sizeX x; omega
 have hsl : s.length ≤ 1000000 := by have := sumN_len sizeS one_sizeS s; omega
 have hll : l.length ≤ 1000000 := by have := sumN_len sizeI one_sizeI l; omega
 have hel : e.length ≤ 1000000 := by have := sumN_len sizeI one_sizeI e; omega
 have hpl : ps.length ≤ 1000000 := by have := sumN_len sizeB one_sizeB ps; omega
 have hbl : bb.length ≤ 1000000 := by have := sumN_len sizeB one_sizeB bb; omega
 have hX0 := hX
 have hS0 := hS
 have hP0 := hP
 have hB0 := hB
 have hL0 := hL
 have hE0 := hEe
 obtain ⟨px, cx, rfl, _, _⟩ := hX
 obtain ⟨pq, cq, rfl, _, _⟩ := hS
 obtain ⟨pp, cp, rfl, _, _⟩ := hP
 obtain ⟨pb, cb, rfl, _, _⟩ := hB
 obtain ⟨pl, cl, rfl, _, _⟩ := hL
 obtain ⟨pe, ce, rfl, _, _⟩ := hEe
 rw [itemT_eq]
 unfold okIt at h0
 simp only [Bool.and_eq_true, decide_eq_true_eq, beq_iff_eq] at h0
 obtain ⟨⟨⟨⟨⟨⟨⟨⟨⟨ho1, ho2⟩, _⟩, _⟩, hc⟩, _⟩, _⟩, _⟩, _⟩, _⟩ := h0
 have hop : op = 1 ∨ op = 2 ∨ op = 3 ∨ op = 4 ∨ op = 5 ∨ op = 6 ∨ op = 7 ∨ op = 8 ∨ op = 9 ∨ op = 10 := by omega
 rcases hop with h | h | h | h | h | h | h | h | h | h <;> subst h
 ·have hx1 : x.length = 1 := by simpa [countI] using hc
  obtain ⟨q, o, rfl, hq, hr⟩ := xs_rows hX0 (by intro h; rw [h] at hx1; cases hx1)
  rw [hx1]
  have := item_const name fo x s l e ps bb (some ⟨q, o, none⟩) pq pl pe pp pb cx cq cl ce cp cb W lo hlo hx1 hE q o hq hr
  obtain ⟨a, rfl⟩ := one_of hx1
  exact (show itT 1 name fo [a] s e ps bb (l.map itemT) (e.map itemT) = List.flatten ([[wdT [99, 111, 110, 115, 116]], [nmT name]] ++ zipT [[61]] [a] ++ [[sgT [59]]]) by simp [itT, zipT, listT_one]) ▸ this
 ·have hx1 : x.length = 1 := by simpa [countI] using hc
  obtain ⟨q, o, rfl, hq, hr⟩ := xs_rows hX0 (by intro h; rw [h] at hx1; cases hx1)
  rw [hx1]
  have := item_wire name fo x s l e ps bb (some ⟨q, o, none⟩) pq pl pe pp pb cx cq cl ce cp cb W lo hlo hx1 hE q o hq hr
  obtain ⟨a, rfl⟩ := one_of hx1
  exact (show itT 2 name fo [a] s e ps bb (l.map itemT) (e.map itemT) = List.flatten ([[wdT [119, 105, 114, 101]], [nmT name]] ++ zipT [[58]] [a] ++ [[sgT [59]]]) by simp [itT, zipT, listT_one]) ▸ this
 ·have hx1 : x.length = 2 := by simpa [countI] using hc
  obtain ⟨q, o, rfl, hq, hr⟩ := xs_rows hX0 (by intro h; rw [h] at hx1; cases hx1)
  rw [hx1]
  have := item_reg name fo x s l e ps bb (some ⟨q, o, none⟩) pq pl pe pp pb cx cq cl ce cp cb W lo hlo hx1 hE q o hq hr
  obtain ⟨a, b, rfl⟩ := two_of hx1
  exact (show itT 3 name fo [a, b] s e ps bb (l.map itemT) (e.map itemT) = List.flatten ([[wdT [114, 101, 103]], [nmT name]] ++ zipT [[58], [61]] [a, b] ++ [[sgT [59]]]) by simp [itT, zipT, sepS]) ▸ this
 ·have := item_assign name fo x s l e ps bb px pq pl pe pp pb cx cq cl ce cp cb W lo hlo hxl hX0 hE
  exact (show itT 4 name fo x s e ps bb (l.map itemT) (e.map itemT) = List.flatten [[wdT [97, 115, 115, 105, 103, 110]], sepS [61] (x.map exprT), [sgT [59]]] by simp [itT]) ▸ this
 ·have := item_comb name fo x s l e ps bb px pq pl pe pp pb cx cq cl ce cp cb W lo hlo hsl hS0 (hSS [61] (by simp))
  exact (show itT 5 name fo x s e ps bb (l.map itemT) (e.map itemT) = List.flatten [[wdT [99, 111, 109, 98]], blockT [61] s] by simp [itT]) ▸ this
 ·have := item_tick name fo x s l e ps bb px pq pl pe pp pb cx cq cl ce cp cb W lo hlo hsl hS0 (hSS [60, 61] (by simp))
  exact (show itT 6 name fo x s e ps bb (l.map itemT) (e.map itemT) = List.flatten [[wdT [111, 110]], [wdT [116, 105, 99, 107]], blockT [60, 61] s] by simp [itT]) ▸ this
 ·have := item_inst name fo x s l e ps bb px pq pl pe pp pb cx cq cl ce cp cb W lo hlo hpl hP0 hPP hbl hB0 hBB
  exact (show itT 7 name fo x s e ps bb (l.map itemT) (e.map itemT) = List.flatten [[wdT [105, 110, 115, 116]], [nmT name], [sgT [58]], [nmT fo], paramsT ps, inT 40 41 (sepS [44] (bb.map bindT)), [sgT [59]]] by simp [itT, bindsT, parT, inT]) ▸ this
 ·have hx1 : x.length = 1 := by simpa [countI] using hc
  obtain ⟨q, o, rfl, hq, hr⟩ := xs_rows hX0 (by intro h; rw [h] at hx1; cases hx1)
  obtain ⟨a, rfl⟩ := one_of hx1
  have za : XAt W q o a := kidsX hr 0 a rfl
  by_cases he0 : e = []
  ·subst he0
   have := item_if_none name fo [a] s l [] ps bb (some ⟨q, o, none⟩) pq pl pe pp pb cx cq cl ce cp cb W lo hlo a (hE a (by simp)) hll hL0 hLL q o hq za
   exact (show itT 8 name fo [a] s [] ps bb (l.map itemT) (([] : List It).map itemT) = List.flatten [[wdT [105, 102]], inT 40 41 (exprT a), cubT (l.map itemT).flatten] by simp [itT, listT_one, parT, inT, ifW]) ▸ this
  ·have := item_if_some name fo [a] s l e ps bb (some ⟨q, o, none⟩) pq pl pe pp pb cx cq cl ce cp cb W lo hlo a (hE a (by simp)) hll hL0 hLL hel he0 hE0 hEE q o hq za
   exact (show itT 8 name fo [a] s e ps bb (l.map itemT) (e.map itemT) = List.flatten [[wdT [105, 102]], inT 40 41 (exprT a), cubT (l.map itemT).flatten, [wdT [101, 108, 115, 101]], cubT (e.map itemT).flatten] by simp [itT, listT_one, parT, inT, ifW, elseW, he0]) ▸ this
 ·have := item_for name fo x s l e ps bb px pq pl pe pp pb cx cq cl ce cp cb W lo hlo hxl hX0 hE hll hL0 hLL
  exact (show itT 9 name fo x s e ps bb (l.map itemT) (e.map itemT) = List.flatten [[wdT [102, 111, 114]], [nmT name], spanT fo x, cubT (l.map itemT).flatten] by simp [itT, forW]) ▸ this
 ·have hx1 : x.length = 1 := by simpa [countI] using hc
  obtain ⟨q, o, rfl, hq, hr⟩ := xs_rows hX0 (by intro h; rw [h] at hx1; cases hx1)
  rw [hx1]
  have := item_check name fo x s l e ps bb (some ⟨q, o, none⟩) pq pl pe pp pb cx cq cl ce cp cb W lo hlo hx1 hE q o hq hr
  obtain ⟨a, rfl⟩ := one_of hx1
  exact (show itT 10 name fo [a] s e ps bb (l.map itemT) (e.map itemT) = List.flatten ([[wdT [99, 104, 101, 99, 107]], [nmT name]] ++ zipT [[58]] [a] ++ [[sgT [59]]]) by simp [itT, zipT, listT_one]) ▸ this
theorem module_ok (m : Md) (h : okM m = true) (hsz : sizeM m ≤ 1000000) : ModuleOK m := by
 intro W lo cs hlo hR
 obtain ⟨vp, vt, vi, rfl, hP, hT, hL⟩ := hR
 unfold okM at h
 unfold sizeM at hsz
 rw [sizeIs_sum] at hsz
 rw [okIs_all] at h
 simp only [Bool.and_eq_true, List.all_eq_true] at h
 obtain ⟨⟨⟨_, hp⟩, ht⟩, hl⟩ := h
 have hP0 := hP
 have hT0 := hT
 have hL0 := hL
 obtain ⟨pp, cp, rfl, _, _⟩ := hP
 obtain ⟨pt, ct, rfl, _, _⟩ := hT
 obtain ⟨pl, cl, rfl, _, _⟩ := hL
 have := module_any m.name m.ps m.pts m.l pp pt pl cp ct cl W lo hlo (by have := sumN_len sizeB one_sizeB m.ps; omega) hP0 (fun y hy => bind_ok y (hp y hy) (by have := sumN_mem sizeB hy; omega)) (by have := sumN_len sizeP one_sizeP m.pts; omega) hT0 (fun y hy => port_ok y (ht y hy) (by have := sumN_mem sizeP hy; omega)) (by have := sumN_len sizeI one_sizeI m.l; omega) hL0 (fun y hy => item_ok y (hl y hy) (by have := sumN_mem sizeI hy; omega))
 exact (show moduleT m = List.flatten [[wdT [109, 111, 100, 117, 108, 101]], [nmT m.name], paramsT m.ps, inT 40 41 (sepS [44] (m.pts.map portT)), cubT (m.l.map itemT).flatten] by simp [moduleT, parT, inT, itemsT_map]) ▸ this
end Go.Proofs.YtlcfpdmicpggbaaGreatDoor
namespace Go.Proofs.YtlcfpdmicpggbaaGreatDoor
open Go.RowKit Go.Proofs.Spl Go.Proofs.Scn Go.Shelf
theorem TokRow.shape {B : Nat} {w : World} {v : Value} {ts : List Tok} (h : TokRow B w v ts) : ∃ p c, v = .slice p ts.length c := by
 rcases h.2 with ⟨h0, h1⟩ | ⟨g, cap, cur, hv, _⟩
 ·have : ts.length = 0 := by simpa using h1
  exact ⟨none, 0, by rw [h0, this]⟩
 ·exact ⟨_, _, hv⟩
def TkPost (W : World) (c : Int) (ts : List Tok) (e : Ending) (W' : World) : Prop := ∃ v, e = .returned (.tuple #[v, .int .i64 c]) ∧ TokRow W.heap.size W' v (if c = 0 then ts else []) ∧ Below W.heap.size W W'
theorem tk_err {W W' : World} {c : Int} {ts : List Tok} (hc : c ≠ 0) (hb : Below W.heap.size W W') : TkPost W c ts (.returned (.tuple #[.slice none 0 0, .int .i64 c])) W' := by
 refine ⟨_, rfl, ?_, hb⟩
 rw [if_neg hc]
 exact World.ownsRow_nil W' W.heap.size _ 5
theorem TokRow.less {B B' : Nat} {w : World} {v : Value} {ts : List Tok} (h : TokRow B w v ts) (hl : B' ≤ B) : TokRow B' w v ts := by
 refine ⟨h.1, ?_⟩
 rcases h.2 with h0 | ⟨g, cap, cur, hv, hB, h2⟩
 ·exact .inl h0
 ·exact .inr ⟨g, cap, cur, hv, Nat.le_trans hl hB, h2⟩
theorem tk_ok {W W' W'' : World} {ts : List Tok} {v : Value} (h : TokRow W''.heap.size W' v ts) (h2 : Below W.heap.size W W'') (hb : Below W.heap.size W W') : TkPost W 0 ts (.returned (.tuple #[v, .int .i64 0])) W' :=
 ⟨_, rfl, by rw [if_pos rfl]; exact h.less h2.size, hb⟩
theorem collect_any (f : Value) (ts : List Tok) (hlen : ts.length ≤ 1000000) (lo : Nat) (w : World) (hs : Seq lo w f ts) :
  Calls Tryz.prog 46 #[f] w fun e W' => ∃ v, e = .returned v ∧ TokRow w.heap.size W' v ts ∧ Below w.heap.size w W' := by
 have HA := Lib.hid (appendSeq_any f ts hlen lo w hs)
 obtain ⟨g, lb, rfl, _⟩ := hs
 go_enter Tryz.func46, Tryz.ntmps46
 go_wp2_with (go_at_call 89; refine HA.out.mono ?_; rintro e W2 ⟨v, rfl, h1, h2⟩; obtain ⟨p, c, rfl⟩ := h1.shape; have H1 := Lib.hid h1; have H2 := Lib.hid h2; clear h1 h2)
 go_ret
 exact ⟨_, rfl, H1.out, H2.out⟩
theorem tokensX_any (x : X) (cs : List Value) (W : World) (hB : BaseA W) (hR : XR W x cs) (h1 : smX x = true) (h2 : sizeX x ≤ 60000) : Calls Tryz.prog 18 #[.agg cs.toArray] W (TkPost W (checkX x) (exprT x)) := by
 have HC := Lib.hid (fun (W9 : World) (h : Below W.heap.size W W9) => checkX_any x cs W9 (hB.later h) (XR.later h _ _ hR) h1 (by omega))
 have hok := checkX_ok (x := x)
 have HX := Lib.hid (fun (h0 : checkX x = 0) (W9 : World) (h : Below W.heap.size W W9) => expr_ok x (hok.1 h0).2.2 (by omega) W9 W9.heap.size cs (Nat.le_refl _) (XR.later h _ _ hR))
 have HLEN := Lib.hid (show (exprT x).length ≤ 1000000 by have := expr_len x; omega)
 obtain ⟨hv, ls, rfl, hL⟩ := XR_iff.1 hR
 obtain ⟨p, c, rfl, _⟩ := hL
 clear hR hB hok h1 h2
 generalize checkX x = r at *
 by_cases hc : r = 0
 ·have HX2 := Lib.hid (HX.out hc)
  subst hc
  clear HX
  go_enter Tryz.func18, Tryz.ntmps18
  go_wp2_with (first
   | (go_at_call 28; refine (HC.out _ ((Below.refl _ _).alloc (Nat.le_refl _) _)).mono ?_; rintro e W2 ⟨rfl, hb⟩; have hc := (hb.block W.heap.size (by simp)).trans (World.alloc_heap_new W _); obtain ⟨k0, k1, k2, k3, k4, k5⟩ := cells6 hc; have C2 := Lib.hid (((Below.refl _ _).alloc (Nat.le_refl _) _).trans (hb.mono (by simp))); clear hb hc HC)
   | (go_at_call 56; refine (HX2.out _ C2.out).mono ?_; rintro e W3 ⟨f, rfl, hs, hb⟩; obtain ⟨g, lb, rfl, hs⟩ := seq_form hs; have HF := Lib.hid hs; have C3 := Lib.hid (C2.out.trans (hb.mono C2.out.size)); clear hb hs HX2)
   | (go_at_call 46; refine (collect_any _ _ HLEN.out _ _ HF.out).mono ?_; rintro e W4 ⟨v, rfl, h1, h2⟩; obtain ⟨p9, c9, rfl⟩ := h1.shape; have H1 := Lib.hid h1; have H2 := Lib.hid (C3.out.trans (h2.mono C3.out.size)); clear h1 h2))
  go_ret2
  exact tk_ok H1.out C3.out H2.out
 ·have hc2 : (r != 0) = true := by simpa using hc
  have HN := Lib.hid hc
  clear hc HX
  go_enter Tryz.func18, Tryz.ntmps18
  go_wp2_with (go_at_call 28; refine (HC.out _ ((Below.refl _ _).alloc (Nat.le_refl _) _)).mono ?_; rintro e W2 ⟨rfl, hb⟩; have C2 := Lib.hid (((Below.refl _ _).alloc (Nat.le_refl _) _).trans (hb.mono (by simp))); clear hb HC)
  go_ret2
  exact tk_err HN.out C2.out
theorem tokensS_put1 (x : S) (cs : List Value) (W : World) (hB : BaseA W) (hR : SR W x cs) (h1 : smS x = true) (h2 : sizeS x ≤ 60000) : Calls Tryz.prog 20 #[.agg cs.toArray, .bool false] W (TkPost W (checkS x) (stmtT [61] x)) := by
 have HC := Lib.hid (fun (W9 : World) (h : Below W.heap.size W W9) => checkS_any x cs W9 (hB.later h) (SR.later h _ _ hR) h1 (by omega))
 have hok := checkS_ok (x := x)
 have HX := Lib.hid (fun (h0 : checkS x = 0) (W9 : World) (h : Below W.heap.size W W9) => stmt_ok [61] (by decide) x (hok.1 h0).2.2 (by omega) W9 W9.heap.size cs (Nat.le_refl _) (SR.later h _ _ hR))
 have HLEN := Lib.hid (show (stmtT [61] x).length ≤ 1000000 by have := stmt_len [61] x; omega)
 obtain ⟨xs, ls, rfl, hX, hL⟩ := SR_iff.1 hR
 obtain ⟨p, c, rfl, _⟩ := hL
 obtain ⟨p', c', rfl, _⟩ := hX
 clear hR hB hok h1 h2
 generalize checkS x = r at *
 by_cases hc : r = 0
 ·have HX2 := Lib.hid (HX.out hc)
  subst hc
  clear HX
  go_enter Tryz.func20, Tryz.ntmps20
  go_wp2_with (first
   | (go_at_call 59; refine (HC.out _ ((Below.refl _ _).alloc (Nat.le_refl _) _)).mono ?_; rintro e W2 ⟨rfl, hb⟩; have hc := (hb.block W.heap.size (by simp)).trans (World.alloc_heap_new W _); obtain ⟨k0, k1, k2, k3⟩ := cells4 hc; have hl2 := Nat.lt_of_lt_of_le (show W.heap.size < (W.alloc _).heap.size by simp) hb.size; have C2 := Lib.hid (((Below.refl _ _).alloc (Nat.le_refl _) _).trans (hb.mono (by simp))); have q0 := fun o => (((Below.refl W2.heap.size W2).alloc (Nat.le_refl _) o).cell (p := ⟨W.heap.size, 0, none⟩) hl2).trans k0; have q1 := fun o => (((Below.refl W2.heap.size W2).alloc (Nat.le_refl _) o).cell (p := ⟨W.heap.size, 1, none⟩) hl2).trans k1; have q2 := fun o => (((Below.refl W2.heap.size W2).alloc (Nat.le_refl _) o).cell (p := ⟨W.heap.size, 2, none⟩) hl2).trans k2; have q3 := fun o => (((Below.refl W2.heap.size W2).alloc (Nat.le_refl _) o).cell (p := ⟨W.heap.size, 3, none⟩) hl2).trans k3; clear hb hc HC)
   | (go_at_call 60; refine (HX2.out _ (C2.out.alloc C2.out.size _)).mono ?_; rintro e W3 ⟨f, rfl, hs, hb⟩; obtain ⟨g, lb, rfl, hs⟩ := seq_form hs; have HF := Lib.hid hs; have C3 := Lib.hid ((C2.out.alloc C2.out.size _).trans (hb.mono (C2.out.alloc C2.out.size _).size)); clear hb hs HX2)
   | (go_at_call 46; refine (collect_any _ _ HLEN.out _ _ HF.out).mono ?_; rintro e W4 ⟨v, rfl, h1, h2⟩; obtain ⟨p9, c9, rfl⟩ := h1.shape; have H1 := Lib.hid h1; have H2 := Lib.hid (C3.out.trans (h2.mono C3.out.size)); clear h1 h2))
  go_ret2
  exact tk_ok H1.out C3.out H2.out
 ·have hc2 : (r != 0) = true := by simpa using hc
  have HN := Lib.hid hc
  clear hc HX
  go_enter Tryz.func20, Tryz.ntmps20
  go_wp2_with (go_at_call 59; refine (HC.out _ ((Below.refl _ _).alloc (Nat.le_refl _) _)).mono ?_; rintro e W2 ⟨rfl, hb⟩; have C2 := Lib.hid (((Below.refl _ _).alloc (Nat.le_refl _) _).trans (hb.mono (by simp))); clear hb HC)
  go_ret2
  exact tk_err HN.out C2.out
theorem tokensS_put2 (x : S) (cs : List Value) (W : World) (hB : BaseA W) (hR : SR W x cs) (h1 : smS x = true) (h2 : sizeS x ≤ 60000) : Calls Tryz.prog 20 #[.agg cs.toArray, .bool true] W (TkPost W (checkS x) (stmtT [60, 61] x)) := by
 have HC := Lib.hid (fun (W9 : World) (h : Below W.heap.size W W9) => checkS_any x cs W9 (hB.later h) (SR.later h _ _ hR) h1 (by omega))
 have hok := checkS_ok (x := x)
 have HX := Lib.hid (fun (h0 : checkS x = 0) (W9 : World) (h : Below W.heap.size W W9) => stmt_ok [60, 61] (by decide) x (hok.1 h0).2.2 (by omega) W9 W9.heap.size cs (Nat.le_refl _) (SR.later h _ _ hR))
 have HLEN := Lib.hid (show (stmtT [60, 61] x).length ≤ 1000000 by have := stmt_len [60, 61] x; omega)
 obtain ⟨xs, ls, rfl, hX, hL⟩ := SR_iff.1 hR
 obtain ⟨p, c, rfl, _⟩ := hL
 obtain ⟨p', c', rfl, _⟩ := hX
 clear hR hB hok h1 h2
 generalize checkS x = r at *
 by_cases hc : r = 0
 ·have HX2 := Lib.hid (HX.out hc)
  subst hc
  clear HX
  go_enter Tryz.func20, Tryz.ntmps20
  go_wp2_with (first
   | (go_at_call 59; refine (HC.out _ ((Below.refl _ _).alloc (Nat.le_refl _) _)).mono ?_; rintro e W2 ⟨rfl, hb⟩; have hc := (hb.block W.heap.size (by simp)).trans (World.alloc_heap_new W _); obtain ⟨k0, k1, k2, k3⟩ := cells4 hc; have hl2 := Nat.lt_of_lt_of_le (show W.heap.size < (W.alloc _).heap.size by simp) hb.size; have C2 := Lib.hid (((Below.refl _ _).alloc (Nat.le_refl _) _).trans (hb.mono (by simp))); have q0 := fun o => (((Below.refl W2.heap.size W2).alloc (Nat.le_refl _) o).cell (p := ⟨W.heap.size, 0, none⟩) hl2).trans k0; have q1 := fun o => (((Below.refl W2.heap.size W2).alloc (Nat.le_refl _) o).cell (p := ⟨W.heap.size, 1, none⟩) hl2).trans k1; have q2 := fun o => (((Below.refl W2.heap.size W2).alloc (Nat.le_refl _) o).cell (p := ⟨W.heap.size, 2, none⟩) hl2).trans k2; have q3 := fun o => (((Below.refl W2.heap.size W2).alloc (Nat.le_refl _) o).cell (p := ⟨W.heap.size, 3, none⟩) hl2).trans k3; clear hb hc HC)
   | (go_at_call 60; refine (HX2.out _ (C2.out.alloc C2.out.size _)).mono ?_; rintro e W3 ⟨f, rfl, hs, hb⟩; obtain ⟨g, lb, rfl, hs⟩ := seq_form hs; have HF := Lib.hid hs; have C3 := Lib.hid ((C2.out.alloc C2.out.size _).trans (hb.mono (C2.out.alloc C2.out.size _).size)); clear hb hs HX2)
   | (go_at_call 46; refine (collect_any _ _ HLEN.out _ _ HF.out).mono ?_; rintro e W4 ⟨v, rfl, h1, h2⟩; obtain ⟨p9, c9, rfl⟩ := h1.shape; have H1 := Lib.hid h1; have H2 := Lib.hid (C3.out.trans (h2.mono C3.out.size)); clear h1 h2))
  go_ret2
  exact tk_ok H1.out C3.out H2.out
 ·have hc2 : (r != 0) = true := by simpa using hc
  have HN := Lib.hid hc
  clear hc HX
  go_enter Tryz.func20, Tryz.ntmps20
  go_wp2_with (go_at_call 59; refine (HC.out _ ((Below.refl _ _).alloc (Nat.le_refl _) _)).mono ?_; rintro e W2 ⟨rfl, hb⟩; have C2 := Lib.hid (((Below.refl _ _).alloc (Nat.le_refl _) _).trans (hb.mono (by simp))); clear hb HC)
  go_ret2
  exact tk_err HN.out C2.out
def putC (c : Bool) : Ln := if c then [60, 61] else [61]
theorem tokensS_any (c : Bool) (x : S) (cs : List Value) (W : World) (hB : BaseA W) (hR : SR W x cs) (h1 : smS x = true) (h2 : sizeS x ≤ 60000) : Calls Tryz.prog 20 #[.agg cs.toArray, .bool c] W (TkPost W (checkS x) (stmtT (putC c) x)) := by
 cases c with
 | true => exact tokensS_put2 x cs W hB hR h1 h2
 | false => exact tokensS_put1 x cs W hB hR h1 h2
theorem tokens_any (x : List Md) (p : Option Addr) (c : Nat) (W : World) (hB : BaseA W) (hR : MsR W (.slice p x.length c) x) (h1 : x.all smM = true) (h2 : sumN sizeM x ≤ 60000) : Calls Tryz.prog 16 #[.agg #[.slice p x.length c]] W (TkPost W (checkF x) (fileT x)) := by
 have HC := Lib.hid (fun (W9 : World) (h : Below W.heap.size W W9) => checkF_any x p c W9 (hB.later h) (MsR.later hR h) h1 (by omega))
 have hok := checkF_ok (f := x)
 have hl := sumN_len sizeM (fun m => by unfold sizeM; omega) x
 have HX := Lib.hid (fun (h0 : checkF x = 0) (W9 : World) (h : Below W.heap.size W W9) => eachM_any _ x (by omega) W9 W9.heap.size (Nat.le_refl _) (MsR.later hR h) (fun y hy => module_ok y (List.all_eq_true.1 (hok.1 h0).2.2.2 y hy) (by have := sumN_mem sizeM hy; omega)))
 have HLEN := Lib.hid (show (fileT x).length ≤ 1000000 by have := file_len x; omega)
 clear hR hB hok h1 h2 hl
 generalize checkF x = r at *
 by_cases hc : r = 0
 ·have HX2 := Lib.hid (HX.out hc)
  subst hc
  clear HX
  go_enter Tryz.func16, Tryz.ntmps16
  go_wp2_with (first
   | (go_at_call 45; refine (HC.out _ ((Below.refl _ _).alloc (Nat.le_refl _) _)).mono ?_; rintro e W2 ⟨rfl, hb⟩; have k0 : W2.cell? ⟨W.heap.size, 0, none⟩ = some (.slice p x.length c) := (cell_of_row _ _ _ _ _ _ ((hb.block W.heap.size (by simp)).trans (World.alloc_heap_new W _))).trans rfl; have C2 := Lib.hid (((Below.refl _ _).alloc (Nat.le_refl _) _).trans (hb.mono (by simp))); clear hb HC)
   | (go_at_call 47; refine (HX2.out _ C2.out).mono ?_; rintro e W3 ⟨f, rfl, hs, hb⟩; obtain ⟨g, lb, rfl, hs⟩ := seq_form hs; have HF := Lib.hid hs; have C3 := Lib.hid (C2.out.trans (hb.mono C2.out.size)); clear hb hs HX2)
   | (go_at_call 46; refine (collect_any _ _ HLEN.out _ _ HF.out).mono ?_; rintro e W4 ⟨v, rfl, h1, h2⟩; obtain ⟨p9, c9, rfl⟩ := h1.shape; have H1 := Lib.hid h1; have H2 := Lib.hid (C3.out.trans (h2.mono C3.out.size)); clear h1 h2))
  go_ret2
  exact tk_ok H1.out C3.out H2.out
 ·have hc2 : (r != 0) = true := by simpa using hc
  have HN := Lib.hid hc
  clear hc HX
  go_enter Tryz.func16, Tryz.ntmps16
  go_wp2_with (go_at_call 45; refine (HC.out _ ((Below.refl _ _).alloc (Nat.le_refl _) _)).mono ?_; rintro e W2 ⟨rfl, hb⟩; have C2 := Lib.hid (((Below.refl _ _).alloc (Nat.le_refl _) _).trans (hb.mono (by simp))); clear hb HC)
  go_ret2
  exact tk_err HN.out C2.out
end Go.Proofs.YtlcfpdmicpggbaaGreatDoor
namespace Go.Proofs.YtlcfpdmicpggbaaGreatDoor
open Go.RowKit Go.Proofs.Spl Go.Proofs.Scn Go.Shelf
def prE (c : Int) (ts : List Tok) : Int := if c = 0 then (if (textL ts).length ≤ 65536 then 0 else 2) else c
def PrPost (W : World) (c : Int) (ts : List Tok) (e : Ending) (W' : World) : Prop := ∃ p n cap, e = .returned (.tuple #[.slice p n cap, .int .i64 (prE c ts)]) ∧ OwnB W.heap.size W' (.slice p n cap) (if prE c ts = 0 then textL ts else []) ∧ Below W.heap.size W W'
theorem OwnB.shape {B : Nat} {w : World} {v : Value} {l : List UInt8} (h : OwnB B w v l) : ∃ p n c, v = .slice p n c := by
 rcases h.2 with ⟨h0, _⟩ | ⟨g, cap, cur, hv, _⟩
 ·exact ⟨none, 0, 0, h0⟩
 ·exact ⟨_, _, _, hv⟩
theorem textPost_pr {W W' : World} {ts : List Tok} {e : Ending} (hc : ts.all checkT = true) (h : TextPost W ts e W') : PrPost W 0 ts e W' := by
 obtain ⟨h, hb⟩ := h
 rw [if_pos hc] at h
 unfold PrPost prE
 rw [if_pos rfl]
 by_cases hl : (textL ts).length ≤ 65536
 ·rw [if_pos hl] at h ⊢
  obtain ⟨v, rfl, ho⟩ := h
  obtain ⟨p, n, c, rfl⟩ := ho.shape
  exact ⟨p, n, c, rfl, by rw [if_pos rfl]; exact ho, hb⟩
 ·rw [if_neg hl] at h ⊢
  exact ⟨_, _, _, h, by rw [if_neg (by decide)]; exact OwnB.nil _ _, hb⟩
theorem Below.pr {W W1 W' : World} {c : Int} {ts : List Tok} {e : Ending} (h : Below W.heap.size W W1) (k : PrPost W1 c ts e W') : PrPost W c ts e W' := by
 obtain ⟨p, n, cap, h1, h2, h3⟩ := k
 refine ⟨p, n, cap, h1, ⟨h2.1, ?_⟩, h.trans (h3.mono h.size)⟩
 rcases h2.2 with h0 | ⟨g, cap, cur, hv, hB, hg⟩
 ·exact .inl h0
 ·exact .inr ⟨g, cap, cur, hv, Nat.le_trans h.size hB, hg⟩
theorem TokRow.shape3 {B : Nat} {w : World} {v : Value} {ts : List Tok} (h : TokRow B w v ts) : ∃ p n c, v = .slice p n c := by
 obtain ⟨p, c, e⟩ := h.shape
 exact ⟨p, _, c, e⟩
theorem TokRow.own {B : Nat} {w : World} {v : Value} {ts : List Tok} (h : TokRow B w v ts) : OwnT B w v ts := h
theorem stext_any (p : Option Addr) (n k : Nat) (c : Int) (ts : List Tok) (W : World) (hB : Base W) (ht : c = 0 → Toks W (.slice p n k) ts) (hc : c = 0 → ts.all checkT = true) (hf : c = 0 → AllF ts) (hl : ts.length ≤ 1000000) :
  Calls Tryz.prog 63 #[.slice p n k, .int .i64 c] W (PrPost W c ts) := by
 by_cases h0 : c = 0
 ·subst h0
  have HT := Lib.hid (text_any (.slice p n k) ts (by omega) W (ht rfl) (fun t h => ⟨(hf rfl t h).1, by have := (hf rfl t h).2; omega⟩) hB)
  have HC := Lib.hid (hc rfl)
  clear ht hc hf hB
  go_enter Tryz.func63, Tryz.ntmps63
  go_wp2_with (go_at_call 127; refine HT.out.mono ?_; rintro e W2 h; obtain ⟨p9, n9, c9, rfl, h1, h2⟩ := textPost_pr HC.out h; have H1 := Lib.hid h1; have H2 := Lib.hid h2; clear h h1 h2)
  go_ret2
  exact ⟨_, _, _, rfl, H1.out, H2.out⟩
 ·have hc2 : (c != 0) = true := by simpa using h0
  have HN := Lib.hid h0
  clear h0 ht hc hf
  go_enter Tryz.func63, Tryz.ntmps63
  go_wp2
  go_ret2
  have hp : prE c ts = c := by unfold prE; rw [if_neg HN.out]
  exact ⟨_, _, _, by rw [hp]; rfl, by rw [hp, if_neg HN.out]; exact OwnB.nil _ _, Below.refl _ _⟩
theorem printX_any (x : X) (cs : List Value) (W : World) (hB : BaseA W) (hR : XR W x cs) (h1 : smX x = true) (h2 : sizeX x ≤ 60000) : Calls Tryz.prog 25 #[.agg cs.toArray] W (PrPost W (checkX x) (exprT x)) := by
 have HT := Lib.hid (fun (W9 : World) (h : Below W.heap.size W W9) => tokensX_any x cs W9 (hB.later h) (XR.later h _ _ hR) h1 h2)
 have hok := fun (h0 : checkX x = 0) => (checkX_ok.1 h0).2.2
 have HP := Lib.hid (fun (W9 : World) (p : Option Addr) (k : Nat) (h : Below W.heap.size W W9) (n : Nat) (ht : checkX x = 0 → Toks W9 (.slice p n k) (exprT x)) => stext_any p n k (checkX x) (exprT x) W9 (hB.later h).base ht (fun h0 => even_check _ _ (bal_expr x (hok h0)).even) (fun h0 => fair_expr x (hok h0)) (by have := expr_len x; omega))
 obtain ⟨hv, ls, rfl, hL⟩ := XR_iff.1 hR
 obtain ⟨p, c, rfl, _⟩ := hL
 clear hR hB hok h1 h2
 generalize checkX x = r at *
 generalize exprT x = ts at *
 go_enter Tryz.func25, Tryz.ntmps25
 go_wp2_with (first
  | (go_at_call 18; refine (HT.out _ ((Below.refl _ _).alloc (Nat.le_refl _) _)).mono ?_; rintro e W2 ⟨v, rfl, h1, hb⟩; obtain ⟨p9, n9, c9, rfl⟩ := h1.shape3; have H1 := Lib.hid (show r = 0 → Toks W2 _ ts from fun h0 => by rw [if_pos h0] at h1; exact h1.own.toks); have C2 := Lib.hid (((Below.refl _ _).alloc (Nat.le_refl _) _).trans (hb.mono (by simp))); clear hb h1 HT)
  | (go_at_call 63; refine (HP.out _ _ _ C2.out _ H1.out).mono ?_; rintro e W3 h; obtain ⟨p8, n8, c8, rfl, h1, h2⟩ := Below.pr C2.out h; have K1 := Lib.hid h1; have K2 := Lib.hid h2; clear h h1 h2 HP))
 go_ret2
 exact ⟨_, _, _, rfl, K1.out, K2.out⟩
theorem print_any (x : List Md) (p : Option Addr) (c : Nat) (W : World) (hB : BaseA W) (hR : MsR W (.slice p x.length c) x) (h1 : x.all smM = true) (h2 : sumN sizeM x ≤ 60000) : Calls Tryz.prog 23 #[.agg #[.slice p x.length c]] W (PrPost W (checkF x) (fileT x)) := by
 have HT := Lib.hid (fun (W9 : World) (h : Below W.heap.size W W9) => tokens_any x p c W9 (hB.later h) (MsR.later hR h) h1 h2)
 have hok := fun (h0 : checkF x = 0) => (checkF_ok.1 h0).2.2.2
 have HP := Lib.hid (fun (W9 : World) (p : Option Addr) (k : Nat) (h : Below W.heap.size W W9) (n : Nat) (ht : checkF x = 0 → Toks W9 (.slice p n k) (fileT x)) => stext_any p n k (checkF x) (fileT x) W9 (hB.later h).base ht (fun h0 => even_check _ _ (bal_file (hok h0)).even) (fun h0 => fair_file (hok h0)) (by have := file_len x; omega))
 clear hR hB hok h1 h2
 generalize checkF x = r at *
 generalize fileT x = ts at *
 go_enter Tryz.func23, Tryz.ntmps23
 go_wp2_with (first
  | (go_at_call 16; refine (HT.out _ ((Below.refl _ _).alloc (Nat.le_refl _) _)).mono ?_; rintro e W2 ⟨v, rfl, h1, hb⟩; obtain ⟨p9, n9, c9, rfl⟩ := h1.shape3; have H1 := Lib.hid (show r = 0 → Toks W2 _ ts from fun h0 => by rw [if_pos h0] at h1; exact h1.own.toks); have C2 := Lib.hid (((Below.refl _ _).alloc (Nat.le_refl _) _).trans (hb.mono (by simp))); clear hb h1 HT)
  | (go_at_call 63; refine (HP.out _ _ _ C2.out _ H1.out).mono ?_; rintro e W3 h; obtain ⟨p8, n8, c8, rfl, h1, h2⟩ := Below.pr C2.out h; have K1 := Lib.hid h1; have K2 := Lib.hid h2; clear h h1 h2 HP))
 go_ret2
 exact ⟨_, _, _, rfl, K1.out, K2.out⟩
theorem lname_any (s : Ln) (W : World) : Calls Tryz.prog 27 #[.string (bs s)] W fun e W' => e = .returned (.agg #[.int .i64 2, .string (bs s), .int .i64 0, .int .i64 0, .int .u64 0, .slice none 0 0]) ∧ Below W.heap.size W W' := by
 go_enter Tryz.func27, Tryz.ntmps27
 go_wp2
 refine bodyPost_ret (v := .agg #[.int .i64 2, .string (bs s), .int .i64 0, .int .i64 0, .int .u64 0, .slice none 0 0]) ?_ rfl ⟨rfl, ?_⟩
 ·simp [results, Tryz.results27, go_sem]
 ·exact (Below.refl _ _).alloc (Nat.le_refl _) _
theorem name_xr (s : Ln) (W : World) : XR W (nameX s) [.int .i64 2, .string (bs s), .int .i64 0, .int .i64 0, .int .u64 0, .slice none 0 0] :=
 XR_iff.2 ⟨show (0 : Nat) < two64 by decide, _, rfl, none, 0, rfl, Nat.le_refl _, .inl rfl⟩
theorem pair_els {W : World} {B : Nat} {a b : X} {ca cb : List Value} {T : TypeId} (h : W.heap[B]? = some (.cells (ca ++ cb).toArray T (0, 0))) (hA : XR W a ca) (hB : XR W b cb) (la : ca.length = 6) (lb : cb.length = 6) : XsR W (.slice (some ⟨B, 0, none⟩) 2 2) [a, b] := by
 have hlt : B < W.heap.size := (Array.getElem?_eq_some_iff.1 h).1
 have hc : ∀ j, W.cell? ⟨B, j, none⟩ = (ca ++ cb)[j]? := fun j => by simp [World.cell?, h]
 refine ⟨_, _, rfl, Nat.le_refl _, .inr ⟨B, 0, rfl, hlt, fun k hk => ?_⟩⟩
 match k, hk with
 | 0, _ => exact ⟨ca, hA, fun j hj => by rw [hc, List.getElem?_append_left (by omega)]; congr 1; omega⟩
 | 1, _ => exact ⟨cb, hB, fun j hj => by rw [hc, List.getElem?_append_right (by omega)]; congr 1; omega⟩
theorem lbin_any (n : Int) (a b : X) (ca cb : List Value) (W : World) (hA : XR W a ca) (hB : XR W b cb) : Calls Tryz.prog 29 #[.int .i64 n, .agg ca.toArray, .agg cb.toArray] W fun e W' => ∃ B, e = .returned (.agg #[.int .i64 6, .string (bs []), .int .i64 n, .int .i64 0, .int .u64 0, .slice (some ⟨B, 0, none⟩) 2 2]) ∧ XR W' (binX n a b) [.int .i64 6, .string (bs []), .int .i64 n, .int .i64 0, .int .u64 0, .slice (some ⟨B, 0, none⟩) 2 2] ∧ Below W.heap.size W W' := by
 have hA0 := hA
 have hB0 := hB
 obtain ⟨_, ls, rfl, hL⟩ := XR_iff.1 hA
 obtain ⟨_, ls', rfl, hL'⟩ := XR_iff.1 hB
 obtain ⟨p, c, rfl, _⟩ := hL
 obtain ⟨p', c', rfl, _⟩ := hL'
 clear hA hB
 go_enter Tryz.func29, Tryz.ntmps29
 go_wp2
 generalize hV : (((W.alloc (.cells #[.int .i64 a.op, .string (bs a.name), .int .i64 a.n, .int .i64 a.w, .int .u64 a.v, .slice p a.l.length c] 28)).alloc (.cells #[.int .i64 b.op, .string (bs b.name), .int .i64 b.n, .int .i64 b.w, .int .u64 b.v, .slice p' b.l.length c'] 28)).alloc (.cells #[.int .i64 6, .string { data := #[] }, .int .i64 n, .int .i64 0, .int .u64 0, .slice (some ⟨W.heap.size + 1 + 1 + 1, 0, none⟩) 2 2] 28)) = V
 have hbV : Below W.heap.size W V := by rw [← hV]; exact (((Below.refl _ _).alloc (Nat.le_refl _) _).alloc (by simp) _).alloc (by simp; omega) _
 have hsV : V.heap.size = W.heap.size + 1 + 1 + 1 := by rw [← hV]; simp
 have hcV : V.heap[W.heap.size + 1 + 1]? = some (.cells #[.int .i64 6, .string { data := #[] }, .int .i64 n, .int .i64 0, .int .u64 0, .slice (some ⟨W.heap.size + 1 + 1 + 1, 0, none⟩) 2 2] 28 (0, 0)) := by
  rw [← hV]
  have := World.alloc_heap_new ((W.alloc (.cells #[.int .i64 a.op, .string (bs a.name), .int .i64 a.n, .int .i64 a.w, .int .u64 a.v, .slice p a.l.length c] 28)).alloc (.cells #[.int .i64 b.op, .string (bs b.name), .int .i64 b.n, .int .i64 b.w, .int .u64 b.v, .slice p' b.l.length c'] 28)) (.cells #[.int .i64 6, .string { data := #[] }, .int .i64 n, .int .i64 0, .int .u64 0, .slice (some ⟨W.heap.size + 1 + 1 + 1, 0, none⟩) 2 2] 28)
  simpa using this
 clear hV
 have hb2 : Below V.heap.size V (V.alloc (.cells #[.int .i64 a.op, .string (bs a.name), .int .i64 a.n, .int .i64 a.w, .int .u64 a.v, .slice p a.l.length c, .int .i64 b.op, .string (bs b.name), .int .i64 b.n, .int .i64 b.w, .int .u64 b.v, .slice p' b.l.length c'] 28)) := (Below.refl _ _).alloc (Nat.le_refl _) _
 have hbb := hbV.trans (hb2.mono hbV.size)
 have hrow := World.alloc_heap_new V (.cells #[.int .i64 a.op, .string (bs a.name), .int .i64 a.n, .int .i64 a.w, .int .u64 a.v, .slice p a.l.length c, .int .i64 b.op, .string (bs b.name), .int .i64 b.n, .int .i64 b.w, .int .u64 b.v, .slice p' b.l.length c'] 28)
 have hc2 := (hb2.block (W.heap.size + 1 + 1) (by omega)).trans hcV
 rw [hsV] at hrow
 refine bodyPost_ret (v := .agg #[.int .i64 6, .string (bs []), .int .i64 n, .int .i64 0, .int .u64 0, .slice (some ⟨W.heap.size + 1 + 1 + 1, 0, none⟩) 2 2]) ?_ rfl ⟨_, rfl, ?_, hbb⟩
 ·obtain ⟨r0, r1, r2, r3, r4, r5⟩ := cells6 hc2
  simp [results, Tryz.results29, go_sem, r0, r1, r2, r3, r4, r5]
  rfl
 ·exact XR_iff.2 ⟨show (0 : Nat) < two64 by decide, _, rfl, pair_els (ca := [.int .i64 a.op, .string (bs a.name), .int .i64 a.n, .int .i64 a.w, .int .u64 a.v, .slice p a.l.length c]) (cb := [.int .i64 b.op, .string (bs b.name), .int .i64 b.n, .int .i64 b.w, .int .u64 b.v, .slice p' b.l.length c']) hrow (XR.later hbb _ _ hA0) (XR.later hbb _ _ hB0) rfl rfl⟩
end Go.Proofs.YtlcfpdmicpggbaaGreatDoor
namespace Go.Proofs.YtlcfpdmicpggbaaGreatDoor
open Go.RowKit Go.Proofs.Spl Go.Proofs.Scn Go.Shelf
def xA : X := nameX [97]
def xB : X := nameX [98]
def xC : X := nameX [99]
def x1 : X := binX 16 (binX 14 xA xB) xC
def x2 : X := binX 14 xA (binX 16 xB xC)
def x3 : X := binX 15 xA (binX 15 xB xC)
def s1 : S := .mk 1 [] [xA, xB] []
def x5 : X := nameX [105, 102]
def m1 : Md := ⟨[109], [], [], []⟩
theorem e1 : checkX x1 = 0 ∧ textL (exprT x1) = [40, 32, 97, 32, 43, 32, 98, 32, 41, 32, 42, 32, 99] ∧ smX x1 = true ∧ sizeX x1 ≤ 60000 := by decide
theorem e2 : checkX x2 = 0 ∧ textL (exprT x2) = [97, 32, 43, 32, 98, 32, 42, 32, 99] ∧ smX x2 = true ∧ sizeX x2 ≤ 60000 := by decide
theorem e3 : checkX x3 = 0 ∧ textL (exprT x3) = [97, 32, 45, 32, 40, 32, 98, 32, 45, 32, 99, 32, 41] ∧ smX x3 = true ∧ sizeX x3 ≤ 60000 := by decide
theorem e4 : checkS s1 = 0 ∧ stmtT (putC true) s1 = [nmT [97], sgT [60, 61], nmT [98], sgT [59]] ∧ smS s1 = true ∧ sizeS s1 ≤ 60000 := by decide
theorem e5 : checkX x5 = 1 ∧ smX x5 = true ∧ sizeX x5 ≤ 60000 := by decide
theorem e6 : checkF [m1] = 0 ∧ textL (fileT [m1]) = [109, 111, 100, 117, 108, 101, 32, 109, 32, 40, 32, 41, 32, 123, 10, 125] ∧ [m1].all smM = true ∧ sumN sizeM [m1] ≤ 60000 := by decide
theorem e7 : checkF [] = 0 ∧ fileT [] = [] := by decide
theorem one_mod (W : World) : MsR (W.alloc (.cells #[.string (bs [109]), .slice none 0 0, .slice none 0 0, .slice none 0 0] 53)) (.slice (some ⟨W.heap.size, 0, none⟩) 1 1) [m1] := by
 refine ⟨_, _, rfl, Nat.le_refl _, .inr ⟨W.heap.size, 0, rfl, by simp, fun k hk => ?_⟩⟩
 have : k = 0 := by simpa using hk
 subst this
 refine ⟨[.string (bs [109]), .slice none 0 0, .slice none 0 0, .slice none 0 0], ⟨_, _, _, rfl, ⟨none, 0, rfl, Nat.le_refl _, .inl rfl⟩, ⟨none, 0, rfl, Nat.le_refl _, .inl rfl⟩, ⟨none, 0, rfl, Nat.le_refl _, .inl rfl⟩⟩, fun j hj => ?_⟩
 rw [World.cell?_alloc_new W #[.string (bs [109]), .slice none 0 0, .slice none 0 0, .slice none 0 0] 53 (0 + 0 * 4 + j)]
 simp
theorem s1_sr (W : World) : SR (W.alloc (.cells #[.int .i64 2, .string (bs [97]), .int .i64 0, .int .i64 0, .int .u64 0, .slice none 0 0, .int .i64 2, .string (bs [98]), .int .i64 0, .int .i64 0, .int .u64 0, .slice none 0 0] 28)) s1 [.int .i64 1, .string (bs []), .slice (some ⟨W.heap.size, 0, none⟩) 2 2, .slice none 0 0] :=
 SR_iff.2 ⟨_, _, rfl, pair_els (ca := [.int .i64 2, .string (bs [97]), .int .i64 0, .int .i64 0, .int .u64 0, .slice none 0 0]) (cb := [.int .i64 2, .string (bs [98]), .int .i64 0, .int .i64 0, .int .u64 0, .slice none 0 0]) (World.alloc_heap_new W _) (name_xr [97] _) (name_xr [98] _) rfl rfl, none, 0, rfl, Nat.le_refl _, .inl rfl⟩
theorem live_any (W : World) (hB : BaseA W) : RetB 12 #[] W true := by
 have HB := Lib.hid hB
 clear hB
 go_enter Tryz.func12, Tryz.ntmps12
 go_wp2_with (first
  | (go_at_call 27; refine (lname_any [97] W).mono ?_; rintro e W1 ⟨rfl, hb⟩; have X1 := Lib.hid hb; clear hb)
  | (go_at_call 27; refine (lname_any [98] (W1.alloc (.cells #[.int .i64 2, .string (bs [97]), .int .i64 0, .int .i64 0, .int .u64 0, .slice none 0 0] 28))).mono ?_; rintro e W2 ⟨rfl, hb⟩; have X2 := Lib.hid ((X1.out.alloc X1.out.size _).trans (hb.mono (X1.out.alloc X1.out.size _).size)); have A2 := Lib.hid ((hb.block W1.heap.size (by simp)).trans (World.alloc_heap_new W1 _)); have L2 := Lib.hid (Nat.lt_of_lt_of_le (show W1.heap.size < (W1.alloc _).heap.size by simp) hb.size); clear hb)
  | (go_at_call 27; refine (lname_any [99] (W2.alloc (.cells #[.int .i64 2, .string (bs [98]), .int .i64 0, .int .i64 0, .int .u64 0, .slice none 0 0] 28))).mono ?_; rintro e W3 ⟨rfl, hb⟩; have X3 := Lib.hid ((X2.out.alloc X2.out.size _).trans (hb.mono (X2.out.alloc X2.out.size _).size)); have B3 := Lib.hid ((hb.block W2.heap.size (by simp)).trans (World.alloc_heap_new W2 _)); have A3 := Lib.hid ((hb.block W1.heap.size (by have := L2.out; simp; omega)).trans ((Below.heap_alloc _ _ _ L2.out).trans A2.out)); have L3 := Lib.hid (Nat.lt_of_lt_of_le (show W2.heap.size < (W2.alloc _).heap.size by simp) hb.size); clear hb))
 obtain ⟨V, hV⟩ : ∃ V, V = W3.alloc (.cells #[.int .i64 2, .string (bs [99]), .int .i64 0, .int .i64 0, .int .u64 0, .slice none 0 0] 28) := ⟨_, rfl⟩
 have XV := Lib.hid (show Below W.heap.size W V by rw [hV]; exact X3.out.alloc X3.out.size _)
 have hl3 := L3.out
 have hl2 := L2.out
 have f1 : V.heap[W1.heap.size]? = some (.cells #[.int .i64 2, .string (bs [97]), .int .i64 0, .int .i64 0, .int .u64 0, .slice none 0 0] 28 (0, 0)) := by rw [hV]; exact (Below.heap_alloc _ _ _ (by omega)).trans A3.out
 have f2 : V.heap[W2.heap.size]? = some (.cells #[.int .i64 2, .string (bs [98]), .int .i64 0, .int .i64 0, .int .u64 0, .slice none 0 0] 28 (0, 0)) := by rw [hV]; exact (Below.heap_alloc _ _ _ hl3).trans B3.out
 have f3 : V.heap[W3.heap.size]? = some (.cells #[.int .i64 2, .string (bs [99]), .int .i64 0, .int .i64 0, .int .u64 0, .slice none 0 0] 28 (0, 0)) := by rw [hV]; exact World.alloc_heap_new W3 _
 rw [← hV]
 clear hV X1 X2 X3 A2 A3 B3 L2 L3 hl2 hl3
 generalize W1.heap.size = b1 at *
 generalize W2.heap.size = b2 at *
 generalize W3.heap.size = b3 at *
 have HSx := Lib.hid (show ∀ w', Below V.heap.size V w' → w'.cell? ⟨b1, 0, none⟩ = some (.int .i64 2) ∧ w'.cell? ⟨b1, 1, none⟩ = some (.string (bs [97])) ∧ w'.cell? ⟨b1, 2, none⟩ = some (.int .i64 0) ∧ w'.cell? ⟨b1, 3, none⟩ = some (.int .i64 0) ∧ w'.cell? ⟨b1, 4, none⟩ = some (.int .u64 0) ∧ w'.cell? ⟨b1, 5, none⟩ = some (.slice none 0 0) ∧ w'.cell? ⟨b2, 0, none⟩ = some (.int .i64 2) ∧ w'.cell? ⟨b2, 1, none⟩ = some (.string (bs [98])) ∧ w'.cell? ⟨b2, 2, none⟩ = some (.int .i64 0) ∧ w'.cell? ⟨b2, 3, none⟩ = some (.int .i64 0) ∧ w'.cell? ⟨b2, 4, none⟩ = some (.int .u64 0) ∧ w'.cell? ⟨b2, 5, none⟩ = some (.slice none 0 0) ∧ w'.cell? ⟨b3, 0, none⟩ = some (.int .i64 2) ∧ w'.cell? ⟨b3, 1, none⟩ = some (.string (bs [99])) ∧ w'.cell? ⟨b3, 2, none⟩ = some (.int .i64 0) ∧ w'.cell? ⟨b3, 3, none⟩ = some (.int .i64 0) ∧ w'.cell? ⟨b3, 4, none⟩ = some (.int .u64 0) ∧ w'.cell? ⟨b3, 5, none⟩ = some (.slice none 0 0) from fun w' h => by
  obtain ⟨ka0, ka1, ka2, ka3, ka4, ka5⟩ := cells6 ((h.block _ (Array.getElem?_eq_some_iff.1 f1).1).trans f1)
  obtain ⟨kb0, kb1, kb2, kb3, kb4, kb5⟩ := cells6 ((h.block _ (Array.getElem?_eq_some_iff.1 f2).1).trans f2)
  obtain ⟨kc0, kc1, kc2, kc3, kc4, kc5⟩ := cells6 ((h.block _ (Array.getElem?_eq_some_iff.1 f3).1).trans f3)
  exact ⟨ka0, ka1, ka2, ka3, ka4, ka5, kb0, kb1, kb2, kb3, kb4, kb5, kc0, kc1, kc2, kc3, kc4, kc5⟩)
 clear f1 f2 f3
 have Y0 := Lib.hid (Below.refl V.heap.size V)
 obtain ⟨ka0, ka1, ka2, ka3, ka4, ka5, kb0, kb1, kb2, kb3, kb4, kb5, kc0, kc1, kc2, kc3, kc4, kc5⟩ := HSx.out _ Y0.out
 have Y0d := Lib.hid (Y0.out.drew)
 have Y0 := Y0d
 have F1 := True.intro
 have G1 := True.intro
 go_region_held3 (fun w' => w'.cell? ⟨b1, 0, none⟩ = some (.int .i64 2) ∧ w'.cell? ⟨b1, 1, none⟩ = some (.string (bs [97])) ∧ w'.cell? ⟨b1, 2, none⟩ = some (.int .i64 0) ∧ w'.cell? ⟨b1, 3, none⟩ = some (.int .i64 0) ∧ w'.cell? ⟨b1, 4, none⟩ = some (.int .u64 0) ∧ w'.cell? ⟨b1, 5, none⟩ = some (.slice none 0 0) ∧ w'.cell? ⟨b2, 0, none⟩ = some (.int .i64 2) ∧ w'.cell? ⟨b2, 1, none⟩ = some (.string (bs [98])) ∧ w'.cell? ⟨b2, 2, none⟩ = some (.int .i64 0) ∧ w'.cell? ⟨b2, 3, none⟩ = some (.int .i64 0) ∧ w'.cell? ⟨b2, 4, none⟩ = some (.int .u64 0) ∧ w'.cell? ⟨b2, 5, none⟩ = some (.slice none 0 0) ∧ w'.cell? ⟨b3, 0, none⟩ = some (.int .i64 2) ∧ w'.cell? ⟨b3, 1, none⟩ = some (.string (bs [99])) ∧ w'.cell? ⟨b3, 2, none⟩ = some (.int .i64 0) ∧ w'.cell? ⟨b3, 3, none⟩ = some (.int .i64 0) ∧ w'.cell? ⟨b3, 4, none⟩ = some (.int .u64 0) ∧ w'.cell? ⟨b3, 5, none⟩ = some (.slice none 0 0))
  (first | exact HSx.out _ Y3.out | exact HSx.out _ Y2.out | exact HSx.out _ Y1.out | exact HSx.out _ Y0.out | go_keep)
  (first
   | (clear F1; go_at_call 29; refine (lbin_any 14 (xA) (xB) _ _ _ (name_xr [97] _) (name_xr [98] _)).mono ?_; rintro e W11 ⟨D11, rfl, hx, hb⟩; have Y1 := Lib.hid (Y0.out.trans (hb.mono Y0.out.size)); have I11 := Lib.hid hx; clear hx hb)
   | (clear G1; go_at_call 29; refine (lbin_any 16 (binX 14 xA xB) (xC) _ _ _ (I11.out) (name_xr [99] _)).mono ?_; rintro e W12 ⟨D12, rfl, hx, hb⟩; have Y2 := Lib.hid (Y1.out.trans (hb.mono Y1.out.size)); have I12 := Lib.hid hx; clear hx hb)
   | (go_at_call 25; refine (printX_any x1 _ _ (HB.out.later (XV.out.trans (Y2.out.mono XV.out.size))) I12.out e1.2.2.1 e1.2.2.2).mono ?_; rintro e W13 ⟨q1, n1, c1, rfl, hx, hb⟩; rw [show prE (checkX x1) (exprT x1) = 0 by rw [e1.1]; unfold prE; rw [e1.2.1]; decide] at hx ⊢; rw [if_pos rfl, e1.2.1] at hx; have Y3 := Lib.hid (Y2.out.trans (hb.mono Y2.out.size));  have O1 := Lib.hid hx; clear hx hb))
 go_wp2_with fail
 have Y3d := Lib.hid (Y3.out.drew)
 have Y3 := Y3d
 have F2 := True.intro
 have G2 := True.intro
 have O1 := Lib.hid (O1.out.later ((Below.refl _ _).drew))
 go_region_held3 (fun w' => w'.cell? ⟨b1, 0, none⟩ = some (.int .i64 2) ∧ w'.cell? ⟨b1, 1, none⟩ = some (.string (bs [97])) ∧ w'.cell? ⟨b1, 2, none⟩ = some (.int .i64 0) ∧ w'.cell? ⟨b1, 3, none⟩ = some (.int .i64 0) ∧ w'.cell? ⟨b1, 4, none⟩ = some (.int .u64 0) ∧ w'.cell? ⟨b1, 5, none⟩ = some (.slice none 0 0) ∧ w'.cell? ⟨b2, 0, none⟩ = some (.int .i64 2) ∧ w'.cell? ⟨b2, 1, none⟩ = some (.string (bs [98])) ∧ w'.cell? ⟨b2, 2, none⟩ = some (.int .i64 0) ∧ w'.cell? ⟨b2, 3, none⟩ = some (.int .i64 0) ∧ w'.cell? ⟨b2, 4, none⟩ = some (.int .u64 0) ∧ w'.cell? ⟨b2, 5, none⟩ = some (.slice none 0 0) ∧ w'.cell? ⟨b3, 0, none⟩ = some (.int .i64 2) ∧ w'.cell? ⟨b3, 1, none⟩ = some (.string (bs [99])) ∧ w'.cell? ⟨b3, 2, none⟩ = some (.int .i64 0) ∧ w'.cell? ⟨b3, 3, none⟩ = some (.int .i64 0) ∧ w'.cell? ⟨b3, 4, none⟩ = some (.int .u64 0) ∧ w'.cell? ⟨b3, 5, none⟩ = some (.slice none 0 0))
  (first | exact HSx.out _ Y6.out | exact HSx.out _ Y5.out | exact HSx.out _ Y4.out | exact HSx.out _ Y3.out | go_keep)
  (first
   | (clear F2; go_at_call 29; refine (lbin_any 16 (xB) (xC) _ _ _ (name_xr [98] _) (name_xr [99] _)).mono ?_; rintro e W21 ⟨D21, rfl, hx, hb⟩; have Y4 := Lib.hid (Y3.out.trans (hb.mono Y3.out.size)); have I21 := Lib.hid hx; have O1 := Lib.hid (O1.out.later hb); clear hx hb)
   | (clear G2; go_at_call 29; refine (lbin_any 14 (xA) (binX 16 xB xC) _ _ _ (name_xr [97] _) (I21.out)).mono ?_; rintro e W22 ⟨D22, rfl, hx, hb⟩; have Y5 := Lib.hid (Y4.out.trans (hb.mono Y4.out.size)); have I22 := Lib.hid hx; have O1 := Lib.hid (O1.out.later hb); clear hx hb)
   | (go_at_call 25; refine (printX_any x2 _ _ (HB.out.later (XV.out.trans (Y5.out.mono XV.out.size))) I22.out e2.2.2.1 e2.2.2.2).mono ?_; rintro e W23 ⟨q2, n2, c2, rfl, hx, hb⟩; rw [show prE (checkX x2) (exprT x2) = 0 by rw [e2.1]; unfold prE; rw [e2.2.1]; decide] at hx ⊢; rw [if_pos rfl, e2.2.1] at hx; have Y6 := Lib.hid (Y5.out.trans (hb.mono Y5.out.size));  have O1 := Lib.hid (O1.out.later hb); have O2 := Lib.hid hx; clear hx hb))
 go_wp2_with fail
 have Y6d := Lib.hid (Y6.out.drew)
 have Y6 := Y6d
 have F3 := True.intro
 have G3 := True.intro
 have O1 := Lib.hid (O1.out.later ((Below.refl _ _).drew))
 have O2 := Lib.hid (O2.out.later ((Below.refl _ _).drew))
 go_region_held3 (fun w' => w'.cell? ⟨b1, 0, none⟩ = some (.int .i64 2) ∧ w'.cell? ⟨b1, 1, none⟩ = some (.string (bs [97])) ∧ w'.cell? ⟨b1, 2, none⟩ = some (.int .i64 0) ∧ w'.cell? ⟨b1, 3, none⟩ = some (.int .i64 0) ∧ w'.cell? ⟨b1, 4, none⟩ = some (.int .u64 0) ∧ w'.cell? ⟨b1, 5, none⟩ = some (.slice none 0 0) ∧ w'.cell? ⟨b2, 0, none⟩ = some (.int .i64 2) ∧ w'.cell? ⟨b2, 1, none⟩ = some (.string (bs [98])) ∧ w'.cell? ⟨b2, 2, none⟩ = some (.int .i64 0) ∧ w'.cell? ⟨b2, 3, none⟩ = some (.int .i64 0) ∧ w'.cell? ⟨b2, 4, none⟩ = some (.int .u64 0) ∧ w'.cell? ⟨b2, 5, none⟩ = some (.slice none 0 0) ∧ w'.cell? ⟨b3, 0, none⟩ = some (.int .i64 2) ∧ w'.cell? ⟨b3, 1, none⟩ = some (.string (bs [99])) ∧ w'.cell? ⟨b3, 2, none⟩ = some (.int .i64 0) ∧ w'.cell? ⟨b3, 3, none⟩ = some (.int .i64 0) ∧ w'.cell? ⟨b3, 4, none⟩ = some (.int .u64 0) ∧ w'.cell? ⟨b3, 5, none⟩ = some (.slice none 0 0))
  (first | exact HSx.out _ Y9.out | exact HSx.out _ Y8.out | exact HSx.out _ Y7.out | exact HSx.out _ Y6.out | go_keep)
  (first
   | (clear F3; go_at_call 29; refine (lbin_any 15 (xB) (xC) _ _ _ (name_xr [98] _) (name_xr [99] _)).mono ?_; rintro e W31 ⟨D31, rfl, hx, hb⟩; have Y7 := Lib.hid (Y6.out.trans (hb.mono Y6.out.size)); have I31 := Lib.hid hx; have O1 := Lib.hid (O1.out.later hb); have O2 := Lib.hid (O2.out.later hb); clear hx hb)
   | (clear G3; go_at_call 29; refine (lbin_any 15 (xA) (binX 15 xB xC) _ _ _ (name_xr [97] _) (I31.out)).mono ?_; rintro e W32 ⟨D32, rfl, hx, hb⟩; have Y8 := Lib.hid (Y7.out.trans (hb.mono Y7.out.size)); have I32 := Lib.hid hx; have O1 := Lib.hid (O1.out.later hb); have O2 := Lib.hid (O2.out.later hb); clear hx hb)
   | (go_at_call 25; refine (printX_any x3 _ _ (HB.out.later (XV.out.trans (Y8.out.mono XV.out.size))) I32.out e3.2.2.1 e3.2.2.2).mono ?_; rintro e W33 ⟨q3, n3, c3, rfl, hx, hb⟩; rw [show prE (checkX x3) (exprT x3) = 0 by rw [e3.1]; unfold prE; rw [e3.2.1]; decide] at hx ⊢; rw [if_pos rfl, e3.2.1] at hx; have Y9 := Lib.hid (Y8.out.trans (hb.mono Y8.out.size));  have O1 := Lib.hid (O1.out.later hb); have O2 := Lib.hid (O2.out.later hb); have O3 := Lib.hid hx; clear hx hb))
 obtain ⟨za0, za1, za2, za3, za4, za5, zb0, zb1, zb2, zb3, zb4, zb5, -⟩ := HSx.out _ Y9.out
 go_wp2_with (first
  | (go_at_call 20; refine (tokensS_any true s1 [.int .i64 1, .string (bs []), .slice (some ⟨W33.heap.size, 0, none⟩) 2 2, .slice none 0 0] (W33.alloc (.cells #[.int .i64 2, .string (bs [97]), .int .i64 0, .int .i64 0, .int .u64 0, .slice none 0 0, .int .i64 2, .string (bs [98]), .int .i64 0, .int .i64 0, .int .u64 0, .slice none 0 0] 28)) (HB.out.later (XV.out.trans ((Y9.out.alloc Y9.out.size _).mono XV.out.size))) (s1_sr W33) e4.2.2.1 e4.2.2.2).mono ?_; rintro e W4 ⟨v, rfl, hx, hb⟩; rw [e4.1] at hx ⊢; rw [if_pos rfl, e4.2.1] at hx; obtain ⟨p4, c4, h4⟩ : ∃ p c, v = Value.slice p 4 c := hx.shape; subst h4; have Y10 := Lib.hid ((Y9.out.alloc Y9.out.size _).trans (hb.mono (Y9.out.alloc Y9.out.size _).size)); have T4 := Lib.hid hx.own.toks; have O1 := Lib.hid (O1.out.later (((Below.refl _ _).alloc (Nat.le_refl _) _).trans (hb.mono (by simp)))); have O2 := Lib.hid (O2.out.later (((Below.refl _ _).alloc (Nat.le_refl _) _).trans (hb.mono (by simp)))); have O3 := Lib.hid (O3.out.later (((Below.refl _ _).alloc (Nat.le_refl _) _).trans (hb.mono (by simp)))); clear hx hb)
  | (go_at_call 27; refine (lname_any [105, 102] W4).mono ?_; rintro e W5 ⟨rfl, hb⟩; have Y11 := Lib.hid (Y10.out.trans (hb.mono Y10.out.size)); have T5 := Lib.hid (T4.out.later hb); have O1 := Lib.hid (O1.out.later hb); have O2 := Lib.hid (O2.out.later hb); have O3 := Lib.hid (O3.out.later hb); clear hb)
  | (go_at_call 18; refine (tokensX_any x5 [.int .i64 2, .string (bs [105, 102]), .int .i64 0, .int .i64 0, .int .u64 0, .slice none 0 0] W5 (HB.out.later (XV.out.trans (Y11.out.mono XV.out.size))) (name_xr [105, 102] _) e5.2.1 e5.2.2).mono ?_; rintro e W6 ⟨v, rfl, hx, hb⟩; rw [e5.1] at hx ⊢; rw [if_neg (by decide)] at hx; obtain ⟨p5, c5, h5⟩ : ∃ p c, v = Value.slice p 0 c := hx.shape; subst h5; have Y12 := Lib.hid (Y11.out.trans (hb.mono Y11.out.size)); have T6 := Lib.hid (T5.out.later hb); have O1 := Lib.hid (O1.out.later hb); have O2 := Lib.hid (O2.out.later hb); have O3 := Lib.hid (O3.out.later hb); clear hx hb)
  | (go_at_call 23; refine (print_any [m1] (some ⟨W6.heap.size, 0, none⟩) 1 (W6.alloc (.cells #[.string (bs [109]), .slice none 0 0, .slice none 0 0, .slice none 0 0] 53)) (HB.out.later (XV.out.trans ((Y12.out.alloc Y12.out.size _).mono XV.out.size))) (one_mod W6) e6.2.2.1 e6.2.2.2).mono ?_; rintro e W7 ⟨q6, n6, c6, rfl, hx, hb⟩; rw [show prE (checkF [m1]) (fileT [m1]) = 0 by rw [e6.1]; unfold prE; rw [e6.2.1]; decide] at hx ⊢; rw [if_pos rfl, e6.2.1] at hx; have Y13 := Lib.hid ((Y12.out.alloc Y12.out.size _).trans (hb.mono (Y12.out.alloc Y12.out.size _).size)); have T7 := Lib.hid (T6.out.later (((Below.refl _ _).alloc (Nat.le_refl _) _).trans (hb.mono (by simp)))); have O1 := Lib.hid (O1.out.later (((Below.refl _ _).alloc (Nat.le_refl _) _).trans (hb.mono (by simp)))); have O2 := Lib.hid (O2.out.later (((Below.refl _ _).alloc (Nat.le_refl _) _).trans (hb.mono (by simp)))); have O3 := Lib.hid (O3.out.later (((Below.refl _ _).alloc (Nat.le_refl _) _).trans (hb.mono (by simp)))); have O6 := Lib.hid hx; clear hx hb)
  | (go_at_call 16; refine (tokens_any [] none 0 W7 (HB.out.later (XV.out.trans (Y13.out.mono XV.out.size))) ⟨none, 0, rfl, Nat.le_refl _, .inl rfl⟩ rfl (by decide)).mono ?_; rintro e W8 ⟨v, rfl, hx, hb⟩; rw [e7.1] at hx ⊢; rw [if_pos rfl, e7.2] at hx; obtain ⟨p7, c7, h7⟩ : ∃ p c, v = Value.slice p 0 c := hx.shape; subst h7; have Y14 := Lib.hid (Y13.out.trans (hb.mono Y13.out.size)); have T8 := T7.out.later hb; have O1 := Lib.hid (O1.out.later hb); have O2 := Lib.hid (O2.out.later hb); have O3 := Lib.hid (O3.out.later hb); have O6 := Lib.hid (O6.out.later hb); have hv1 : (convert 44 9 (.slice q1 n1 c1)).run Tryz.prog W8 = .ok (.string ⟨#[40, 32, 97, 32, 43, 32, 98, 32, 41, 32, 42, 32, 99]⟩) W8 := str_run O1.out.bytes; have hv2 : (convert 44 9 (.slice q2 n2 c2)).run Tryz.prog W8 = .ok (.string ⟨#[97, 32, 43, 32, 98, 32, 42, 32, 99]⟩) W8 := str_run O2.out.bytes; have hv3 : (convert 44 9 (.slice q3 n3 c3)).run Tryz.prog W8 = .ok (.string ⟨#[97, 32, 45, 32, 40, 32, 98, 32, 45, 32, 99, 32, 41]⟩) W8 := str_run O3.out.bytes; have hv6 : (convert 44 9 (.slice q6 n6 c6)).run Tryz.prog W8 = .ok (.string ⟨#[109, 111, 100, 117, 108, 101, 32, 109, 32, 40, 32, 41, 32, 123, 10, 125]⟩) W8 := str_run O6.out.bytes; obtain ⟨bT, oT, cT, hT, hlT, hcT⟩ := T8.resolve_left (fun h => by cases h.1); cases hT; have ht1 := (hcT 1 (by decide)).c1; have ht2 : W8.cell? ⟨bT, oT + 5 + 1, none⟩ = some (.string ⟨#[60, 61]⟩) := ht1; have ht3 : W8.cell? ⟨bT, oT + 6, none⟩ = some (.string ⟨#[60, 61]⟩) := ht1; clear hx hb hcT ht1))
 go_ret
 exact ⟨rfl, XV.out.trans (Y14.out.mono XV.out.size)⟩
end Go.Proofs.YtlcfpdmicpggbaaGreatDoor
