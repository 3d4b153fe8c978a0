/- Texts of the seat, merged. -/
import Derived.Test.YtlcfpdmicpggbaaGreatDoorQ8
set_option linter.unusedVariables false
set_option linter.unusedSimpArgs false
set_option maxRecDepth 100000
set_option maxHeartbeats 16000000
namespace Go.Proofs.YtlcfpdmicpggbaaGreatDoor
open Go.RowKit Go.Proofs.Spl Go.Proofs.Scn Go.Shelf Go.Grow
theorem list_any (v : Value) (l : List X) (hl : l.length ≤ 1000000) (W : World) (lo : Nat) (hlo : lo ≤ W.heap.size) (hR : XsR W v l) (hE : ∀ y ∈ l, ExprOK y) : Calls Tryz.prog 108 #[v] W (MkPost lo W (listT l)) := by
 have HK := Lib.hid (eachX_any [44] (by decide) v l hl W lo hlo hR hE)
 obtain ⟨p, cap, rfl, _⟩ := hR
 clear hE
 go_enter Tryz.func108, Tryz.ntmps108
 go_wp2_with (go_at_call 105; refine HK.out.mono ?_; rintro e W2 ⟨f, rfl, h1, h2⟩; have H1 := Lib.hid h1; have H2 := Lib.hid h2; clear h1 h2)
 go_ret
 exact ⟨_, rfl, H1.out, H2.out⟩
def XAt (W : World) (q o : Nat) (a : X) : Prop :=
 ∃ p c, W.cell? ⟨q, o, none⟩ = some (.int .i64 a.op) ∧ W.cell? ⟨q, o + 1, none⟩ = some (.string (bs a.name)) ∧ W.cell? ⟨q, o + 2, none⟩ = some (.int .i64 a.n) ∧ W.cell? ⟨q, o + 3, none⟩ = some (.int .i64 a.w) ∧ W.cell? ⟨q, o + 4, none⟩ = some (.int .u64 a.v) ∧
  W.cell? ⟨q, o + 5, none⟩ = some (.slice p a.l.length c) ∧ XR W a [.int .i64 a.op, .string (bs a.name), .int .i64 a.n, .int .i64 a.w, .int .u64 a.v, .slice p a.l.length c]
theorem els_at {W : World} {q off : Nat} {l : List X} (h : Spl.Rows W 6 (XR W) q off l) (k : Nat) (hk : k < l.length) : XAt W q (off + k * 6) l[k] := by
 obtain ⟨cs, h1, h2⟩ := h k hk
 obtain ⟨hv, ls, rfl, hL⟩ := XR_iff.1 h1
 obtain ⟨p, c, rfl, _⟩ := hL
 exact ⟨p, c, h2 0 (by omega), h2 1 (by omega), h2 2 (by omega), h2 3 (by omega), h2 4 (by omega), h2 5 (by omega), h1⟩
theorem XAt.later {W W' : World} {q o : Nat} {a : X} (h : XAt W q o a) (hq : q < W.heap.size) (hb : Below W.heap.size W W') : XAt W' q o a := by
 obtain ⟨p, c, h0, h1, h2, h3, h4, h5, h6⟩ := h
 exact ⟨p, c, (hb.cell (p := ⟨q, o, none⟩) hq).trans h0, (hb.cell (p := ⟨q, o + 1, none⟩) hq).trans h1, (hb.cell (p := ⟨q, o + 2, none⟩) hq).trans h2, (hb.cell (p := ⟨q, o + 3, none⟩) hq).trans h3, (hb.cell (p := ⟨q, o + 4, none⟩) hq).trans h4, (hb.cell (p := ⟨q, o + 5, none⟩) hq).trans h5, XR.later hb _ _ h6⟩
theorem part_any (x : X) (hx : okX x = true) (hE : ExprOK x) (least : Nat) (W : World) (lo : Nat) (hlo : lo ≤ W.heap.size) (cs : List Value) (hR : XR W x cs) :
  Calls Tryz.prog 106 #[.agg cs.toArray, .int .i64 least] W (MkPost lo W (partT (rankX x, exprT x) least)) := by
 have hR0 := hR
 obtain ⟨hv, ls, rfl, hL⟩ := XR_iff.1 hR
 obtain ⟨p, cap, rfl, _⟩ := hL
 have HE := Lib.hid hE
 have HR := Lib.hid hR0
 have HO := Lib.hid hx
 clear hR hR0 hE hx hv
 go_enter Tryz.func106, Tryz.ntmps106
 go_wp2_with fail
 have hW1 := Lib.hid ((Below.refl W.heap.size W).alloc (Nat.le_refl _) (.cells #[.int .i64 x.op, .string (bs x.name), .int .i64 x.n, .int .i64 x.w, .int .u64 x.v, .slice p x.l.length cap] 28))
 have hbx := World.alloc_heap_new W (.cells #[.int .i64 x.op, .string (bs x.name), .int .i64 x.n, .int .i64 x.w, .int .u64 x.v, .slice p x.l.length cap] 28)
 have hls := World.size_alloc W (.cells #[.int .i64 x.op, .string (bs x.name), .int .i64 x.n, .int .i64 x.w, .int .u64 x.v, .slice p x.l.length cap] 28)
 generalize W.alloc (.cells #[.int .i64 x.op, .string (bs x.name), .int .i64 x.n, .int .i64 x.w, .int .u64 x.v, .slice p x.l.length cap] 28) = W1 at *
 have HLS := Lib.hid hls
 have HBX := Lib.hid hbx
 have HR1 := Lib.hid (XR.later hW1.out _ _ HR.out)
 refine (rank_any x HO.out W1 _ HR1.out).mono ?_
 rintro e W2 ⟨rfl, h2⟩
 have H2 := Lib.hid h2
 have hbx2 := (h2.block _ (by omega)).trans hbx
 have hB2 := hW1.out.trans (h2.mono (by omega))
 have HB2 := Lib.hid hB2
 have HR2 := Lib.hid (XR.later hB2 _ _ HR.out)
 have hz2 : W.heap.size ≤ W2.heap.size := hB2.size
 have HZ2 := Lib.hid hz2
 clear hls hbx h2 hB2 hz2
 have y0 : W2.cell? ⟨W.heap.size, 0, none⟩ = some (.int .i64 x.op) := by simp [World.cell?, hbx2]
 have y1 : W2.cell? ⟨W.heap.size, 1, none⟩ = some (.string (bs x.name)) := by simp [World.cell?, hbx2]
 have y2 : W2.cell? ⟨W.heap.size, 2, none⟩ = some (.int .i64 x.n) := by simp [World.cell?, hbx2]
 have y3 : W2.cell? ⟨W.heap.size, 3, none⟩ = some (.int .i64 x.w) := by simp [World.cell?, hbx2]
 have y4 : W2.cell? ⟨W.heap.size, 4, none⟩ = some (.int .u64 x.v) := by simp [World.cell?, hbx2]
 have y5 : W2.cell? ⟨W.heap.size, 5, none⟩ = some (.slice p x.l.length cap) := by simp [World.cell?, hbx2]
 clear hbx2
 by_cases hk : rankX x < least
 ·have hkd : decide (((rankX x : Nat) : Int) < ((least : Nat) : Int)) = true := by simp; omega
  have hkn : decide (rankX x < least) = true := by simpa using hk
  have HT := Lib.hid (show partT (rankX x, exprT x) least = inT 40 41 (exprT x) by simp [partT, hk, parT])
  have HP := Lib.hid (fun (W9 : World) (f : Value) (h1 : lo ≤ W9.heap.size) (h2 : Seq lo W9 f (exprT x)) => in_any 40 41 f (exprT x) W9 lo h1 h2)
  clear hk
  go_wp2_with (first
   | (go_at_call 56; refine (HE.out W2 lo _ (Nat.le_trans hlo HZ2.out) HR2.out).mono ?_; rintro e W3 ⟨f, rfl, h1, h2⟩; have H3 := Lib.hid h1; have H4 := Lib.hid h2; clear h1 h2)
   | (go_at_call 95; refine (HP.out W3 _ (Nat.le_trans hlo (Nat.le_trans HZ2.out H4.out.size)) H3.out).mono ?_; rintro e W5 ⟨f, rfl, h1, h2⟩; have H5 := Lib.hid h1; have H6 := Lib.hid h2; clear h1 h2))
  go_ret
  exact ⟨_, rfl, (by rw [HT.out]; exact H5.out), HB2.out.trans ((H4.out.trans (H6.out.mono H4.out.size)).mono HZ2.out)⟩
 ·have hkd : decide (((rankX x : Nat) : Int) < ((least : Nat) : Int)) = false := by simp; omega
  have hkn : decide (rankX x < least) = false := by simpa using hk
  have HT := Lib.hid (show partT (rankX x, exprT x) least = exprT x by simp [partT, hk])
  clear hk
  go_wp2_with (go_at_call 56; refine (HE.out W2 lo _ (Nat.le_trans hlo HZ2.out) HR2.out).mono ?_; rintro e W3 ⟨f, rfl, h1, h2⟩; have H3 := Lib.hid h1; have H4 := Lib.hid h2; clear h1 h2)
  go_ret
  exact ⟨_, rfl, (by rw [HT.out]; exact H3.out), HB2.out.trans (H4.out.mono HZ2.out)⟩
theorem exprT_4 (name : Ln) (n w : Int) (v : Nat) (l : List X) : exprT (.mk 4 name n w v l) = List.flatten [[nmT name], inT 91 93 (sepS [58] (l.map exprT))] := by
 rw [exprT_eq]; simp [nodeT, braT, Function.comp_def, X.op, X.name, X.n, X.w, X.v, X.l]
theorem exprT_3 (name : Ln) (n w : Int) (v : Nat) (l : List X) : exprT (.mk 3 name n w v l) = List.flatten [[nmT name], inT 91 93 (sepS [58] (l.map exprT))] := by
 rw [exprT_eq]; simp [nodeT, braT, Function.comp_def, X.op, X.name, X.n, X.w, X.v, X.l]
theorem exprT_5 (name : Ln) (n w : Int) (v : Nat) (a : X) : exprT (.mk 5 name n w v [a]) = List.flatten [[sgT (oneS n)], partT (rankX a, exprT a) 11] := by
 rw [exprT_eq]; simp [nodeT, X.op, X.name, X.n, X.w, X.v, X.l]
theorem exprT_6 (name : Ln) (n w : Int) (v : Nat) (a b : X) : exprT (.mk 6 name n w v [a, b]) = List.flatten [partT (rankX a, exprT a) (twoR n), [sgT (twoS n)], partT (rankX b, exprT b) (twoR n + 1)] := by
 rw [exprT_eq]; simp [nodeT, X.op, X.name, X.n, X.w, X.v, X.l]
theorem exprT_7 (name : Ln) (n w : Int) (v : Nat) (a b c : X) : exprT (.mk 7 name n w v [a, b, c]) = List.flatten [partT (rankX a, exprT a) 1, [sgT [63]], sepS [58] ([b, c].map exprT)] := by
 rw [exprT_eq]; simp [nodeT, sepS, X.op, X.name, X.n, X.w, X.v, X.l]
theorem exprT_8 (name : Ln) (n w : Int) (v : Nat) (l : List X) : exprT (.mk 8 name n w v l) = inT 123 125 (listT l) := by
 rw [exprT_eq]; simp [nodeT, cubT, listT, Function.comp_def, X.op, X.name, X.n, X.w, X.v, X.l]
theorem exprT_9 (name : Ln) (n w : Int) (v : Nat) (a b : X) : exprT (.mk 9 name n w v [a, b]) = inT 123 125 (List.flatten [exprT a, inT 123 125 (exprT b)]) := by
 rw [exprT_eq]; simp [nodeT, cubT, X.op, X.name, X.n, X.w, X.v, X.l]
theorem exprT_10 (name : Ln) (n w : Int) (v : Nat) (l : List X) : exprT (.mk 10 name n w v l) = List.flatten [[wdT (extS n)], inT 40 41 (listT l)] := by
 rw [exprT_eq]; simp [nodeT, parT, listT, Function.comp_def, X.op, X.name, X.n, X.w, X.v, X.l]
theorem exprT_2 (name : Ln) (n w : Int) (v : Nat) (l : List X) : exprT (.mk 2 name n w v l) = [nmT name] := by
 rw [exprT_eq]; simp [nodeT, X.op, X.name, X.n, X.w, X.v, X.l]
theorem exprT_1 (name : Ln) (n w : Int) (v : Nat) (l : List X) : exprT (.mk 1 name n w v l) = [numT w v] := by
 rw [exprT_eq]; simp [nodeT, X.op, X.name, X.n, X.w, X.v, X.l]
theorem kidsX {q off : Nat} {W : World} {l : List X} (h : Spl.Rows W 6 (XR W) q off l) (k : Nat) (a : X) (hk : l[k]? = some a) : XAt W q (off + k * 6) a := by
 obtain ⟨h1, h2⟩ := List.getElem?_eq_some_iff.1 hk
 rw [← h2]
 exact els_at h k h1
theorem els_tail {W : World} {q off cap : Nat} {a : X} {l : List X} (h : XsR W (.slice (some ⟨q, off, none⟩) (l.length + 1) cap) (a :: l)) : XsR W (.slice (some ⟨q, off + 6, none⟩) l.length (cap - 1)) l := by
 obtain ⟨p, c, h1, h2, h3⟩ := h
 simp only [Value.slice.injEq] at h1
 obtain ⟨rfl, _, rfl⟩ := h1
 refine ⟨_, _, rfl, by simp at h2; omega, ?_⟩
 rcases h3 with h3 | ⟨b, o, h4, h5, h6⟩
 ·cases h3
 ·simp only [Option.some.injEq, Addr.mk.injEq] at h4
  obtain ⟨rfl, rfl, _⟩ := h4
  refine .inr ⟨_, _, rfl, h5, fun k hk => ?_⟩
  obtain ⟨cs, g1, g2⟩ := h6 (k + 1) (by simpa using hk)
  exact ⟨cs, g1, fun j hj => by rw [← g2 j hj]; congr 2; omega⟩
theorem expr_index (name : Ln) (n : Int) (W : World) (lo : Nat) (hlo : lo ≤ W.heap.size) (l : List X) (hll : l.length ≤ 1000000) (p : Option Addr) (cap : Nat) (hXs0 : XsR W (.slice p l.length cap) l) (ih : ∀ y ∈ l, ExprOK y) :
  Calls Tryz.prog 56 #[.agg #[.int .i64 4, .string (bs name), .int .i64 n, .int .i64 0, .int .u64 0, .slice p l.length cap]] W (MkPost lo W (exprT (.mk 4 name n 0 0 l))) := by
  go_enter Tryz.func56, Tryz.ntmps56
  go_wp2_with fail
  have hW1 := Lib.hid ((Below.refl W.heap.size W).alloc (Nat.le_refl _) (.cells #[.int .i64 4, .string (bs name), .int .i64 n, .int .i64 0, .int .u64 0, .slice p l.length cap] 28))
  have hbx := World.alloc_heap_new W (.cells #[.int .i64 4, .string (bs name), .int .i64 n, .int .i64 0, .int .u64 0, .slice p l.length cap] 28)
  have hls := World.size_alloc W (.cells #[.int .i64 4, .string (bs name), .int .i64 n, .int .i64 0, .int .u64 0, .slice p l.length cap] 28)
  generalize W.alloc (.cells #[.int .i64 4, .string (bs name), .int .i64 n, .int .i64 0, .int .u64 0, .slice p l.length cap] 28) = W1 at *
  have hbl : W.heap.size < W1.heap.size := by omega
  have hlo1 : lo ≤ W1.heap.size := by omega
  have hXs := XsR.later hXs0 hW1.out
  have y0 : W1.cell? ⟨W.heap.size, 0, none⟩ = some (.int .i64 4) := by simp [World.cell?, hbx]
  have y1 : W1.cell? ⟨W.heap.size, 1, none⟩ = some (.string (bs name)) := by simp [World.cell?, hbx]
  have y2 : W1.cell? ⟨W.heap.size, 2, none⟩ = some (.int .i64 n) := by simp [World.cell?, hbx]
  have y3 : W1.cell? ⟨W.heap.size, 3, none⟩ = some (.int .i64 0) := by simp [World.cell?, hbx]
  have y4 : W1.cell? ⟨W.heap.size, 4, none⟩ = some (.int .u64 0) := by simp [World.cell?, hbx]
  have y5 : W1.cell? ⟨W.heap.size, 5, none⟩ = some (.slice p l.length cap) := by simp [World.cell?, hbx]
  clear hbx hls
  refine region_grow Grw (spcAt lo [.is (.pointer (some ⟨W.heap.size, 1, none⟩)), .is (.string (bs name)), .seq ([nmT (name)]), .is (.pointer (some ⟨W.heap.size, 5, none⟩)), .is (.slice p l.length cap), .seq (sepS [58] ((l).map exprT)), .seq (inT 91 93 (sepS [58] ((l).map exprT))), .seqs [[nmT (name)], inT 91 93 (sepS [58] ((l).map exprT))], .seq (List.flatten [[nmT (name)], inT 91 93 (sepS [58] ((l).map exprT))]), .seq (List.flatten [[nmT (name)], inT 91 93 (sepS [58] ((l).map exprT))])])
   (by kernel_rfl) rfl (by kernel_rfl) (by kernel_rfl) (grw_drawn _) grw_trans (spcAt_grw lo _) ?hops ?hfin
  case hops =>
   refine ⟨?o0, ?o1, ?o2, ?o3, ?o4, ?o5, ?o6, ?o7, ?o8, ?o9, trivial⟩
   all_goals (intro ev W' hG hr hD; have hc := hr.const; have hf := hr.func)
   case o0 =>
    have e1 : ev (.tmp 1) = .pointer (some ⟨W.heap.size, 0, none⟩) := hr.tmp 1 (by kernel_rfl)
    exact ok_val (v := .pointer (some ⟨W.heap.size, 1, none⟩)) (by simp [execOp, go_sem, e1]) ⟨Below.refl _ _, rfl⟩
   case o1 =>
    have e18 : ev (.tmp 18) = .pointer (some ⟨W.heap.size, 1, none⟩) := hD 0 18 (by kernel_rfl)
    have m0 := (hG.cell (p := ⟨W.heap.size, 1, none⟩) hbl).trans y1
    exact ok_val (v := .string (bs name)) (by simp [execOp, go_sem, e18, m0]) ⟨Below.refl _ _, rfl⟩
   case o2 =>
    have e19 : ev (.tmp 19) = .string (bs name) := hD 1 19 (by kernel_rfl)
    refine ok_call (f := 93) (args := #[.string (bs name)]) (by simp [execOp, go_sem, hc, hf, e19]) ?_
    have hlo' := Nat.le_trans hlo1 hG.size
    refine (sname_any (name) W' lo hlo').mono ?_
    rintro e W2 ⟨f, rfl, h1, h2⟩
    refine ⟨f, rfl, h2, ?_⟩
    show Seq lo W2 f ([nmT (name)])
    exact h1
   case o3 =>
    have e1 : ev (.tmp 1) = .pointer (some ⟨W.heap.size, 0, none⟩) := hr.tmp 1 (by kernel_rfl)
    exact ok_val (v := .pointer (some ⟨W.heap.size, 5, none⟩)) (by simp [execOp, go_sem, e1]) ⟨Below.refl _ _, rfl⟩
   case o4 =>
    have e21 : ev (.tmp 21) = .pointer (some ⟨W.heap.size, 5, none⟩) := hD 3 21 (by kernel_rfl)
    have m0 := (hG.cell (p := ⟨W.heap.size, 5, none⟩) hbl).trans y5
    exact ok_val (v := .slice p l.length cap) (by simp [execOp, go_sem, e21, m0]) ⟨Below.refl _ _, rfl⟩
   case o5 =>
    have e22 : ev (.tmp 22) = .slice p l.length cap := hD 4 22 (by kernel_rfl)
    refine ok_call (f := 105) (args := #[.slice p l.length cap, .string { data := #[58] }, .func (.func 56) #[] #[]]) (by simp [execOp, go_sem, hc, hf, e22]) ?_
    have hlo' := Nat.le_trans hlo1 hG.size
    refine (eachX_any [58] (by decide) _ (l) hll W' lo hlo' (XsR.later hXs hG) ih).mono ?_
    rintro e W2 ⟨f, rfl, h1, h2⟩
    refine ⟨f, rfl, h2, ?_⟩
    show Seq lo W2 f (sepS [58] ((l).map exprT))
    exact h1
   case o6 =>
    have s23 : Seq lo W' (ev (.tmp 23)) (sepS [58] ((l).map exprT)) := hD 5 23 (by kernel_rfl)
    refine ok_call (f := 95) (args := #[.string { data := #[91, 93] }, ev (.tmp 23)]) (by simp [execOp, go_sem, hc, hf]) ?_
    have hlo' := Nat.le_trans hlo1 hG.size
    refine (in_any 91 93 _ _ W' lo hlo' s23).mono ?_
    rintro e W2 ⟨f, rfl, h1, h2⟩
    refine ⟨f, rfl, h2, ?_⟩
    show Seq lo W2 f (inT 91 93 (sepS [58] ((l).map exprT)))
    exact h1
   case o7 =>
    obtain ⟨g20, l20, e20, s20⟩ := seq_form (show Seq lo W' (ev (.tmp 20)) ([nmT (name)]) from hD 2 20 (by kernel_rfl))
    obtain ⟨g24, l24, e24, s24⟩ := seq_form (show Seq lo W' (ev (.tmp 24)) (inT 91 93 (sepS [58] ((l).map exprT))) from hD 6 24 (by kernel_rfl))
    have hn := seqs_new (lo := lo) (W := W') (fs := [.func (.func g20) #[] l20, .func (.func g24) #[] l24]) (ls := [[nmT (name)], inT 91 93 (sepS [58] ((l).map exprT))]) ⟨s20, s24, trivial⟩ (Nat.le_trans hlo1 hG.size)
    exact ok_new (v := .slice (some ⟨W'.heap.size, 0, none⟩) 2 2) (W' := W'.alloc (.cells #[.func (.func g20) #[] l20, .func (.func g24) #[] l24] 79)) (by simp [execOp, go_sem, e20, e24]) ⟨hn.2, hn.1⟩
   case o8 =>
    have s25 : Seqs lo W' (ev (.tmp 25)) [[nmT (name)], inT 91 93 (sepS [58] ((l).map exprT))] := hD 7 25 (by kernel_rfl)
    refine ok_call (f := 91) (args := #[ev (.tmp 25)]) (by simp [execOp, go_sem, hc, hf]) ?_
    have hlo' := Nat.le_trans hlo1 hG.size
    refine (row_any _ _ (by simp) W' lo hlo' s25).mono ?_
    rintro e W2 ⟨f, rfl, h1, h2⟩
    refine ⟨f, rfl, h2, ?_⟩
    show Seq lo W2 f (List.flatten [[nmT (name)], inT 91 93 (sepS [58] ((l).map exprT))])
    exact h1
   case o9 =>
    have s26 : Seq lo W' (ev (.tmp 26)) (List.flatten [[nmT (name)], inT 91 93 (sepS [58] ((l).map exprT))]) := hD 8 26 (by kernel_rfl)
    exact ok_val (v := ev (.tmp 26)) (by simp [execOp, go_sem]) ⟨Below.refl _ _, s26⟩
  case hfin =>
   intro zz W' hG hzz
   have h9 : Seq lo W' (zz 9) (List.flatten [[nmT (name)], inT 91 93 (sepS [58] ((l).map exprT))]) := hzz 9 (by simp)
   simp only [putAll, Act.put, List.setIfInBounds_toArray, List.set_cons_zero, List.set_cons_succ]
   go_wp2_with fail
   go_ret
   refine ⟨_, rfl, ?_, hW1.out.trans (Below.mono hG (by omega))⟩
   rw [exprT_4]; exact h9
theorem expr_slice (name : Ln) (n : Int) (W : World) (lo : Nat) (hlo : lo ≤ W.heap.size) (l : List X) (hll : l.length ≤ 1000000) (p : Option Addr) (cap : Nat) (hXs0 : XsR W (.slice p l.length cap) l) (ih : ∀ y ∈ l, ExprOK y) :
  Calls Tryz.prog 56 #[.agg #[.int .i64 3, .string (bs name), .int .i64 n, .int .i64 0, .int .u64 0, .slice p l.length cap]] W (MkPost lo W (exprT (.mk 3 name n 0 0 l))) := by
  go_enter Tryz.func56, Tryz.ntmps56
  go_wp2_with fail
  have hW1 := Lib.hid ((Below.refl W.heap.size W).alloc (Nat.le_refl _) (.cells #[.int .i64 3, .string (bs name), .int .i64 n, .int .i64 0, .int .u64 0, .slice p l.length cap] 28))
  have hbx := World.alloc_heap_new W (.cells #[.int .i64 3, .string (bs name), .int .i64 n, .int .i64 0, .int .u64 0, .slice p l.length cap] 28)
  have hls := World.size_alloc W (.cells #[.int .i64 3, .string (bs name), .int .i64 n, .int .i64 0, .int .u64 0, .slice p l.length cap] 28)
  generalize W.alloc (.cells #[.int .i64 3, .string (bs name), .int .i64 n, .int .i64 0, .int .u64 0, .slice p l.length cap] 28) = W1 at *
  have hbl : W.heap.size < W1.heap.size := by omega
  have hlo1 : lo ≤ W1.heap.size := by omega
  have hXs := XsR.later hXs0 hW1.out
  have y0 : W1.cell? ⟨W.heap.size, 0, none⟩ = some (.int .i64 3) := by simp [World.cell?, hbx]
  have y1 : W1.cell? ⟨W.heap.size, 1, none⟩ = some (.string (bs name)) := by simp [World.cell?, hbx]
  have y2 : W1.cell? ⟨W.heap.size, 2, none⟩ = some (.int .i64 n) := by simp [World.cell?, hbx]
  have y3 : W1.cell? ⟨W.heap.size, 3, none⟩ = some (.int .i64 0) := by simp [World.cell?, hbx]
  have y4 : W1.cell? ⟨W.heap.size, 4, none⟩ = some (.int .u64 0) := by simp [World.cell?, hbx]
  have y5 : W1.cell? ⟨W.heap.size, 5, none⟩ = some (.slice p l.length cap) := by simp [World.cell?, hbx]
  clear hbx hls
  refine region_grow Grw (spcAt lo [.is (.pointer (some ⟨W.heap.size, 1, none⟩)), .is (.string (bs name)), .seq ([nmT (name)]), .is (.pointer (some ⟨W.heap.size, 5, none⟩)), .is (.slice p l.length cap), .seq (sepS [58] ((l).map exprT)), .seq (inT 91 93 (sepS [58] ((l).map exprT))), .seqs [[nmT (name)], inT 91 93 (sepS [58] ((l).map exprT))], .seq (List.flatten [[nmT (name)], inT 91 93 (sepS [58] ((l).map exprT))]), .seq (List.flatten [[nmT (name)], inT 91 93 (sepS [58] ((l).map exprT))])])
   (by kernel_rfl) rfl (by kernel_rfl) (by kernel_rfl) (grw_drawn _) grw_trans (spcAt_grw lo _) ?hops ?hfin
  case hops =>
   refine ⟨?o0, ?o1, ?o2, ?o3, ?o4, ?o5, ?o6, ?o7, ?o8, ?o9, trivial⟩
   all_goals (intro ev W' hG hr hD; have hc := hr.const; have hf := hr.func)
   case o0 =>
    have e1 : ev (.tmp 1) = .pointer (some ⟨W.heap.size, 0, none⟩) := hr.tmp 1 (by kernel_rfl)
    exact ok_val (v := .pointer (some ⟨W.heap.size, 1, none⟩)) (by simp [execOp, go_sem, e1]) ⟨Below.refl _ _, rfl⟩
   case o1 =>
    have e18 : ev (.tmp 18) = .pointer (some ⟨W.heap.size, 1, none⟩) := hD 0 18 (by kernel_rfl)
    have m0 := (hG.cell (p := ⟨W.heap.size, 1, none⟩) hbl).trans y1
    exact ok_val (v := .string (bs name)) (by simp [execOp, go_sem, e18, m0]) ⟨Below.refl _ _, rfl⟩
   case o2 =>
    have e19 : ev (.tmp 19) = .string (bs name) := hD 1 19 (by kernel_rfl)
    refine ok_call (f := 93) (args := #[.string (bs name)]) (by simp [execOp, go_sem, hc, hf, e19]) ?_
    have hlo' := Nat.le_trans hlo1 hG.size
    refine (sname_any (name) W' lo hlo').mono ?_
    rintro e W2 ⟨f, rfl, h1, h2⟩
    refine ⟨f, rfl, h2, ?_⟩
    show Seq lo W2 f ([nmT (name)])
    exact h1
   case o3 =>
    have e1 : ev (.tmp 1) = .pointer (some ⟨W.heap.size, 0, none⟩) := hr.tmp 1 (by kernel_rfl)
    exact ok_val (v := .pointer (some ⟨W.heap.size, 5, none⟩)) (by simp [execOp, go_sem, e1]) ⟨Below.refl _ _, rfl⟩
   case o4 =>
    have e21 : ev (.tmp 21) = .pointer (some ⟨W.heap.size, 5, none⟩) := hD 3 21 (by kernel_rfl)
    have m0 := (hG.cell (p := ⟨W.heap.size, 5, none⟩) hbl).trans y5
    exact ok_val (v := .slice p l.length cap) (by simp [execOp, go_sem, e21, m0]) ⟨Below.refl _ _, rfl⟩
   case o5 =>
    have e22 : ev (.tmp 22) = .slice p l.length cap := hD 4 22 (by kernel_rfl)
    refine ok_call (f := 105) (args := #[.slice p l.length cap, .string { data := #[58] }, .func (.func 56) #[] #[]]) (by simp [execOp, go_sem, hc, hf, e22]) ?_
    have hlo' := Nat.le_trans hlo1 hG.size
    refine (eachX_any [58] (by decide) _ (l) hll W' lo hlo' (XsR.later hXs hG) ih).mono ?_
    rintro e W2 ⟨f, rfl, h1, h2⟩
    refine ⟨f, rfl, h2, ?_⟩
    show Seq lo W2 f (sepS [58] ((l).map exprT))
    exact h1
   case o6 =>
    have s23 : Seq lo W' (ev (.tmp 23)) (sepS [58] ((l).map exprT)) := hD 5 23 (by kernel_rfl)
    refine ok_call (f := 95) (args := #[.string { data := #[91, 93] }, ev (.tmp 23)]) (by simp [execOp, go_sem, hc, hf]) ?_
    have hlo' := Nat.le_trans hlo1 hG.size
    refine (in_any 91 93 _ _ W' lo hlo' s23).mono ?_
    rintro e W2 ⟨f, rfl, h1, h2⟩
    refine ⟨f, rfl, h2, ?_⟩
    show Seq lo W2 f (inT 91 93 (sepS [58] ((l).map exprT)))
    exact h1
   case o7 =>
    obtain ⟨g20, l20, e20, s20⟩ := seq_form (show Seq lo W' (ev (.tmp 20)) ([nmT (name)]) from hD 2 20 (by kernel_rfl))
    obtain ⟨g24, l24, e24, s24⟩ := seq_form (show Seq lo W' (ev (.tmp 24)) (inT 91 93 (sepS [58] ((l).map exprT))) from hD 6 24 (by kernel_rfl))
    have hn := seqs_new (lo := lo) (W := W') (fs := [.func (.func g20) #[] l20, .func (.func g24) #[] l24]) (ls := [[nmT (name)], inT 91 93 (sepS [58] ((l).map exprT))]) ⟨s20, s24, trivial⟩ (Nat.le_trans hlo1 hG.size)
    exact ok_new (v := .slice (some ⟨W'.heap.size, 0, none⟩) 2 2) (W' := W'.alloc (.cells #[.func (.func g20) #[] l20, .func (.func g24) #[] l24] 79)) (by simp [execOp, go_sem, e20, e24]) ⟨hn.2, hn.1⟩
   case o8 =>
    have s25 : Seqs lo W' (ev (.tmp 25)) [[nmT (name)], inT 91 93 (sepS [58] ((l).map exprT))] := hD 7 25 (by kernel_rfl)
    refine ok_call (f := 91) (args := #[ev (.tmp 25)]) (by simp [execOp, go_sem, hc, hf]) ?_
    have hlo' := Nat.le_trans hlo1 hG.size
    refine (row_any _ _ (by simp) W' lo hlo' s25).mono ?_
    rintro e W2 ⟨f, rfl, h1, h2⟩
    refine ⟨f, rfl, h2, ?_⟩
    show Seq lo W2 f (List.flatten [[nmT (name)], inT 91 93 (sepS [58] ((l).map exprT))])
    exact h1
   case o9 =>
    have s26 : Seq lo W' (ev (.tmp 26)) (List.flatten [[nmT (name)], inT 91 93 (sepS [58] ((l).map exprT))]) := hD 8 26 (by kernel_rfl)
    exact ok_val (v := ev (.tmp 26)) (by simp [execOp, go_sem]) ⟨Below.refl _ _, s26⟩
  case hfin =>
   intro zz W' hG hzz
   have h9 : Seq lo W' (zz 9) (List.flatten [[nmT (name)], inT 91 93 (sepS [58] ((l).map exprT))]) := hzz 9 (by simp)
   simp only [putAll, Act.put, List.setIfInBounds_toArray, List.set_cons_zero, List.set_cons_succ]
   go_wp2_with fail
   go_ret
   refine ⟨_, rfl, ?_, hW1.out.trans (Below.mono hG (by omega))⟩
   rw [exprT_3]; exact h9
theorem expr_un1 (name : Ln) (W : World) (lo : Nat) (hlo : lo ≤ W.heap.size) (xa : X) (q off cap : Nat) (hq0 : q < W.heap.size) (hXs0 : XsR W (.slice (some ⟨q, off, none⟩) 1 cap) [xa]) (hoa : okX xa = true) (iha : ExprOK xa) (za : XAt W q off xa) :
  Calls Tryz.prog 56 #[.agg #[.int .i64 5, .string (bs name), .int .i64 1, .int .i64 0, .int .u64 0, .slice (some ⟨q, off, none⟩) 1 cap]] W (MkPost lo W (exprT (.mk 5 name 1 0 0 [xa]))) := by
  go_enter Tryz.func56, Tryz.ntmps56
  go_wp2_with fail
  have hW1 := Lib.hid ((Below.refl W.heap.size W).alloc (Nat.le_refl _) (.cells #[.int .i64 5, .string (bs name), .int .i64 1, .int .i64 0, .int .u64 0, .slice (some ⟨q, off, none⟩) 1 cap] 28))
  have hbx := World.alloc_heap_new W (.cells #[.int .i64 5, .string (bs name), .int .i64 1, .int .i64 0, .int .u64 0, .slice (some ⟨q, off, none⟩) 1 cap] 28)
  have hls := World.size_alloc W (.cells #[.int .i64 5, .string (bs name), .int .i64 1, .int .i64 0, .int .u64 0, .slice (some ⟨q, off, none⟩) 1 cap] 28)
  generalize W.alloc (.cells #[.int .i64 5, .string (bs name), .int .i64 1, .int .i64 0, .int .u64 0, .slice (some ⟨q, off, none⟩) 1 cap] 28) = W1 at *
  have hbl : W.heap.size < W1.heap.size := by omega
  have hlo1 : lo ≤ W1.heap.size := by omega
  have hXs := XsR.later hXs0 hW1.out
  have hq1 : q < W1.heap.size := Nat.lt_of_lt_of_le hq0 hW1.out.size
  obtain ⟨pa, ca, a0, a1, a2, a3, a4, a5, Xa⟩ := XAt.later za hq0 hW1.out
  have y0 : W1.cell? ⟨W.heap.size, 0, none⟩ = some (.int .i64 5) := by simp [World.cell?, hbx]
  have y1 : W1.cell? ⟨W.heap.size, 1, none⟩ = some (.string (bs name)) := by simp [World.cell?, hbx]
  have y2 : W1.cell? ⟨W.heap.size, 2, none⟩ = some (.int .i64 1) := by simp [World.cell?, hbx]
  have y3 : W1.cell? ⟨W.heap.size, 3, none⟩ = some (.int .i64 0) := by simp [World.cell?, hbx]
  have y4 : W1.cell? ⟨W.heap.size, 4, none⟩ = some (.int .u64 0) := by simp [World.cell?, hbx]
  have y5 : W1.cell? ⟨W.heap.size, 5, none⟩ = some (.slice (some ⟨q, off, none⟩) 1 cap) := by simp [World.cell?, hbx]
  clear hbx hls
  refine region_grow Grw (spcAt lo [.is (.pointer (some ⟨W.heap.size, 2, none⟩)), .is (.int .i64 1), .is (.int .i64 0), .is (.pointer (some ⟨W.heap.size, 2, none⟩)), .is (.int .i64 1), .is (.string (bs [126])), .seq ([sgT [126]]), .is (.pointer (some ⟨W.heap.size, 5, none⟩)), .is (.slice (some ⟨q, off, none⟩) 1 cap), .is (.pointer (some ⟨q, off, none⟩)), .is (.agg #[.int .i64 xa.op, .string (bs xa.name), .int .i64 xa.n, .int .i64 xa.w, .int .u64 xa.v, .slice pa xa.l.length ca]), .seq (partT (rankX (xa), exprT (xa)) (11)), .seqs [[sgT [126]], partT (rankX (xa), exprT (xa)) (11)], .seq (List.flatten [[sgT [126]], partT (rankX (xa), exprT (xa)) (11)]), .seq (List.flatten [[sgT [126]], partT (rankX (xa), exprT (xa)) (11)])])
   (by kernel_rfl) rfl (by kernel_rfl) (by kernel_rfl) (grw_drawn _) grw_trans (spcAt_grw lo _) ?hops ?hfin
  case hops =>
   refine ⟨?o0, ?o1, ?o2, ?o3, ?o4, ?o5, ?o6, ?o7, ?o8, ?o9, ?o10, ?o11, ?o12, ?o13, ?o14, trivial⟩
   all_goals (intro ev W' hG hr hD; have hc := hr.const; have hf := hr.func)
   case o0 =>
    have e1 : ev (.tmp 1) = .pointer (some ⟨W.heap.size, 0, none⟩) := hr.tmp 1 (by kernel_rfl)
    exact ok_val (v := .pointer (some ⟨W.heap.size, 2, none⟩)) (by simp [execOp, go_sem, e1]) ⟨Below.refl _ _, rfl⟩
   case o1 =>
    have e29 : ev (.tmp 29) = .pointer (some ⟨W.heap.size, 2, none⟩) := hD 0 29 (by kernel_rfl)
    have m0 := (hG.cell (p := ⟨W.heap.size, 2, none⟩) hbl).trans y2
    exact ok_val (v := .int .i64 1) (by simp [execOp, go_sem, e29, m0]) ⟨Below.refl _ _, rfl⟩
   case o2 =>
    have e30 : ev (.tmp 30) = .int .i64 1 := hD 1 30 (by kernel_rfl)
    exact ok_val (v := .int .i64 0) (by simp [execOp, go_sem, hc, e30]; try rfl) ⟨Below.refl _ _, rfl⟩
   case o3 =>
    have e1 : ev (.tmp 1) = .pointer (some ⟨W.heap.size, 0, none⟩) := hr.tmp 1 (by kernel_rfl)
    exact ok_val (v := .pointer (some ⟨W.heap.size, 2, none⟩)) (by simp [execOp, go_sem, e1]) ⟨Below.refl _ _, rfl⟩
   case o4 =>
    have e32 : ev (.tmp 32) = .pointer (some ⟨W.heap.size, 2, none⟩) := hD 3 32 (by kernel_rfl)
    have m0 := (hG.cell (p := ⟨W.heap.size, 2, none⟩) hbl).trans y2
    exact ok_val (v := .int .i64 1) (by simp [execOp, go_sem, e32, m0]) ⟨Below.refl _ _, rfl⟩
   case o5 =>
    have e31 : ev (.tmp 31) = .int .i64 0 := hD 2 31 (by kernel_rfl)
    have e33 : ev (.tmp 33) = .int .i64 1 := hD 4 33 (by kernel_rfl)
    exact ok_val (v := .string (bs [126])) (by simp [execOp, go_sem, hc, e31, e33]; rfl) ⟨Below.refl _ _, rfl⟩
   case o6 =>
    have e34 : ev (.tmp 34) = .string (bs [126]) := hD 5 34 (by kernel_rfl)
    refine ok_call (f := 90) (args := #[.string (bs [126])]) (by simp [execOp, go_sem, hc, hf, e34]) ?_
    have hlo' := Nat.le_trans hlo1 hG.size
    refine (ssign_any [126] W' lo hlo').mono ?_
    rintro e W2 ⟨f, rfl, h1, h2⟩
    refine ⟨f, rfl, h2, ?_⟩
    show Seq lo W2 f ([sgT [126]])
    exact h1
   case o7 =>
    have e1 : ev (.tmp 1) = .pointer (some ⟨W.heap.size, 0, none⟩) := hr.tmp 1 (by kernel_rfl)
    exact ok_val (v := .pointer (some ⟨W.heap.size, 5, none⟩)) (by simp [execOp, go_sem, e1]) ⟨Below.refl _ _, rfl⟩
   case o8 =>
    have e36 : ev (.tmp 36) = .pointer (some ⟨W.heap.size, 5, none⟩) := hD 7 36 (by kernel_rfl)
    have m0 := (hG.cell (p := ⟨W.heap.size, 5, none⟩) hbl).trans y5
    exact ok_val (v := .slice (some ⟨q, off, none⟩) 1 cap) (by simp [execOp, go_sem, e36, m0]) ⟨Below.refl _ _, rfl⟩
   case o9 =>
    have e37 : ev (.tmp 37) = .slice (some ⟨q, off, none⟩) 1 cap := hD 8 37 (by kernel_rfl)
    exact ok_val (v := .pointer (some ⟨q, off, none⟩)) (by simp [execOp, go_sem, e37, hc]) ⟨Below.refl _ _, rfl⟩
   case o10 =>
    have e38 : ev (.tmp 38) = .pointer (some ⟨q, off, none⟩) := hD 9 38 (by kernel_rfl)
    have m0 := (hG.cell (p := ⟨q, off, none⟩) hq1).trans a0
    have m1 := (hG.cell (p := ⟨q, off + 1, none⟩) hq1).trans a1
    have m2 := (hG.cell (p := ⟨q, off + 2, none⟩) hq1).trans a2
    have m3 := (hG.cell (p := ⟨q, off + 3, none⟩) hq1).trans a3
    have m4 := (hG.cell (p := ⟨q, off + 4, none⟩) hq1).trans a4
    have m5 := (hG.cell (p := ⟨q, off + 5, none⟩) hq1).trans a5
    exact ok_val (v := .agg #[.int .i64 xa.op, .string (bs xa.name), .int .i64 xa.n, .int .i64 xa.w, .int .u64 xa.v, .slice pa xa.l.length ca]) (by simp [execOp, go_sem, e38, m0, m1, m2, m3, m4, m5]) ⟨Below.refl _ _, rfl⟩
   case o11 =>
    have e39 : ev (.tmp 39) = .agg #[.int .i64 xa.op, .string (bs xa.name), .int .i64 xa.n, .int .i64 xa.w, .int .u64 xa.v, .slice pa xa.l.length ca] := hD 10 39 (by kernel_rfl)
    refine ok_call (f := 106) (args := #[.agg #[.int .i64 xa.op, .string (bs xa.name), .int .i64 xa.n, .int .i64 xa.w, .int .u64 xa.v, .slice pa xa.l.length ca], .int .i64 11]) (by simp [execOp, go_sem, hc, hf, e39]) ?_
    have hlo' := Nat.le_trans hlo1 hG.size
    refine (part_any (xa) hoa iha (11) W' lo hlo' _ (XR.later hG _ _ Xa)).mono ?_
    rintro e W2 ⟨f, rfl, h1, h2⟩
    refine ⟨f, rfl, h2, ?_⟩
    show Seq lo W2 f (partT (rankX (xa), exprT (xa)) (11))
    exact h1
   case o12 =>
    obtain ⟨g35, l35, e35, s35⟩ := seq_form (show Seq lo W' (ev (.tmp 35)) ([sgT [126]]) from hD 6 35 (by kernel_rfl))
    obtain ⟨g40, l40, e40, s40⟩ := seq_form (show Seq lo W' (ev (.tmp 40)) (partT (rankX (xa), exprT (xa)) (11)) from hD 11 40 (by kernel_rfl))
    have hn := seqs_new (lo := lo) (W := W') (fs := [.func (.func g35) #[] l35, .func (.func g40) #[] l40]) (ls := [[sgT [126]], partT (rankX (xa), exprT (xa)) (11)]) ⟨s35, s40, trivial⟩ (Nat.le_trans hlo1 hG.size)
    exact ok_new (v := .slice (some ⟨W'.heap.size, 0, none⟩) 2 2) (W' := W'.alloc (.cells #[.func (.func g35) #[] l35, .func (.func g40) #[] l40] 79)) (by simp [execOp, go_sem, e35, e40]) ⟨hn.2, hn.1⟩
   case o13 =>
    have s41 : Seqs lo W' (ev (.tmp 41)) [[sgT [126]], partT (rankX (xa), exprT (xa)) (11)] := hD 12 41 (by kernel_rfl)
    refine ok_call (f := 91) (args := #[ev (.tmp 41)]) (by simp [execOp, go_sem, hc, hf]) ?_
    have hlo' := Nat.le_trans hlo1 hG.size
    refine (row_any _ _ (by simp) W' lo hlo' s41).mono ?_
    rintro e W2 ⟨f, rfl, h1, h2⟩
    refine ⟨f, rfl, h2, ?_⟩
    show Seq lo W2 f (List.flatten [[sgT [126]], partT (rankX (xa), exprT (xa)) (11)])
    exact h1
   case o14 =>
    have s42 : Seq lo W' (ev (.tmp 42)) (List.flatten [[sgT [126]], partT (rankX (xa), exprT (xa)) (11)]) := hD 13 42 (by kernel_rfl)
    exact ok_val (v := ev (.tmp 42)) (by simp [execOp, go_sem]) ⟨Below.refl _ _, s42⟩
  case hfin =>
   intro zz W' hG hzz
   have h9 : Seq lo W' (zz 14) (List.flatten [[sgT [126]], partT (rankX (xa), exprT (xa)) (11)]) := hzz 14 (by simp)
   simp only [putAll, Act.put, List.setIfInBounds_toArray, List.set_cons_zero, List.set_cons_succ]
   go_wp2_with fail
   go_ret
   refine ⟨_, rfl, ?_, hW1.out.trans (Below.mono hG (by omega))⟩
   rw [exprT_5]; exact h9
theorem expr_un2 (name : Ln) (W : World) (lo : Nat) (hlo : lo ≤ W.heap.size) (xa : X) (q off cap : Nat) (hq0 : q < W.heap.size) (hXs0 : XsR W (.slice (some ⟨q, off, none⟩) 1 cap) [xa]) (hoa : okX xa = true) (iha : ExprOK xa) (za : XAt W q off xa) :
  Calls Tryz.prog 56 #[.agg #[.int .i64 5, .string (bs name), .int .i64 2, .int .i64 0, .int .u64 0, .slice (some ⟨q, off, none⟩) 1 cap]] W (MkPost lo W (exprT (.mk 5 name 2 0 0 [xa]))) := by
  go_enter Tryz.func56, Tryz.ntmps56
  go_wp2_with fail
  have hW1 := Lib.hid ((Below.refl W.heap.size W).alloc (Nat.le_refl _) (.cells #[.int .i64 5, .string (bs name), .int .i64 2, .int .i64 0, .int .u64 0, .slice (some ⟨q, off, none⟩) 1 cap] 28))
  have hbx := World.alloc_heap_new W (.cells #[.int .i64 5, .string (bs name), .int .i64 2, .int .i64 0, .int .u64 0, .slice (some ⟨q, off, none⟩) 1 cap] 28)
  have hls := World.size_alloc W (.cells #[.int .i64 5, .string (bs name), .int .i64 2, .int .i64 0, .int .u64 0, .slice (some ⟨q, off, none⟩) 1 cap] 28)
  generalize W.alloc (.cells #[.int .i64 5, .string (bs name), .int .i64 2, .int .i64 0, .int .u64 0, .slice (some ⟨q, off, none⟩) 1 cap] 28) = W1 at *
  have hbl : W.heap.size < W1.heap.size := by omega
  have hlo1 : lo ≤ W1.heap.size := by omega
  have hXs := XsR.later hXs0 hW1.out
  have hq1 : q < W1.heap.size := Nat.lt_of_lt_of_le hq0 hW1.out.size
  obtain ⟨pa, ca, a0, a1, a2, a3, a4, a5, Xa⟩ := XAt.later za hq0 hW1.out
  have y0 : W1.cell? ⟨W.heap.size, 0, none⟩ = some (.int .i64 5) := by simp [World.cell?, hbx]
  have y1 : W1.cell? ⟨W.heap.size, 1, none⟩ = some (.string (bs name)) := by simp [World.cell?, hbx]
  have y2 : W1.cell? ⟨W.heap.size, 2, none⟩ = some (.int .i64 2) := by simp [World.cell?, hbx]
  have y3 : W1.cell? ⟨W.heap.size, 3, none⟩ = some (.int .i64 0) := by simp [World.cell?, hbx]
  have y4 : W1.cell? ⟨W.heap.size, 4, none⟩ = some (.int .u64 0) := by simp [World.cell?, hbx]
  have y5 : W1.cell? ⟨W.heap.size, 5, none⟩ = some (.slice (some ⟨q, off, none⟩) 1 cap) := by simp [World.cell?, hbx]
  clear hbx hls
  refine region_grow Grw (spcAt lo [.is (.pointer (some ⟨W.heap.size, 2, none⟩)), .is (.int .i64 2), .is (.int .i64 1), .is (.pointer (some ⟨W.heap.size, 2, none⟩)), .is (.int .i64 2), .is (.string (bs [45])), .seq ([sgT [45]]), .is (.pointer (some ⟨W.heap.size, 5, none⟩)), .is (.slice (some ⟨q, off, none⟩) 1 cap), .is (.pointer (some ⟨q, off, none⟩)), .is (.agg #[.int .i64 xa.op, .string (bs xa.name), .int .i64 xa.n, .int .i64 xa.w, .int .u64 xa.v, .slice pa xa.l.length ca]), .seq (partT (rankX (xa), exprT (xa)) (11)), .seqs [[sgT [45]], partT (rankX (xa), exprT (xa)) (11)], .seq (List.flatten [[sgT [45]], partT (rankX (xa), exprT (xa)) (11)]), .seq (List.flatten [[sgT [45]], partT (rankX (xa), exprT (xa)) (11)])])
   (by kernel_rfl) rfl (by kernel_rfl) (by kernel_rfl) (grw_drawn _) grw_trans (spcAt_grw lo _) ?hops ?hfin
  case hops =>
   refine ⟨?o0, ?o1, ?o2, ?o3, ?o4, ?o5, ?o6, ?o7, ?o8, ?o9, ?o10, ?o11, ?o12, ?o13, ?o14, trivial⟩
   all_goals (intro ev W' hG hr hD; have hc := hr.const; have hf := hr.func)
   case o0 =>
    have e1 : ev (.tmp 1) = .pointer (some ⟨W.heap.size, 0, none⟩) := hr.tmp 1 (by kernel_rfl)
    exact ok_val (v := .pointer (some ⟨W.heap.size, 2, none⟩)) (by simp [execOp, go_sem, e1]) ⟨Below.refl _ _, rfl⟩
   case o1 =>
    have e29 : ev (.tmp 29) = .pointer (some ⟨W.heap.size, 2, none⟩) := hD 0 29 (by kernel_rfl)
    have m0 := (hG.cell (p := ⟨W.heap.size, 2, none⟩) hbl).trans y2
    exact ok_val (v := .int .i64 2) (by simp [execOp, go_sem, e29, m0]) ⟨Below.refl _ _, rfl⟩
   case o2 =>
    have e30 : ev (.tmp 30) = .int .i64 2 := hD 1 30 (by kernel_rfl)
    exact ok_val (v := .int .i64 1) (by simp [execOp, go_sem, hc, e30]; try rfl) ⟨Below.refl _ _, rfl⟩
   case o3 =>
    have e1 : ev (.tmp 1) = .pointer (some ⟨W.heap.size, 0, none⟩) := hr.tmp 1 (by kernel_rfl)
    exact ok_val (v := .pointer (some ⟨W.heap.size, 2, none⟩)) (by simp [execOp, go_sem, e1]) ⟨Below.refl _ _, rfl⟩
   case o4 =>
    have e32 : ev (.tmp 32) = .pointer (some ⟨W.heap.size, 2, none⟩) := hD 3 32 (by kernel_rfl)
    have m0 := (hG.cell (p := ⟨W.heap.size, 2, none⟩) hbl).trans y2
    exact ok_val (v := .int .i64 2) (by simp [execOp, go_sem, e32, m0]) ⟨Below.refl _ _, rfl⟩
   case o5 =>
    have e31 : ev (.tmp 31) = .int .i64 1 := hD 2 31 (by kernel_rfl)
    have e33 : ev (.tmp 33) = .int .i64 2 := hD 4 33 (by kernel_rfl)
    exact ok_val (v := .string (bs [45])) (by simp [execOp, go_sem, hc, e31, e33]; rfl) ⟨Below.refl _ _, rfl⟩
   case o6 =>
    have e34 : ev (.tmp 34) = .string (bs [45]) := hD 5 34 (by kernel_rfl)
    refine ok_call (f := 90) (args := #[.string (bs [45])]) (by simp [execOp, go_sem, hc, hf, e34]) ?_
    have hlo' := Nat.le_trans hlo1 hG.size
    refine (ssign_any [45] W' lo hlo').mono ?_
    rintro e W2 ⟨f, rfl, h1, h2⟩
    refine ⟨f, rfl, h2, ?_⟩
    show Seq lo W2 f ([sgT [45]])
    exact h1
   case o7 =>
    have e1 : ev (.tmp 1) = .pointer (some ⟨W.heap.size, 0, none⟩) := hr.tmp 1 (by kernel_rfl)
    exact ok_val (v := .pointer (some ⟨W.heap.size, 5, none⟩)) (by simp [execOp, go_sem, e1]) ⟨Below.refl _ _, rfl⟩
   case o8 =>
    have e36 : ev (.tmp 36) = .pointer (some ⟨W.heap.size, 5, none⟩) := hD 7 36 (by kernel_rfl)
    have m0 := (hG.cell (p := ⟨W.heap.size, 5, none⟩) hbl).trans y5
    exact ok_val (v := .slice (some ⟨q, off, none⟩) 1 cap) (by simp [execOp, go_sem, e36, m0]) ⟨Below.refl _ _, rfl⟩
   case o9 =>
    have e37 : ev (.tmp 37) = .slice (some ⟨q, off, none⟩) 1 cap := hD 8 37 (by kernel_rfl)
    exact ok_val (v := .pointer (some ⟨q, off, none⟩)) (by simp [execOp, go_sem, e37, hc]) ⟨Below.refl _ _, rfl⟩
   case o10 =>
    have e38 : ev (.tmp 38) = .pointer (some ⟨q, off, none⟩) := hD 9 38 (by kernel_rfl)
    have m0 := (hG.cell (p := ⟨q, off, none⟩) hq1).trans a0
    have m1 := (hG.cell (p := ⟨q, off + 1, none⟩) hq1).trans a1
    have m2 := (hG.cell (p := ⟨q, off + 2, none⟩) hq1).trans a2
    have m3 := (hG.cell (p := ⟨q, off + 3, none⟩) hq1).trans a3
    have m4 := (hG.cell (p := ⟨q, off + 4, none⟩) hq1).trans a4
    have m5 := (hG.cell (p := ⟨q, off + 5, none⟩) hq1).trans a5
    exact ok_val (v := .agg #[.int .i64 xa.op, .string (bs xa.name), .int .i64 xa.n, .int .i64 xa.w, .int .u64 xa.v, .slice pa xa.l.length ca]) (by simp [execOp, go_sem, e38, m0, m1, m2, m3, m4, m5]) ⟨Below.refl _ _, rfl⟩
   case o11 =>
    have e39 : ev (.tmp 39) = .agg #[.int .i64 xa.op, .string (bs xa.name), .int .i64 xa.n, .int .i64 xa.w, .int .u64 xa.v, .slice pa xa.l.length ca] := hD 10 39 (by kernel_rfl)
    refine ok_call (f := 106) (args := #[.agg #[.int .i64 xa.op, .string (bs xa.name), .int .i64 xa.n, .int .i64 xa.w, .int .u64 xa.v, .slice pa xa.l.length ca], .int .i64 11]) (by simp [execOp, go_sem, hc, hf, e39]) ?_
    have hlo' := Nat.le_trans hlo1 hG.size
    refine (part_any (xa) hoa iha (11) W' lo hlo' _ (XR.later hG _ _ Xa)).mono ?_
    rintro e W2 ⟨f, rfl, h1, h2⟩
    refine ⟨f, rfl, h2, ?_⟩
    show Seq lo W2 f (partT (rankX (xa), exprT (xa)) (11))
    exact h1
   case o12 =>
    obtain ⟨g35, l35, e35, s35⟩ := seq_form (show Seq lo W' (ev (.tmp 35)) ([sgT [45]]) from hD 6 35 (by kernel_rfl))
    obtain ⟨g40, l40, e40, s40⟩ := seq_form (show Seq lo W' (ev (.tmp 40)) (partT (rankX (xa), exprT (xa)) (11)) from hD 11 40 (by kernel_rfl))
    have hn := seqs_new (lo := lo) (W := W') (fs := [.func (.func g35) #[] l35, .func (.func g40) #[] l40]) (ls := [[sgT [45]], partT (rankX (xa), exprT (xa)) (11)]) ⟨s35, s40, trivial⟩ (Nat.le_trans hlo1 hG.size)
    exact ok_new (v := .slice (some ⟨W'.heap.size, 0, none⟩) 2 2) (W' := W'.alloc (.cells #[.func (.func g35) #[] l35, .func (.func g40) #[] l40] 79)) (by simp [execOp, go_sem, e35, e40]) ⟨hn.2, hn.1⟩
   case o13 =>
    have s41 : Seqs lo W' (ev (.tmp 41)) [[sgT [45]], partT (rankX (xa), exprT (xa)) (11)] := hD 12 41 (by kernel_rfl)
    refine ok_call (f := 91) (args := #[ev (.tmp 41)]) (by simp [execOp, go_sem, hc, hf]) ?_
    have hlo' := Nat.le_trans hlo1 hG.size
    refine (row_any _ _ (by simp) W' lo hlo' s41).mono ?_
    rintro e W2 ⟨f, rfl, h1, h2⟩
    refine ⟨f, rfl, h2, ?_⟩
    show Seq lo W2 f (List.flatten [[sgT [45]], partT (rankX (xa), exprT (xa)) (11)])
    exact h1
   case o14 =>
    have s42 : Seq lo W' (ev (.tmp 42)) (List.flatten [[sgT [45]], partT (rankX (xa), exprT (xa)) (11)]) := hD 13 42 (by kernel_rfl)
    exact ok_val (v := ev (.tmp 42)) (by simp [execOp, go_sem]) ⟨Below.refl _ _, s42⟩
  case hfin =>
   intro zz W' hG hzz
   have h9 : Seq lo W' (zz 14) (List.flatten [[sgT [45]], partT (rankX (xa), exprT (xa)) (11)]) := hzz 14 (by simp)
   simp only [putAll, Act.put, List.setIfInBounds_toArray, List.set_cons_zero, List.set_cons_succ]
   go_wp2_with fail
   go_ret
   refine ⟨_, rfl, ?_, hW1.out.trans (Below.mono hG (by omega))⟩
   rw [exprT_5]; exact h9
theorem expr_un3 (name : Ln) (W : World) (lo : Nat) (hlo : lo ≤ W.heap.size) (xa : X) (q off cap : Nat) (hq0 : q < W.heap.size) (hXs0 : XsR W (.slice (some ⟨q, off, none⟩) 1 cap) [xa]) (hoa : okX xa = true) (iha : ExprOK xa) (za : XAt W q off xa) :
  Calls Tryz.prog 56 #[.agg #[.int .i64 5, .string (bs name), .int .i64 3, .int .i64 0, .int .u64 0, .slice (some ⟨q, off, none⟩) 1 cap]] W (MkPost lo W (exprT (.mk 5 name 3 0 0 [xa]))) := by
  go_enter Tryz.func56, Tryz.ntmps56
  go_wp2_with fail
  have hW1 := Lib.hid ((Below.refl W.heap.size W).alloc (Nat.le_refl _) (.cells #[.int .i64 5, .string (bs name), .int .i64 3, .int .i64 0, .int .u64 0, .slice (some ⟨q, off, none⟩) 1 cap] 28))
  have hbx := World.alloc_heap_new W (.cells #[.int .i64 5, .string (bs name), .int .i64 3, .int .i64 0, .int .u64 0, .slice (some ⟨q, off, none⟩) 1 cap] 28)
  have hls := World.size_alloc W (.cells #[.int .i64 5, .string (bs name), .int .i64 3, .int .i64 0, .int .u64 0, .slice (some ⟨q, off, none⟩) 1 cap] 28)
  generalize W.alloc (.cells #[.int .i64 5, .string (bs name), .int .i64 3, .int .i64 0, .int .u64 0, .slice (some ⟨q, off, none⟩) 1 cap] 28) = W1 at *
  have hbl : W.heap.size < W1.heap.size := by omega
  have hlo1 : lo ≤ W1.heap.size := by omega
  have hXs := XsR.later hXs0 hW1.out
  have hq1 : q < W1.heap.size := Nat.lt_of_lt_of_le hq0 hW1.out.size
  obtain ⟨pa, ca, a0, a1, a2, a3, a4, a5, Xa⟩ := XAt.later za hq0 hW1.out
  have y0 : W1.cell? ⟨W.heap.size, 0, none⟩ = some (.int .i64 5) := by simp [World.cell?, hbx]
  have y1 : W1.cell? ⟨W.heap.size, 1, none⟩ = some (.string (bs name)) := by simp [World.cell?, hbx]
  have y2 : W1.cell? ⟨W.heap.size, 2, none⟩ = some (.int .i64 3) := by simp [World.cell?, hbx]
  have y3 : W1.cell? ⟨W.heap.size, 3, none⟩ = some (.int .i64 0) := by simp [World.cell?, hbx]
  have y4 : W1.cell? ⟨W.heap.size, 4, none⟩ = some (.int .u64 0) := by simp [World.cell?, hbx]
  have y5 : W1.cell? ⟨W.heap.size, 5, none⟩ = some (.slice (some ⟨q, off, none⟩) 1 cap) := by simp [World.cell?, hbx]
  clear hbx hls
  refine region_grow Grw (spcAt lo [.is (.pointer (some ⟨W.heap.size, 2, none⟩)), .is (.int .i64 3), .is (.int .i64 2), .is (.pointer (some ⟨W.heap.size, 2, none⟩)), .is (.int .i64 3), .is (.string (bs [38])), .seq ([sgT [38]]), .is (.pointer (some ⟨W.heap.size, 5, none⟩)), .is (.slice (some ⟨q, off, none⟩) 1 cap), .is (.pointer (some ⟨q, off, none⟩)), .is (.agg #[.int .i64 xa.op, .string (bs xa.name), .int .i64 xa.n, .int .i64 xa.w, .int .u64 xa.v, .slice pa xa.l.length ca]), .seq (partT (rankX (xa), exprT (xa)) (11)), .seqs [[sgT [38]], partT (rankX (xa), exprT (xa)) (11)], .seq (List.flatten [[sgT [38]], partT (rankX (xa), exprT (xa)) (11)]), .seq (List.flatten [[sgT [38]], partT (rankX (xa), exprT (xa)) (11)])])
   (by kernel_rfl) rfl (by kernel_rfl) (by kernel_rfl) (grw_drawn _) grw_trans (spcAt_grw lo _) ?hops ?hfin
  case hops =>
   refine ⟨?o0, ?o1, ?o2, ?o3, ?o4, ?o5, ?o6, ?o7, ?o8, ?o9, ?o10, ?o11, ?o12, ?o13, ?o14, trivial⟩
   all_goals (intro ev W' hG hr hD; have hc := hr.const; have hf := hr.func)
   case o0 =>
    have e1 : ev (.tmp 1) = .pointer (some ⟨W.heap.size, 0, none⟩) := hr.tmp 1 (by kernel_rfl)
    exact ok_val (v := .pointer (some ⟨W.heap.size, 2, none⟩)) (by simp [execOp, go_sem, e1]) ⟨Below.refl _ _, rfl⟩
   case o1 =>
    have e29 : ev (.tmp 29) = .pointer (some ⟨W.heap.size, 2, none⟩) := hD 0 29 (by kernel_rfl)
    have m0 := (hG.cell (p := ⟨W.heap.size, 2, none⟩) hbl).trans y2
    exact ok_val (v := .int .i64 3) (by simp [execOp, go_sem, e29, m0]) ⟨Below.refl _ _, rfl⟩
   case o2 =>
    have e30 : ev (.tmp 30) = .int .i64 3 := hD 1 30 (by kernel_rfl)
    exact ok_val (v := .int .i64 2) (by simp [execOp, go_sem, hc, e30]; try rfl) ⟨Below.refl _ _, rfl⟩
   case o3 =>
    have e1 : ev (.tmp 1) = .pointer (some ⟨W.heap.size, 0, none⟩) := hr.tmp 1 (by kernel_rfl)
    exact ok_val (v := .pointer (some ⟨W.heap.size, 2, none⟩)) (by simp [execOp, go_sem, e1]) ⟨Below.refl _ _, rfl⟩
   case o4 =>
    have e32 : ev (.tmp 32) = .pointer (some ⟨W.heap.size, 2, none⟩) := hD 3 32 (by kernel_rfl)
    have m0 := (hG.cell (p := ⟨W.heap.size, 2, none⟩) hbl).trans y2
    exact ok_val (v := .int .i64 3) (by simp [execOp, go_sem, e32, m0]) ⟨Below.refl _ _, rfl⟩
   case o5 =>
    have e31 : ev (.tmp 31) = .int .i64 2 := hD 2 31 (by kernel_rfl)
    have e33 : ev (.tmp 33) = .int .i64 3 := hD 4 33 (by kernel_rfl)
    exact ok_val (v := .string (bs [38])) (by simp [execOp, go_sem, hc, e31, e33]; rfl) ⟨Below.refl _ _, rfl⟩
   case o6 =>
    have e34 : ev (.tmp 34) = .string (bs [38]) := hD 5 34 (by kernel_rfl)
    refine ok_call (f := 90) (args := #[.string (bs [38])]) (by simp [execOp, go_sem, hc, hf, e34]) ?_
    have hlo' := Nat.le_trans hlo1 hG.size
    refine (ssign_any [38] W' lo hlo').mono ?_
    rintro e W2 ⟨f, rfl, h1, h2⟩
    refine ⟨f, rfl, h2, ?_⟩
    show Seq lo W2 f ([sgT [38]])
    exact h1
   case o7 =>
    have e1 : ev (.tmp 1) = .pointer (some ⟨W.heap.size, 0, none⟩) := hr.tmp 1 (by kernel_rfl)
    exact ok_val (v := .pointer (some ⟨W.heap.size, 5, none⟩)) (by simp [execOp, go_sem, e1]) ⟨Below.refl _ _, rfl⟩
   case o8 =>
    have e36 : ev (.tmp 36) = .pointer (some ⟨W.heap.size, 5, none⟩) := hD 7 36 (by kernel_rfl)
    have m0 := (hG.cell (p := ⟨W.heap.size, 5, none⟩) hbl).trans y5
    exact ok_val (v := .slice (some ⟨q, off, none⟩) 1 cap) (by simp [execOp, go_sem, e36, m0]) ⟨Below.refl _ _, rfl⟩
   case o9 =>
    have e37 : ev (.tmp 37) = .slice (some ⟨q, off, none⟩) 1 cap := hD 8 37 (by kernel_rfl)
    exact ok_val (v := .pointer (some ⟨q, off, none⟩)) (by simp [execOp, go_sem, e37, hc]) ⟨Below.refl _ _, rfl⟩
   case o10 =>
    have e38 : ev (.tmp 38) = .pointer (some ⟨q, off, none⟩) := hD 9 38 (by kernel_rfl)
    have m0 := (hG.cell (p := ⟨q, off, none⟩) hq1).trans a0
    have m1 := (hG.cell (p := ⟨q, off + 1, none⟩) hq1).trans a1
    have m2 := (hG.cell (p := ⟨q, off + 2, none⟩) hq1).trans a2
    have m3 := (hG.cell (p := ⟨q, off + 3, none⟩) hq1).trans a3
    have m4 := (hG.cell (p := ⟨q, off + 4, none⟩) hq1).trans a4
    have m5 := (hG.cell (p := ⟨q, off + 5, none⟩) hq1).trans a5
    exact ok_val (v := .agg #[.int .i64 xa.op, .string (bs xa.name), .int .i64 xa.n, .int .i64 xa.w, .int .u64 xa.v, .slice pa xa.l.length ca]) (by simp [execOp, go_sem, e38, m0, m1, m2, m3, m4, m5]) ⟨Below.refl _ _, rfl⟩
   case o11 =>
    have e39 : ev (.tmp 39) = .agg #[.int .i64 xa.op, .string (bs xa.name), .int .i64 xa.n, .int .i64 xa.w, .int .u64 xa.v, .slice pa xa.l.length ca] := hD 10 39 (by kernel_rfl)
    refine ok_call (f := 106) (args := #[.agg #[.int .i64 xa.op, .string (bs xa.name), .int .i64 xa.n, .int .i64 xa.w, .int .u64 xa.v, .slice pa xa.l.length ca], .int .i64 11]) (by simp [execOp, go_sem, hc, hf, e39]) ?_
    have hlo' := Nat.le_trans hlo1 hG.size
    refine (part_any (xa) hoa iha (11) W' lo hlo' _ (XR.later hG _ _ Xa)).mono ?_
    rintro e W2 ⟨f, rfl, h1, h2⟩
    refine ⟨f, rfl, h2, ?_⟩
    show Seq lo W2 f (partT (rankX (xa), exprT (xa)) (11))
    exact h1
   case o12 =>
    obtain ⟨g35, l35, e35, s35⟩ := seq_form (show Seq lo W' (ev (.tmp 35)) ([sgT [38]]) from hD 6 35 (by kernel_rfl))
    obtain ⟨g40, l40, e40, s40⟩ := seq_form (show Seq lo W' (ev (.tmp 40)) (partT (rankX (xa), exprT (xa)) (11)) from hD 11 40 (by kernel_rfl))
    have hn := seqs_new (lo := lo) (W := W') (fs := [.func (.func g35) #[] l35, .func (.func g40) #[] l40]) (ls := [[sgT [38]], partT (rankX (xa), exprT (xa)) (11)]) ⟨s35, s40, trivial⟩ (Nat.le_trans hlo1 hG.size)
    exact ok_new (v := .slice (some ⟨W'.heap.size, 0, none⟩) 2 2) (W' := W'.alloc (.cells #[.func (.func g35) #[] l35, .func (.func g40) #[] l40] 79)) (by simp [execOp, go_sem, e35, e40]) ⟨hn.2, hn.1⟩
   case o13 =>
    have s41 : Seqs lo W' (ev (.tmp 41)) [[sgT [38]], partT (rankX (xa), exprT (xa)) (11)] := hD 12 41 (by kernel_rfl)
    refine ok_call (f := 91) (args := #[ev (.tmp 41)]) (by simp [execOp, go_sem, hc, hf]) ?_
    have hlo' := Nat.le_trans hlo1 hG.size
    refine (row_any _ _ (by simp) W' lo hlo' s41).mono ?_
    rintro e W2 ⟨f, rfl, h1, h2⟩
    refine ⟨f, rfl, h2, ?_⟩
    show Seq lo W2 f (List.flatten [[sgT [38]], partT (rankX (xa), exprT (xa)) (11)])
    exact h1
   case o14 =>
    have s42 : Seq lo W' (ev (.tmp 42)) (List.flatten [[sgT [38]], partT (rankX (xa), exprT (xa)) (11)]) := hD 13 42 (by kernel_rfl)
    exact ok_val (v := ev (.tmp 42)) (by simp [execOp, go_sem]) ⟨Below.refl _ _, s42⟩
  case hfin =>
   intro zz W' hG hzz
   have h9 : Seq lo W' (zz 14) (List.flatten [[sgT [38]], partT (rankX (xa), exprT (xa)) (11)]) := hzz 14 (by simp)
   simp only [putAll, Act.put, List.setIfInBounds_toArray, List.set_cons_zero, List.set_cons_succ]
   go_wp2_with fail
   go_ret
   refine ⟨_, rfl, ?_, hW1.out.trans (Below.mono hG (by omega))⟩
   rw [exprT_5]; exact h9
theorem expr_un4 (name : Ln) (W : World) (lo : Nat) (hlo : lo ≤ W.heap.size) (xa : X) (q off cap : Nat) (hq0 : q < W.heap.size) (hXs0 : XsR W (.slice (some ⟨q, off, none⟩) 1 cap) [xa]) (hoa : okX xa = true) (iha : ExprOK xa) (za : XAt W q off xa) :
  Calls Tryz.prog 56 #[.agg #[.int .i64 5, .string (bs name), .int .i64 4, .int .i64 0, .int .u64 0, .slice (some ⟨q, off, none⟩) 1 cap]] W (MkPost lo W (exprT (.mk 5 name 4 0 0 [xa]))) := by
  go_enter Tryz.func56, Tryz.ntmps56
  go_wp2_with fail
  have hW1 := Lib.hid ((Below.refl W.heap.size W).alloc (Nat.le_refl _) (.cells #[.int .i64 5, .string (bs name), .int .i64 4, .int .i64 0, .int .u64 0, .slice (some ⟨q, off, none⟩) 1 cap] 28))
  have hbx := World.alloc_heap_new W (.cells #[.int .i64 5, .string (bs name), .int .i64 4, .int .i64 0, .int .u64 0, .slice (some ⟨q, off, none⟩) 1 cap] 28)
  have hls := World.size_alloc W (.cells #[.int .i64 5, .string (bs name), .int .i64 4, .int .i64 0, .int .u64 0, .slice (some ⟨q, off, none⟩) 1 cap] 28)
  generalize W.alloc (.cells #[.int .i64 5, .string (bs name), .int .i64 4, .int .i64 0, .int .u64 0, .slice (some ⟨q, off, none⟩) 1 cap] 28) = W1 at *
  have hbl : W.heap.size < W1.heap.size := by omega
  have hlo1 : lo ≤ W1.heap.size := by omega
  have hXs := XsR.later hXs0 hW1.out
  have hq1 : q < W1.heap.size := Nat.lt_of_lt_of_le hq0 hW1.out.size
  obtain ⟨pa, ca, a0, a1, a2, a3, a4, a5, Xa⟩ := XAt.later za hq0 hW1.out
  have y0 : W1.cell? ⟨W.heap.size, 0, none⟩ = some (.int .i64 5) := by simp [World.cell?, hbx]
  have y1 : W1.cell? ⟨W.heap.size, 1, none⟩ = some (.string (bs name)) := by simp [World.cell?, hbx]
  have y2 : W1.cell? ⟨W.heap.size, 2, none⟩ = some (.int .i64 4) := by simp [World.cell?, hbx]
  have y3 : W1.cell? ⟨W.heap.size, 3, none⟩ = some (.int .i64 0) := by simp [World.cell?, hbx]
  have y4 : W1.cell? ⟨W.heap.size, 4, none⟩ = some (.int .u64 0) := by simp [World.cell?, hbx]
  have y5 : W1.cell? ⟨W.heap.size, 5, none⟩ = some (.slice (some ⟨q, off, none⟩) 1 cap) := by simp [World.cell?, hbx]
  clear hbx hls
  refine region_grow Grw (spcAt lo [.is (.pointer (some ⟨W.heap.size, 2, none⟩)), .is (.int .i64 4), .is (.int .i64 3), .is (.pointer (some ⟨W.heap.size, 2, none⟩)), .is (.int .i64 4), .is (.string (bs [124])), .seq ([sgT [124]]), .is (.pointer (some ⟨W.heap.size, 5, none⟩)), .is (.slice (some ⟨q, off, none⟩) 1 cap), .is (.pointer (some ⟨q, off, none⟩)), .is (.agg #[.int .i64 xa.op, .string (bs xa.name), .int .i64 xa.n, .int .i64 xa.w, .int .u64 xa.v, .slice pa xa.l.length ca]), .seq (partT (rankX (xa), exprT (xa)) (11)), .seqs [[sgT [124]], partT (rankX (xa), exprT (xa)) (11)], .seq (List.flatten [[sgT [124]], partT (rankX (xa), exprT (xa)) (11)]), .seq (List.flatten [[sgT [124]], partT (rankX (xa), exprT (xa)) (11)])])
   (by kernel_rfl) rfl (by kernel_rfl) (by kernel_rfl) (grw_drawn _) grw_trans (spcAt_grw lo _) ?hops ?hfin
  case hops =>
   refine ⟨?o0, ?o1, ?o2, ?o3, ?o4, ?o5, ?o6, ?o7, ?o8, ?o9, ?o10, ?o11, ?o12, ?o13, ?o14, trivial⟩
   all_goals (intro ev W' hG hr hD; have hc := hr.const; have hf := hr.func)
   case o0 =>
    have e1 : ev (.tmp 1) = .pointer (some ⟨W.heap.size, 0, none⟩) := hr.tmp 1 (by kernel_rfl)
    exact ok_val (v := .pointer (some ⟨W.heap.size, 2, none⟩)) (by simp [execOp, go_sem, e1]) ⟨Below.refl _ _, rfl⟩
   case o1 =>
    have e29 : ev (.tmp 29) = .pointer (some ⟨W.heap.size, 2, none⟩) := hD 0 29 (by kernel_rfl)
    have m0 := (hG.cell (p := ⟨W.heap.size, 2, none⟩) hbl).trans y2
    exact ok_val (v := .int .i64 4) (by simp [execOp, go_sem, e29, m0]) ⟨Below.refl _ _, rfl⟩
   case o2 =>
    have e30 : ev (.tmp 30) = .int .i64 4 := hD 1 30 (by kernel_rfl)
    exact ok_val (v := .int .i64 3) (by simp [execOp, go_sem, hc, e30]; try rfl) ⟨Below.refl _ _, rfl⟩
   case o3 =>
    have e1 : ev (.tmp 1) = .pointer (some ⟨W.heap.size, 0, none⟩) := hr.tmp 1 (by kernel_rfl)
    exact ok_val (v := .pointer (some ⟨W.heap.size, 2, none⟩)) (by simp [execOp, go_sem, e1]) ⟨Below.refl _ _, rfl⟩
   case o4 =>
    have e32 : ev (.tmp 32) = .pointer (some ⟨W.heap.size, 2, none⟩) := hD 3 32 (by kernel_rfl)
    have m0 := (hG.cell (p := ⟨W.heap.size, 2, none⟩) hbl).trans y2
    exact ok_val (v := .int .i64 4) (by simp [execOp, go_sem, e32, m0]) ⟨Below.refl _ _, rfl⟩
   case o5 =>
    have e31 : ev (.tmp 31) = .int .i64 3 := hD 2 31 (by kernel_rfl)
    have e33 : ev (.tmp 33) = .int .i64 4 := hD 4 33 (by kernel_rfl)
    exact ok_val (v := .string (bs [124])) (by simp [execOp, go_sem, hc, e31, e33]; rfl) ⟨Below.refl _ _, rfl⟩
   case o6 =>
    have e34 : ev (.tmp 34) = .string (bs [124]) := hD 5 34 (by kernel_rfl)
    refine ok_call (f := 90) (args := #[.string (bs [124])]) (by simp [execOp, go_sem, hc, hf, e34]) ?_
    have hlo' := Nat.le_trans hlo1 hG.size
    refine (ssign_any [124] W' lo hlo').mono ?_
    rintro e W2 ⟨f, rfl, h1, h2⟩
    refine ⟨f, rfl, h2, ?_⟩
    show Seq lo W2 f ([sgT [124]])
    exact h1
   case o7 =>
    have e1 : ev (.tmp 1) = .pointer (some ⟨W.heap.size, 0, none⟩) := hr.tmp 1 (by kernel_rfl)
    exact ok_val (v := .pointer (some ⟨W.heap.size, 5, none⟩)) (by simp [execOp, go_sem, e1]) ⟨Below.refl _ _, rfl⟩
   case o8 =>
    have e36 : ev (.tmp 36) = .pointer (some ⟨W.heap.size, 5, none⟩) := hD 7 36 (by kernel_rfl)
    have m0 := (hG.cell (p := ⟨W.heap.size, 5, none⟩) hbl).trans y5
    exact ok_val (v := .slice (some ⟨q, off, none⟩) 1 cap) (by simp [execOp, go_sem, e36, m0]) ⟨Below.refl _ _, rfl⟩
   case o9 =>
    have e37 : ev (.tmp 37) = .slice (some ⟨q, off, none⟩) 1 cap := hD 8 37 (by kernel_rfl)
    exact ok_val (v := .pointer (some ⟨q, off, none⟩)) (by simp [execOp, go_sem, e37, hc]) ⟨Below.refl _ _, rfl⟩
   case o10 =>
    have e38 : ev (.tmp 38) = .pointer (some ⟨q, off, none⟩) := hD 9 38 (by kernel_rfl)
    have m0 := (hG.cell (p := ⟨q, off, none⟩) hq1).trans a0
    have m1 := (hG.cell (p := ⟨q, off + 1, none⟩) hq1).trans a1
    have m2 := (hG.cell (p := ⟨q, off + 2, none⟩) hq1).trans a2
    have m3 := (hG.cell (p := ⟨q, off + 3, none⟩) hq1).trans a3
    have m4 := (hG.cell (p := ⟨q, off + 4, none⟩) hq1).trans a4
    have m5 := (hG.cell (p := ⟨q, off + 5, none⟩) hq1).trans a5
    exact ok_val (v := .agg #[.int .i64 xa.op, .string (bs xa.name), .int .i64 xa.n, .int .i64 xa.w, .int .u64 xa.v, .slice pa xa.l.length ca]) (by simp [execOp, go_sem, e38, m0, m1, m2, m3, m4, m5]) ⟨Below.refl _ _, rfl⟩
   case o11 =>
    have e39 : ev (.tmp 39) = .agg #[.int .i64 xa.op, .string (bs xa.name), .int .i64 xa.n, .int .i64 xa.w, .int .u64 xa.v, .slice pa xa.l.length ca] := hD 10 39 (by kernel_rfl)
    refine ok_call (f := 106) (args := #[.agg #[.int .i64 xa.op, .string (bs xa.name), .int .i64 xa.n, .int .i64 xa.w, .int .u64 xa.v, .slice pa xa.l.length ca], .int .i64 11]) (by simp [execOp, go_sem, hc, hf, e39]) ?_
    have hlo' := Nat.le_trans hlo1 hG.size
    refine (part_any (xa) hoa iha (11) W' lo hlo' _ (XR.later hG _ _ Xa)).mono ?_
    rintro e W2 ⟨f, rfl, h1, h2⟩
    refine ⟨f, rfl, h2, ?_⟩
    show Seq lo W2 f (partT (rankX (xa), exprT (xa)) (11))
    exact h1
   case o12 =>
    obtain ⟨g35, l35, e35, s35⟩ := seq_form (show Seq lo W' (ev (.tmp 35)) ([sgT [124]]) from hD 6 35 (by kernel_rfl))
    obtain ⟨g40, l40, e40, s40⟩ := seq_form (show Seq lo W' (ev (.tmp 40)) (partT (rankX (xa), exprT (xa)) (11)) from hD 11 40 (by kernel_rfl))
    have hn := seqs_new (lo := lo) (W := W') (fs := [.func (.func g35) #[] l35, .func (.func g40) #[] l40]) (ls := [[sgT [124]], partT (rankX (xa), exprT (xa)) (11)]) ⟨s35, s40, trivial⟩ (Nat.le_trans hlo1 hG.size)
    exact ok_new (v := .slice (some ⟨W'.heap.size, 0, none⟩) 2 2) (W' := W'.alloc (.cells #[.func (.func g35) #[] l35, .func (.func g40) #[] l40] 79)) (by simp [execOp, go_sem, e35, e40]) ⟨hn.2, hn.1⟩
   case o13 =>
    have s41 : Seqs lo W' (ev (.tmp 41)) [[sgT [124]], partT (rankX (xa), exprT (xa)) (11)] := hD 12 41 (by kernel_rfl)
    refine ok_call (f := 91) (args := #[ev (.tmp 41)]) (by simp [execOp, go_sem, hc, hf]) ?_
    have hlo' := Nat.le_trans hlo1 hG.size
    refine (row_any _ _ (by simp) W' lo hlo' s41).mono ?_
    rintro e W2 ⟨f, rfl, h1, h2⟩
    refine ⟨f, rfl, h2, ?_⟩
    show Seq lo W2 f (List.flatten [[sgT [124]], partT (rankX (xa), exprT (xa)) (11)])
    exact h1
   case o14 =>
    have s42 : Seq lo W' (ev (.tmp 42)) (List.flatten [[sgT [124]], partT (rankX (xa), exprT (xa)) (11)]) := hD 13 42 (by kernel_rfl)
    exact ok_val (v := ev (.tmp 42)) (by simp [execOp, go_sem]) ⟨Below.refl _ _, s42⟩
  case hfin =>
   intro zz W' hG hzz
   have h9 : Seq lo W' (zz 14) (List.flatten [[sgT [124]], partT (rankX (xa), exprT (xa)) (11)]) := hzz 14 (by simp)
   simp only [putAll, Act.put, List.setIfInBounds_toArray, List.set_cons_zero, List.set_cons_succ]
   go_wp2_with fail
   go_ret
   refine ⟨_, rfl, ?_, hW1.out.trans (Below.mono hG (by omega))⟩
   rw [exprT_5]; exact h9
theorem expr_un5 (name : Ln) (W : World) (lo : Nat) (hlo : lo ≤ W.heap.size) (xa : X) (q off cap : Nat) (hq0 : q < W.heap.size) (hXs0 : XsR W (.slice (some ⟨q, off, none⟩) 1 cap) [xa]) (hoa : okX xa = true) (iha : ExprOK xa) (za : XAt W q off xa) :
  Calls Tryz.prog 56 #[.agg #[.int .i64 5, .string (bs name), .int .i64 5, .int .i64 0, .int .u64 0, .slice (some ⟨q, off, none⟩) 1 cap]] W (MkPost lo W (exprT (.mk 5 name 5 0 0 [xa]))) := by
  go_enter Tryz.func56, Tryz.ntmps56
  go_wp2_with fail
  have hW1 := Lib.hid ((Below.refl W.heap.size W).alloc (Nat.le_refl _) (.cells #[.int .i64 5, .string (bs name), .int .i64 5, .int .i64 0, .int .u64 0, .slice (some ⟨q, off, none⟩) 1 cap] 28))
  have hbx := World.alloc_heap_new W (.cells #[.int .i64 5, .string (bs name), .int .i64 5, .int .i64 0, .int .u64 0, .slice (some ⟨q, off, none⟩) 1 cap] 28)
  have hls := World.size_alloc W (.cells #[.int .i64 5, .string (bs name), .int .i64 5, .int .i64 0, .int .u64 0, .slice (some ⟨q, off, none⟩) 1 cap] 28)
  generalize W.alloc (.cells #[.int .i64 5, .string (bs name), .int .i64 5, .int .i64 0, .int .u64 0, .slice (some ⟨q, off, none⟩) 1 cap] 28) = W1 at *
  have hbl : W.heap.size < W1.heap.size := by omega
  have hlo1 : lo ≤ W1.heap.size := by omega
  have hXs := XsR.later hXs0 hW1.out
  have hq1 : q < W1.heap.size := Nat.lt_of_lt_of_le hq0 hW1.out.size
  obtain ⟨pa, ca, a0, a1, a2, a3, a4, a5, Xa⟩ := XAt.later za hq0 hW1.out
  have y0 : W1.cell? ⟨W.heap.size, 0, none⟩ = some (.int .i64 5) := by simp [World.cell?, hbx]
  have y1 : W1.cell? ⟨W.heap.size, 1, none⟩ = some (.string (bs name)) := by simp [World.cell?, hbx]
  have y2 : W1.cell? ⟨W.heap.size, 2, none⟩ = some (.int .i64 5) := by simp [World.cell?, hbx]
  have y3 : W1.cell? ⟨W.heap.size, 3, none⟩ = some (.int .i64 0) := by simp [World.cell?, hbx]
  have y4 : W1.cell? ⟨W.heap.size, 4, none⟩ = some (.int .u64 0) := by simp [World.cell?, hbx]
  have y5 : W1.cell? ⟨W.heap.size, 5, none⟩ = some (.slice (some ⟨q, off, none⟩) 1 cap) := by simp [World.cell?, hbx]
  clear hbx hls
  refine region_grow Grw (spcAt lo [.is (.pointer (some ⟨W.heap.size, 2, none⟩)), .is (.int .i64 5), .is (.int .i64 4), .is (.pointer (some ⟨W.heap.size, 2, none⟩)), .is (.int .i64 5), .is (.string (bs [94])), .seq ([sgT [94]]), .is (.pointer (some ⟨W.heap.size, 5, none⟩)), .is (.slice (some ⟨q, off, none⟩) 1 cap), .is (.pointer (some ⟨q, off, none⟩)), .is (.agg #[.int .i64 xa.op, .string (bs xa.name), .int .i64 xa.n, .int .i64 xa.w, .int .u64 xa.v, .slice pa xa.l.length ca]), .seq (partT (rankX (xa), exprT (xa)) (11)), .seqs [[sgT [94]], partT (rankX (xa), exprT (xa)) (11)], .seq (List.flatten [[sgT [94]], partT (rankX (xa), exprT (xa)) (11)]), .seq (List.flatten [[sgT [94]], partT (rankX (xa), exprT (xa)) (11)])])
   (by kernel_rfl) rfl (by kernel_rfl) (by kernel_rfl) (grw_drawn _) grw_trans (spcAt_grw lo _) ?hops ?hfin
  case hops =>
   refine ⟨?o0, ?o1, ?o2, ?o3, ?o4, ?o5, ?o6, ?o7, ?o8, ?o9, ?o10, ?o11, ?o12, ?o13, ?o14, trivial⟩
   all_goals (intro ev W' hG hr hD; have hc := hr.const; have hf := hr.func)
   case o0 =>
    have e1 : ev (.tmp 1) = .pointer (some ⟨W.heap.size, 0, none⟩) := hr.tmp 1 (by kernel_rfl)
    exact ok_val (v := .pointer (some ⟨W.heap.size, 2, none⟩)) (by simp [execOp, go_sem, e1]) ⟨Below.refl _ _, rfl⟩
   case o1 =>
    have e29 : ev (.tmp 29) = .pointer (some ⟨W.heap.size, 2, none⟩) := hD 0 29 (by kernel_rfl)
    have m0 := (hG.cell (p := ⟨W.heap.size, 2, none⟩) hbl).trans y2
    exact ok_val (v := .int .i64 5) (by simp [execOp, go_sem, e29, m0]) ⟨Below.refl _ _, rfl⟩
   case o2 =>
    have e30 : ev (.tmp 30) = .int .i64 5 := hD 1 30 (by kernel_rfl)
    exact ok_val (v := .int .i64 4) (by simp [execOp, go_sem, hc, e30]; try rfl) ⟨Below.refl _ _, rfl⟩
   case o3 =>
    have e1 : ev (.tmp 1) = .pointer (some ⟨W.heap.size, 0, none⟩) := hr.tmp 1 (by kernel_rfl)
    exact ok_val (v := .pointer (some ⟨W.heap.size, 2, none⟩)) (by simp [execOp, go_sem, e1]) ⟨Below.refl _ _, rfl⟩
   case o4 =>
    have e32 : ev (.tmp 32) = .pointer (some ⟨W.heap.size, 2, none⟩) := hD 3 32 (by kernel_rfl)
    have m0 := (hG.cell (p := ⟨W.heap.size, 2, none⟩) hbl).trans y2
    exact ok_val (v := .int .i64 5) (by simp [execOp, go_sem, e32, m0]) ⟨Below.refl _ _, rfl⟩
   case o5 =>
    have e31 : ev (.tmp 31) = .int .i64 4 := hD 2 31 (by kernel_rfl)
    have e33 : ev (.tmp 33) = .int .i64 5 := hD 4 33 (by kernel_rfl)
    exact ok_val (v := .string (bs [94])) (by simp [execOp, go_sem, hc, e31, e33]; rfl) ⟨Below.refl _ _, rfl⟩
   case o6 =>
    have e34 : ev (.tmp 34) = .string (bs [94]) := hD 5 34 (by kernel_rfl)
    refine ok_call (f := 90) (args := #[.string (bs [94])]) (by simp [execOp, go_sem, hc, hf, e34]) ?_
    have hlo' := Nat.le_trans hlo1 hG.size
    refine (ssign_any [94] W' lo hlo').mono ?_
    rintro e W2 ⟨f, rfl, h1, h2⟩
    refine ⟨f, rfl, h2, ?_⟩
    show Seq lo W2 f ([sgT [94]])
    exact h1
   case o7 =>
    have e1 : ev (.tmp 1) = .pointer (some ⟨W.heap.size, 0, none⟩) := hr.tmp 1 (by kernel_rfl)
    exact ok_val (v := .pointer (some ⟨W.heap.size, 5, none⟩)) (by simp [execOp, go_sem, e1]) ⟨Below.refl _ _, rfl⟩
   case o8 =>
    have e36 : ev (.tmp 36) = .pointer (some ⟨W.heap.size, 5, none⟩) := hD 7 36 (by kernel_rfl)
    have m0 := (hG.cell (p := ⟨W.heap.size, 5, none⟩) hbl).trans y5
    exact ok_val (v := .slice (some ⟨q, off, none⟩) 1 cap) (by simp [execOp, go_sem, e36, m0]) ⟨Below.refl _ _, rfl⟩
   case o9 =>
    have e37 : ev (.tmp 37) = .slice (some ⟨q, off, none⟩) 1 cap := hD 8 37 (by kernel_rfl)
    exact ok_val (v := .pointer (some ⟨q, off, none⟩)) (by simp [execOp, go_sem, e37, hc]) ⟨Below.refl _ _, rfl⟩
   case o10 =>
    have e38 : ev (.tmp 38) = .pointer (some ⟨q, off, none⟩) := hD 9 38 (by kernel_rfl)
    have m0 := (hG.cell (p := ⟨q, off, none⟩) hq1).trans a0
    have m1 := (hG.cell (p := ⟨q, off + 1, none⟩) hq1).trans a1
    have m2 := (hG.cell (p := ⟨q, off + 2, none⟩) hq1).trans a2
    have m3 := (hG.cell (p := ⟨q, off + 3, none⟩) hq1).trans a3
    have m4 := (hG.cell (p := ⟨q, off + 4, none⟩) hq1).trans a4
    have m5 := (hG.cell (p := ⟨q, off + 5, none⟩) hq1).trans a5
    exact ok_val (v := .agg #[.int .i64 xa.op, .string (bs xa.name), .int .i64 xa.n, .int .i64 xa.w, .int .u64 xa.v, .slice pa xa.l.length ca]) (by simp [execOp, go_sem, e38, m0, m1, m2, m3, m4, m5]) ⟨Below.refl _ _, rfl⟩
   case o11 =>
    have e39 : ev (.tmp 39) = .agg #[.int .i64 xa.op, .string (bs xa.name), .int .i64 xa.n, .int .i64 xa.w, .int .u64 xa.v, .slice pa xa.l.length ca] := hD 10 39 (by kernel_rfl)
    refine ok_call (f := 106) (args := #[.agg #[.int .i64 xa.op, .string (bs xa.name), .int .i64 xa.n, .int .i64 xa.w, .int .u64 xa.v, .slice pa xa.l.length ca], .int .i64 11]) (by simp [execOp, go_sem, hc, hf, e39]) ?_
    have hlo' := Nat.le_trans hlo1 hG.size
    refine (part_any (xa) hoa iha (11) W' lo hlo' _ (XR.later hG _ _ Xa)).mono ?_
    rintro e W2 ⟨f, rfl, h1, h2⟩
    refine ⟨f, rfl, h2, ?_⟩
    show Seq lo W2 f (partT (rankX (xa), exprT (xa)) (11))
    exact h1
   case o12 =>
    obtain ⟨g35, l35, e35, s35⟩ := seq_form (show Seq lo W' (ev (.tmp 35)) ([sgT [94]]) from hD 6 35 (by kernel_rfl))
    obtain ⟨g40, l40, e40, s40⟩ := seq_form (show Seq lo W' (ev (.tmp 40)) (partT (rankX (xa), exprT (xa)) (11)) from hD 11 40 (by kernel_rfl))
    have hn := seqs_new (lo := lo) (W := W') (fs := [.func (.func g35) #[] l35, .func (.func g40) #[] l40]) (ls := [[sgT [94]], partT (rankX (xa), exprT (xa)) (11)]) ⟨s35, s40, trivial⟩ (Nat.le_trans hlo1 hG.size)
    exact ok_new (v := .slice (some ⟨W'.heap.size, 0, none⟩) 2 2) (W' := W'.alloc (.cells #[.func (.func g35) #[] l35, .func (.func g40) #[] l40] 79)) (by simp [execOp, go_sem, e35, e40]) ⟨hn.2, hn.1⟩
   case o13 =>
    have s41 : Seqs lo W' (ev (.tmp 41)) [[sgT [94]], partT (rankX (xa), exprT (xa)) (11)] := hD 12 41 (by kernel_rfl)
    refine ok_call (f := 91) (args := #[ev (.tmp 41)]) (by simp [execOp, go_sem, hc, hf]) ?_
    have hlo' := Nat.le_trans hlo1 hG.size
    refine (row_any _ _ (by simp) W' lo hlo' s41).mono ?_
    rintro e W2 ⟨f, rfl, h1, h2⟩
    refine ⟨f, rfl, h2, ?_⟩
    show Seq lo W2 f (List.flatten [[sgT [94]], partT (rankX (xa), exprT (xa)) (11)])
    exact h1
   case o14 =>
    have s42 : Seq lo W' (ev (.tmp 42)) (List.flatten [[sgT [94]], partT (rankX (xa), exprT (xa)) (11)]) := hD 13 42 (by kernel_rfl)
    exact ok_val (v := ev (.tmp 42)) (by simp [execOp, go_sem]) ⟨Below.refl _ _, s42⟩
  case hfin =>
   intro zz W' hG hzz
   have h9 : Seq lo W' (zz 14) (List.flatten [[sgT [94]], partT (rankX (xa), exprT (xa)) (11)]) := hzz 14 (by simp)
   simp only [putAll, Act.put, List.setIfInBounds_toArray, List.set_cons_zero, List.set_cons_succ]
   go_wp2_with fail
   go_ret
   refine ⟨_, rfl, ?_, hW1.out.trans (Below.mono hG (by omega))⟩
   rw [exprT_5]; exact h9
theorem expr_un6 (name : Ln) (W : World) (lo : Nat) (hlo : lo ≤ W.heap.size) (xa : X) (q off cap : Nat) (hq0 : q < W.heap.size) (hXs0 : XsR W (.slice (some ⟨q, off, none⟩) 1 cap) [xa]) (hoa : okX xa = true) (iha : ExprOK xa) (za : XAt W q off xa) :
  Calls Tryz.prog 56 #[.agg #[.int .i64 5, .string (bs name), .int .i64 6, .int .i64 0, .int .u64 0, .slice (some ⟨q, off, none⟩) 1 cap]] W (MkPost lo W (exprT (.mk 5 name 6 0 0 [xa]))) := by
  go_enter Tryz.func56, Tryz.ntmps56
  go_wp2_with fail
  have hW1 := Lib.hid ((Below.refl W.heap.size W).alloc (Nat.le_refl _) (.cells #[.int .i64 5, .string (bs name), .int .i64 6, .int .i64 0, .int .u64 0, .slice (some ⟨q, off, none⟩) 1 cap] 28))
  have hbx := World.alloc_heap_new W (.cells #[.int .i64 5, .string (bs name), .int .i64 6, .int .i64 0, .int .u64 0, .slice (some ⟨q, off, none⟩) 1 cap] 28)
  have hls := World.size_alloc W (.cells #[.int .i64 5, .string (bs name), .int .i64 6, .int .i64 0, .int .u64 0, .slice (some ⟨q, off, none⟩) 1 cap] 28)
  generalize W.alloc (.cells #[.int .i64 5, .string (bs name), .int .i64 6, .int .i64 0, .int .u64 0, .slice (some ⟨q, off, none⟩) 1 cap] 28) = W1 at *
  have hbl : W.heap.size < W1.heap.size := by omega
  have hlo1 : lo ≤ W1.heap.size := by omega
  have hXs := XsR.later hXs0 hW1.out
  have hq1 : q < W1.heap.size := Nat.lt_of_lt_of_le hq0 hW1.out.size
  obtain ⟨pa, ca, a0, a1, a2, a3, a4, a5, Xa⟩ := XAt.later za hq0 hW1.out
  have y0 : W1.cell? ⟨W.heap.size, 0, none⟩ = some (.int .i64 5) := by simp [World.cell?, hbx]
  have y1 : W1.cell? ⟨W.heap.size, 1, none⟩ = some (.string (bs name)) := by simp [World.cell?, hbx]
  have y2 : W1.cell? ⟨W.heap.size, 2, none⟩ = some (.int .i64 6) := by simp [World.cell?, hbx]
  have y3 : W1.cell? ⟨W.heap.size, 3, none⟩ = some (.int .i64 0) := by simp [World.cell?, hbx]
  have y4 : W1.cell? ⟨W.heap.size, 4, none⟩ = some (.int .u64 0) := by simp [World.cell?, hbx]
  have y5 : W1.cell? ⟨W.heap.size, 5, none⟩ = some (.slice (some ⟨q, off, none⟩) 1 cap) := by simp [World.cell?, hbx]
  clear hbx hls
  refine region_grow Grw (spcAt lo [.is (.pointer (some ⟨W.heap.size, 2, none⟩)), .is (.int .i64 6), .is (.int .i64 5), .is (.pointer (some ⟨W.heap.size, 2, none⟩)), .is (.int .i64 6), .is (.string (bs [33])), .seq ([sgT [33]]), .is (.pointer (some ⟨W.heap.size, 5, none⟩)), .is (.slice (some ⟨q, off, none⟩) 1 cap), .is (.pointer (some ⟨q, off, none⟩)), .is (.agg #[.int .i64 xa.op, .string (bs xa.name), .int .i64 xa.n, .int .i64 xa.w, .int .u64 xa.v, .slice pa xa.l.length ca]), .seq (partT (rankX (xa), exprT (xa)) (11)), .seqs [[sgT [33]], partT (rankX (xa), exprT (xa)) (11)], .seq (List.flatten [[sgT [33]], partT (rankX (xa), exprT (xa)) (11)]), .seq (List.flatten [[sgT [33]], partT (rankX (xa), exprT (xa)) (11)])])
   (by kernel_rfl) rfl (by kernel_rfl) (by kernel_rfl) (grw_drawn _) grw_trans (spcAt_grw lo _) ?hops ?hfin
  case hops =>
   refine ⟨?o0, ?o1, ?o2, ?o3, ?o4, ?o5, ?o6, ?o7, ?o8, ?o9, ?o10, ?o11, ?o12, ?o13, ?o14, trivial⟩
   all_goals (intro ev W' hG hr hD; have hc := hr.const; have hf := hr.func)
   case o0 =>
    have e1 : ev (.tmp 1) = .pointer (some ⟨W.heap.size, 0, none⟩) := hr.tmp 1 (by kernel_rfl)
    exact ok_val (v := .pointer (some ⟨W.heap.size, 2, none⟩)) (by simp [execOp, go_sem, e1]) ⟨Below.refl _ _, rfl⟩
   case o1 =>
    have e29 : ev (.tmp 29) = .pointer (some ⟨W.heap.size, 2, none⟩) := hD 0 29 (by kernel_rfl)
    have m0 := (hG.cell (p := ⟨W.heap.size, 2, none⟩) hbl).trans y2
    exact ok_val (v := .int .i64 6) (by simp [execOp, go_sem, e29, m0]) ⟨Below.refl _ _, rfl⟩
   case o2 =>
    have e30 : ev (.tmp 30) = .int .i64 6 := hD 1 30 (by kernel_rfl)
    exact ok_val (v := .int .i64 5) (by simp [execOp, go_sem, hc, e30]; try rfl) ⟨Below.refl _ _, rfl⟩
   case o3 =>
    have e1 : ev (.tmp 1) = .pointer (some ⟨W.heap.size, 0, none⟩) := hr.tmp 1 (by kernel_rfl)
    exact ok_val (v := .pointer (some ⟨W.heap.size, 2, none⟩)) (by simp [execOp, go_sem, e1]) ⟨Below.refl _ _, rfl⟩
   case o4 =>
    have e32 : ev (.tmp 32) = .pointer (some ⟨W.heap.size, 2, none⟩) := hD 3 32 (by kernel_rfl)
    have m0 := (hG.cell (p := ⟨W.heap.size, 2, none⟩) hbl).trans y2
    exact ok_val (v := .int .i64 6) (by simp [execOp, go_sem, e32, m0]) ⟨Below.refl _ _, rfl⟩
   case o5 =>
    have e31 : ev (.tmp 31) = .int .i64 5 := hD 2 31 (by kernel_rfl)
    have e33 : ev (.tmp 33) = .int .i64 6 := hD 4 33 (by kernel_rfl)
    exact ok_val (v := .string (bs [33])) (by simp [execOp, go_sem, hc, e31, e33]; rfl) ⟨Below.refl _ _, rfl⟩
   case o6 =>
    have e34 : ev (.tmp 34) = .string (bs [33]) := hD 5 34 (by kernel_rfl)
    refine ok_call (f := 90) (args := #[.string (bs [33])]) (by simp [execOp, go_sem, hc, hf, e34]) ?_
    have hlo' := Nat.le_trans hlo1 hG.size
    refine (ssign_any [33] W' lo hlo').mono ?_
    rintro e W2 ⟨f, rfl, h1, h2⟩
    refine ⟨f, rfl, h2, ?_⟩
    show Seq lo W2 f ([sgT [33]])
    exact h1
   case o7 =>
    have e1 : ev (.tmp 1) = .pointer (some ⟨W.heap.size, 0, none⟩) := hr.tmp 1 (by kernel_rfl)
    exact ok_val (v := .pointer (some ⟨W.heap.size, 5, none⟩)) (by simp [execOp, go_sem, e1]) ⟨Below.refl _ _, rfl⟩
   case o8 =>
    have e36 : ev (.tmp 36) = .pointer (some ⟨W.heap.size, 5, none⟩) := hD 7 36 (by kernel_rfl)
    have m0 := (hG.cell (p := ⟨W.heap.size, 5, none⟩) hbl).trans y5
    exact ok_val (v := .slice (some ⟨q, off, none⟩) 1 cap) (by simp [execOp, go_sem, e36, m0]) ⟨Below.refl _ _, rfl⟩
   case o9 =>
    have e37 : ev (.tmp 37) = .slice (some ⟨q, off, none⟩) 1 cap := hD 8 37 (by kernel_rfl)
    exact ok_val (v := .pointer (some ⟨q, off, none⟩)) (by simp [execOp, go_sem, e37, hc]) ⟨Below.refl _ _, rfl⟩
   case o10 =>
    have e38 : ev (.tmp 38) = .pointer (some ⟨q, off, none⟩) := hD 9 38 (by kernel_rfl)
    have m0 := (hG.cell (p := ⟨q, off, none⟩) hq1).trans a0
    have m1 := (hG.cell (p := ⟨q, off + 1, none⟩) hq1).trans a1
    have m2 := (hG.cell (p := ⟨q, off + 2, none⟩) hq1).trans a2
    have m3 := (hG.cell (p := ⟨q, off + 3, none⟩) hq1).trans a3
    have m4 := (hG.cell (p := ⟨q, off + 4, none⟩) hq1).trans a4
    have m5 := (hG.cell (p := ⟨q, off + 5, none⟩) hq1).trans a5
    exact ok_val (v := .agg #[.int .i64 xa.op, .string (bs xa.name), .int .i64 xa.n, .int .i64 xa.w, .int .u64 xa.v, .slice pa xa.l.length ca]) (by simp [execOp, go_sem, e38, m0, m1, m2, m3, m4, m5]) ⟨Below.refl _ _, rfl⟩
   case o11 =>
    have e39 : ev (.tmp 39) = .agg #[.int .i64 xa.op, .string (bs xa.name), .int .i64 xa.n, .int .i64 xa.w, .int .u64 xa.v, .slice pa xa.l.length ca] := hD 10 39 (by kernel_rfl)
    refine ok_call (f := 106) (args := #[.agg #[.int .i64 xa.op, .string (bs xa.name), .int .i64 xa.n, .int .i64 xa.w, .int .u64 xa.v, .slice pa xa.l.length ca], .int .i64 11]) (by simp [execOp, go_sem, hc, hf, e39]) ?_
    have hlo' := Nat.le_trans hlo1 hG.size
    refine (part_any (xa) hoa iha (11) W' lo hlo' _ (XR.later hG _ _ Xa)).mono ?_
    rintro e W2 ⟨f, rfl, h1, h2⟩
    refine ⟨f, rfl, h2, ?_⟩
    show Seq lo W2 f (partT (rankX (xa), exprT (xa)) (11))
    exact h1
   case o12 =>
    obtain ⟨g35, l35, e35, s35⟩ := seq_form (show Seq lo W' (ev (.tmp 35)) ([sgT [33]]) from hD 6 35 (by kernel_rfl))
    obtain ⟨g40, l40, e40, s40⟩ := seq_form (show Seq lo W' (ev (.tmp 40)) (partT (rankX (xa), exprT (xa)) (11)) from hD 11 40 (by kernel_rfl))
    have hn := seqs_new (lo := lo) (W := W') (fs := [.func (.func g35) #[] l35, .func (.func g40) #[] l40]) (ls := [[sgT [33]], partT (rankX (xa), exprT (xa)) (11)]) ⟨s35, s40, trivial⟩ (Nat.le_trans hlo1 hG.size)
    exact ok_new (v := .slice (some ⟨W'.heap.size, 0, none⟩) 2 2) (W' := W'.alloc (.cells #[.func (.func g35) #[] l35, .func (.func g40) #[] l40] 79)) (by simp [execOp, go_sem, e35, e40]) ⟨hn.2, hn.1⟩
   case o13 =>
    have s41 : Seqs lo W' (ev (.tmp 41)) [[sgT [33]], partT (rankX (xa), exprT (xa)) (11)] := hD 12 41 (by kernel_rfl)
    refine ok_call (f := 91) (args := #[ev (.tmp 41)]) (by simp [execOp, go_sem, hc, hf]) ?_
    have hlo' := Nat.le_trans hlo1 hG.size
    refine (row_any _ _ (by simp) W' lo hlo' s41).mono ?_
    rintro e W2 ⟨f, rfl, h1, h2⟩
    refine ⟨f, rfl, h2, ?_⟩
    show Seq lo W2 f (List.flatten [[sgT [33]], partT (rankX (xa), exprT (xa)) (11)])
    exact h1
   case o14 =>
    have s42 : Seq lo W' (ev (.tmp 42)) (List.flatten [[sgT [33]], partT (rankX (xa), exprT (xa)) (11)]) := hD 13 42 (by kernel_rfl)
    exact ok_val (v := ev (.tmp 42)) (by simp [execOp, go_sem]) ⟨Below.refl _ _, s42⟩
  case hfin =>
   intro zz W' hG hzz
   have h9 : Seq lo W' (zz 14) (List.flatten [[sgT [33]], partT (rankX (xa), exprT (xa)) (11)]) := hzz 14 (by simp)
   simp only [putAll, Act.put, List.setIfInBounds_toArray, List.set_cons_zero, List.set_cons_succ]
   go_wp2_with fail
   go_ret
   refine ⟨_, rfl, ?_, hW1.out.trans (Below.mono hG (by omega))⟩
   rw [exprT_5]; exact h9
theorem expr_bin (name : Ln) (n : Int) (hn1 : 11 ≤ n) (hn2 : n ≤ 26) (W : World) (lo : Nat) (hlo : lo ≤ W.heap.size) (xa xb : X) (q off cap : Nat) (hq0 : q < W.heap.size) (hXs0 : XsR W (.slice (some ⟨q, off, none⟩) 2 cap) [xa, xb]) (hoa : okX xa = true) (iha : ExprOK xa) (za : XAt W q off xa) (hob : okX xb = true) (ihb : ExprOK xb) (zb : XAt W q (off + 6) xb) :
  Calls Tryz.prog 56 #[.agg #[.int .i64 6, .string (bs name), .int .i64 n, .int .i64 0, .int .u64 0, .slice (some ⟨q, off, none⟩) 2 cap]] W (MkPost lo W (exprT (.mk 6 name n 0 0 [xa, xb]))) := by
  go_enter Tryz.func56, Tryz.ntmps56
  go_wp2_with fail
  have hW0 := (Below.refl W.heap.size W).alloc (Nat.le_refl _) (.cells #[.int .i64 6, .string (bs name), .int .i64 n, .int .i64 0, .int .u64 0, .slice (some ⟨q, off, none⟩) 2 cap] 28)
  have hbx0 := World.alloc_heap_new W (.cells #[.int .i64 6, .string (bs name), .int .i64 n, .int .i64 0, .int .u64 0, .slice (some ⟨q, off, none⟩) 2 cap] 28)
  have hls := World.size_alloc W (.cells #[.int .i64 6, .string (bs name), .int .i64 n, .int .i64 0, .int .u64 0, .slice (some ⟨q, off, none⟩) 2 cap] 28)
  generalize W.alloc (.cells #[.int .i64 6, .string (bs name), .int .i64 n, .int .i64 0, .int .u64 0, .slice (some ⟨q, off, none⟩) 2 cap] 28) = W0 at *
  refine (two_any n hn1 hn2 W0).mono ?_
  rintro e W1 ⟨rfl, h2⟩
  have hW1 := Lib.hid (hW0.trans (h2.mono (by omega)))
  have hbx := (h2.block _ (by omega)).trans hbx0
  have hbl : W.heap.size < W1.heap.size := by have := h2.size; omega
  have hlo1 : lo ≤ W1.heap.size := by omega
  have hw : IntKind.i64.wrap (((twoR n : Nat) : Int) + 1) = ((twoR n : Nat) : Int) + 1 := Go.IntWalk.i64_in _ (by have := twoR_le n; omega)
  clear h2 hW0 hbx0
  go_wp2_with fail
  have hXs := XsR.later hXs0 hW1.out
  have hq1 : q < W1.heap.size := Nat.lt_of_lt_of_le hq0 hW1.out.size
  obtain ⟨pa, ca, a0, a1, a2, a3, a4, a5, Xa⟩ := XAt.later za hq0 hW1.out
  obtain ⟨pb, cb, b0, b1, b2, b3, b4, b5, Xb⟩ := XAt.later zb hq0 hW1.out
  have y0 : W1.cell? ⟨W.heap.size, 0, none⟩ = some (.int .i64 6) := by simp [World.cell?, hbx]
  have y1 : W1.cell? ⟨W.heap.size, 1, none⟩ = some (.string (bs name)) := by simp [World.cell?, hbx]
  have y2 : W1.cell? ⟨W.heap.size, 2, none⟩ = some (.int .i64 n) := by simp [World.cell?, hbx]
  have y3 : W1.cell? ⟨W.heap.size, 3, none⟩ = some (.int .i64 0) := by simp [World.cell?, hbx]
  have y4 : W1.cell? ⟨W.heap.size, 4, none⟩ = some (.int .u64 0) := by simp [World.cell?, hbx]
  have y5 : W1.cell? ⟨W.heap.size, 5, none⟩ = some (.slice (some ⟨q, off, none⟩) 2 cap) := by simp [World.cell?, hbx]
  clear hbx hls
  refine region_grow Grw (spcAt lo [.is (.pointer (some ⟨W.heap.size, 5, none⟩)), .is (.slice (some ⟨q, off, none⟩) 2 cap), .is (.pointer (some ⟨q, off, none⟩)), .is (.agg #[.int .i64 xa.op, .string (bs xa.name), .int .i64 xa.n, .int .i64 xa.w, .int .u64 xa.v, .slice pa xa.l.length ca]), .is (.int .i64 ((twoR n : Nat) : Int)), .seq (partT (rankX (xa), exprT (xa)) (twoR n)), .is (.string (bs (twoS n))), .seq ([sgT (twoS n)]), .is (.pointer (some ⟨W.heap.size, 5, none⟩)), .is (.slice (some ⟨q, off, none⟩) 2 cap), .is (.pointer (some ⟨q, off + 6, none⟩)), .is (.agg #[.int .i64 xb.op, .string (bs xb.name), .int .i64 xb.n, .int .i64 xb.w, .int .u64 xb.v, .slice pb xb.l.length cb]), .is (.int .i64 ((twoR n : Nat) : Int)), .is (.int .i64 ((twoR n + 1 : Nat) : Int)), .seq (partT (rankX (xb), exprT (xb)) (twoR n + 1)), .seqs [partT (rankX (xa), exprT (xa)) (twoR n), [sgT (twoS n)], partT (rankX (xb), exprT (xb)) (twoR n + 1)], .seq (List.flatten [partT (rankX (xa), exprT (xa)) (twoR n), [sgT (twoS n)], partT (rankX (xb), exprT (xb)) (twoR n + 1)]), .seq (List.flatten [partT (rankX (xa), exprT (xa)) (twoR n), [sgT (twoS n)], partT (rankX (xb), exprT (xb)) (twoR n + 1)])])
   (by kernel_rfl) rfl (by kernel_rfl) (by kernel_rfl) (grw_drawn _) grw_trans (spcAt_grw lo _) ?hops ?hfin
  case hops =>
   refine ⟨?o0, ?o1, ?o2, ?o3, ?o4, ?o5, ?o6, ?o7, ?o8, ?o9, ?o10, ?o11, ?o12, ?o13, ?o14, ?o15, ?o16, ?o17, trivial⟩
   all_goals (intro ev W' hG hr hD; have hc := hr.const; have hf := hr.func)
   case o0 =>
    have e1 : ev (.tmp 1) = .pointer (some ⟨W.heap.size, 0, none⟩) := hr.tmp 1 (by kernel_rfl)
    exact ok_val (v := .pointer (some ⟨W.heap.size, 5, none⟩)) (by simp [execOp, go_sem, e1]) ⟨Below.refl _ _, rfl⟩
   case o1 =>
    have e51 : ev (.tmp 51) = .pointer (some ⟨W.heap.size, 5, none⟩) := hD 0 51 (by kernel_rfl)
    have m0 := (hG.cell (p := ⟨W.heap.size, 5, none⟩) hbl).trans y5
    exact ok_val (v := .slice (some ⟨q, off, none⟩) 2 cap) (by simp [execOp, go_sem, e51, m0]) ⟨Below.refl _ _, rfl⟩
   case o2 =>
    have e52 : ev (.tmp 52) = .slice (some ⟨q, off, none⟩) 2 cap := hD 1 52 (by kernel_rfl)
    exact ok_val (v := .pointer (some ⟨q, off, none⟩)) (by simp [execOp, go_sem, e52, hc]) ⟨Below.refl _ _, rfl⟩
   case o3 =>
    have e53 : ev (.tmp 53) = .pointer (some ⟨q, off, none⟩) := hD 2 53 (by kernel_rfl)
    have m0 := (hG.cell (p := ⟨q, off, none⟩) hq1).trans a0
    have m1 := (hG.cell (p := ⟨q, off + 1, none⟩) hq1).trans a1
    have m2 := (hG.cell (p := ⟨q, off + 2, none⟩) hq1).trans a2
    have m3 := (hG.cell (p := ⟨q, off + 3, none⟩) hq1).trans a3
    have m4 := (hG.cell (p := ⟨q, off + 4, none⟩) hq1).trans a4
    have m5 := (hG.cell (p := ⟨q, off + 5, none⟩) hq1).trans a5
    exact ok_val (v := .agg #[.int .i64 xa.op, .string (bs xa.name), .int .i64 xa.n, .int .i64 xa.w, .int .u64 xa.v, .slice pa xa.l.length ca]) (by simp [execOp, go_sem, e53, m0, m1, m2, m3, m4, m5]) ⟨Below.refl _ _, rfl⟩
   case o4 =>
    have e4 : ev (.tmp 4) = .int .i64 ((twoR n : Nat) : Int) := hr.tmp 4 (by kernel_rfl)
    exact ok_val (v := .int .i64 ((twoR n : Nat) : Int)) (by simp [execOp, go_sem, e4]) ⟨Below.refl _ _, rfl⟩
   case o5 =>
    have e54 : ev (.tmp 54) = .agg #[.int .i64 xa.op, .string (bs xa.name), .int .i64 xa.n, .int .i64 xa.w, .int .u64 xa.v, .slice pa xa.l.length ca] := hD 3 54 (by kernel_rfl)
    have e55 : ev (.tmp 55) = .int .i64 ((twoR n : Nat) : Int) := hD 4 55 (by kernel_rfl)
    refine ok_call (f := 106) (args := #[.agg #[.int .i64 xa.op, .string (bs xa.name), .int .i64 xa.n, .int .i64 xa.w, .int .u64 xa.v, .slice pa xa.l.length ca], .int .i64 ((twoR n : Nat) : Int)]) (by simp [execOp, go_sem, hc, hf, e54, e55]) ?_
    have hlo' := Nat.le_trans hlo1 hG.size
    refine (part_any (xa) hoa iha (twoR n) W' lo hlo' _ (XR.later hG _ _ Xa)).mono ?_
    rintro e W2 ⟨f, rfl, h1, h2⟩
    refine ⟨f, rfl, h2, ?_⟩
    show Seq lo W2 f (partT (rankX (xa), exprT (xa)) (twoR n))
    exact h1
   case o6 =>
    have e3 : ev (.tmp 3) = .string (bs (twoS n)) := hr.tmp 3 (by kernel_rfl)
    exact ok_val (v := .string (bs (twoS n))) (by simp [execOp, go_sem, e3]) ⟨Below.refl _ _, rfl⟩
   case o7 =>
    have e57 : ev (.tmp 57) = .string (bs (twoS n)) := hD 6 57 (by kernel_rfl)
    refine ok_call (f := 90) (args := #[.string (bs (twoS n))]) (by simp [execOp, go_sem, hc, hf, e57]) ?_
    have hlo' := Nat.le_trans hlo1 hG.size
    refine (ssign_any (twoS n) W' lo hlo').mono ?_
    rintro e W2 ⟨f, rfl, h1, h2⟩
    refine ⟨f, rfl, h2, ?_⟩
    show Seq lo W2 f ([sgT (twoS n)])
    exact h1
   case o8 =>
    have e1 : ev (.tmp 1) = .pointer (some ⟨W.heap.size, 0, none⟩) := hr.tmp 1 (by kernel_rfl)
    exact ok_val (v := .pointer (some ⟨W.heap.size, 5, none⟩)) (by simp [execOp, go_sem, e1]) ⟨Below.refl _ _, rfl⟩
   case o9 =>
    have e59 : ev (.tmp 59) = .pointer (some ⟨W.heap.size, 5, none⟩) := hD 8 59 (by kernel_rfl)
    have m0 := (hG.cell (p := ⟨W.heap.size, 5, none⟩) hbl).trans y5
    exact ok_val (v := .slice (some ⟨q, off, none⟩) 2 cap) (by simp [execOp, go_sem, e59, m0]) ⟨Below.refl _ _, rfl⟩
   case o10 =>
    have e60 : ev (.tmp 60) = .slice (some ⟨q, off, none⟩) 2 cap := hD 9 60 (by kernel_rfl)
    exact ok_val (v := .pointer (some ⟨q, off + 6, none⟩)) (by simp [execOp, go_sem, e60, hc]) ⟨Below.refl _ _, rfl⟩
   case o11 =>
    have e61 : ev (.tmp 61) = .pointer (some ⟨q, off + 6, none⟩) := hD 10 61 (by kernel_rfl)
    have m0 := (hG.cell (p := ⟨q, off + 6, none⟩) hq1).trans b0
    have m1 := (hG.cell (p := ⟨q, off + 7, none⟩) hq1).trans b1
    have m2 := (hG.cell (p := ⟨q, off + 8, none⟩) hq1).trans b2
    have m3 := (hG.cell (p := ⟨q, off + 9, none⟩) hq1).trans b3
    have m4 := (hG.cell (p := ⟨q, off + 10, none⟩) hq1).trans b4
    have m5 := (hG.cell (p := ⟨q, off + 11, none⟩) hq1).trans b5
    exact ok_val (v := .agg #[.int .i64 xb.op, .string (bs xb.name), .int .i64 xb.n, .int .i64 xb.w, .int .u64 xb.v, .slice pb xb.l.length cb]) (by simp [execOp, go_sem, e61, m0, m1, m2, m3, m4, m5]) ⟨Below.refl _ _, rfl⟩
   case o12 =>
    have e4 : ev (.tmp 4) = .int .i64 ((twoR n : Nat) : Int) := hr.tmp 4 (by kernel_rfl)
    exact ok_val (v := .int .i64 ((twoR n : Nat) : Int)) (by simp [execOp, go_sem, e4]) ⟨Below.refl _ _, rfl⟩
   case o13 =>
    have e63 : ev (.tmp 63) = .int .i64 ((twoR n : Nat) : Int) := hD 12 63 (by kernel_rfl)
    exact ok_val (v := .int .i64 ((twoR n + 1 : Nat) : Int)) (by simp [execOp, go_sem, hc, e63, hw]; try rfl) ⟨Below.refl _ _, rfl⟩
   case o14 =>
    have e62 : ev (.tmp 62) = .agg #[.int .i64 xb.op, .string (bs xb.name), .int .i64 xb.n, .int .i64 xb.w, .int .u64 xb.v, .slice pb xb.l.length cb] := hD 11 62 (by kernel_rfl)
    have e64 : ev (.tmp 64) = .int .i64 ((twoR n + 1 : Nat) : Int) := hD 13 64 (by kernel_rfl)
    refine ok_call (f := 106) (args := #[.agg #[.int .i64 xb.op, .string (bs xb.name), .int .i64 xb.n, .int .i64 xb.w, .int .u64 xb.v, .slice pb xb.l.length cb], .int .i64 ((twoR n + 1 : Nat) : Int)]) (by simp [execOp, go_sem, hc, hf, e62, e64]) ?_
    have hlo' := Nat.le_trans hlo1 hG.size
    refine (part_any (xb) hob ihb (twoR n + 1) W' lo hlo' _ (XR.later hG _ _ Xb)).mono ?_
    rintro e W2 ⟨f, rfl, h1, h2⟩
    refine ⟨f, rfl, h2, ?_⟩
    show Seq lo W2 f (partT (rankX (xb), exprT (xb)) (twoR n + 1))
    exact h1
   case o15 =>
    obtain ⟨g56, l56, e56, s56⟩ := seq_form (show Seq lo W' (ev (.tmp 56)) (partT (rankX (xa), exprT (xa)) (twoR n)) from hD 5 56 (by kernel_rfl))
    obtain ⟨g58, l58, e58, s58⟩ := seq_form (show Seq lo W' (ev (.tmp 58)) ([sgT (twoS n)]) from hD 7 58 (by kernel_rfl))
    obtain ⟨g65, l65, e65, s65⟩ := seq_form (show Seq lo W' (ev (.tmp 65)) (partT (rankX (xb), exprT (xb)) (twoR n + 1)) from hD 14 65 (by kernel_rfl))
    have hn := seqs_new (lo := lo) (W := W') (fs := [.func (.func g56) #[] l56, .func (.func g58) #[] l58, .func (.func g65) #[] l65]) (ls := [partT (rankX (xa), exprT (xa)) (twoR n), [sgT (twoS n)], partT (rankX (xb), exprT (xb)) (twoR n + 1)]) ⟨s56, s58, s65, trivial⟩ (Nat.le_trans hlo1 hG.size)
    exact ok_new (v := .slice (some ⟨W'.heap.size, 0, none⟩) 3 3) (W' := W'.alloc (.cells #[.func (.func g56) #[] l56, .func (.func g58) #[] l58, .func (.func g65) #[] l65] 79)) (by simp [execOp, go_sem, e56, e58, e65]) ⟨hn.2, hn.1⟩
   case o16 =>
    have s66 : Seqs lo W' (ev (.tmp 66)) [partT (rankX (xa), exprT (xa)) (twoR n), [sgT (twoS n)], partT (rankX (xb), exprT (xb)) (twoR n + 1)] := hD 15 66 (by kernel_rfl)
    refine ok_call (f := 91) (args := #[ev (.tmp 66)]) (by simp [execOp, go_sem, hc, hf]) ?_
    have hlo' := Nat.le_trans hlo1 hG.size
    refine (row_any _ _ (by simp) W' lo hlo' s66).mono ?_
    rintro e W2 ⟨f, rfl, h1, h2⟩
    refine ⟨f, rfl, h2, ?_⟩
    show Seq lo W2 f (List.flatten [partT (rankX (xa), exprT (xa)) (twoR n), [sgT (twoS n)], partT (rankX (xb), exprT (xb)) (twoR n + 1)])
    exact h1
   case o17 =>
    have s67 : Seq lo W' (ev (.tmp 67)) (List.flatten [partT (rankX (xa), exprT (xa)) (twoR n), [sgT (twoS n)], partT (rankX (xb), exprT (xb)) (twoR n + 1)]) := hD 16 67 (by kernel_rfl)
    exact ok_val (v := ev (.tmp 67)) (by simp [execOp, go_sem]) ⟨Below.refl _ _, s67⟩
  case hfin =>
   intro zz W' hG hzz
   have h9 : Seq lo W' (zz 17) (List.flatten [partT (rankX (xa), exprT (xa)) (twoR n), [sgT (twoS n)], partT (rankX (xb), exprT (xb)) (twoR n + 1)]) := hzz 17 (by simp)
   simp only [putAll, Act.put, List.setIfInBounds_toArray, List.set_cons_zero, List.set_cons_succ]
   go_wp2_with fail
   go_ret
   refine ⟨_, rfl, ?_, hW1.out.trans (Below.mono hG (by omega))⟩
   rw [exprT_6]; exact h9
theorem expr_cond (name : Ln) (n : Int) (W : World) (lo : Nat) (hlo : lo ≤ W.heap.size) (xa xb xc : X) (q off cap : Nat) (hq0 : q < W.heap.size) (hXs0 : XsR W (.slice (some ⟨q, off, none⟩) 3 cap) [xa, xb, xc]) (hoa : okX xa = true) (iha : ExprOK xa) (za : XAt W q off xa) (hob : okX xb = true) (ihb : ExprOK xb) (zb : XAt W q (off + 6) xb) (hoc : okX xc = true) (ihc : ExprOK xc) (zc : XAt W q (off + 12) xc) :
  Calls Tryz.prog 56 #[.agg #[.int .i64 7, .string (bs name), .int .i64 n, .int .i64 0, .int .u64 0, .slice (some ⟨q, off, none⟩) 3 cap]] W (MkPost lo W (exprT (.mk 7 name n 0 0 [xa, xb, xc]))) := by
  go_enter Tryz.func56, Tryz.ntmps56
  go_wp2_with fail
  have hW1 := Lib.hid ((Below.refl W.heap.size W).alloc (Nat.le_refl _) (.cells #[.int .i64 7, .string (bs name), .int .i64 n, .int .i64 0, .int .u64 0, .slice (some ⟨q, off, none⟩) 3 cap] 28))
  have hbx := World.alloc_heap_new W (.cells #[.int .i64 7, .string (bs name), .int .i64 n, .int .i64 0, .int .u64 0, .slice (some ⟨q, off, none⟩) 3 cap] 28)
  have hls := World.size_alloc W (.cells #[.int .i64 7, .string (bs name), .int .i64 n, .int .i64 0, .int .u64 0, .slice (some ⟨q, off, none⟩) 3 cap] 28)
  generalize W.alloc (.cells #[.int .i64 7, .string (bs name), .int .i64 n, .int .i64 0, .int .u64 0, .slice (some ⟨q, off, none⟩) 3 cap] 28) = W1 at *
  have hbl : W.heap.size < W1.heap.size := by omega
  have hlo1 : lo ≤ W1.heap.size := by omega
  have hXs := XsR.later hXs0 hW1.out
  have hq1 : q < W1.heap.size := Nat.lt_of_lt_of_le hq0 hW1.out.size
  obtain ⟨pa, ca, a0, a1, a2, a3, a4, a5, Xa⟩ := XAt.later za hq0 hW1.out
  obtain ⟨pb, cb, b0, b1, b2, b3, b4, b5, Xb⟩ := XAt.later zb hq0 hW1.out
  obtain ⟨pc, cc, c0, c1, c2, c3, c4, c5, Xc⟩ := XAt.later zc hq0 hW1.out
  have y0 : W1.cell? ⟨W.heap.size, 0, none⟩ = some (.int .i64 7) := by simp [World.cell?, hbx]
  have y1 : W1.cell? ⟨W.heap.size, 1, none⟩ = some (.string (bs name)) := by simp [World.cell?, hbx]
  have y2 : W1.cell? ⟨W.heap.size, 2, none⟩ = some (.int .i64 n) := by simp [World.cell?, hbx]
  have y3 : W1.cell? ⟨W.heap.size, 3, none⟩ = some (.int .i64 0) := by simp [World.cell?, hbx]
  have y4 : W1.cell? ⟨W.heap.size, 4, none⟩ = some (.int .u64 0) := by simp [World.cell?, hbx]
  have y5 : W1.cell? ⟨W.heap.size, 5, none⟩ = some (.slice (some ⟨q, off, none⟩) 3 cap) := by simp [World.cell?, hbx]
  clear hbx hls
  have hcap : 3 ≤ cap := by obtain ⟨_, _, h1, h2, _⟩ := hXs0; cases h1; exact h2
  have hXt := els_tail (l := [xb, xc]) hXs
  have iht : ∀ y ∈ [xb, xc], ExprOK y := by intro y hy; rcases List.mem_cons.1 hy with rfl | hy; exact ihb; rcases List.mem_cons.1 hy with rfl | hy; exact ihc; cases hy
  refine region_grow Grw (spcAt lo [.is (.pointer (some ⟨W.heap.size, 5, none⟩)), .is (.slice (some ⟨q, off, none⟩) 3 cap), .is (.pointer (some ⟨q, off, none⟩)), .is (.agg #[.int .i64 xa.op, .string (bs xa.name), .int .i64 xa.n, .int .i64 xa.w, .int .u64 xa.v, .slice pa xa.l.length ca]), .seq (partT (rankX (xa), exprT (xa)) (1)), .seq ([sgT [63]]), .is (.pointer (some ⟨W.heap.size, 5, none⟩)), .is (.slice (some ⟨q, off, none⟩) 3 cap), .is (.slice (some ⟨q, off + 6, none⟩) 2 (cap - 1)), .seq (sepS [58] (([xb, xc]).map exprT)), .seqs [partT (rankX (xa), exprT (xa)) (1), [sgT [63]], sepS [58] (([xb, xc]).map exprT)], .seq (List.flatten [partT (rankX (xa), exprT (xa)) (1), [sgT [63]], sepS [58] (([xb, xc]).map exprT)]), .seq (List.flatten [partT (rankX (xa), exprT (xa)) (1), [sgT [63]], sepS [58] (([xb, xc]).map exprT)])])
   (by kernel_rfl) rfl (by kernel_rfl) (by kernel_rfl) (grw_drawn _) grw_trans (spcAt_grw lo _) ?hops ?hfin
  case hops =>
   refine ⟨?o0, ?o1, ?o2, ?o3, ?o4, ?o5, ?o6, ?o7, ?o8, ?o9, ?o10, ?o11, ?o12, trivial⟩
   all_goals (intro ev W' hG hr hD; have hc := hr.const; have hf := hr.func)
   case o0 =>
    have e1 : ev (.tmp 1) = .pointer (some ⟨W.heap.size, 0, none⟩) := hr.tmp 1 (by kernel_rfl)
    exact ok_val (v := .pointer (some ⟨W.heap.size, 5, none⟩)) (by simp [execOp, go_sem, e1]) ⟨Below.refl _ _, rfl⟩
   case o1 =>
    have e70 : ev (.tmp 70) = .pointer (some ⟨W.heap.size, 5, none⟩) := hD 0 70 (by kernel_rfl)
    have m0 := (hG.cell (p := ⟨W.heap.size, 5, none⟩) hbl).trans y5
    exact ok_val (v := .slice (some ⟨q, off, none⟩) 3 cap) (by simp [execOp, go_sem, e70, m0]) ⟨Below.refl _ _, rfl⟩
   case o2 =>
    have e71 : ev (.tmp 71) = .slice (some ⟨q, off, none⟩) 3 cap := hD 1 71 (by kernel_rfl)
    exact ok_val (v := .pointer (some ⟨q, off, none⟩)) (by simp [execOp, go_sem, e71, hc]) ⟨Below.refl _ _, rfl⟩
   case o3 =>
    have e72 : ev (.tmp 72) = .pointer (some ⟨q, off, none⟩) := hD 2 72 (by kernel_rfl)
    have m0 := (hG.cell (p := ⟨q, off, none⟩) hq1).trans a0
    have m1 := (hG.cell (p := ⟨q, off + 1, none⟩) hq1).trans a1
    have m2 := (hG.cell (p := ⟨q, off + 2, none⟩) hq1).trans a2
    have m3 := (hG.cell (p := ⟨q, off + 3, none⟩) hq1).trans a3
    have m4 := (hG.cell (p := ⟨q, off + 4, none⟩) hq1).trans a4
    have m5 := (hG.cell (p := ⟨q, off + 5, none⟩) hq1).trans a5
    exact ok_val (v := .agg #[.int .i64 xa.op, .string (bs xa.name), .int .i64 xa.n, .int .i64 xa.w, .int .u64 xa.v, .slice pa xa.l.length ca]) (by simp [execOp, go_sem, e72, m0, m1, m2, m3, m4, m5]) ⟨Below.refl _ _, rfl⟩
   case o4 =>
    have e73 : ev (.tmp 73) = .agg #[.int .i64 xa.op, .string (bs xa.name), .int .i64 xa.n, .int .i64 xa.w, .int .u64 xa.v, .slice pa xa.l.length ca] := hD 3 73 (by kernel_rfl)
    refine ok_call (f := 106) (args := #[.agg #[.int .i64 xa.op, .string (bs xa.name), .int .i64 xa.n, .int .i64 xa.w, .int .u64 xa.v, .slice pa xa.l.length ca], .int .i64 1]) (by simp [execOp, go_sem, hc, hf, e73]) ?_
    have hlo' := Nat.le_trans hlo1 hG.size
    refine (part_any (xa) hoa iha (1) W' lo hlo' _ (XR.later hG _ _ Xa)).mono ?_
    rintro e W2 ⟨f, rfl, h1, h2⟩
    refine ⟨f, rfl, h2, ?_⟩
    show Seq lo W2 f (partT (rankX (xa), exprT (xa)) (1))
    exact h1
   case o5 =>
    refine ok_call (f := 90) (args := #[.string { data := #[63] }]) (by simp [execOp, go_sem, hc, hf]) ?_
    have hlo' := Nat.le_trans hlo1 hG.size
    refine (ssign_any [63] W' lo hlo').mono ?_
    rintro e W2 ⟨f, rfl, h1, h2⟩
    refine ⟨f, rfl, h2, ?_⟩
    show Seq lo W2 f ([sgT [63]])
    exact h1
   case o6 =>
    have e1 : ev (.tmp 1) = .pointer (some ⟨W.heap.size, 0, none⟩) := hr.tmp 1 (by kernel_rfl)
    exact ok_val (v := .pointer (some ⟨W.heap.size, 5, none⟩)) (by simp [execOp, go_sem, e1]) ⟨Below.refl _ _, rfl⟩
   case o7 =>
    have e76 : ev (.tmp 76) = .pointer (some ⟨W.heap.size, 5, none⟩) := hD 6 76 (by kernel_rfl)
    have m0 := (hG.cell (p := ⟨W.heap.size, 5, none⟩) hbl).trans y5
    exact ok_val (v := .slice (some ⟨q, off, none⟩) 3 cap) (by simp [execOp, go_sem, e76, m0]) ⟨Below.refl _ _, rfl⟩
   case o8 =>
    have e77 : ev (.tmp 77) = .slice (some ⟨q, off, none⟩) 3 cap := hD 7 77 (by kernel_rfl)
    exact ok_val (v := .slice (some ⟨q, off + 6, none⟩) 2 (cap - 1)) (by simp [execOp, go_sem, hc, e77, hcap]; try omega) ⟨Below.refl _ _, rfl⟩
   case o9 =>
    have e78 : ev (.tmp 78) = .slice (some ⟨q, off + 6, none⟩) 2 (cap - 1) := hD 8 78 (by kernel_rfl)
    refine ok_call (f := 105) (args := #[.slice (some ⟨q, off + 6, none⟩) 2 (cap - 1), .string { data := #[58] }, .func (.func 56) #[] #[]]) (by simp [execOp, go_sem, hc, hf, e78]) ?_
    have hlo' := Nat.le_trans hlo1 hG.size
    refine (eachX_any [58] (by decide) _ ([xb, xc]) (by simp) W' lo hlo' (XsR.later hXt hG) iht).mono ?_
    rintro e W2 ⟨f, rfl, h1, h2⟩
    refine ⟨f, rfl, h2, ?_⟩
    show Seq lo W2 f (sepS [58] (([xb, xc]).map exprT))
    exact h1
   case o10 =>
    obtain ⟨g74, l74, e74, s74⟩ := seq_form (show Seq lo W' (ev (.tmp 74)) (partT (rankX (xa), exprT (xa)) (1)) from hD 4 74 (by kernel_rfl))
    obtain ⟨g75, l75, e75, s75⟩ := seq_form (show Seq lo W' (ev (.tmp 75)) ([sgT [63]]) from hD 5 75 (by kernel_rfl))
    obtain ⟨g79, l79, e79, s79⟩ := seq_form (show Seq lo W' (ev (.tmp 79)) (sepS [58] (([xb, xc]).map exprT)) from hD 9 79 (by kernel_rfl))
    have hn := seqs_new (lo := lo) (W := W') (fs := [.func (.func g74) #[] l74, .func (.func g75) #[] l75, .func (.func g79) #[] l79]) (ls := [partT (rankX (xa), exprT (xa)) (1), [sgT [63]], sepS [58] (([xb, xc]).map exprT)]) ⟨s74, s75, s79, trivial⟩ (Nat.le_trans hlo1 hG.size)
    exact ok_new (v := .slice (some ⟨W'.heap.size, 0, none⟩) 3 3) (W' := W'.alloc (.cells #[.func (.func g74) #[] l74, .func (.func g75) #[] l75, .func (.func g79) #[] l79] 79)) (by simp [execOp, go_sem, e74, e75, e79]) ⟨hn.2, hn.1⟩
   case o11 =>
    have s80 : Seqs lo W' (ev (.tmp 80)) [partT (rankX (xa), exprT (xa)) (1), [sgT [63]], sepS [58] (([xb, xc]).map exprT)] := hD 10 80 (by kernel_rfl)
    refine ok_call (f := 91) (args := #[ev (.tmp 80)]) (by simp [execOp, go_sem, hc, hf]) ?_
    have hlo' := Nat.le_trans hlo1 hG.size
    refine (row_any _ _ (by simp) W' lo hlo' s80).mono ?_
    rintro e W2 ⟨f, rfl, h1, h2⟩
    refine ⟨f, rfl, h2, ?_⟩
    show Seq lo W2 f (List.flatten [partT (rankX (xa), exprT (xa)) (1), [sgT [63]], sepS [58] (([xb, xc]).map exprT)])
    exact h1
   case o12 =>
    have s81 : Seq lo W' (ev (.tmp 81)) (List.flatten [partT (rankX (xa), exprT (xa)) (1), [sgT [63]], sepS [58] (([xb, xc]).map exprT)]) := hD 11 81 (by kernel_rfl)
    exact ok_val (v := ev (.tmp 81)) (by simp [execOp, go_sem]) ⟨Below.refl _ _, s81⟩
  case hfin =>
   intro zz W' hG hzz
   have h9 : Seq lo W' (zz 12) (List.flatten [partT (rankX (xa), exprT (xa)) (1), [sgT [63]], sepS [58] (([xb, xc]).map exprT)]) := hzz 12 (by simp)
   simp only [putAll, Act.put, List.setIfInBounds_toArray, List.set_cons_zero, List.set_cons_succ]
   go_wp2_with fail
   go_ret
   refine ⟨_, rfl, ?_, hW1.out.trans (Below.mono hG (by omega))⟩
   rw [exprT_7]; exact h9
theorem expr_rep (name : Ln) (n : Int) (W : World) (lo : Nat) (hlo : lo ≤ W.heap.size) (xa xb : X) (q off cap : Nat) (hq0 : q < W.heap.size) (hXs0 : XsR W (.slice (some ⟨q, off, none⟩) 2 cap) [xa, xb]) (hoa : okX xa = true) (iha : ExprOK xa) (za : XAt W q off xa) (hob : okX xb = true) (ihb : ExprOK xb) (zb : XAt W q (off + 6) xb) :
  Calls Tryz.prog 56 #[.agg #[.int .i64 9, .string (bs name), .int .i64 n, .int .i64 0, .int .u64 0, .slice (some ⟨q, off, none⟩) 2 cap]] W (MkPost lo W (exprT (.mk 9 name n 0 0 [xa, xb]))) := by
  go_enter Tryz.func56, Tryz.ntmps56
  go_wp2_with fail
  have hW1 := Lib.hid ((Below.refl W.heap.size W).alloc (Nat.le_refl _) (.cells #[.int .i64 9, .string (bs name), .int .i64 n, .int .i64 0, .int .u64 0, .slice (some ⟨q, off, none⟩) 2 cap] 28))
  have hbx := World.alloc_heap_new W (.cells #[.int .i64 9, .string (bs name), .int .i64 n, .int .i64 0, .int .u64 0, .slice (some ⟨q, off, none⟩) 2 cap] 28)
  have hls := World.size_alloc W (.cells #[.int .i64 9, .string (bs name), .int .i64 n, .int .i64 0, .int .u64 0, .slice (some ⟨q, off, none⟩) 2 cap] 28)
  generalize W.alloc (.cells #[.int .i64 9, .string (bs name), .int .i64 n, .int .i64 0, .int .u64 0, .slice (some ⟨q, off, none⟩) 2 cap] 28) = W1 at *
  have hbl : W.heap.size < W1.heap.size := by omega
  have hlo1 : lo ≤ W1.heap.size := by omega
  have hXs := XsR.later hXs0 hW1.out
  have hq1 : q < W1.heap.size := Nat.lt_of_lt_of_le hq0 hW1.out.size
  obtain ⟨pa, ca, a0, a1, a2, a3, a4, a5, Xa⟩ := XAt.later za hq0 hW1.out
  obtain ⟨pb, cb, b0, b1, b2, b3, b4, b5, Xb⟩ := XAt.later zb hq0 hW1.out
  have y0 : W1.cell? ⟨W.heap.size, 0, none⟩ = some (.int .i64 9) := by simp [World.cell?, hbx]
  have y1 : W1.cell? ⟨W.heap.size, 1, none⟩ = some (.string (bs name)) := by simp [World.cell?, hbx]
  have y2 : W1.cell? ⟨W.heap.size, 2, none⟩ = some (.int .i64 n) := by simp [World.cell?, hbx]
  have y3 : W1.cell? ⟨W.heap.size, 3, none⟩ = some (.int .i64 0) := by simp [World.cell?, hbx]
  have y4 : W1.cell? ⟨W.heap.size, 4, none⟩ = some (.int .u64 0) := by simp [World.cell?, hbx]
  have y5 : W1.cell? ⟨W.heap.size, 5, none⟩ = some (.slice (some ⟨q, off, none⟩) 2 cap) := by simp [World.cell?, hbx]
  clear hbx hls
  refine region_grow Grw (spcAt lo [.is (.pointer (some ⟨W.heap.size, 5, none⟩)), .is (.slice (some ⟨q, off, none⟩) 2 cap), .is (.pointer (some ⟨q, off, none⟩)), .is (.agg #[.int .i64 xa.op, .string (bs xa.name), .int .i64 xa.n, .int .i64 xa.w, .int .u64 xa.v, .slice pa xa.l.length ca]), .seq (exprT (xa)), .is (.pointer (some ⟨W.heap.size, 5, none⟩)), .is (.slice (some ⟨q, off, none⟩) 2 cap), .is (.pointer (some ⟨q, off + 6, none⟩)), .is (.agg #[.int .i64 xb.op, .string (bs xb.name), .int .i64 xb.n, .int .i64 xb.w, .int .u64 xb.v, .slice pb xb.l.length cb]), .seq (exprT (xb)), .seq (inT 123 125 (exprT (xb))), .seqs [exprT (xa), inT 123 125 (exprT (xb))], .seq (List.flatten [exprT (xa), inT 123 125 (exprT (xb))]), .seq (inT 123 125 (List.flatten [exprT (xa), inT 123 125 (exprT (xb))])), .seq (inT 123 125 (List.flatten [exprT (xa), inT 123 125 (exprT (xb))]))])
   (by kernel_rfl) rfl (by kernel_rfl) (by kernel_rfl) (grw_drawn _) grw_trans (spcAt_grw lo _) ?hops ?hfin
  case hops =>
   refine ⟨?o0, ?o1, ?o2, ?o3, ?o4, ?o5, ?o6, ?o7, ?o8, ?o9, ?o10, ?o11, ?o12, ?o13, ?o14, trivial⟩
   all_goals (intro ev W' hG hr hD; have hc := hr.const; have hf := hr.func)
   case o0 =>
    have e1 : ev (.tmp 1) = .pointer (some ⟨W.heap.size, 0, none⟩) := hr.tmp 1 (by kernel_rfl)
    exact ok_val (v := .pointer (some ⟨W.heap.size, 5, none⟩)) (by simp [execOp, go_sem, e1]) ⟨Below.refl _ _, rfl⟩
   case o1 =>
    have e90 : ev (.tmp 90) = .pointer (some ⟨W.heap.size, 5, none⟩) := hD 0 90 (by kernel_rfl)
    have m0 := (hG.cell (p := ⟨W.heap.size, 5, none⟩) hbl).trans y5
    exact ok_val (v := .slice (some ⟨q, off, none⟩) 2 cap) (by simp [execOp, go_sem, e90, m0]) ⟨Below.refl _ _, rfl⟩
   case o2 =>
    have e91 : ev (.tmp 91) = .slice (some ⟨q, off, none⟩) 2 cap := hD 1 91 (by kernel_rfl)
    exact ok_val (v := .pointer (some ⟨q, off, none⟩)) (by simp [execOp, go_sem, e91, hc]) ⟨Below.refl _ _, rfl⟩
   case o3 =>
    have e92 : ev (.tmp 92) = .pointer (some ⟨q, off, none⟩) := hD 2 92 (by kernel_rfl)
    have m0 := (hG.cell (p := ⟨q, off, none⟩) hq1).trans a0
    have m1 := (hG.cell (p := ⟨q, off + 1, none⟩) hq1).trans a1
    have m2 := (hG.cell (p := ⟨q, off + 2, none⟩) hq1).trans a2
    have m3 := (hG.cell (p := ⟨q, off + 3, none⟩) hq1).trans a3
    have m4 := (hG.cell (p := ⟨q, off + 4, none⟩) hq1).trans a4
    have m5 := (hG.cell (p := ⟨q, off + 5, none⟩) hq1).trans a5
    exact ok_val (v := .agg #[.int .i64 xa.op, .string (bs xa.name), .int .i64 xa.n, .int .i64 xa.w, .int .u64 xa.v, .slice pa xa.l.length ca]) (by simp [execOp, go_sem, e92, m0, m1, m2, m3, m4, m5]) ⟨Below.refl _ _, rfl⟩
   case o4 =>
    have e93 : ev (.tmp 93) = .agg #[.int .i64 xa.op, .string (bs xa.name), .int .i64 xa.n, .int .i64 xa.w, .int .u64 xa.v, .slice pa xa.l.length ca] := hD 3 93 (by kernel_rfl)
    refine ok_call (f := 56) (args := #[.agg #[.int .i64 xa.op, .string (bs xa.name), .int .i64 xa.n, .int .i64 xa.w, .int .u64 xa.v, .slice pa xa.l.length ca]]) (by simp [execOp, go_sem, hc, hf, e93]) ?_
    have hlo' := Nat.le_trans hlo1 hG.size
    refine (iha W' lo _ hlo' (XR.later hG _ _ Xa)).mono ?_
    rintro e W2 ⟨f, rfl, h1, h2⟩
    refine ⟨f, rfl, h2, ?_⟩
    show Seq lo W2 f (exprT (xa))
    exact h1
   case o5 =>
    have e1 : ev (.tmp 1) = .pointer (some ⟨W.heap.size, 0, none⟩) := hr.tmp 1 (by kernel_rfl)
    exact ok_val (v := .pointer (some ⟨W.heap.size, 5, none⟩)) (by simp [execOp, go_sem, e1]) ⟨Below.refl _ _, rfl⟩
   case o6 =>
    have e95 : ev (.tmp 95) = .pointer (some ⟨W.heap.size, 5, none⟩) := hD 5 95 (by kernel_rfl)
    have m0 := (hG.cell (p := ⟨W.heap.size, 5, none⟩) hbl).trans y5
    exact ok_val (v := .slice (some ⟨q, off, none⟩) 2 cap) (by simp [execOp, go_sem, e95, m0]) ⟨Below.refl _ _, rfl⟩
   case o7 =>
    have e96 : ev (.tmp 96) = .slice (some ⟨q, off, none⟩) 2 cap := hD 6 96 (by kernel_rfl)
    exact ok_val (v := .pointer (some ⟨q, off + 6, none⟩)) (by simp [execOp, go_sem, e96, hc]) ⟨Below.refl _ _, rfl⟩
   case o8 =>
    have e97 : ev (.tmp 97) = .pointer (some ⟨q, off + 6, none⟩) := hD 7 97 (by kernel_rfl)
    have m0 := (hG.cell (p := ⟨q, off + 6, none⟩) hq1).trans b0
    have m1 := (hG.cell (p := ⟨q, off + 7, none⟩) hq1).trans b1
    have m2 := (hG.cell (p := ⟨q, off + 8, none⟩) hq1).trans b2
    have m3 := (hG.cell (p := ⟨q, off + 9, none⟩) hq1).trans b3
    have m4 := (hG.cell (p := ⟨q, off + 10, none⟩) hq1).trans b4
    have m5 := (hG.cell (p := ⟨q, off + 11, none⟩) hq1).trans b5
    exact ok_val (v := .agg #[.int .i64 xb.op, .string (bs xb.name), .int .i64 xb.n, .int .i64 xb.w, .int .u64 xb.v, .slice pb xb.l.length cb]) (by simp [execOp, go_sem, e97, m0, m1, m2, m3, m4, m5]) ⟨Below.refl _ _, rfl⟩
   case o9 =>
    have e98 : ev (.tmp 98) = .agg #[.int .i64 xb.op, .string (bs xb.name), .int .i64 xb.n, .int .i64 xb.w, .int .u64 xb.v, .slice pb xb.l.length cb] := hD 8 98 (by kernel_rfl)
    refine ok_call (f := 56) (args := #[.agg #[.int .i64 xb.op, .string (bs xb.name), .int .i64 xb.n, .int .i64 xb.w, .int .u64 xb.v, .slice pb xb.l.length cb]]) (by simp [execOp, go_sem, hc, hf, e98]) ?_
    have hlo' := Nat.le_trans hlo1 hG.size
    refine (ihb W' lo _ hlo' (XR.later hG _ _ Xb)).mono ?_
    rintro e W2 ⟨f, rfl, h1, h2⟩
    refine ⟨f, rfl, h2, ?_⟩
    show Seq lo W2 f (exprT (xb))
    exact h1
   case o10 =>
    have s99 : Seq lo W' (ev (.tmp 99)) (exprT (xb)) := hD 9 99 (by kernel_rfl)
    refine ok_call (f := 95) (args := #[.string { data := #[123, 125] }, ev (.tmp 99)]) (by simp [execOp, go_sem, hc, hf]) ?_
    have hlo' := Nat.le_trans hlo1 hG.size
    refine (in_any 123 125 _ _ W' lo hlo' s99).mono ?_
    rintro e W2 ⟨f, rfl, h1, h2⟩
    refine ⟨f, rfl, h2, ?_⟩
    show Seq lo W2 f (inT 123 125 (exprT (xb)))
    exact h1
   case o11 =>
    obtain ⟨g94, l94, e94, s94⟩ := seq_form (show Seq lo W' (ev (.tmp 94)) (exprT (xa)) from hD 4 94 (by kernel_rfl))
    obtain ⟨g100, l100, e100, s100⟩ := seq_form (show Seq lo W' (ev (.tmp 100)) (inT 123 125 (exprT (xb))) from hD 10 100 (by kernel_rfl))
    have hn := seqs_new (lo := lo) (W := W') (fs := [.func (.func g94) #[] l94, .func (.func g100) #[] l100]) (ls := [exprT (xa), inT 123 125 (exprT (xb))]) ⟨s94, s100, trivial⟩ (Nat.le_trans hlo1 hG.size)
    exact ok_new (v := .slice (some ⟨W'.heap.size, 0, none⟩) 2 2) (W' := W'.alloc (.cells #[.func (.func g94) #[] l94, .func (.func g100) #[] l100] 79)) (by simp [execOp, go_sem, e94, e100]) ⟨hn.2, hn.1⟩
   case o12 =>
    have s101 : Seqs lo W' (ev (.tmp 101)) [exprT (xa), inT 123 125 (exprT (xb))] := hD 11 101 (by kernel_rfl)
    refine ok_call (f := 91) (args := #[ev (.tmp 101)]) (by simp [execOp, go_sem, hc, hf]) ?_
    have hlo' := Nat.le_trans hlo1 hG.size
    refine (row_any _ _ (by simp) W' lo hlo' s101).mono ?_
    rintro e W2 ⟨f, rfl, h1, h2⟩
    refine ⟨f, rfl, h2, ?_⟩
    show Seq lo W2 f (List.flatten [exprT (xa), inT 123 125 (exprT (xb))])
    exact h1
   case o13 =>
    have s102 : Seq lo W' (ev (.tmp 102)) (List.flatten [exprT (xa), inT 123 125 (exprT (xb))]) := hD 12 102 (by kernel_rfl)
    refine ok_call (f := 95) (args := #[.string { data := #[123, 125] }, ev (.tmp 102)]) (by simp [execOp, go_sem, hc, hf]) ?_
    have hlo' := Nat.le_trans hlo1 hG.size
    refine (in_any 123 125 _ _ W' lo hlo' s102).mono ?_
    rintro e W2 ⟨f, rfl, h1, h2⟩
    refine ⟨f, rfl, h2, ?_⟩
    show Seq lo W2 f (inT 123 125 (List.flatten [exprT (xa), inT 123 125 (exprT (xb))]))
    exact h1
   case o14 =>
    have s103 : Seq lo W' (ev (.tmp 103)) (inT 123 125 (List.flatten [exprT (xa), inT 123 125 (exprT (xb))])) := hD 13 103 (by kernel_rfl)
    exact ok_val (v := ev (.tmp 103)) (by simp [execOp, go_sem]) ⟨Below.refl _ _, s103⟩
  case hfin =>
   intro zz W' hG hzz
   have h9 : Seq lo W' (zz 14) (inT 123 125 (List.flatten [exprT (xa), inT 123 125 (exprT (xb))])) := hzz 14 (by simp)
   simp only [putAll, Act.put, List.setIfInBounds_toArray, List.set_cons_zero, List.set_cons_succ]
   go_wp2_with fail
   go_ret
   refine ⟨_, rfl, ?_, hW1.out.trans (Below.mono hG (by omega))⟩
   rw [exprT_9]; exact h9
theorem expr_ext31 (name : Ln) (W : World) (lo : Nat) (hlo : lo ≤ W.heap.size) (l : List X) (hll : l.length ≤ 1000000) (p : Option Addr) (cap : Nat) (hXs0 : XsR W (.slice p l.length cap) l) (ih : ∀ y ∈ l, ExprOK y) :
  Calls Tryz.prog 56 #[.agg #[.int .i64 10, .string (bs name), .int .i64 31, .int .i64 0, .int .u64 0, .slice p l.length cap]] W (MkPost lo W (exprT (.mk 10 name 31 0 0 l))) := by
  go_enter Tryz.func56, Tryz.ntmps56
  go_wp2_with fail
  have hW1 := Lib.hid ((Below.refl W.heap.size W).alloc (Nat.le_refl _) (.cells #[.int .i64 10, .string (bs name), .int .i64 31, .int .i64 0, .int .u64 0, .slice p l.length cap] 28))
  have hbx := World.alloc_heap_new W (.cells #[.int .i64 10, .string (bs name), .int .i64 31, .int .i64 0, .int .u64 0, .slice p l.length cap] 28)
  have hls := World.size_alloc W (.cells #[.int .i64 10, .string (bs name), .int .i64 31, .int .i64 0, .int .u64 0, .slice p l.length cap] 28)
  generalize W.alloc (.cells #[.int .i64 10, .string (bs name), .int .i64 31, .int .i64 0, .int .u64 0, .slice p l.length cap] 28) = W1 at *
  have hbl : W.heap.size < W1.heap.size := by omega
  have hlo1 : lo ≤ W1.heap.size := by omega
  have hXs := XsR.later hXs0 hW1.out
  have y0 : W1.cell? ⟨W.heap.size, 0, none⟩ = some (.int .i64 10) := by simp [World.cell?, hbx]
  have y1 : W1.cell? ⟨W.heap.size, 1, none⟩ = some (.string (bs name)) := by simp [World.cell?, hbx]
  have y2 : W1.cell? ⟨W.heap.size, 2, none⟩ = some (.int .i64 31) := by simp [World.cell?, hbx]
  have y3 : W1.cell? ⟨W.heap.size, 3, none⟩ = some (.int .i64 0) := by simp [World.cell?, hbx]
  have y4 : W1.cell? ⟨W.heap.size, 4, none⟩ = some (.int .u64 0) := by simp [World.cell?, hbx]
  have y5 : W1.cell? ⟨W.heap.size, 5, none⟩ = some (.slice p l.length cap) := by simp [World.cell?, hbx]
  clear hbx hls
  refine region_grow Grw (spcAt lo [.is (.agg #[.string { data := #[122, 101, 120, 116] }, .string { data := #[115, 101, 120, 116] }, .string { data := #[116, 114, 117, 110, 99] }]), .is (.pointer (some ⟨W.heap.size, 2, none⟩)), .is (.int .i64 31), .is (.int .i64 0), .is (.string (bs [122, 101, 120, 116])), .seq ([wdT [122, 101, 120, 116]]), .is (.pointer (some ⟨W.heap.size, 5, none⟩)), .is (.slice p l.length cap), .seq (listT (l)), .seq (inT 40 41 (listT (l))), .seqs [[wdT [122, 101, 120, 116]], inT 40 41 (listT (l))], .seq (List.flatten [[wdT [122, 101, 120, 116]], inT 40 41 (listT (l))]), .seq (List.flatten [[wdT [122, 101, 120, 116]], inT 40 41 (listT (l))])])
   (by kernel_rfl) rfl (by kernel_rfl) (by kernel_rfl) (grw_drawn _) grw_trans (spcAt_grw lo _) ?hops ?hfin
  case hops =>
   refine ⟨?o0, ?o1, ?o2, ?o3, ?o4, ?o5, ?o6, ?o7, ?o8, ?o9, ?o10, ?o11, ?o12, trivial⟩
   all_goals (intro ev W' hG hr hD; have hc := hr.const; have hf := hr.func)
   case o0 =>
    exact ok_val (v := .agg #[.string { data := #[122, 101, 120, 116] }, .string { data := #[115, 101, 120, 116] }, .string { data := #[116, 114, 117, 110, 99] }]) (by simp [execOp, go_sem, hc]; try rfl) ⟨Below.refl _ _, rfl⟩
   case o1 =>
    have e1 : ev (.tmp 1) = .pointer (some ⟨W.heap.size, 0, none⟩) := hr.tmp 1 (by kernel_rfl)
    exact ok_val (v := .pointer (some ⟨W.heap.size, 2, none⟩)) (by simp [execOp, go_sem, e1]) ⟨Below.refl _ _, rfl⟩
   case o2 =>
    have e105 : ev (.tmp 105) = .pointer (some ⟨W.heap.size, 2, none⟩) := hD 1 105 (by kernel_rfl)
    have m0 := (hG.cell (p := ⟨W.heap.size, 2, none⟩) hbl).trans y2
    exact ok_val (v := .int .i64 31) (by simp [execOp, go_sem, e105, m0]) ⟨Below.refl _ _, rfl⟩
   case o3 =>
    have e106 : ev (.tmp 106) = .int .i64 31 := hD 2 106 (by kernel_rfl)
    exact ok_val (v := .int .i64 0) (by simp [execOp, go_sem, hc, e106]; try rfl) ⟨Below.refl _ _, rfl⟩
   case o4 =>
    have e104 : ev (.tmp 104) = .agg #[.string { data := #[122, 101, 120, 116] }, .string { data := #[115, 101, 120, 116] }, .string { data := #[116, 114, 117, 110, 99] }] := hD 0 104 (by kernel_rfl)
    have e107 : ev (.tmp 107) = .int .i64 0 := hD 3 107 (by kernel_rfl)
    exact ok_val (v := .string (bs [122, 101, 120, 116])) (by simp [execOp, go_sem, hc, e104, e107]; try rfl) ⟨Below.refl _ _, rfl⟩
   case o5 =>
    have e108 : ev (.tmp 108) = .string (bs [122, 101, 120, 116]) := hD 4 108 (by kernel_rfl)
    refine ok_call (f := 92) (args := #[.string (bs [122, 101, 120, 116])]) (by simp [execOp, go_sem, hc, hf, e108]) ?_
    have hlo' := Nat.le_trans hlo1 hG.size
    refine (sword_any [122, 101, 120, 116] W' lo hlo').mono ?_
    rintro e W2 ⟨f, rfl, h1, h2⟩
    refine ⟨f, rfl, h2, ?_⟩
    show Seq lo W2 f ([wdT [122, 101, 120, 116]])
    exact h1
   case o6 =>
    have e1 : ev (.tmp 1) = .pointer (some ⟨W.heap.size, 0, none⟩) := hr.tmp 1 (by kernel_rfl)
    exact ok_val (v := .pointer (some ⟨W.heap.size, 5, none⟩)) (by simp [execOp, go_sem, e1]) ⟨Below.refl _ _, rfl⟩
   case o7 =>
    have e110 : ev (.tmp 110) = .pointer (some ⟨W.heap.size, 5, none⟩) := hD 6 110 (by kernel_rfl)
    have m0 := (hG.cell (p := ⟨W.heap.size, 5, none⟩) hbl).trans y5
    exact ok_val (v := .slice p l.length cap) (by simp [execOp, go_sem, e110, m0]) ⟨Below.refl _ _, rfl⟩
   case o8 =>
    have e111 : ev (.tmp 111) = .slice p l.length cap := hD 7 111 (by kernel_rfl)
    refine ok_call (f := 108) (args := #[.slice p l.length cap]) (by simp [execOp, go_sem, hc, hf, e111]) ?_
    have hlo' := Nat.le_trans hlo1 hG.size
    refine (list_any _ (l) hll W' lo hlo' (XsR.later hXs hG) ih).mono ?_
    rintro e W2 ⟨f, rfl, h1, h2⟩
    refine ⟨f, rfl, h2, ?_⟩
    show Seq lo W2 f (listT (l))
    exact h1
   case o9 =>
    have s112 : Seq lo W' (ev (.tmp 112)) (listT (l)) := hD 8 112 (by kernel_rfl)
    refine ok_call (f := 95) (args := #[.string { data := #[40, 41] }, ev (.tmp 112)]) (by simp [execOp, go_sem, hc, hf]) ?_
    have hlo' := Nat.le_trans hlo1 hG.size
    refine (in_any 40 41 _ _ W' lo hlo' s112).mono ?_
    rintro e W2 ⟨f, rfl, h1, h2⟩
    refine ⟨f, rfl, h2, ?_⟩
    show Seq lo W2 f (inT 40 41 (listT (l)))
    exact h1
   case o10 =>
    obtain ⟨g109, l109, e109, s109⟩ := seq_form (show Seq lo W' (ev (.tmp 109)) ([wdT [122, 101, 120, 116]]) from hD 5 109 (by kernel_rfl))
    obtain ⟨g113, l113, e113, s113⟩ := seq_form (show Seq lo W' (ev (.tmp 113)) (inT 40 41 (listT (l))) from hD 9 113 (by kernel_rfl))
    have hn := seqs_new (lo := lo) (W := W') (fs := [.func (.func g109) #[] l109, .func (.func g113) #[] l113]) (ls := [[wdT [122, 101, 120, 116]], inT 40 41 (listT (l))]) ⟨s109, s113, trivial⟩ (Nat.le_trans hlo1 hG.size)
    exact ok_new (v := .slice (some ⟨W'.heap.size, 0, none⟩) 2 2) (W' := W'.alloc (.cells #[.func (.func g109) #[] l109, .func (.func g113) #[] l113] 79)) (by simp [execOp, go_sem, e109, e113]) ⟨hn.2, hn.1⟩
   case o11 =>
    have s114 : Seqs lo W' (ev (.tmp 114)) [[wdT [122, 101, 120, 116]], inT 40 41 (listT (l))] := hD 10 114 (by kernel_rfl)
    refine ok_call (f := 91) (args := #[ev (.tmp 114)]) (by simp [execOp, go_sem, hc, hf]) ?_
    have hlo' := Nat.le_trans hlo1 hG.size
    refine (row_any _ _ (by simp) W' lo hlo' s114).mono ?_
    rintro e W2 ⟨f, rfl, h1, h2⟩
    refine ⟨f, rfl, h2, ?_⟩
    show Seq lo W2 f (List.flatten [[wdT [122, 101, 120, 116]], inT 40 41 (listT (l))])
    exact h1
   case o12 =>
    have s115 : Seq lo W' (ev (.tmp 115)) (List.flatten [[wdT [122, 101, 120, 116]], inT 40 41 (listT (l))]) := hD 11 115 (by kernel_rfl)
    exact ok_val (v := ev (.tmp 115)) (by simp [execOp, go_sem]) ⟨Below.refl _ _, s115⟩
  case hfin =>
   intro zz W' hG hzz
   have h9 : Seq lo W' (zz 12) (List.flatten [[wdT [122, 101, 120, 116]], inT 40 41 (listT (l))]) := hzz 12 (by simp)
   simp only [putAll, Act.put, List.setIfInBounds_toArray, List.set_cons_zero, List.set_cons_succ]
   go_wp2_with fail
   go_ret
   refine ⟨_, rfl, ?_, hW1.out.trans (Below.mono hG (by omega))⟩
   rw [exprT_10]; exact h9
theorem expr_ext32 (name : Ln) (W : World) (lo : Nat) (hlo : lo ≤ W.heap.size) (l : List X) (hll : l.length ≤ 1000000) (p : Option Addr) (cap : Nat) (hXs0 : XsR W (.slice p l.length cap) l) (ih : ∀ y ∈ l, ExprOK y) :
  Calls Tryz.prog 56 #[.agg #[.int .i64 10, .string (bs name), .int .i64 32, .int .i64 0, .int .u64 0, .slice p l.length cap]] W (MkPost lo W (exprT (.mk 10 name 32 0 0 l))) := by
  go_enter Tryz.func56, Tryz.ntmps56
  go_wp2_with fail
  have hW1 := Lib.hid ((Below.refl W.heap.size W).alloc (Nat.le_refl _) (.cells #[.int .i64 10, .string (bs name), .int .i64 32, .int .i64 0, .int .u64 0, .slice p l.length cap] 28))
  have hbx := World.alloc_heap_new W (.cells #[.int .i64 10, .string (bs name), .int .i64 32, .int .i64 0, .int .u64 0, .slice p l.length cap] 28)
  have hls := World.size_alloc W (.cells #[.int .i64 10, .string (bs name), .int .i64 32, .int .i64 0, .int .u64 0, .slice p l.length cap] 28)
  generalize W.alloc (.cells #[.int .i64 10, .string (bs name), .int .i64 32, .int .i64 0, .int .u64 0, .slice p l.length cap] 28) = W1 at *
  have hbl : W.heap.size < W1.heap.size := by omega
  have hlo1 : lo ≤ W1.heap.size := by omega
  have hXs := XsR.later hXs0 hW1.out
  have y0 : W1.cell? ⟨W.heap.size, 0, none⟩ = some (.int .i64 10) := by simp [World.cell?, hbx]
  have y1 : W1.cell? ⟨W.heap.size, 1, none⟩ = some (.string (bs name)) := by simp [World.cell?, hbx]
  have y2 : W1.cell? ⟨W.heap.size, 2, none⟩ = some (.int .i64 32) := by simp [World.cell?, hbx]
  have y3 : W1.cell? ⟨W.heap.size, 3, none⟩ = some (.int .i64 0) := by simp [World.cell?, hbx]
  have y4 : W1.cell? ⟨W.heap.size, 4, none⟩ = some (.int .u64 0) := by simp [World.cell?, hbx]
  have y5 : W1.cell? ⟨W.heap.size, 5, none⟩ = some (.slice p l.length cap) := by simp [World.cell?, hbx]
  clear hbx hls
  refine region_grow Grw (spcAt lo [.is (.agg #[.string { data := #[122, 101, 120, 116] }, .string { data := #[115, 101, 120, 116] }, .string { data := #[116, 114, 117, 110, 99] }]), .is (.pointer (some ⟨W.heap.size, 2, none⟩)), .is (.int .i64 32), .is (.int .i64 1), .is (.string (bs [115, 101, 120, 116])), .seq ([wdT [115, 101, 120, 116]]), .is (.pointer (some ⟨W.heap.size, 5, none⟩)), .is (.slice p l.length cap), .seq (listT (l)), .seq (inT 40 41 (listT (l))), .seqs [[wdT [115, 101, 120, 116]], inT 40 41 (listT (l))], .seq (List.flatten [[wdT [115, 101, 120, 116]], inT 40 41 (listT (l))]), .seq (List.flatten [[wdT [115, 101, 120, 116]], inT 40 41 (listT (l))])])
   (by kernel_rfl) rfl (by kernel_rfl) (by kernel_rfl) (grw_drawn _) grw_trans (spcAt_grw lo _) ?hops ?hfin
  case hops =>
   refine ⟨?o0, ?o1, ?o2, ?o3, ?o4, ?o5, ?o6, ?o7, ?o8, ?o9, ?o10, ?o11, ?o12, trivial⟩
   all_goals (intro ev W' hG hr hD; have hc := hr.const; have hf := hr.func)
   case o0 =>
    exact ok_val (v := .agg #[.string { data := #[122, 101, 120, 116] }, .string { data := #[115, 101, 120, 116] }, .string { data := #[116, 114, 117, 110, 99] }]) (by simp [execOp, go_sem, hc]; try rfl) ⟨Below.refl _ _, rfl⟩
   case o1 =>
    have e1 : ev (.tmp 1) = .pointer (some ⟨W.heap.size, 0, none⟩) := hr.tmp 1 (by kernel_rfl)
    exact ok_val (v := .pointer (some ⟨W.heap.size, 2, none⟩)) (by simp [execOp, go_sem, e1]) ⟨Below.refl _ _, rfl⟩
   case o2 =>
    have e105 : ev (.tmp 105) = .pointer (some ⟨W.heap.size, 2, none⟩) := hD 1 105 (by kernel_rfl)
    have m0 := (hG.cell (p := ⟨W.heap.size, 2, none⟩) hbl).trans y2
    exact ok_val (v := .int .i64 32) (by simp [execOp, go_sem, e105, m0]) ⟨Below.refl _ _, rfl⟩
   case o3 =>
    have e106 : ev (.tmp 106) = .int .i64 32 := hD 2 106 (by kernel_rfl)
    exact ok_val (v := .int .i64 1) (by simp [execOp, go_sem, hc, e106]; try rfl) ⟨Below.refl _ _, rfl⟩
   case o4 =>
    have e104 : ev (.tmp 104) = .agg #[.string { data := #[122, 101, 120, 116] }, .string { data := #[115, 101, 120, 116] }, .string { data := #[116, 114, 117, 110, 99] }] := hD 0 104 (by kernel_rfl)
    have e107 : ev (.tmp 107) = .int .i64 1 := hD 3 107 (by kernel_rfl)
    exact ok_val (v := .string (bs [115, 101, 120, 116])) (by simp [execOp, go_sem, hc, e104, e107]; try rfl) ⟨Below.refl _ _, rfl⟩
   case o5 =>
    have e108 : ev (.tmp 108) = .string (bs [115, 101, 120, 116]) := hD 4 108 (by kernel_rfl)
    refine ok_call (f := 92) (args := #[.string (bs [115, 101, 120, 116])]) (by simp [execOp, go_sem, hc, hf, e108]) ?_
    have hlo' := Nat.le_trans hlo1 hG.size
    refine (sword_any [115, 101, 120, 116] W' lo hlo').mono ?_
    rintro e W2 ⟨f, rfl, h1, h2⟩
    refine ⟨f, rfl, h2, ?_⟩
    show Seq lo W2 f ([wdT [115, 101, 120, 116]])
    exact h1
   case o6 =>
    have e1 : ev (.tmp 1) = .pointer (some ⟨W.heap.size, 0, none⟩) := hr.tmp 1 (by kernel_rfl)
    exact ok_val (v := .pointer (some ⟨W.heap.size, 5, none⟩)) (by simp [execOp, go_sem, e1]) ⟨Below.refl _ _, rfl⟩
   case o7 =>
    have e110 : ev (.tmp 110) = .pointer (some ⟨W.heap.size, 5, none⟩) := hD 6 110 (by kernel_rfl)
    have m0 := (hG.cell (p := ⟨W.heap.size, 5, none⟩) hbl).trans y5
    exact ok_val (v := .slice p l.length cap) (by simp [execOp, go_sem, e110, m0]) ⟨Below.refl _ _, rfl⟩
   case o8 =>
    have e111 : ev (.tmp 111) = .slice p l.length cap := hD 7 111 (by kernel_rfl)
    refine ok_call (f := 108) (args := #[.slice p l.length cap]) (by simp [execOp, go_sem, hc, hf, e111]) ?_
    have hlo' := Nat.le_trans hlo1 hG.size
    refine (list_any _ (l) hll W' lo hlo' (XsR.later hXs hG) ih).mono ?_
    rintro e W2 ⟨f, rfl, h1, h2⟩
    refine ⟨f, rfl, h2, ?_⟩
    show Seq lo W2 f (listT (l))
    exact h1
   case o9 =>
    have s112 : Seq lo W' (ev (.tmp 112)) (listT (l)) := hD 8 112 (by kernel_rfl)
    refine ok_call (f := 95) (args := #[.string { data := #[40, 41] }, ev (.tmp 112)]) (by simp [execOp, go_sem, hc, hf]) ?_
    have hlo' := Nat.le_trans hlo1 hG.size
    refine (in_any 40 41 _ _ W' lo hlo' s112).mono ?_
    rintro e W2 ⟨f, rfl, h1, h2⟩
    refine ⟨f, rfl, h2, ?_⟩
    show Seq lo W2 f (inT 40 41 (listT (l)))
    exact h1
   case o10 =>
    obtain ⟨g109, l109, e109, s109⟩ := seq_form (show Seq lo W' (ev (.tmp 109)) ([wdT [115, 101, 120, 116]]) from hD 5 109 (by kernel_rfl))
    obtain ⟨g113, l113, e113, s113⟩ := seq_form (show Seq lo W' (ev (.tmp 113)) (inT 40 41 (listT (l))) from hD 9 113 (by kernel_rfl))
    have hn := seqs_new (lo := lo) (W := W') (fs := [.func (.func g109) #[] l109, .func (.func g113) #[] l113]) (ls := [[wdT [115, 101, 120, 116]], inT 40 41 (listT (l))]) ⟨s109, s113, trivial⟩ (Nat.le_trans hlo1 hG.size)
    exact ok_new (v := .slice (some ⟨W'.heap.size, 0, none⟩) 2 2) (W' := W'.alloc (.cells #[.func (.func g109) #[] l109, .func (.func g113) #[] l113] 79)) (by simp [execOp, go_sem, e109, e113]) ⟨hn.2, hn.1⟩
   case o11 =>
    have s114 : Seqs lo W' (ev (.tmp 114)) [[wdT [115, 101, 120, 116]], inT 40 41 (listT (l))] := hD 10 114 (by kernel_rfl)
    refine ok_call (f := 91) (args := #[ev (.tmp 114)]) (by simp [execOp, go_sem, hc, hf]) ?_
    have hlo' := Nat.le_trans hlo1 hG.size
    refine (row_any _ _ (by simp) W' lo hlo' s114).mono ?_
    rintro e W2 ⟨f, rfl, h1, h2⟩
    refine ⟨f, rfl, h2, ?_⟩
    show Seq lo W2 f (List.flatten [[wdT [115, 101, 120, 116]], inT 40 41 (listT (l))])
    exact h1
   case o12 =>
    have s115 : Seq lo W' (ev (.tmp 115)) (List.flatten [[wdT [115, 101, 120, 116]], inT 40 41 (listT (l))]) := hD 11 115 (by kernel_rfl)
    exact ok_val (v := ev (.tmp 115)) (by simp [execOp, go_sem]) ⟨Below.refl _ _, s115⟩
  case hfin =>
   intro zz W' hG hzz
   have h9 : Seq lo W' (zz 12) (List.flatten [[wdT [115, 101, 120, 116]], inT 40 41 (listT (l))]) := hzz 12 (by simp)
   simp only [putAll, Act.put, List.setIfInBounds_toArray, List.set_cons_zero, List.set_cons_succ]
   go_wp2_with fail
   go_ret
   refine ⟨_, rfl, ?_, hW1.out.trans (Below.mono hG (by omega))⟩
   rw [exprT_10]; exact h9
theorem expr_ext33 (name : Ln) (W : World) (lo : Nat) (hlo : lo ≤ W.heap.size) (l : List X) (hll : l.length ≤ 1000000) (p : Option Addr) (cap : Nat) (hXs0 : XsR W (.slice p l.length cap) l) (ih : ∀ y ∈ l, ExprOK y) :
  Calls Tryz.prog 56 #[.agg #[.int .i64 10, .string (bs name), .int .i64 33, .int .i64 0, .int .u64 0, .slice p l.length cap]] W (MkPost lo W (exprT (.mk 10 name 33 0 0 l))) := by
  go_enter Tryz.func56, Tryz.ntmps56
  go_wp2_with fail
  have hW1 := Lib.hid ((Below.refl W.heap.size W).alloc (Nat.le_refl _) (.cells #[.int .i64 10, .string (bs name), .int .i64 33, .int .i64 0, .int .u64 0, .slice p l.length cap] 28))
  have hbx := World.alloc_heap_new W (.cells #[.int .i64 10, .string (bs name), .int .i64 33, .int .i64 0, .int .u64 0, .slice p l.length cap] 28)
  have hls := World.size_alloc W (.cells #[.int .i64 10, .string (bs name), .int .i64 33, .int .i64 0, .int .u64 0, .slice p l.length cap] 28)
  generalize W.alloc (.cells #[.int .i64 10, .string (bs name), .int .i64 33, .int .i64 0, .int .u64 0, .slice p l.length cap] 28) = W1 at *
  have hbl : W.heap.size < W1.heap.size := by omega
  have hlo1 : lo ≤ W1.heap.size := by omega
  have hXs := XsR.later hXs0 hW1.out
  have y0 : W1.cell? ⟨W.heap.size, 0, none⟩ = some (.int .i64 10) := by simp [World.cell?, hbx]
  have y1 : W1.cell? ⟨W.heap.size, 1, none⟩ = some (.string (bs name)) := by simp [World.cell?, hbx]
  have y2 : W1.cell? ⟨W.heap.size, 2, none⟩ = some (.int .i64 33) := by simp [World.cell?, hbx]
  have y3 : W1.cell? ⟨W.heap.size, 3, none⟩ = some (.int .i64 0) := by simp [World.cell?, hbx]
  have y4 : W1.cell? ⟨W.heap.size, 4, none⟩ = some (.int .u64 0) := by simp [World.cell?, hbx]
  have y5 : W1.cell? ⟨W.heap.size, 5, none⟩ = some (.slice p l.length cap) := by simp [World.cell?, hbx]
  clear hbx hls
  refine region_grow Grw (spcAt lo [.is (.agg #[.string { data := #[122, 101, 120, 116] }, .string { data := #[115, 101, 120, 116] }, .string { data := #[116, 114, 117, 110, 99] }]), .is (.pointer (some ⟨W.heap.size, 2, none⟩)), .is (.int .i64 33), .is (.int .i64 2), .is (.string (bs [116, 114, 117, 110, 99])), .seq ([wdT [116, 114, 117, 110, 99]]), .is (.pointer (some ⟨W.heap.size, 5, none⟩)), .is (.slice p l.length cap), .seq (listT (l)), .seq (inT 40 41 (listT (l))), .seqs [[wdT [116, 114, 117, 110, 99]], inT 40 41 (listT (l))], .seq (List.flatten [[wdT [116, 114, 117, 110, 99]], inT 40 41 (listT (l))]), .seq (List.flatten [[wdT [116, 114, 117, 110, 99]], inT 40 41 (listT (l))])])
   (by kernel_rfl) rfl (by kernel_rfl) (by kernel_rfl) (grw_drawn _) grw_trans (spcAt_grw lo _) ?hops ?hfin
  case hops =>
   refine ⟨?o0, ?o1, ?o2, ?o3, ?o4, ?o5, ?o6, ?o7, ?o8, ?o9, ?o10, ?o11, ?o12, trivial⟩
   all_goals (intro ev W' hG hr hD; have hc := hr.const; have hf := hr.func)
   case o0 =>
    exact ok_val (v := .agg #[.string { data := #[122, 101, 120, 116] }, .string { data := #[115, 101, 120, 116] }, .string { data := #[116, 114, 117, 110, 99] }]) (by simp [execOp, go_sem, hc]; try rfl) ⟨Below.refl _ _, rfl⟩
   case o1 =>
    have e1 : ev (.tmp 1) = .pointer (some ⟨W.heap.size, 0, none⟩) := hr.tmp 1 (by kernel_rfl)
    exact ok_val (v := .pointer (some ⟨W.heap.size, 2, none⟩)) (by simp [execOp, go_sem, e1]) ⟨Below.refl _ _, rfl⟩
   case o2 =>
    have e105 : ev (.tmp 105) = .pointer (some ⟨W.heap.size, 2, none⟩) := hD 1 105 (by kernel_rfl)
    have m0 := (hG.cell (p := ⟨W.heap.size, 2, none⟩) hbl).trans y2
    exact ok_val (v := .int .i64 33) (by simp [execOp, go_sem, e105, m0]) ⟨Below.refl _ _, rfl⟩
   case o3 =>
    have e106 : ev (.tmp 106) = .int .i64 33 := hD 2 106 (by kernel_rfl)
    exact ok_val (v := .int .i64 2) (by simp [execOp, go_sem, hc, e106]; try rfl) ⟨Below.refl _ _, rfl⟩
   case o4 =>
    have e104 : ev (.tmp 104) = .agg #[.string { data := #[122, 101, 120, 116] }, .string { data := #[115, 101, 120, 116] }, .string { data := #[116, 114, 117, 110, 99] }] := hD 0 104 (by kernel_rfl)
    have e107 : ev (.tmp 107) = .int .i64 2 := hD 3 107 (by kernel_rfl)
    exact ok_val (v := .string (bs [116, 114, 117, 110, 99])) (by simp [execOp, go_sem, hc, e104, e107]; try rfl) ⟨Below.refl _ _, rfl⟩
   case o5 =>
    have e108 : ev (.tmp 108) = .string (bs [116, 114, 117, 110, 99]) := hD 4 108 (by kernel_rfl)
    refine ok_call (f := 92) (args := #[.string (bs [116, 114, 117, 110, 99])]) (by simp [execOp, go_sem, hc, hf, e108]) ?_
    have hlo' := Nat.le_trans hlo1 hG.size
    refine (sword_any [116, 114, 117, 110, 99] W' lo hlo').mono ?_
    rintro e W2 ⟨f, rfl, h1, h2⟩
    refine ⟨f, rfl, h2, ?_⟩
    show Seq lo W2 f ([wdT [116, 114, 117, 110, 99]])
    exact h1
   case o6 =>
    have e1 : ev (.tmp 1) = .pointer (some ⟨W.heap.size, 0, none⟩) := hr.tmp 1 (by kernel_rfl)
    exact ok_val (v := .pointer (some ⟨W.heap.size, 5, none⟩)) (by simp [execOp, go_sem, e1]) ⟨Below.refl _ _, rfl⟩
   case o7 =>
    have e110 : ev (.tmp 110) = .pointer (some ⟨W.heap.size, 5, none⟩) := hD 6 110 (by kernel_rfl)
    have m0 := (hG.cell (p := ⟨W.heap.size, 5, none⟩) hbl).trans y5
    exact ok_val (v := .slice p l.length cap) (by simp [execOp, go_sem, e110, m0]) ⟨Below.refl _ _, rfl⟩
   case o8 =>
    have e111 : ev (.tmp 111) = .slice p l.length cap := hD 7 111 (by kernel_rfl)
    refine ok_call (f := 108) (args := #[.slice p l.length cap]) (by simp [execOp, go_sem, hc, hf, e111]) ?_
    have hlo' := Nat.le_trans hlo1 hG.size
    refine (list_any _ (l) hll W' lo hlo' (XsR.later hXs hG) ih).mono ?_
    rintro e W2 ⟨f, rfl, h1, h2⟩
    refine ⟨f, rfl, h2, ?_⟩
    show Seq lo W2 f (listT (l))
    exact h1
   case o9 =>
    have s112 : Seq lo W' (ev (.tmp 112)) (listT (l)) := hD 8 112 (by kernel_rfl)
    refine ok_call (f := 95) (args := #[.string { data := #[40, 41] }, ev (.tmp 112)]) (by simp [execOp, go_sem, hc, hf]) ?_
    have hlo' := Nat.le_trans hlo1 hG.size
    refine (in_any 40 41 _ _ W' lo hlo' s112).mono ?_
    rintro e W2 ⟨f, rfl, h1, h2⟩
    refine ⟨f, rfl, h2, ?_⟩
    show Seq lo W2 f (inT 40 41 (listT (l)))
    exact h1
   case o10 =>
    obtain ⟨g109, l109, e109, s109⟩ := seq_form (show Seq lo W' (ev (.tmp 109)) ([wdT [116, 114, 117, 110, 99]]) from hD 5 109 (by kernel_rfl))
    obtain ⟨g113, l113, e113, s113⟩ := seq_form (show Seq lo W' (ev (.tmp 113)) (inT 40 41 (listT (l))) from hD 9 113 (by kernel_rfl))
    have hn := seqs_new (lo := lo) (W := W') (fs := [.func (.func g109) #[] l109, .func (.func g113) #[] l113]) (ls := [[wdT [116, 114, 117, 110, 99]], inT 40 41 (listT (l))]) ⟨s109, s113, trivial⟩ (Nat.le_trans hlo1 hG.size)
    exact ok_new (v := .slice (some ⟨W'.heap.size, 0, none⟩) 2 2) (W' := W'.alloc (.cells #[.func (.func g109) #[] l109, .func (.func g113) #[] l113] 79)) (by simp [execOp, go_sem, e109, e113]) ⟨hn.2, hn.1⟩
   case o11 =>
    have s114 : Seqs lo W' (ev (.tmp 114)) [[wdT [116, 114, 117, 110, 99]], inT 40 41 (listT (l))] := hD 10 114 (by kernel_rfl)
    refine ok_call (f := 91) (args := #[ev (.tmp 114)]) (by simp [execOp, go_sem, hc, hf]) ?_
    have hlo' := Nat.le_trans hlo1 hG.size
    refine (row_any _ _ (by simp) W' lo hlo' s114).mono ?_
    rintro e W2 ⟨f, rfl, h1, h2⟩
    refine ⟨f, rfl, h2, ?_⟩
    show Seq lo W2 f (List.flatten [[wdT [116, 114, 117, 110, 99]], inT 40 41 (listT (l))])
    exact h1
   case o12 =>
    have s115 : Seq lo W' (ev (.tmp 115)) (List.flatten [[wdT [116, 114, 117, 110, 99]], inT 40 41 (listT (l))]) := hD 11 115 (by kernel_rfl)
    exact ok_val (v := ev (.tmp 115)) (by simp [execOp, go_sem]) ⟨Below.refl _ _, s115⟩
  case hfin =>
   intro zz W' hG hzz
   have h9 : Seq lo W' (zz 12) (List.flatten [[wdT [116, 114, 117, 110, 99]], inT 40 41 (listT (l))]) := hzz 12 (by simp)
   simp only [putAll, Act.put, List.setIfInBounds_toArray, List.set_cons_zero, List.set_cons_succ]
   go_wp2_with fail
   go_ret
   refine ⟨_, rfl, ?_, hW1.out.trans (Below.mono hG (by omega))⟩
   rw [exprT_10]; exact h9
theorem expr_num (name : Ln) (n w : Int) (v : Nat) (l : List X) (k : Nat) (W : World) (lo : Nat) (hlo : lo ≤ W.heap.size) (p : Option Addr) (cap : Nat) :
  Calls Tryz.prog 56 #[.agg #[.int .i64 1, .string (bs name), .int .i64 n, .int .i64 w, .int .u64 v, .slice p k cap]] W (MkPost lo W (exprT (.mk 1 name n w v l))) := by
 go_enter Tryz.func56, Tryz.ntmps56
 go_wp2
 go_ret
 refine ⟨_, rfl, ?_, (Below.refl _ _).alloc (Nat.le_refl _) _⟩
 rw [exprT_1]
 have hbx := World.alloc_heap_new W (.cells #[.int .i64 1, .string (bs name), .int .i64 n, .int .i64 w, .int .u64 v, .slice p k cap] 28)
 exact expr1_seq lo _ W.heap.size hlo #[] w v (by simp) (cell_of_row _ _ 3 _ _ (0, 0) hbx) (cell_of_row _ _ 4 _ _ (0, 0) hbx)
theorem expr_name (name : Ln) (n w : Int) (v : Nat) (l : List X) (k : Nat) (W : World) (lo : Nat) (hlo : lo ≤ W.heap.size) (p : Option Addr) (cap : Nat) :
  Calls Tryz.prog 56 #[.agg #[.int .i64 2, .string (bs name), .int .i64 n, .int .i64 w, .int .u64 v, .slice p k cap]] W (MkPost lo W (exprT (.mk 2 name n w v l))) := by
 go_enter Tryz.func56, Tryz.ntmps56
 go_wp2_with (go_at_call 93; refine (sname_any name _ lo (Nat.le_trans hlo (by simp))).mono ?_; rintro e W2 ⟨f, rfl, h1, h2⟩; have H1 := Lib.hid h1; have H2 := Lib.hid h2; clear h1 h2)
 go_ret
 exact ⟨_, rfl, (by rw [exprT_2]; exact H1.out), ((Below.refl _ _).alloc (Nat.le_refl _) _).trans (H2.out.mono (by simp))⟩
theorem expr_cat (name : Ln) (n : Int) (W : World) (lo : Nat) (hlo : lo ≤ W.heap.size) (l : List X) (hll : l.length ≤ 1000000) (p : Option Addr) (cap : Nat) (hXs0 : XsR W (.slice p l.length cap) l) (ih : ∀ y ∈ l, ExprOK y) :
  Calls Tryz.prog 56 #[.agg #[.int .i64 8, .string (bs name), .int .i64 n, .int .i64 0, .int .u64 0, .slice p l.length cap]] W (MkPost lo W (exprT (.mk 8 name n 0 0 l))) := by
 have HX := Lib.hid hXs0
 have HI := Lib.hid ih
 have HP := Lib.hid (fun (W9 : World) (f : Value) (h1 : lo ≤ W9.heap.size) (h2 : Seq lo W9 f (listT l)) => in_any 123 125 f (listT l) W9 lo h1 h2)
 clear hXs0 ih
 go_enter Tryz.func56, Tryz.ntmps56
 go_wp2_with (first
  | (go_at_call 108; refine (list_any _ l hll _ lo (Nat.le_trans hlo (by simp)) (XsR.later HX.out ((Below.refl _ _).alloc (Nat.le_refl _) _)) HI.out).mono ?_; rintro e W3 ⟨f, rfl, h1, h2⟩; have H3 := Lib.hid h1; have H4 := Lib.hid h2; clear h1 h2)
  | (go_at_call 95; refine (HP.out W3 _ (Nat.le_trans hlo (Nat.le_trans (by simp) H4.out.size)) H3.out).mono ?_; rintro e W5 ⟨f, rfl, h1, h2⟩; have H5 := Lib.hid h1; have H6 := Lib.hid h2; clear h1 h2))
 go_ret
 exact ⟨_, rfl, (by rw [exprT_8]; exact H5.out), ((Below.refl _ _).alloc (Nat.le_refl _) _).trans ((H4.out.trans (H6.out.mono H4.out.size)).mono (by simp))⟩
theorem expr_ok : ∀ x : X, okX x = true → sizeX x ≤ 1000000 → ExprOK x := by
 refine X.ind ?_
 intro x ih hx hsz W lo cs hlo hR
 obtain ⟨op, name, n, w, v, l⟩ := x
 obtain ⟨hv, ls, rfl, hL⟩ := XR_iff.1 hR
 have hx' := hx
 rw [okX_iff, Bool.and_eq_true, List.all_eq_true] at hx'
 obtain ⟨h0, hl⟩ := hx'
 rw [sizeX_eq] at hsz
 simp only [X.op, X.name, X.n, X.w, X.v, X.l, okNode, Bool.and_eq_true] at *
 obtain ⟨⟨⟨hn, hp⟩, hu⟩, hvv⟩ := h0
 have hE : ∀ y ∈ l, ExprOK y := fun y hy => ih y hy (hl y hy) (by have := sumN_mem sizeX hy; rw [sizeXs_sum] at hsz; omega)
 have hll : l.length ≤ 1000000 := by have := sumN_len sizeX one_sizeX l; rw [sizeXs_sum] at hsz; omega
 have hXs0 := hL
 obtain ⟨p, cap, rfl, hcap, hcell⟩ := hL
 rcases parts_cases hp with e | e | e | e | e | e | e | e | e | e <;> subst e
 ·exact expr_num name n w v l l.length W lo hlo p cap
 all_goals (have hwv : w = 0 ∧ v = 0 := by simpa [valueO] using hvv)
 all_goals (obtain ⟨rfl, rfl⟩ := hwv)
 ·exact expr_name name n 0 0 l l.length W lo hlo p cap
 ·exact expr_slice name n W lo hlo l hll p cap hXs0 hE
 ·exact expr_index name n W lo hlo l hll p cap hXs0 hE
 ·have : l.length = 1 := by simpa [partsO] using hp
  match l, this with
  | [xa], _ =>
   rcases hcell with hc | ⟨q, off, rfl, hq, hrw⟩
   ·cases hc
   have za : XAt W q off xa := kidsX hrw 0 xa rfl
   have hn' : 1 ≤ n ∧ n ≤ 6 := by simpa [numberO] using hu
   have hn6 : n = 1 ∨ n = 2 ∨ n = 3 ∨ n = 4 ∨ n = 5 ∨ n = 6 := by omega
   have ha := hl xa (by simp)
   have ea := hE xa (by simp)
   rcases hn6 with e | e | e | e | e | e <;> subst e
   ·exact expr_un1 name W lo hlo xa q off cap hq hXs0 ha ea za
   ·exact expr_un2 name W lo hlo xa q off cap hq hXs0 ha ea za
   ·exact expr_un3 name W lo hlo xa q off cap hq hXs0 ha ea za
   ·exact expr_un4 name W lo hlo xa q off cap hq hXs0 ha ea za
   ·exact expr_un5 name W lo hlo xa q off cap hq hXs0 ha ea za
   ·exact expr_un6 name W lo hlo xa q off cap hq hXs0 ha ea za
 ·have : l.length = 2 := by simpa [partsO] using hp
  match l, this with
  | [xa, xb], _ =>
   rcases hcell with hc | ⟨q, off, rfl, hq, hrw⟩
   ·cases hc
   have za : XAt W q off xa := kidsX hrw 0 xa rfl
   have zb : XAt W q (off + 6) xb := kidsX hrw 1 xb rfl
   have hn' : 11 ≤ n ∧ n ≤ 26 := by simpa [numberO] using hu
   exact expr_bin name n hn'.1 hn'.2 W lo hlo xa xb q off cap hq hXs0 (hl xa (by simp)) (hE xa (by simp)) za (hl xb (by simp)) (hE xb (by simp)) zb
 ·have : l.length = 3 := by simpa [partsO] using hp
  match l, this with
  | [xa, xb, xc], _ =>
   rcases hcell with hc | ⟨q, off, rfl, hq, hrw⟩
   ·cases hc
   have za : XAt W q off xa := kidsX hrw 0 xa rfl
   have zb : XAt W q (off + 6) xb := kidsX hrw 1 xb rfl
   have zc : XAt W q (off + 12) xc := kidsX hrw 2 xc rfl
   exact expr_cond name n W lo hlo xa xb xc q off cap hq hXs0 (hl xa (by simp)) (hE xa (by simp)) za (hl xb (by simp)) (hE xb (by simp)) zb (hl xc (by simp)) (hE xc (by simp)) zc
 ·exact expr_cat name n W lo hlo l hll p cap hXs0 hE
 ·have : l.length = 2 := by simpa [partsO] using hp
  match l, this with
  | [xa, xb], _ =>
   rcases hcell with hc | ⟨q, off, rfl, hq, hrw⟩
   ·cases hc
   have za : XAt W q off xa := kidsX hrw 0 xa rfl
   have zb : XAt W q (off + 6) xb := kidsX hrw 1 xb rfl
   exact expr_rep name n W lo hlo xa xb q off cap hq hXs0 (hl xa (by simp)) (hE xa (by simp)) za (hl xb (by simp)) (hE xb (by simp)) zb
 ·have hn' : 31 ≤ n ∧ n ≤ 33 := by simpa [numberO] using hu
  have hn3 : n = 31 ∨ n = 32 ∨ n = 33 := by omega
  rcases hn3 with e | e | e <;> subst e
  ·exact expr_ext31 name W lo hlo l hll p cap hXs0 hE
  ·exact expr_ext32 name W lo hlo l hll p cap hXs0 hE
  ·exact expr_ext33 name W lo hlo l hll p cap hXs0 hE
end Go.Proofs.YtlcfpdmicpggbaaGreatDoor
