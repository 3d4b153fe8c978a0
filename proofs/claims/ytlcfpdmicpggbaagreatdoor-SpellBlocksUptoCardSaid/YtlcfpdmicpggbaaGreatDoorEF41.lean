/- Texts of the seat, merged. -/
import Derived.Test.YtlcfpdmicpggbaaGreatDoorQ16
set_option linter.unusedVariables false
set_option linter.unusedSimpArgs false
set_option maxRecDepth 100000
set_option maxHeartbeats 16000000
namespace Go.Proofs.Spl
open Go.Proofs.Scn
theorem maxN_mem {α : Type} (f : α → Nat) {l : List α} {x : α} (h : x ∈ l) : f x ≤ maxN f l := by
 induction l with
 | nil => cases h
 | cons a l ih =>
  have e : maxN f (a :: l) = max (f a) (maxN f l) := rfl
  rcases List.mem_cons.1 h with rfl | h
  ·omega
  ·have := ih h; omega
end Go.Proofs.Spl
namespace Go.Proofs.YtlcfpdmicpggbaaGreatDoor
open Go.RowKit Go.Proofs.Scn Go.Flow Go.Sort
theorem cellsTs_length (ts : List Tok) : (cellsTs ts).length = ts.length * 5 := by
 induction ts with
 | nil => rfl
 | cons t ts ih => rw [cellsTs, List.flatMap_cons, List.length_append, show (List.flatMap cellsT ts) = cellsTs ts from rfl, ih, List.length_cons]; simp [cellsT]; omega
end Go.Proofs.YtlcfpdmicpggbaaGreatDoor
namespace Go.Proofs.YtlcfpdmicpggbaaGreatDoor
open Go.RowKit Go.Proofs.Scn Go.Flow Go.Sort
theorem equal_len (p1 p2 : Option Addr) (l1 l2 c1 c2 : Nat) (h : l1 ≠ l2) (W : World) :
  Calls Tryz.prog 22 #[.slice p1 l1 c1, .slice p2 l2 c2] W fun e W' => e = .returned (.bool false) ∧ Below W.heap.size W W' := by
 have hh : ¬ (l1 : Int) = (l2 : Int) := by omega
 go_enter Tryz.func22, Tryz.ntmps22
 go_wp2
 go_ret
 exact ⟨rfl, Below.refl _ _⟩
theorem tok_neq (x y : Tok) (w : World) : (binOp .neq 55 (.agg #[.int .i64 x.k, .string (bs x.s), .int .i64 x.w, .int .u64 x.v, .int .i64 x.p]) (.agg #[.int .i64 y.k, .string (bs y.s), .int .i64 y.w, .int .u64 y.v, .int .i64 y.p])).run Tryz.prog w = .ok (.bool (!decide (x = y))) w := by
 rw [run_neq_struct]
 simp [go_sem]
 rw [toList_eq, toList_eq, list_bs, list_bs]
 obtain ⟨k, s, w1, v, p⟩ := x
 obtain ⟨k', s', w1', v', p'⟩ := y
 simp only [Tok.mk.injEq]
 by_cases h1 : k = k'
 ·by_cases h2 : s = s'
  ·by_cases h3 : w1 = w1'
   ·by_cases h4 : v = v'
    ·by_cases h5 : p = p'
     ·simp [h1, h2, h3, h4, h5]
     ·simp [h1, h2, h3, h4, h5]
    ·have : ¬ (v : Int) = (v' : Int) := by omega
     simp [h1, h2, h3, h4, this]
   ·simp [h1, h2, h3]
  ·simp [h1, h2]
 ·simp [h1]
theorem equal_some (b1 o1 c1 b2 o2 c2 : Nat) (xs ys : List Tok) (hl : xs.length = ys.length) (hxl : xs.length ≤ 140737488351232) (W : World)
  (hx : ∀ k (h : k < xs.length), TokAt W b1 (o1 + k * 5) xs[k]) (hy : ∀ k (h : k < ys.length), TokAt W b2 (o2 + k * 5) ys[k]) (hb1 : b1 < W.heap.size) (hb2 : b2 < W.heap.size) :
  Calls Tryz.prog 22 #[.slice (some ⟨b1, o1, none⟩) xs.length c1, .slice (some ⟨b2, o2, none⟩) ys.length c2] W fun e W' => e = .returned (.bool (decide (xs = ys))) ∧ Below W.heap.size W W' := by
 have HX := Lib.hid hx
 have HY := Lib.hid hy
 have hll : (xs.length : Int) = (ys.length : Int) := by omega
 have HLL := Lib.hid hl
 clear hx hy hl
 go_enter Tryz.func22, Tryz.ntmps22
 go_wp2
 go_loopw [5] (fun i wr => ∃ k : Nat, k ≤ xs.length ∧ i = .int .i64 k ∧ Hid (Below W.heap.size W wr) ∧ Hid (xs.take k = ys.take k)) (fun i _ => xs.length - (intOf i).toNat)
 case atStart => exact ⟨0, Nat.zero_le _, rfl, Lib.hid (Below.refl _ _), Lib.hid rfl⟩
 case round =>
  obtain ⟨k, hk, rfl, HB, HE⟩ := hrel
  by_cases hlt : k < xs.length
  ·have hly : k < ys.length := by omega
   have hX := (HX.out k hlt).later hb1 HB.out
   have hY := (HY.out k hly).later hb2 HB.out
   obtain ⟨x0, x1, x2, x3, x4⟩ := hX
   obtain ⟨y0, y1, y2, y3, y4⟩ := hY
   have hE : decide (xs[k] = ys[k]) = true → xs.take (k + 1) = ys.take (k + 1) := by
    intro he
    rw [List.take_succ_eq_append_getElem hlt, List.take_succ_eq_append_getElem hly, HE.out, of_decide_eq_true he]
   have hF : decide (xs[k] = ys[k]) = false → ¬ xs = ys := by
    intro he hxy
    subst hxy
    simp at he
   have hneq := tok_neq xs[k] ys[k]
   generalize xs[k] = x at *
   generalize ys[k] = y at *
   cases hxy : decide (x = y)
   ·rw [hxy] at hneq
    have HF := Lib.hid (hF hxy)
    clear hE hF hxy
    go_wp2_with fail
    go_quiet (fail)
    go_wp2_with fail
    go_ret
    exact ⟨by rw [decide_eq_false HF.out]; rfl, below_drewN HB.out _⟩
   ·rw [hxy] at hneq
    have HF := Lib.hid (hE hxy)
    clear hE hF hxy
    go_wp2_with fail
    go_quiet (fail)
    go_wp2_with fail
    go_roundw
    case rel => exact ⟨k + 1, by omega, by go_num, Lib.hid (below_drewN HB.out _), HF⟩
    case measure => simp [intOf]; omega
  ·have hge : ¬ k < ys.length := by omega
   have hxy : xs = ys := by
    have := HE.out
    rwa [List.take_of_length_le (by omega), List.take_of_length_le (by omega)] at this
   have HXY := Lib.hid hxy
   clear hxy
   go_wp2_with fail
   go_ret
   exact ⟨by rw [decide_eq_true HXY.out]; rfl, HB.out⟩
theorem equal_empty (p1 p2 : Option Addr) (c1 c2 : Nat) (W : World) :
  Calls Tryz.prog 22 #[.slice p1 0 c1, .slice p2 0 c2] W fun e W' => e = .returned (.bool true) ∧ Below W.heap.size W W' := by
 go_enter Tryz.func22, Tryz.ntmps22
 go_wp2
 refine wp_loop_rounds 1 ?_
 rw [rounds_succ]
 go_wp2
 go_ret
 exact ⟨rfl, Below.refl _ _⟩
theorem Toks.form {w : World} {v : Value} {ts : List Tok} (h : Toks w v ts) : ∃ p c, v = .slice p ts.length c := by
 rcases h with ⟨rfl, p, c, rfl⟩ | ⟨b, o, c, rfl, _⟩
 ·exact ⟨_, _, rfl⟩
 ·exact ⟨_, _, rfl⟩
theorem equal_any (v1 v2 : Value) (xs ys : List Tok) (hxl : xs.length ≤ 140737488351232) (W : World) (h1 : Toks W v1 xs) (h2 : Toks W v2 ys) :
  Calls Tryz.prog 22 #[v1, v2] W fun e W' => e = .returned (.bool (decide (xs = ys))) ∧ Below W.heap.size W W' := by
 by_cases hl : xs.length = ys.length
 ·by_cases h0 : xs.length = 0
  ·obtain ⟨p1, c1, rfl⟩ := h1.form
   obtain ⟨p2, c2, rfl⟩ := h2.form
   have hx : xs = [] := List.eq_nil_of_length_eq_zero h0
   have hy : ys = [] := List.eq_nil_of_length_eq_zero (by omega)
   subst hx
   subst hy
   exact equal_empty p1 p2 c1 c2 W
  ·rcases h1 with ⟨rfl, _⟩ | ⟨b1, o1, c1, rfl, hb1, hc1⟩
   ·simp at h0
   rcases h2 with ⟨rfl, _⟩ | ⟨b2, o2, c2, rfl, hb2, hc2⟩
   ·simp at hl; simp [hl] at h0
   exact equal_some b1 o1 c1 b2 o2 c2 xs ys hl hxl W hc1 hc2 hb1 hb2
 ·obtain ⟨p1, c1, rfl⟩ := h1.form
  obtain ⟨p2, c2, rfl⟩ := h2.form
  rw [decide_eq_false (fun h => hl (by rw [h]))]
  exact equal_len p1 p2 _ _ c1 c2 hl W
end Go.Proofs.YtlcfpdmicpggbaaGreatDoor
namespace Go.Proofs.YtlcfpdmicpggbaaGreatDoor
open Go.RowKit Go.Proofs.Scn Go.Flow Go.Sort
theorem Bytes.form {w : World} {v : Value} {s : ByteArray} (h : Bytes w v s) : ∃ p c, v = .slice p s.size c := by
 rcases h with ⟨h0, p, c, rfl⟩ | ⟨b, o, c, rfl, _⟩
 ·exact ⟨_, _, by rw [h0]⟩
 ·exact ⟨_, _, rfl⟩
end Go.Proofs.YtlcfpdmicpggbaaGreatDoor
namespace Go.Proofs.YtlcfpdmicpggbaaGreatDoor
open Go.RowKit Go.Proofs.Spl Go.Proofs.Scn Go.Shelf Go.Grow
theorem EachS.form {W : World} {out : Value} {fs : List Value} {ls : List (List Tok)} {V : World} (h : EachS W out fs ls V) : ∃ p cap, out = .slice p fs.length cap := by
 rcases h.own.2 with ⟨rfl, h0⟩ | ⟨g, cap, cur, rfl, hB, hg, hn, hc, hs, ht⟩
 ·exact ⟨none, 0, by rw [h0]⟩
 ·exact ⟨_, cap, rfl⟩
end Go.Proofs.YtlcfpdmicpggbaaGreatDoor
namespace Go.Proofs.Spl
open Go.Proofs.Scn
def blockS (l : List S) : S := .mk 5 [] [] l
def loopS (x y : X) (l : List S) : S := .mk 6 [107] [x, y] l
theorem check_kid {l : List S} (h : checkS (blockS l) = 0) {s : S} (hs : s ∈ l) : checkS s = 0 := by
 rw [checkS_ok, sizeS_eq, deepS_eq] at h
 rw [checkS_ok]
 obtain ⟨h1, h2, h3⟩ := h
 simp only [blockS, S.x, S.l, sizeXs, deepXs] at h1 h2
 rw [sizeSs_sum] at h1
 rw [deepSs_max] at h2
 have a := sumN_mem sizeS hs
 have b := maxN_mem deepS hs
 refine ⟨by omega, by omega, ?_⟩
 unfold okS at h3 ⊢
 rw [Bool.and_eq_true, okSA_iff] at h3
 simp only [blockS, S.x, S.l, S.op, kindO, Bool.and_eq_true, List.all_eq_true] at h3
 have h5 := h3.2.1.2
 simp only [show ¬ (5 : Int) = 3 from by decide, if_false, List.all_eq_true] at h5
 have h6 : (s.op != 4) = true := h5 s hs
 rw [h6, h3.2.2 s hs]
 rfl
theorem block_tok (put : Ln) (l : List S) : stmtT put (blockS l) = sgT [123] :: ((l.map (stmtT put)).flatten ++ [sgT [125]]) := by
 rw [stmtT_eq]; rfl
theorem loop_tok (put : Ln) (x y : X) (l : List S) : ∃ u, stmtT put (loopS x y l) = u ++ stmtT put (blockS l) ∧ 0 < u.length := by
 rw [stmtT_eq, stmtT_eq]
 refine ⟨wdT forW :: spanT [107] [x, y], ?_, by simp⟩
 rfl
end Go.Proofs.Spl
namespace Go.Proofs.Spl
open Go.Proofs.Scn
def build : X → List (Int × X) → X
 | x, [] => x
 | x, (n, b) :: t => build (.mk 6 [] n 0 0 [x, b]) t
end Go.Proofs.Spl
namespace Go.Proofs.YtlcfpdmicpggbaaGreatDoor
open Go.RowKit Go.Proofs.Spl Go.Proofs.Scn Go.Shelf
abbrev RetN (f : FuncId) (args : Array Value) (W : World) (n : Nat) : Prop := Calls Tryz.prog f args W fun e W' => e = .returned (.int .i64 (n : Nat)) ∧ Below W.heap.size W W'
theorem maxN_le' {α : Type} {f : α → Nat} {l : List α} {n : Nat} (h : ∀ x ∈ l, f x ≤ n) : maxN f l ≤ n := by
 induction l with
 | nil => exact Nat.zero_le _
 | cons a l ih =>
  have e : maxN f (a :: l) = max (f a) (maxN f l) := rfl
  have h1 := h a (by simp)
  have h2 := ih (fun x hx => h x (by simp [hx]))
  omega
theorem maxN_take {α : Type} (f : α → Nat) (l : List α) (k : Nat) : maxN f (l.take k) ≤ maxN f l := maxN_le' fun x hx => maxN_mem f (List.mem_of_mem_take hx)
theorem wr64 (a : Int) (h : -9000000000000000000 ≤ a ∧ a ≤ 9000000000000000000) : IntKind.i64.wrap a = a ∧ wrap64 a = a := ⟨Go.IntWalk.i64_in _ (by omega), Go.IntWalk.wrap64_in _ (by omega)⟩
theorem wrs {e : Int} (n : Nat) (h : n ≤ 1000000000) (he : e = (n : Int)) : IntKind.i64.wrap e = e ∧ wrap64 e = e := wr64 e (by omega)
theorem mx1 (s a : Nat) : max (s : Int) (a : Int) = ((max s a : Nat) : Int) := by omega
theorem mx2 (s a : Nat) : max (s : Int) (1 + (a : Int)) = ((max s (1 + a) : Nat) : Int) := by omega
def SzX (y : X) : Prop := ∀ (W : World) (cs : List Value), XR W y cs → RetN 41 #[.agg cs.toArray] W (sizeX y)
def DpX (y : X) : Prop := ∀ (W : World) (cs : List Value), XR W y cs → RetN 42 #[.agg cs.toArray] W (deepX y)
theorem rsizeL_any (v : Value) (l : List X) (hlen : l.length ≤ 1000000000) (hl : sumN sizeX l ≤ 1000000000) (W : World) (hR : XsR W v l) (hE : ∀ y ∈ l, SzX y) :
  RetN 83 #[v] W (sumN sizeX l) := by
 obtain ⟨p, cap, rfl, hcap, hcell⟩ := hR
 have HC := Lib.hid hcell
 have HLL := Lib.hid hl
 have HE := Lib.hid hE
 clear hcell hl hE
 go_enter Tryz.func83, Tryz.ntmps83
 go_wp2
 go_loopw [3, 4] (fun n i wr => ∃ k : Nat, i = .int .i64 k ∧ n = .int .i64 ((sumN sizeX (l.take k) : Nat)) ∧ k ≤ l.length ∧ Hid (Below W.heap.size W wr)) (fun _ i _ => l.length - (intOf i).toNat)
 case atStart => exact ⟨0, rfl, rfl, Nat.zero_le _, Lib.hid (Below.refl _ _)⟩
 case round =>
  obtain ⟨k, rfl, rfl, hk, HW⟩ := hrel
  by_cases hlt : k < l.length
  ·have hlt' : (k : Int) < (l.length : Int) := by omega
   rcases HC.out with hc | ⟨q, off, rfl, hq, hc⟩
   ·subst hc; simp at hlt
   obtain ⟨cs, hR, hcs⟩ := hc k hlt
   have hB := HW.out
   have hR0 := Lib.hid hR
   clear hR hc
   obtain ⟨_, ls, rfl, hL⟩ := XR_iff.1 hR0.out
   obtain ⟨pl, cl, rfl, _⟩ := hL
   have y0 := hcs 0 (by omega)
   have y1 := hcs 1 (by omega)
   have y2 := hcs 2 (by omega)
   have y3 := hcs 3 (by omega)
   have y4 := hcs 4 (by omega)
   have y5 := hcs 5 (by omega)
   simp only [Nat.add_zero, List.getElem?_cons_zero, List.getElem?_cons_succ] at y0 y1 y2 y3 y4 y5
   have HSx := Lib.hid (show ∀ w', Below W.heap.size W w' → w'.cell? ⟨q, off + k * 6, none⟩ = some (.int .i64 l[k].op) ∧ w'.cell? ⟨q, off + k * 6 + 1, none⟩ = some (.string (bs l[k].name)) ∧ w'.cell? ⟨q, off + k * 6 + 2, none⟩ = some (.int .i64 l[k].n) ∧ w'.cell? ⟨q, off + k * 6 + 3, none⟩ = some (.int .i64 l[k].w) ∧ w'.cell? ⟨q, off + k * 6 + 4, none⟩ = some (.int .u64 l[k].v) ∧ w'.cell? ⟨q, off + k * 6 + 5, none⟩ = some (.slice pl l[k].l.length cl) from fun w' h => ⟨(h.cell (p := ⟨q, off + k * 6, none⟩) hq).trans y0, (h.cell (p := ⟨q, off + k * 6 + 1, none⟩) hq).trans y1, (h.cell (p := ⟨q, off + k * 6 + 2, none⟩) hq).trans y2, (h.cell (p := ⟨q, off + k * 6 + 3, none⟩) hq).trans y3, (h.cell (p := ⟨q, off + k * 6 + 4, none⟩) hq).trans y4, (h.cell (p := ⟨q, off + k * 6 + 5, none⟩) hq).trans y5⟩)
   have hTK : l.take (k + 1) = l.take k ++ [l[k]] := (List.take_append_getElem hlt).symm
   have hSZ := Nat.le_trans (sumN_take sizeX l (k + 1)) HLL.out
   rw [hTK, sumN_snoc] at hSZ
   obtain ⟨s, hs⟩ : ∃ s, s = sumN sizeX (l.take k) := ⟨_, rfl⟩
   rw [← hs] at hSZ
   obtain ⟨a, ha⟩ : ∃ n : Nat, n = sizeX l[k] := ⟨_, rfl⟩
   rw [← ha] at hSZ
   have C0 := Lib.hid (fun (W9 : World) (h : Below W.heap.size W W9) => show RetN 41 #[.agg #[.int .i64 l[k].op, .string (bs l[k].name), .int .i64 l[k].n, .int .i64 l[k].w, .int .u64 l[k].v, .slice pl l[k].l.length cl]] W9 a by rw [ha]; exact HE.out _ (List.getElem_mem hlt) W9 _ (XR.later h _ _ hR0.out))
   have HV := Lib.hid (show ((sumN sizeX (l.take (k + 1)) : Nat) : Int) = (s : Int) + (a : Int) by rw [hTK, sumN_snoc, ← ha, ← hs]; try (clear hSZ hs ha; omega))
   rw [← hs]
   obtain ⟨x0, x1, x2, x3, x4, x5⟩ := HSx.out _ hB
   clear hTK hs ha hcs hB y0 y1 y2 y3 y4 y5
   have hw1 := wrs (e := (s : Int) + (a : Int)) (s + a) (Nat.le_trans (by omega) hSZ) (by push_cast; rfl)
   have ha1 := hw1.1
   have hb1 := hw1.2
   clear hw1
   clear hSZ
   generalize l[k] = y at *
   go_wp2_with (go_at_call 41; refine (C0.out _ HW.out).mono ?_; rintro e W5 ⟨rfl, hb⟩; have X1 := Lib.hid (HW.out.trans (hb.mono HW.out.size)); clear hb)
   go_roundw
   case rel => exact ⟨k + 1, by go_num, by rw [HV.out], hlt, Lib.hid X1.out⟩
   case measure => simp [intOf]; omega
  ·have hge : ¬ ((k : Int) < (l.length : Int)) := by omega
   have htk : l.take k = l := List.take_of_length_le (by omega)
   rw [htk]
   go_wp2
   go_ret
   exact ⟨rfl, HW.out⟩
theorem rdeepL_any (v : Value) (l : List X) (hlen : l.length ≤ 1000000000) (hl : maxN deepX l ≤ 1000000000) (W : World) (hR : XsR W v l) (hE : ∀ y ∈ l, DpX y) :
  RetN 82 #[v] W (maxN deepX l) := by
 obtain ⟨p, cap, rfl, hcap, hcell⟩ := hR
 have HC := Lib.hid hcell
 have HLL := Lib.hid hl
 have HE := Lib.hid hE
 clear hcell hl hE
 go_enter Tryz.func82, Tryz.ntmps82
 go_wp2
 go_loopw [3, 4] (fun n i wr => ∃ k : Nat, i = .int .i64 k ∧ n = .int .i64 ((maxN deepX (l.take k) : Nat)) ∧ k ≤ l.length ∧ Hid (Below W.heap.size W wr)) (fun _ i _ => l.length - (intOf i).toNat)
 case atStart => exact ⟨0, rfl, rfl, Nat.zero_le _, Lib.hid (Below.refl _ _)⟩
 case round =>
  obtain ⟨k, rfl, rfl, hk, HW⟩ := hrel
  by_cases hlt : k < l.length
  ·have hlt' : (k : Int) < (l.length : Int) := by omega
   rcases HC.out with hc | ⟨q, off, rfl, hq, hc⟩
   ·subst hc; simp at hlt
   obtain ⟨cs, hR, hcs⟩ := hc k hlt
   have hB := HW.out
   have hR0 := Lib.hid hR
   clear hR hc
   obtain ⟨_, ls, rfl, hL⟩ := XR_iff.1 hR0.out
   obtain ⟨pl, cl, rfl, _⟩ := hL
   have y0 := hcs 0 (by omega)
   have y1 := hcs 1 (by omega)
   have y2 := hcs 2 (by omega)
   have y3 := hcs 3 (by omega)
   have y4 := hcs 4 (by omega)
   have y5 := hcs 5 (by omega)
   simp only [Nat.add_zero, List.getElem?_cons_zero, List.getElem?_cons_succ] at y0 y1 y2 y3 y4 y5
   have HSx := Lib.hid (show ∀ w', Below W.heap.size W w' → w'.cell? ⟨q, off + k * 6, none⟩ = some (.int .i64 l[k].op) ∧ w'.cell? ⟨q, off + k * 6 + 1, none⟩ = some (.string (bs l[k].name)) ∧ w'.cell? ⟨q, off + k * 6 + 2, none⟩ = some (.int .i64 l[k].n) ∧ w'.cell? ⟨q, off + k * 6 + 3, none⟩ = some (.int .i64 l[k].w) ∧ w'.cell? ⟨q, off + k * 6 + 4, none⟩ = some (.int .u64 l[k].v) ∧ w'.cell? ⟨q, off + k * 6 + 5, none⟩ = some (.slice pl l[k].l.length cl) from fun w' h => ⟨(h.cell (p := ⟨q, off + k * 6, none⟩) hq).trans y0, (h.cell (p := ⟨q, off + k * 6 + 1, none⟩) hq).trans y1, (h.cell (p := ⟨q, off + k * 6 + 2, none⟩) hq).trans y2, (h.cell (p := ⟨q, off + k * 6 + 3, none⟩) hq).trans y3, (h.cell (p := ⟨q, off + k * 6 + 4, none⟩) hq).trans y4, (h.cell (p := ⟨q, off + k * 6 + 5, none⟩) hq).trans y5⟩)
   have hTK : l.take (k + 1) = l.take k ++ [l[k]] := (List.take_append_getElem hlt).symm
   have hSZ := Nat.le_trans (maxN_take deepX l (k + 1)) HLL.out
   rw [hTK, maxN_snoc] at hSZ
   obtain ⟨s, hs⟩ : ∃ s, s = maxN deepX (l.take k) := ⟨_, rfl⟩
   rw [← hs] at hSZ
   obtain ⟨a, ha⟩ : ∃ n : Nat, n = deepX l[k] := ⟨_, rfl⟩
   rw [← ha] at hSZ
   have C0 := Lib.hid (fun (W9 : World) (h : Below W.heap.size W W9) => show RetN 42 #[.agg #[.int .i64 l[k].op, .string (bs l[k].name), .int .i64 l[k].n, .int .i64 l[k].w, .int .u64 l[k].v, .slice pl l[k].l.length cl]] W9 a by rw [ha]; exact HE.out _ (List.getElem_mem hlt) W9 _ (XR.later h _ _ hR0.out))
   have HV := Lib.hid (show ((maxN deepX (l.take (k + 1)) : Nat) : Int) = ((max s a : Nat) : Int) by rw [hTK, maxN_snoc, ← ha, ← hs]; try (clear hSZ hs ha; omega))
   rw [← hs]
   obtain ⟨x0, x1, x2, x3, x4, x5⟩ := HSx.out _ hB
   clear hTK hs ha hcs hB y0 y1 y2 y3 y4 y5
   have hm2 : max ((s : Int)) ((a : Int)) = ((max s a : Nat) : Int) := mx1 s a
   clear hSZ
   generalize l[k] = y at *
   go_wp2_with (go_at_call 42; refine (C0.out _ HW.out).mono ?_; rintro e W5 ⟨rfl, hb⟩; have X1 := Lib.hid (HW.out.trans (hb.mono HW.out.size)); clear hb)
   go_roundw
   case rel => exact ⟨k + 1, by go_num, by rw [HV.out], hlt, Lib.hid X1.out⟩
   case measure => simp [intOf]; omega
  ·have hge : ¬ ((k : Int) < (l.length : Int)) := by omega
   have htk : l.take k = l := List.take_of_length_le (by omega)
   rw [htk]
   go_wp2
   go_ret
   exact ⟨rfl, HW.out⟩
theorem rsizeX_walk (op : Int) (name : Ln) (n w : Int) (v : Nat) (p : Option Addr) (cap : Nat) (l : List X) (hlen : l.length ≤ 1000000000) (hl : sumN sizeX l + 1 ≤ 1000000000) (W : World) (hR : XsR W (.slice p l.length cap) l) (hE : ∀ y ∈ l, SzX y) :
  RetN 41 #[.agg #[.int .i64 op, .string (bs name), .int .i64 n, .int .i64 w, .int .u64 v, .slice p l.length cap]] W (sumN sizeX l + 1) := by
 obtain ⟨W1, hW1⟩ : ∃ W1, W1 = W.alloc (.cells #[.int .i64 op, .string (bs name), .int .i64 n, .int .i64 w, .int .u64 v, .slice p l.length cap] 28) := ⟨_, rfl⟩
 have hb1 : Below W.heap.size W W1 := by rw [hW1]; exact (Below.refl _ _).alloc (Nat.le_refl _) _
 have hR1 := XsR.later hR hb1
 have HL1 := Lib.hid (show W.heap.size < W1.heap.size by rw [hW1]; simp)
 have HC5 := Lib.hid (show W1.cell? ⟨W.heap.size, 5, none⟩ = some (.slice p l.length cap) by rw [hW1]; exact (cell_of_row _ _ _ _ _ _ (World.alloc_heap_new W _)).trans rfl)
 obtain ⟨p', cap', hpe, hcap, hcell⟩ := hR1
 cases hpe
 have HC := Lib.hid hcell
 have HLL := Lib.hid hl
 have HE := Lib.hid hE
 have HB1 := Lib.hid hb1
 clear hcell hl hE hb1 hR
 go_enter Tryz.func41, Tryz.ntmps41
 go_wp2
 rw [← hW1]
 clear hW1
 go_loopw [3, 4] (fun n i wr => ∃ k : Nat, i = .int .i64 k ∧ n = .int .i64 ((sumN sizeX (l.take k) + 1 : Nat)) ∧ k ≤ l.length ∧ Hid (Below W1.heap.size W1 wr)) (fun _ i _ => l.length - (intOf i).toNat)
 case atStart => exact ⟨0, rfl, rfl, Nat.zero_le _, Lib.hid (Below.refl _ _)⟩
 case round =>
  obtain ⟨k, rfl, rfl, hk, HW⟩ := hrel
  have k5 := (HW.out.cell (p := ⟨W.heap.size, 5, none⟩) HL1.out).trans HC5.out
  by_cases hlt : k < l.length
  ·have hlt' : (k : Int) < (l.length : Int) := by omega
   rcases HC.out with hc | ⟨q, off, rfl, hq, hc⟩
   ·subst hc; simp at hlt
   obtain ⟨cs, hR, hcs⟩ := hc k hlt
   have hB := HW.out
   have hR0 := Lib.hid hR
   clear hR hc
   obtain ⟨_, ls, rfl, hL⟩ := XR_iff.1 hR0.out
   obtain ⟨pl, cl, rfl, _⟩ := hL
   have x0 := (hB.cell (p := ⟨q, off + k * 6 + 0, none⟩) hq).trans (hcs 0 (by omega))
   have x1 := (hB.cell (p := ⟨q, off + k * 6 + 1, none⟩) hq).trans (hcs 1 (by omega))
   have x2 := (hB.cell (p := ⟨q, off + k * 6 + 2, none⟩) hq).trans (hcs 2 (by omega))
   have x3 := (hB.cell (p := ⟨q, off + k * 6 + 3, none⟩) hq).trans (hcs 3 (by omega))
   have x4 := (hB.cell (p := ⟨q, off + k * 6 + 4, none⟩) hq).trans (hcs 4 (by omega))
   have x5 := (hB.cell (p := ⟨q, off + k * 6 + 5, none⟩) hq).trans (hcs 5 (by omega))
   simp only [Nat.add_zero, List.getElem?_cons_zero, List.getElem?_cons_succ] at x0 x1 x2 x3 x4 x5
   have hTK : l.take (k + 1) = l.take k ++ [l[k]] := (List.take_append_getElem hlt).symm
   have hSZ := Nat.le_trans (Nat.add_le_add_right (sumN_take sizeX l (k + 1)) 1) HLL.out
   rw [hTK, sumN_snoc] at hSZ
   obtain ⟨s, hs⟩ : ∃ s, s = sumN sizeX (l.take k) := ⟨_, rfl⟩
   obtain ⟨a, ha⟩ : ∃ n : Nat, n = sizeX l[k] := ⟨_, rfl⟩
   rw [← hs, ← ha] at hSZ
   have C0 := Lib.hid (fun (W9 : World) (h : Below W1.heap.size W1 W9) => show RetN 41 #[.agg #[.int .i64 l[k].op, .string (bs l[k].name), .int .i64 l[k].n, .int .i64 l[k].w, .int .u64 l[k].v, .slice pl l[k].l.length cl]] W9 a by rw [ha]; exact HE.out _ (List.getElem_mem hlt) W9 _ (XR.later h _ _ hR0.out))
   have HV := Lib.hid (show ((sumN sizeX (l.take (k + 1)) + 1 : Nat) : Int) = (s : Int) + 1 + (a : Int) by rw [hTK, sumN_snoc, ← ha, ← hs]; omega)
   have hw3 := wrs (e := (s : Int) + 1 + (a : Int)) (s + 1 + a) (Nat.le_trans (by omega) hSZ) (by push_cast; rfl)
   have ha3 := hw3.1
   have hb3 := hw3.2
   clear hw3
   rw [← hs]
   clear hTK hSZ hs ha hcs hB
   generalize l[k] = y at *
   go_wp2_with (go_at_call 41; refine (C0.out _ HW.out).mono ?_; rintro e W5 ⟨rfl, hb⟩; have X1 := Lib.hid (HW.out.trans (hb.mono HW.out.size)); clear hb)
   go_roundw
   case rel => exact ⟨k + 1, by go_num, by rw [HV.out], hlt, X1⟩
   case measure => simp [intOf]; omega
  ·have hge : ¬ ((k : Int) < (l.length : Int)) := by omega
   have htk : l.take k = l := List.take_of_length_le (by omega)
   rw [htk]
   go_wp2
   go_ret
   exact ⟨rfl, HB1.out.trans (HW.out.mono HB1.out.size)⟩
theorem szX_ok : ∀ x : X, sizeX x ≤ 1000000000 → SzX x := by
 refine X.ind ?_
 intro x ih hsz W cs hR
 obtain ⟨hv, ls, rfl, hL⟩ := XR_iff.1 hR
 have hL0 := hL
 obtain ⟨p, c, rfl, _⟩ := hL
 rw [sizeX_eq, sizeXs_sum] at hsz
 have hlen := sumN_len sizeX one_sizeX x.l
 have := rsizeX_walk x.op x.name x.n x.w x.v p c x.l (by omega) hsz W hL0 (fun y hy => ih y hy (by have := sumN_mem sizeX hy; omega))
 rw [sizeX_eq, sizeXs_sum]
 exact this
theorem dpX_ok : ∀ x : X, sizeX x ≤ 1000000000 → DpX x := by
 refine X.ind ?_
 intro x ih hsz W cs hR
 obtain ⟨hv, ls, rfl, hL⟩ := XR_iff.1 hR
 have hL0 := hL
 obtain ⟨p, c, rfl, _⟩ := hL
 have hlen := sumN_len sizeX one_sizeX x.l
 have hd := deepX_le x
 rw [sizeX_eq, sizeXs_sum] at hsz hd
 have hdd : deepX x = maxN deepX x.l + 1 := by rw [deepX_eq, deepXs_max]
 have HD := Lib.hid (fun (W9 : World) (h : Below W.heap.size W W9) => rdeepL_any _ x.l (by omega) (by omega) W9 (XsR.later hL0 h) (fun y hy => ih y hy (by have := sumN_mem sizeX hy; omega)))
 rw [hdd]
 obtain ⟨m, hm⟩ : ∃ m, m = maxN deepX x.l := ⟨_, rfl⟩
 rw [← hm] at HD ⊢
 have hw := wr64 (1 + (m : Int)) (by omega)
 have ha := hw.1
 have hb := hw.2
 have HV := Lib.hid (show ((m + 1 : Nat) : Int) = 1 + (m : Int) by omega)
 clear hL0 hR hlen hd hsz hdd hm hw
 go_enter Tryz.func42, Tryz.ntmps42
 go_wp2_with (go_at_call 82; refine (HD.out _ ((Below.refl _ _).alloc (Nat.le_refl _) _)).mono ?_; rintro e W2 ⟨rfl, hb⟩; have C2 := Lib.hid (((Below.refl _ _).alloc (Nat.le_refl _) _).trans (hb.mono (by simp))); clear hb)
 go_ret
 exact ⟨by rw [HV.out]; rfl, C2.out⟩
theorem rSizeS_any (v : Value) (l : List S) (hlen : l.length ≤ 1000000000) (hl : sumN sizeS l ≤ 1000000000) (W : World) (hR : SsR W v l) (hE : ∀ y ∈ l, ∀ (W : World) (v : Value), SsR W v y.l → RetN 43 #[v] W (sumN sizeS y.l)) :
  RetN 43 #[v] W (sumN sizeS l) := by
 obtain ⟨p, cap, rfl, hcap, hcell⟩ := hR
 have HC := Lib.hid hcell
 have HLL := Lib.hid hl
 have HE := Lib.hid hE
 clear hcell hl hE
 go_enter Tryz.func43, Tryz.ntmps43
 go_wp2
 go_loopw [3, 4] (fun n i wr => ∃ k : Nat, i = .int .i64 k ∧ n = .int .i64 ((sumN sizeS (l.take k) : Nat)) ∧ k ≤ l.length ∧ Hid (Below W.heap.size W wr)) (fun _ i _ => l.length - (intOf i).toNat)
 case atStart => exact ⟨0, rfl, rfl, Nat.zero_le _, Lib.hid (Below.refl _ _)⟩
 case round =>
  obtain ⟨k, rfl, rfl, hk, HW⟩ := hrel
  by_cases hlt : k < l.length
  ·have hlt' : (k : Int) < (l.length : Int) := by omega
   rcases HC.out with hc | ⟨q, off, rfl, hq, hc⟩
   ·subst hc; simp at hlt
   obtain ⟨cs, hR, hcs⟩ := hc k hlt
   have hB := HW.out
   have hR0 := Lib.hid hR
   clear hR hc
   obtain ⟨xs, ls, rfl, hXR, hL⟩ := SR_iff.1 hR0.out
   have hXR0 := hXR
   have hL0 := hL
   obtain ⟨px, cx, rfl, _⟩ := hXR
   obtain ⟨pl, cl, rfl, _⟩ := hL
   have hyb := Nat.le_trans (sumN_mem sizeS (List.getElem_mem hlt)) HLL.out
   rw [sizeS_eq, sizeXs_sum, sizeSs_sum] at hyb
   have y0 := hcs 0 (by omega)
   have y1 := hcs 1 (by omega)
   have y2 := hcs 2 (by omega)
   have y3 := hcs 3 (by omega)
   simp only [Nat.add_zero, List.getElem?_cons_zero, List.getElem?_cons_succ] at y0 y1 y2 y3
   have HSx := Lib.hid (show ∀ w', Below W.heap.size W w' → w'.cell? ⟨q, off + k * 4, none⟩ = some (.int .i64 l[k].op) ∧ w'.cell? ⟨q, off + k * 4 + 1, none⟩ = some (.string (bs l[k].name)) ∧ w'.cell? ⟨q, off + k * 4 + 2, none⟩ = some (.slice px l[k].x.length cx) ∧ w'.cell? ⟨q, off + k * 4 + 3, none⟩ = some (.slice pl l[k].l.length cl) from fun w' h => ⟨(h.cell (p := ⟨q, off + k * 4, none⟩) hq).trans y0, (h.cell (p := ⟨q, off + k * 4 + 1, none⟩) hq).trans y1, (h.cell (p := ⟨q, off + k * 4 + 2, none⟩) hq).trans y2, (h.cell (p := ⟨q, off + k * 4 + 3, none⟩) hq).trans y3⟩)
   have hTK : l.take (k + 1) = l.take k ++ [l[k]] := (List.take_append_getElem hlt).symm
   have hSZ := Nat.le_trans (sumN_take sizeS l (k + 1)) HLL.out
   rw [hTK, sumN_snoc, sizeS_eq, sizeXs_sum, sizeSs_sum] at hSZ
   obtain ⟨s, hs⟩ : ∃ s, s = sumN sizeS (l.take k) := ⟨_, rfl⟩
   rw [← hs] at hSZ
   obtain ⟨a, ha⟩ : ∃ n : Nat, n = sumN sizeX l[k].x := ⟨_, rfl⟩
   obtain ⟨b, hb⟩ : ∃ n : Nat, n = sumN sizeS l[k].l := ⟨_, rfl⟩
   rw [← ha] at hSZ
   rw [← hb] at hSZ
   have C0 := Lib.hid (fun (W9 : World) (h : Below W.heap.size W W9) => show RetN 83 #[.slice px l[k].x.length cx] W9 a by rw [ha]; exact rsizeL_any _ l[k].x (Nat.le_trans (sumN_len sizeX one_sizeX _) (Nat.le_trans (by omega) hyb)) (Nat.le_trans (by omega) hyb) W9 (XsR.later hXR0 h) (fun z hz => szX_ok z (Nat.le_trans (sumN_mem sizeX hz) (Nat.le_trans (by omega) hyb))))
   have C1 := Lib.hid (fun (W9 : World) (h : Below W.heap.size W W9) => show RetN 43 #[.slice pl l[k].l.length cl] W9 b by rw [hb]; exact HE.out _ (List.getElem_mem hlt) W9 _ (SsR.later hL0 h))
   have HV := Lib.hid (show ((sumN sizeS (l.take (k + 1)) : Nat) : Int) = (s : Int) + 1 + (a : Int) + (b : Int) by rw [hTK, sumN_snoc, sizeS_eq, sizeXs_sum, sizeSs_sum, ← ha, ← hb, ← hs]; try (clear hSZ hs ha hb; omega))
   rw [← hs]
   obtain ⟨x0, x1, x2, x3⟩ := HSx.out _ hB
   clear hTK hs ha hb hcs hB y0 y1 y2 y3
   have hw8 := wrs (e := (s : Int) + 1) (s + 1) (Nat.le_trans (by omega) hSZ) (by push_cast; rfl)
   have ha8 := hw8.1
   have hb8 := hw8.2
   clear hw8
   have hw9 := wrs (e := (s : Int) + 1 + (a : Int)) (s + 1 + a) (Nat.le_trans (by omega) hSZ) (by push_cast; rfl)
   have ha9 := hw9.1
   have hb9 := hw9.2
   clear hw9
   have hw10 := wrs (e := (s : Int) + 1 + (a : Int) + (b : Int)) (s + 1 + a + b) (Nat.le_trans (by omega) hSZ) (by push_cast; rfl)
   have ha10 := hw10.1
   have hb10 := hw10.2
   clear hw10
   clear hSZ
   generalize l[k] = y at *
   go_wp2_with fail
   have X0 := Lib.hid (HW.out.drew)
   go_region_held3 (fun w' => w'.cell? ⟨q, off + k * 4, none⟩ = some (.int .i64 y.op) ∧ w'.cell? ⟨q, off + k * 4 + 1, none⟩ = some (.string (bs y.name)) ∧ w'.cell? ⟨q, off + k * 4 + 2, none⟩ = some (.slice px y.x.length cx) ∧ w'.cell? ⟨q, off + k * 4 + 3, none⟩ = some (.slice pl y.l.length cl))
    (first | exact HSx.out _ X2.out | exact HSx.out _ X1.out | exact HSx.out _ X0.out | go_keep)
    (first | (go_at_call 83; refine (C0.out _ X0.out).mono ?_; rintro e W5 ⟨rfl, hb⟩; have X1 := Lib.hid (X0.out.trans (hb.mono X0.out.size)); clear hb C0) | (go_at_call 43; refine (C1.out _ X1.out).mono ?_; rintro e W6 ⟨rfl, hb⟩; have X2 := Lib.hid (X1.out.trans (hb.mono X1.out.size)); clear hb C1))
   go_wp2_with fail
   go_roundw
   case rel => exact ⟨k + 1, by go_num, by rw [HV.out], hlt, Lib.hid X2.out⟩
   case measure => simp [intOf]; omega
  ·have hge : ¬ ((k : Int) < (l.length : Int)) := by omega
   have htk : l.take k = l := List.take_of_length_le (by omega)
   rw [htk]
   go_wp2
   go_ret
   exact ⟨rfl, HW.out⟩
theorem rDeepS_any (v : Value) (l : List S) (hlen : l.length ≤ 1000000000) (hl : maxN deepS l ≤ 1000000000) (W : World) (hR : SsR W v l) (hE : sumN sizeS l ≤ 1000000000 ∧ ∀ y ∈ l, ∀ (W : World) (v : Value), SsR W v y.l → RetN 44 #[v] W (maxN deepS y.l)) :
  RetN 44 #[v] W (maxN deepS l) := by
 obtain ⟨p, cap, rfl, hcap, hcell⟩ := hR
 have HC := Lib.hid hcell
 have HLL := Lib.hid hl
 have HE := Lib.hid hE
 clear hcell hl hE
 go_enter Tryz.func44, Tryz.ntmps44
 go_wp2
 go_loopw [3, 4] (fun n i wr => ∃ k : Nat, i = .int .i64 k ∧ n = .int .i64 ((maxN deepS (l.take k) : Nat)) ∧ k ≤ l.length ∧ Hid (Below W.heap.size W wr)) (fun _ i _ => l.length - (intOf i).toNat)
 case atStart => exact ⟨0, rfl, rfl, Nat.zero_le _, Lib.hid (Below.refl _ _)⟩
 case round =>
  obtain ⟨k, rfl, rfl, hk, HW⟩ := hrel
  by_cases hlt : k < l.length
  ·have hlt' : (k : Int) < (l.length : Int) := by omega
   rcases HC.out with hc | ⟨q, off, rfl, hq, hc⟩
   ·subst hc; simp at hlt
   obtain ⟨cs, hR, hcs⟩ := hc k hlt
   have hB := HW.out
   have hR0 := Lib.hid hR
   clear hR hc
   obtain ⟨xs, ls, rfl, hXR, hL⟩ := SR_iff.1 hR0.out
   have hXR0 := hXR
   have hL0 := hL
   obtain ⟨px, cx, rfl, _⟩ := hXR
   obtain ⟨pl, cl, rfl, _⟩ := hL
   have hyb := Nat.le_trans (sumN_mem sizeS (List.getElem_mem hlt)) HE.out.1
   rw [sizeS_eq, sizeXs_sum, sizeSs_sum] at hyb
   have y0 := hcs 0 (by omega)
   have y1 := hcs 1 (by omega)
   have y2 := hcs 2 (by omega)
   have y3 := hcs 3 (by omega)
   simp only [Nat.add_zero, List.getElem?_cons_zero, List.getElem?_cons_succ] at y0 y1 y2 y3
   have HSx := Lib.hid (show ∀ w', Below W.heap.size W w' → w'.cell? ⟨q, off + k * 4, none⟩ = some (.int .i64 l[k].op) ∧ w'.cell? ⟨q, off + k * 4 + 1, none⟩ = some (.string (bs l[k].name)) ∧ w'.cell? ⟨q, off + k * 4 + 2, none⟩ = some (.slice px l[k].x.length cx) ∧ w'.cell? ⟨q, off + k * 4 + 3, none⟩ = some (.slice pl l[k].l.length cl) from fun w' h => ⟨(h.cell (p := ⟨q, off + k * 4, none⟩) hq).trans y0, (h.cell (p := ⟨q, off + k * 4 + 1, none⟩) hq).trans y1, (h.cell (p := ⟨q, off + k * 4 + 2, none⟩) hq).trans y2, (h.cell (p := ⟨q, off + k * 4 + 3, none⟩) hq).trans y3⟩)
   have hTK : l.take (k + 1) = l.take k ++ [l[k]] := (List.take_append_getElem hlt).symm
   have hSZ := Nat.le_trans (maxN_take deepS l (k + 1)) HLL.out
   rw [hTK, maxN_snoc, deepS_eq, deepXs_max, deepSs_max] at hSZ
   obtain ⟨s, hs⟩ : ∃ s, s = maxN deepS (l.take k) := ⟨_, rfl⟩
   rw [← hs] at hSZ
   obtain ⟨a, ha⟩ : ∃ n : Nat, n = maxN deepX l[k].x := ⟨_, rfl⟩
   obtain ⟨b, hb⟩ : ∃ n : Nat, n = maxN deepS l[k].l := ⟨_, rfl⟩
   rw [← ha] at hSZ
   rw [← hb] at hSZ
   have C0 := Lib.hid (fun (W9 : World) (h : Below W.heap.size W W9) => show RetN 82 #[.slice px l[k].x.length cx] W9 a by rw [ha]; exact rdeepL_any _ l[k].x (Nat.le_trans (sumN_len sizeX one_sizeX _) (Nat.le_trans (by omega) hyb)) (Nat.le_trans (maxN_le_sumN fun z _ => deepX_le z) (Nat.le_trans (by omega) hyb)) W9 (XsR.later hXR0 h) (fun z hz => dpX_ok z (Nat.le_trans (sumN_mem sizeX hz) (Nat.le_trans (by omega) hyb))))
   have C1 := Lib.hid (fun (W9 : World) (h : Below W.heap.size W W9) => show RetN 44 #[.slice pl l[k].l.length cl] W9 b by rw [hb]; exact HE.out.2 _ (List.getElem_mem hlt) W9 _ (SsR.later hL0 h))
   have HV := Lib.hid (show ((maxN deepS (l.take (k + 1)) : Nat) : Int) = ((max s (1 + max a b) : Nat) : Int) by rw [hTK, maxN_snoc, deepS_eq, deepXs_max, deepSs_max, ← ha, ← hb, ← hs]; try (clear hSZ hs ha hb; omega))
   rw [← hs]
   obtain ⟨x0, x1, x2, x3⟩ := HSx.out _ hB
   clear hTK hs ha hb hcs hB y0 y1 y2 y3
   have hm11 : max ((a : Int)) ((b : Int)) = ((max a b : Nat) : Int) := mx1 a b
   have hq1 := wrs (e := 1 + ((max a b : Nat) : Int)) (1 + max a b) (Nat.le_trans (by omega) hSZ) (by push_cast; rfl)
   have hq2 := hq1.1
   have hq3 := hq1.2
   clear hq1
   have hm12 : max ((s : Int)) (1 + ((max a b : Nat) : Int)) = ((max s (1 + max a b) : Nat) : Int) := mx2 s (max a b)
   clear hSZ
   generalize l[k] = y at *
   go_wp2_with fail
   have X0 := Lib.hid (HW.out.drew)
   go_region_held3 (fun w' => w'.cell? ⟨q, off + k * 4, none⟩ = some (.int .i64 y.op) ∧ w'.cell? ⟨q, off + k * 4 + 1, none⟩ = some (.string (bs y.name)) ∧ w'.cell? ⟨q, off + k * 4 + 2, none⟩ = some (.slice px y.x.length cx) ∧ w'.cell? ⟨q, off + k * 4 + 3, none⟩ = some (.slice pl y.l.length cl))
    (first | exact HSx.out _ X2.out | exact HSx.out _ X1.out | exact HSx.out _ X0.out | go_keep)
    (first | (go_at_call 82; refine (C0.out _ X0.out).mono ?_; rintro e W5 ⟨rfl, hb⟩; have X1 := Lib.hid (X0.out.trans (hb.mono X0.out.size)); clear hb C0) | (go_at_call 44; refine (C1.out _ X1.out).mono ?_; rintro e W6 ⟨rfl, hb⟩; have X2 := Lib.hid (X1.out.trans (hb.mono X1.out.size)); clear hb C1))
   go_wp2_with fail
   go_roundw
   case rel => exact ⟨k + 1, by go_num, by rw [HV.out], hlt, Lib.hid X2.out⟩
   case measure => simp [intOf]; omega
  ·have hge : ¬ ((k : Int) < (l.length : Int)) := by omega
   have htk : l.take k = l := List.take_of_length_le (by omega)
   rw [htk]
   go_wp2
   go_ret
   exact ⟨rfl, HW.out⟩
theorem szS_kid : ∀ s : S, sizeS s ≤ 1000000000 → ∀ (W : World) (v : Value), SsR W v s.l → RetN 43 #[v] W (sumN sizeS s.l) := by
 refine S.ind ?_
 intro s ih hsz W v hR
 rw [sizeS_eq, sizeXs_sum, sizeSs_sum] at hsz
 exact rSizeS_any v s.l (Nat.le_trans (sumN_len sizeS one_sizeS _) (Nat.le_trans (by omega) hsz)) (Nat.le_trans (by omega) hsz) W hR (fun y hy => ih y hy (Nat.le_trans (sumN_mem sizeS hy) (Nat.le_trans (by omega) hsz)))
theorem dpS_kid : ∀ s : S, sizeS s ≤ 1000000000 → ∀ (W : World) (v : Value), SsR W v s.l → RetN 44 #[v] W (maxN deepS s.l) := by
 refine S.ind ?_
 intro s ih hsz W v hR
 rw [sizeS_eq, sizeXs_sum, sizeSs_sum] at hsz
 exact rDeepS_any v s.l (Nat.le_trans (sumN_len sizeS one_sizeS _) (Nat.le_trans (by omega) hsz)) (Nat.le_trans (maxN_le_sumN fun z _ => deepS_le z) (Nat.le_trans (by omega) hsz)) W hR ⟨Nat.le_trans (by omega) hsz, fun y hy => ih y hy (Nat.le_trans (sumN_mem sizeS hy) (Nat.le_trans (by omega) hsz))⟩
theorem szSs_ok (l : List S) (h : sumN sizeS l ≤ 1000000000) (v : Value) (W : World) (hR : SsR W v l) : RetN 43 #[v] W (sumN sizeS l) :=
 rSizeS_any v l (Nat.le_trans (sumN_len sizeS one_sizeS _) h) h W hR fun y hy => szS_kid y (Nat.le_trans (sumN_mem sizeS hy) h)
theorem dpSs_ok (l : List S) (h : sumN sizeS l ≤ 1000000000) (v : Value) (W : World) (hR : SsR W v l) : RetN 44 #[v] W (maxN deepS l) :=
 rDeepS_any v l (Nat.le_trans (sumN_len sizeS one_sizeS _) h) (Nat.le_trans (maxN_le_sumN fun z _ => deepS_le z) h) W hR ⟨h, fun y hy => dpS_kid y (Nat.le_trans (sumN_mem sizeS hy) h)⟩
end Go.Proofs.YtlcfpdmicpggbaaGreatDoor
namespace Go.Proofs.YtlcfpdmicpggbaaGreatDoor
open Go.RowKit Go.Proofs.Spl Go.Proofs.Scn Go.Shelf
def fewB (n d : Nat) : Bool := decide (n ≤ 2000) && decide (d ≤ 100)
theorem one_stmt (W : World) (s : S) (cs : List Value) (hR : SR W s cs) (h4 : cs.length = 4) : SsR (W.alloc (.cells cs.toArray 31)) (.slice (some ⟨W.heap.size, 0, none⟩) 1 1) [s] := by
 refine ⟨_, _, rfl, Nat.le_refl _, .inr ⟨W.heap.size, 0, rfl, by simp, fun k hk => ?_⟩⟩
 have : k = 0 := by simpa using hk
 subst this
 refine ⟨cs, SR.later ((Below.refl _ _).alloc (Nat.le_refl _) _) _ _ hR, fun j hj => ?_⟩
 rw [World.cell?_alloc_new W cs.toArray 31 (0 + 0 * 4 + j)]
 simp
theorem fewS_any (x : S) (cs : List Value) (W : World) (hR : SR W x cs) (h2 : sizeS x ≤ 1000000000) : RetB 15 #[.agg cs.toArray] W (fewB (sizeS x) (deepS x)) := by
 have e1 : sumN sizeS [x] = sizeS x := by simp [sumN]
 have e2 : maxN deepS [x] = deepS x := by simp [maxN]
 have hs := one_stmt
 have H1 := Lib.hid (fun (W9 : World) (p : Option Addr) (h : SsR W9 (.slice p 1 1) [x]) => szSs_ok [x] (by rw [e1]; exact h2) _ W9 h)
 have H2 := Lib.hid (fun (W9 : World) (p : Option Addr) (h : SsR W9 (.slice p 1 1) [x]) => dpSs_ok [x] (by rw [e1]; exact h2) _ W9 h)
 rw [e1] at H1
 rw [e2] at H2
 have hR2 := fun (W9 : World) (h : Below W.heap.size W W9) => SR.later h _ _ hR
 obtain ⟨xs, ls, rfl, hX, hL⟩ := SR_iff.1 hR
 obtain ⟨p, c, rfl, _⟩ := hL
 obtain ⟨p', c', rfl, _⟩ := hX
 have HS := Lib.hid (fun (W9 : World) (h : Below W.heap.size W W9) (hz : W9.heap.size = W.heap.size + 1) => (show SsR (W9.alloc (.cells #[.int .i64 x.op, .string (bs x.name), .slice p' x.x.length c', .slice p x.l.length c] 31)) (.slice (some ⟨W.heap.size + 1, 0, none⟩) 1 1) [x] by rw [← hz]; exact one_stmt W9 x _ (hR2 W9 h) rfl))
 clear hR h2 e1 e2 hs hR2
 generalize sizeS x = a at *
 generalize deepS x = b at *
 by_cases h : a ≤ 2000
 ·have h' : (a : Int) ≤ 2000 := by omega
  go_enter Tryz.func15, Tryz.ntmps15
  go_wp2_with (first
   | (go_at_call 43; refine (H1.out _ _ (HS.out _ ((Below.refl _ _).alloc (Nat.le_refl _) _) (by simp))).mono ?_; rintro e W2 ⟨rfl, hb⟩; have S2 : Hid (SsR W2 (.slice (some ⟨W.heap.size + 1, 0, none⟩) 1 1) [x]) := Lib.hid (by refine SsR.later ?_ hb; exact HS.out _ ((Below.refl _ _).alloc (Nat.le_refl _) _) (by simp)); have C2 := Lib.hid ((((Below.refl _ _).alloc (Nat.le_refl _) _).alloc (by simp) _).trans (hb.mono (by simp; omega))); clear hb H1)
   | (go_at_call 44; refine (H2.out _ _ S2.out).mono ?_; rintro e W3 ⟨rfl, hb⟩; have C3 := Lib.hid (C2.out.trans (hb.mono C2.out.size)); clear hb))
  go_ret
  exact ⟨ret_bool (by unfold fewB; rw [decide_eq_true h, Bool.true_and, Bool.eq_iff_iff]; simp; omega), C3.out⟩
 ·have h' : ¬ (a : Int) ≤ 2000 := by omega
  have hd : decide ((a : Int) ≤ 2000) = false := by simpa using h'
  go_enter Tryz.func15, Tryz.ntmps15
  go_wp2_with (go_at_call 43; refine (H1.out _ _ (HS.out _ ((Below.refl _ _).alloc (Nat.le_refl _) _) (by simp))).mono ?_; rintro e W2 ⟨rfl, hb⟩; have C2 := Lib.hid ((((Below.refl _ _).alloc (Nat.le_refl _) _).alloc (by simp) _).trans (hb.mono (by simp; omega))); clear hb H1)
  go_ret
  exact ⟨ret_bool (by unfold fewB; rw [decide_eq_false h]; rfl), C2.out⟩
end Go.Proofs.YtlcfpdmicpggbaaGreatDoor
