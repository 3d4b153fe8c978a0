/- Texts of the seat, merged. -/
import Derived.OrdersIn
import Derived.Test.YtlcfpdmicpggbaaGreatDoorB15
import Derived.Test.YtlcfpdmicpggbaaGreatDoorEF51
set_option linter.unusedVariables false
set_option linter.unusedSimpArgs false
set_option maxRecDepth 100000
set_option maxHeartbeats 16000000
namespace Go.Proofs.YtlcfpdmicpggbaaGreatDoor
open Go.RowKit Go.Proofs.Spl Go.Proofs.Scn Go.Shelf
def strsC (l : List Ln) : List Value := l.map fun s => .string (bs s)
def OwnS (B : Nat) (w : World) (v : Value) (l : List Ln) : Prop := w.ownsRow B 9 1 v l.length (strsC l)
theorem strInfo : (Tryz.prog.info? 9).map (fun i => (i.zero, i.size, i.bytes)) = some (some (.string ⟨#[]⟩), 1, 16) := by kernel_rfl
theorem strSlice : Tryz.prog.underlying 68 = some (.slice 9) := by kernel_rfl
theorem OwnS.nil (B : Nat) (w : World) : OwnS B w (.slice none 0 0) [] := World.ownsRow_nil w B _ 1
theorem OwnS.later {B : Nat} {w w' : World} {v : Value} {l : List Ln} (h : OwnS B w v l) (hb : Below w.heap.size w w') : OwnS B w' v l := by
 refine ⟨h.1, ?_⟩
 rcases h.2 with h0 | ⟨g, cap, cur, hv, hB, hg, h1⟩
 ·exact .inl h0
 ·exact .inr ⟨g, cap, cur, hv, hB, (hb.block g (Array.getElem?_eq_some_iff.1 hg).1).trans hg, h1⟩
theorem OwnS.shape {B : Nat} {w : World} {v : Value} {l : List Ln} (h : OwnS B w v l) : ∃ p c, v = .slice p l.length c := by
 rcases h.2 with ⟨h0, h1⟩ | ⟨g, cap, cur, hv, _⟩
 ·exact ⟨none, 0, by rw [h0, h1]⟩
 ·exact ⟨_, _, hv⟩
theorem OwnS.base {B : Nat} {w : World} {v : Value} {l : List Ln} (h : OwnS B w v l) : ∀ k, v.ownBlock = some k → B ≤ k ∧ k < w.heap.size := by
 intro k hk
 rcases h.2 with ⟨rfl, _⟩ | ⟨g, cap, cur, rfl, hB, hg, h1⟩
 ·cases hk
 ·simp [Value.ownBlock] at hk; subst hk; exact ⟨hB, (Array.getElem?_eq_some_iff.1 hg).1⟩
theorem OwnS.last {B : Nat} {w : World} {q : Option Addr} {n c : Nat} {l : List Ln} {a : Ln} (h : OwnS B w (.slice q n c) (l ++ [a])) :
  ∃ g, q = some ⟨g, 0, none⟩ ∧ n = l.length + 1 ∧ l.length ≤ c ∧ w.cell? ⟨g, l.length, none⟩ = some (.string (bs a)) ∧ OwnS B w (.slice (some ⟨g, 0, none⟩) l.length c) l := by
 obtain ⟨h1, h2⟩ := h
 have hl : (l ++ [a]).length = l.length + 1 := by simp
 rw [hl] at h2
 rcases h2 with ⟨_, h0⟩ | ⟨g, cap, cur, hv, hB, hg, hn, hc, hs, ht⟩
 ·omega
 ·simp only [Value.slice.injEq] at hv
  obtain ⟨rfl, rfl, rfl⟩ := hv
  refine ⟨g, rfl, rfl, by omega, ?_, by simp [strsC], .inr ⟨g, c, cur, rfl, hB, hg, by omega, hc, hs, ?_⟩⟩
  ·rw [cell_of_row w g l.length cur _ (0, 0) hg]
   have : (cur.toList.take ((l.length + 1) * 1))[l.length]? = (strsC (l ++ [a]))[l.length]? := by rw [ht]
   rw [List.getElem?_take, if_pos (by omega)] at this
   rw [← Array.getElem?_toList, this]
   simp [strsC]
  ·have e : cur.toList.take (l.length * 1) = (cur.toList.take ((l.length + 1) * 1)).take l.length := by rw [List.take_take]; congr 1; omega
   rw [e, ht]
   simp [strsC]
theorem grow_str {W wr w3 : World} {l : List Ln} {v v' : Value} {o : Obj} {s : Ln} (HO : OwnS W.heap.size wr v l) (hB : Below W.heap.size W wr)
  (hown : w3.ownsRow W.heap.size 9 1 v' (l.length + 1) (strsC l ++ [.string (bs s)])) (hgr : (wr.alloc o).grownBy w3 v.ownBlock) :
  OwnS W.heap.size w3 v' (l ++ [s]) ∧ Below W.heap.size W w3 ∧ ∃ q3 c3, v' = .slice q3 (l.length + 1) c3 := by
 have h : OwnS W.heap.size w3 v' (l ++ [s]) := by
  unfold OwnS
  rw [List.length_append, show strsC (l ++ [s]) = strsC l ++ [.string (bs s)] by simp [strsC]]
  exact hown
 refine ⟨h, Below.grown (hB.alloc hB.size _) hgr (by have := hB.size; simp; omega) (fun k hk => (HO.base k hk).1), ?_⟩
 obtain ⟨p, c, e⟩ := h.shape
 exact ⟨p, c, by rw [e]; simp⟩
end Go.Proofs.YtlcfpdmicpggbaaGreatDoor
namespace Go.Proofs.Spl
open Go.Proofs.Scn
def freeX (out : List Ln) (st : List X) : List Ln := (st.map targetsX).flatten.foldl addN out
theorem freeX_cons (out : List Ln) (x : X) (st : List X) : freeX out (x :: st) = freeX (if namedO x.op then addN out x.name else out) (x.l ++ st) := by
 obtain ⟨op, name, n, w, v, l⟩ := x
 show (targetsX (.mk op name n w v l) ++ (st.map targetsX).flatten).foldl addN out = freeX (if namedO op then addN out name else out) (l ++ st)
 unfold freeX
 rw [targetsX, targetsXs_flat, List.map_append, List.flatten_append]
 cases namedO op <;> simp
theorem freeX_one (x : X) : freeX [] [x] = firstN (targetsX x) := by simp [freeX, firstN]
theorem addN_in {out : List Ln} {s : Ln} (h : s ∈ out) : addN out s = out := by simp [addN, h]
theorem addN_new {out : List Ln} {s : Ln} (h : ¬ s ∈ out) : addN out s = out ++ [s] := by simp [addN, h]
theorem addN_length (out : List Ln) (s : Ln) : (addN out s).length ≤ out.length + 1 := by unfold addN; split <;> simp
theorem names_step (ts : List Tok) (k : Nat) (h : k < ts.length) : firstN (namesL (ts.take (k + 1))) = if ts[k].k = 1 then addN (firstN (namesL (ts.take k))) ts[k].s else firstN (namesL (ts.take k)) := by
 rw [List.take_succ_eq_append_getElem h, namesL_app]
 unfold firstN
 rw [List.foldl_append]
 by_cases h1 : ts[k].k = 1 <;> simp [namesL, h1]
end Go.Proofs.Spl
namespace Go.Proofs.YtlcfpdmicpggbaaGreatDoor
open Go.RowKit Go.Proofs.Spl Go.Proofs.Scn Go.Shelf
theorem OwnS.cells {B : Nat} {w : World} {q : Option Addr} {c : Nat} {l : List Ln} (h : OwnS B w (.slice q l.length c) l) :
  ∃ g, (0 < l.length → q = some ⟨g, 0, none⟩) ∧ (0 < l.length → g < w.heap.size) ∧ ∀ j (hj : j < l.length), w.cell? ⟨g, j, none⟩ = some (.string (bs l[j])) := by
 rcases h.2 with ⟨_, h0⟩ | ⟨g, cap, cur, hv, hB, hg, hn, hc, hs, ht⟩
 ·exact ⟨0, fun h => by omega, fun h => by omega, fun j hj => by omega⟩
 ·simp only [Value.slice.injEq] at hv
  obtain ⟨rfl, _, rfl⟩ := hv
  refine ⟨g, fun _ => rfl, fun _ => (Array.getElem?_eq_some_iff.1 hg).1, fun j hj => ?_⟩
  rw [cell_of_row w g j cur _ (0, 0) hg]
  have : (cur.toList.take (l.length * 1))[j]? = (strsC l)[j]? := by rw [ht]
  rw [List.getElem?_take, if_pos (by omega)] at this
  rw [← Array.getElem?_toList, this]
  simp [strsC, hj]
theorem amongS_any (B : Nat) (q : Option Addr) (c : Nat) (l : List Ln) (s : Ln) (W : World) (hO : OwnS B W (.slice q l.length c) l) (hl : l.length ≤ 10000000) :
  RetB 35 #[.slice q l.length c, .string (bs s)] W (decide (s ∈ l)) := by
 obtain ⟨g, hq, hlt, hc⟩ := hO.cells
 have HQ := Lib.hid hq
 have HC := Lib.hid (fun (W9 : World) (hb : Below W.heap.size W W9) k (h : k < l.length) => show W9.cell? ⟨g, k, none⟩ = some (.string (bs l[k])) from (hb.cell (p := ⟨g, k, none⟩) (hlt (by omega))).trans (hc k h))
 have HF := Lib.hid (show ∀ k, (∀ j (h : j < l.length), j < k → l[j] ≠ s) → l.length ≤ k → decide (s ∈ l) = false from fun k h1 h2 => decide_eq_false fun h => by
  obtain ⟨j, hj, e⟩ := List.mem_iff_getElem.1 h
  exact h1 j hj (by omega) e)
 have HT := Lib.hid (show ∀ k (h : k < l.length), l[k] = s → decide (s ∈ l) = true from fun k h e => decide_eq_true (e ▸ List.getElem_mem h))
 generalize decide (s ∈ l) = R at *
 clear hq hc hO hlt
 unfold RetB
 go_enter Tryz.func35, Tryz.ntmps35
 go_wp2
 go_loopw [5] (fun i wr => ∃ k : Nat, k ≤ l.length ∧ i = .int .i64 k ∧ Hid (∀ j (h : j < l.length), j < k → l[j] ≠ s) ∧ Hid (Below W.heap.size W wr)) (fun i _ => l.length - (intOf i).toNat)
 case atStart => exact ⟨0, Nat.zero_le _, rfl, Lib.hid (fun j _ h => by omega), Lib.hid (Below.refl _ _)⟩
 case round =>
  obtain ⟨k, hk, rfl, HN, HX⟩ := hrel
  by_cases hks : k < l.length
  case neg =>
   have hk2 : k = l.length := by omega
   subst hk2
   go_wp2
   go_ret
   exact ⟨congrArg (fun b => Ending.returned (Value.bool b)) (HF.out _ HN.out (Nat.le_refl _)).symm, HX.out⟩
  obtain rfl := HQ.out (by omega)
  have x0 := HC.out _ HX.out k hks
  have HT2 := Lib.hid (HT.out k hks)
  have HN2 := Lib.hid (show l[k] ≠ s → ∀ j (h : j < l.length), j < k + 1 → l[j] ≠ s from fun h1 j h h2 => by
   by_cases e : j = k
   ·subst e; exact h1
   ·exact HN.out j h (by omega))
  have HE := Lib.hid (show ((bs l[k]).toList == (bs s).toList) = decide (l[k] = s) by rw [toList_eq, toList_eq, list_bs, list_bs, Bool.eq_iff_iff]; simp)
  generalize l[k] = a at *
  by_cases ha : a = s
  ·have HE2 := HE.out
   rw [decide_eq_true ha] at HE2
   have HR := Lib.hid (HT2.out ha)
   clear HE HN2 HN HT2
   go_wp2
   go_ret
   exact ⟨congrArg (fun b => Ending.returned (Value.bool b)) HR.out.symm, HX.out⟩
  ·have HE2 := HE.out
   rw [decide_eq_false ha] at HE2
   have HR := Lib.hid (HN2.out ha)
   clear HE HN2 HN HT2
   go_wp2
   go_roundw
   case rel => exact ⟨k + 1, by omega, by go_num, HR, HX⟩
   case measure => simp [intOf]; omega
theorem texts_any (B C : Nat) (p q : Option Addr) (c d : Nat) (l m : List Ln) (W : World) (hO : OwnS B W (.slice p l.length c) l) (hO2 : OwnS C W (.slice q m.length d) m) (hl : l.length ≤ 10000000) (hm : m.length ≤ 10000000) :
  RetB 36 #[.slice p l.length c, .slice q m.length d] W (decide (l = m)) := by
 obtain ⟨g, hq, hlt, hc⟩ := hO.cells
 obtain ⟨g2, hq2, hlt2, hc2⟩ := hO2.cells
 clear hO hO2
 unfold RetB
 by_cases hn : l.length = m.length
 case neg =>
  have hd : decide (l = m) = false := decide_eq_false fun h => hn (by rw [h])
  rw [hd]
  have hn1 : ¬ ((l.length : Int) = (m.length : Int)) := by omega
  clear hq hc hq2 hc2 hd hlt hlt2
  go_enter Tryz.func36, Tryz.ntmps36
  go_wp2
  go_ret
  exact ⟨rfl, Below.refl _ _⟩
 have HQ := Lib.hid hq
 have HC := Lib.hid (fun (W9 : World) (hb : Below W.heap.size W W9) k (h : k < l.length) => show W9.cell? ⟨g, k, none⟩ = some (.string (bs l[k])) from (hb.cell (p := ⟨g, k, none⟩) (hlt (by omega))).trans (hc k h))
 have HQ2 := Lib.hid hq2
 have HC2 := Lib.hid (fun (W9 : World) (hb : Below W.heap.size W W9) k (h : k < m.length) => show W9.cell? ⟨g2, k, none⟩ = some (.string (bs m[k])) from (hb.cell (p := ⟨g2, k, none⟩) (hlt2 (by omega))).trans (hc2 k h))
 have HM := Lib.hid hn
 have HF := Lib.hid (show ∀ k (h : k < l.length) (h2 : k < m.length), l[k] ≠ m[k] → decide (l = m) = false from fun k h1 h2 h3 => decide_eq_false fun h => by subst h; exact h3 rfl)
 have HT := Lib.hid (show ∀ k, (∀ j (h : j < l.length) (h2 : j < m.length), j < k → l[j] = m[j]) → l.length ≤ k → decide (l = m) = true from fun k h e => decide_eq_true (List.ext_getElem hn fun j h1 h2 => h j h1 h2 (by omega)))
 generalize decide (l = m) = R at *
 clear hq hc hq2 hc2 hlt hlt2
 go_enter Tryz.func36, Tryz.ntmps36
 rw [← hn]
 clear hn
 go_wp2
 go_loopw [5] (fun i wr => ∃ k : Nat, k ≤ l.length ∧ i = .int .i64 k ∧ Hid (∀ j (h : j < l.length) (h2 : j < m.length), j < k → l[j] = m[j]) ∧ Below W.heap.size W wr) (fun i _ => l.length - (intOf i).toNat)
 case atStart => exact ⟨0, Nat.zero_le _, rfl, Lib.hid (fun j _ _ h => by omega), Below.refl _ _⟩
 case round =>
  obtain ⟨k, hk, rfl, HN, hX⟩ := hrel
  have HX := Lib.hid hX
  by_cases hks : k < l.length
  case neg =>
   have hk2 : k = l.length := by omega
   subst hk2
   go_wp2
   go_ret
   exact ⟨congrArg (fun b => Ending.returned (Value.bool b)) (HT.out _ HN.out (Nat.le_refl _)).symm, HX.out⟩
  obtain rfl := HQ.out (by omega)
  obtain rfl := HQ2.out (by have := HM.out; omega)
  have hkm : k < m.length := by have := HM.out; omega
  have x0 := HC.out _ HX.out k hks
  have x1 := HC2.out _ HX.out k hkm
  have HF2 := Lib.hid (HF.out k hks hkm)
  have HN2 := Lib.hid (show l[k] = m[k] → ∀ j (h : j < l.length) (h2 : j < m.length), j < k + 1 → l[j] = m[j] from fun h1 j h h2 h3 => by
   by_cases e : j = k
   ·subst e; exact h1
   ·exact HN.out j h h2 (by omega))
  have HE := Lib.hid (show ((bs l[k]).toList == (bs m[k]).toList) = decide (l[k] = m[k]) by rw [toList_eq, toList_eq, list_bs, list_bs, Bool.eq_iff_iff]; simp)
  generalize l[k] = a at *
  generalize m[k] = b at *
  by_cases ha : a = b
  case neg =>
   have HE2 := HE.out
   rw [decide_eq_false ha] at HE2
   have HR := Lib.hid (HF2.out ha)
   clear HE HN2 HN HF2
   go_wp2_with fail
   go_region_held3 (fun w' => w'.cell? ⟨g, k, none⟩ = some (.string (bs a)) ∧ w'.cell? ⟨g2, k, none⟩ = some (.string (bs b)))
    (first | exact ⟨x0, x1⟩ | go_keep) (fail)
   go_wp2_with fail
   go_ret
   exact ⟨congrArg (fun b => Ending.returned (Value.bool b)) HR.out.symm, (HX.out).drew⟩
  ·have HE2 := HE.out
   rw [decide_eq_true ha] at HE2
   have HR := Lib.hid (HN2.out ha)
   clear HE HN2 HN HF2
   go_wp2_with fail
   go_region_held3 (fun w' => w'.cell? ⟨g, k, none⟩ = some (.string (bs a)) ∧ w'.cell? ⟨g2, k, none⟩ = some (.string (bs b)))
    (first | exact ⟨x0, x1⟩ | go_keep) (fail)
   go_wp2_with fail
   go_roundw
   case rel => exact ⟨k + 1, by omega, by go_num, HR, HX.out.drew⟩
   case measure => simp [intOf]; omega
end Go.Proofs.YtlcfpdmicpggbaaGreatDoor
namespace Go.Proofs.YtlcfpdmicpggbaaGreatDoor
open Go.RowKit Go.Proofs.Spl Go.Proofs.Scn Go.Shelf
attribute [local go_sem] Oper.semAt_some
abbrev RowX := X × Option Addr × Nat
def rowV (r : RowX) : List Value := [.int .i64 r.1.op, .string (bs r.1.name), .int .i64 r.1.n, .int .i64 r.1.w, .int .u64 r.1.v, .slice r.2.1 r.1.l.length r.2.2]
def RowOk (W : World) (r : RowX) : Prop := XR W r.1 (rowV r)
theorem row_of {W : World} {x : X} {cs : List Value} (h : XR W x cs) : ∃ p c, cs = rowV (x, p, c) ∧ RowOk W (x, p, c) := by
 obtain ⟨op, name, n, w, v, l⟩ := x
 have h' := h
 rw [XR] at h'
 obtain ⟨hv, p, c, rfl, h1, h2⟩ := h'
 exact ⟨p, c, rfl, h⟩
theorem kids_of {W : World} {r : RowX} (h : RowOk W r) : ∃ rs : List RowX, rs.map Prod.fst = r.1.l ∧ (∀ s ∈ rs, RowOk W s) ∧ rs.length = r.1.l.length ∧
  (0 < rs.length → ∃ b off, r.2.1 = some ⟨b, off, none⟩ ∧ b < W.heap.size ∧ ∀ k (h : k < rs.length), ∀ j, j < 6 → W.cell? ⟨b, off + k * 6 + j, none⟩ = (rowV rs[k])[j]?) := by
 obtain ⟨⟨op, name, n, w, v, l⟩, p0, c0⟩ := r
 unfold RowOk at h
 rw [XR] at h
 obtain ⟨hv, p, c, he, h1, h2⟩ := h
 simp only [rowV, List.cons.injEq, Value.slice.injEq, and_true, true_and, X.l] at he
 obtain ⟨rfl, rfl⟩ := he.2.2.2.2.2
 show ∃ rs : List RowX, rs.map Prod.fst = l ∧ (∀ s ∈ rs, RowOk W s) ∧ rs.length = l.length ∧
  (0 < rs.length → ∃ b off, p0 = some ⟨b, off, none⟩ ∧ b < W.heap.size ∧ ∀ k (h : k < rs.length), ∀ j, j < 6 → W.cell? ⟨b, off + k * 6 + j, none⟩ = (rowV rs[k])[j]?)
 rcases h2 with rfl | ⟨b, off, h3, h4, h5⟩
 ·exact ⟨[], rfl, (fun s hs => by cases hs), rfl, (fun h => absurd h (by simp))⟩
 ·rw [XRs_rows] at h5
  have hp : ∀ k (hk : k < l.length), ∃ s : RowX, s.1 = l[k] ∧ RowOk W s ∧ ∀ j, j < 6 → W.cell? ⟨b, off + k * 6 + j, none⟩ = (rowV s)[j]? := by
   intro k hk
   obtain ⟨cs, g1, g2⟩ := h5 k hk
   obtain ⟨p, c, rfl, g3⟩ := row_of g1
   exact ⟨_, rfl, g3, g2⟩
  have hf : ∀ k : Fin l.length, ∃ s : RowX, s.1 = l[k.1] ∧ RowOk W s ∧ ∀ j, j < 6 → W.cell? ⟨b, off + k.1 * 6 + j, none⟩ = (rowV s)[j]? := fun k => hp k.1 k.2
  let f := fun k => Classical.choose (hf k)
  have hfs : ∀ k, (f k).1 = l[k.1] ∧ RowOk W (f k) ∧ ∀ j, j < 6 → W.cell? ⟨b, off + k.1 * 6 + j, none⟩ = (rowV (f k))[j]? := fun k => Classical.choose_spec (hf k)
  refine ⟨List.ofFn f, ?_, ?_, by simp, fun _ => ⟨b, off, h3, h4, ?_⟩⟩
  ·apply List.ext_getElem
   ·simp
   ·intro i h1 h2
    simp only [List.getElem_map, List.getElem_ofFn]
    exact (hfs ⟨i, by simpa using h2⟩).1
  ·intro s hs
   rw [List.mem_ofFn] at hs
   obtain ⟨k, rfl⟩ := hs
   exact (hfs k).2.1
  ·intro k hk j hj
   rw [List.getElem_ofFn]
   exact (hfs ⟨k, by simpa using hk⟩).2.2 j hj
def bkX (l : List RowX) (k : Nat) : Int × RowX := ((l.length : Int) - 1 - k, l[l.length - 1 - k]?.getD (.mk 0 [] 0 0 0 [], none, 0))
def bkXs (l : List RowX) (k : Nat) : List (Int × RowX) := (List.range k).map (bkX l)
theorem bkXs_succ (l : List RowX) (k : Nat) : bkXs l (k + 1) = bkXs l k ++ [bkX l k] := by simp [bkXs, List.range_succ]
theorem bkXs_length (l : List RowX) (k : Nat) : (bkXs l k).length = k := by simp [bkXs]
theorem bkXs_map (l : List RowX) {k : Nat} (h : k ≤ l.length) : (bkXs l k).map Prod.snd = l.reverse.take k := by
 apply List.ext_getElem
 ·simp [bkXs]; omega
 ·intro i h1 h2
  have hi : i < k := by simpa [bkXs] using h1
  have h3 : l.length - 1 - i < l.length := by omega
  simp [bkXs, bkX, List.getElem?_eq_getElem h3]
def encX (x : Int × RowX) : Array Value := #[.int .i64 x.1, .agg (rowV x.2).toArray]
def KpB (C Bs : Nat) (W W' : World) : Prop := Below C W W' ∧ W'.heap[Bs]? = W.heap[Bs]?
theorem KpB.refl (C Bs : Nat) (W : World) : KpB C Bs W W := ⟨Below.refl _ _, rfl⟩
theorem KpB.trans {C Bs : Nat} {A B D : World} (h : KpB C Bs A B) (k : KpB C Bs B D) : KpB C Bs A D := ⟨h.1.trans k.1, k.2.trans h.2⟩
theorem KpB.book {C Bs : Nat} {w : World} (hC : C ≤ w.heap.size) (hB : Bs < w.heap.size) (W : World) (l : Nat) (o o' : Obj) (hl : w.heap.size ≤ l) (h : W.heap[l]? = some o) (h1 : o.isCells = false) (h2 : o.isWalk = false) : KpB C Bs W (W.putObj l o') :=
 ⟨belowK_b hC W l o o' hl h h1 h2, World.putObj_heap_other (by omega)⟩
theorem KpB.cell {C Bs : Nat} {W W' : World} (h : KpB C Bs W W') {v : Value} (hc : W.cell? ⟨Bs, 0, none⟩ = some v) : W'.cell? ⟨Bs, 0, none⟩ = some v := by
 rw [← hc]
 unfold World.cell?
 rw [show W'.heap[(⟨Bs, 0, none⟩ : Addr).block]? = W.heap[(⟨Bs, 0, none⟩ : Addr).block]? from h.2]
theorem backX_in (F : Fence) (n : Nat) (hf : F.fn 145) (hro : F.round = none) (hn : 1 ≤ n) (l Bs C : Nat) (pc : Option Addr) (cc : Nat) (xc : List RowX) (hlen : xc.length ≤ 100000) (J Jx : List (Int × RowX) → World → Prop)
  (hY : ∀ pre x W, J pre W → pre.length < xc.length → YieldAt F (n - 1) Tryz.prog l (encX x) W fun e W' =>
   (e = .returned (.bool true) ∧ J (pre ++ [x]) W' ∧ KpB C Bs W W') ∨ (e = .returned (.bool false) ∧ Jx (pre ++ [x]) W'))
  (W : World) (hBs : W.cell? ⟨Bs, 0, none⟩ = some (.slice pc xc.length cc)) (hc : 0 < xc.length → ∃ b off, pc = some ⟨b, off, none⟩ ∧ b < C ∧ ∀ k (h : k < xc.length), ∀ j, j < 6 → W.cell? ⟨b, off + k * 6 + j, none⟩ = (rowV xc[k])[j]?) (h0 : J [] W) :
  CallsIn F n Tryz.prog 145 #[.func (.yield l) #[] #[], .pointer (some ⟨Bs, 0, none⟩)] W fun e W' => (∃ v, e = .returned v) ∧
   ((∃ ys, ys = bkXs xc xc.length ∧ J ys W') ∨ (∃ pre, (∃ k, k ≤ xc.length ∧ pre = bkXs xc k) ∧ Jx pre W')) := by
 refine callsIn_of_wp Tryz.func145 rfl hf ?_ hro
 simp only [Tryz.ntmps145, List.size_toArray, List.length_cons, List.length_nil, Nat.reduceAdd, Nat.reduceSub, Array.replicate_succ, Array.replicate_zero, List.push_toArray, List.append_toArray, List.nil_append, List.cons_append]
 have HC := Lib.hid hc
 have HY := Lib.hid hY
 have HBS := Lib.hid hBs
 clear hc hY
 gi_wp2
 gi_loopw [3] (fun i wr => ∃ k : Nat, k ≤ xc.length ∧ i = .int .i64 ((xc.length : Int) - 1 - k) ∧ J (bkXs xc k) wr ∧ KpB C Bs W wr)
  (fun i _ => (intOf i + 1).toNat)
 case atStart => exact ⟨0, Nat.zero_le _, by simp, h0, KpB.refl _ _ _⟩
 case round =>
  obtain ⟨k, hk, rfl, hJs, hnx⟩ := hrel
  have hBs' := hnx.cell HBS.out
  by_cases hlt : k < xc.length
  ·obtain ⟨b, off, rfl, hb, hcs⟩ := HC.out (by omega)
   obtain ⟨m, hm⟩ : ∃ m : Nat, xc.length - 1 - k = m := ⟨_, rfl⟩
   have hmi : (xc.length : Int) - 1 - k = m := by omega
   have hml : m < xc.length := by omega
   have hx : ∀ j, j < 6 → wr.cell? ⟨b, off + m * 6 + j, none⟩ = (rowV xc[m])[j]? := fun j hj => (hnx.1.cell (p := ⟨b, off + m * 6 + j, none⟩) hb).trans (hcs m hml j hj)
   have x0 := hx 0 (by omega)
   have x1 := hx 1 (by omega)
   have x2 := hx 2 (by omega)
   have x3 := hx 3 (by omega)
   have x4 := hx 4 (by omega)
   have x5 := hx 5 (by omega)
   have hbk : bkX xc k = ((m : Int), xc[m]) := by
    unfold bkX
    rw [hm, hmi, List.getElem?_eq_getElem hml]
    rfl
   obtain ⟨fn, tmps, assign, body, hy, hR⟩ := HY.out _ (bkX xc k) wr hJs (by rw [bkXs_length]; exact hlt)
   rw [← bkXs_succ] at hR
   rw [hbk] at hy
   unfold encX at hy
   rw [hmi]
   clear hcs hx
   generalize xc[m] = c at *
   simp only [rowV, List.getElem?_cons_zero, List.getElem?_cons_succ, Nat.add_zero] at hy x0 x1 x2 x3 x4 x5
   generalize c.1.l.length = cl at *
   generalize c.1.op = c0 at *
   generalize c.1.name = c1 at *
   generalize c.1.n = c2 at *
   generalize c.1.w = c3 at *
   generalize c.1.v = c4 at *
   generalize c.2.1 = c5 at *
   generalize c.2.2 = c6 at *
   have HM := Lib.hid hmi
   have HJ := Lib.hid hJs
   have HN := Lib.hid hnx
   clear hbk hm hmi hJs hnx hBs HY HC
   gi_wp2
   refine hR.mono ?_
   rintro e W3 (⟨rfl, hJ3, hk3⟩ | ⟨rfl, hJx3⟩)
   ·gi_wp2
    go_roundw
    case rel => exact ⟨k + 1, by omega, by rw [show (m : Int) - 1 = (xc.length : Int) - 1 - ((k + 1 : Nat) : Int) by have := HM.out; omega], hJ3, HN.out.trans hk3⟩
    case measure => simp [intOf]
   ·gi_wp2
    refine bodyPost_ret (results_none rfl _ _ _) rfl ?_
    exact ⟨⟨_, rfl⟩, .inr ⟨_, ⟨k + 1, by omega, rfl⟩, hJx3⟩⟩
  ·obtain rfl : k = xc.length := by omega
   have hz : (xc.length : Int) - 1 - (xc.length : Int) = -1 := by omega
   rw [hz]
   clear HC HY
   gi_wp2
   go_end0
   exact ⟨⟨_, rfl⟩, .inl ⟨_, rfl, hJs⟩⟩
theorem backX_stops (F : Fence) (n : Nat) (hf : F.fn 145) (hro : F.round = none) (hn : 1 ≤ n) (Bs C : Nat) (pc : Option Addr) (cc : Nat) (xc : List RowX) (hlen : xc.length ≤ 100000) (w : World) (hBn : Bs < w.heap.size) (hC : C ≤ w.heap.size)
  (hBs : w.cell? ⟨Bs, 0, none⟩ = some (.slice pc xc.length cc)) (hc : 0 < xc.length → ∃ b off, pc = some ⟨b, off, none⟩ ∧ b < C ∧ ∀ k (h : k < xc.length), ∀ j, j < 6 → w.cell? ⟨b, off + k * 6 + j, none⟩ = (rowV xc[k])[j]?) :
  SeqStopsK F n Tryz.prog 145 #[.pointer (some ⟨Bs, 0, none⟩)] encX (KpB C Bs) (fun ys => ys = bkXs xc xc.length)
   (fun pre => ∃ k, k ≤ xc.length ∧ pre = bkXs xc k) xc.length w := fun l J Jx W hW _ _ hY h0 => by
 refine backX_in F n hf hro hn l Bs C pc cc xc hlen J Jx hY W ((hW.cell (p := ⟨Bs, 0, none⟩) hBn).trans hBs) ?_ h0
 intro h
 obtain ⟨b, off, h1, h2, h3⟩ := hc h
 exact ⟨b, off, h1, h2, fun k hk j hj => (hW.cell (p := ⟨b, off + k * 6 + j, none⟩) (by show b < _; omega)).trans (h3 k hk j hj)⟩
theorem backwardX_any (pc : Option Addr) (n cc : Nat) (W : World) :
  Calls Tryz.prog 76 #[.slice pc n cc] W fun e W' => e = .returned (.func (.func 145) #[] #[.pointer (some ⟨W.heap.size, 0, none⟩)]) ∧ W.alloc (.cells #[.slice pc n cc] 26) = W' := by
 go_enter Tryz.func76, Tryz.ntmps76
 go_wp2
 go_ret
 exact ⟨rfl, rfl⟩
end Go.Proofs.YtlcfpdmicpggbaaGreatDoor
namespace Go.Cal
open Go
def calmOp : Op → Bool
 | .move _ | .assign _ | .pick _ _ _ | .alloc _ | .box _ _ | .build _ _ | .buildSlice _ _ _ | .load _ _ | .store _ _ _ | .binOp _ _ _ _ _ | .unOp _ _ _ | .convert _ _ _ | .slice _ _ _ _ _ | .fieldAddr _ _ _ | .field _ _ _ | .indexAddr _ _ _ | .index _ _ _ | .extract _ _ => true
 | .call c => match c.callee with
  | .builtin .append | .builtin .len | .builtin .cap => true
  | _ => false
 | _ => false
theorem calm_defer {o : Oper} (h : calmOp o.op = true) : ∀ c, o.op ≠ .defer c := fun c e => by rw [e] at h; cases h
theorem calm_select {o : Oper} (h : calmOp o.op = true) : ∀ cs b, o.op ≠ .select cs b := fun c b e => by rw [e] at h; cases h
def stepO (P : Program) (ops : Array Oper) (i : Nat) (a : Act) (w : World) : Option (Act × World) :=
 match ops[i]? with
 | none => some (a, w)
 | some o => if Region.wanted o (yielded ops a.tmps) = true then
   (match (execOp a.eval o).run P w with
   | .ok (.value v) w' => some (a.put o.dst v, w')
   | .ok .skip w' => some (a.put o.dst undef, w')
   | _ => none)
  else some (a.put o.dst undef, w)
def AllCalm (ops : Array Oper) : Prop := ∀ (i : Nat) (o : Oper), ops[i]? = some o → calmOp o.op = true
theorem allCalm {ops : Array Oper} (h : ops.all (fun o => calmOp o.op) = true) : AllCalm ops := fun i o ho => Array.all_eq_true_iff_forall_mem.1 h o (Array.mem_of_getElem? ho)
theorem stepO_in {P : Program} {ops : Array Oper} (hc : AllCalm ops) {r n i : Nat} {a a' : Act} {w w' : World} {K : Act → World → Prop} {Q : Exit → Act → World → Prop} (h : stepO P ops i a w = some (a', w')) (hK : K a' w') :
  wpOpIn (Fence.wide.inRound r) n P ops Q i K a w := by
 unfold stepO at h
 unfold wpOpIn
 cases ho : ops[i]? with
 | none =>
  rw [ho] at h
  simp only [Option.some.injEq, Prod.mk.injEq] at h
  obtain ⟨rfl, rfl⟩ := h
  exact hK
 | some o =>
  rw [ho] at h
  simp only at h ⊢
  split
  ·rename_i hw
   rw [if_pos hw] at h
   unfold Oper.wpIn
   refine ⟨fun f _ => trivial, ?_⟩
   rw [Oper.semAt_eq _ _ _ (calm_defer (hc i o ho))]
   cases hr : (execOp a.eval o).run P w with
   | ok x w1 =>
    rw [hr] at h
    cases x <;> first
     | (simp only [Option.some.injEq, Prod.mk.injEq] at h; obtain ⟨rfl, rfl⟩ := h; exact hK)
     | (simp at h; done)
   | halt x w1 => rw [hr] at h; cases h
  ·rename_i hw
   rw [if_neg hw] at h
   simp only [Option.some.injEq, Prod.mk.injEq] at h
   obtain ⟨rfl, rfl⟩ := h
   exact ⟨fun f _ => trivial, hK⟩
def Any (P : Program) (md : Region.Mode) (ops : Array Oper) (S : World → Prop) (U : List Nat) (R : Act → World → Prop) : Nat → Array Bool → Act → World → Prop
 | 0, listed, a, w => Region.ready md ops listed = [] ∧ R a w
 | fuel + 1, listed, a, w => (Region.ready md ops listed = [] → R a w) ∧
  ∀ i ∈ Region.ready md ops listed, ∃ a' w', stepO P ops i a w = some (a', w') ∧ ((∀ u ∈ U, (listed.setIfInBounds i true).getD u true = false) → S w') ∧ Any P md ops S U R fuel (listed.setIfInBounds i true) a' w'
theorem Any.sound {P : Program} {md : Region.Mode} {ops : Array Oper} {S : World → Prop} {U : List Nat} {R : Act → World → Prop} {Q : Exit → Act → World → Prop} (hc : AllCalm ops) (hQ : ∀ a w, R a w → Q .normal a w) {r n : Nat} :
  ∀ (fuel : Nat) (listed : Array Bool) (a : Act) (w : World), Any P md ops S U R fuel listed a w → wpAnyIn (Fence.wide.inRound r) n P md ops Q fuel listed a w
 | 0, _, _, _, h => ⟨h.1, hQ _ _ h.2⟩
 | fuel + 1, _, _, _, h => ⟨fun h0 => hQ _ _ (h.1 h0), fun i hi => by
   obtain ⟨a', w', h1, _, h2⟩ := h.2 i hi
   exact stepO_in hc h1 (Any.sound hc hQ fuel _ a' w' h2)⟩
theorem region_any {P : Program} {ops : Array Oper} {S : World → Prop} {U : List Nat} {R : Act → World → Prop} {Q : Exit → Act → World → Prop} {id r n : Nat} {a : Act} {w : World} (hm : P.follows .mixedOrders = true) (hc : ops.all (fun o => calmOp o.op) = true)
  (hQ : ∀ a w, R a w → Q .normal a w) (h : Any P .any ops S U R ops.size (Array.replicate ops.size false) a w.drew) : (Code.region id ops true).wpIn (Fence.wide.inRound r) n P Q a w :=
 wpIn_region_any hm (Any.sound (allCalm hc) hQ _ _ _ _ h)
theorem Any.mono {P : Program} {md : Region.Mode} {ops : Array Oper} {S : World → Prop} {U : List Nat} {R R' : Act → World → Prop} (h : ∀ a w, R a w → R' a w) :
  ∀ {fuel : Nat} {listed : Array Bool} {a : Act} {w : World}, Any P md ops S U R fuel listed a w → Any P md ops S U R' fuel listed a w
 | 0, _, _, _, hh => ⟨hh.1, h _ _ hh.2⟩
 | fuel + 1, _, _, _, hh => ⟨fun h0 => h _ _ (hh.1 h0), fun i hi => by
   obtain ⟨a', w', h1, h2, h3⟩ := hh.2 i hi
   exact ⟨a', w', h1, h2, Any.mono h h3⟩⟩
theorem stepO_put {P : Program} {ops : Array Oper} {oi oj : Oper} {v : Value} {j : Nat} (hc : AllCalm ops) (hj : ops[j]? = some oj) (hap : oi.apart ops oj = true) {a a1 : Act} {w w1 : World} (h : stepO P ops j (a.put oi.dst v) w = some (a1, w1)) :
  ∃ u, stepO P ops j a w = some (a.put oj.dst u, w1) ∧ a1 = (a.put oj.dst u).put oi.dst v := by
 obtain ⟨h1, h2, h3⟩ := Oper.apart_spec hap
 have hsel := calm_select (hc j oj hj)
 unfold stepO at *
 simp only [hj] at h ⊢
 rw [wanted_put oj a oi.dst v h1, execOp_put oj hsel a oi.dst v h1] at h
 split
 ·rename_i hw
  rw [if_pos hw] at h
  cases hr : (execOp a.eval oj).run P w with
  | ok x w2 =>
   rw [hr] at h
   cases x <;> first
    | (simp only [Option.some.injEq, Prod.mk.injEq] at h; obtain ⟨rfl, rfl⟩ := h; exact ⟨_, rfl, (Act.put_comm a v _ h2)⟩)
    | (simp at h; done)
  | halt x w2 => rw [hr] at h; cases h
 ·rename_i hw
  rw [if_neg hw] at h
  simp only [Option.some.injEq, Prod.mk.injEq] at h
  obtain ⟨rfl, rfl⟩ := h
  exact ⟨_, rfl, Act.put_comm a v _ h2⟩
def Gives (P : Program) (ops : Array Oper) (T : World → Prop) (oi : Oper) (v : Value) (a : Act) : Prop := Region.wanted oi (yielded ops a.tmps) = true ∧ ∀ w, T w → (execOp a.eval oi).run P w = .ok (.value v) w
theorem Gives.step {P : Program} {ops : Array Oper} {T : World → Prop} {oi : Oper} {v : Value} {a : Act} {i : Nat} {w : World} (h : Gives P ops T oi v a) (hi : ops[i]? = some oi) (hw : T w) : stepO P ops i a w = some (a.put oi.dst v, w) := by
 unfold stepO
 simp only [hi, if_pos h.1, h.2 w hw]
theorem Gives.put {P : Program} {ops : Array Oper} {T : World → Prop} {oi oj : Oper} {v : Value} {a : Act} (hs : ∀ cs b, oi.op ≠ .select cs b) (h : Gives P ops T oi v a) (h3 : ∀ d, oj.dst = some d → d ∉ oi.looksAt ops) (u : Value) : Gives P ops T oi v (a.put oj.dst u) :=
 ⟨by rw [wanted_put oi a oj.dst u h3]; exact h.1, fun w hw => by rw [execOp_put oi hs a oj.dst u h3]; exact h.2 w hw⟩
theorem take_aux {P : Program} {md : Region.Mode} {ops : Array Oper} {S T : World → Prop} {U : List Nat} {R : Act → World → Prop} {i : Nat} {oi : Oper} {v : Value} (hc : AllCalm ops) (hi : ops[i]? = some oi) (hiU : i ∉ U)
  (hT : (∀ w, T w) ∨ ((∀ w, S w → T w) ∧ ∀ u ∈ U, ∀ o, ops[u]? = some o → ∃ e ∈ o.after, Region.binds md e = true ∧ e.on = i)) :
  ∀ (fuel : Nat) (listed : Array Bool) (a : Act) (w : World),
   (∀ j oj, ops[j]? = some oj → j ≠ i → listed.getD j true = false → (∀ e ∈ oj.after, Region.binds md e = true → e.on ≠ i) → oi.apart ops oj = true) →
   i ∈ Region.ready md ops listed → Gives P ops T oi v a → ((∀ w, T w) ∨ ∀ u ∈ U, listed.getD u true = false) → ((∀ u ∈ U, listed.getD u true = false) → S w) →
   Any P md ops S U R fuel (listed.setIfInBounds i true) (a.put oi.dst v) w → Any P md ops S U R (fuel + 1) listed a w := by
 intro fuel
 have hset : ∀ (listed : Array Bool) (k : Nat), k ∉ U → ((∀ u ∈ U, (listed.setIfInBounds k true).getD u true = false) ↔ ∀ u ∈ U, listed.getD u true = false) := fun listed k hk =>
  ⟨fun h u hu => by rw [← h u hu, getD_set_ne true (fun e => hk (by rw [e]; exact hu))], fun h u hu => by rw [← h u hu, getD_set_ne true (fun e => hk (by rw [e]; exact hu))]⟩
 have hTw : ∀ (listed : Array Bool) (w : World), ((∀ w, T w) ∨ ∀ u ∈ U, listed.getD u true = false) → ((∀ u ∈ U, listed.getD u true = false) → S w) → T w := fun listed w h1 h2 => by
  rcases h1 with h1 | h1
  ·exact h1 w
  ·rcases hT with hT | hT
   ·exact hT w
   ·exact hT.1 w (h2 h1)
 induction fuel with
 | zero =>
  intro listed a w _ hr hy hl hS H
  refine ⟨fun h => (by rw [h] at hr; cases hr), fun j hj => ?_⟩
  by_cases hji : j = i
  ·subst hji
   exact ⟨_, _, hy.step hi (hTw listed w hl hS), fun h => hS ((hset listed j hiU).1 h), H⟩
  ·have := ready_mono hj hji
   rw [H.1] at this
   cases this
 | succ fuel ih =>
  intro listed a w hfree hr hy hl hS H
  refine ⟨fun h => (by rw [h] at hr; cases hr), fun j hj => ?_⟩
  by_cases hji : j = i
  ·subst hji
   exact ⟨_, _, hy.step hi (hTw listed w hl hS), fun h => hS ((hset listed j hiU).1 h), H⟩
  ·obtain ⟨a1, w1, h1, hS1, H1⟩ := H.2 j (ready_mono hj hji)
   obtain ⟨hjun, oj, hoj, hall⟩ := mem_ready.1 hj
   have hnot : ∀ e ∈ oj.after, Region.binds md e = true → e.on ≠ i := fun e he hb heq => by
    have h1 := hall e he hb
    have h0 := (mem_ready.1 hr).1
    rw [heq] at h1
    rcases Nat.lt_or_ge i listed.size with h' | h'
    ·simp [h'] at h0 h1; rw [h0] at h1; cases h1
    ·simp [Array.getElem?_eq_none h'] at h1
   have hap := hfree j oj hoj hji hjun hnot
   obtain ⟨u, h2, rfl⟩ := stepO_put hc hoj hap h1
   have hjsz : j < listed.size := by
    rcases Nat.lt_or_ge j listed.size with h' | h'
    ·exact h'
    ·rw [Array.getD_eq_getD_getElem?, Array.getElem?_eq_none h'] at hjun; cases hjun
   have hcomm : (listed.setIfInBounds i true).setIfInBounds j true = (listed.setIfInBounds j true).setIfInBounds i true := (Array.setIfInBounds_comm _ _ hji).symm
   rw [hcomm] at H1 hS1
   have hSj : (∀ u ∈ U, (listed.setIfInBounds j true).getD u true = false) → S w1 := fun h => hS1 ((hset _ i hiU).2 h)
   refine ⟨_, _, h2, hSj, ih (listed.setIfInBounds j true) _ w1 ?_ (ready_mono hr (Ne.symm hji)) (hy.put (calm_select (hc i oi hi)) (Oper.apart_spec hap).2.2 u) ?_ hSj H1⟩
   ·intro k ok hk hki hun hno
    refine hfree k ok hk hki ?_ hno
    by_cases hjk : j = k
    ·subst hjk; exact hjun
    ·rw [getD_set_ne true hjk] at hun; exact hun
   ·rcases hT with hT | hT
    ·exact .inl hT
    ·rcases hl with hl | hl
     ·exact .inl hl
     ·by_cases hjU : j ∈ U
      ·obtain ⟨e, he, hb, heq⟩ := hT.2 j hjU oj hoj
       exact absurd heq (hnot e he hb)
      ·exact .inr ((hset listed j hjU).2 hl)
theorem Any.take {P : Program} {md : Region.Mode} {ops : Array Oper} {S : World → Prop} {U : List Nat} {R : Act → World → Prop} {i fuel : Nat} {oi : Oper} {v : Value} {listed : Array Bool} {a : Act} {w : World} (hc : ops.all (fun o => calmOp o.op) = true) (hi : ops[i]? = some oi) (hiU : U.contains i = false)
  (hf : Region.free md ops listed i = true) (hr : (Region.ready md ops listed).contains i = true) (hw : Region.wanted oi (yielded ops a.tmps) = true) (hy : ∀ w, (execOp a.eval oi).run P w = .ok (.value v) w) (hS : S w)
  (h : Any P md ops S U R fuel (listed.setIfInBounds i true) (a.put oi.dst v) w) : Any P md ops S U R (fuel + 1) listed a w :=
 take_aux (T := fun _ => True) (allCalm hc) hi (fun h => by rw [List.contains_eq_mem, decide_eq_true h] at hiU; cases hiU) (.inl fun _ => trivial) fuel listed a w (Region.free_spec hi hf) (by simpa using hr) ⟨hw, fun w _ => hy w⟩ (.inl fun _ => trivial) (fun _ => hS) h
theorem Any.takeS {P : Program} {md : Region.Mode} {ops : Array Oper} {S : World → Prop} {U : List Nat} {R : Act → World → Prop} {i fuel : Nat} {oi : Oper} {v : Value} {listed : Array Bool} {a : Act} {w : World} (hc : ops.all (fun o => calmOp o.op) = true) (hi : ops[i]? = some oi) (hiU : U.contains i = false)
  (hU : U.all (fun u => match ops[u]? with | some o => o.after.any (fun e => Region.binds md e && e.on == i) | none => true) = true) (hl : U.all (fun u => listed.getD u true == false) = true)
  (hf : Region.free md ops listed i = true) (hr : (Region.ready md ops listed).contains i = true) (hw : Region.wanted oi (yielded ops a.tmps) = true) (hy : ∀ w, S w → (execOp a.eval oi).run P w = .ok (.value v) w) (hS : S w)
  (h : Any P md ops S U R fuel (listed.setIfInBounds i true) (a.put oi.dst v) w) : Any P md ops S U R (fuel + 1) listed a w :=
 take_aux (T := S) (allCalm hc) hi (fun h => by rw [List.contains_eq_mem, decide_eq_true h] at hiU; cases hiU) (.inr ⟨fun _ h => h, fun u hu o ho => by
  have h1 := List.all_eq_true.1 hU u hu
  simp only [ho] at h1
  obtain ⟨k, hk, h2⟩ := Array.any_eq_true.1 h1
  rw [Bool.and_eq_true, beq_iff_eq] at h2
  exact ⟨_, Array.getElem_mem hk, h2.1, h2.2⟩⟩) fuel listed a w (Region.free_spec hi hf) (by simpa using hr) ⟨hw, hy⟩ (.inr fun u hu => by simpa using List.all_eq_true.1 hl u hu) (fun _ => hS) h
theorem Any.done {P : Program} {md : Region.Mode} {ops : Array Oper} {S : World → Prop} {U : List Nat} {R : Act → World → Prop} {listed : Array Bool} {a : Act} {w : World} (hr : Region.ready md ops listed = []) (h : R a w) : ∀ fuel, Any P md ops S U R fuel listed a w
 | 0 => ⟨hr, h⟩
 | _ + 1 => ⟨fun _ => h, by rw [hr]; simp⟩
theorem Any.all {P : Program} {md : Region.Mode} {ops : Array Oper} {S : World → Prop} {U : List Nat} {R : Act → World → Prop} {rs : List Nat} {fuel : Nat} {listed : Array Bool} {a : Act} {w : World} (hr : Region.ready md ops listed = rs) (hne : rs ≠ [])
  (h : ∀ i ∈ rs, ∃ a' w', stepO P ops i a w = some (a', w') ∧ ((∀ u ∈ U, (listed.setIfInBounds i true).getD u true = false) → S w') ∧ Any P md ops S U R fuel (listed.setIfInBounds i true) a' w') : Any P md ops S U R (fuel + 1) listed a w :=
 ⟨fun h0 => absurd (hr ▸ h0) hne, hr ▸ h⟩
theorem stepO_value {P : Program} {ops : Array Oper} {i : Nat} {o : Oper} {a : Act} {w w' : World} {v : Value} (hi : ops[i]? = some o) (hw : Region.wanted o (yielded ops a.tmps) = true) (h : (execOp a.eval o).run P w = .ok (.value v) w') : stepO P ops i a w = some (a.put o.dst v, w') := by
 unfold stepO
 simp only [hi, if_pos hw, h]
theorem stepO_skip {P : Program} {ops : Array Oper} {i : Nat} {o : Oper} {a : Act} {w w' : World} (hi : ops[i]? = some o) (hw : Region.wanted o (yielded ops a.tmps) = true) (h : (execOp a.eval o).run P w = .ok .skip w') : stepO P ops i a w = some (a.put o.dst undef, w') := by
 unfold stepO
 simp only [hi, if_pos hw, h]
theorem Any.takeL {P : Program} {md : Region.Mode} {l : List Oper} {S : World → Prop} {U : List Nat} {R : Act → World → Prop} {i fuel : Nat} {oi : Oper} {v : Value} {listed : Array Bool} {a : Act} {w : World} (hc : l.toArray.all (fun o => calmOp o.op) = true) (hi : l[i]? = some oi) (hiU : U.contains i = false)
  (hf : Region.free md l.toArray listed i = true) (hr : (Region.ready md l.toArray listed).contains i = true) (hw : Region.wanted oi (yielded l.toArray a.tmps) = true) (hy : ∀ w, (execOp a.eval oi).run P w = .ok (.value v) w) (hS : S w)
  (h : Any P md l.toArray S U R fuel (listed.setIfInBounds i true) (a.put oi.dst v) w) : Any P md l.toArray S U R (fuel + 1) listed a w :=
 Any.take hc (by simpa using hi) hiU hf hr hw hy hS h
theorem Any.takeSL {P : Program} {md : Region.Mode} {l : List Oper} {S : World → Prop} {U : List Nat} {R : Act → World → Prop} {i fuel : Nat} {oi : Oper} {v : Value} {listed : Array Bool} {a : Act} {w : World} (hc : l.toArray.all (fun o => calmOp o.op) = true) (hi : l[i]? = some oi) (hiU : U.contains i = false)
  (hU : U.all (fun u => match l.toArray[u]? with | some o => o.after.any (fun e => Region.binds md e && e.on == i) | none => true) = true) (hl : U.all (fun u => listed.getD u true == false) = true)
  (hf : Region.free md l.toArray listed i = true) (hr : (Region.ready md l.toArray listed).contains i = true) (hw : Region.wanted oi (yielded l.toArray a.tmps) = true) (hy : ∀ w, S w → (execOp a.eval oi).run P w = .ok (.value v) w) (hS : S w)
  (h : Any P md l.toArray S U R fuel (listed.setIfInBounds i true) (a.put oi.dst v) w) : Any P md l.toArray S U R (fuel + 1) listed a w :=
 Any.takeS hc (by simpa using hi) hiU hU hl hf hr hw hy hS h
theorem stepL_value {P : Program} {l : List Oper} {i : Nat} {o : Oper} {a : Act} {w w' : World} {v : Value} (hi : l[i]? = some o) (hw : Region.wanted o (yielded l.toArray a.tmps) = true) (h : (execOp a.eval o).run P w = .ok (.value v) w') : stepO P l.toArray i a w = some (a.put o.dst v, w') := stepO_value (by simpa using hi) hw h
theorem stepL_skip {P : Program} {l : List Oper} {i : Nat} {o : Oper} {a : Act} {w w' : World} (hi : l[i]? = some o) (hw : Region.wanted o (yielded l.toArray a.tmps) = true) (h : (execOp a.eval o).run P w = .ok .skip w') : stepO P l.toArray i a w = some (a.put o.dst undef, w') := stepO_skip (by simpa using hi) hw h
def Stt (S : World → Prop) (U : List Nat) (listed : Array Bool) (i : Nat) (w : World) : Prop := (∀ u ∈ U, (listed.setIfInBounds i true).getD u true = false) → S w
theorem Stt.of {S : World → Prop} {U : List Nat} {listed : Array Bool} {i : Nat} {w : World} (h : S w) : Stt S U listed i w := fun _ => h
theorem Stt.past {S : World → Prop} {U : List Nat} {listed : Array Bool} {i : Nat} {w : World} (h : U.any (fun u => (listed.setIfInBounds i true).getD u true) = true) : Stt S U listed i w := fun hh => by
 obtain ⟨u, hu, h2⟩ := List.any_eq_true.1 h
 rw [hh u hu] at h2; cases h2
def Nx (P : Program) (md : Region.Mode) (ops : Array Oper) (S : World → Prop) (U : List Nat) (R : Act → World → Prop) (fuel : Nat) (listed : Array Bool) (i : Nat) (a : Act) (w : World) : Prop :=
 ∃ a' w', stepO P ops i a w = some (a', w') ∧ Stt S U listed i w' ∧ Any P md ops S U R fuel (listed.setIfInBounds i true) a' w'
section
variable {P : Program} {md : Region.Mode} {l : List Oper} {S : World → Prop} {U : List Nat} {R : Act → World → Prop} {fuel : Nat} {listed : Array Bool} {a : Act} {w : World}
theorem Nx.val {i : Nat} {o : Oper} {v : Value} {w' : World} (hi : l[i]? = some o) (hw : Region.wanted o (yielded l.toArray a.tmps) = true) (h : (execOp a.eval o).run P w = .ok (.value v) w') (hS : Stt S U listed i w')
  (hK : Any P md l.toArray S U R fuel (listed.setIfInBounds i true) (a.put o.dst v) w') : Nx P md l.toArray S U R fuel listed i a w := ⟨_, _, stepL_value hi hw h, hS, hK⟩
theorem Nx.skip {i : Nat} {o : Oper} {w' : World} (hi : l[i]? = some o) (hw : Region.wanted o (yielded l.toArray a.tmps) = true) (h : (execOp a.eval o).run P w = .ok .skip w') (hS : Stt S U listed i w')
  (hK : Any P md l.toArray S U R fuel (listed.setIfInBounds i true) (a.put o.dst undef) w') : Nx P md l.toArray S U R fuel listed i a w := ⟨_, _, stepL_skip hi hw h, hS, hK⟩
theorem Any.nx1 {i : Nat} (hr : Region.ready md l.toArray listed = [i]) (h : Nx P md l.toArray S U R fuel listed i a w) : Any P md l.toArray S U R (fuel + 1) listed a w :=
 Any.all hr (by simp) fun k hk => by
  rw [List.mem_singleton] at hk
  subst hk; exact h
theorem Any.nx2 {i j : Nat} (hr : Region.ready md l.toArray listed = [i, j]) (h1 : Nx P md l.toArray S U R fuel listed i a w) (h2 : Nx P md l.toArray S U R fuel listed j a w) : Any P md l.toArray S U R (fuel + 1) listed a w :=
 Any.all hr (by simp) fun k hk => by
  rcases List.mem_cons.1 hk with rfl | hk
  ·exact h1
  ·rw [List.mem_singleton] at hk
   subst hk; exact h2
end
theorem stepO_wp {P : Program} {ops : Array Oper} {i : Nat} {a a' : Act} {w w' : World} {K : Act → World → Prop} {Q : Exit → Act → World → Prop} (h : stepO P ops i a w = some (a', w')) (hK : K a' w') : wpOp P ops Q i K a w := by
 unfold stepO at h
 unfold wpOp
 cases ho : ops[i]? with
 | none =>
  rw [ho] at h
  simp only [Option.some.injEq, Prod.mk.injEq] at h
  obtain ⟨rfl, rfl⟩ := h
  exact hK
 | some o =>
  rw [ho] at h
  simp only at h ⊢
  split
  ·rename_i hw
   rw [if_pos hw] at h
   left
   unfold Oper.wp
   cases hr : (execOp a.eval o).run P w with
   | ok x w1 =>
    rw [hr] at h
    cases x <;> first
     | (simp only [Option.some.injEq, Prod.mk.injEq] at h; obtain ⟨rfl, rfl⟩ := h; exact hK)
     | (simp at h; done)
   | halt x w1 => rw [hr] at h; cases h
  ·rename_i hw
   rw [if_neg hw] at h
   simp only [Option.some.injEq, Prod.mk.injEq] at h
   obtain ⟨rfl, rfl⟩ := h
   exact hK
theorem Any.plain {P : Program} {md : Region.Mode} {ops : Array Oper} {S : World → Prop} {U : List Nat} {R : Act → World → Prop} {Q : Exit → Act → World → Prop} (hQ : ∀ a w, R a w → Q .normal a w) :
  ∀ (fuel : Nat) (listed : Array Bool) (a : Act) (w : World), Any P md ops S U R fuel listed a w → wpAny P md ops Q fuel listed a w
 | 0, _, _, _, h => ⟨h.1, hQ _ _ h.2⟩
 | fuel + 1, _, _, _, h => ⟨fun h0 => hQ _ _ (h.1 h0), fun i hi => by
   obtain ⟨a', w', h1, _, h2⟩ := h.2 i hi
   exact stepO_wp h1 (Any.plain hQ fuel _ a' w' h2)⟩
end Go.Cal
namespace Go.Proofs.YtlcfpdmicpggbaaGreatDoor
open Go.RowKit Go.Proofs.Spl Go.Proofs.Scn Go.Flow Go.Sort Go.Cal Go.Shelf
theorem row_form {B e m n : Nat} {w : World} {v : Value} {cs : List Value} (h : w.ownsRow B e m v n cs) : ∃ p c, v = .slice p n c := by
 rcases h.2 with ⟨h1, h0⟩ | ⟨g, cap, cur, h1, _⟩
 ·exact ⟨none, 0, by rw [h1, h0]⟩
 ·exact ⟨_, _, h1⟩
theorem stepO_append_one {l : List Oper} {i : Nat} {o : Oper} {a : Act} {w : World} (hi : l[i]? = some o) (hgd : o.guard = none) (s x : Operand) (t e : TypeId)
  (ho : o.op = .call { callee := .builtin .append, args := #[s, x], argTypes := #[t, t] }) (ht : Tryz.prog.underlying t = some (.slice e))
  (z : Value) (m b : Nat) (hinfo : (Tryz.prog.info? e).map (fun i => (i.zero, i.size, i.bytes)) = some (some z, m, b)) (hz : z.cells.size = m) (hm : 0 < m) (hb24 : b ≤ 72)
  (base : Nat) (v : Value) (n : Nat) (xs : List Value) (hs : a.eval s = v) (hown : w.ownsRow base e m v n xs) (q c : Nat) (cs : Array Value) (hx : a.eval x = .slice (some ⟨q, 0, none⟩) 1 c) (hq : w.heap[q]? = some (.cells cs e (0, 0)))
  (hl : cs.size = m) (h1 : ∀ u ∈ cs.toList, u.oneCell' = true) (hn : n ≤ 1000000) (hbase : base ≤ w.heap.size) :
  ∃ p c' w', stepO Tryz.prog l.toArray i a w = some (a.put o.dst (.slice p (n + 1) c'), w') ∧ w'.ownsRow base e m (.slice p (n + 1) c') (n + 1) (xs ++ cs.toList) ∧ w.grownBy w' v.ownBlock := by
 obtain ⟨i0, hi0, hz0, hz1, hz2⟩ := info_parts hinfo
 obtain ⟨v', w', hr, h2, h3, _⟩ := run_append_own (P := Tryz.prog) w base t o.type e i0 z m b ht hi0 hz0 hz1 hz2 hz hm v n xs hown ⟨q, 0, none⟩ 1 c cs.toList (by simpa using hl) (fun j u hu => World.news_of_block hq j u hu) h1 (by unfold maxLen; omega) (by have := Nat.mul_le_mul (show n + 1 ≤ 1000001 by omega) hb24; omega) hbase
 obtain ⟨p, c', rfl⟩ := row_form h2
 refine ⟨p, c', w', stepL_value hi (by simp [Region.wanted, hgd]) ?_, h2, h3⟩
 unfold execOp
 simp only [ho, resolve, invoke, builtin, Sem.run_bind, Sem.run_pure, Result.andThen_ok, List.map_toArray, List.map_cons, List.map_nil, hs, hx, hr]
theorem nx_app {md : Region.Mode} {S : World → Prop} {U : List Nat} {R : Act → World → Prop} {fuel : Nat} {listed : Array Bool} {l : List Oper} {i : Nat} {o : Oper} {a : Act} {w : World} (hi : l[i]? = some o) (hgd : o.guard = none) (s x : Operand) (t e : TypeId)
  (ho : o.op = .call { callee := .builtin .append, args := #[s, x], argTypes := #[t, t] }) (ht : Tryz.prog.underlying t = some (.slice e))
  (z : Value) (m b : Nat) (hinfo : (Tryz.prog.info? e).map (fun i => (i.zero, i.size, i.bytes)) = some (some z, m, b)) (hz : z.cells.size = m) (hm : 0 < m) (hb24 : b ≤ 72)
  (base : Nat) (v : Value) (n : Nat) (xs : List Value) (hs : a.eval s = v) (hown : w.ownsRow base e m v n xs) (q c : Nat) (cs : Array Value) (hx : a.eval x = .slice (some ⟨q, 0, none⟩) 1 c) (hq : w.heap[q]? = some (.cells cs e (0, 0)))
  (hl : cs.size = m) (h1 : ∀ u ∈ cs.toList, u.oneCell' = true) (hn : n ≤ 1000000) (hbase : base ≤ w.heap.size)
  (h : ∀ p c' w', w'.ownsRow base e m (.slice p (n + 1) c') (n + 1) (xs ++ cs.toList) → w.grownBy w' v.ownBlock → Stt S U listed i w' ∧ Any Tryz.prog md l.toArray S U R fuel (listed.setIfInBounds i true) (a.put o.dst (.slice p (n + 1) c')) w') : Nx Tryz.prog md l.toArray S U R fuel listed i a w := by
 obtain ⟨p, c', w', h2, h3, h4⟩ := stepO_append_one hi hgd s x t e ho ht z m b hinfo hz hm hb24 base v n xs hs hown q c cs hx hq hl h1 hn hbase
 exact ⟨_, _, h2, (h p c' w' h3 h4).1, (h p c' w' h3 h4).2⟩
end Go.Proofs.YtlcfpdmicpggbaaGreatDoor
namespace Go.Proofs.YtlcfpdmicpggbaaGreatDoor
open Go.RowKit Go.Proofs.Spl Go.Proofs.Scn Go.Shelf Go.Cal Go.Stage
attribute [local go_sem] Oper.semAt_some
def cellsR (l : List RowX) : List Value := l.flatMap rowV
theorem cellsR_length (l : List RowX) : (cellsR l).length = l.length * 6 := by
 induction l with
 | nil => rfl
 | cons t l ih => rw [cellsR, List.flatMap_cons, List.length_append, show (List.flatMap rowV l) = cellsR l from rfl, ih, List.length_cons]; simp [rowV]; omega
theorem cellsR_app (l m : List RowX) : cellsR (l ++ m) = cellsR l ++ cellsR m := List.flatMap_append
theorem cellsR_one (r : RowX) : cellsR [r] = rowV r := by simp [cellsR]
def OwnR (B : Nat) (w : World) (v : Value) (l : List RowX) : Prop := w.ownsRow B 28 6 v l.length (cellsR l)
theorem xsInfo : (Tryz.prog.info? 28).map (fun i => (i.zero, i.size, i.bytes)) = some (some (.agg #[.int .i64 0, .string ⟨#[]⟩, .int .i64 0, .int .i64 0, .int .u64 0, .slice none 0 0]), 6, 72) := by kernel_rfl
theorem xsSlice : Tryz.prog.underlying 26 = some (.slice 28) := by kernel_rfl
theorem OwnR.last {B : Nat} {w : World} {q : Option Addr} {n c : Nat} {l : List RowX} {a : RowX} (h : OwnR B w (.slice q n c) (l ++ [a])) :
  ∃ g, q = some ⟨g, 0, none⟩ ∧ n = l.length + 1 ∧ l.length + 1 ≤ c ∧ B ≤ g ∧ g < w.heap.size ∧ (∀ j, j < 6 → w.cell? ⟨g, l.length * 6 + j, none⟩ = (rowV a)[j]?) ∧ OwnR B w (.slice (some ⟨g, 0, none⟩) l.length c) l := by
 obtain ⟨h1, h2⟩ := h
 have hl : (l ++ [a]).length = l.length + 1 := by simp
 rw [hl] at h2
 rcases h2 with ⟨_, h0⟩ | ⟨g, cap, cur, hv, hB, hg, hn, hc, hs, ht⟩
 ·omega
 ·simp only [Value.slice.injEq] at hv
  obtain ⟨rfl, rfl, rfl⟩ := hv
  refine ⟨g, rfl, rfl, by omega, hB, (Array.getElem?_eq_some_iff.1 hg).1, ?_, cellsR_length l, .inr ⟨g, c, cur, rfl, hB, hg, by omega, hc, hs, ?_⟩⟩
  ·intro j hj
   rw [cell_of_row w g (l.length * 6 + j) cur _ (0, 0) hg]
   have : (cur.toList.take ((l.length + 1) * 6))[l.length * 6 + j]? = (cellsR (l ++ [a]))[l.length * 6 + j]? := by rw [ht]
   rw [List.getElem?_take, if_pos (by omega)] at this
   rw [← Array.getElem?_toList, this, cellsR_app, List.getElem?_append_right (by rw [cellsR_length]; omega), cellsR_length, cellsR_one]
   congr 1
   omega
  ·have e : cur.toList.take (l.length * 6) = (cur.toList.take ((l.length + 1) * 6)).take (l.length * 6) := by rw [List.take_take]; congr 1; omega
   rw [e, ht, cellsR_app, List.take_left' (cellsR_length l)]
theorem ownsRow_put {w : World} {base : Nat} {e : TypeId} {size g n cap i : Nat} {xs : List Value} (h : w.ownsRow base e size (.slice (some ⟨g, 0, none⟩) n cap) n xs) (hi : i < xs.length) (u : Value) :
  (w.setCell ⟨g, i, none⟩ u).ownsRow base e size (.slice (some ⟨g, 0, none⟩) n cap) n (xs.set i u) := by
 obtain ⟨h1, h2⟩ := h
 refine ⟨by rw [List.length_set]; exact h1, ?_⟩
 rcases h2 with ⟨hv, _⟩ | ⟨g', cap', cur, hv, hB, hg, hn, hc, hs, ht⟩
 ·cases hv
 ·simp only [Value.slice.injEq, Option.some.injEq, Addr.mk.injEq, and_true, true_and] at hv
  obtain ⟨rfl, rfl⟩ := hv
  refine .inr ⟨g, cap, cur.setIfInBounds i u, rfl, hB, ?_, hn, hc, by simpa using hs, ?_⟩
  ·obtain ⟨hlt, hk⟩ := Array.getElem?_eq_some_iff.1 hg
   show (w.heap.modify g _)[g]? = _
   rw [Array.getElem?_eq_getElem (by rw [Array.size_modify]; exact hlt), Array.getElem_modify_self, hk]
   rfl
  ·rw [Array.toList_setIfInBounds, List.take_set, ht]
theorem set_six (xs : List Value) (n : Nat) (hn : xs.length = n) (z0 z1 z2 z3 z4 z5 a0 a1 a2 a3 a4 a5 : Value) :
  ((((((xs ++ [z0, z1, z2, z3, z4, z5]).set n a0).set (n + 1) a1).set (n + 2) a2).set (n + 3) a3).set (n + 4) a4).set (n + 5) a5 = xs ++ [a0, a1, a2, a3, a4, a5] := by
 subst hn
 simp [List.set_append_right]
def Marks (B : Nat) (w : World) : List Deferred → Prop
 | [] => True
 | d :: ds => (∃ D, d = { target := .collected D, args := #[] } ∧ B ≤ D ∧ D < w.heap.size ∧ w.heap[D]? = some (.deferred (some [])) ∧ ∀ E, ({ target := .collected E, args := #[] } : Deferred) ∈ ds → E < D) ∧ Marks B w ds
theorem Marks.kept {B : Nat} {w w' : World} (hk : KeepsFrom B w w') : ∀ {ds : List Deferred}, Marks B w ds → Marks B w' ds
 | [], _ => trivial
 | d :: ds, ⟨⟨D, h1, h2, h3, h4, h5⟩, h6⟩ => by
  have h7 := hk.same D _ h2 h4 rfl
  exact ⟨⟨D, h1, h2, (Array.getElem?_eq_some_iff.1 h7).1, h7, h5⟩, Marks.kept hk h6⟩
theorem Marks.lt {B : Nat} {w : World} : ∀ {ds : List Deferred}, Marks B w ds → ∀ E, ({ target := .collected E, args := #[] } : Deferred) ∈ ds → E < w.heap.size
 | [], _, E, h => by cases h
 | d :: ds, ⟨⟨D, h1, h2, h3, h4, h5⟩, h6⟩, E, h => by
  rcases List.mem_cons.1 h with h | h
  ·rw [h1] at h; cases h; exact h3
  ·exact Marks.lt h6 E h
theorem Marks.cons {B D : Nat} {w : World} {ds : List Deferred} (h : Marks B w ds) (h1 : B ≤ D) (h2 : w.heap[D]? = some (.deferred (some []))) (h3 : ∀ E, ({ target := .collected E, args := #[] } : Deferred) ∈ ds → E < D) : Marks B w ({ target := .collected D, args := #[] } :: ds) :=
 ⟨⟨D, rfl, h1, (Array.getElem?_eq_some_iff.1 h2).1, h2, h3⟩, h⟩
theorem Marks.turn {B D : Nat} {w : World} (o : Obj) : ∀ {ds : List Deferred}, Marks B w ds → (∀ E, ({ target := .collected E, args := #[] } : Deferred) ∈ ds → E < D) → Marks B (w.putObj D o) ds
 | [], _, _ => trivial
 | d :: ds, ⟨⟨E, h1, h2, h3, h4, h5⟩, h6⟩, h => by
  have hE : E < D := h E (by rw [h1]; exact List.mem_cons_self ..)
  have h7 : (w.putObj D o).heap[E]? = some (.deferred (some [])) := (World.putObj_heap_other (by omega)).trans h4
  exact ⟨⟨E, h1, h2, (Array.getElem?_eq_some_iff.1 h7).1, h7, h5⟩, Marks.turn o h6 fun G hG => h G (List.mem_cons_of_mem _ hG)⟩
theorem leaves_marks {F : Fence} {n : Nat} {P : Program} {fn : Func} {tmps : Array Value} {R : Ending → World → Prop} {B : Nat} (J : World → Prop)
  (hJ : ∀ w D o, B ≤ D → w.heap[D]? = some (.deferred (some [])) → J w → J (w.putObj D (.deferred o))) (hR : ∀ w, J w → LeavesIn F n P fn tmps R [] .returning w) :
  ∀ (ds : List Deferred) (w : World), Marks B w ds → J w → LeavesInM F n P fn tmps R ds .returning w
 | [], w, _, hj => hR w hj
 | d :: ds, w, ⟨⟨D, h1, h2, h3, h4, h5⟩, h6⟩, hj => by
  refine ⟨by simp, .inl ⟨D, _, by rw [h1], run_takeDeferred h4, ?_⟩⟩
  exact leaves_marks J hJ hR ds _ (Marks.turn _ h6 h5) (hJ w D _ h2 h4 hj)
end Go.Proofs.YtlcfpdmicpggbaaGreatDoor
