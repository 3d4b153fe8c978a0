/- Texts of the seat, merged. -/
import Derived.Test.YtlcfpdmicpggbaaGreatDoorEF32
set_option linter.unusedVariables false
set_option linter.unusedSimpArgs false
set_option maxRecDepth 100000
set_option maxHeartbeats 16000000
namespace Go.Proofs.YtlcfpdmicpggbaaGreatDoor
open Go.RowKit Go.Proofs.Spl Go.Proofs.Scn Go.Shelf
def strsC (l : List Ln) : List Value := l.map fun s => .string (bs s)
def OwnS (B : Nat) (w : World) (v : Value) (l : List Ln) : Prop := w.ownsRow B 9 1 v l.length (strsC l)
theorem OwnS.nil (B : Nat) (w : World) : OwnS B w (.slice none 0 0) [] := World.ownsRow_nil w B _ 1
theorem OwnS.later {B : Nat} {w w' : World} {v : Value} {l : List Ln} (h : OwnS B w v l) (hb : Below w.heap.size w w') : OwnS B w' v l := by
 refine ⟨h.1, ?_⟩
 rcases h.2 with h0 | ⟨g, cap, cur, hv, hB, hg, h1⟩
 ·exact .inl h0
 ·exact .inr ⟨g, cap, cur, hv, hB, (hb.block g (Array.getElem?_eq_some_iff.1 hg).1).trans hg, h1⟩
theorem OwnS.shape {B : Nat} {w : World} {v : Value} {l : List Ln} (h : OwnS B w v l) : ∃ p c, v = .slice p l.length c := by
 rcases h.2 with ⟨h0, h1⟩ | ⟨g, cap, cur, hv, _⟩
 ·exact ⟨none, 0, by rw [h0, h1]⟩
 ·exact ⟨_, _, hv⟩
theorem OwnS.base {B : Nat} {w : World} {v : Value} {l : List Ln} (h : OwnS B w v l) : ∀ k, v.ownBlock = some k → B ≤ k ∧ k < w.heap.size := by
 intro k hk
 rcases h.2 with ⟨rfl, _⟩ | ⟨g, cap, cur, rfl, hB, hg, h1⟩
 ·cases hk
 ·simp [Value.ownBlock] at hk; subst hk; exact ⟨hB, (Array.getElem?_eq_some_iff.1 hg).1⟩
end Go.Proofs.YtlcfpdmicpggbaaGreatDoor
namespace Go.Proofs.YtlcfpdmicpggbaaGreatDoor
open Go.RowKit Go.Proofs.Spl Go.Proofs.Scn Go.Shelf
theorem fewB_le {n d : Nat} (h : fewB n d = true) : n ≤ 2000 := by
 unfold fewB at h
 simp only [Bool.and_eq_true, decide_eq_true_eq] at h
 exact h.1
end Go.Proofs.YtlcfpdmicpggbaaGreatDoor
namespace Go.Proofs.YtlcfpdmicpggbaaGreatDoor
open Go.RowKit Go.Proofs.Spl Go.Proofs.Scn Go.Shelf
theorem OwnT.shape {B : Nat} {w : World} {v : Value} {l : List Tok} (h : OwnT B w v l) : ∃ p c, v = .slice p l.length c := by
 rcases h.2 with ⟨h0, h1⟩ | ⟨g, cap, cur, hv, _⟩
 ·exact ⟨none, 0, by rw [h0, h1]⟩
 ·exact ⟨_, _, hv⟩
theorem cellsTs_one (ts : List Tok) : ∀ u ∈ cellsTs ts, u.oneCell' = true := by
 intro u hu
 unfold cellsTs at hu
 rw [List.mem_flatMap] at hu
 obtain ⟨t, _, ht⟩ := hu
 simp only [cellsT, List.mem_cons, List.not_mem_nil, or_false] at ht
 rcases ht with rfl | rfl | rfl | rfl | rfl <;> rfl
theorem wpList_append_toks {w : World} {ops : Array Oper} {rest : List Oper} {o : Oper} {a : Act} {Q : Exit → Act → World → Prop} (hgd : o.guard = none) (s x : Operand)
  (ho : o.op = .call { callee := .builtin .append, args := #[s, x], argTypes := #[36, 36] })
  (base : Nat) (v : Value) (L l : List Tok) (hs : a.eval s = v) (hown : OwnT base w v L) (B' : Nat) (y : Value) (hx : a.eval x = y) (hsrc : OwnT B' w y l)
  (h63 : L.length + l.length ≤ 20000000) (hbase : base ≤ w.heap.size)
  (h : ∀ p' c' N w', Hid (N = (L ++ l).length) → OwnT base w' (.slice p' N c') (L ++ l) → w.grownBy w' v.ownBlock → wpList Tryz.prog ops Q rest (a.put o.dst (.slice p' N c')) w') : wpList Tryz.prog ops Q (o :: rest) a w := by
 obtain ⟨i0, hi, hz0, hz1, hz2⟩ := info_parts tkInfo
 rcases hsrc.2 with ⟨rfl, h0⟩ | ⟨g, cap, cur, rfl, hB, hg, hn, hc, hz, ht⟩
 ·refine wpList_append_own_none hgd s x 36 ho base 55 i0 5 tkSlice hi v L.length (cellsTs L) hs hown hx ?_
  have hl : l = [] := List.eq_nil_of_length_eq_zero h0
  subst hl
  obtain ⟨p, c, rfl⟩ := hown.shape
  refine h p c L.length w (Lib.hid (by simp)) (by rw [List.append_nil]; exact hown) ⟨rfl, rfl, rfl, Nat.le_refl _, fun k _ _ => rfl⟩
 ·have hcell : ∀ j u, (cellsTs l)[j]? = some u → w.cell? ((⟨g, 0, none⟩ : Addr).add j) = some u := by
   intro j u hu
   have e : (⟨g, 0, none⟩ : Addr).add j = ⟨g, j, none⟩ := by simp [Addr.add]; intro h; exact h.symm
   rw [e, cell_of_row w g j cur _ (0, 0) hg, ← Array.getElem?_toList]
   rw [← ht, List.getElem?_take] at hu
   split at hu
   ·exact hu
   ·cases hu
  refine wpList_append_own w hgd s x 36 ho base 55 i0 (.agg #[.int .i64 0, .string ⟨#[]⟩, .int .i64 0, .int .u64 0, .int .i64 0]) 5 48 tkSlice hi hz0 hz1 hz2 rfl (by decide) v L.length (cellsTs L) hs hown ⟨g, 0, none⟩ l.length cap (cellsTs l) hx (cellsTs_length l) hcell (cellsTs_one l) (by unfold maxLen; omega) (by omega) hbase ?_
  intro v' w' h1 h2 _
  have ho : OwnT base w' v' (L ++ l) := by
   unfold OwnT
   rw [List.length_append, show cellsTs (L ++ l) = cellsTs L ++ cellsTs l from List.flatMap_append]
   exact h1
  obtain ⟨p, c, rfl⟩ := ho.shape
  exact h p c _ w' (Lib.hid rfl) ho h2
theorem one_module (W : World) (m : Md) (cs : List Value) (hR : MR W m cs) (h4 : cs.length = 4) : MsR (W.alloc (.cells cs.toArray 53)) (.slice (some ⟨W.heap.size, 0, none⟩) 1 1) [m] := by
 refine ⟨_, _, rfl, Nat.le_refl _, .inr ⟨W.heap.size, 0, rfl, by simp, fun k hk => ?_⟩⟩
 have : k = 0 := by simpa using hk
 subst this
 refine ⟨cs, MR.later ((Below.refl _ _).alloc (Nat.le_refl _) _) _ _ hR, fun j hj => ?_⟩
 rw [World.cell?_alloc_new W cs.toArray 53 (0 + 0 * 4 + j)]
 simp
theorem fileT_take (f : List Md) (k : Nat) (h : k < f.length) : fileT (f.take (k + 1)) = fileT (f.take k) ++ fileT [f[k]] := by
 unfold fileT
 rw [List.take_succ_eq_append_getElem h, List.map_append, List.flatten_append]
theorem fileT_len (f : List Md) (k : Nat) (h : sumN sizeM f ≤ 60000) : (fileT (f.take k)).length ≤ 1000000 := by
 have h1 := file_len (f.take k)
 have h2 := sumN_take sizeM f k
 omega
theorem modules_any (f : List Md) (p : Option Addr) (c : Nat) (W : World) (hB : BaseA W) (hR : MsR W (.slice p f.length c) f) (f1 : sumN sizeM f ≤ 1048576) (f2 : f.all smM = true) :
  RetB 5 #[.agg #[.slice p f.length c]] W true := by
 have HF := Lib.hid (fun (W9 : World) (h : Below W.heap.size W W9) => few_any f p c W9 (MsR.later hR h) (by omega))
 have HT := Lib.hid (fun (hq : fewB (sumN sizeM f) (maxN deepM f) = true) (W9 : World) (h : Below W.heap.size W W9) => (tokens_any f p c W9 (hB.later h) (MsR.later hR h) f2 (by have := fewB_le hq; omega)).mono (fun e W' k => show ∃ p n c, e = .returned (.tuple #[.slice p n c, .int .i64 (checkF f)]) ∧ Toks W' (.slice p n c) (if checkF f = 0 then fileT f else []) ∧ Below W9.heap.size W9 W' by
  obtain ⟨v, rfl, hx, hb⟩ := k
  obtain ⟨p, n, c, rfl⟩ := hx.shape3
  exact ⟨p, n, c, rfl, hx.own.toks, hb⟩))
 have HL := Lib.hid (fun (hq : fewB (sumN sizeM f) (maxN deepM f) = true) => show sumN sizeM f ≤ 2000 from fewB_le hq)
 have HC := Lib.hid (fun (h0 : checkF f = 0) => (checkF_ok.1 h0).1)
 have HO1 := Lib.hid (fun (h0 : checkF f = 0) (k : Nat) (h : k < f.length) => check_one h0 (List.getElem_mem h))
 have HTF := Lib.hid (fun (h0 : checkF f = 0) => show (if checkF f = 0 then fileT f else []) = fileT f by rw [if_pos h0])
 have HRR := Lib.hid (show checkF f = 0 ∨ (checkF f ≠ 0 ∧ (checkF f != 0) = true) by
  by_cases h : checkF f = 0
  ·exact .inl h
  ·exact .inr ⟨h, by simpa using h⟩)
 have HSM := Lib.hid f2
 have HB := Lib.hid hB
 have HRC := Lib.hid (show f = [] ∨ ∃ b off, p = some ⟨b, off, none⟩ ∧ b < W.heap.size ∧ Spl.Rows W 4 (MR W) b off f by
  obtain ⟨p', c', e, _, h⟩ := hR
  cases e
  exact h)
 clear hB hR f1 f2
 generalize fewB (sumN sizeM f) (maxN deepM f) = q at *
 generalize (if checkF f = 0 then fileT f else []) = tf at *
 generalize checkF f = r at *
 obtain ⟨V, hV⟩ : ∃ V, V = W.alloc (.cells #[.slice p f.length c] 24) := ⟨_, rfl⟩
 have XV := Lib.hid (show Below W.heap.size W V by rw [hV]; exact (Below.refl _ _).alloc (Nat.le_refl _) _)
 have r0 : V.heap[W.heap.size]? = some (.cells #[.slice p f.length c] 24 (0, 0)) := by rw [hV]; exact World.alloc_heap_new W _
 have HSx := Lib.hid (show ∀ w', Below V.heap.size V w' → w'.cell? ⟨W.heap.size, 0, none⟩ = some (.slice p f.length c) from fun w' h => (cell_of_row _ _ _ _ _ _ ((h.block _ (Array.getElem?_eq_some_iff.1 r0).1).trans r0)).trans rfl)
 clear r0
 go_enter Tryz.func5, Tryz.ntmps5
 go_wp2_with fail
 rw [← hV]
 clear hV
 go_wp2_with (first
  | (go_at_call 12; refine (live_any V (HB.out.later XV.out)).mono ?_; rintro e W0 ⟨rfl, hb⟩; have Z0 := Lib.hid hb; have z0 := HSx.out _ Z0.out; have X0 := Lib.hid (XV.out.trans (hb.mono XV.out.size)); clear hb)
  | (go_at_call 13; refine (HF.out _ X0.out).mono ?_; rintro e W1 ⟨rfl, hb⟩; have Z1 := Lib.hid (Z0.out.trans (hb.mono Z0.out.size)); have z0 := HSx.out _ Z1.out; have X1 := Lib.hid (X0.out.trans (hb.mono X0.out.size)); clear hb; cases q)
  | (go_at_call 16; refine (HT.out (by trivial) _ X1.out).mono ?_; rintro e W3 ⟨p3, n3, c3, rfl, hx, hb⟩; have T3 := Lib.hid hx; have Z3 := Lib.hid (Z1.out.trans (hb.mono Z1.out.size)); have z0 := HSx.out _ Z3.out; have X3 := Lib.hid (X1.out.trans (hb.mono X1.out.size)); clear hb hx HT; rcases HRR.out with rfl | ⟨hr0, hr1⟩))
 all_goals first
  | (go_ret; exact ⟨rfl, by first | exact X3.out | exact X1.out⟩)
  | skip
 have hk64 := HC.out (by trivial)
 have HO1 := Lib.hid (HO1.out (by trivial))
 have HTF := Lib.hid (HTF.out (by trivial))
 have HL := Lib.hid (HL.out (by trivial))
 clear HC HRR HF
 go_loopw [6, 7] (fun u i wr => ∃ (k n : Nat) (pq : Option Addr) (cp : Nat), u = .slice pq n cp ∧ i = .int .i64 k ∧ k ≤ f.length ∧ Hid (n = (fileT (f.take k)).length) ∧ Hid (OwnT W3.heap.size wr (.slice pq n cp) (fileT (f.take k))) ∧ Hid (Below W3.heap.size W3 wr)) (fun _ i _ => f.length - (intOf i).toNat)
 case atStart =>
  refine ⟨0, 0, some ⟨W3.heap.size, 0, none⟩, 0, rfl, rfl, Nat.zero_le _, Lib.hid rfl, Lib.hid ?_, Lib.hid ((Below.refl _ _).alloc (Nat.le_refl _) _)⟩
  exact World.ownsRow_made W3 #[] 0 (Nat.le_refl _) (by decide) rfl
 case round =>
  obtain ⟨k, n, pq, cp, rfl, rfl, hk, HN, HO, HX⟩ := hrel
  have HZ := Lib.hid (Z3.out.trans (HX.out.mono Z3.out.size))
  have z1 := HSx.out _ HZ.out
  have i100 : (k : Int) < 100 := by omega
  by_cases hlt : k < f.length
  case neg =>
   obtain rfl : k = f.length := by omega
   have hge : ¬ ((f.length : Int) < (f.length : Int)) := by omega
   have HEQ := Lib.hid (show decide (fileT (f.take f.length) = tf) = true by rw [HTF.out, List.take_length]; simp)
   have hlen := fileT_len f f.length (by have := HL.out; omega)
   have HLEN := Lib.hid (show (fileT (f.take f.length)).length ≤ 140737488351232 by omega)
   have T9 := Lib.hid (T3.out.later HX.out)
   clear hlen
   go_wp2_with (go_at_call 22; refine (equal_any _ _ (fileT (f.take f.length)) tf HLEN.out _ HO.out.toks T9.out).mono ?_; rw [HEQ.out]; rintro e W6 ⟨rfl, hb⟩; have X6 := Lib.hid (X3.out.trans ((HX.out.trans (hb.mono HX.out.size)).mono X3.out.size)); clear hb)
   go_ret
   exact ⟨rfl, X6.out⟩
  have hlt' : (k : Int) < (f.length : Int) := by omega
  rcases HRC.out with hf | ⟨b, off, rfl, hq, hrows⟩
  ·subst hf; simp at hlt
  obtain ⟨cs, hM, hcs⟩ := hrows k hlt
  have hBW := XV.out.trans (HZ.out.mono XV.out.size)
  have HM0 := Lib.hid hM
  obtain ⟨vp, vt, vi, rfl, h1, h2, h3⟩ := hM
  obtain ⟨p1, c1, rfl, _⟩ := h1
  obtain ⟨p2, c2, rfl, _⟩ := h2
  obtain ⟨p4, c4, rfl, _⟩ := h3
  have x0 := (hBW.cell (p := ⟨b, off + k * 4 + 0, none⟩) hq).trans (hcs 0 (by omega))
  have x1 := (hBW.cell (p := ⟨b, off + k * 4 + 1, none⟩) hq).trans (hcs 1 (by omega))
  have x2 := (hBW.cell (p := ⟨b, off + k * 4 + 2, none⟩) hq).trans (hcs 2 (by omega))
  have x3 := (hBW.cell (p := ⟨b, off + k * 4 + 3, none⟩) hq).trans (hcs 3 (by omega))
  simp only [Nat.add_zero, List.getElem?_cons_zero, List.getElem?_cons_succ] at x0 x1 x2 x3
  have HMS := Lib.hid (one_module wr f[k] _ (MR.later hBW _ _ HM0.out) rfl)
  have hc1 := HO1.out k hlt
  have HCK := Lib.hid hc1
  have HS1 := Lib.hid (show [f[k]].all smM = true by simp only [List.all_cons, List.all_nil, Bool.and_true]; exact List.all_eq_true.1 HSM.out _ (List.getElem_mem hlt))
  have HZ1 := Lib.hid (show sumN sizeM [f[k]] ≤ 60000 by have h1 := sumN_mem sizeM (List.getElem_mem hlt); have h2 := HL.out; have e : sumN sizeM [f[k]] = sizeM f[k] := (by simp [sumN]); omega)
  have HTK := Lib.hid (fileT_take f k hlt)
  have HLB := Lib.hid (show (fileT (f.take k)).length + (fileT [f[k]]).length ≤ 20000000 by
   have h1 := fileT_len f (k + 1) (by have := HL.out; omega)
   rw [fileT_take f k hlt, List.length_append] at h1
   omega)
  have HNB := Lib.hid (show n ≤ 1000000 by have h1 := fileT_len f k (by have := HL.out; omega); have := HN.out; omega)
  clear hrows hcs hc1 HM0 HRC
  generalize f[k] = m at *
  have HBV := Lib.hid (HB.out.later (hBW.alloc hBW.size (.cells #[.string (bs m.name), .slice p1 m.ps.length c1, .slice p2 m.pts.length c2, .slice p4 m.l.length c4] 53)))
  have HOV := Lib.hid (HO.out.later ((Below.refl _ _).alloc (Nat.le_refl _) (.cells #[.string (bs m.name), .slice p1 m.ps.length c1, .slice p2 m.pts.length c2, .slice p4 m.l.length c4] 53)))
  have HXV := Lib.hid (HX.out.alloc HX.out.size (.cells #[.string (bs m.name), .slice p1 m.ps.length c1, .slice p2 m.pts.length c2, .slice p4 m.l.length c4] 53))
  clear hBW
  go_wp2_with (first
   | (go_at_call 16; refine (tokens_any [m] (some ⟨wr.heap.size, 0, none⟩) 1 _ HBV.out HMS.out HS1.out HZ1.out).mono ?_; rw [HCK.out]; rintro e W5 ⟨v, rfl, hx, hb⟩; rw [if_pos rfl] at hx; obtain ⟨p5, n5, c5, rfl⟩ := hx.shape3; have O5 := Lib.hid hx.own; have H5 := Lib.hid (HXV.out.trans (hb.mono HXV.out.size)); have L5 := Lib.hid (HOV.out.later hb); clear hb hx)
   | (at_builtin; refine wpList_append_toks rfl _ _ rfl W3.heap.size _ (fileT (f.take k)) (fileT [m]) rfl L5.out _ _ rfl O5.out HLB.out H5.out.size ?_; intro p6 c6 N w6 hN hO hgr; have HN6 := Lib.hid hN.out; have HO6 := Lib.hid hO; have HX6 := Lib.hid (Below.grown H5.out hgr H5.out.size (fun k hk => L5.out.base k hk)); clear hN hO hgr))
  go_roundw
  case rel => exact ⟨k + 1, _, p6, c6, rfl, by go_num, hlt, Lib.hid (by rw [HTK.out]; exact HN6.out), Lib.hid (by rw [HTK.out]; exact HO6.out), HX6⟩
  case measure => simp [intOf]; omega
end Go.Proofs.YtlcfpdmicpggbaaGreatDoor
