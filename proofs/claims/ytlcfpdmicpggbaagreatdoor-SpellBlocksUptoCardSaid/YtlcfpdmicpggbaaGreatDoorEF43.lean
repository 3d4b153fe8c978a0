/- Texts of the seat, merged. -/
import Derived.Test.YtlcfpdmicpggbaaGreatDoorEF41
set_option linter.unusedVariables false
set_option linter.unusedSimpArgs false
set_option maxRecDepth 100000
set_option maxHeartbeats 16000000
namespace Go.Proofs.YtlcfpdmicpggbaaGreatDoor
open Go.RowKit Go.Proofs.Spl Go.Proofs.Scn Go.Shelf
def strsC (l : List Ln) : List Value := l.map fun s => .string (bs s)
def OwnS (B : Nat) (w : World) (v : Value) (l : List Ln) : Prop := w.ownsRow B 9 1 v l.length (strsC l)
theorem OwnS.nil (B : Nat) (w : World) : OwnS B w (.slice none 0 0) [] := World.ownsRow_nil w B _ 1
theorem OwnS.later {B : Nat} {w w' : World} {v : Value} {l : List Ln} (h : OwnS B w v l) (hb : Below w.heap.size w w') : OwnS B w' v l := by
 refine ⟨h.1, ?_⟩
 rcases h.2 with h0 | ⟨g, cap, cur, hv, hB, hg, h1⟩
 ·exact .inl h0
 ·exact .inr ⟨g, cap, cur, hv, hB, (hb.block g (Array.getElem?_eq_some_iff.1 hg).1).trans hg, h1⟩
theorem OwnS.shape {B : Nat} {w : World} {v : Value} {l : List Ln} (h : OwnS B w v l) : ∃ p c, v = .slice p l.length c := by
 rcases h.2 with ⟨h0, h1⟩ | ⟨g, cap, cur, hv, _⟩
 ·exact ⟨none, 0, by rw [h0, h1]⟩
 ·exact ⟨_, _, hv⟩
theorem OwnS.base {B : Nat} {w : World} {v : Value} {l : List Ln} (h : OwnS B w v l) : ∀ k, v.ownBlock = some k → B ≤ k ∧ k < w.heap.size := by
 intro k hk
 rcases h.2 with ⟨rfl, _⟩ | ⟨g, cap, cur, rfl, hB, hg, h1⟩
 ·cases hk
 ·simp [Value.ownBlock] at hk; subst hk; exact ⟨hB, (Array.getElem?_eq_some_iff.1 hg).1⟩
end Go.Proofs.YtlcfpdmicpggbaaGreatDoor
namespace Go.Proofs.YtlcfpdmicpggbaaGreatDoor
open Go.RowKit Go.Proofs.Spl Go.Proofs.Scn Go.Shelf
theorem fewB_le {n d : Nat} (h : fewB n d = true) : n ≤ 2000 := by
 unfold fewB at h
 simp only [Bool.and_eq_true, decide_eq_true_eq] at h
 exact h.1
end Go.Proofs.YtlcfpdmicpggbaaGreatDoor
namespace Go.Proofs.YtlcfpdmicpggbaaGreatDoor
open Go.RowKit Go.Proofs.Spl Go.Proofs.Scn Go.Shelf
theorem OwnT.shape {B : Nat} {w : World} {v : Value} {l : List Tok} (h : OwnT B w v l) : ∃ p c, v = .slice p l.length c := by
 rcases h.2 with ⟨h0, h1⟩ | ⟨g, cap, cur, hv, _⟩
 ·exact ⟨none, 0, by rw [h0, h1]⟩
 ·exact ⟨_, _, hv⟩
theorem cellsTs_one (ts : List Tok) : ∀ u ∈ cellsTs ts, u.oneCell' = true := by
 intro u hu
 unfold cellsTs at hu
 rw [List.mem_flatMap] at hu
 obtain ⟨t, _, ht⟩ := hu
 simp only [cellsT, List.mem_cons, List.not_mem_nil, or_false] at ht
 rcases ht with rfl | rfl | rfl | rfl | rfl <;> rfl
theorem wpList_append_toks {w : World} {ops : Array Oper} {rest : List Oper} {o : Oper} {a : Act} {Q : Exit → Act → World → Prop} (hgd : o.guard = none) (s x : Operand)
  (ho : o.op = .call { callee := .builtin .append, args := #[s, x], argTypes := #[36, 36] })
  (base : Nat) (v : Value) (L l : List Tok) (hs : a.eval s = v) (hown : OwnT base w v L) (B' : Nat) (y : Value) (hx : a.eval x = y) (hsrc : OwnT B' w y l)
  (h63 : L.length + l.length ≤ 20000000) (hbase : base ≤ w.heap.size)
  (h : ∀ p' c' N w', Hid (N = (L ++ l).length) → OwnT base w' (.slice p' N c') (L ++ l) → w.grownBy w' v.ownBlock → wpList Tryz.prog ops Q rest (a.put o.dst (.slice p' N c')) w') : wpList Tryz.prog ops Q (o :: rest) a w := by
 obtain ⟨i0, hi, hz0, hz1, hz2⟩ := info_parts tkInfo
 rcases hsrc.2 with ⟨rfl, h0⟩ | ⟨g, cap, cur, rfl, hB, hg, hn, hc, hz, ht⟩
 ·refine wpList_append_own_none hgd s x 36 ho base 55 i0 5 tkSlice hi v L.length (cellsTs L) hs hown hx ?_
  have hl : l = [] := List.eq_nil_of_length_eq_zero h0
  subst hl
  obtain ⟨p, c, rfl⟩ := hown.shape
  refine h p c L.length w (Lib.hid (by simp)) (by rw [List.append_nil]; exact hown) ⟨rfl, rfl, rfl, Nat.le_refl _, fun k _ _ => rfl⟩
 ·have hcell : ∀ j u, (cellsTs l)[j]? = some u → w.cell? ((⟨g, 0, none⟩ : Addr).add j) = some u := by
   intro j u hu
   have e : (⟨g, 0, none⟩ : Addr).add j = ⟨g, j, none⟩ := by simp [Addr.add]; intro h; exact h.symm
   rw [e, cell_of_row w g j cur _ (0, 0) hg, ← Array.getElem?_toList]
   rw [← ht, List.getElem?_take] at hu
   split at hu
   ·exact hu
   ·cases hu
  refine wpList_append_own w hgd s x 36 ho base 55 i0 (.agg #[.int .i64 0, .string ⟨#[]⟩, .int .i64 0, .int .u64 0, .int .i64 0]) 5 48 tkSlice hi hz0 hz1 hz2 rfl (by decide) v L.length (cellsTs L) hs hown ⟨g, 0, none⟩ l.length cap (cellsTs l) hx (cellsTs_length l) hcell (cellsTs_one l) (by unfold maxLen; omega) (by omega) hbase ?_
  intro v' w' h1 h2 _
  have ho : OwnT base w' v' (L ++ l) := by
   unfold OwnT
   rw [List.length_append, show cellsTs (L ++ l) = cellsTs L ++ cellsTs l from List.flatMap_append]
   exact h1
  obtain ⟨p, c, rfl⟩ := ho.shape
  exact h p c _ w' (Lib.hid rfl) ho h2
end Go.Proofs.YtlcfpdmicpggbaaGreatDoor
namespace Go.Proofs.YtlcfpdmicpggbaaGreatDoor
open Go.RowKit Go.Proofs.Spl Go.Proofs.Scn Go.Shelf
theorem tok_new (W : World) (t : Tok) : OwnT W.heap.size (W.alloc (.cells #[.int .i64 t.k, .string (bs t.s), .int .i64 t.w, .int .u64 t.v, .int .i64 t.p] 55)) (.slice (some ⟨W.heap.size, 0, none⟩) 1 1) [t] :=
 ⟨by simp [cellsTs, cellsT], .inr ⟨W.heap.size, 1, _, rfl, Nat.le_refl _, heap_alloc_new W _, Nat.le_refl _, by decide, rfl, by simp [cellsTs, cellsT]⟩⟩
theorem toks_drop {w : World} {v : Value} {u ts : List Tok} {p : Option Addr} {n c : Nat} (h : Toks w v (u ++ ts)) (hv : v = .slice p n c) : n = u.length + ts.length ∧ (ts ≠ [] → ∃ b off, p = some ⟨b, off, none⟩ ∧ Toks w (.slice (some ⟨b, off + u.length * 5, none⟩) ts.length (c - u.length)) ts) := by
 rcases h with ⟨h0, p', c', rfl⟩ | ⟨b, off, cap, rfl, hlt, hc⟩
 ·simp only [Value.slice.injEq] at hv
  obtain ⟨_, rfl, _⟩ := hv
  rw [List.append_eq_nil_iff] at h0
  obtain ⟨rfl, rfl⟩ := h0
  exact ⟨rfl, fun h => absurd rfl h⟩
 ·simp only [Value.slice.injEq] at hv
  obtain ⟨rfl, rfl, rfl⟩ := hv
  refine ⟨by rw [List.length_append], fun _ => ⟨b, off, rfl, .inr ⟨b, _, _, rfl, hlt, fun k hk => ?_⟩⟩⟩
  have h1 := hc (u.length + k) (by rw [List.length_append]; omega)
  rw [List.getElem_append_right (by omega)] at h1
  have e : off + (u.length + k) * 5 = off + u.length * 5 + k * 5 := by omega
  rw [e] at h1
  have e2 : u.length + k - u.length = k := by omega
  simp only [e2] at h1
  exact h1
def headB (put : Ln) (l : List S) (k : Nat) : List Tok := sgT [123] :: ((l.take k).map (stmtT put)).flatten
theorem OwnT.cap {B : Nat} {w : World} {p : Option Addr} {n c : Nat} {ts : List Tok} (h : OwnT B w (.slice p n c) ts) : n ≤ c := by
 rcases h.2 with ⟨h0, h1⟩ | ⟨g, cap, cur, hv, hB, hg, hn, _⟩
 ·simp only [Value.slice.injEq] at h0; omega
 ·simp only [Value.slice.injEq] at hv; omega
theorem headB_next (put : Ln) (l : List S) (k : Nat) (h : k < l.length) : headB put l (k + 1) = headB put l k ++ stmtT put l[k] := by
 unfold headB
 rw [List.take_succ_eq_append_getElem h, List.map_append, List.flatten_append]
 simp
theorem headB_end (put : Ln) (l : List S) : headB put l l.length ++ [sgT [125]] = stmtT put (blockS l) := by
 unfold headB
 rw [List.take_length, block_tok]
 rfl
theorem headB_len (put : Ln) (l : List S) (k : Nat) (h : sumN sizeS l ≤ 60000) : (headB put l k).length ≤ 1000000 := by
 unfold headB
 rw [List.length_cons, flat_len, sumN_map]
 have h1 := sumN_take sizeS l k
 have h2 : sumN (fun x => (stmtT put x).length) (l.take k) ≤ sumN (fun x => 8 * sizeS x) (l.take k) := sumN_le (fun x _ => stmt_len put x)
 rw [sumN_mul] at h2
 omega
theorem blocks_any (l : List S) (q : Option Addr) (k : Nat) (x : X) (cx : List Value) (y : X) (cy : List Value) (clk : Bool) (W : World) (hB : BaseA W) (hR : SsR W (.slice q l.length k) l) (hx : XR W x cx) (hy : XR W y cy)
  (l1 : sumN sizeS l ≤ 1048576) (l2 : l.all smS = true) (x1 : sizeX x ≤ 1048576) (x2 : smX x = true) (y1 : sizeX y ≤ 1048576) (y2 : smX y = true) :
  RetB 6 #[.slice q l.length k, .agg cx.toArray, .agg cy.toArray, .bool clk] W true := by
 have HB := Lib.hid hB
 obtain ⟨_, ls, rfl, hLx⟩ := XR_iff.1 hx
 obtain ⟨px, kx, rfl, _⟩ := hLx
 obtain ⟨_, ls, rfl, hLy⟩ := XR_iff.1 hy
 obtain ⟨py, ky, rfl, _⟩ := hLy
 obtain ⟨V, hV⟩ : ∃ V, V = (W.alloc (.cells #[.int .i64 x.op, .string (bs x.name), .int .i64 x.n, .int .i64 x.w, .int .u64 x.v, .slice px x.l.length kx] 28)).alloc (.cells #[.int .i64 y.op, .string (bs y.name), .int .i64 y.n, .int .i64 y.w, .int .u64 y.v, .slice py y.l.length ky] 28) := ⟨_, rfl⟩
 have XV := Lib.hid (show Below W.heap.size W V by rw [hV]; exact ((Below.refl _ _).alloc (Nat.le_refl _) _).alloc (by simp) _)
 obtain ⟨ra, rb⟩ : V.heap[W.heap.size]? = some (.cells #[.int .i64 x.op, .string (bs x.name), .int .i64 x.n, .int .i64 x.w, .int .u64 x.v, .slice px x.l.length kx] 28 (0, 0)) ∧ V.heap[W.heap.size + 1]? = some (.cells #[.int .i64 y.op, .string (bs y.name), .int .i64 y.n, .int .i64 y.w, .int .u64 y.v, .slice py y.l.length ky] 28 (0, 0)) := by
  rw [hV]
  refine ⟨(Below.heap_alloc _ _ _ (by simp)).trans (World.alloc_heap_new W _), ?_⟩
  have := World.alloc_heap_new (W.alloc (.cells #[.int .i64 x.op, .string (bs x.name), .int .i64 x.n, .int .i64 x.w, .int .u64 x.v, .slice px x.l.length kx] 28)) (.cells #[.int .i64 y.op, .string (bs y.name), .int .i64 y.n, .int .i64 y.w, .int .u64 y.v, .slice py y.l.length ky] 28)
  rw [World.size_alloc] at this
  exact this
 have HSx := Lib.hid (show ∀ w', Below V.heap.size V w' → w'.cell? ⟨W.heap.size, 0, none⟩ = some (.int .i64 x.op) ∧ w'.cell? ⟨W.heap.size, 1, none⟩ = some (.string (bs x.name)) ∧ w'.cell? ⟨W.heap.size, 2, none⟩ = some (.int .i64 x.n) ∧ w'.cell? ⟨W.heap.size, 3, none⟩ = some (.int .i64 x.w) ∧ w'.cell? ⟨W.heap.size, 4, none⟩ = some (.int .u64 x.v) ∧ w'.cell? ⟨W.heap.size, 5, none⟩ = some (.slice px x.l.length kx) ∧ w'.cell? ⟨W.heap.size + 1, 0, none⟩ = some (.int .i64 y.op) ∧ w'.cell? ⟨W.heap.size + 1, 1, none⟩ = some (.string (bs y.name)) ∧ w'.cell? ⟨W.heap.size + 1, 2, none⟩ = some (.int .i64 y.n) ∧ w'.cell? ⟨W.heap.size + 1, 3, none⟩ = some (.int .i64 y.w) ∧ w'.cell? ⟨W.heap.size + 1, 4, none⟩ = some (.int .u64 y.v) ∧ w'.cell? ⟨W.heap.size + 1, 5, none⟩ = some (.slice py y.l.length ky) from fun w' h => by
  obtain ⟨a0, a1, a2, a3, a4, a5⟩ := cells6 ((h.block _ (Array.getElem?_eq_some_iff.1 ra).1).trans ra)
  obtain ⟨b0, b1, b2, b3, b4, b5⟩ := cells6 ((h.block _ (Array.getElem?_eq_some_iff.1 rb).1).trans rb)
  exact ⟨a0, a1, a2, a3, a4, a5, b0, b1, b2, b3, b4, b5⟩)
 clear ra rb
 have HRx := Lib.hid (fun (W9 : World) (h : Below W.heap.size W W9) => XR.later h _ _ hx)
 have HRy := Lib.hid (fun (W9 : World) (h : Below W.heap.size W W9) => XR.later h _ _ hy)
 have HRl := Lib.hid (fun (W9 : World) (h : Below W.heap.size W W9) => SsR.later hR h)
 have HRC := Lib.hid (show l = [] ∨ ∃ b off, q = some ⟨b, off, none⟩ ∧ b < W.heap.size ∧ Spl.Rows W 4 (SR W) b off l by
  obtain ⟨p', c', e, _, h⟩ := hR
  cases e
  exact h)
 have eF : sizeS (loopS x y l) = sizeX x + sizeX y + sumN sizeS l + 1 := by
  unfold loopS
  rw [sizeS, sizeSs_sum, sizeXs, sizeXs, sizeXs]
  omega
 have eB : sizeS (blockS l) = sumN sizeS l + 1 := by
  unfold blockS
  rw [sizeS, sizeSs_sum, sizeXs]
  omega
 have sF : smS (loopS x y l) = true := by
  rw [smS_iff]
  simp only [loopS, S.name, S.x, S.l, List.all_cons, List.all_nil, x2, y2, l2, Bool.and_true]
  exact decide_eq_true (by decide)
 have sB : smS (blockS l) = true := by
  rw [smS_iff]
  simp only [blockS, S.name, S.x, S.l, List.all_nil, l2, Bool.and_true]
  exact decide_eq_true (by decide)
 have HQ := Lib.hid (fun (cs : List Value) (W9 : World) (h : SR W9 (loopS x y l) cs) => fewS_any (loopS x y l) cs W9 h (by omega))
 have HTF := Lib.hid (fun (hq : fewB (sizeS (loopS x y l)) (deepS (loopS x y l)) = true) (cs : List Value) (W9 : World) (h : SR W9 (loopS x y l) cs) (hb : BaseA W9) => (tokensS_any clk (loopS x y l) cs W9 hb h sF (by have := fewB_le hq; omega)).mono (fun e W' k => show ∃ p n c, e = .returned (.tuple #[.slice p n c, .int .i64 (checkS (loopS x y l))]) ∧ Toks W' (.slice p n c) (if checkS (loopS x y l) = 0 then stmtT (putC clk) (loopS x y l) else []) ∧ n ≤ c ∧ Below W9.heap.size W9 W' by
  obtain ⟨v, rfl, hx, hb⟩ := k
  obtain ⟨p, n, c, rfl⟩ := hx.shape3
  exact ⟨p, n, c, rfl, hx.own.toks, hx.own.cap, hb⟩))
 have HTB := Lib.hid (fun (hq : fewB (sizeS (loopS x y l)) (deepS (loopS x y l)) = true) (cs : List Value) (W9 : World) (h : SR W9 (blockS l) cs) (hb : BaseA W9) => (tokensS_any clk (blockS l) cs W9 hb h sB (by have := fewB_le hq; omega)).mono (fun e W' k => show ∃ p n c, e = .returned (.tuple #[.slice p n c, .int .i64 (checkS (blockS l))]) ∧ Toks W' (.slice p n c) (if checkS (blockS l) = 0 then stmtT (putC clk) (blockS l) else []) ∧ Below W9.heap.size W9 W' by
  obtain ⟨v, rfl, hx, hb⟩ := k
  obtain ⟨p, n, c, rfl⟩ := hx.shape3
  exact ⟨p, n, c, rfl, hx.own.toks, hb⟩))
 have HL := Lib.hid (fun (hq : fewB (sizeS (loopS x y l)) (deepS (loopS x y l)) = true) => show sumN sizeS l ≤ 2000 by have := fewB_le hq; omega)
 have HFL := Lib.hid (fun (hq : fewB (sizeS (loopS x y l)) (deepS (loopS x y l)) = true) => show (stmtT (putC clk) (loopS x y l)).length ≤ 1000000 by have := fewB_le hq; have := stmt_len (putC clk) (loopS x y l); omega)
 have HKID := Lib.hid (fun (h0 : checkS (blockS l) = 0) (k : Nat) (h : k < l.length) => check_kid h0 (List.getElem_mem h))
 have HTB0 := Lib.hid (fun (h0 : checkS (blockS l) = 0) => show (if checkS (blockS l) = 0 then stmtT (putC clk) (blockS l) else []) = stmtT (putC clk) (blockS l) by rw [if_pos h0])
 have HTF0 := Lib.hid (fun (h0 : checkS (loopS x y l) = 0) => show (if checkS (loopS x y l) = 0 then stmtT (putC clk) (loopS x y l) else []) = stmtT (putC clk) (loopS x y l) by rw [if_pos h0])
 have HRB := Lib.hid (show checkS (blockS l) = 0 ∨ (checkS (blockS l) ≠ 0 ∧ (checkS (blockS l) != 0) = true) by
  by_cases h : checkS (blockS l) = 0
  ·exact .inl h
  ·exact .inr ⟨h, by simpa using h⟩)
 have HRF := Lib.hid (show checkS (loopS x y l) = 0 ∨ (checkS (loopS x y l) ≠ 0 ∧ (checkS (loopS x y l) != 0) = true) by
  by_cases h : checkS (loopS x y l) = 0
  ·exact .inl h
  ·exact .inr ⟨h, by simpa using h⟩)
 have HSM := Lib.hid l2
 have HLT := Lib.hid (loop_tok (putC clk) x y l)
 clear hR hx hy hB eF eB sF sB l1 l2 x1 x2 y1 y2
 generalize fewB (sizeS (loopS x y l)) (deepS (loopS x y l)) = qq at *
 generalize (if checkS (loopS x y l) = 0 then stmtT (putC clk) (loopS x y l) else []) = tf at *
 generalize (if checkS (blockS l) = 0 then stmtT (putC clk) (blockS l) else []) = tb at *
 generalize checkS (loopS x y l) = rf at *
 generalize checkS (blockS l) = rb at *
 go_enter Tryz.func6, Tryz.ntmps6
 go_wp2_with fail
 rw [← hV]
 clear hV
 generalize W.heap.size + 1 = b1 at *
 go_wp2_with (first
  | (go_at_call 12; refine (live_any V (HB.out.later XV.out)).mono ?_; rintro e W0 ⟨rfl, hb⟩; have Z0 := Lib.hid hb; obtain ⟨a0, a1, a2, a3, a4, a5, c0, c1, c2, c3, c4, c5⟩ := HSx.out _ (Z0.out.alloc Z0.out.size (.cells #[.int .i64 5, .string ⟨#[]⟩, .slice none 0 0, .slice q l.length k] 31)); have X0 := Lib.hid (XV.out.trans (hb.mono XV.out.size)); clear hb))
 clear a0 a1 a2 a3 a4 a5 c0 c1 c2 c3 c4 c5
 obtain ⟨A1, hA1⟩ : ∃ A1, A1 = W0.alloc (.cells #[.int .i64 5, .string ⟨#[]⟩, .slice none 0 0, .slice q l.length k] 31) := ⟨_, rfl⟩
 obtain ⟨A2, hA2⟩ : ∃ A2, A2 = A1.alloc (.cells #[.int .i64 x.op, .string (bs x.name), .int .i64 x.n, .int .i64 x.w, .int .u64 x.v, .slice px x.l.length kx, .int .i64 y.op, .string (bs y.name), .int .i64 y.n, .int .i64 y.w, .int .u64 y.v, .slice py y.l.length ky] 28) := ⟨_, rfl⟩
 obtain ⟨A3, hA3⟩ : ∃ A3, A3 = A2.alloc (.cells #[.int .i64 6, .string ⟨#[107]⟩, .slice (some ⟨W0.heap.size + 1, 0, none⟩) 2 2, .slice q l.length k] 31) := ⟨_, rfl⟩
 have n1 : A1.heap.size = W0.heap.size + 1 := by rw [hA1, World.size_alloc]
 have n2 : A2.heap.size = W0.heap.size + 2 := by rw [hA2, World.size_alloc, n1]
 have b01 : Below W0.heap.size W0 A1 := by rw [hA1]; exact (Below.refl _ _).alloc (Nat.le_refl _) _
 have b12 : Below A1.heap.size A1 A2 := by rw [hA2]; exact (Below.refl _ _).alloc (Nat.le_refl _) _
 have b23 : Below A2.heap.size A2 A3 := by rw [hA3]; exact (Below.refl _ _).alloc (Nat.le_refl _) _
 have b13 := b12.trans (b23.mono b12.size)
 have b03 := b01.trans (b13.mono b01.size)
 have r1 : A1.heap[W0.heap.size]? = some (.cells #[.int .i64 5, .string ⟨#[]⟩, .slice none 0 0, .slice q l.length k] 31 (0, 0)) := by rw [hA1]; exact World.alloc_heap_new W0 _
 have r2 : A2.heap[W0.heap.size + 1]? = some (.cells #[.int .i64 x.op, .string (bs x.name), .int .i64 x.n, .int .i64 x.w, .int .u64 x.v, .slice px x.l.length kx, .int .i64 y.op, .string (bs y.name), .int .i64 y.n, .int .i64 y.w, .int .u64 y.v, .slice py y.l.length ky] 28 (0, 0)) := by rw [← n1, hA2]; exact World.alloc_heap_new A1 _
 have r3 : A3.heap[W0.heap.size + 2]? = some (.cells #[.int .i64 6, .string ⟨#[107]⟩, .slice (some ⟨W0.heap.size + 1, 0, none⟩) 2 2, .slice q l.length k] 31 (0, 0)) := by rw [← n2, hA3]; exact World.alloc_heap_new A2 _
 have q1 := (b13.block _ (Array.getElem?_eq_some_iff.1 r1).1).trans r1
 have q2 := (b23.block _ (Array.getElem?_eq_some_iff.1 r2).1).trans r2
 have X3 := Lib.hid (X0.out.trans (b03.mono X0.out.size))
 have HC := Lib.hid (show ∀ w', Below A3.heap.size A3 w' → w'.cell? ⟨W0.heap.size, 0, none⟩ = some (.int .i64 5) ∧ w'.cell? ⟨W0.heap.size, 1, none⟩ = some (.string ⟨#[]⟩) ∧ w'.cell? ⟨W0.heap.size, 2, none⟩ = some (.slice none 0 0) ∧ w'.cell? ⟨W0.heap.size, 3, none⟩ = some (.slice q l.length k) ∧ w'.cell? ⟨W0.heap.size + 1 + 1, 0, none⟩ = some (.int .i64 6) ∧ w'.cell? ⟨W0.heap.size + 1 + 1, 1, none⟩ = some (.string ⟨#[107]⟩) ∧ w'.cell? ⟨W0.heap.size + 1 + 1, 2, none⟩ = some (.slice (some ⟨W0.heap.size + 1, 0, none⟩) 2 2) ∧ w'.cell? ⟨W0.heap.size + 1 + 1, 3, none⟩ = some (.slice q l.length k) from fun w' h => by
  obtain ⟨a0, a1, a2, a3⟩ := cells4 ((h.block _ (Array.getElem?_eq_some_iff.1 q1).1).trans q1)
  obtain ⟨b0, b1, b2, b3⟩ := cells4 ((h.block _ (Array.getElem?_eq_some_iff.1 r3).1).trans r3)
  exact ⟨a0, a1, a2, a3, b0, b1, b2, b3⟩)
 have SB := Lib.hid (show ∀ w', Below A3.heap.size A3 w' → SR w' (blockS l) [.int .i64 5, .string ⟨#[]⟩, .slice none 0 0, .slice q l.length k] from fun w' h => SR_iff.2 ⟨_, _, rfl, ⟨none, 0, rfl, Nat.le_refl _, .inl rfl⟩, HRl.out _ (X3.out.trans (h.mono X3.out.size))⟩)
 have SF := Lib.hid (show ∀ w', Below A3.heap.size A3 w' → SR w' (loopS x y l) [.int .i64 6, .string ⟨#[107]⟩, .slice (some ⟨W0.heap.size + 1, 0, none⟩) 2 2, .slice q l.length k] from fun w' h => SR_iff.2 ⟨_, _, rfl, pair_els (ca := [.int .i64 x.op, .string (bs x.name), .int .i64 x.n, .int .i64 x.w, .int .u64 x.v, .slice px x.l.length kx]) (cb := [.int .i64 y.op, .string (bs y.name), .int .i64 y.n, .int .i64 y.w, .int .u64 y.v, .slice py y.l.length ky]) ((h.block _ (Array.getElem?_eq_some_iff.1 q2).1).trans q2) (HRx.out _ (X3.out.trans (h.mono X3.out.size))) (HRy.out _ (X3.out.trans (h.mono X3.out.size))) rfl rfl, HRl.out _ (X3.out.trans (h.mono X3.out.size))⟩)
 obtain ⟨z0, z1, z2, z3, y0, y1, y2, y3⟩ := HC.out _ (Below.refl _ _)
 rw [← hA1, ← hA2, ← hA3]
 clear hA1 hA2 hA3 n1 n2 b01 b12 b23 b13 b03 r1 r2 r3 q1 q2 HRx HRy
 generalize W0.heap.size + 1 + 1 = bF at *
 generalize W0.heap.size + 1 = bX at *
 generalize W0.heap.size = bB at *
 have Z0 := Lib.hid (Below.refl A3.heap.size A3)
 refine (HQ.out [.int .i64 6, .string ⟨#[107]⟩, .slice (some ⟨bX, 0, none⟩) 2 2, .slice q l.length k] A3 (SF.out _ Z0.out)).mono ?_
 rintro e W1 ⟨rfl, hb⟩
 have Z1 := Lib.hid hb
 obtain ⟨z0, z1, z2, z3, y0, y1, y2, y3⟩ := HC.out _ Z1.out
 have X1 := Lib.hid (X3.out.trans (hb.mono X3.out.size))
 clear hb
 have F1 := True.intro
 cases qq
 case false =>
  go_wp2_with fail
  go_ret
  exact ⟨rfl, X1.out⟩
 have HL2 := Lib.hid (HL.out (by trivial))
 have HFL2 := Lib.hid (HFL.out (by trivial))
 clear HL HFL
 go_wp2_with (first
  | (go_at_call 20; clear F1; refine (HTB.out (by trivial) [.int .i64 5, .string ⟨#[]⟩, .slice none 0 0, .slice q l.length k] W1 (SB.out _ Z1.out) (HB.out.later X1.out)).mono ?_; rintro e W2 ⟨p2, n2, d2, rfl, hx, hb⟩; have T2 := Lib.hid hx; have Z2 := Lib.hid (Z1.out.trans (hb.mono Z1.out.size)); obtain ⟨z0, z1, z2, z3, y0, y1, y2, y3⟩ := HC.out _ Z2.out; have X2 := Lib.hid (X1.out.trans (hb.mono X1.out.size)); clear hb hx)
  | (go_at_call 20; refine (HTF.out (by trivial) [.int .i64 6, .string ⟨#[107]⟩, .slice (some ⟨bX, 0, none⟩) 2 2, .slice q l.length k] W2 (SF.out _ Z2.out) (HB.out.later X2.out)).mono ?_; rintro e W3 ⟨p3, n3, d3, rfl, hx, hcp, hb⟩; have T3 := Lib.hid hx; have HCP := Lib.hid hcp; clear hcp; have T2 := Lib.hid (T2.out.later hb); have X3 := Lib.hid (X2.out.trans (hb.mono X2.out.size)); clear hb hx; rcases HRB.out with rfl | ⟨hr0, hr1⟩))
 all_goals first
  | (go_ret; exact ⟨rfl, X3.out⟩)
  | skip
 have HTB0 := Lib.hid (HTB0.out (by trivial))
 have HKID := Lib.hid (HKID.out (by trivial))
 clear HRB HQ HTF HTB SB SF HC z0 z1 z2 z3 y0 y1 y2 y3
 go_loopw [16, 17] (fun u i wr => ∃ (j n : Nat) (pq : Option Addr) (cp : Nat), u = .slice pq n cp ∧ i = .int .i64 j ∧ j ≤ l.length ∧ Hid (n = (headB (putC clk) l j).length) ∧ Hid (OwnT W3.heap.size wr (.slice pq n cp) (headB (putC clk) l j)) ∧ Hid (Below W3.heap.size W3 wr)) (fun _ i _ => l.length - (intOf i).toNat)
 case atStart => exact ⟨0, 1, some ⟨W3.heap.size, 0, none⟩, 1, rfl, rfl, Nat.zero_le _, Lib.hid rfl, Lib.hid (tok_new W3 (sgT [123])), Lib.hid ((Below.refl _ _).alloc (Nat.le_refl _) _)⟩
 case round =>
  obtain ⟨j, n, pq, cp, rfl, rfl, hj, HN, HO, HX⟩ := hrel
  have hl2 : l.length ≤ 2000 := Nat.le_trans (sumN_len sizeS one_sizeS l) HL2.out
  by_cases hlt : j < l.length
  case neg =>
   obtain rfl : j = l.length := by omega
   have hge : ¬ ((l.length : Int) < (l.length : Int)) := by omega
   have HEQ := Lib.hid (show decide (headB (putC clk) l l.length ++ [sgT [125]] = tb) = true by rw [HTB0.out, headB_end]; exact decide_eq_true rfl)
   have hlen := headB_len (putC clk) l l.length (by have := HL2.out; omega)
   have HLB := Lib.hid (show (headB (putC clk) l l.length).length + [sgT [125]].length ≤ 20000000 by simp only [List.length_cons, List.length_nil]; omega)
   have HLEN := Lib.hid (show (headB (putC clk) l l.length ++ [sgT [125]]).length ≤ 140737488351232 by rw [List.length_append]; simp only [List.length_cons, List.length_nil]; omega)
   have HOV := Lib.hid (HO.out.later ((Below.refl _ _).alloc (Nat.le_refl _) (.cells #[.int .i64 4, .string ⟨#[125]⟩, .int .i64 0, .int .u64 0, .int .i64 0] 55)))
   have HXV := Lib.hid (HX.out.alloc HX.out.size (.cells #[.int .i64 4, .string ⟨#[125]⟩, .int .i64 0, .int .u64 0, .int .i64 0] 55))
   clear hlen
   have HLB2 := Lib.hid (show tb.length ≤ 140737488351232 by rw [HTB0.out, ← headB_end]; exact HLEN.out)
   have HFX := Lib.hid (show (rf = 0 ∧ ∃ b off U, p3 = some ⟨b, off, none⟩ ∧ n3 = U + n2 ∧ 0 < U ∧ U ≤ 1000000 ∧ U + n2 ≤ d3 ∧ ¬ d3 = U ∧ ∀ w', Below W3.heap.size W3 w' → Toks w' (.slice (some ⟨b, off + U * 5, none⟩) n2 (d3 - U)) tb) ∨ (rf ≠ 0 ∧ (rf != 0) = true) by
    rcases HRF.out with h0 | h0
    ·left
     refine ⟨h0, ?_⟩
     have e1 := HTF0.out h0
     obtain ⟨u, e2, hu⟩ := HLT.out
     have e3 := HFL2.out
     have e4 : tf = u ++ tb := by rw [e1, e2, HTB0.out]
     have e5 : u.length ≤ 1000000 := by rw [e2, List.length_append] at e3; omega
     have hne : tb ≠ [] := by rw [HTB0.out, block_tok]; simp
     have t3 := T3.out
     rw [e4] at t3
     obtain ⟨e6, e7⟩ := toks_drop t3 rfl
     obtain ⟨b, off, e8, -⟩ := e7 hne
     obtain ⟨p', c', e9⟩ := T2.out.form
     simp only [Value.slice.injEq] at e9
     have hcp := HCP.out
     have hpos : 0 < tb.length := List.length_pos_iff.2 hne
     refine ⟨b, off, u.length, e8, by omega, hu, e5, by omega, by omega, fun w' hw' => ?_⟩
     obtain ⟨-, e10⟩ := toks_drop (t3.later hw') rfl
     obtain ⟨b', off', e11, e12⟩ := e10 hne
     rw [e8] at e11
     cases e11
     rw [e9.2.1]
     exact e12
    ·exact .inr h0)
   have F1 := True.intro
   go_wp2_with (first
    | (at_builtin; refine wpList_append_toks rfl _ _ rfl W3.heap.size _ (headB (putC clk) l l.length) [sgT [125]] rfl HOV.out _ _ rfl (tok_new wr (sgT [125])) HLB.out HXV.out.size ?_; intro p6 c6 N w6 hN hO hgr; have HO6 := Lib.hid hO; have HX6 := Lib.hid (Below.grown HXV.out hgr HXV.out.size (fun k hk => HOV.out.base k hk)); have T26 := Lib.hid (T2.out.later HX6.out); clear hN hO hgr)
    | (go_at_call 22; clear F1; refine (equal_any _ _ (headB (putC clk) l l.length ++ [sgT [125]]) tb HLEN.out _ HO6.out.toks T26.out).mono ?_; rw [HEQ.out]; rintro e W7 ⟨rfl, hb⟩; have X7 := Lib.hid (X3.out.trans ((HX6.out.trans (hb.mono HX6.out.size)).mono X3.out.size)); have T27 := Lib.hid (T26.out.later hb); have HB37 := Lib.hid (HX6.out.trans (hb.mono HX6.out.size)); clear hb; rcases HFX.out with ⟨rfl, b, off, U, rfl, rfl, hU, hU1, hU2, hU4, hU3⟩ | ⟨hr0, hr1⟩))
   all_goals first
    | (go_ret; exact ⟨rfl, X7.out⟩)
    | skip
   refine (equal_any _ _ tb tb HLB2.out _ (hU3 _ HB37.out) T27.out).mono ?_
   rw [show decide (tb = tb) = true by simp]
   rintro e W8 ⟨rfl, hb⟩
   have X8 := Lib.hid (X7.out.trans (hb.mono X7.out.size))
   clear hb
   go_wp2_with fail
   go_ret
   exact ⟨rfl, X8.out⟩
  have hlt' : (j : Int) < (l.length : Int) := by omega
  rcases HRC.out with hf | ⟨b, off, rfl, hq, hrows⟩
  ·subst hf; simp at hlt
  obtain ⟨cs, hM, hcs⟩ := hrows j hlt
  have hBW := X3.out.trans (HX.out.mono X3.out.size)
  have HM0 := Lib.hid hM
  obtain ⟨xs, ls, rfl, h1, h2⟩ := SR_iff.1 hM
  obtain ⟨p4, c4, rfl, _⟩ := h1
  obtain ⟨p5, c5, rfl, _⟩ := h2
  have x0 := (hBW.cell (p := ⟨b, off + j * 4 + 0, none⟩) hq).trans (hcs 0 (by omega))
  have x1 := (hBW.cell (p := ⟨b, off + j * 4 + 1, none⟩) hq).trans (hcs 1 (by omega))
  have x2 := (hBW.cell (p := ⟨b, off + j * 4 + 2, none⟩) hq).trans (hcs 2 (by omega))
  have x3 := (hBW.cell (p := ⟨b, off + j * 4 + 3, none⟩) hq).trans (hcs 3 (by omega))
  simp only [Nat.add_zero, List.getElem?_cons_zero, List.getElem?_cons_succ] at x0 x1 x2 x3
  have HMS := Lib.hid (SR.later hBW _ _ HM0.out)
  have HCK := Lib.hid (HKID.out j hlt)
  have HS1 := Lib.hid (List.all_eq_true.1 HSM.out _ (List.getElem_mem hlt))
  have HZ1 := Lib.hid (show sizeS l[j] ≤ 60000 by have h1 := sumN_mem sizeS (List.getElem_mem hlt); have h2 := HL2.out; omega)
  have HTK := Lib.hid (headB_next (putC clk) l j hlt)
  have HLB := Lib.hid (show (headB (putC clk) l j).length + (stmtT (putC clk) l[j]).length ≤ 20000000 by
   have h1 := headB_len (putC clk) l (j + 1) (by have := HL2.out; omega)
   rw [headB_next (putC clk) l j hlt, List.length_append] at h1
   omega)
  have HBV := Lib.hid (HB.out.later hBW)
  clear hrows hcs HM0 HRC hBW hM
  generalize l[j] = m at *
  go_wp2_with (first
   | (go_at_call 20; refine (tokensS_any clk m _ _ HBV.out HMS.out HS1.out HZ1.out).mono ?_; rw [HCK.out]; rintro e W5 ⟨v, rfl, hx, hb⟩; rw [if_pos rfl] at hx; obtain ⟨p6, n6, c6, rfl⟩ := hx.shape3; have O5 := Lib.hid hx.own; have H5 := Lib.hid (HX.out.trans (hb.mono HX.out.size)); have L5 := Lib.hid (HO.out.later hb); clear hb hx)
   | (at_builtin; refine wpList_append_toks rfl _ _ rfl W3.heap.size _ (headB (putC clk) l j) (stmtT (putC clk) m) rfl L5.out _ _ rfl O5.out HLB.out H5.out.size ?_; intro p7 c7 N w6 hN hO hgr; have HN6 := Lib.hid hN.out; have HO6 := Lib.hid hO; have HX6 := Lib.hid (Below.grown H5.out hgr H5.out.size (fun k hk => L5.out.base k hk)); clear hN hO hgr))
  go_roundw
  case rel => exact ⟨j + 1, _, p7, c7, rfl, by go_num, hlt, Lib.hid (by rw [HTK.out]; exact HN6.out), Lib.hid (by rw [HTK.out]; exact HO6.out), HX6⟩
  case measure => simp [intOf]; omega
end Go.Proofs.YtlcfpdmicpggbaaGreatDoor
