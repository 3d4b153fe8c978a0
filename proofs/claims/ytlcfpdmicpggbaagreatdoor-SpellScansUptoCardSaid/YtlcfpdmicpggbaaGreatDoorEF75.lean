/- Texts of the seat, merged. -/
import Derived.Test.YtlcfpdmicpggbaaGreatDoorB15
import Derived.Test.YtlcfpdmicpggbaaGreatDoorEF73
set_option linter.unusedVariables false
set_option linter.unusedSimpArgs false
set_option maxRecDepth 100000
set_option maxHeartbeats 16000000
namespace Go.Proofs.YtlcfpdmicpggbaaGreatDoor
open Go.RowKit Go.Proofs.Spl Go.Proofs.Scn Go.Shelf
theorem Toks.cells {w : World} {p : Option Addr} {n c : Nat} {ts : List Tok} (h : Toks w (.slice p n c) ts) : n = ts.length ∧ ∃ b off, (0 < ts.length → p = some ⟨b, off, none⟩) ∧ ∀ W9, Below w.heap.size w W9 → ∀ k (h : k < ts.length), TokAt W9 b (off + k * 5) ts[k] := by
 rcases h with ⟨h, p, c, e⟩ | ⟨b, off, cap, e, h1, h2⟩
 ·cases e; subst h; exact ⟨rfl, 0, 0, fun h => by simp at h, fun W9 h k hk => by simp at hk⟩
 ·cases e; exact ⟨rfl, b, off, fun _ => rfl, fun W9 h k hk => (h2 k hk).later h1 h⟩
theorem read_any (b : Value) (p : Option Addr) (n c : Nat) (ts : List Tok) (hc : ts.all checkT = true) (hf : AllF ts) (hl : ts.length ≤ 1000000) (ht : (textL ts).length ≤ 65536) (W : World) (hB : Base W) (hb : Bytes W b (bs (textL ts))) (hT : Toks W (.slice p n c) ts) :
  RetB 38 #[b, .slice p n c] W true := by
 obtain ⟨us, hu1, hu2⟩ := scan_text ts 0 (fun t h => ⟨List.all_eq_true.1 hc t h, (hf t h).1⟩)
 have hul : us.length = ts.length := by have := congrArg List.length hu2; simpa using this
 have HEQ := Lib.hid (show ∀ k (h : k < us.length) (h2 : k < ts.length), us[k].k = ts[k].k ∧ us[k].s = ts[k].s ∧ us[k].w = ts[k].w ∧ us[k].v = ts[k].v from fun k h h2 => by
  have h3 : (us.map at0)[k]? = (ts.map at0)[k]? := by rw [hu2]
  rw [List.getElem?_map, List.getElem?_map, List.getElem?_eq_getElem h, List.getElem?_eq_getElem h2] at h3
  simp only [Option.map_some, Option.some.injEq, at0, Tok.mk.injEq] at h3
  exact ⟨h3.1, h3.2.1, h3.2.2.1, h3.2.2.2.1⟩)
 have HS := Lib.hid ((scan_any b (bs (textL ts)) (by show (bs (textL ts)).size ≤ _; rw [size_bs]; exact ht) W hb hB).mono (fun e W' k => show ∃ p5 c5, e = .returned (.tuple #[.slice p5 us.length c5, .int .i64 0, .int .i64 0]) ∧ Toks W' (.slice p5 us.length c5) us ∧ Below W.heap.size W W' by
  obtain ⟨k1, k2⟩ := k
  rw [list_bs, hu1] at k1
  obtain ⟨v, rfl, hv⟩ := k1
  obtain ⟨p5, c5, rfl⟩ := TokRow.shape hv
  exact ⟨p5, c5, rfl, hv.toks, k2⟩))
 obtain ⟨hn, ht2⟩ := hT.cells
 subst hn
 have HT := Lib.hid ht2
 have HL := Lib.hid hl
 have HUL := Lib.hid hul
 clear hu1 hu2 hf ht hB hb hT ht2 hc
 unfold RetB
 go_enter Tryz.func38, Tryz.ntmps38
 go_wp2_with (go_at_call 77; refine HS.out.mono ?_; rintro e W1 ⟨p5, c5, rfl, hx, hb⟩; rw [HUL.out] at hx ⊢; have T1 := Lib.hid hx; have X1 := Lib.hid hb; clear hb hx)
 obtain ⟨hn1, ht1⟩ := (show Toks W1 (.slice p5 ts.length c5) us from T1.out).cells
 have HT1 := Lib.hid ht1
 clear hn1 ht1
 go_loopw [8] (fun i wr => ∃ k : Nat, k ≤ ts.length ∧ i = .int .i64 k ∧ Hid (Below W1.heap.size W1 wr)) (fun i _ => ts.length - (intOf i).toNat)
 case atStart => exact ⟨0, Nat.zero_le _, rfl, Lib.hid (Below.refl _ _)⟩
 case round =>
  obtain ⟨k, hk, rfl, HX⟩ := hrel
  have HX9 := Lib.hid (X1.out.trans (HX.out.mono X1.out.size))
  by_cases hlt : k < ts.length
  case neg =>
   obtain rfl : k = ts.length := by omega
   have hge : ¬ ((ts.length : Int) < (ts.length : Int)) := by omega
   go_wp2_with fail
   go_ret
   exact ⟨rfl, HX9.out⟩
  have hlu : k < us.length := by have := HUL.out; omega
  have hlt' : (k : Int) < (ts.length : Int) := by omega
  obtain ⟨b1, o1, hp1, ha1⟩ := HT.out
  obtain rfl := hp1 (by omega)
  obtain ⟨b2, o2, hp2, ha2⟩ := HT1.out
  obtain rfl := hp2 (by omega)
  obtain ⟨c0, c1, c2, c3, c4⟩ := ha1 wr HX9.out k hlt
  obtain ⟨d0, d1, d2, d3, d4⟩ := ha2 wr HX.out k hlu
  obtain ⟨e0, e1, e2, e3⟩ := HEQ.out k hlu hlt
  rw [e0] at d0
  rw [e1] at d1
  rw [e2] at d2
  rw [e3] at d3
  clear e0 e1 e2 e3 hp1 hp2 ha1 ha2 HEQ HT HT1 c4 d4
  generalize ts[k] = t at *
  have hcc : wr.cell? ⟨b1, o1 + k * 5, none⟩ = some (.int .i64 t.k) ∧ wr.cell? ⟨b1, o1 + k * 5 + 1, none⟩ = some (.string (bs t.s)) ∧ wr.cell? ⟨b1, o1 + k * 5 + 2, none⟩ = some (.int .i64 t.w) ∧ wr.cell? ⟨b1, o1 + k * 5 + 3, none⟩ = some (.int .u64 t.v) ∧ wr.cell? ⟨b2, o2 + k * 5, none⟩ = some (.int .i64 t.k) ∧ wr.cell? ⟨b2, o2 + k * 5 + 1, none⟩ = some (.string (bs t.s)) ∧ wr.cell? ⟨b2, o2 + k * 5 + 2, none⟩ = some (.int .i64 t.w) ∧ wr.cell? ⟨b2, o2 + k * 5 + 3, none⟩ = some (.int .u64 t.v) := ⟨c0, c1, c2, c3, d0, d1, d2, d3⟩
  go_wp2_with fail
  go_region_held3 (fun w' => w'.cell? ⟨b1, o1 + k * 5, none⟩ = some (.int .i64 t.k) ∧ w'.cell? ⟨b1, o1 + k * 5 + 1, none⟩ = some (.string (bs t.s)) ∧ w'.cell? ⟨b1, o1 + k * 5 + 2, none⟩ = some (.int .i64 t.w) ∧ w'.cell? ⟨b1, o1 + k * 5 + 3, none⟩ = some (.int .u64 t.v) ∧ w'.cell? ⟨b2, o2 + k * 5, none⟩ = some (.int .i64 t.k) ∧ w'.cell? ⟨b2, o2 + k * 5 + 1, none⟩ = some (.string (bs t.s)) ∧ w'.cell? ⟨b2, o2 + k * 5 + 2, none⟩ = some (.int .i64 t.w) ∧ w'.cell? ⟨b2, o2 + k * 5 + 3, none⟩ = some (.int .u64 t.v))
   (first | exact hcc | go_keep) (fail)
  go_wp2_with fail
  go_roundw
  case rel => exact ⟨k + 1, by omega, by go_num, HX.out.drew⟩
  case measure => simp [intOf]; omega
end Go.Proofs.YtlcfpdmicpggbaaGreatDoor
namespace Go.Proofs.YtlcfpdmicpggbaaGreatDoor
open Go.RowKit Go.Proofs.Spl Go.Proofs.Scn Go.Shelf
def strsC (l : List Ln) : List Value := l.map fun s => .string (bs s)
def OwnS (B : Nat) (w : World) (v : Value) (l : List Ln) : Prop := w.ownsRow B 9 1 v l.length (strsC l)
theorem OwnS.nil (B : Nat) (w : World) : OwnS B w (.slice none 0 0) [] := World.ownsRow_nil w B _ 1
theorem OwnS.later {B : Nat} {w w' : World} {v : Value} {l : List Ln} (h : OwnS B w v l) (hb : Below w.heap.size w w') : OwnS B w' v l := by
 refine ⟨h.1, ?_⟩
 rcases h.2 with h0 | ⟨g, cap, cur, hv, hB, hg, h1⟩
 ·exact .inl h0
 ·exact .inr ⟨g, cap, cur, hv, hB, (hb.block g (Array.getElem?_eq_some_iff.1 hg).1).trans hg, h1⟩
theorem OwnS.shape {B : Nat} {w : World} {v : Value} {l : List Ln} (h : OwnS B w v l) : ∃ p c, v = .slice p l.length c := by
 rcases h.2 with ⟨h0, h1⟩ | ⟨g, cap, cur, hv, _⟩
 ·exact ⟨none, 0, by rw [h0, h1]⟩
 ·exact ⟨_, _, hv⟩
theorem OwnS.base {B : Nat} {w : World} {v : Value} {l : List Ln} (h : OwnS B w v l) : ∀ k, v.ownBlock = some k → B ≤ k ∧ k < w.heap.size := by
 intro k hk
 rcases h.2 with ⟨rfl, _⟩ | ⟨g, cap, cur, rfl, hB, hg, h1⟩
 ·cases hk
 ·simp [Value.ownBlock] at hk; subst hk; exact ⟨hB, (Array.getElem?_eq_some_iff.1 hg).1⟩
end Go.Proofs.YtlcfpdmicpggbaaGreatDoor
namespace Go.Proofs.YtlcfpdmicpggbaaGreatDoor
open Go.RowKit Go.Proofs.Spl Go.Proofs.Scn Go.Shelf
theorem fewB_le {n d : Nat} (h : fewB n d = true) : n ≤ 2000 := by
 unfold fewB at h
 simp only [Bool.and_eq_true, decide_eq_true_eq] at h
 exact h.1
end Go.Proofs.YtlcfpdmicpggbaaGreatDoor
namespace Go.Proofs.YtlcfpdmicpggbaaGreatDoor
open Go.RowKit Go.Proofs.Spl Go.Proofs.Scn Go.Shelf
theorem pr_cases (c : Int) (ts : List Tok) : (prE c ts = 0 ∧ c = 0 ∧ (textL ts).length ≤ 65536) ∨ (prE c ts = 2 ∧ c = 0) ∨ (prE c ts = c ∧ c ≠ 0) := by
 unfold prE
 by_cases h : c = 0
 ·by_cases h2 : (textL ts).length ≤ 65536
  ·exact .inl ⟨by rw [if_pos h, if_pos h2], h, h2⟩
  ·exact .inr (.inl ⟨by rw [if_pos h, if_neg h2], h⟩)
 ·exact .inr (.inr ⟨by rw [if_neg h], h⟩)
theorem scans_any (f : List Md) (p : Option Addr) (c : Nat) (x : X) (cs : List Value) (W : World) (hB : BaseA W) (hR : MsR W (.slice p f.length c) f) (hX : XR W x cs)
  (f1 : sumN sizeM f ≤ 1048576) (f2 : f.all smM = true) (x1 : sizeX x ≤ 1048576) (x2 : smX x = true) :
  RetB 11 #[.agg #[.slice p f.length c], .agg cs.toArray] W true := by
 have HF := Lib.hid (fun (W9 : World) (h : Below W.heap.size W W9) => few_any f p c W9 (MsR.later hR h) (by omega))
 have HG := Lib.hid (fun (W9 : World) (h : Below W.heap.size W W9) => fewX_any x cs W9 (XR.later h _ _ hX) (by omega))
 have HT := Lib.hid (fun (hq : fewB (sumN sizeM f) (maxN deepM f) = true) (W9 : World) (h : Below W.heap.size W W9) => (tokens_any f p c W9 (hB.later h) (MsR.later hR h) f2 (by have := fewB_le hq; omega)).mono (fun e W' k => show ∃ p n c, e = .returned (.tuple #[.slice p n c, .int .i64 (checkF f)]) ∧ (checkF f = 0 → Toks W' (.slice p n c) (fileT f)) ∧ Below W9.heap.size W9 W' by
  obtain ⟨v, rfl, hx, hb⟩ := k
  obtain ⟨p, n, c, rfl⟩ := hx.shape3
  exact ⟨p, n, c, rfl, fun h0 => by rw [if_pos h0] at hx; exact hx.own.toks, hb⟩))
 have HU := Lib.hid (fun (hq : fewB (sizeX x) (deepX x) = true) (W9 : World) (h : Below W.heap.size W W9) => (tokensX_any x cs W9 (hB.later h) (XR.later h _ _ hX) x2 (by have := fewB_le hq; omega)).mono (fun e W' k => show ∃ p n c, e = .returned (.tuple #[.slice p n c, .int .i64 (checkX x)]) ∧ (checkX x = 0 → Toks W' (.slice p n c) (exprT x)) ∧ Below W9.heap.size W9 W' by
  obtain ⟨v, rfl, hx, hb⟩ := k
  obtain ⟨p, n, c, rfl⟩ := hx.shape3
  exact ⟨p, n, c, rfl, fun h0 => by rw [if_pos h0] at hx; exact hx.own.toks, hb⟩))
 have HP := Lib.hid (fun (hq : fewB (sumN sizeM f) (maxN deepM f) = true) (W9 : World) (h : Below W.heap.size W W9) => (print_any f p c W9 (hB.later h) (MsR.later hR h) f2 (by have := fewB_le hq; omega)).mono (fun e W' k => show ∃ p n c, e = .returned (.tuple #[.slice p n c, .int .i64 (prE (checkF f) (fileT f))]) ∧ (prE (checkF f) (fileT f) = 0 → Bytes W' (.slice p n c) (bs (textL (fileT f)))) ∧ Below W9.heap.size W9 W' by
  obtain ⟨p, n, c, rfl, hx, hb⟩ := k
  exact ⟨p, n, c, rfl, fun h0 => by rw [if_pos h0] at hx; exact hx.bytes, hb⟩))
 have HQ := Lib.hid (fun (hq : fewB (sizeX x) (deepX x) = true) (W9 : World) (h : Below W.heap.size W W9) => (printX_any x cs W9 (hB.later h) (XR.later h _ _ hX) x2 (by have := fewB_le hq; omega)).mono (fun e W' k => show ∃ p n c, e = .returned (.tuple #[.slice p n c, .int .i64 (prE (checkX x) (exprT x))]) ∧ (prE (checkX x) (exprT x) = 0 → Bytes W' (.slice p n c) (bs (textL (exprT x)))) ∧ Below W9.heap.size W9 W' by
  obtain ⟨p, n, c, rfl, hx, hb⟩ := k
  exact ⟨p, n, c, rfl, fun h0 => by rw [if_pos h0] at hx; exact hx.bytes, hb⟩))
 have HRF := Lib.hid (fun (hq : fewB (sumN sizeM f) (maxN deepM f) = true) (h0 : checkF f = 0) (h1 : (textL (fileT f)).length ≤ 65536) (W9 : World) (h : Below W.heap.size W W9) b p n c => read_any b p n c (fileT f) (even_check _ _ (bal_file (checkF_ok.1 h0).2.2.2).even) (fair_file (checkF_ok.1 h0).2.2.2) (by have := fewB_le hq; have := file_len f; omega) h1 W9 (hB.later h).base)
 have HRX := Lib.hid (fun (hq : fewB (sizeX x) (deepX x) = true) (h0 : checkX x = 0) (h1 : (textL (exprT x)).length ≤ 65536) (W9 : World) (h : Below W.heap.size W W9) b p n c => read_any b p n c (exprT x) (even_check _ _ (bal_expr x (checkX_ok.1 h0).2.2).even) (fair_expr x (checkX_ok.1 h0).2.2) (by have := fewB_le hq; have := expr_len x; omega) h1 W9 (hB.later h).base)
 have HCF := Lib.hid (pr_cases (checkF f) (fileT f))
 have HCX := Lib.hid (pr_cases (checkX x) (exprT x))
 have HB := Lib.hid hB
 obtain ⟨hv, ls, rfl, hL⟩ := XR_iff.1 hX
 obtain ⟨px, cx, rfl, _⟩ := hL
 clear hB hR hX f1 f2 x1 x2 hv
 generalize fewB (sumN sizeM f) (maxN deepM f) = q at *
 generalize fewB (sizeX x) (deepX x) = q' at *
 generalize prE (checkF f) (fileT f) = eF at *
 generalize prE (checkX x) (exprT x) = eX at *
 generalize checkF f = rF at *
 generalize checkX x = rX at *
 generalize fileT f = tF at *
 generalize exprT x = tX at *
 obtain ⟨V, hV⟩ : ∃ V, V = (W.alloc (.cells #[.slice p f.length c] 24)).alloc (.cells #[.int .i64 x.op, .string (bs x.name), .int .i64 x.n, .int .i64 x.w, .int .u64 x.v, .slice px x.l.length cx] 28) := ⟨_, rfl⟩
 have XV := Lib.hid (show Below W.heap.size W V by rw [hV]; exact ((Below.refl _ _).alloc (Nat.le_refl _) _).alloc (by simp) _)
 have r0 : V.heap[W.heap.size]? = some (.cells #[.slice p f.length c] 24 (0, 0)) := by rw [hV]; exact (Below.heap_alloc _ _ _ (by simp)).trans (World.alloc_heap_new W _)
 have r1 : V.heap[W.heap.size + 1]? = some (.cells #[.int .i64 x.op, .string (bs x.name), .int .i64 x.n, .int .i64 x.w, .int .u64 x.v, .slice px x.l.length cx] 28 (0, 0)) := by
  rw [hV]
  have := World.alloc_heap_new (W.alloc (.cells #[.slice p f.length c] 24)) (.cells #[.int .i64 x.op, .string (bs x.name), .int .i64 x.n, .int .i64 x.w, .int .u64 x.v, .slice px x.l.length cx] 28)
  rw [World.size_alloc] at this
  exact this
 have HSx := Lib.hid (show ∀ w', Below V.heap.size V w' → w'.cell? ⟨W.heap.size, 0, none⟩ = some (.slice p f.length c) ∧ w'.cell? ⟨W.heap.size + 1, 0, none⟩ = some (.int .i64 x.op) ∧ w'.cell? ⟨W.heap.size + 1, 1, none⟩ = some (.string (bs x.name)) ∧ w'.cell? ⟨W.heap.size + 1, 2, none⟩ = some (.int .i64 x.n) ∧ w'.cell? ⟨W.heap.size + 1, 3, none⟩ = some (.int .i64 x.w) ∧ w'.cell? ⟨W.heap.size + 1, 4, none⟩ = some (.int .u64 x.v) ∧ w'.cell? ⟨W.heap.size + 1, 5, none⟩ = some (.slice px x.l.length cx) from fun w' h => by
  have k0 := (h.block _ (Array.getElem?_eq_some_iff.1 r0).1).trans r0
  have k1 := (h.block _ (Array.getElem?_eq_some_iff.1 r1).1).trans r1
  exact ⟨(cell_of_row _ _ _ _ _ _ k0).trans rfl, (cell_of_row _ _ 0 _ _ _ k1).trans rfl, (cell_of_row _ _ 1 _ _ _ k1).trans rfl, (cell_of_row _ _ 2 _ _ _ k1).trans rfl, (cell_of_row _ _ 3 _ _ _ k1).trans rfl, (cell_of_row _ _ 4 _ _ _ k1).trans rfl, (cell_of_row _ _ 5 _ _ _ k1).trans rfl⟩)
 clear r0 r1
 obtain ⟨y0, y1, y2, y3, y4, y5, y6⟩ := HSx.out _ (Below.refl _ _)
 go_enter Tryz.func11, Tryz.ntmps11
 go_wp2_with fail
 rw [← hV]
 clear hV
 generalize W.heap.size + 1 = b1 at *
 go_wp2_with (first
  | (go_at_call 12; refine (live_any V (HB.out.later XV.out)).mono ?_; rintro e W0 ⟨rfl, hb⟩; have Z0 := Lib.hid hb; obtain ⟨z0, z1, z2, z3, z4, z5, z6⟩ := HSx.out _ Z0.out; have X0 := Lib.hid (XV.out.trans (hb.mono XV.out.size)); clear hb)
  | (go_at_call 13; refine (HF.out _ X0.out).mono ?_; rintro e W1 ⟨rfl, hb⟩; have Z1 := Lib.hid (Z0.out.trans (hb.mono Z0.out.size)); obtain ⟨z0, z1, z2, z3, z4, z5, z6⟩ := HSx.out _ Z1.out; have X1 := Lib.hid (X0.out.trans (hb.mono X0.out.size)); clear hb; cases q)
  | (go_at_call 14; refine (HG.out _ X1.out).mono ?_; rintro e W2 ⟨rfl, hb⟩; have Z2 := Lib.hid (Z1.out.trans (hb.mono Z1.out.size)); obtain ⟨z0, z1, z2, z3, z4, z5, z6⟩ := HSx.out _ Z2.out; have X2 := Lib.hid (X1.out.trans (hb.mono X1.out.size)); clear hb; cases q')
  | (go_at_call 23; refine (HP.out (by trivial) _ X2.out).mono ?_; rintro e W3 ⟨p3, n3, c3, rfl, hx, hb⟩; have A3 := Lib.hid hx; have Z3 := Lib.hid (Z2.out.trans (hb.mono Z2.out.size)); obtain ⟨z0, z1, z2, z3, z4, z5, z6⟩ := HSx.out _ Z3.out; have X3 := Lib.hid (X2.out.trans (hb.mono X2.out.size)); clear hb hx)
  | (go_at_call 16; refine (HT.out (by trivial) _ X3.out).mono ?_; rintro e W4 ⟨p4, n4, c4, rfl, hx, hb⟩; have B4 := Lib.hid hx; have A4 := Lib.hid (fun h => (A3.out h).later hb); have Z4 := Lib.hid (Z3.out.trans (hb.mono Z3.out.size)); obtain ⟨z0, z1, z2, z3, z4, z5, z6⟩ := HSx.out _ Z4.out; have X4 := Lib.hid (X3.out.trans (hb.mono X3.out.size)); clear hb hx)
  | (go_at_call 25; refine (HQ.out (by trivial) _ X4.out).mono ?_; rintro e W5 ⟨p5, n5, c5, rfl, hx, hb⟩; have C5 := Lib.hid hx; have A5 := Lib.hid (fun h => (A4.out h).later hb); have B5 := Lib.hid (fun h => (B4.out h).later hb); have Z5 := Lib.hid (Z4.out.trans (hb.mono Z4.out.size)); obtain ⟨z0, z1, z2, z3, z4, z5, z6⟩ := HSx.out _ Z5.out; have X5 := Lib.hid (X4.out.trans (hb.mono X4.out.size)); clear hb hx)
  | (go_at_call 18; refine (HU.out (by trivial) _ X5.out).mono ?_; rintro e W6 ⟨p6, n6, c6, rfl, hx, hb⟩; have D6 := Lib.hid hx; have A6 := Lib.hid (fun h => (A5.out h).later hb); have B6 := Lib.hid (fun h => (B5.out h).later hb); have C6 := Lib.hid (fun h => (C5.out h).later hb); have X6 := Lib.hid (X5.out.trans (hb.mono X5.out.size)); clear hb hx; rcases HCF.out with ⟨rfl, rfl, tf1⟩ | ⟨rfl, rfl⟩ | ⟨rfl, nf⟩ <;> rcases HCX.out with ⟨rfl, rfl, tx1⟩ | ⟨rfl, rfl⟩ | ⟨rfl, nx⟩ <;> (try (have nf1 := bne_iff_ne.2 nf; have nf2 := beq_eq_false_iff_ne.2 nf)) <;> (try (have nx1 := bne_iff_ne.2 nx; have nx2 := beq_eq_false_iff_ne.2 nx)))
  | (go_at_call 38; refine (HRF.out (by trivial) (by trivial) tf1 _ X6.out _ _ _ _ (A6.out (by trivial)) (B6.out (by trivial))).mono ?_; rintro e W7 ⟨rfl, hb⟩; have X7 := Lib.hid (X6.out.trans (hb.mono X6.out.size)); have C7 := Lib.hid (fun h => (C6.out h).later hb); have D7 := Lib.hid (fun h => (D6.out h).later hb); clear hb tf1)
  | (go_at_call 38; refine (HRX.out (by trivial) (by trivial) tx1 _ X7.out _ _ _ _ (C7.out (by trivial)) (D7.out (by trivial))).mono ?_; rintro e W8 ⟨rfl, hb⟩; have X8 := Lib.hid (X7.out.trans (hb.mono X7.out.size)); clear hb tx1)
  | (go_at_call 38; refine (HRX.out (by trivial) (by trivial) tx1 _ X6.out _ _ _ _ (C6.out (by trivial)) (D6.out (by trivial))).mono ?_; rintro e W8 ⟨rfl, hb⟩; have X8 := Lib.hid (X6.out.trans (hb.mono X6.out.size)); clear hb tx1))
 all_goals first
  | (go_ret; exact ⟨rfl, by first | exact X8.out | exact X7.out | exact X6.out | exact X2.out | exact X1.out⟩)
  | skip
end Go.Proofs.YtlcfpdmicpggbaaGreatDoor
