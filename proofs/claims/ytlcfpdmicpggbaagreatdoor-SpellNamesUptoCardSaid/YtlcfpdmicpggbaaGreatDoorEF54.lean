/- Texts of the seat, merged. -/
import Derived.Test.YtlcfpdmicpggbaaGreatDoorEF53
set_option linter.unusedVariables false
set_option linter.unusedSimpArgs false
set_option maxRecDepth 100000
set_option maxHeartbeats 16000000
namespace Go.Proofs.YtlcfpdmicpggbaaGreatDoor
open Go.RowKit Go.Proofs.Spl Go.Proofs.Scn Go.Shelf Go.Cal Go.Stage
attribute [local go_sem] Oper.semAt_some
theorem contains_any (B : Nat) (q : Option Addr) (c : Nat) (l : List Ln) (s : Ln) (W : World) (hO : OwnS B W (.slice q l.length c) l) (hl : l.length ≤ 10000000) :
  Calls Tryz.prog 75 #[.slice q l.length c, .string (bs s)] W fun e W' => e = .returned (.bool (decide (s ∈ l))) ∧ W = W' := by
 by_cases h0 : l.length = 0
 ·have : l = [] := List.eq_nil_of_length_eq_zero h0
  subst this
  exact (Tryz.slices_Contains_string_empty q c (bs s) W).mono fun e w' h => ⟨by rw [h.1]; rfl, h.2.symm⟩
 ·obtain ⟨g, hq, hlt, hc⟩ := hO.cells
  obtain rfl := hq (by omega)
  refine (Tryz.slices_Contains_string g 0 l.length c (l.map bs) (bs s) W (by simp) (by omega) ?_).mono fun e w' h => ⟨?_, h.2.symm⟩
  ·intro j hj
   rw [List.length_map] at hj
   rw [Nat.zero_add, hc j hj]
   simp [List.getD_eq_getElem?_getD, hj]
  ·rw [h.1]
   congr 2
   rw [List.take_of_length_le (by simp), Bool.eq_iff_iff, Lib.containsS_iff]
   simp [bs_inj]
def szR (st : List RowX) : Nat := sumN (fun r => sizeX r.1) st
theorem szR_app (a b : List RowX) : szR (a ++ b) = szR a + szR b := by
 induction a with
 | nil => simp [szR, sumN]
 | cons x a ih => rw [List.cons_append]; show sizeX x.1 + szR (a ++ b) = sizeX x.1 + szR a + szR b; omega
theorem szR_rev (a : List RowX) : szR a.reverse = szR a := by
 induction a with
 | nil => rfl
 | cons x a ih => rw [List.reverse_cons, szR_app, ih]; show szR a + (sizeX x.1 + 0) = sizeX x.1 + szR a; omega
theorem szR_map (rs : List RowX) : szR rs = sumN sizeX (rs.map Prod.fst) := by
 induction rs with
 | nil => rfl
 | cons x a ih => show sizeX x.1 + szR a = sizeX x.1 + sumN sizeX (a.map Prod.fst); omega
theorem szR_len (st : List RowX) : st.length ≤ szR st := sumN_len _ (fun r => by rw [sizeX_eq]; omega) st
theorem own_ne {w : World} {B B' : Nat} {e e' : TypeId} {m m' n n' : Nat} {v v' : Value} {xs xs' : List Value} (h : w.ownsRow B e m v n xs) (h' : w.ownsRow B' e' m' v' n' xs') (hne : e ≠ e') : v.ownBlock = none ∨ v.ownBlock ≠ v'.ownBlock := by
 rcases h.2 with ⟨rfl, _⟩ | ⟨g, cap, cur, rfl, _, hg, _⟩
 ·exact .inl rfl
 ·refine .inr fun e' => ?_
  rcases h'.2 with ⟨rfl, _⟩ | ⟨g', cap', cur', rfl, _, hg', _⟩
  ·simp [Value.ownBlock] at e'
  ·obtain rfl : g = g' := by simpa [Value.ownBlock] using e'
   rw [hg] at hg'
   cases hg'
   exact hne rfl
theorem own_cells {w : World} {B : Nat} {e : TypeId} {m n : Nat} {v : Value} {xs : List Value} (h : w.ownsRow B e m v n xs) : ∀ (j : Nat) (o : Obj), v.ownBlock = some j → w.heap[j]? = some o → o.isCells = true := by
 intro j o ej hj
 rcases h.2 with ⟨rfl, _⟩ | ⟨g, cap, cur, rfl, _, hg, _⟩
 ·simp [Value.ownBlock] at ej
 ·obtain rfl : g = j := by simpa [Value.ownBlock] using ej
  rw [hg] at hj; cases hj; rfl
theorem own_type {w : World} {B : Nat} {e : TypeId} {m n : Nat} {v : Value} {xs : List Value} (h : w.ownsRow B e m v n xs) : ∀ k, v.ownBlock = some k → ∃ cur, w.heap[k]? = some (.cells cur e (0, 0)) := by
 intro k hk
 rcases h.2 with ⟨rfl, _⟩ | ⟨g, cap, cur, rfl, hB, hg, _⟩
 ·cases hk
 ·simp [Value.ownBlock] at hk; subst hk; exact ⟨cur, hg⟩
theorem own_base {w : World} {B : Nat} {e : TypeId} {m n : Nat} {v : Value} {xs : List Value} (h : w.ownsRow B e m v n xs) : ∀ k, v.ownBlock = some k → B ≤ k := by
 intro k hk
 rcases h.2 with ⟨rfl, _⟩ | ⟨g, cap, cur, rfl, hB, _⟩
 ·cases hk
 ·simp [Value.ownBlock] at hk; subst hk; exact hB
theorem own_later {w w' : World} {B : Nat} {e : TypeId} {m n : Nat} {v : Value} {xs : List Value} (h : w.ownsRow B e m v n xs) (hb : Below w.heap.size w w') : w'.ownsRow B e m v n xs := by
 refine ⟨h.1, ?_⟩
 rcases h.2 with h0 | ⟨g, cap, cur, hv, hB, hg, h1⟩
 ·exact .inl h0
 ·exact .inr ⟨g, cap, cur, hv, hB, (hb.block g (Array.getElem?_eq_some_iff.1 hg).1).trans hg, h1⟩
theorem keeps_below {B : Nat} {w w' : World} (hb : Below w.heap.size w w') : KeepsFrom B w w' := ⟨hb.size, fun k o _ h0 _ => (hb.block k (Array.getElem?_eq_some_iff.1 h0).1).trans h0⟩
structure FG (W : World) (T4 : Nat) (v : Value) (out : List Ln) (p : Option Addr) (c : Nat) (ds : List Deferred) (w : World) : Prop where
 below : Below W.heap.size W w
 box : Boxed w T4 26 v
 out : OwnS W.heap.size w (.slice p out.length c) out
 marks : Marks W.heap.size w ds
theorem FG.later {W : World} {T4 : Nat} {v : Value} {out : List Ln} {p : Option Addr} {c : Nat} {ds : List Deferred} {w w' : World} (h : FG W T4 v out p c ds w) (hb : Below w.heap.size w w') : FG W T4 v out p c ds w' :=
 ⟨h.below.trans (hb.mono h.below.size), (hb.block _ h.box.lt).trans h.box, h.out.later hb, h.marks.kept (keeps_below hb)⟩
theorem FG.alloc {W : World} {T4 : Nat} {v : Value} {out : List Ln} {p : Option Addr} {c : Nat} {ds : List Deferred} {w : World} (h : FG W T4 v out p c ds w) (o : Obj) : FG W T4 v out p c ds (w.alloc o) := h.later ((Below.refl _ _).alloc (Nat.le_refl _) _)
theorem FG.put {W : World} {T4 : Nat} {v : Value} {out : List Ln} {p : Option Addr} {c : Nat} {ds : List Deferred} {w : World} (h : FG W T4 v out p c ds w) (hT : W.heap.size ≤ T4) (v' : Value) : FG W T4 v' out p c ds (w.setCell ⟨T4, 0, none⟩ v') :=
 ⟨h.below.setCell hT _, h.box.set v', h.out.kept (grownBy_setCell' w T4 v') (.inr (h.box.not_row (by decide) h.out).symm), h.marks.kept ((KeepsOthers.setCell _ _ _).from _)⟩
theorem grownBy_setCell2 (W : World) (b i : Nat) (v : Value) : W.grownBy (W.setCell ⟨b, i, none⟩ v) (some b) :=
 ⟨rfl, rfl, rfl, (KeepsWalks.setCell W _ v).size, fun k _ hk => Below.heap_setCell _ _ _ k (fun e => hk (by rw [e]))⟩
theorem FG.cell {W : World} {T4 : Nat} {v : Value} {out : List Ln} {p : Option Addr} {c : Nat} {ds : List Deferred} {w : World} (h : FG W T4 v out p c ds w) {g n cap : Nat} {xs : List Value} (hr : w.ownsRow W.heap.size 28 6 (.slice (some ⟨g, 0, none⟩) n cap) n xs) (i : Nat) (u : Value) : FG W T4 v out p c ds (w.setCell ⟨g, i, none⟩ u) := by
 have hg := own_base hr g rfl
 have h1 := h.box.not_row (by decide) hr
 refine ⟨h.below.setCell hg _, h.box.kept (grownBy_setCell2 w g i u) (fun e => h1 (by rw [e]; rfl)), h.out.kept (grownBy_setCell2 w g i u) ?_, h.marks.kept ((KeepsOthers.setCell _ _ _).from _)⟩
 rcases own_ne h.out hr (by decide) with h2 | h2
 ·exact .inl h2
 ·exact .inr h2
theorem FG.say {W : World} {T4 : Nat} {v : Value} {out : List Ln} {p : Option Addr} {c : Nat} {ds : List Deferred} {w w3 : World} {o : Obj} {s : Ln} {v' : Value} (h : FG W T4 v out p c ds w)
  (hown : w3.ownsRow W.heap.size 9 1 v' (out.length + 1) (strsC out ++ [.string (bs s)])) (hgr : (w.alloc o).grownBy w3 (Value.slice p out.length c).ownBlock) :
  ∃ p' c', v' = .slice p' (out.length + 1) c' ∧ FG W T4 v (out ++ [s]) p' c' ds w3 := by
 obtain ⟨g1, g2, q3, c3, rfl⟩ := grow_str h.out h.below hown hgr
 have ha := h.alloc o
 refine ⟨q3, c3, rfl, g2, ha.box.kept hgr (ha.box.not_row (by decide) ha.out), ?_, ha.marks.kept ((KeepsOthers.of_grownBy hgr (own_cells ha.out)).from _)⟩
 rw [List.length_append]
 exact g1
theorem FG.grown {W : World} {T4 : Nat} {v : Value} {out : List Ln} {p : Option Addr} {c : Nat} {ds : List Deferred} {w w' : World} (h : FG W T4 v out p c ds w) {u : Value} {n : Nat} {xs : List Value} (hr : w.ownsRow W.heap.size 28 6 u n xs) (hg : w.grownBy w' u.ownBlock) : FG W T4 v out p c ds w' :=
 ⟨h.below.grown hg h.below.size (own_base hr), h.box.kept hg (h.box.not_row (by decide) hr), h.out.kept hg (own_ne h.out hr (by decide)), h.marks.kept ((KeepsOthers.of_grownBy hg (own_cells hr)).from _)⟩
structure FK (W : World) (T4 : Nat) (st : List RowX) (out : List Ln) (q : Option Addr) (cap : Nat) (p : Option Addr) (c : Nat) (ds : List Deferred) (w : World) : Prop where
 g : FG W T4 (.slice q st.length cap) out p c ds w
 row : OwnR W.heap.size w (.slice q st.length cap) st
theorem FK.later {W : World} {T4 : Nat} {st : List RowX} {out : List Ln} {q : Option Addr} {cap : Nat} {p : Option Addr} {c : Nat} {ds : List Deferred} {w w' : World} (h : FK W T4 st out q cap p c ds w) (hb : Below w.heap.size w w') : FK W T4 st out q cap p c ds w' := ⟨h.g.later hb, own_later h.row hb⟩
theorem FK.alloc {W : World} {T4 : Nat} {st : List RowX} {out : List Ln} {q : Option Addr} {cap : Nat} {p : Option Addr} {c : Nat} {ds : List Deferred} {w : World} (h : FK W T4 st out q cap p c ds w) (o : Obj) : FK W T4 st out q cap p c ds (w.alloc o) := h.later ((Below.refl _ _).alloc (Nat.le_refl _) _)
theorem FK.pop {W : World} {T4 : Nat} {st : List RowX} {r : RowX} {out : List Ln} {g : Nat} {cap : Nat} {p : Option Addr} {c : Nat} {ds : List Deferred} {w : World} (h : FK W T4 (st ++ [r]) out (some ⟨g, 0, none⟩) cap p c ds w) (hT : W.heap.size ≤ T4) : FK W T4 st out (some ⟨g, 0, none⟩) cap p c ds (w.setCell ⟨T4, 0, none⟩ (.slice (some ⟨g, 0, none⟩) st.length cap)) := by
 obtain ⟨g', hq, hn, hcap, hgB, hglt, hcells, hOwn⟩ := h.row.last
 cases hq
 refine ⟨h.g.put hT _, hOwn.kept (grownBy_setCell' w T4 _) (.inr (h.g.box.not_row (by decide) hOwn).symm)⟩
theorem FK.say {W : World} {T4 : Nat} {st : List RowX} {out : List Ln} {q : Option Addr} {cap : Nat} {p : Option Addr} {c : Nat} {ds : List Deferred} {w w3 : World} {o : Obj} {s : Ln} {v' : Value} (h : FK W T4 st out q cap p c ds w)
  (hown : w3.ownsRow W.heap.size 9 1 v' (out.length + 1) (strsC out ++ [.string (bs s)])) (hgr : (w.alloc o).grownBy w3 (Value.slice p out.length c).ownBlock) :
  ∃ p' c', v' = .slice p' (out.length + 1) c' ∧ FK W T4 st (out ++ [s]) q cap p' c' ds w3 := by
 obtain ⟨p', c', e, h1⟩ := h.g.say hown hgr
 exact ⟨p', c', e, h1, (h.alloc o).row.kept hgr (own_ne (h.alloc o).row (h.alloc o).g.out (by decide))⟩
def zeroX : List Value := [.int .i64 0, .string ⟨#[]⟩, .int .i64 0, .int .i64 0, .int .u64 0, .slice none 0 0]
theorem zero_cells {B : Nat} {w : World} {g cap : Nat} {st : List RowX} (hr : w.ownsRow B 28 6 (.slice (some ⟨g, 0, none⟩) (st.length + 1) cap) (st.length + 1) (cellsR st ++ zeroX)) :
  (w.cell? ⟨g, st.length * 6, none⟩ = some (.int .i64 0) ∧ w.frozen? ⟨g, st.length * 6, none⟩ = false) ∧ (w.cell? ⟨g, st.length * 6 + 1, none⟩ = some (.string ⟨#[]⟩) ∧ w.frozen? ⟨g, st.length * 6 + 1, none⟩ = false) ∧ (w.cell? ⟨g, st.length * 6 + 2, none⟩ = some (.int .i64 0) ∧ w.frozen? ⟨g, st.length * 6 + 2, none⟩ = false) ∧
  (w.cell? ⟨g, st.length * 6 + 3, none⟩ = some (.int .i64 0) ∧ w.frozen? ⟨g, st.length * 6 + 3, none⟩ = false) ∧ (w.cell? ⟨g, st.length * 6 + 4, none⟩ = some (.int .u64 0) ∧ w.frozen? ⟨g, st.length * 6 + 4, none⟩ = false) ∧ (w.cell? ⟨g, st.length * 6 + 5, none⟩ = some (.slice none 0 0) ∧ w.frozen? ⟨g, st.length * 6 + 5, none⟩ = false) := by
 have key : ∀ j (u : Value), zeroX[j]? = some u → w.cell? ⟨g, st.length * 6 + j, none⟩ = some u ∧ w.frozen? ⟨g, st.length * 6 + j, none⟩ = false := by
  intro j u hu
  constructor
  ·have h := hr.cells (g := g) rfl (st.length * 6 + j) u (by rw [List.getElem?_append_right (by rw [cellsR_length]; omega), cellsR_length, show st.length * 6 + j - st.length * 6 = j by omega]; exact hu)
   have e : (⟨g, 0, none⟩ : Addr).add (st.length * 6 + j) = ⟨g, st.length * 6 + j, none⟩ := by simp [Addr.add]; intro h1; omega
   rw [e] at h
   exact h
  ·obtain ⟨cur, hcur⟩ := own_type hr g rfl
   simp [World.frozen?, hcur]
 exact ⟨key 0 _ rfl, key 1 _ rfl, key 2 _ rfl, key 3 _ rfl, key 4 _ rfl, key 5 _ rfl⟩
theorem cell_alloc_some {w : World} {a : Addr} {v : Value} {o : Obj} (h : w.cell? a = some v) : (w.alloc o).cell? a = some v := by
 obtain ⟨ob, ho, _⟩ := not_walk_of_cell h
 exact (((Below.refl w.heap.size w).alloc (Nat.le_refl _) o).cell (Array.getElem?_eq_some_iff.1 ho).1).trans h
def six (w : World) (g i : Nat) (r : RowX) : World := (((((w.setCell ⟨g, i, none⟩ (.int .i64 r.1.op)).setCell ⟨g, i + 1, none⟩ (.string (bs r.1.name))).setCell ⟨g, i + 2, none⟩ (.int .i64 r.1.n)).setCell ⟨g, i + 3, none⟩ (.int .i64 r.1.w)).setCell ⟨g, i + 4, none⟩ (.int .u64 r.1.v)).setCell ⟨g, i + 5, none⟩ (.slice r.2.1 r.1.l.length r.2.2)
theorem put_six {W : World} {T4 : Nat} {v : Value} {out : List Ln} {p : Option Addr} {c : Nat} {ds : List Deferred} {w : World} (h : FG W T4 v out p c ds w) {g n cap : Nat} {st : List RowX} (hn : st.length = n)
  (hr : w.ownsRow W.heap.size 28 6 (.slice (some ⟨g, 0, none⟩) (n + 1) cap) (n + 1) (cellsR st ++ zeroX)) (r : RowX) :
  FG W T4 v out p c ds (six w g (n * 6) r) ∧ OwnR W.heap.size (six w g (n * 6) r) (.slice (some ⟨g, 0, none⟩) (n + 1) cap) (st ++ [r]) ∧ KeepsOthers w (six w g (n * 6) r) ∧ Below W.heap.size w (six w g (n * 6) r) ∧ ∀ k, k ≠ g → (six w g (n * 6) r).heap[k]? = w.heap[k]? := by
 subst hn
 have hl : (cellsR st ++ zeroX).length = st.length * 6 + 6 := by rw [List.length_append, cellsR_length]; rfl
 have hg := own_base hr g rfl
 have r1 := ownsRow_put hr (i := st.length * 6) (by omega) (.int .i64 r.1.op)
 have g1 := h.cell hr (st.length * 6) (.int .i64 r.1.op)
 have r2 := ownsRow_put r1 (i := st.length * 6 + 1) (by simp only [List.length_set]; omega) (.string (bs r.1.name))
 have g2 := g1.cell r1 (st.length * 6 + 1) (.string (bs r.1.name))
 have r3 := ownsRow_put r2 (i := st.length * 6 + 2) (by simp only [List.length_set]; omega) (.int .i64 r.1.n)
 have g3 := g2.cell r2 (st.length * 6 + 2) (.int .i64 r.1.n)
 have r4 := ownsRow_put r3 (i := st.length * 6 + 3) (by simp only [List.length_set]; omega) (.int .i64 r.1.w)
 have g4 := g3.cell r3 (st.length * 6 + 3) (.int .i64 r.1.w)
 have r5 := ownsRow_put r4 (i := st.length * 6 + 4) (by simp only [List.length_set]; omega) (.int .u64 r.1.v)
 have g5 := g4.cell r4 (st.length * 6 + 4) (.int .u64 r.1.v)
 have r6 := ownsRow_put r5 (i := st.length * 6 + 5) (by simp only [List.length_set]; omega) (.slice r.2.1 r.1.l.length r.2.2)
 have g6 := g5.cell r5 (st.length * 6 + 5) (.slice r.2.1 r.1.l.length r.2.2)
 rw [zeroX, set_six (cellsR st) (st.length * 6) (cellsR_length st)] at r6
 refine ⟨g6, ?_, ?_, ?_, ?_⟩
 ·unfold OwnR
  rw [List.length_append, cellsR_app, cellsR_one]
  exact r6
 ·exact (((((KeepsOthers.setCell _ _ _).trans (KeepsOthers.setCell _ _ _)).trans (KeepsOthers.setCell _ _ _)).trans (KeepsOthers.setCell _ _ _)).trans (KeepsOthers.setCell _ _ _)).trans (KeepsOthers.setCell _ _ _)
 ·exact ((((((Below.refl _ _).setCell hg _).setCell hg _).setCell hg _).setCell hg _).setCell hg _).setCell hg _
 ·intro k hk
  unfold six
  rw [Below.heap_setCell _ _ _ k hk, Below.heap_setCell _ _ _ k hk, Below.heap_setCell _ _ _ k hk, Below.heap_setCell _ _ _ k hk, Below.heap_setCell _ _ _ k hk, Below.heap_setCell _ _ _ k hk]
theorem FK.own {W : World} {T4 : Nat} {st : List RowX} {out : List Ln} {p : Option Addr} {c : Nat} {B : Nat} (hB : W.heap.size ≤ B) : OwnFrom B (fun (pre : List (Int × RowX)) V => ∃ q cap, FK W T4 (st ++ pre.map Prod.snd) out q cap p c [] V) := fun pre V V' row hs hg hr => by
 obtain ⟨q, cap, h⟩ := hs
 have hT : some T4 ≠ row := fun e => by
  obtain ⟨_, o, ho, hc⟩ := hr T4 e.symm
  rw [show V.heap[T4]? = _ from h.g.box] at ho; cases ho; cases hc
 have hown : ∀ {e : TypeId} {m n : Nat} {v : Value} {xs : List Value}, V.ownsRow W.heap.size e m v n xs → v.ownBlock = none ∨ v.ownBlock ≠ row := fun {e m n v xs} h1 => by
  by_cases e : v.ownBlock = none
  ·exact .inl e
  ·refine .inr fun e2 => ?_
   obtain ⟨k, hk⟩ := Option.ne_none_iff_exists'.1 e
   obtain ⟨_, o, ho, hc⟩ := hr k (e2.symm.trans hk)
   rw [own_cells h1 k o hk ho] at hc
   cases hc
 exact ⟨q, cap, ⟨h.g.below.grown hg h.g.below.size (fun k e => Nat.le_trans hB (hr k e).1), h.g.box.kept hg hT, h.g.out.kept hg (hown h.g.out), trivial⟩, h.row.kept hg (hown h.row)⟩
theorem own_blk {n B : Nat} {cs : Array Value} {T : TypeId} {fr : Nat × Nat} {β : Type} : OwnFrom B (fun (_ : β) (W : World) => W.heap[n]? = some (.cells cs T fr)) := fun _ W W' row hs hg hr =>
 (hg.block n (Array.getElem?_eq_some_iff.1 hs).1 (fun e => by obtain ⟨_, o, ho, hc⟩ := hr n e.symm; rw [show W.heap[n]? = _ from hs] at ho; cases ho; cases hc)).trans hs
def MidD (n : Nat) (ds : List Deferred) (l : List (Nat × Value)) (a : Act) : Prop := a.tmps.size = n ∧ a.defers = ds ∧ ∀ p ∈ l, a.tmps.getD p.1 undef = p.2
theorem MidD.lit {n : Nat} {ds : List Deferred} {l : List (Nat × Value)} {a : Act} (h : MidD n ds l a) : ∃ f : Nat → Value, (∀ p ∈ l, f p.1 = p.2) ∧ a = { tmps := (litL f 0 n).toArray, defers := ds } := by
 obtain ⟨h1, h2, h3⟩ := h
 obtain ⟨f, hf, ht⟩ := slots a.tmps n h1
 refine ⟨f, fun p hp => (hf p.1).symm.trans (h3 p hp), ?_⟩
 cases a
 simp only at ht h2
 rw [ht, h2]
def FreeI (W : World) (x : X) (T4 : Nat) (m : Nat) (a : Act) (w : World) : Prop :=
 ∃ (st : List RowX) (out : List Ln) (q : Option Addr) (cap : Nat) (p : Option Addr) (c : Nat) (ds : List Deferred),
  m = szR st ∧ out.length + szR st ≤ sizeX x ∧ freeX out (st.reverse.map (·.1)) = firstN (targetsX x) ∧ (∀ r ∈ st, RowOk W r) ∧ FK W T4 st out q cap p c ds w ∧
  MidD 50 ds [(3, .slice p out.length c), (4, .pointer (some ⟨T4, 0, none⟩))] a
theorem free_any (x : X) (cs : List Value) (W : World) (hR : XR W x cs) (hs : sizeX x ≤ 100000) :
  Calls Tryz.prog 37 #[.agg cs.toArray] W fun e W' => ∃ p c, e = .returned (.slice p (firstN (targetsX x)).length c) ∧ OwnS W.heap.size W' (.slice p (firstN (targetsX x)).length c) (firstN (targetsX x)) ∧ Below W.heap.size W W' := by
 obtain ⟨p0, c0, rfl, hok⟩ := row_of hR
 have HOK := Lib.hid hok
 have HS := Lib.hid hs
 clear hR hok hs
 refine (callsIn_wide (n := 6)).1 ?_
 refine callsIn_of_wp_marks Tryz.func37 rfl trivial ?_ rfl
 simp only [Tryz.ntmps37, List.size_toArray, List.length_cons, List.length_nil, Nat.reduceAdd, Nat.reduceSub, Array.replicate_succ, Array.replicate_zero, List.push_toArray, List.append_toArray, List.nil_append, List.cons_append]
 refine wpIn_wide.2 ?_
 unfold rowV
 go_wp2
 obtain ⟨T4, hT4⟩ : ∃ T4, T4 = W.heap.size + 1 + 1 := ⟨_, rfl⟩
 refine wp_loop_ghost (FreeI W x T4) (szR [(x, p0, c0)]) ?start ?round
 case start =>
  subst hT4
  refine ⟨[(x, p0, c0)], [], some ⟨W.heap.size + 1, 0, none⟩, 1, none, 0, [], rfl, ?_, freeX_one x, ?_, ⟨⟨?_, ?_, OwnS.nil _ _, trivial⟩, ?_⟩, rfl, rfl, ?_⟩
  ·exact Nat.le_of_eq (Nat.zero_add _)
  ·intro s hs
   rw [List.mem_singleton] at hs
   rw [hs]
   exact HOK.out
  ·exact (((Below.refl _ _).alloc (Nat.le_refl _) _).alloc (by simp) _).alloc (by simp <;> omega) _
  ·have := Boxed.new ((W.alloc (.cells (rowV (x, p0, c0)).toArray 28)).alloc (.cells (rowV (x, p0, c0)).toArray 28)) 26 (.slice (some ⟨W.heap.size + 1, 0, none⟩) 1 1)
   simp only [World.size_alloc] at this
   exact this
  ·refine ⟨rfl, .inr ⟨W.heap.size + 1, 1, (rowV (x, p0, c0)).toArray, rfl, by omega, ?_, Nat.le_refl _, by decide, rfl, rfl⟩⟩
   have := World.alloc_heap_new (W.alloc (.cells (rowV (x, p0, c0)).toArray 28)) (.cells (rowV (x, p0, c0)).toArray 28)
   simp only [World.size_alloc] at this
   exact (Below.heap_alloc _ _ _ (by simp)).trans this
  ·simp only [List.forall_mem_cons]
   exact ⟨rfl, rfl, fun _ h => by cases h⟩
 case round =>
  rintro m a w ⟨st, out, q, cap, p, c, ds, rfl, hlen, hfree, hrows, hF, hM⟩
  obtain ⟨f, hf, rfl⟩ := hM.lit
  simp only [List.forall_mem_cons] at hf
  obtain ⟨e3, e4, -⟩ := hf
  simp only [litL, Nat.zero_add, Nat.reduceAdd, e3, e4]
  clear e3 e4 hM
  have HT4 := Lib.hid hT4
  have HFR := Lib.hid hfree
  have HRW := Lib.hid hrows
  have HF := Lib.hid hF
  clear hT4 hfree hrows
  have b0 := hF.g.box.cell
  have b1 := hF.g.box.frozen
  clear hF
  obtain rfl | ⟨st, r, rfl⟩ : st = [] ∨ ∃ s r, st = s ++ [r] := by
   rcases List.eq_nil_or_concat st with h | ⟨s, r, h⟩
   ·exact .inl h
   ·exact .inr ⟨s, r, by rw [h, List.concat_eq_append]⟩
  ·clear b1
   simp only [List.length_nil] at b0
   go_wp2
   have hfin : out = firstN (targetsX x) := HFR.out
   refine leaves_marks (B := W.heap.size) (fun w' => OwnS W.heap.size w' (.slice p out.length c) out ∧ Below W.heap.size W w') ?_ ?_ ds w HF.out.g.marks ⟨HF.out.g.out, HF.out.g.below⟩
   ·rintro w1 D o hD hk ⟨h1, h2⟩
    exact ⟨ownsRow_putObj h1 _ hk rfl, h2.trans (belowK_b (w := W) (Nat.le_refl _) w1 D _ _ hD hk rfl rfl)⟩
   ·rintro w1 ⟨h1, h2⟩
    rw [hfin] at h1
    exact ⟨.slice p out.length c, by simp [results, Tryz.f37, go_sem], p, c, by rw [hfin], h1, h2⟩
  have hL := HF.out.row
  obtain ⟨g, rfl, hn, hcap, hgB, hglt, hcells, hOwn⟩ := hL.last
  have hTW : W.heap.size ≤ T4 := by have := HT4.out; omega
  have HK0 := Lib.hid (HF.out.pop hTW)
  have hx0 := hcells 0 (by omega)
  have hx1 := hcells 1 (by omega)
  have hx2 := hcells 2 (by omega)
  have hx3 := hcells 3 (by omega)
  have hx4 := hcells 4 (by omega)
  have hx5 := hcells 5 (by omega)
  simp only [rowV, List.getElem?_cons_zero, List.getElem?_cons_succ, Nat.add_zero] at hx0 hx1 hx2 hx3 hx4 hx5
  have hsz : st.length ≤ 100000 := by
   have h1 := szR_len (st ++ [r])
   rw [List.length_append] at h1
   have := HS.out
   omega
  rw [hn] at b0
  have hnc : ¬ ((st.length : Int) = cap) := by omega
  have hncn : ¬ (st.length = cap) := by omega
  have HP0 := Lib.hid (show ∀ o, FK W T4 st out (some ⟨g, 0, none⟩) cap p c ds ((w.alloc o).setCell ⟨T4, 0, none⟩ (.slice (some ⟨g, 0, none⟩) st.length cap)) from fun o => (HF.out.alloc o).pop hTW)
  clear hcells hOwn hL hn hgB
  have hT4lt : T4 < w.heap.size := HF.out.g.box.lt
  have HLen := Lib.hid (show out.length + 1 ≤ 100000 by
   have h1 := szR_len (st ++ [r])
   rw [List.length_append] at h1
   have := HS.out
   simp only [List.length_cons, List.length_nil] at h1
   omega)
  go_wp2_with fail
  rename_i Q1 K2 h2 K1 h1 K0 h0
  have hM : ∀ a w', (∃ out' p' c', out' = (if namedO r.1.op then addN out r.1.name else out) ∧ FK W T4 st out' (some ⟨g, 0, none⟩) cap p' c' ds w' ∧ w'.heap[w.heap.size]? = some (.cells (rowV r).toArray 28 (0, 0)) ∧
    MidD 50 ds [(3, .slice p' out'.length c'), (4, .pointer (some ⟨T4, 0, none⟩)), (5, .pointer (some ⟨w.heap.size, 0, none⟩))] a) → K2 a w' := by
   clear h1 h0 K1 K0
   rintro a w' ⟨out', p', c', ho, hK, hB5, hMd⟩
   obtain ⟨f', hf, rfl⟩ := hMd.lit
   simp only [List.forall_mem_cons] at hf
   obtain ⟨e3, e4, e5, -⟩ := hf
   refine h2 _ _ ?_
   clear h2 hMd
   simp only [litL, Nat.zero_add, Nat.reduceAdd, e3, e4, e5]
   have y5 := cell_of_row w' w.heap.size 5 _ _ (0, 0) hB5
   simp only [rowV, List.getElem?_toArray, List.getElem?_cons_zero, List.getElem?_cons_succ] at y5
   have hltw : w.heap.size < w'.heap.size := (Array.getElem?_eq_some_iff.1 hB5).1
   obtain ⟨rs, hr1, hr2, hr3, hr4⟩ := kids_of (HRW.out r (by simp))
   have HK1 := Lib.hid hK
   have HO1 := Lib.hid ho
   have HR1 := Lib.hid hr1
   have HR2 := Lib.hid hr2
   have HR3 := Lib.hid hr3
   have HR4 := Lib.hid hr4
   clear e3 e4 e5 hK ho hr1 hr2 hr3 hr4 hB5 b0 b1 hx0 hx1 hx2 hx3 hx4 hx5
   go_wp2_with (go_at_call 76; refine (backwardX_any _ _ _ _).mono ?_; rintro e w5 ⟨rfl, rfl⟩)
   obtain ⟨V0, hV0⟩ : ∃ V0, V0 = w'.alloc (.cells #[.slice r.2.1 r.1.l.length r.2.2] 26) := ⟨_, rfl⟩
   rw [← hV0]
   have HF0 := Lib.hid (show FK W T4 st out' (some ⟨g, 0, none⟩) cap p' c' ds V0 from hV0 ▸ HK1.out.alloc _)
   have hs0 : V0.heap.size = w'.heap.size + 1 := by rw [hV0]; simp
   have hc0 : V0.cell? ⟨w'.heap.size, 0, none⟩ = some (.slice r.2.1 rs.length r.2.2) := by
    rw [hV0, HR3.out]
    exact (Boxed.new w' 26 _).cell
   have hWV : W.heap.size ≤ V0.heap.size := HF0.out.g.below.size
   have hrl : rs.length ≤ 100000 := by
    have h1 : szR [r] ≤ 100000 := by
     have := hlen; rw [szR_app] at this; have := HS.out; omega
    have h2 : sizeX r.1 ≤ 100000 := h1
    rw [sizeX_eq, sizeXs_sum] at h2
    have h3 := sumN_len sizeX (fun r => by rw [sizeX_eq]; omega) r.1.l
    rw [HR3.out]
    omega
   have hkids : 0 < rs.length → ∃ b off, r.2.1 = some ⟨b, off, none⟩ ∧ b < W.heap.size ∧ ∀ k (h : k < rs.length), ∀ j, j < 6 → V0.cell? ⟨b, off + k * 6 + j, none⟩ = (rowV rs[k])[j]? := fun h => by
    obtain ⟨b, off, h1, h2, h3⟩ := HR4.out h
    exact ⟨b, off, h1, h2, fun k hk j hj => (HF0.out.g.below.cell (p := ⟨b, off + k * 6 + j, none⟩) h2).trans (h3 k hk j hj)⟩
   have hbs0 : Boxed V0 w'.heap.size 26 (.slice r.2.1 r.1.l.length r.2.2) := hV0 ▸ Boxed.new w' 26 _
   clear y5 hV0
   refine (wpIn_wide (n := 6)).1 ?_
   refine wpIn_rangeFunc_ownH (F := Fence.wide) (n := 6) rfl (by omega) (gf := 145) (lb := #[.pointer (some ⟨w'.heap.size, 0, none⟩)]) rfl trivial (enters_of Tryz.func145 (by kernel_rfl) rfl)
    (backX_stops Fence.wide 5 trivial rfl (by omega) w'.heap.size W.heap.size r.2.1 r.2.2 rs hrl V0 (by omega) hWV hc0 hkids) (fun h k => h.trans k) (KpB.book hWV (by omega)) (Below.refl _ _) (fun _ => rfl)
    (fun pre V => (∃ q cap, FK W T4 (st ++ pre.map Prod.snd) out' q cap p' c' [] V) ∧ KeepsFrom W.heap.size V0 V ∧ Boxed V w'.heap.size 26 (.slice r.2.1 r.1.l.length r.2.2))
    (fun _ _ _ => False)
    (OwnFrom.and (FK.own hWV) (OwnFrom.and (ownFrom_keepsFrom (Nat.le_refl _)) own_blk))
    (fun c => fun s A B row h _ _ => h)
    ⟨⟨some ⟨g, 0, none⟩, cap, by rw [List.map_nil, List.append_nil]; exact ⟨⟨HF0.out.g.below, HF0.out.g.box, HF0.out.g.out, trivial⟩, HF0.out.row⟩⟩, KeepsFrom.refl _ _, hbs0⟩
    (fun x a' V => ∃ Bx, V0.heap.size ≤ Bx ∧ V.heap[Bx]? = some (.cells (rowV x.2).toArray 28 (0, 0)) ∧ MidD 50 [] [(4, .pointer (some ⟨T4, 0, none⟩)), (7, .pointer (some ⟨Bx, 0, none⟩))] a')
    (fun x a' s A B row hs hg hr => by
     obtain ⟨Bx, e1, e2, e3⟩ := hs
     exact ⟨Bx, e1, own_blk () A B row e2 hg hr, e3⟩) ?assign ?body ?done ?stop
   case assign =>
    rintro l pre x V K ⟨⟨q, cp, hi⟩, hkf, hbs⟩ hK
    simp only [encX, rowV]
    gi_wp2
    refine hK _ _ ((KeepsOthers.alloc _ _).from _) ⟨(Below.refl _ V).alloc hi.g.below.size _, Below.heap_alloc _ _ _ (by have := hkf.size; omega)⟩ ⟨⟨q, cp, hi.alloc _⟩, hkf.trans ((KeepsOthers.alloc _ _).from _), hbs.alloc _⟩ ⟨V.heap.size, hkf.size, heap_alloc_new V _, rfl, rfl, ?_⟩
    simp only [List.forall_mem_cons]
    exact ⟨rfl, rfl, fun _ h => by cases h⟩
   case body =>
    rintro l pre x a' V hl ⟨rc, hrc⟩ ⟨⟨q, cp, hi⟩, hkf, hbs⟩ ⟨Bx, hBx, hbx, hMd⟩ hlt
    obtain ⟨f2, hf, rfl⟩ := hMd.lit
    simp only [List.forall_mem_cons] at hf
    obtain ⟨e4, e7, -⟩ := hf
    simp only [litL, Nat.zero_add, Nat.reduceAdd, e4, e7]
    clear e4 e7 hMd
    gi_wp2_with fail
    obtain ⟨st', hst⟩ : ∃ st', st' = st ++ pre.map Prod.snd := ⟨_, rfl⟩
    rw [← hst] at hi
    have hnl : st'.length ≤ 1000000 := by
     rw [hst, List.length_append, List.length_map]; omega
    have hpost : ∀ a v (q1 : Option Addr) (c1 : Nat), FK W T4 (st' ++ [x.2]) out' q1 c1 p' c' [] v → KeepsOthers V v → Below W.heap.size V v → v.heap[w'.heap.size]? = V.heap[w'.heap.size]? → ownPostG V0.heap.size (KpB W.heap.size w'.heap.size) (fun pre V => (∃ q cap, FK W T4 (st ++ pre.map Prod.snd) out' q cap p' c' [] V) ∧ KeepsFrom W.heap.size V0 V ∧ Boxed V w'.heap.size 26 (.slice r.2.1 r.1.l.length r.2.2)) (fun _ _ _ => False) (pre ++ [x]) V .normal a v := fun a v q1 c1 k1 k2 k3 k4 =>
     ⟨k2.from _, ⟨k3, k4⟩, ⟨q1, c1, by rw [List.map_append, ← List.append_assoc, ← hst]; exact k1⟩, hkf.trans (k2.from _), k4.trans hbs⟩
    have hv : FK W T4 st' out' q cp p' c' [] V.drew := hi.later (Below.refl V.heap.size V).drew
    have hx0 : ∀ j, j < 6 → V.drew.cell? ⟨Bx, j, none⟩ = (rowV x.2)[j]? := fun j _ => by rw [cell_of_row V.drew Bx j _ _ (0, 0) hbx]; simp
    have hks : KeepsOthers V V.drew ∧ Below W.heap.size V V.drew ∧ V.drew.heap[w'.heap.size]? = V.heap[w'.heap.size]? := ⟨KeepsOthers.drew V, (Below.refl _ _).drew, rfl⟩
    have hbs' : Boxed V.drew w'.heap.size 26 (.slice r.2.1 r.1.l.length r.2.2) := hbs
    have HPost := Lib.hid hpost
    clear hpost hst
    refine region_any (S := fun w => w.cell? ⟨T4, 0, none⟩ = some (.slice q st'.length cp) ∧ w.cell? ⟨Bx, 0, none⟩ = some (.int .i64 x.2.1.op) ∧ w.cell? ⟨Bx, 1, none⟩ = some (.string (bs x.2.1.name)) ∧ w.cell? ⟨Bx, 2, none⟩ = some (.int .i64 x.2.1.n) ∧ w.cell? ⟨Bx, 3, none⟩ = some (.int .i64 x.2.1.w) ∧ w.cell? ⟨Bx, 4, none⟩ = some (.int .u64 x.2.1.v) ∧ w.cell? ⟨Bx, 5, none⟩ = some (.slice x.2.2.1 x.2.1.l.length x.2.2.2)) (U := [4]) (by kernel_rfl) (by kernel_rfl) (fun a w h => h) ?_
    have hS0 : V.drew.cell? ⟨T4, 0, none⟩ = some (.slice q st'.length cp) ∧ V.drew.cell? ⟨Bx, 0, none⟩ = some (.int .i64 x.2.1.op) ∧ V.drew.cell? ⟨Bx, 1, none⟩ = some (.string (bs x.2.1.name)) ∧ V.drew.cell? ⟨Bx, 2, none⟩ = some (.int .i64 x.2.1.n) ∧ V.drew.cell? ⟨Bx, 3, none⟩ = some (.int .i64 x.2.1.w) ∧ V.drew.cell? ⟨Bx, 4, none⟩ = some (.int .u64 x.2.1.v) ∧ V.drew.cell? ⟨Bx, 5, none⟩ = some (.slice x.2.2.1 x.2.1.l.length x.2.2.2) := ⟨hv.g.box.cell, hx0 0 (by omega), hx0 1 (by omega), hx0 2 (by omega), hx0 3 (by omega), hx0 4 (by omega), hx0 5 (by omega)⟩
    clear hx0
    have HV := Lib.hid hv
    have HKS := Lib.hid hks
    have HBS := Lib.hid hbs'
    clear hv hks hbs' hi hbs hbx hrc hkids hc0 hcap hncn hnc
    generalize hv0 : V.drew = v0 at *
    clear hv0
    refine Any.takeSL (i := 0) (v := ?v1) (by kernel_rfl) rfl (by kernel_rfl) (by kernel_rfl) (by kernel_rfl) (by kernel_rfl) (by kernel_rfl) (by rfl) ?hy1 hS0 ?rest1
    case hy1 => intro w hSw; obtain ⟨hs0, hs1, hs2, hs3, hs4, hs5, hs6⟩ := hSw; go_simp <;> with_reducible rfl
    simp only [Act.put, List.setIfInBounds_toArray, List.set_cons_zero, List.set_cons_succ]
    refine Any.takeSL (i := 1) (v := ?v2) (by kernel_rfl) rfl (by kernel_rfl) (by kernel_rfl) (by kernel_rfl) (by kernel_rfl) (by kernel_rfl) (by rfl) ?hy2 hS0 ?rest2
    case hy2 => intro w hSw; obtain ⟨hs0, hs1, hs2, hs3, hs4, hs5, hs6⟩ := hSw; go_simp <;> with_reducible rfl
    simp only [Act.put, List.setIfInBounds_toArray, List.set_cons_zero, List.set_cons_succ]
    refine Any.takeL (i := 2) (v := ?v3) (by kernel_rfl) rfl (by kernel_rfl) (by kernel_rfl) (by kernel_rfl) (by rfl) ?hy3 hS0 ?rest3
    case hy3 => intro w; go_simp <;> with_reducible rfl
    simp only [Act.put, List.setIfInBounds_toArray, List.set_cons_zero, List.set_cons_succ]
    have hS1 : ∀ o, (fun w : World => w.cell? ⟨T4, 0, none⟩ = some (.slice q st'.length cp) ∧ w.cell? ⟨Bx, 0, none⟩ = some (.int .i64 x.2.1.op) ∧ w.cell? ⟨Bx, 1, none⟩ = some (.string (bs x.2.1.name)) ∧ w.cell? ⟨Bx, 2, none⟩ = some (.int .i64 x.2.1.n) ∧ w.cell? ⟨Bx, 3, none⟩ = some (.int .i64 x.2.1.w) ∧ w.cell? ⟨Bx, 4, none⟩ = some (.int .u64 x.2.1.v) ∧ w.cell? ⟨Bx, 5, none⟩ = some (.slice x.2.2.1 x.2.1.l.length x.2.2.2)) (v0.alloc o) := fun o => by
     obtain ⟨a0, a1, a2, a3, a4, a5, a6⟩ := hS0
     exact ⟨cell_alloc_some a0, cell_alloc_some a1, cell_alloc_some a2, cell_alloc_some a3, cell_alloc_some a4, cell_alloc_some a5, cell_alloc_some a6⟩
    refine Any.nx1 (i := 3) (by kernel_rfl) ?_
    refine Nx.val (v := ?v4) (w' := v0.alloc (.cells #[.int .i64 0, .string ⟨#[]⟩, .int .i64 0, .int .i64 0, .int .u64 0, .slice none 0 0] 28)) rfl (by rfl) ?hr4 (Stt.of (hS1 _)) ?hk4
    case hr4 => go_simp; first | with_reducible rfl | exact ⟨rfl, rfl⟩ | trace_state
    simp only [Act.put, List.setIfInBounds_toArray, List.set_cons_zero, List.set_cons_succ]
    clear hS1 hS0
    have HV1 := Lib.hid (HV.out.alloc (.cells #[.int .i64 0, .string ⟨#[]⟩, .int .i64 0, .int .i64 0, .int .u64 0, .slice none 0 0] 28))
    refine Any.nx1 (i := 4) (by kernel_rfl) ?_
    refine nx_app rfl rfl _ _ 26 28 rfl xsSlice _ 6 72 xsInfo rfl (by decide) (by decide) W.heap.size _ st'.length (cellsR st') rfl HV1.out.row v0.heap.size 1 #[.int .i64 0, .string ⟨#[]⟩, .int .i64 0, .int .i64 0, .int .u64 0, .slice none 0 0] rfl (heap_alloc_new v0 _) rfl (by simp [Value.oneCell']) hnl HV1.out.g.below.size ?_
    intro p1 c1 v2 hown hgr
    replace hown : v2.ownsRow W.heap.size 28 6 (.slice p1 (st'.length + 1) c1) (st'.length + 1) (cellsR st' ++ zeroX) := hown
    obtain ⟨g1, cap1, he⟩ := ownsRow_succ hown
    cases he
    have HG2 := Lib.hid (HV1.out.g.grown HV1.out.row hgr)
    have hbk2 : v2.heap[w'.heap.size]? = V.heap[w'.heap.size]? := by
     refine ((hgr.block _ ?_ ?_).trans (Below.heap_alloc _ _ _ HBS.out.lt)).trans HKS.out.2.2
     ·simp; have := HBS.out.lt; omega
     ·intro e
      obtain ⟨cur, hcur⟩ := own_type HV1.out.row _ e.symm
      rw [Below.heap_alloc _ _ _ HBS.out.lt, show v0.heap[w'.heap.size]? = _ from HBS.out] at hcur
      cases hcur
    have hk2 : KeepsOthers V v2 := (HKS.out.1.trans (KeepsOthers.alloc _ _)).trans (KeepsOthers.of_grownBy hgr (own_cells HV1.out.row))
    have hb2 : Below W.heap.size V v2 := (HKS.out.2.1.alloc HV.out.g.below.size _).grown hgr HV1.out.g.below.size (own_base HV1.out.row)
    have hg1 : ∃ cur, v2.heap[g1]? = some (.cells cur 28 (0, 0)) := own_type hown g1 rfl
    have hne1 : w'.heap.size ≠ g1 := fun e => by
     obtain ⟨cur, hcur⟩ := hg1
     rw [← e, hbk2, ← HKS.out.2.2, show v0.heap[w'.heap.size]? = _ from HBS.out] at hcur
     cases hcur
    have HK2 := Lib.hid hk2
    have HB2 := Lib.hid hb2
    have HE2 := Lib.hid hbk2
    have HO2 := Lib.hid hown
    have HN1 := Lib.hid hne1
    refine ⟨Stt.past (by kernel_rfl), ?_⟩
    simp only [Act.put, List.setIfInBounds_toArray, List.set_cons_zero, List.set_cons_succ]
    clear hown hgr hk2 hb2 hbk2 hg1 hne1
    have hz0 := zero_cells HO2.out
    have hzt := HG2.out.box.cell
    have hzf := HG2.out.box.frozen
    have HP2 := Lib.hid (put_six HG2.out rfl HO2.out x.2)
    have HG3 := Lib.hid (HG2.out.put hTW (.slice (some ⟨g1, 0, none⟩) (st'.length + 1) c1))
    have HO3 := Lib.hid (HO2.out.kept (grownBy_setCell' v2 T4 (.slice (some ⟨g1, 0, none⟩) (st'.length + 1) c1)) (.inr (HG2.out.box.not_row (by decide) HO2.out).symm))
    have HP3 := Lib.hid (put_six HG3.out rfl HO3.out x.2)
    have HT5 := Lib.hid (show w'.heap.size ≠ T4 by have := hT4lt; omega)
    obtain ⟨⟨z0, f0⟩, ⟨z1, f1⟩, ⟨z2, f2'⟩, ⟨z3, f3⟩, ⟨z4, f4⟩, ⟨z5, f5⟩⟩ := hz0
    refine Any.nx2 (i := 5) (j := 7) (by kernel_rfl) ?_ ?_
    ·skip
     refine Nx.val (v := .pointer (some ⟨g1, st'.length * 6, none⟩)) (w' := v2) rfl (by rfl) ?hr21 (Stt.past (by kernel_rfl)) ?hk21
     case hr21 => go_simp; (intro h9; exfalso; omega)
     simp only [Act.put, List.setIfInBounds_toArray, List.set_cons_zero, List.set_cons_succ]
     refine Any.nx2 (i := 6) (j := 7) (by kernel_rfl) ?_ ?_
     ·skip
      refine Nx.skip (w' := (six v2 g1 (st'.length * 6) x.2)) rfl (by rfl) ?hr22 (Stt.past (by kernel_rfl)) ?hk22
      case hr22 => go_simp <;> first | with_reducible rfl | rfl | trace_state
      simp only [Act.put, List.setIfInBounds_toArray, List.set_cons_zero, List.set_cons_succ]
      have hzt2 := HP2.out.1.box.cell
      have hzf2 := HP2.out.1.box.frozen
      generalize hv3 : (six v2 g1 (st'.length * 6) x.2) = v3 at *
      refine Any.nx1 (i := 7) (by kernel_rfl) ?_
      refine Nx.skip (w' := v3.setCell ⟨T4, 0, none⟩ (.slice (some ⟨g1, 0, none⟩) (st'.length + 1) c1)) rfl (by rfl) ?hr23 (Stt.past (by kernel_rfl)) ?hk23
      case hr23 => go_simp <;> first | with_reducible rfl | rfl | trace_state
      simp only [Act.put, List.setIfInBounds_toArray, List.set_cons_zero, List.set_cons_succ]
      refine Any.done (by kernel_rfl) ?_ _
      obtain ⟨q1, q2, q3, q4, q5⟩ := HP2.out
      refine HPost.out { tmps := #[], defers := [] } _ (some ⟨g1, 0, none⟩) c1 ⟨?_, ?_⟩ (HK2.out.trans (q3.trans (KeepsOthers.setCell _ _ _))) ((HB2.out.trans q4).setCell hTW _) ?_
      ·rw [List.length_append]; exact q1.put hTW _
      ·rw [List.length_append]; exact q2.kept (grownBy_setCell' _ T4 _) (.inr (q1.box.not_row (by decide) q2).symm)
      ·exact (Below.heap_setCell _ _ _ _ HT5.out).trans ((q5 _ HN1.out).trans HE2.out)
     ·skip
      refine Nx.skip (w' := v2.setCell ⟨T4, 0, none⟩ (.slice (some ⟨g1, 0, none⟩) (st'.length + 1) c1)) rfl (by rfl) ?hr24 (Stt.past (by kernel_rfl)) ?hk24
      case hr24 => go_simp <;> first | with_reducible rfl | rfl | trace_state
      simp only [Act.put, List.setIfInBounds_toArray, List.set_cons_zero, List.set_cons_succ]
      have hz3 := zero_cells HO3.out
      clear z0 z1 z2 z3 z4 z5 f0 f1 f2' f3 f4 f5
      obtain ⟨⟨z0, f0⟩, ⟨z1, f1⟩, ⟨z2, f2'⟩, ⟨z3, f3⟩, ⟨z4, f4⟩, ⟨z5, f5⟩⟩ := hz3
      generalize hv3 : v2.setCell ⟨T4, 0, none⟩ (.slice (some ⟨g1, 0, none⟩) (st'.length + 1) c1) = v3 at *
      refine Any.nx1 (i := 6) (by kernel_rfl) ?_
      refine Nx.skip (w' := (six v3 g1 (st'.length * 6) x.2)) rfl (by rfl) ?hr25 (Stt.past (by kernel_rfl)) ?hk25
      case hr25 => go_simp <;> first | with_reducible rfl | rfl | trace_state
      simp only [Act.put, List.setIfInBounds_toArray, List.set_cons_zero, List.set_cons_succ]
      subst hv3
      refine Any.done (by kernel_rfl) ?_ _
      obtain ⟨q1, q2, q3, q4, q5⟩ := HP3.out
      refine HPost.out { tmps := #[], defers := [] } _ (some ⟨g1, 0, none⟩) c1 ⟨?_, ?_⟩ (HK2.out.trans ((KeepsOthers.setCell _ _ _).trans q3)) ((HB2.out.setCell hTW _).trans q4) ?_
      ·rw [List.length_append]; exact q1
      ·rw [List.length_append]; exact q2
      ·exact (q5 _ HN1.out).trans ((Below.heap_setCell _ _ _ _ HT5.out).trans HE2.out)
    ·skip
     refine Nx.skip (w' := v2.setCell ⟨T4, 0, none⟩ (.slice (some ⟨g1, 0, none⟩) (st'.length + 1) c1)) rfl (by rfl) ?hr26 (Stt.past (by kernel_rfl)) ?hk26
     case hr26 => go_simp <;> first | with_reducible rfl | rfl | trace_state
     simp only [Act.put, List.setIfInBounds_toArray, List.set_cons_zero, List.set_cons_succ]
     have hz3 := zero_cells HO3.out
     clear z0 z1 z2 z3 z4 z5 f0 f1 f2' f3 f4 f5
     obtain ⟨⟨z0, f0⟩, ⟨z1, f1⟩, ⟨z2, f2'⟩, ⟨z3, f3⟩, ⟨z4, f4⟩, ⟨z5, f5⟩⟩ := hz3
     generalize hv3 : v2.setCell ⟨T4, 0, none⟩ (.slice (some ⟨g1, 0, none⟩) (st'.length + 1) c1) = v3 at *
     refine Any.nx1 (i := 5) (by kernel_rfl) ?_
     refine Nx.val (v := .pointer (some ⟨g1, st'.length * 6, none⟩)) (w' := v3) rfl (by rfl) ?hr27 (Stt.past (by kernel_rfl)) ?hk27
     case hr27 => go_simp; (intro h9; exfalso; omega)
     simp only [Act.put, List.setIfInBounds_toArray, List.set_cons_zero, List.set_cons_succ]
     refine Any.nx1 (i := 6) (by kernel_rfl) ?_
     refine Nx.skip (w' := (six v3 g1 (st'.length * 6) x.2)) rfl (by rfl) ?hr28 (Stt.past (by kernel_rfl)) ?hk28
     case hr28 => go_simp <;> first | with_reducible rfl | rfl | trace_state
     simp only [Act.put, List.setIfInBounds_toArray, List.set_cons_zero, List.set_cons_succ]
     subst hv3
     refine Any.done (by kernel_rfl) ?_ _
     obtain ⟨q1, q2, q3, q4, q5⟩ := HP3.out
     refine HPost.out { tmps := #[], defers := [] } _ (some ⟨g1, 0, none⟩) c1 ⟨?_, ?_⟩ (HK2.out.trans ((KeepsOthers.setCell _ _ _).trans q3)) ((HB2.out.setCell hTW _).trans q4) ?_
     ·rw [List.length_append]; exact q1
     ·rw [List.length_append]; exact q2
     ·exact (q5 _ HN1.out).trans ((Below.heap_setCell _ _ _ _ HT5.out).trans HE2.out)
   case done =>
    rintro D xs V hD rfl ⟨⟨q, cp, hi⟩, hkf, hbs⟩ hDk
    change ∃ n', n' < szR (st ++ [r]) ∧ FreeI W x T4 n' _ V
    have hbk : (bkXs rs rs.length).map Prod.snd = rs.reverse := by rw [bkXs_map rs (Nat.le_refl _), List.take_of_length_le (by simp)]
    rw [hbk] at hi
    have hsr : szR rs + 1 = sizeX r.1 := by rw [szR_map, HR1.out, sizeX_eq, sizeXs_sum]
    have hol : out'.length ≤ out.length + 1 := by
     rw [HO1.out]
     split
     ·exact addN_length _ _
     ·omega
    have h1 : szR (st ++ rs.reverse) = szR st + szR rs := by rw [szR_app, szR_rev]
    have h2 : szR (st ++ [r]) = szR st + sizeX r.1 := by rw [szR_app]; rfl
    refine ⟨szR (st ++ rs.reverse), by omega, st ++ rs.reverse, out', q, cp, p', c', _, rfl, by omega, ?_, ?_, ⟨⟨hi.g.below, hi.g.box, hi.g.out, Marks.cons (HF0.out.g.marks.kept hkf) (Nat.le_trans hWV hD) hDk (fun E hE => Nat.lt_of_lt_of_le (Marks.lt HF0.out.g.marks E hE) hD)⟩, hi.row⟩, rfl, rfl, ?_⟩
    ·have h3 := HFR.out
     rw [List.reverse_append, List.reverse_cons, List.reverse_nil, List.nil_append, List.singleton_append, List.map_cons, freeX_cons, ← HO1.out] at h3
     rw [List.reverse_append, List.reverse_reverse, List.map_append, HR1.out]
     exact h3
    ·intro s hs
     rcases List.mem_append.1 hs with hs | hs
     ·exact HRW.out s (List.mem_append_left _ hs)
     ·exact HR2.out s (List.mem_reverse.1 hs)
    ·simp only [List.forall_mem_cons]
     exact ⟨rfl, rfl, fun _ h => by cases h⟩
   case stop =>
    rintro D c pre V hD _ h
    exact h.elim
  have HM := Lib.hid hM
  clear hM h2
  refine (target_any r.1.op [] r.1.name r.1.n r.1.w r.1.v (.slice r.2.1 r.1.l.length r.2.2) _).mono ?_
  rintro e w3 ⟨rfl, hb3⟩
  have HW3 := Lib.hid (((HK0.out).alloc _).later hb3)
  have HB5 := Lib.hid (show w3.heap[w.heap.size]? = some (.cells (rowV r).toArray 28 (0, 0)) from (hb3.block _ (by simp)).trans ((congrArg _ (by simp)).trans (World.alloc_heap_new (w.setCell ⟨T4, 0, none⟩ (.slice (some ⟨g, 0, none⟩) st.length cap)) _)))
  have y1 := cell_of_row w3 w.heap.size 1 _ _ (0, 0) HB5.out
  simp only [rowV, List.getElem?_toArray, List.getElem?_cons_zero, List.getElem?_cons_succ] at y1
  have hlt3 : w.heap.size < w3.heap.size := (Array.getElem?_eq_some_iff.1 HB5.out).1
  clear hb3 hx0 hx1 hx2 hx3 hx4 hx5 b0 b1
  by_cases hq : namedO r.1.op = true
  case neg =>
   have hq' : namedO r.1.op = false := by simpa using hq
   have HQ := Lib.hid hq
   clear hq
   rw [hq']
   go_wp2_with fail
   refine HM.out _ _ ⟨out, p, c, by rw [if_neg HQ.out], HW3.out, HB5.out, rfl, rfl, ?_⟩
   simp only [List.forall_mem_cons]
   exact ⟨rfl, rfl, rfl, fun _ h => by cases h⟩
  have HQ := Lib.hid hq
  rw [hq]
  clear hq
  have hcon := contains_any W.heap.size p c out r.1.name w3 HW3.out.g.out (by have := HLen.out; omega)
  by_cases hin : r.1.name ∈ out
  case pos =>
   have HIN := Lib.hid hin
   rw [decide_eq_true hin] at hcon
   have HC := Lib.hid hcon
   clear hcon hin
   go_wp2_with (go_at_call 75; refine HC.out.mono ?_; rintro e w4 ⟨rfl, rfl⟩)
   refine HM.out _ _ ⟨out, p, c, by rw [if_pos HQ.out, addN_in HIN.out], HW3.out, HB5.out, rfl, rfl, ?_⟩
   simp only [List.forall_mem_cons]
   exact ⟨rfl, rfl, rfl, fun _ h => by cases h⟩
  have HIN := Lib.hid hin
  rw [decide_eq_false hin] at hcon
  have HC := Lib.hid hcon
  clear hcon hin
  obtain ⟨i0, hi, hz0, hz1, hz2⟩ := info_parts strInfo
  go_wp2_with (first
   | (go_at_call 75; refine HC.out.mono ?_; rintro e w4 ⟨rfl, rfl⟩)
   | (at_builtin; refine wpList_append_own _ rfl _ _ 68 rfl W.heap.size 9 i0 (.string ⟨#[]⟩) 1 16 strSlice hi hz0 hz1 hz2 rfl (by decide) _ _ _ rfl (World.ownsRow.alloc HW3.out.g.out _) ⟨w3.heap.size, 0, none⟩ 1 1 [.string (bs r.1.name)] rfl rfl (fun j u hu => World.news_of_block (World.alloc_heap_new w3 _) j u hu) (by simp [Value.oneCell']) (by have := HLen.out; unfold maxLen; omega) (by have := HLen.out; omega) (by have := HW3.out.g.below.size; simp; omega) ?_; intro v' w4 hown hgr hnil; clear hnil; obtain ⟨p', c', rfl, hw4⟩ := HW3.out.say (s := r.1.name) hown hgr; have HW4 := Lib.hid hw4; have HB6 := Lib.hid (show w4.heap[w.heap.size]? = some (.cells (rowV r).toArray 28 (0, 0)) from ((hgr.block w.heap.size (by simp; omega) (fun e => by obtain ⟨cur, hcur⟩ := own_type HW3.out.g.out _ e.symm; rw [HB5.out] at hcur; cases hcur)).trans (Below.heap_alloc _ _ _ hlt3)).trans HB5.out); clear hown hgr hw4))
  refine HM.out _ _ ⟨out ++ [r.1.name], p', c', by rw [if_pos HQ.out, addN_new HIN.out], HW4.out, HB6.out, rfl, rfl, ?_⟩
  simp only [List.forall_mem_cons]
  exact ⟨by rw [List.length_append]; rfl, rfl, rfl, fun _ h => by cases h⟩
end Go.Proofs.YtlcfpdmicpggbaaGreatDoor
namespace Go.Proofs.YtlcfpdmicpggbaaGreatDoor
open Go.RowKit Go.Proofs.Spl Go.Proofs.Scn Go.Shelf
theorem fewB_le {n d : Nat} (h : fewB n d = true) : n ≤ 2000 := by
 unfold fewB at h
 simp only [Bool.and_eq_true, decide_eq_true_eq] at h
 exact h.1
end Go.Proofs.YtlcfpdmicpggbaaGreatDoor
namespace Go.Proofs.YtlcfpdmicpggbaaGreatDoor
open Go.RowKit Go.Proofs.Spl Go.Proofs.Scn Go.Shelf
theorem names_any (x : X) (cs : List Value) (W : World) (hB : BaseA W) (hR : XR W x cs) (x1 : sizeX x ≤ 1048576) (x2 : smX x = true) :
  RetB 10 #[.agg cs.toArray] W true := by
 have HF := Lib.hid (fun (W9 : World) (h : Below W.heap.size W W9) => fewX_any x cs W9 (XR.later h _ _ hR) (by omega))
 have HT := Lib.hid (fun (hq : fewB (sizeX x) (deepX x) = true) (W9 : World) (h : Below W.heap.size W W9) => (tokensX_any x cs W9 (hB.later h) (XR.later h _ _ hR) x2 (by have := fewB_le hq; omega)).mono (fun e W' k => show ∃ p n c, e = .returned (.tuple #[.slice p n c, .int .i64 (checkX x)]) ∧ Toks W' (.slice p n c) (if checkX x = 0 then exprT x else []) ∧ Below W9.heap.size W9 W' by
  obtain ⟨v, rfl, hx, hb⟩ := k
  obtain ⟨p, n, c, rfl⟩ := hx.shape3
  exact ⟨p, n, c, rfl, hx.own.toks, hb⟩))
 have HFR := Lib.hid (fun (hq : fewB (sizeX x) (deepX x) = true) (W9 : World) (h : Below W.heap.size W W9) => free_any x cs W9 (XR.later h _ _ hR) (by have := fewB_le hq; omega))
 have HLN := Lib.hid (fun (hq : fewB (sizeX x) (deepX x) = true) => show (exprT x).length ≤ 1000000 by have := fewB_le hq; have := expr_len x; omega)
 have HNE := Lib.hid (fun (h0 : checkX x = 0) => show firstN (namesL (exprT x)) = firstN (targetsX x) by rw [names_expr x (checkX_ok.1 h0).2.2])
 have HTF := Lib.hid (fun (h0 : checkX x = 0) => show (if checkX x = 0 then exprT x else []) = exprT x by rw [if_pos h0])
 have HRR := Lib.hid (show checkX x = 0 ∨ (checkX x ≠ 0 ∧ (checkX x != 0) = true) by
  by_cases h : checkX x = 0
  ·exact .inl h
  ·exact .inr ⟨h, by simpa using h⟩)
 have HB := Lib.hid hB
 obtain ⟨hv, ls, rfl, hL⟩ := XR_iff.1 hR
 obtain ⟨p, c, rfl, _⟩ := hL
 clear hB hR x1 x2 hv
 generalize fewB (sizeX x) (deepX x) = q at *
 generalize (if checkX x = 0 then exprT x else []) = tf at *
 generalize checkX x = r at *
 generalize firstN (targetsX x) = ft at *
 obtain ⟨V, hV⟩ : ∃ V, V = W.alloc (.cells #[.int .i64 x.op, .string (bs x.name), .int .i64 x.n, .int .i64 x.w, .int .u64 x.v, .slice p x.l.length c] 28) := ⟨_, rfl⟩
 have XV := Lib.hid (show Below W.heap.size W V by rw [hV]; exact (Below.refl _ _).alloc (Nat.le_refl _) _)
 have r0 : V.heap[W.heap.size]? = some (.cells #[.int .i64 x.op, .string (bs x.name), .int .i64 x.n, .int .i64 x.w, .int .u64 x.v, .slice p x.l.length c] 28 (0, 0)) := by rw [hV]; exact World.alloc_heap_new W _
 have HSx := Lib.hid (show ∀ w', Below V.heap.size V w' → w'.cell? ⟨W.heap.size, 0, none⟩ = some (.int .i64 x.op) ∧ w'.cell? ⟨W.heap.size, 1, none⟩ = some (.string (bs x.name)) ∧ w'.cell? ⟨W.heap.size, 2, none⟩ = some (.int .i64 x.n) ∧ w'.cell? ⟨W.heap.size, 3, none⟩ = some (.int .i64 x.w) ∧ w'.cell? ⟨W.heap.size, 4, none⟩ = some (.int .u64 x.v) ∧ w'.cell? ⟨W.heap.size, 5, none⟩ = some (.slice p x.l.length c) from fun w' h => by
  have k0 := (h.block _ (Array.getElem?_eq_some_iff.1 r0).1).trans r0
  exact ⟨(cell_of_row _ _ 0 _ _ _ k0).trans rfl, (cell_of_row _ _ 1 _ _ _ k0).trans rfl, (cell_of_row _ _ 2 _ _ _ k0).trans rfl, (cell_of_row _ _ 3 _ _ _ k0).trans rfl, (cell_of_row _ _ 4 _ _ _ k0).trans rfl, (cell_of_row _ _ 5 _ _ _ k0).trans rfl⟩)
 clear r0
 obtain ⟨i0, hi, hz0, hz1, hz2⟩ := info_parts strInfo
 go_enter Tryz.func10, Tryz.ntmps10
 go_wp2_with fail
 rw [← hV]
 clear hV
 go_wp2_with (first
  | (go_at_call 12; refine (live_any V (HB.out.later XV.out)).mono ?_; rintro e W0 ⟨rfl, hb⟩; have Z0 := Lib.hid hb; obtain ⟨z0, z1, z2, z3, z4, z5⟩ := HSx.out _ Z0.out; have X0 := Lib.hid (XV.out.trans (hb.mono XV.out.size)); clear hb)
  | (go_at_call 14; refine (HF.out _ X0.out).mono ?_; rintro e W1 ⟨rfl, hb⟩; have Z1 := Lib.hid (Z0.out.trans (hb.mono Z0.out.size)); obtain ⟨z0, z1, z2, z3, z4, z5⟩ := HSx.out _ Z1.out; have X1 := Lib.hid (X0.out.trans (hb.mono X0.out.size)); clear hb; cases q)
  | (go_at_call 18; refine (HT.out (by trivial) _ X1.out).mono ?_; rintro e W3 ⟨p3, n3, c3, rfl, hx, hb⟩; have T3 := Lib.hid hx; have Z3 := Lib.hid (Z1.out.trans (hb.mono Z1.out.size)); obtain ⟨z0, z1, z2, z3, z4, z5⟩ := HSx.out _ Z3.out; have X3 := Lib.hid (X1.out.trans (hb.mono X1.out.size)); clear hb hx HT; rcases HRR.out with rfl | ⟨hr0, hr1⟩))
 all_goals first
  | (go_ret; exact ⟨rfl, by first | exact X3.out | exact X1.out⟩)
  | skip
 have HLN := Lib.hid (HLN.out (by trivial))
 have HFR := Lib.hid (HFR.out (by trivial))
 have HNE := Lib.hid (HNE.out (by trivial))
 have HTF := Lib.hid (HTF.out (by trivial))
 clear HRR HF HB
 have hl3 := HLN.out
 obtain ⟨ts, hts⟩ : ∃ ts, ts = exprT x := ⟨_, rfl⟩
 have HTS := Lib.hid (show tf = ts by rw [hts]; exact HTF.out)
 rw [← hts] at hl3
 have HNE2 := Lib.hid (show firstN (namesL ts) = ft by rw [hts]; exact HNE.out)
 clear hts HTF HNE HLN
 have T3' := Lib.hid (show Toks W3 (.slice p3 n3 c3) ts from HTS.out ▸ T3.out)
 have hn3 : n3 = ts.length := by
  rcases T3'.out with ⟨h, p, c, e⟩ | ⟨b, off, cap, e, _⟩
  ·cases e; rw [h]; rfl
  ·cases e; rfl
 have HTA := Lib.hid (show ∃ b off, (0 < ts.length → p3 = some ⟨b, off, none⟩) ∧ ∀ W9, Below W3.heap.size W3 W9 → ∀ k (h : k < ts.length), TokAt W9 b (off + k * 5) ts[k] by
  rcases T3'.out with ⟨h, p, c, e⟩ | ⟨b, off, cap, e, h1, h2⟩
  ·subst h; exact ⟨0, 0, fun h => by simp at h, fun W9 h k hk => by simp at hk⟩
  ·cases e; exact ⟨b, off, fun _ => rfl, fun W9 h k hk => (h2 k hk).later h1 h⟩)
 subst hn3
 clear T3 T3' HTS
 go_loopw [6, 7] (fun u i wr => ∃ (k n : Nat) (pq : Option Addr) (cp : Nat), u = .slice pq n cp ∧ i = .int .i64 k ∧ k ≤ ts.length ∧ Hid (n = (firstN (namesL (ts.take k))).length ∧ n ≤ k) ∧ Hid (OwnS W3.heap.size wr (.slice pq n cp) (firstN (namesL (ts.take k)))) ∧ Hid (Below W3.heap.size W3 wr)) (fun _ i _ => ts.length - (intOf i).toNat)
 case atStart =>
  refine ⟨0, 0, some ⟨W3.heap.size, 0, none⟩, 0, rfl, rfl, Nat.zero_le _, Lib.hid ⟨rfl, Nat.le_refl _⟩, Lib.hid ?_, Lib.hid ((Below.refl _ _).alloc (Nat.le_refl _) _)⟩
  exact World.ownsRow_made W3 #[] 0 (Nat.le_refl _) (by decide) rfl
 case round =>
  obtain ⟨k, n, pq, cp, rfl, rfl, hk, HN, HO, HX⟩ := hrel
  have HZ := Lib.hid (Z3.out.trans (HX.out.mono Z3.out.size))
  obtain ⟨z0, z1, z2, z3, z4, z5⟩ := HSx.out _ HZ.out
  by_cases hlt : k < ts.length
  case neg =>
   obtain rfl : k = ts.length := by omega
   have hge : ¬ ((ts.length : Int) < (ts.length : Int)) := by omega
   have hfull := HN.out.1
   have hO := HO.out
   rw [List.take_length, HNE2.out] at hfull hO
   subst hfull
   have HO9 := Lib.hid hO
   have hft : ft.length ≤ 1000000 := by have := HN.out.2; omega
   have HFT := Lib.hid hft
   have X9 := Lib.hid (X3.out.trans (HX.out.mono X3.out.size))
   clear hO hft
   go_wp2_with (first
    | (go_at_call 37; refine (HFR.out _ X9.out).mono ?_; rintro e W6 ⟨p6, c6, rfl, ho6, hb⟩; have O6 := Lib.hid ho6; have O7 := Lib.hid (HO9.out.later hb); have X6 := Lib.hid (X9.out.trans (hb.mono X9.out.size)); clear hb ho6)
    | (go_at_call 36; refine (texts_any _ _ _ _ _ _ ft ft _ O7.out O6.out (by have := HFT.out; omega) (by have := HFT.out; omega)).mono ?_; rw [decide_eq_true rfl]; rintro e W7 ⟨rfl, hb⟩; have X7 := Lib.hid (X6.out.trans (hb.mono X6.out.size)); clear hb))
   go_ret
   exact ⟨rfl, X7.out⟩
  obtain ⟨b, off, hp3, hta⟩ := HTA.out
  obtain rfl := hp3 (by omega)
  obtain ⟨c0, c1, c2, c3', c4⟩ := hta wr HX.out k hlt
  have HST := Lib.hid (names_step ts k hlt)
  have hlt' : (k : Int) < (ts.length : Int) := by omega
  have HFar := Lib.hid (show ∀ W9, Below wr.heap.size wr W9 → W9.cell? ⟨b, off + k * 5, none⟩ = some (.int .i64 ts[k].k) ∧ W9.cell? ⟨b, off + k * 5 + 1, none⟩ = some (.string (bs ts[k].s)) from fun W9 h => by
   obtain ⟨d0, d1, d2, d3, d4⟩ := hta W9 (HX.out.trans (h.mono HX.out.size)) k hlt
   exact ⟨d0, d1⟩)
  clear hta hp3 HTA
  generalize ts[k] = t at *
  generalize firstN (namesL (ts.take k)) = lk at *
  obtain rfl : n = lk.length := HN.out.1
  have hnk : lk.length ≤ 1000000 := by have := HN.out.2; omega
  have HNK := Lib.hid hnk
  by_cases h1 : t.k = 1
  case neg =>
   have HS2 := Lib.hid (HST.out.trans (if_neg h1))
   have hb1 : (t.k == 1) = false := by simpa using h1
   clear h1 HST
   go_wp2_with fail
   go_roundw
   case rel => exact ⟨k + 1, _, pq, cp, rfl, by go_num, hlt, Lib.hid ⟨by rw [HS2.out], by have := HN.out.2; omega⟩, Lib.hid (by rw [HS2.out]; exact HO.out), HX⟩
   case measure => simp [intOf]; omega
  have HS2 := Lib.hid (HST.out.trans (if_pos h1))
  have hb1 : (t.k == 1) = true := by simpa using h1
  clear h1 HST
  by_cases hin : t.s ∈ lk
  case pos =>
   have HS3 := Lib.hid (HS2.out.trans (addN_in hin))
   have HD := Lib.hid (decide_eq_true hin)
   clear hin
   go_wp2_with (go_at_call 35; refine (amongS_any _ _ _ lk t.s wr HO.out (by have := HNK.out; omega)).mono ?_; rw [HD.out]; rintro e W6 ⟨rfl, hb⟩; have X6 := Lib.hid (HX.out.trans (hb.mono HX.out.size)); have O6 := Lib.hid (HO.out.later hb); clear hb)
   go_roundw
   case rel => exact ⟨k + 1, _, pq, cp, rfl, by go_num, hlt, Lib.hid ⟨by rw [HS3.out], by have := HN.out.2; omega⟩, Lib.hid (by rw [HS3.out]; exact O6.out), X6⟩
   case measure => simp [intOf]; omega
  have HS3 := Lib.hid (HS2.out.trans (addN_new hin))
  have HD := Lib.hid (decide_eq_false hin)
  clear hin
  go_wp2_with (first
   | (go_at_call 35; refine (amongS_any _ _ _ lk t.s wr HO.out (by have := HNK.out; omega)).mono ?_; rw [HD.out]; rintro e W6 ⟨rfl, hb⟩; have X6 := Lib.hid (HX.out.trans (hb.mono HX.out.size)); have O6 := Lib.hid (HO.out.later hb); obtain ⟨d0, d1⟩ := HFar.out _ hb; clear hb)
   | (at_builtin; refine wpList_append_own _ rfl _ _ 68 rfl W3.heap.size 9 i0 (.string ⟨#[]⟩) 1 16 strSlice hi hz0 hz1 hz2 rfl (by decide) _ _ _ rfl (World.ownsRow.alloc O6.out _) ⟨W6.heap.size, 0, none⟩ 1 1 [.string (bs t.s)] rfl rfl (fun j u hu => World.news_of_block (World.alloc_heap_new W6 _) j u hu) (by simp [Value.oneCell']) (by have := HNK.out; unfold maxLen; omega) (by have := HNK.out; omega) (by have := X6.out.size; simp; omega) ?_; intro v' w7 hown hgr hnil; clear hnil; have HG := Lib.hid (grow_str (s := t.s) O6.out X6.out hown hgr); obtain ⟨q7, c7, rfl⟩ := HG.out.2.2; clear hown hgr))
  go_roundw
  case rel => exact ⟨k + 1, _, q7, c7, rfl, by go_num, hlt, Lib.hid ⟨by rw [HS3.out, List.length_append]; rfl, by have := HN.out.2; omega⟩, Lib.hid (by rw [HS3.out]; exact HG.out.1), Lib.hid HG.out.2.1⟩
  case measure => simp [intOf]; omega
end Go.Proofs.YtlcfpdmicpggbaaGreatDoor
