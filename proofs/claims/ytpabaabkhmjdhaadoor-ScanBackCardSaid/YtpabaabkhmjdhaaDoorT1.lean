/- ScanLines. -/
import Derived.Test.YtpabaabkhmjdhaaDoorT0
import Derived.Test.YtpabaabkhmjdhaaDoorT3
namespace Go.Proofs.YtpabaabkhmjdhaaDoor
open Go.RowKit Go.Proofs.Scn Go.Flow Go.Sort
set_option linter.unusedVariables false
set_option linter.unusedSimpArgs false
set_option maxRecDepth 100000

/-- parts of tokens -/
theorem own_head {B : Nat} {w : World} {q : Option Addr} {cp : Nat} {ts : List Tok} (h : OwnT B w (.slice q ts.length cp) ts) (k : Nat) (hk : k ≤ ts.length) :
    ∃ v', (∀ w2, (Instr.sliceAt 24 (.slice q ts.length cp) none (some (.int .i64 k)) none).run Tryd.prog w2 = .ok v' w2) ∧ ∀ w2, Toks w2 (.slice q ts.length cp) ts → Toks w2 v' (ts.take k) := by
  have hcp : ts.length ≤ cp := by
    rcases h.2 with ⟨h1, h0⟩ | ⟨g, cap, cur, h1, hB, hg, hn, hc, hs, ht⟩
    · omega
    · simp only [Value.slice.injEq] at h1; omega
  refine ⟨.slice q k cp, fun w2 => ?_, fun w2 hT => ?_⟩
  · rw [run_sliceAt_slice _ _ _ _ _ _ tokSlice, run_slice_h w2 _ _ _ _ tokSlice _ _ (by omega) (by omega), show (sizeOf (Tryd.prog.elem 24)).run Tryd.prog w2 = .ok 5 w2 from by simp [go_sem]]
    simp only [Result.andThen, sliced, Int.toNat_natCast, Nat.sub_zero, Nat.zero_mul]
    by_cases h0 : cp = 0
    · rw [if_pos h0]
    · rw [if_neg h0]
      cases q <;> simp [Addr.add]
  · rcases hT with ⟨h0, p, cap, h1⟩ | ⟨b, off, cap, h1, hlt, hc⟩
    · subst h0
      simp only [List.length_nil, Nat.le_zero_eq] at hk
      subst hk
      exact .inl ⟨rfl, _, _, rfl⟩
    · simp only [Value.slice.injEq, true_and] at h1
      obtain ⟨rfl, rfl⟩ := h1
      refine .inr ⟨b, off, cp, by rw [List.length_take, Nat.min_eq_left hk], hlt, fun j hj => ?_⟩
      rw [List.length_take] at hj
      rw [List.getElem_take]
      exact hc j (by omega)
theorem own_tail {B : Nat} {w : World} {q : Option Addr} {cp : Nat} {ts : List Tok} (h : OwnT B w (.slice q ts.length cp) ts) (k : Nat) (hk : k ≤ ts.length) :
    ∃ v', (∀ w2, (Instr.sliceAt 24 (.slice q ts.length cp) (some (.int .i64 k)) none none).run Tryd.prog w2 = .ok v' w2) ∧ ∀ w2, Toks w2 (.slice q ts.length cp) ts → Toks w2 v' (ts.drop k) := by
  have hcp : ts.length ≤ cp := by
    rcases h.2 with ⟨h1, h0⟩ | ⟨g, cap, cur, h1, hB, hg, hn, hc, hs, ht⟩
    · omega
    · simp only [Value.slice.injEq] at h1; omega
  refine ⟨sliced q k ts.length cp 5, fun w2 => ?_, fun w2 hT => ?_⟩
  · rw [run_sliceAt_slice _ _ _ _ _ _ tokSlice, run_slice_l w2 _ _ _ _ tokSlice _ _ (by omega) (by omega), show (sizeOf (Tryd.prog.elem 24)).run Tryd.prog w2 = .ok 5 w2 from by simp [go_sem]]
    simp only [Result.andThen, Int.toNat_natCast]
  · by_cases h0 : k = ts.length
    · subst h0
      rw [List.drop_length]
      exact .inl ⟨rfl, by unfold sliced; rw [Nat.sub_self]; exact ⟨_, _, rfl⟩⟩
    · rcases hT with ⟨h0, p, cap, h1⟩ | ⟨b, off, cap, h1, hlt, hc⟩
      · subst h0
        simp at hk h0; omega
      · simp only [Value.slice.injEq, true_and] at h1
        obtain ⟨rfl, rfl⟩ := h1
        refine .inr ⟨b, off + k * 5, cp - k, ?_, hlt, fun j hj => ?_⟩
        · unfold sliced
          rw [if_neg (by omega), List.length_drop]
          simp [Addr.add]
        · rw [List.length_drop] at hj
          rw [List.getElem_drop, Nat.add_assoc, show k * 5 + j * 5 = (k + j) * 5 by omega]
          exact hc (k + j) (by omega)

/-- tokens in another block than the one that is written -/
def ownOf : Value → Option Nat
  | .slice (some a) (_ + 1) _ => some a.block
  | _ => none
theorem Toks.apart {w w' : World} {v : Value} {ts : List Tok} {g : Nat} (h : Toks w v ts) (hh : ∀ b, b ≠ g → w'.heap[b]? = w.heap[b]?) (hs : w'.heap.size = w.heap.size) (hv : ∀ b off cap, v = .slice (some ⟨b, off, none⟩) ts.length cap → 0 < ts.length → b ≠ g) : Toks w' v ts := by
  rcases h with h | ⟨b, off, cap, h1, hlt, hc⟩
  · exact .inl h
  · by_cases h0 : ts = []
    · exact .inl ⟨h0, _, _, by rw [h1, h0]; rfl⟩
    · have hb : b ≠ g := hv b off cap h1 (List.length_pos_iff.2 h0)
      refine .inr ⟨b, off, cap, h1, by rw [hs]; exact hlt, fun k hk => ?_⟩
      have e : ∀ j, w'.cell? ⟨b, j, none⟩ = w.cell? ⟨b, j, none⟩ := fun j => World.cell?_of_block (hh b hb)
      obtain ⟨c0, c1, c2, c3, c4⟩ := hc k hk
      exact ⟨(e _).trans c0, (e _).trans c1, (e _).trans c2, (e _).trans c3, (e _).trans c4⟩

/-- behind append -/
theorem own_below {W w w' : World} {v : Value} {L : List UInt8} (ho : OwnB W.heap.size w v L) (hb : Below W.heap.size W w) (hg : w.grownBy w' v.ownBlock) : Below W.heap.size W w' :=
  Below.grown hb hg hb.size fun k hk => (World.ownsRow.lt ho k hk).1

theorem src_ten (w : World) : Src (w.alloc (.cells #[.int .u8 10] 5)) (.slice (some ⟨w.heap.size, 0, none⟩) 1 1) [10] := by
  refine .inr ⟨⟨w.heap.size, 0, none⟩, 1, rfl, fun j u hu => ?_⟩
  rcases j with _ | j
  · simp [cellsB] at hu
    subst hu
    simp [Addr.add, World.cell?_alloc_new]
  · simp [cellsB] at hu

/-- the block of tokens that a call owns -/
theorem own_block {B : Nat} {w : World} {q : Option Addr} {cp : Nat} {ts : List Tok} (h : OwnT B w (.slice q ts.length cp) ts) : ts.length = 0 ∨ ∃ g cur, q = some ⟨g, 0, none⟩ ∧ B ≤ g ∧ w.heap[g]? = some (.cells cur 32 (0, 0)) ∧ cur.toList.take (ts.length * 5) = cellsTs ts := by
  rcases h.2 with ⟨h1, h0⟩ | ⟨g, cap, cur, h1, hB, hg, hn, hc, hs, ht⟩
  · exact .inl h0
  · simp only [Value.slice.injEq] at h1
    exact .inr ⟨g, cur, h1.1, hB, hg, ht⟩

/-- the first k tokens' places are moved on -/
def MarkT (W4 wr : World) (g : Nat) (tb : List Tok) (d k : Nat) : Prop :=
  (∀ b, b ≠ g → wr.heap[b]? = W4.heap[b]?) ∧ wr.heap.size = W4.heap.size ∧
  (0 < tb.length → ∃ cur, wr.heap[g]? = some (.cells cur 32 (0, 0)) ∧ ∀ i (h : i < tb.length), ∀ j, j < 5 → cur[i * 5 + j]? = (cellsT (if i < k then shiftT d tb[i] else tb[i]))[j]?)
theorem mark_first {B d : Nat} {w : World} {q : Option Addr} {cp : Nat} {tb : List Tok} (h : OwnT B w (.slice q tb.length cp) tb) : ∃ g, MarkT w w g tb d 0 ∧ (0 < tb.length → q = some ⟨g, 0, none⟩ ∧ B ≤ g ∧ g < w.heap.size) ∧ (tb.length = 0 → w.heap.size ≤ g) := by
  by_cases h0 : tb.length = 0
  · exact ⟨w.heap.size, ⟨fun _ _ => rfl, rfl, fun hp => by omega⟩, fun hp => by omega, fun _ => Nat.le_refl _⟩
  · obtain ⟨g, cur, hq, hB, hg, ht⟩ := (own_block h).resolve_left h0
    refine ⟨g, ⟨fun _ _ => rfl, rfl, fun hp => ⟨cur, hg, fun i hi j hj => ?_⟩⟩, fun hp => ⟨hq, hB, (Array.getElem?_eq_some_iff.1 hg).1⟩, fun hh => (h0 hh).elim⟩
    rw [if_neg (by omega), ← cellsTs_at tb i j hi hj, ← ht, List.getElem?_take, if_pos (by omega)]
    simp
theorem mark_first' {B d : Nat} {w W4 : World} {q : Option Addr} {cp : Nat} {tb : List Tok} (h : OwnT B w (.slice q tb.length cp) tb) (hb : Below w.heap.size w W4) : ∃ g, MarkT W4 W4 g tb d 0 ∧ (0 < tb.length → q = some ⟨g, 0, none⟩ ∧ B ≤ g ∧ g < w.heap.size) ∧ (tb.length = 0 → W4.heap.size ≤ g) := by
  obtain ⟨g, h1, h2, h3⟩ := mark_first (d := d) (h.later hb)
  refine ⟨g, h1, fun hp => ?_, h3⟩
  obtain ⟨a, b, c⟩ := h2 hp
  refine ⟨a, b, ?_⟩
  rcases own_block h with h0 | ⟨g', cur, hq, _, hg, _⟩
  · omega
  · rw [a] at hq
    have : g = g' := by simpa using hq
    rw [this]
    exact (Array.getElem?_eq_some_iff.1 hg).1
theorem MarkT.tok {W4 wr : World} {g : Nat} {tb : List Tok} {d k i : Nat} (h : MarkT W4 wr g tb d k) (hi : i < tb.length) : TokAt wr g (0 + i * 5) (if i < k then shiftT d tb[i] else tb[i]) := by
  obtain ⟨cur, hg, hc⟩ := h.2.2 (by omega)
  have key : ∀ j, j < 5 → wr.cell? ⟨g, 0 + i * 5 + j, none⟩ = (cellsT (if i < k then shiftT d tb[i] else tb[i]))[j]? := by
    intro j hj
    rw [Nat.zero_add, cell_of_row wr g (i * 5 + j) cur _ (0, 0) hg]
    exact hc i hi j hj
  exact ⟨key 0 (by omega), key 1 (by omega), key 2 (by omega), key 3 (by omega), key 4 (by omega)⟩
theorem MarkT.at {W4 wr : World} {g : Nat} {tb : List Tok} {d k : Nat} (h : MarkT W4 wr g tb d k) (hk : k < tb.length) : wr.cell? ⟨g, k * 5 + 4, none⟩ = some (.int .i64 tb[k].p) ∧ wr.frozen? ⟨g, k * 5 + 4, none⟩ = false := by
  have h1 := (h.tok hk).c4
  rw [if_neg (Nat.lt_irrefl _), Nat.zero_add] at h1
  obtain ⟨cur, hg, hc⟩ := h.2.2 (by omega)
  exact ⟨h1, by simp [World.frozen?, hg]⟩
theorem MarkT.next {W4 wr : World} {g : Nat} {tb : List Tok} {d k : Nat} {p : Nat} (h : MarkT W4 wr g tb d k) (hk : k < tb.length) (hp : tb[k].p = p) : MarkT W4 (wr.setCell ⟨g, k * 5 + 4, none⟩ (.int .i64 ((p : Int) + (d : Int)))) g tb d (k + 1) := by
  obtain ⟨h1, h2, h3⟩ := h
  obtain ⟨cur, hg, hc⟩ := h3 (by omega)
  refine ⟨fun b hb => ?_, ?_, fun _ => ⟨cur.setIfInBounds (k * 5 + 4) (.int .i64 ((p : Int) + (d : Int))), ?_, fun i hi j hj => ?_⟩⟩
  · rw [← h1 b hb]
    simp [World.setCell, Array.getElem?_modify, Ne.symm hb]
  · rw [← h2]; simp [World.setCell]
  · simp [World.setCell, Array.getElem?_modify, hg]
  · have hcc := hc i hi j hj
    rw [Array.getElem?_setIfInBounds]
    by_cases he : k * 5 + 4 = i * 5 + j
    · obtain ⟨rfl, rfl⟩ : k = i ∧ j = 4 := by omega
      rw [if_pos he]
      rw [if_neg (Nat.lt_irrefl _)] at hcc
      have hlt : k * 5 + 4 < cur.size := by
        rcases Nat.lt_or_ge (k * 5 + 4) cur.size with h | h
        · exact h
        · rw [Array.getElem?_eq_none h] at hcc; simp [cellsT] at hcc
      rw [if_pos hlt, if_pos (Nat.lt_succ_self _)]
      simp [cellsT, shiftT, hp]
    · rw [if_neg he, hcc]
      by_cases hik : i < k
      · rw [if_pos hik, if_pos (by omega)]
      · rw [if_neg hik]
        by_cases hik2 : i = k
        · subst hik2
          rw [if_pos (by omega)]
          obtain hj4 : j ≠ 4 := by omega
          have : j = 0 ∨ j = 1 ∨ j = 2 ∨ j = 3 := by omega
          rcases this with rfl | rfl | rfl | rfl <;> rfl
        · rw [if_neg (by omega)]
theorem MarkT.whole {W4 wr : World} {g cp : Nat} {tb : List Tok} {d : Nat} (h : MarkT W4 wr g tb d tb.length) (hlt : g < wr.heap.size) : Toks wr (.slice (some ⟨g, 0, none⟩) tb.length cp) (tb.map (shiftT d)) := by
  refine .inr ⟨g, 0, cp, by rw [List.length_map], hlt, fun k hk => ?_⟩
  have hk' : k < tb.length := by simpa using hk
  have := h.tok hk'
  rw [if_pos hk'] at this
  rw [List.getElem_map]
  exact this
theorem right_at {l : List UInt8} {ts : List Tok} (h : scanW 0 l = .ok ts) (k : Nat) (hk : k < ts.length) : ∃ p : Nat, ts[k].p = p ∧ p < l.length := by
  obtain ⟨d, h1, h2, _⟩ := right_each (scan_right 0 l ts h) k hk
  exact ⟨d, by rw [h1]; simp, h2⟩

set_option maxHeartbeats 8000000 in
theorem lines_any (v0 v1 : Value) (s0 s1 : ByteArray) (z0 : s0.size ≤ 140737488355328) (z1 : s1.size ≤ 140737488355328) (W : World) (h0 : Bytes W v0 s0) (h1 : Bytes W v1 s1)
    (f0 : v0 = .slice none 0 0 ∨ ∃ ad l c, v0 = .slice (some ad) l c) (f1 : v1 = .slice none 0 0 ∨ ∃ ad l c, v1 = .slice (some ad) l c) (hB : Base W) :
    Calls Tryd.prog 9 #[v0, v1] W fun e W' => e = .returned (.bool true) ∧ Below W.heap.size W W' := by
  have KL := Lib.hid (live_any W hB)
  have HB := Lib.hid hB
  have HBa := Lib.hid h0
  have HBb := Lib.hid h1
  have HSa := Lib.hid (fun w hb => Src.later (w' := w) h0 f0 hb)
  have HSb := Lib.hid (fun w hb => Src.later (w' := w) h1 f1 hb)
  obtain ⟨p0, c0, rfl⟩ := h0.form
  obtain ⟨p1, c1, rfl⟩ := h1.form
  clear h0 h1 hB f0 f1
  have l0 : s0.data.toList.length = s0.size := rfl
  have l1 : s1.data.toList.length = s1.size := rfl
  by_cases n0 : (2000 : Int) < (s0.size : Int)
  · go_enter Tryd.func9, Tryd.ntmps9
    go_wp2_with fail
    refine KL.out.mono ?_
    rintro e W1 ⟨rfl, hb1⟩
    have HW1 := Lib.hid hb1
    clear hb1
    go_wp2
    go_ret
    exact ⟨rfl, HW1.out⟩
  by_cases n1 : (2000 : Int) < (s1.size : Int)
  · go_enter Tryd.func9, Tryd.ntmps9
    go_wp2_with fail
    refine KL.out.mono ?_
    rintro e W1 ⟨rfl, hb1⟩
    have HW1 := Lib.hid hb1
    clear hb1
    go_wp2
    go_ret
    exact ⟨rfl, HW1.out⟩
  have KSa := Lib.hid (fun w hb hB => scan_any (.slice p0 s0.size c0) s0 (by omega) w hb hB)
  have KSb := Lib.hid (fun w hb hB => scan_any (.slice p1 s1.size c1) s1 (by omega) w hb hB)
  have KSn := Lib.hid (fun v w hb hB => scan_any v (bs (s0.data.toList ++ [10] ++ s1.data.toList)) (by rw [size_bs]; simp; omega) w hb hB)
  rw [list_bs, List.append_assoc, show ([10] : List UInt8) ++ s1.data.toList = 10 :: s1.data.toList from rfl, scan_lines, Nat.zero_add, show s0.data.toList.length + 1 = 0 + (s0.size + 1) by omega, scan_shift] at KSn
  have HSa' := HSa
  have HSb' := HSb
  generalize s0.data.toList = A at *
  generalize s1.data.toList = C at *
  cases hra : scanW 0 A with
  | error x =>
    obtain ⟨k, er⟩ := x
    have her := scan_err hra
    rw [hra] at KSa KSn
    cases hrb : scanW 0 C with
    | error x =>
      obtain ⟨j, fr⟩ := x
      have hfr := scan_err hrb
      rw [hrb] at KSb
      clear hra hrb
      go_enter Tryd.func9, Tryd.ntmps9
      go_wp2_with fail
      refine KL.out.mono ?_
      rintro e W1 ⟨rfl, hb1⟩
      have HW1 := Lib.hid hb1
      clear hb1
      go_wp2_with fail
      refine (KSa.out _ (HBa.out.later HW1.out) (HB.out.later HW1.out)).mono ?_
      rintro e W2 ⟨rfl, hb2⟩
      have HW2 := Lib.hid (HW1.out.trans (hb2.mono HW1.out.size))
      clear hb2
      go_wp2_with fail
      refine (KSb.out _ (HBb.out.later HW2.out) (HB.out.later HW2.out)).mono ?_
      rintro e W3 ⟨rfl, hb3⟩
      have HW3 := Lib.hid (HW2.out.trans (hb3.mono HW2.out.size))
      have B3 := Lib.hid hb3
      clear hb3
      have own0 := Lib.hid (show OwnB W3.heap.size (W3.alloc (.cells #[] 5)) (.slice (some ⟨W3.heap.size, 0, none⟩) 0 0) [] from World.ownsRow_made W3 #[] 0 (Nat.le_refl _) (by decide) rfl)
      have X0 := Lib.hid ((Below.refl W3.heap.size W3).alloc (Nat.le_refl _) (.cells #[] 5))
      go_wp2_with (at_builtin; first
        | (refine wpList_append_src rfl _ _ rfl W3.heap.size _ [] A rfl own0.out _ rfl (HSa.out _ (HW3.out.trans (X0.out.mono HW3.out.size))) (by simp; omega) X0.out.size ?_; intro u1 w1 hown1 hgr1; have X1 := Lib.hid (own_below own0.out X0.out hgr1); have Y1 := Lib.hid (X1.out.alloc X1.out.size (.cells #[.int .u8 10] 5)); have own1 := Lib.hid (OwnB.later (show OwnB W3.heap.size w1 u1 A from hown1) ((Below.refl _ _).alloc (Nat.le_refl _) (.cells #[.int .u8 10] 5))); clear hown1 hgr1)
        | (refine wpList_append_src rfl _ _ rfl W3.heap.size _ A [10] rfl own1.out _ rfl (src_ten w1) (by simp; omega) Y1.out.size ?_; intro u2 w2 hown2 hgr2; have X2 := Lib.hid (own_below own1.out Y1.out hgr2); have own2 := Lib.hid hown2; clear hown2 hgr2)
        | (refine wpList_append_src rfl _ _ rfl W3.heap.size _ (A ++ [10]) C rfl own2.out _ rfl (HSb.out _ (HW3.out.trans (X2.out.mono HW3.out.size))) (by simp; omega) X2.out.size ?_; intro u3 w3 hown3 hgr3; have X3 := Lib.hid (own_below own2.out X2.out hgr3); have own3 := Lib.hid (show OwnB W3.heap.size w3 u3 (A ++ 10 :: C) from by rw [List.append_assoc] at hown3; exact hown3); clear hown3 hgr3))
      have HV3 := Lib.hid (HW3.out.trans (X3.out.mono HW3.out.size))
      refine (KSn.out _ _ own3.out.bytes (HB.out.later HV3.out)).mono ?_
      rintro e W4 ⟨rfl, hb4⟩
      have HW4 := Lib.hid (HV3.out.trans (hb4.mono HV3.out.size))
      clear hb4
      go_wp2
      go_ret
      exact ⟨rfl, HW4.out⟩
    | ok tb =>
      rw [hrb] at KSb
      clear hra hrb
      go_enter Tryd.func9, Tryd.ntmps9
      go_wp2_with fail
      refine KL.out.mono ?_
      rintro e W1 ⟨rfl, hb1⟩
      have HW1 := Lib.hid hb1
      clear hb1
      go_wp2_with fail
      refine (KSa.out _ (HBa.out.later HW1.out) (HB.out.later HW1.out)).mono ?_
      rintro e W2 ⟨rfl, hb2⟩
      have HW2 := Lib.hid (HW1.out.trans (hb2.mono HW1.out.size))
      clear hb2
      go_wp2_with fail
      refine (KSb.out _ (HBb.out.later HW2.out) (HB.out.later HW2.out)).mono ?_
      rintro e W3 ⟨⟨v3, rfl, ho3⟩, hb3⟩
      have HW3 := Lib.hid (HW2.out.trans (hb3.mono HW2.out.size))
      have HO3 := Lib.hid ho3
      clear ho3
      obtain ⟨q3, c3, rfl⟩ := HO3.out.toks.form
      have B3 := Lib.hid hb3
      clear hb3
      have own0 := Lib.hid (show OwnB W3.heap.size (W3.alloc (.cells #[] 5)) (.slice (some ⟨W3.heap.size, 0, none⟩) 0 0) [] from World.ownsRow_made W3 #[] 0 (Nat.le_refl _) (by decide) rfl)
      have X0 := Lib.hid ((Below.refl W3.heap.size W3).alloc (Nat.le_refl _) (.cells #[] 5))
      go_wp2_with (at_builtin; first
        | (refine wpList_append_src rfl _ _ rfl W3.heap.size _ [] A rfl own0.out _ rfl (HSa.out _ (HW3.out.trans (X0.out.mono HW3.out.size))) (by simp; omega) X0.out.size ?_; intro u1 w1 hown1 hgr1; have X1 := Lib.hid (own_below own0.out X0.out hgr1); have Y1 := Lib.hid (X1.out.alloc X1.out.size (.cells #[.int .u8 10] 5)); have own1 := Lib.hid (OwnB.later (show OwnB W3.heap.size w1 u1 A from hown1) ((Below.refl _ _).alloc (Nat.le_refl _) (.cells #[.int .u8 10] 5))); clear hown1 hgr1)
        | (refine wpList_append_src rfl _ _ rfl W3.heap.size _ A [10] rfl own1.out _ rfl (src_ten w1) (by simp; omega) Y1.out.size ?_; intro u2 w2 hown2 hgr2; have X2 := Lib.hid (own_below own1.out Y1.out hgr2); have own2 := Lib.hid hown2; clear hown2 hgr2)
        | (refine wpList_append_src rfl _ _ rfl W3.heap.size _ (A ++ [10]) C rfl own2.out _ rfl (HSb.out _ (HW3.out.trans (X2.out.mono HW3.out.size))) (by simp; omega) X2.out.size ?_; intro u3 w3 hown3 hgr3; have X3 := Lib.hid (own_below own2.out X2.out hgr3); have own3 := Lib.hid (show OwnB W3.heap.size w3 u3 (A ++ 10 :: C) from by rw [List.append_assoc] at hown3; exact hown3); clear hown3 hgr3))
      have HV3 := Lib.hid (HW3.out.trans (X3.out.mono HW3.out.size))
      refine (KSn.out _ _ own3.out.bytes (HB.out.later HV3.out)).mono ?_
      rintro e W4 ⟨rfl, hb4⟩
      have HW4 := Lib.hid (HV3.out.trans (hb4.mono HV3.out.size))
      clear hb4
      go_wp2
      go_ret
      exact ⟨rfl, HW4.out⟩
  | ok ta =>
    rw [hra] at KSa KSn
    cases hrb : scanW 0 C with
    | error x =>
      obtain ⟨k, er⟩ := x
      have her := scan_err hrb
      rw [hrb] at KSb KSn
      have hkC : k < C.length := by
        obtain ⟨d, h1, h2, _⟩ := scan_wrong 0 C k er hrb
        omega
      have hkk : ((k + (s0.size + 1) : Nat) : Int) = (k : Int) + (s0.size : Int) + 1 := by omega
      simp only [hkk] at KSn
      clear hra hrb
      go_enter Tryd.func9, Tryd.ntmps9
      go_wp2_with fail
      refine KL.out.mono ?_
      rintro e W1 ⟨rfl, hb1⟩
      have HW1 := Lib.hid hb1
      clear hb1
      go_wp2_with fail
      refine (KSa.out _ (HBa.out.later HW1.out) (HB.out.later HW1.out)).mono ?_
      rintro e W2 ⟨⟨v2, rfl, ho2⟩, hb2⟩
      have HW2 := Lib.hid (HW1.out.trans (hb2.mono HW1.out.size))
      have HO2 := Lib.hid ho2
      clear ho2
      obtain ⟨q2, c2, rfl⟩ := HO2.out.toks.form
      clear hb2
      go_wp2_with fail
      refine (KSb.out _ (HBb.out.later HW2.out) (HB.out.later HW2.out)).mono ?_
      rintro e W3 ⟨rfl, hb3⟩
      have HW3 := Lib.hid (HW2.out.trans (hb3.mono HW2.out.size))
      have B3 := Lib.hid hb3
      clear hb3
      have own0 := Lib.hid (show OwnB W3.heap.size (W3.alloc (.cells #[] 5)) (.slice (some ⟨W3.heap.size, 0, none⟩) 0 0) [] from World.ownsRow_made W3 #[] 0 (Nat.le_refl _) (by decide) rfl)
      have X0 := Lib.hid ((Below.refl W3.heap.size W3).alloc (Nat.le_refl _) (.cells #[] 5))
      go_wp2_with (at_builtin; first
        | (refine wpList_append_src rfl _ _ rfl W3.heap.size _ [] A rfl own0.out _ rfl (HSa.out _ (HW3.out.trans (X0.out.mono HW3.out.size))) (by simp; omega) X0.out.size ?_; intro u1 w1 hown1 hgr1; have X1 := Lib.hid (own_below own0.out X0.out hgr1); have Y1 := Lib.hid (X1.out.alloc X1.out.size (.cells #[.int .u8 10] 5)); have own1 := Lib.hid (OwnB.later (show OwnB W3.heap.size w1 u1 A from hown1) ((Below.refl _ _).alloc (Nat.le_refl _) (.cells #[.int .u8 10] 5))); clear hown1 hgr1)
        | (refine wpList_append_src rfl _ _ rfl W3.heap.size _ A [10] rfl own1.out _ rfl (src_ten w1) (by simp; omega) Y1.out.size ?_; intro u2 w2 hown2 hgr2; have X2 := Lib.hid (own_below own1.out Y1.out hgr2); have own2 := Lib.hid hown2; clear hown2 hgr2)
        | (refine wpList_append_src rfl _ _ rfl W3.heap.size _ (A ++ [10]) C rfl own2.out _ rfl (HSb.out _ (HW3.out.trans (X2.out.mono HW3.out.size))) (by simp; omega) X2.out.size ?_; intro u3 w3 hown3 hgr3; have X3 := Lib.hid (own_below own2.out X2.out hgr3); have own3 := Lib.hid (show OwnB W3.heap.size w3 u3 (A ++ 10 :: C) from by rw [List.append_assoc] at hown3; exact hown3); clear hown3 hgr3))
      have HV3 := Lib.hid (HW3.out.trans (X3.out.mono HW3.out.size))
      refine (KSn.out _ _ own3.out.bytes (HB.out.later HV3.out)).mono ?_
      rintro e W4 ⟨rfl, hb4⟩
      have HW4 := Lib.hid (HV3.out.trans (hb4.mono HV3.out.size))
      clear hb4
      go_wp2
      go_ret
      exact ⟨rfl, HW4.out⟩
    | ok tb =>
      rw [hrb] at KSb KSn
      simp only at KSn
      have tl1 := scanned_len (s := bs A) (by rw [list_bs]; exact hra)
      have tl2 := scanned_len (s := bs C) (by rw [list_bs]; exact hrb)
      rw [list_bs] at tl1 tl2
      have tl3 : ta.length ≤ 4000 := by omega
      have tl4 : tb.length ≤ 4000 := by omega
      clear tl1 tl2
      go_enter Tryd.func9, Tryd.ntmps9
      go_wp2_with fail
      refine KL.out.mono ?_
      rintro e W1 ⟨rfl, hb1⟩
      have HW1 := Lib.hid hb1
      clear hb1
      go_wp2_with fail
      refine (KSa.out _ (HBa.out.later HW1.out) (HB.out.later HW1.out)).mono ?_
      rintro e W2 ⟨⟨v2, rfl, ho2⟩, hb2⟩
      have HW2 := Lib.hid (HW1.out.trans (hb2.mono HW1.out.size))
      have HO2 := Lib.hid ho2
      clear ho2
      obtain ⟨q2, c2, rfl⟩ := HO2.out.toks.form
      clear hb2
      go_wp2_with fail
      refine (KSb.out _ (HBb.out.later HW2.out) (HB.out.later HW2.out)).mono ?_
      rintro e W3 ⟨⟨v3, rfl, ho3⟩, hb3⟩
      have HW3 := Lib.hid (HW2.out.trans (hb3.mono HW2.out.size))
      have HO3 := Lib.hid ho3
      clear ho3
      obtain ⟨q3, c3, rfl⟩ := HO3.out.toks.form
      have HO2' := Lib.hid (HO2.out.later hb3)
      have B3 := Lib.hid hb3
      clear hb3
      have own0 := Lib.hid (show OwnB W3.heap.size (W3.alloc (.cells #[] 5)) (.slice (some ⟨W3.heap.size, 0, none⟩) 0 0) [] from World.ownsRow_made W3 #[] 0 (Nat.le_refl _) (by decide) rfl)
      have X0 := Lib.hid ((Below.refl W3.heap.size W3).alloc (Nat.le_refl _) (.cells #[] 5))
      go_wp2_with (at_builtin; first
        | (refine wpList_append_src rfl _ _ rfl W3.heap.size _ [] A rfl own0.out _ rfl (HSa.out _ (HW3.out.trans (X0.out.mono HW3.out.size))) (by simp; omega) X0.out.size ?_; intro u1 w1 hown1 hgr1; have X1 := Lib.hid (own_below own0.out X0.out hgr1); have Y1 := Lib.hid (X1.out.alloc X1.out.size (.cells #[.int .u8 10] 5)); have own1 := Lib.hid (OwnB.later (show OwnB W3.heap.size w1 u1 A from hown1) ((Below.refl _ _).alloc (Nat.le_refl _) (.cells #[.int .u8 10] 5))); clear hown1 hgr1)
        | (refine wpList_append_src rfl _ _ rfl W3.heap.size _ A [10] rfl own1.out _ rfl (src_ten w1) (by simp; omega) Y1.out.size ?_; intro u2 w2 hown2 hgr2; have X2 := Lib.hid (own_below own1.out Y1.out hgr2); have own2 := Lib.hid hown2; clear hown2 hgr2)
        | (refine wpList_append_src rfl _ _ rfl W3.heap.size _ (A ++ [10]) C rfl own2.out _ rfl (HSb.out _ (HW3.out.trans (X2.out.mono HW3.out.size))) (by simp; omega) X2.out.size ?_; intro u3 w3 hown3 hgr3; have X3 := Lib.hid (own_below own2.out X2.out hgr3); have own3 := Lib.hid (show OwnB W3.heap.size w3 u3 (A ++ 10 :: C) from by rw [List.append_assoc] at hown3; exact hown3); clear hown3 hgr3))
      have HV3 := Lib.hid (HW3.out.trans (X3.out.mono HW3.out.size))
      refine (KSn.out _ _ own3.out.bytes (HB.out.later HV3.out)).mono ?_
      rintro e W4 ⟨⟨v4, rfl, ho4⟩, hb4⟩
      have HW4 := Lib.hid (HV3.out.trans (hb4.mono HV3.out.size))
      have hlen : (ta ++ tb.map (shiftT (s0.size + 1))).length = ta.length + tb.length := by simp
      obtain ⟨q4, c4, rfl⟩ := ho4.toks.form
      obtain ⟨vh, hs1, ht1⟩ := own_head ho4 ta.length (by simp)
      obtain ⟨vt, hs2, ht2⟩ := own_tail ho4 ta.length (by simp)
      rw [List.take_left] at ht1
      rw [List.drop_left] at ht2
      have HT4 := Lib.hid ho4.toks
      have HN4 := Lib.hid (own_block ho4)
      rw [hlen] at *
      have HH := Lib.hid ht1
      have HTl := Lib.hid ht2
      have HL4 := Lib.hid (HO2'.out.toks.later (X3.out.trans (hb4.mono X3.out.size)))
      have HL2 := Lib.hid (own_block HO2.out)
      have HM4 := Lib.hid (HO3.out.later (X3.out.trans (hb4.mono X3.out.size)))
      have HX4 := Lib.hid (X3.out.trans (hb4.mono X3.out.size))
      have hp := fun k hk => (right_at hrb k hk)
      have HP := Lib.hid hp
      have h34 := X3.out.size
      clear hb4 ho4 ht1 ht2 hlen hp hra hrb
      go_wp2_with fail
      obtain ⟨g, hg⟩ := mark_first' (d := s0.size + 1) HO3.out HX4.out
      have HG := Lib.hid hg
      clear hg
      go_loopw [16] (fun i wr => ∃ k : Nat, k ≤ tb.length ∧ i = .int .i64 k ∧ Hid (Below W.heap.size W wr) ∧ Hid (MarkT W4 wr g tb (s0.size + 1) k)) (fun i _ => tb.length - (intOf i).toNat)
      case atStart => exact ⟨0, Nat.zero_le _, rfl, HW4, Lib.hid HG.out.1⟩
      case round =>
        obtain ⟨k, hk, rfl, HX, HM⟩ := hrel
        by_cases hks : k < tb.length
        · obtain ⟨hq, hgl, hlt⟩ := HG.out.2.1 (by omega)
          subst hq
          obtain ⟨hcell, hfr⟩ := HM.out.at hks
          obtain ⟨pp, hpp, hple⟩ := HP.out k hks
          rw [hpp] at hcell
          have HNX := Lib.hid (HM.out.next hks hpp)
          have hgW : W.heap.size ≤ g := by have := HW2.out.size; omega
          go_wp2_with fail
          go_roundw
          case rel => exact ⟨k + 1, by omega, by go_num, Lib.hid (HX.out.setCell hgW _), by first | exact Lib.hid HNX.out | done⟩
          case measure => simp [intOf]; omega
        · obtain rfl : k = tb.length := by omega
          have key : MarkT W4 wr g tb (s0.size + 1) tb.length := HM.out
          have hgs : W3.heap.size ≤ W4.heap.size := HX4.out.size
          have hgs2 : W2.heap.size ≤ W3.heap.size := B3.out.size
          have E1 := Lib.hid (HL4.out.apart key.1 key.2.1 (fun b off cap he h0 => by
            simp only [Value.slice.injEq] at he
            rcases HL2.out with h | ⟨g2, cur, hq, _, hh, _⟩
            · omega
            · rw [hq] at he
              have hb : b = g2 := by have := he.1; simp at this; exact this.1.symm
              have hl2 := (Array.getElem?_eq_some_iff.1 hh).1
              by_cases ht : tb.length = 0
              · have := HG.out.2.2 ht; omega
              · have := (HG.out.2.1 (by omega)).2.1; omega))
          have E2 := Lib.hid (HT4.out.apart key.1 key.2.1 (fun b off cap he h0 => by
            simp only [Value.slice.injEq] at he
            rcases HN4.out with h | ⟨g4, cur, hq, hB4, hh, _⟩
            · rw [List.length_append, List.length_map] at h0; omega
            · rw [hq] at he
              have hb : b = g4 := by have := he.1; simp at this; exact this.1.symm
              have hl4 := (Array.getElem?_eq_some_iff.1 hh).1
              by_cases ht : tb.length = 0
              · have := HG.out.2.2 ht; omega
              · have := (HG.out.2.1 (by omega)).2.2; omega))
          have E3 : Hid (Toks wr (.slice q3 tb.length c3) (tb.map (shiftT (s0.size + 1)))) := Lib.hid (by
            by_cases ht : tb.length = 0
            · exact .inl ⟨by rw [List.eq_nil_of_length_eq_zero ht]; rfl, _, _, by rw [ht]⟩
            · obtain ⟨hq, _, hlt⟩ := HG.out.2.1 (by omega)
              rw [hq]
              exact key.whole (by rw [key.2.1]; omega))
          have KE1 := Lib.hid (equal_any vh (.slice q2 ta.length c2) ta ta (by omega) wr (HH.out _ E2.out) E1.out)
          clear key
          go_wp2_with fail
          refine KE1.out.mono ?_
          rintro e W5 ⟨rfl, hb5⟩
          have HW5 := Lib.hid (HX.out.trans (hb5.mono HX.out.size))
          have KE2 := Lib.hid (equal_any vt (.slice q3 tb.length c3) (tb.map (shiftT (s0.size + 1))) (tb.map (shiftT (s0.size + 1))) (by rw [List.length_map]; omega) W5 (HTl.out _ (E2.out.later hb5)) (E3.out.later hb5))
          clear hb5
          go_wp2_with fail
          refine KE2.out.mono ?_
          rintro e W6 ⟨rfl, hb6⟩
          have HW6 := Lib.hid (HW5.out.trans (hb6.mono HW5.out.size))
          clear hb6
          go_wp2
          go_ret
          exact ⟨by simp, HW6.out⟩

end Go.Proofs.YtpabaabkhmjdhaaDoor
