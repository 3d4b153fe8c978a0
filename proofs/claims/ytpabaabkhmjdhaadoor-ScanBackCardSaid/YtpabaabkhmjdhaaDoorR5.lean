/- A region that draws its order, in which one block is made at no fixed time, and filled at the end. Over any program. -/
import Derived.Test.YtpabaabkhmjdhaaDoorR4
namespace Go.Flow
open Go.RowKit Go.Sort
set_option linter.unusedVariables false
set_option linter.unusedSimpArgs false

/-- the operations that the mask does not strike -/
def strike : List Bool → List Oper → List Oper
  | true :: bs, _ :: l => strike bs l
  | false :: bs, o :: l => o :: strike bs l
  | _, _ => []

/-- each slot that an operation looks at is written by nobody, or by one that it waits for -/
def fed (ops : Array Oper) (bs : List Bool) : Bool :=
  (List.range bs.length).all fun i => bs[i]? != some false || match ops[i]? with
  | some o => (o.looksAt ops).all fun t => (List.range ops.size).all fun j => dst ops j != some t || (Nat.blt j i && (bs[j]? == some false) && o.after.toList.any fun e => Region.binds .any e && Nat.beq e.on j)
  | none => true

theorem fed_spec {ops : Array Oper} {bs : List Bool} (h : fed ops bs = true) {i : Nat} {o : Oper} (hi : bs[i]? = some false) (ho : ops[i]? = some o) {t j : Nat} (ht : t ∈ o.looksAt ops) (hj : dst ops j = some t) :
    j < i ∧ bs[j]? = some false ∧ ∃ e ∈ o.after.toList, Region.binds .any e = true ∧ e.on = j := by
  have h1 := List.all_eq_true.1 h i (List.mem_range.2 (List.getElem?_eq_some_iff.1 hi).1)
  rw [ho, hi] at h1
  simp only [bne_self_eq_false, Bool.false_or] at h1
  have hjs : j < ops.size := by
    rcases Nat.lt_or_ge j ops.size with h2 | h2
    · exact h2
    · simp [dst, Array.getElem?_eq_none h2] at hj
  have h2 := List.all_eq_true.1 (List.all_eq_true.1 h1 t ht) j (List.mem_range.2 hjs)
  rw [hj] at h2
  simp only [bne_self_eq_false, Bool.false_or, Bool.and_eq_true, Nat.blt_eq, beq_iff_eq, List.any_eq_true] at h2
  obtain ⟨⟨h3, h4⟩, e, he, hb, hon⟩ := h2
  exact ⟨h3, h4, e, he, hb, Nat.eq_of_beq_eq_true hon⟩

section
variable {P : Program} {ops : Array Oper} {C : World → Prop}

theorem put_getD_ne (a : Act) (x : Option Tmp) (v : Value) (t : Nat) (h : x ≠ some t) : (a.put x v).tmps.getD t undef = a.tmps.getD t undef := by
  cases x with
  | none => rfl
  | some d =>
    simp only [Act.put]
    exact getD_set_ne _ _ _ _ _ (fun e => h (by rw [e]))
theorem put_getD_self (a : Act) (d : Tmp) (v : Value) (h : d < a.tmps.size) : (a.put (some d) v).tmps.getD d undef = v := by
  simp only [Act.put]
  exact getD_set_self _ _ _ _ h
theorem put_size (a : Act) (x : Option Tmp) (v : Value) : (a.put x v).tmps.size = a.tmps.size := by cases x <;> simp [Act.put]
theorem put_defers (a : Act) (x : Option Tmp) (v : Value) : (a.put x v).defers = a.defers := by cases x <;> rfl

theorem wpQuiet_cons {Q : Act → Prop} {o : Oper} {l : List Oper} {a : Act} (h : wpQuiet P ops C Q (o :: l) a) : ∃ v, YieldsIn P ops C o v a ∧ wpQuiet P ops C Q l (a.put o.dst v) := by
  unfold wpQuiet at h
  by_cases hw : Region.wanted o (yielded ops a.tmps) = true
  · simp only [hw, if_true] at h
    obtain ⟨v, h1, h2⟩ := h
    exact ⟨v, .inl ⟨hw, h1⟩, h2⟩
  · simp only [hw] at h
    exact ⟨undef, .inr ⟨by simpa using hw, rfl⟩, h⟩

/-- the frames that the walk of the text's order passes through -/
theorem strike_frames {aF : Act} (hs : single ops = true) : ∀ (bs : List Bool) (l : List Oper) (k : Nat) (a : Act), (∀ j, l[j]? = ops[k + j]?) → bs.length ≤ l.length → (∀ i d, dst ops i = some d → d < a.tmps.size) →
    wpQuiet P ops C (fun a' => a' = aF) (strike bs l) a →
    (aF.tmps.size = a.tmps.size ∧ aF.defers = a.defers) ∧
    (∀ t, (∀ j, bs[j]? = some false → dst ops (k + j) ≠ some t) → aF.tmps.getD t undef = a.tmps.getD t undef) ∧
    (∀ (j : Nat) o, bs[j]? = some false → l[j]? = some o → ∃ v b, YieldsIn P ops C o v b ∧ (∀ d, o.dst = some d → aF.tmps.getD d undef = v) ∧
      b.tmps.size = a.tmps.size ∧
      ∀ t, ((∃ i, i < j ∧ bs[i]? = some false ∧ dst ops (k + i) = some t) → b.tmps.getD t undef = aF.tmps.getD t undef) ∧
        ((∀ i, i < j → bs[i]? = some false → dst ops (k + i) ≠ some t) → b.tmps.getD t undef = a.tmps.getD t undef))
  | [], l, k, a, hl, hlen, hin, h => by
    have : a = aF := by simpa [strike, wpQuiet] using h
    subst this
    exact ⟨⟨rfl, rfl⟩, fun t _ => rfl, fun j o hj => by simp at hj⟩
  | b0 :: bs, [], k, a, hl, hlen, hin, h => by simp at hlen
  | true :: bs, o0 :: l, k, a, hl, hlen, hin, h => by
    obtain ⟨h1, h2, h3⟩ := strike_frames hs bs l (k + 1) a (fun j => by have := hl (j + 1); simpa [Nat.add_assoc, Nat.add_comm 1 j] using this) (by simpa using hlen) hin (by simpa [strike] using h)
    refine ⟨h1, fun t ht => h2 t fun j hj => by have := ht (j + 1) (by simpa using hj); rwa [show k + (j + 1) = k + 1 + j by omega] at this, fun j o hj ho => ?_⟩
    match j, hj, ho with
    | 0, hj, ho => simp at hj
    | j + 1, hj, ho =>
      obtain ⟨v, b, g1, g2, g3, g4⟩ := h3 j o (by simpa using hj) (by simpa using ho)
      refine ⟨v, b, g1, g2, g3, fun t => ⟨fun ⟨i, hi, hb, hd⟩ => ?_, fun hall => ?_⟩⟩
      · match i, hi, hb, hd with
        | 0, hi, hb, hd => simp at hb
        | i + 1, hi, hb, hd => exact (g4 t).1 ⟨i, by omega, by simpa using hb, by rwa [show k + 1 + i = k + (i + 1) by omega]⟩
      · exact (g4 t).2 fun i hi hb => by have := hall (i + 1) (by omega) (by simpa using hb); rwa [show k + (i + 1) = k + 1 + i by omega] at this
  | false :: bs, o0 :: l, k, a, hl, hlen, hin, h => by
    obtain ⟨v0, hy, hrest⟩ := wpQuiet_cons (by simpa only [strike] using h)
    have hk : ops[k]? = some o0 := by simpa using (hl 0).symm
    have hks : k < ops.size := (Array.getElem?_eq_some_iff.1 hk).1
    have hdk : dst ops k = o0.dst := by simp [dst, hk]
    obtain ⟨h1, h2, h3⟩ := strike_frames hs bs l (k + 1) (a.put o0.dst v0) (fun j => by have := hl (j + 1); simpa [Nat.add_assoc, Nat.add_comm 1 j] using this) (by simpa using hlen) (by intro i d hd; rw [put_size]; exact hin i d hd) hrest
    rw [put_size, put_defers] at h1
    have hlt : ∀ j, bs[j]? = some false → k + 1 + j < ops.size := fun j hj => by
      have hjl : j < bs.length := (List.getElem?_eq_some_iff.1 hj).1
      have hll : j + 1 < (o0 :: l).length := by simp at hlen ⊢; omega
      have := hl (j + 1)
      rw [List.getElem?_eq_getElem hll] at this
      have := (Array.getElem?_eq_some_iff.1 this.symm).1
      omega
    have hself : ∀ d, o0.dst = some d → aF.tmps.getD d undef = v0 := fun d hd => by
      rw [h2 d fun j hj => single_spec hs hks (hlt j hj) (by omega) (by rw [hdk, hd]), hd]
      exact put_getD_self a d v0 (hin k d (by rw [hdk, hd]))
    refine ⟨h1, fun t ht => ?_, fun j o hj ho => ?_⟩
    · rw [h2 t fun j hj => by have := ht (j + 1) (by simpa using hj); rwa [show k + (j + 1) = k + 1 + j by omega] at this]
      exact put_getD_ne _ _ _ _ (by have := ht 0 rfl; rwa [Nat.add_zero, hdk] at this)
    · match j, hj, ho with
      | 0, hj, ho =>
        obtain rfl : o0 = o := by simpa using ho
        exact ⟨v0, a, hy, hself, rfl, fun t => ⟨fun ⟨i, hi, _⟩ => by omega, fun _ => rfl⟩⟩
      | j + 1, hj, ho =>
        obtain ⟨v, b, g1, g2, g3, g4⟩ := h3 j o (by simpa using hj) (by simpa using ho)
        refine ⟨v, b, g1, g2, by rw [g3, put_size], fun t => ⟨fun ⟨i, hi, hb, hd⟩ => ?_, fun hall => ?_⟩⟩
        · match i, hi, hb, hd with
          | 0, hi, hb, hd =>
            rw [Nat.add_zero, hdk] at hd
            rw [(g4 t).2 fun i' hi' hb' => single_spec hs hks (hlt i' hb') (by omega) (by rw [hdk, hd]), hself t hd, hd]
            exact put_getD_self a t v0 (hin k t (by rw [hdk, hd]))
          | i + 1, hi, hb, hd => exact (g4 t).1 ⟨i, by omega, by simpa using hb, by rwa [show k + 1 + i = k + (i + 1) by omega]⟩
        · rw [(g4 t).2 fun i hi hb => by have := hall (i + 1) (by omega) (by simpa using hb); rwa [show k + (i + 1) = k + 1 + i by omega] at this]
          exact put_getD_ne _ _ _ _ (by have := hall 0 (by omega) rfl; rwa [Nat.add_zero, hdk] at this)

theorem eval_of_looks {a b : Act} {o : Oper} (hsel : ∀ cs q, o.op ≠ .select cs q) (hsz : a.tmps.size = b.tmps.size) (h : ∀ t ∈ o.looksAt ops, a.tmps.getD t undef = b.tmps.getD t undef) :
    execOp a.eval o = execOp b.eval o ∧ Region.wanted o (yielded ops a.tmps) = Region.wanted o (yielded ops b.tmps) := by
  have key : ∀ t, a.tmps.getD t undef = b.tmps.getD t undef → a.tmps[t]? = b.tmps[t]? := fun t ht => by
    rcases Nat.lt_or_ge t a.tmps.size with h1 | h1
    · have h2 : t < b.tmps.size := by omega
      simp only [Array.getD_eq_getD_getElem?, Array.getElem?_eq_getElem h1, Array.getElem?_eq_getElem h2, Option.getD_some] at ht ⊢
      rw [ht]
    · rw [Array.getElem?_eq_none h1, Array.getElem?_eq_none (by omega)]
  refine ⟨execOp_congr o hsel fun x hx => ?_, ?_⟩
  · cases x with
    | tmp t =>
      have := key t (h t (List.mem_append_left _ (List.mem_filterMap.2 ⟨.tmp t, by simpa using hx, rfl⟩)))
      simp [Act.eval, this]
    | _ => rfl
  · unfold Region.wanted
    cases hg : o.guard with
    | none => rfl
    | some gw =>
      obtain ⟨g, want⟩ := gw
      have hy : yielded ops a.tmps g = yielded ops b.tmps g := by
        unfold yielded
        cases ht : (ops[g]?).bind (·.dst) with
        | none => rfl
        | some t =>
          have := key t (h t (by simp [Oper.looksAt, hg, ht]))
          simp [this]
      simp only [hy]
end

/-- what is known when the operations of L have been done -/
structure FInv (ops : Array Oper) (bs : List Bool) (p : Nat) (d : Tmp) (O : Obj) (a aF : Act) (w : World) (L : Array Bool) (a' : Act) (w' : World) : Prop where
  head : HeadInv .any ops bs.length L
  size : a'.tmps.size = a.tmps.size
  defers : a'.defers = a.defers
  below : Below w.heap.size w w'
  same : ∀ t, (∀ j, j < bs.length → dst ops j ≠ some t) → a'.tmps.getD t undef = a.tmps.getD t undef
  vals : ∀ j t, bs[j]? = some false → L.getD j false = true → dst ops j = some t → a'.tmps.getD t undef = aF.tmps.getD t undef
  flt : L.getD p false = true → ∃ m, a'.tmps.getD d undef = .pointer (some ⟨m, 0, none⟩) ∧ w.heap.size ≤ m ∧ w'.heap[m]? = some O

/-- The region: all but one of its first operations are quiet, that one makes a block; the last ones stand in a row. -/
theorem wp_region_float {P : Program} {id : Nat} {Q : Exit → Act → World → Prop} {a : Act} {w : World} {l : List Oper} {aF : Act} (bs : List Bool) (p : Nat) (d : Tmp) (O : Obj)
    (hm : P.follows .mixedOrders = true) (hsel : Region.noSelect l.toArray = true) (hb : back l.toArray = true) (hsg : single l.toArray = true) (hin : inside l.toArray a.tmps.size = true) (hfed : fed l.toArray bs = true)
    (hsk : Region.sinkB .any l.toArray bs.length = true) (hch : Region.chainB .any l.toArray bs.length = true) (hn : bs.length < l.length)
    (hseq : Region.seqB .any l.toArray (l.length - bs.length) bs.length (List.replicate bs.length true ++ List.replicate (l.length - bs.length) false).toArray = true)
    (hbs : ∀ i, i < bs.length → (bs[i]? = some true ↔ i = p)) (hp : p < bs.length)
    (hop : ∃ o, l.toArray[p]? = some o ∧ o.dst = some d ∧ o.guard = none ∧ ∀ (e : Operand → Value) (W : World), (execOp e o).run P W = .ok (.value (.pointer (some ⟨W.heap.size, 0, none⟩))) (W.alloc O))
    (hwalk : ∀ Z, Below w.heap.size w Z → wpQuiet P l.toArray (fun w' => ∃ q : Regrown, w' = grow (redrawn Z q.d) q.os) (fun a' => a' = aF) (strike bs l) a)
    (htail : ∀ Z m, Below w.heap.size w Z → w.heap.size ≤ m → Z.heap[m]? = some O → wpList P l.toArray Q (l.drop bs.length) (aF.put (some d) (.pointer (some ⟨m, 0, none⟩))) Z) :
    (Code.region id l.toArray true).wp P Q a w := by
  obtain ⟨op, hop1, hop2, hop3, hop4⟩ := hop
  have hsz : l.toArray.size = l.length := by simp
  have hdp : dst l.toArray p = some d := by simp [dst, hop1, hop2]
  have hframes := fun Z hZ => strike_frames hsg bs l 0 a (fun j => by simp) (by omega) (fun i d' hd' => inside_spec hin hd') (hwalk Z hZ)
  have hdF : ∀ j, bs[j]? = some false → j < bs.length := fun j hj => (List.getElem?_eq_some_iff.1 hj).1
  have hbf : ∀ j, j < bs.length → j ≠ p → bs[j]? = some false := fun j hj hne => by
    have h1 := hbs j hj
    rw [List.getElem?_eq_getElem hj] at h1 ⊢
    cases hv : bs[j]
    · rfl
    · rw [hv] at h1
      exact absurd (h1.1 rfl) hne
  have key : ∀ f L a' w', L.toList.count true + f = bs.length → FInv l.toArray bs p d O a aF w L a' w' → wpAny P .any l.toArray Q (f + (l.length - bs.length)) L a' w' := by
    intro f
    induction f with
    | zero =>
      intro L a' w' hc hI
      have hLsz := hI.head.size
      -- all first ones are done
      have htl : ∀ t, bs.length ≤ t → t < l.length → L.getD t true = false := fun t h1 h2 => hI.head.tail t h1 (by rw [hsz]; exact h2)
      have hL : L = (List.replicate bs.length true ++ List.replicate (l.length - bs.length) false).toArray := by
        have h1 : L.toList.drop bs.length = List.replicate (l.length - bs.length) false := by
          apply List.ext_getElem
          · simp; omega
          · intro i h1 h2
            have h3 : bs.length + i < l.length := by simp at h2; omega
            have := htl (bs.length + i) (by omega) h3
            have h4 : bs.length + i < L.size := by omega
            simp only [Array.getD_eq_getD_getElem?, Array.getElem?_eq_getElem h4, Option.getD_some] at this
            simpa using this
        have h2 : L.toList.take bs.length = List.replicate bs.length true := by
          have hcnt : L.toList.count true = (L.toList.take bs.length).count true + (L.toList.drop bs.length).count true := by
            rw [← List.count_append, List.take_append_drop]
          rw [h1] at hcnt
          have h0 : (List.replicate (l.length - bs.length) false).count true = 0 := by simp [List.count_replicate]
          have hlen : (L.toList.take bs.length).length = bs.length := by simp; omega
          have hall := all_of_count (L := L.toList.take bs.length) (by omega)
          rw [List.eq_replicate_iff]
          exact ⟨hlen, hall⟩
        have : L.toList = List.replicate bs.length true ++ List.replicate (l.length - bs.length) false := by
          rw [← h1, ← h2, List.take_append_drop]
        rw [← this]
      have hdone : ∀ j, j < bs.length → L.getD j false = true := fun j hj => by
        rw [hL]
        simp [Array.getD_eq_getD_getElem?, List.getElem?_append_left, hj]
      obtain ⟨m, hm1, hm2, hm3⟩ := hI.flt (hdone p hp)
      obtain ⟨⟨hF1, hF2⟩, hF3, _⟩ := hframes w (Below.refl _ _)
      have hdlt : d < a.tmps.size := inside_spec hin hdp
      have ha' : a' = aF.put (some d) (.pointer (some ⟨m, 0, none⟩)) := by
        have e1 : a'.tmps = (aF.put (some d) (.pointer (some ⟨m, 0, none⟩))).tmps := by
          apply Array.ext
          · rw [put_size, hF1, hI.size]
          · intro t h1 h2
            have g : a'.tmps.getD t undef = (aF.put (some d) (.pointer (some ⟨m, 0, none⟩))).tmps.getD t undef := by
              by_cases htd : t = d
              · subst htd
                rw [hm1, put_getD_self _ _ _ (by rw [hF1]; exact hdlt)]
              · rw [put_getD_ne _ _ _ _ (fun e => htd (Option.some.inj e).symm)]
                by_cases hw : ∃ j, j < bs.length ∧ dst l.toArray j = some t
                · obtain ⟨j, hj, hjt⟩ := hw
                  have hjp : j ≠ p := fun e => by subst e; rw [hdp] at hjt; exact htd (Option.some.inj hjt).symm
                  exact hI.vals j t (hbf j hj hjp) (hdone j hj) hjt
                · rw [hI.same t fun j hj e => hw ⟨j, hj, e⟩, hF3 t fun j hj => by rw [Nat.zero_add]; exact fun e => hw ⟨j, hdF j hj, e⟩]
            simpa [Array.getD_eq_getD_getElem?, h1, h2] using g
          done
        have e2 : a'.defers = (aF.put (some d) (.pointer (some ⟨m, 0, none⟩))).defers := by rw [put_defers, hF2, hI.defers]
        obtain ⟨x, y⟩ := a'
        generalize aF.put (some d) (.pointer (some ⟨m, 0, none⟩)) = b at *
        obtain ⟨x', y'⟩ := b
        simp only at e1 e2
        rw [e1, e2]
      have := wpAny_of_seq (P := P) (md := .any) (Q' := Q) (ops := l.toArray) (l.drop bs.length) bs.length L a' w' (fun j => by simp [List.getElem?_drop]) (by rw [hL, List.length_drop]; exact hseq) (by rw [ha']; exact htail w' m hI.below hm2 hm3)
      rw [List.length_drop] at this
      rwa [Nat.zero_add]
    | succ f ih =>
      intro L a' w' hc hI
      have hLsz := hI.head.size
      obtain ⟨i0, hi0, hun0⟩ : ∃ i, i < bs.length ∧ L.getD i true = false := by
        refine Classical.byContradiction fun hno => ?_
        have hall : ∀ i, i < bs.length → L.getD i true = true := fun i hi => by
          cases h : L.getD i true
          · exact absurd ⟨i, hi, h⟩ hno
          · rfl
        have h2 : (L.toList.take bs.length).count true = bs.length := by
          have hlen : (L.toList.take bs.length).length = bs.length := by simp; omega
          refine ((List.count_eq_length (a := true) (l := L.toList.take bs.length)).2 fun x hx => ?_).trans hlen
          obtain ⟨j, hj, rfl⟩ := List.getElem_of_mem hx
          have hjb : j < bs.length := by omega
          have := hall j hjb
          have hjL : j < L.size := by omega
          simp only [Array.getD_eq_getD_getElem?, Array.getElem?_eq_getElem hjL, Option.getD_some] at this
          simpa using this.symm
        have h3 : (L.toList.take bs.length).count true ≤ L.toList.count true := (List.take_sublist _ _).count_le _
        omega
      rw [show f + 1 + (l.length - bs.length) = (f + (l.length - bs.length)) + 1 by omega]
      refine ⟨fun h0 => absurd h0 (ready_some hb ⟨i0, by rw [hsz]; omega, hun0⟩ hLsz), fun i hi => ?_⟩
      have hilt : i < bs.length := by
        rcases Nat.lt_or_ge i bs.length with h | h
        · exact h
        · exact absurd hi (tail_waits hsk hch (by rw [hsz]; exact hn) hI.head _ i0 rfl hi0 hun0 i h)
      obtain ⟨hi1, hi2, hi3⟩ := mem_ready hi
      have hcnt : (L.setIfInBounds i true).toList.count true + f = bs.length := by
        rw [count_set (by omega) hi2]
        omega
      have hhead := hI.head.set hi hilt
      by_cases hip : i = p
      · subst hip
        unfold wpOp
        rw [hop1]
        simp only [Region.wanted, hop3, if_true]
        refine .inl ?_
        unfold Oper.wp
        rw [hop4]
        simp only [Oper.upon]
        refine ih _ _ _ hcnt ⟨hhead, by rw [put_size]; exact hI.size, by rw [put_defers]; exact hI.defers, hI.below.alloc hI.below.size _, fun t ht => ?_, fun j t hj hLj hjt => ?_, fun _ => ?_⟩
        · rw [hop2, put_getD_ne _ _ _ _ (by rw [← hdp]; exact ht i hilt)]
          exact hI.same t ht
        · have hji : j ≠ i := fun e => by subst e; rw [(hbs j hilt).2 rfl] at hj; simp at hj
          rw [hop2, put_getD_ne _ _ _ _ (by rw [← hjt, ← hdp]; exact fun e => single_spec hsg hi1 (by rw [hsz]; have := hdF j hj; omega) hji hdp (e.symm.trans hdp))]
          rw [getD_set_ne _ _ _ _ _ hji] at hLj
          exact hI.vals j t hj hLj hjt
        · refine ⟨w'.heap.size, ?_, hI.below.size, by simp [World.alloc, -World.alloc_eq]⟩
          rw [hop2]
          exact put_getD_self _ _ _ (by rw [hI.size]; exact inside_spec hin hdp)
      · have hbi := hbf i hilt hip
        have ho : l.toArray[i]? = some l.toArray[i] := Array.getElem?_eq_getElem hi1
        have hol : l[i]? = some l.toArray[i] := by simp
        obtain ⟨_, hF3, hF4⟩ := hframes w' hI.below
        obtain ⟨v, b, g1, g2, g3, g4⟩ := hF4 i _ hbi hol
        simp only [Nat.zero_add] at g4
        have hselo := Region.noSelect_spec hsel
        have hlook : ∀ t ∈ (l.toArray[i]).looksAt l.toArray, a'.tmps.getD t undef = b.tmps.getD t undef := fun t ht => by
          by_cases hw : ∃ j, j < l.toArray.size ∧ dst l.toArray j = some t
          · obtain ⟨j, hj, hjt⟩ := hw
            obtain ⟨h1, h2, e, he, hbe, hon⟩ := fed_spec hfed hbi ho ht hjt
            rw [(g4 t).1 ⟨j, h1, h2, hjt⟩]
            exact hI.vals j t h2 (by rw [← hon]; exact hi3 _ ho e he hbe) hjt
          · rw [(g4 t).2 fun j hj hbj e => hw ⟨j, by rw [hsz]; have := hdF j hbj; omega, e⟩]
            exact hI.same t fun j hj e => hw ⟨j, by rw [hsz]; omega, e⟩
        obtain ⟨ev, wn⟩ := eval_of_looks (ops := l.toArray) (o := l.toArray[i]) (hselo i _ · · ho) (by rw [hI.size, g3]) hlook
        have hy := g1.of_same ev wn
        have hdi : dst l.toArray i = (l.toArray[i]).dst := by simp [dst, ho]
        refine wpOp_of_qOp (C := fun z => ∃ q : Regrown, z = grow (redrawn w' q.d) q.os) (K := fun a'' => a'' = a'.put (l.toArray[i]).dst v) ⟨⟨w'.drawn, #[]⟩, by rw [grow_empty]; rfl⟩ ?_ (hy.qOp ho rfl)
        rintro a'' w'' ⟨q, rfl⟩ rfl
        have hbel := below_regrown w' q.d q.os
        refine ih _ _ _ hcnt ⟨hhead, by rw [put_size]; exact hI.size, by rw [put_defers]; exact hI.defers, hI.below.trans (hbel.mono hI.below.size), fun t ht => ?_, fun j t hj hLj hjt => ?_, fun hLp => ?_⟩
        · rw [put_getD_ne _ _ _ _ (by rw [← hdi]; exact ht i hilt)]
          exact hI.same t ht
        · by_cases hji : j = i
          · subst hji
            rw [hdi] at hjt
            rw [hjt, put_getD_self _ _ _ (by rw [hI.size]; exact inside_spec hin (i := j) (by rw [hdi, hjt])), g2 t hjt]
          · rw [getD_set_ne _ _ _ _ _ hji] at hLj
            have hjs : j < l.toArray.size := by rw [hsz]; have := hdF j hj; omega
            rw [put_getD_ne _ _ _ _ (by rw [← hdi]; exact fun e => single_spec hsg hi1 hjs hji e hjt)]
            exact hI.vals j t hj hLj hjt
        · rw [getD_set_ne _ _ _ _ _ (Ne.symm hip)] at hLp
          obtain ⟨m, h1, h2, h3⟩ := hI.flt hLp
          refine ⟨m, ?_, h2, ?_⟩
          · rw [put_getD_ne _ _ _ _ (by rw [← hdi]; exact fun e => single_spec hsg (by rw [hsz]; omega) hi1 hip hdp e)]
            exact h1
          · rw [hbel.block m (Array.getElem?_eq_some_iff.1 h3).1]
            exact h3
  refine wp_region_any hm ?_
  have hI0 : FInv l.toArray bs p d O a aF w (Array.replicate l.toArray.size false) a { w with drawn := w.drawn + 1 } := by
    refine ⟨⟨by simp, fun j oj _ hl => (by rw [getD_replicate_false] at hl; cases hl), fun t _ ht => getD_in (by simpa using ht) (getD_replicate_false _ _)⟩, rfl, rfl, ?_, fun _ _ => rfl, fun j t _ hl => (by rw [getD_replicate_false] at hl; cases hl), fun hl => (by rw [getD_replicate_false] at hl; cases hl)⟩
    exact (Below.refl w.heap.size w).drew
  have := key bs.length (Array.replicate l.toArray.size false) a { w with drawn := w.drawn + 1 } (by simp [List.count_replicate]) hI0
  rwa [show bs.length + (l.length - bs.length) = l.toArray.size by rw [hsz]; omega] at this
end Go.Flow
