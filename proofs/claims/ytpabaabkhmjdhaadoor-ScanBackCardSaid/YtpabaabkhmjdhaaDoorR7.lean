/- A region that draws its order, in which one store goes into a block that the call has made before; all else is quiet. Over any program. -/
import Derived.Test.YtpabaabkhmjdhaaDoorR6
namespace Go.Flow
open Go.RowKit Go.Sort
set_option linter.unusedVariables false
set_option linter.unusedSimpArgs false

/-- each slot that an operation looks at is written by nobody, or by one that it waits for, or by one that waits for it -/
def fed2 (ops : Array Oper) (bs : List Bool) : Bool :=
  (List.range bs.length).all fun i => bs[i]? != some false || match ops[i]? with
  | some o => (o.looksAt ops).all fun t => (List.range ops.size).all fun j => dst ops j != some t || (Nat.blt j i && (bs[j]? == some false) && waitsOn ops i j) || (Nat.blt i j && waitsOn ops j i)
  | none => true

theorem fed2_spec {ops : Array Oper} {bs : List Bool} (h : fed2 ops bs = true) {i : Nat} {o : Oper} (hi : bs[i]? = some false) (ho : ops[i]? = some o) {t j : Nat} (ht : t ∈ o.looksAt ops) (hj : dst ops j = some t) :
    (j < i ∧ bs[j]? = some false ∧ waitsOn ops i j = true) ∨ (i < j ∧ waitsOn ops j i = true) := by
  have h1 := List.all_eq_true.1 h i (List.mem_range.2 (List.getElem?_eq_some_iff.1 hi).1)
  rw [ho, hi] at h1
  simp only [bne_self_eq_false, Bool.false_or] at h1
  have hjs : j < ops.size := by
    rcases Nat.lt_or_ge j ops.size with h2 | h2
    · exact h2
    · simp [dst, Array.getElem?_eq_none h2] at hj
  have h2 := List.all_eq_true.1 (List.all_eq_true.1 h1 t ht) j (List.mem_range.2 hjs)
  rw [hj] at h2
  simp only [bne_self_eq_false, Bool.false_or, Bool.or_eq_true, Bool.and_eq_true, Nat.blt_eq, beq_iff_eq] at h2
  rcases h2 with ⟨⟨h3, h4⟩, h5⟩ | ⟨h3, h4⟩
  · exact .inl ⟨h3, h4, h5⟩
  · exact .inr ⟨h3, h4⟩

structure SInv (ops : Array Oper) (bs : List Bool) (q m0 B : Nat) (O O2 : Obj) (a aF : Act) (w : World) (L : Array Bool) (a' : Act) (w' : World) : Prop where
  size : a'.tmps.size = a.tmps.size
  defers : a'.defers = a.defers
  below : Below B w w'
  same : ∀ t, (∀ j, L.getD j false = true → dst ops j ≠ some t) → a'.tmps.getD t undef = a.tmps.getD t undef
  closed : ∀ j o, ops[j]? = some o → L.getD j false = true → ∀ e ∈ o.after.toList, Region.binds .any e = true → L.getD e.on false = true
  vals : ∀ j t, bs[j]? = some false → L.getD j false = true → dst ops j = some t → a'.tmps.getD t undef = aF.tmps.getD t undef
  blk : w'.heap[m0]? = some (if L.getD q false then O2 else O)

def unwritten (ops : Array Oper) (d : Tmp) : Bool := (List.range ops.size).all fun j => dst ops j != some d
theorem unwritten_spec {ops : Array Oper} {d : Tmp} (h : unwritten ops d = true) (j : Nat) : dst ops j ≠ some d := by
  rcases Nat.lt_or_ge j ops.size with h2 | h2
  · have := List.all_eq_true.1 h j (List.mem_range.2 h2)
    simpa using this
  · simp [dst, Array.getElem?_eq_none h2]

/-- A region: one store into a block of the call's own, all else is quiet. -/
theorem wp_region_store {P : Program} {id : Nat} {Q : Exit → Act → World → Prop} {a : Act} {w : World} {l : List Oper} {aF : Act} (bs : List Bool) (q : Nat) (d x : Tmp) (m0 B : Nat) (O O2 : Obj) (V : Value)
    (hm : P.follows .mixedOrders = true) (hsel : Region.noSelect l.toArray = true) (hb : back l.toArray = true) (hsg : single l.toArray = true) (hin : inside l.toArray a.tmps.size = true) (hfed : fed2 l.toArray bs = true)
    (hlen : bs.length = l.length)
    (hbs : ∀ i, i < bs.length → (bs[i]? = some true ↔ i = q)) (hq : q < bs.length)
    (jx : Nat) (hw2 : waitsOn l.toArray q jx = true) (hjx1 : dst l.toArray jx = some x) (hjx2 : bs[jx]? = some false)
    (hun : unwritten l.toArray d = true) (had : a.tmps.getD d undef = .pointer (some ⟨m0, 0, none⟩))
    (hoq : ∃ o, l.toArray[q]? = some o ∧ o.dst = none ∧ o.guard = none ∧
      ∀ (e : Operand → Value) (W : World) (m : Nat), W.heap[m]? = some O → e (.tmp d) = .pointer (some ⟨m, 0, none⟩) → e (.tmp x) = V → ∃ W', (execOp e o).run P W = .ok .skip W' ∧ W'.heap[m]? = some O2 ∧ ∀ B, B ≤ m → B ≤ W.heap.size → Below B W W')
    (hO : w.heap[m0]? = some O) (hBm : B ≤ m0)
    (hwalk : ∀ Z, Below B w Z → wpQuiet P l.toArray (fun w' => ∃ q : Regrown, w' = grow (redrawn Z q.d) q.os) (fun a' => a' = aF) (strike bs l) a)
    (hV : aF.tmps.getD x undef = V)
    (hfin : ∀ Z, Below B w Z → Z.heap[m0]? = some O2 → Q .normal aF Z) :
    (Code.region id l.toArray true).wp P Q a w := by
  obtain ⟨oq, hoq1, hoq2, hoq3, hoq4⟩ := hoq
  obtain ⟨ex, hex1, hex2, hex3⟩ := waitsOn_spec hw2 hoq1
  have hm0 : m0 < w.heap.size := (Array.getElem?_eq_some_iff.1 hO).1
  have hBw : B ≤ w.heap.size := by omega
  have hsz : l.toArray.size = l.length := by simp
  have hdq : dst l.toArray q = none := by simp [dst, hoq1, hoq2]
  have hframes := fun Z hZ => strike_frames hsg bs l 0 a (fun j => by simp) (by omega) (fun i d' hd' => inside_spec hin hd') (hwalk Z hZ)
  have hdF : ∀ j, bs[j]? = some false → j < bs.length := fun j hj => (List.getElem?_eq_some_iff.1 hj).1
  have hbf : ∀ j, j < bs.length → j ≠ q → bs[j]? = some false := fun j hj hnq => by
    have h1 := hbs j hj
    rw [List.getElem?_eq_getElem hj] at h1 ⊢
    cases hv : bs[j]
    · rfl
    · rw [hv] at h1
      exact absurd (h1.1 rfl) hnq
  have hjl : ∀ j t, dst l.toArray j = some t → j < bs.length := fun j t hj => by
    rcases Nat.lt_or_ge j l.toArray.size with h2 | h2
    · omega
    · simp [dst, Array.getElem?_eq_none h2] at hj
  refine wp_region_any hm ?_
  refine wpAny_inv (SInv l.toArray bs q m0 B O O2 a aF w) hb ?_ ?_ l.toArray.size _ a _ (by simp) (by simp [List.count_replicate]) ?_
  · intro L a' w' hL hI i o ho hf hpre
    have hi : i < l.toArray.size := (Array.getElem?_eq_some_iff.1 ho).1
    have hilt : i < bs.length := by omega
    have hiL : i < L.size := by omega
    have hLi : (L.setIfInBounds i true).getD i false = true := getD_set_self _ _ _ _ hiL
    have hm0' : m0 < w'.heap.size := (Array.getElem?_eq_some_iff.1 hI.blk).1
    have hfi : L.getD i false = false := by
      simp only [Array.getD_eq_getD_getElem?, Array.getElem?_eq_getElem hiL, Option.getD_some] at hf ⊢
      exact hf
    have hLmono : ∀ j, L.getD j false = true → (L.setIfInBounds i true).getD j false = true := fun j hj => by
      by_cases hji : j = i
      · subst hji; exact hLi
      · rw [getD_set_ne _ _ _ _ _ hji]; exact hj
    have hclosed : ∀ j o', l.toArray[j]? = some o' → (L.setIfInBounds i true).getD j false = true → ∀ e ∈ o'.after.toList, Region.binds .any e = true → (L.setIfInBounds i true).getD e.on false = true := fun j o' ho' hj e he hbe => by
      by_cases hji : j = i
      · subst hji
        obtain rfl : o = o' := Option.some.inj (ho.symm.trans ho')
        exact hLmono _ (hpre e he hbe)
      · rw [getD_set_ne _ _ _ _ _ hji] at hj
        exact hLmono _ (hI.closed j o' ho' hj e he hbe)
    by_cases hiq : i = q
    · subst hiq
      obtain rfl : oq = o := Option.some.inj (hoq1.symm.trans ho)
      have hxL : L.getD jx false = true := by rw [← hex3]; exact hpre _ hex1 hex2
      have hqL : L.getD i false = false := by
        simp only [Array.getD_eq_getD_getElem?, Array.getElem?_eq_getElem hiL, Option.getD_some] at hf ⊢
        exact hf
      have h3 := hI.blk
      rw [hqL] at h3
      simp only [Bool.false_eq_true, if_false] at h3
      have ev : ∀ t, a'.eval (.tmp t) = a'.tmps.getD t undef := fun t => by simp [Act.eval, Array.getD_eq_getD_getElem?]
      obtain ⟨W', g1, g2, g3⟩ := hoq4 a'.eval w' m0 h3 (by rw [ev, hI.same d (fun j _ => unwritten_spec hun j), had]) (by rw [ev, hI.vals jx x hjx2 hxL hjx1, hV])
      unfold wpOp
      rw [hoq1]
      simp only [Region.wanted, hoq3, if_true]
      refine .inl ?_
      unfold Oper.wp
      rw [g1]
      simp only [Oper.upon, hoq2]
      refine ⟨hI.size, hI.defers, hI.below.trans (g3 _ hBm (by omega)), fun t ht => hI.same t fun j hj => ht j (hLmono j hj), hclosed, fun j t hj hLj hjt => ?_, ?_⟩
      · have hji : j ≠ i := fun e => by subst e; rw [hdq] at hjt; cases hjt
        rw [getD_set_ne _ _ _ _ _ hji] at hLj
        exact hI.vals j t hj hLj hjt
      · rw [hLi]; exact g2
    · have hbi := hbf i hilt hiq
      have hol : l[i]? = some o := by simpa using ho
      obtain ⟨_, hF3, hF4⟩ := hframes w' hI.below
      obtain ⟨v, b, g1, g2, g3, g4⟩ := hF4 i _ hbi hol
      simp only [Nat.zero_add] at g4
      have hselo := Region.noSelect_spec hsel
      have hlook : ∀ t ∈ o.looksAt l.toArray, a'.tmps.getD t undef = b.tmps.getD t undef := fun t ht => by
        by_cases hw : ∃ j, dst l.toArray j = some t
        · obtain ⟨j, hjt⟩ := hw
          rcases fed2_spec hfed hbi ho ht hjt with ⟨h1, h2, h3⟩ | ⟨h1, h3⟩
          · obtain ⟨e, he, hbe, hon⟩ := waitsOn_spec h3 ho
            rw [(g4 t).1 ⟨j, h1, h2, hjt⟩]
            exact hI.vals j t h2 (by rw [← hon]; exact hpre e he hbe) hjt
          · have hjs : j < l.toArray.size := by have := hjl j t hjt; omega
            have huniq : ∀ j', dst l.toArray j' = some t → j' = j := fun j' hj' => by
              by_cases e : j' = j
              · exact e
              · exact absurd hj' (single_spec hsg hjs (by have := hjl j' t hj'; omega) e hjt)
            rw [(g4 t).2 fun j' hj' hbj e => by have := huniq j' e; omega]
            refine hI.same t fun j' hj' e => ?_
            obtain rfl := huniq j' e
            obtain ⟨e, he, hbe, hon⟩ := waitsOn_spec h3 (Array.getElem?_eq_getElem hjs)
            have := hI.closed j' _ (Array.getElem?_eq_getElem hjs) hj' e he hbe
            rw [hon, hfi] at this
            cases this
        · rw [(g4 t).2 fun j hj hbj e => hw ⟨j, e⟩]
          exact hI.same t fun j _ e => hw ⟨j, e⟩
      obtain ⟨ev, wn⟩ := eval_of_looks (ops := l.toArray) (o := o) (hselo i _ · · ho) (by rw [hI.size, g3]) hlook
      have hy := g1.of_same ev wn
      have hdi : dst l.toArray i = o.dst := by simp [dst, ho]
      refine wpOp_of_qOp (C := fun z => ∃ q : Regrown, z = grow (redrawn w' q.d) q.os) (K := fun a'' => a'' = a'.put o.dst v) ⟨⟨w'.drawn, #[]⟩, by rw [grow_empty]; rfl⟩ ?_ (hy.qOp ho rfl)
      rintro a'' w'' ⟨q', rfl⟩ rfl
      have hbel := below_regrown w' q'.d q'.os
      have hLq : (L.setIfInBounds i true).getD q false = L.getD q false := getD_set_ne _ _ _ _ _ (Ne.symm hiq)
      refine ⟨by rw [put_size]; exact hI.size, by rw [put_defers]; exact hI.defers, hI.below.trans (hbel.mono (by omega)), fun t ht => ?_, hclosed, fun j t hj hLj hjt => ?_, ?_⟩
      · rw [put_getD_ne _ _ _ _ (by rw [← hdi]; exact ht i hLi)]
        exact hI.same t fun j hj => ht j (hLmono j hj)
      · by_cases hji : j = i
        · subst hji
          rw [hdi] at hjt
          rw [hjt, put_getD_self _ _ _ (by rw [hI.size]; exact inside_spec hin (i := j) (by rw [hdi, hjt])), g2 t hjt]
        · rw [getD_set_ne _ _ _ _ _ hji] at hLj
          have hjs : j < l.toArray.size := by rw [hsz]; have := hdF j hj; omega
          rw [put_getD_ne _ _ _ _ (by rw [← hdi]; exact fun e => single_spec hsg hi hjs hji e hjt)]
          exact hI.vals j t hj hLj hjt
      · rw [hLq, hbel.block m0 hm0']
        exact hI.blk
  · intro L a' w' hL hall hI
    have hm3 := hI.blk
    rw [hall q (by omega)] at hm3
    simp only [if_true] at hm3
    obtain ⟨⟨hF1, hF2⟩, hF3, _⟩ := hframes w (Below.refl _ _)
    have ha' : a' = aF := by
      have e1 : a'.tmps = aF.tmps := by
        apply Array.ext
        · rw [hF1, hI.size]
        · intro t h1 h2
          have g : a'.tmps.getD t undef = aF.tmps.getD t undef := by
            by_cases hw : ∃ j, dst l.toArray j = some t
            · obtain ⟨j, hjt⟩ := hw
              have hjq : j ≠ q := fun e => by subst e; rw [hdq] at hjt; cases hjt
              exact hI.vals j t (hbf j (hjl j t hjt) hjq) (hall j (by have := hjl j t hjt; omega)) hjt
            · rw [hI.same t fun j _ e => hw ⟨j, e⟩, hF3 t fun j hj => by rw [Nat.zero_add]; exact fun e => hw ⟨j, e⟩]
          simpa [Array.getD_eq_getD_getElem?, h1, h2] using g
      have e2 : a'.defers = aF.defers := by rw [hF2, hI.defers]
      obtain ⟨x, y⟩ := a'
      obtain ⟨x', y'⟩ := aF
      simp only at e1 e2
      rw [e1, e2]
    rw [ha']
    exact hfin w' hI.below hm3
  · refine ⟨rfl, rfl, (Below.refl B w).drew, fun _ _ => rfl, fun j o _ hl => (by rw [getD_replicate_false] at hl; cases hl), fun j t _ hl => (by rw [getD_replicate_false] at hl; cases hl), ?_⟩
    rw [getD_replicate_false]
    exact hO
end Go.Flow
