/- A region that draws its order, in which one block is made and filled, each at no fixed time. Over any program. -/
import Derived.Test.YtpabaabkhmjdhaaDoorR5
namespace Go.Flow
open Go.RowKit Go.Sort
set_option linter.unusedVariables false
set_option linter.unusedSimpArgs false

/-! the same, the store into the block being one more operation at no fixed time -/
structure BInv (ops : Array Oper) (bs : List Bool) (p q : Nat) (d : Tmp) (O O2 : Obj) (a aF : Act) (w : World) (L : Array Bool) (a' : Act) (w' : World) : Prop where
  size : a'.tmps.size = a.tmps.size
  defers : a'.defers = a.defers
  below : Below w.heap.size w w'
  same : ∀ t, (∀ j, dst ops j ≠ some t) → a'.tmps.getD t undef = a.tmps.getD t undef
  vals : ∀ j t, bs[j]? = some false → L.getD j false = true → dst ops j = some t → a'.tmps.getD t undef = aF.tmps.getD t undef
  flt : L.getD p false = true → ∃ m, a'.tmps.getD d undef = .pointer (some ⟨m, 0, none⟩) ∧ w.heap.size ≤ m ∧ w'.heap[m]? = some (if L.getD q false then O2 else O)
  order : L.getD q false = true → L.getD p false = true

/-- does an operation wait for another one? -/
def waitsOn (ops : Array Oper) (q j : Nat) : Bool := match ops[q]? with
  | some o => o.after.toList.any fun e => Region.binds .any e && Nat.beq e.on j
  | none => false
theorem waitsOn_spec {ops : Array Oper} {q j : Nat} (h : waitsOn ops q j = true) {o : Oper} (ho : ops[q]? = some o) : ∃ e ∈ o.after.toList, Region.binds .any e = true ∧ e.on = j := by
  unfold waitsOn at h
  rw [ho] at h
  obtain ⟨e, he, h⟩ := List.any_eq_true.1 h
  simp only [Bool.and_eq_true] at h
  exact ⟨e, he, h.1, Nat.eq_of_beq_eq_true h.2⟩

/-- A region: a block is made, a value is stored into it, all else is quiet. -/
theorem wp_region_box {P : Program} {id : Nat} {Q : Exit → Act → World → Prop} {a : Act} {w : World} {l : List Oper} {aF : Act} (bs : List Bool) (p q : Nat) (d x : Tmp) (O O2 : Obj) (V : Value)
    (hm : P.follows .mixedOrders = true) (hsel : Region.noSelect l.toArray = true) (hb : back l.toArray = true) (hsg : single l.toArray = true) (hin : inside l.toArray a.tmps.size = true) (hfed : fed l.toArray bs = true)
    (hlen : bs.length = l.length)
    (hbs : ∀ i, i < bs.length → (bs[i]? = some true ↔ i = p ∨ i = q)) (hpq : p < q) (hq : q < bs.length)
    (hop : ∃ o, l.toArray[p]? = some o ∧ o.dst = some d ∧ o.guard = none ∧ ∀ (e : Operand → Value) (W : World), (execOp e o).run P W = .ok (.value (.pointer (some ⟨W.heap.size, 0, none⟩))) (W.alloc O))
    (jx : Nat) (hw1 : waitsOn l.toArray q p = true) (hw2 : waitsOn l.toArray q jx = true) (hjx1 : dst l.toArray jx = some x) (hjx2 : bs[jx]? = some false)
    (hoq : ∃ o, l.toArray[q]? = some o ∧ o.dst = none ∧ o.guard = none ∧
      ∀ (e : Operand → Value) (W : World) (m : Nat), W.heap[m]? = some O → e (.tmp d) = .pointer (some ⟨m, 0, none⟩) → e (.tmp x) = V → ∃ W', (execOp e o).run P W = .ok .skip W' ∧ W'.heap[m]? = some O2 ∧ ∀ B, B ≤ m → B ≤ W.heap.size → Below B W W')
    (hwalk : ∀ Z, Below w.heap.size w Z → wpQuiet P l.toArray (fun w' => ∃ q : Regrown, w' = grow (redrawn Z q.d) q.os) (fun a' => a' = aF) (strike bs l) a)
    (hV : aF.tmps.getD x undef = V)
    (hfin : ∀ Z m, Below w.heap.size w Z → w.heap.size ≤ m → Z.heap[m]? = some O2 → Q .normal (aF.put (some d) (.pointer (some ⟨m, 0, none⟩))) Z) :
    (Code.region id l.toArray true).wp P Q a w := by
  obtain ⟨op, hop1, hop2, hop3, hop4⟩ := hop
  obtain ⟨oq, hoq1, hoq2, hoq3, hoq4⟩ := hoq
  obtain ⟨ep, hep1, hep2, hep3⟩ := waitsOn_spec hw1 hoq1
  obtain ⟨ex, hex1, hex2, hex3⟩ := waitsOn_spec hw2 hoq1
  have hsz : l.toArray.size = l.length := by simp
  have hp : p < bs.length := by omega
  have hdp : dst l.toArray p = some d := by simp [dst, hop1, hop2]
  have hdq : dst l.toArray q = none := by simp [dst, hoq1, hoq2]
  have hframes := fun Z hZ => strike_frames hsg bs l 0 a (fun j => by simp) (by omega) (fun i d' hd' => inside_spec hin hd') (hwalk Z hZ)
  have hdF : ∀ j, bs[j]? = some false → j < bs.length := fun j hj => (List.getElem?_eq_some_iff.1 hj).1
  have hbf : ∀ j, j < bs.length → j ≠ p → j ≠ q → bs[j]? = some false := fun j hj hne hnq => by
    have h1 := hbs j hj
    rw [List.getElem?_eq_getElem hj] at h1 ⊢
    cases hv : bs[j]
    · rfl
    · rw [hv] at h1
      rcases h1.1 rfl with h | h
      · exact absurd h hne
      · exact absurd h hnq
  have hdlt : d < a.tmps.size := inside_spec hin hdp
  have hjp : ∀ j t, dst l.toArray j = some t → t ≠ d → j ≠ p := fun j t hj ht e => by subst e; rw [hdp] at hj; exact ht (Option.some.inj hj).symm
  have hjl : ∀ j t, dst l.toArray j = some t → j < bs.length := fun j t hj => by
    rcases Nat.lt_or_ge j l.toArray.size with h2 | h2
    · omega
    · simp [dst, Array.getElem?_eq_none h2] at hj
  have hdsingle : ∀ j, bs[j]? = some false → dst l.toArray j ≠ some d := fun j hj => by
    have hne : j ≠ p := fun e => by subst e; rw [(hbs j hp).2 (.inl rfl)] at hj; simp at hj
    exact single_spec hsg (by omega) (by have := hdF j hj; omega) hne hdp
  refine wp_region_any hm ?_
  refine wpAny_inv (BInv l.toArray bs p q d O O2 a aF w) hb ?_ ?_ l.toArray.size _ a _ (by simp) (by simp [List.count_replicate]) ?_
  · intro L a' w' hL hI i o ho hf hpre
    have hi : i < l.toArray.size := (Array.getElem?_eq_some_iff.1 ho).1
    have hilt : i < bs.length := by omega
    have hiL : i < L.size := by omega
    have hLi : (L.setIfInBounds i true).getD i false = true := getD_set_self _ _ _ _ hiL
    by_cases hip : i = p
    · subst hip
      obtain rfl : op = o := Option.some.inj (hop1.symm.trans ho)
      have hqL : L.getD q false = false := by
        cases h : L.getD q false
        · rfl
        · have := hI.order h
          simp only [Array.getD_eq_getD_getElem?, Array.getElem?_eq_getElem hiL, Option.getD_some] at hf this
          rw [hf] at this
          cases this
      unfold wpOp
      rw [hop1]
      simp only [Region.wanted, hop3, if_true]
      refine .inl ?_
      unfold Oper.wp
      rw [hop4]
      simp only [Oper.upon]
      refine ⟨by rw [put_size]; exact hI.size, by rw [put_defers]; exact hI.defers, hI.below.alloc hI.below.size _, fun t ht => ?_, fun j t hj hLj hjt => ?_, fun _ => ?_, fun _ => hLi⟩
      · rw [hop2, put_getD_ne _ _ _ _ (by rw [← hdp]; exact ht i)]
        exact hI.same t ht
      · have hji : j ≠ i := fun e => by subst e; rw [(hbs j hilt).2 (.inl rfl)] at hj; simp at hj
        rw [hop2, put_getD_ne _ _ _ _ (by rw [← hjt]; exact fun e => hdsingle j hj e.symm)]
        rw [getD_set_ne _ _ _ _ _ hji] at hLj
        exact hI.vals j t hj hLj hjt
      · refine ⟨w'.heap.size, ?_, hI.below.size, ?_⟩
        · rw [hop2]
          exact put_getD_self _ _ _ (by rw [hI.size]; exact hdlt)
        · rw [getD_set_ne _ _ _ _ _ (by omega), hqL]
          simp [World.alloc, -World.alloc_eq]
    · by_cases hiq : i = q
      · subst hiq
        obtain rfl : oq = o := Option.some.inj (hoq1.symm.trans ho)
        have hpL : L.getD p false = true := by rw [← hep3]; exact hpre _ hep1 hep2
        have hxL : L.getD jx false = true := by rw [← hex3]; exact hpre _ hex1 hex2
        obtain ⟨m, h1, h2, h3⟩ := hI.flt hpL
        have hqL : L.getD i false = false := by
          simp only [Array.getD_eq_getD_getElem?, Array.getElem?_eq_getElem hiL, Option.getD_some] at hf ⊢
          exact hf
        rw [hqL] at h3
        simp only [Bool.false_eq_true, if_false] at h3
        have ev : ∀ t, a'.eval (.tmp t) = a'.tmps.getD t undef := fun t => by simp [Act.eval, Array.getD_eq_getD_getElem?]
        obtain ⟨W', g1, g2, g3⟩ := hoq4 a'.eval w' m h3 (by rw [ev, h1]) (by rw [ev, hI.vals jx x hjx2 hxL hjx1, hV])
        unfold wpOp
        rw [hoq1]
        simp only [Region.wanted, hoq3, if_true]
        refine .inl ?_
        unfold Oper.wp
        rw [g1]
        simp only [Oper.upon, hoq2]
        refine ⟨hI.size, hI.defers, hI.below.trans (g3 _ h2 hI.below.size), hI.same, fun j t hj hLj hjt => ?_, fun _ => ⟨m, h1, h2, ?_⟩, fun _ => ?_⟩
        · have hji : j ≠ i := fun e => by subst e; rw [hdq] at hjt; cases hjt
          rw [getD_set_ne _ _ _ _ _ hji] at hLj
          exact hI.vals j t hj hLj hjt
        · rw [hLi]; exact g2
        · rw [getD_set_ne _ _ _ _ _ (by omega)]; exact hpL
      · have hbi := hbf i hilt hip hiq
        have hol : l[i]? = some o := by simpa using ho
        obtain ⟨_, hF3, hF4⟩ := hframes w' hI.below
        obtain ⟨v, b, g1, g2, g3, g4⟩ := hF4 i _ hbi hol
        simp only [Nat.zero_add] at g4
        have hselo := Region.noSelect_spec hsel
        have hlook : ∀ t ∈ o.looksAt l.toArray, a'.tmps.getD t undef = b.tmps.getD t undef := fun t ht => by
          by_cases hw : ∃ j, dst l.toArray j = some t
          · obtain ⟨j, hjt⟩ := hw
            obtain ⟨h1, h2, e, he, hbe, hon⟩ := fed_spec hfed hbi ho ht hjt
            rw [(g4 t).1 ⟨j, h1, h2, hjt⟩]
            exact hI.vals j t h2 (by rw [← hon]; exact hpre e he hbe) hjt
          · rw [(g4 t).2 fun j hj hbj e => hw ⟨j, e⟩]
            exact hI.same t fun j e => hw ⟨j, e⟩
        obtain ⟨ev, wn⟩ := eval_of_looks (ops := l.toArray) (o := o) (hselo i _ · · ho) (by rw [hI.size, g3]) hlook
        have hy := g1.of_same ev wn
        have hdi : dst l.toArray i = o.dst := by simp [dst, ho]
        refine wpOp_of_qOp (C := fun z => ∃ q : Regrown, z = grow (redrawn w' q.d) q.os) (K := fun a'' => a'' = a'.put o.dst v) ⟨⟨w'.drawn, #[]⟩, by rw [grow_empty]; rfl⟩ ?_ (hy.qOp ho rfl)
        rintro a'' w'' ⟨q', rfl⟩ rfl
        have hbel := below_regrown w' q'.d q'.os
        have hLp : (L.setIfInBounds i true).getD p false = L.getD p false := getD_set_ne _ _ _ _ _ (Ne.symm hip)
        have hLq : (L.setIfInBounds i true).getD q false = L.getD q false := getD_set_ne _ _ _ _ _ (Ne.symm hiq)
        refine ⟨by rw [put_size]; exact hI.size, by rw [put_defers]; exact hI.defers, hI.below.trans (hbel.mono hI.below.size), fun t ht => ?_, fun j t hj hLj hjt => ?_, fun h => ?_, by rw [hLp, hLq]; exact hI.order⟩
        · rw [put_getD_ne _ _ _ _ (by rw [← hdi]; exact ht i)]
          exact hI.same t ht
        · by_cases hji : j = i
          · subst hji
            rw [hdi] at hjt
            rw [hjt, put_getD_self _ _ _ (by rw [hI.size]; exact inside_spec hin (i := j) (by rw [hdi, hjt])), g2 t hjt]
          · rw [getD_set_ne _ _ _ _ _ hji] at hLj
            have hjs : j < l.toArray.size := by rw [hsz]; have := hdF j hj; omega
            rw [put_getD_ne _ _ _ _ (by rw [← hdi]; exact fun e => single_spec hsg hi hjs hji e hjt)]
            exact hI.vals j t hj hLj hjt
        · rw [hLp] at h
          rw [hLq]
          obtain ⟨m, h1, h2, h3⟩ := hI.flt h
          refine ⟨m, ?_, h2, ?_⟩
          · rw [put_getD_ne _ _ _ _ (by rw [← hdi]; exact hdsingle i hbi)]
            exact h1
          · rw [hbel.block m (Array.getElem?_eq_some_iff.1 h3).1]
            exact h3
  · intro L a' w' hL hall hI
    obtain ⟨m, hm1, hm2, hm3⟩ := hI.flt (hall p (by omega))
    rw [hall q (by omega)] at hm3
    simp only [if_true] at hm3
    obtain ⟨⟨hF1, hF2⟩, hF3, _⟩ := hframes w (Below.refl _ _)
    have ha' : a' = aF.put (some d) (.pointer (some ⟨m, 0, none⟩)) := by
      have e1 : a'.tmps = (aF.put (some d) (.pointer (some ⟨m, 0, none⟩))).tmps := by
        apply Array.ext
        · rw [put_size, hF1, hI.size]
        · intro t h1 h2
          have g : a'.tmps.getD t undef = (aF.put (some d) (.pointer (some ⟨m, 0, none⟩))).tmps.getD t undef := by
            by_cases htd : t = d
            · subst htd
              rw [hm1, put_getD_self _ _ _ (by rw [hF1]; exact hdlt)]
            · rw [put_getD_ne _ _ _ _ (fun e => htd (Option.some.inj e).symm)]
              by_cases hw : ∃ j, dst l.toArray j = some t
              · obtain ⟨j, hjt⟩ := hw
                have hjq : j ≠ q := fun e => by subst e; rw [hdq] at hjt; cases hjt
                exact hI.vals j t (hbf j (hjl j t hjt) (hjp j t hjt htd) hjq) (hall j (by have := hjl j t hjt; omega)) hjt
              · rw [hI.same t fun j e => hw ⟨j, e⟩, hF3 t fun j hj => by rw [Nat.zero_add]; exact fun e => hw ⟨j, e⟩]
          simpa [Array.getD_eq_getD_getElem?, h1, h2] using g
      have e2 : a'.defers = (aF.put (some d) (.pointer (some ⟨m, 0, none⟩))).defers := by rw [put_defers, hF2, hI.defers]
      obtain ⟨x, y⟩ := a'
      generalize aF.put (some d) (.pointer (some ⟨m, 0, none⟩)) = b at *
      obtain ⟨x', y'⟩ := b
      simp only at e1 e2
      rw [e1, e2]
    rw [ha']
    exact hfin w' m hI.below hm2 hm3
  · refine ⟨rfl, rfl, (Below.refl w.heap.size w).drew, fun _ _ => rfl, fun j t _ hl => (by rw [getD_replicate_false] at hl; cases hl), fun hl => (by rw [getD_replicate_false] at hl; cases hl), fun hl => (by rw [getD_replicate_false] at hl; cases hl)⟩
end Go.Flow
