/- A region that draws its order, by an invariant: each operation is looked at once, whatever else is done already. Over any program. -/
import Derived.WalkKit
import Derived.Orders
namespace Go.Flow
open Go.RowKit
set_option linter.unusedVariables false
set_option linter.unusedSimpArgs false

variable {P : Program} {ops : Array Oper} {Q : Exit → Act → World → Prop}

theorem mem_ready {md : Region.Mode} {L : Array Bool} {i : Nat} (h : i ∈ Region.ready md ops L) :
    i < ops.size ∧ L.getD i true = false ∧ ∀ o, ops[i]? = some o → ∀ e ∈ o.after.toList, Region.binds md e = true → L.getD e.on false = true := by
  simp only [Region.ready, List.mem_filter, List.mem_range, Bool.and_eq_true, Bool.not_eq_true'] at h
  obtain ⟨h1, h2, h3⟩ := h
  refine ⟨h1, h2, fun o ho e he hb => ?_⟩
  rw [ho] at h3
  simp only [Option.map_some, Option.getD_some, Array.all_eq_true'] at h3
  have := h3 e (Array.mem_toList_iff.1 he)
  simp only [hb, Bool.not_true, Bool.false_or] at this
  exact this

/-- each edge leads back -/
def back (ops : Array Oper) : Bool := (List.range ops.size).all fun i => match ops[i]? with
  | some o => o.after.toList.all fun e => !Region.binds .any e || decide (e.on < i)
  | none => true

theorem ready_some (hb : back ops = true) {L : Array Bool} (hn : ∃ i, i < ops.size ∧ L.getD i true = false) (hL : L.size = ops.size) : Region.ready .any ops L ≠ [] := by
  obtain ⟨i, hi, hf⟩ := hn
  induction i using Nat.strongRecOn with
  | _ i ih =>
    by_cases hall : ∀ o, ops[i]? = some o → ∀ e ∈ o.after.toList, Region.binds .any e = true → L.getD e.on false = true
    · intro h
      have : i ∈ Region.ready .any ops L := by
        simp only [Region.ready, List.mem_filter, List.mem_range, Bool.and_eq_true, Bool.not_eq_true']
        refine ⟨hi, hf, ?_⟩
        have ho : ops[i]? = some ops[i] := Array.getElem?_eq_getElem hi
        rw [ho]
        simp only [Option.map_some, Option.getD_some, Array.all_eq_true']
        intro e he
        cases hbe : Region.binds .any e
        · simp
        · rw [hall _ ho e (Array.mem_toList_iff.2 he) hbe]
          simp
      rw [h] at this
      simp at this
    · simp only [Classical.not_forall] at hall
      obtain ⟨o, ho, e, he, hbe, hne⟩ := hall
      have hlt : e.on < i := by
        have h1 := List.all_eq_true.1 hb i (List.mem_range.2 hi)
        rw [ho] at h1
        have h2 := List.all_eq_true.1 h1 e he
        rw [hbe] at h2
        exact of_decide_eq_true (by simpa using h2)
      refine ih e.on hlt (by omega) ?_
      have hs : e.on < L.size := by omega
      simp only [Array.getD_eq_getD_getElem?, Array.getElem?_eq_getElem hs, Option.getD_some] at hne ⊢
      simpa using hne

theorem count_set {L : Array Bool} {i : Nat} (hi : i < L.size) (hf : L.getD i true = false) : (L.setIfInBounds i true).toList.count true = L.toList.count true + 1 := by
  have hi' : i < L.toList.length := by simpa using hi
  have h0 : L.toList[i] = false := by
    simp only [Array.getD_eq_getD_getElem?, Array.getElem?_eq_getElem hi, Option.getD_some] at hf
    simpa using hf
  rw [Array.toList_setIfInBounds, List.count_set hi', h0]
  simp

theorem all_of_count {L : List Bool} (h : L.count true = L.length) : ∀ x ∈ L, x = true := by
  intro x hx
  have := (List.count_eq_length.1 h) x hx
  exact this.symm

/-- THE RULE: an invariant over what has been done. -/
theorem wpAny_inv (I : Array Bool → Act → World → Prop) (hb : back ops = true)
    (step : ∀ L a w, L.size = ops.size → I L a w → ∀ i o, ops[i]? = some o → L.getD i true = false → (∀ e ∈ o.after.toList, Region.binds .any e = true → L.getD e.on false = true) →
      wpOp P ops Q i (I (L.setIfInBounds i true)) a w)
    (fin : ∀ L a w, L.size = ops.size → (∀ i, i < ops.size → L.getD i false = true) → I L a w → Q .normal a w) :
    ∀ fuel (L : Array Bool) a w, L.size = ops.size → L.toList.count true + fuel = ops.size → I L a w → wpAny P .any ops Q fuel L a w := by
  have done : ∀ (L : Array Bool) a w, L.size = ops.size → I L a w → Region.ready .any ops L = [] → Q .normal a w := fun L a w hL hI hr => by
    refine fin L a w hL (fun i hi => ?_) hI
    cases hc : L.getD i true
    · exact absurd hr (ready_some hb ⟨i, hi, hc⟩ hL)
    · have hs : i < L.size := by omega
      simp only [Array.getD_eq_getD_getElem?, Array.getElem?_eq_getElem hs, Option.getD_some] at hc ⊢
      exact hc
  intro fuel
  induction fuel with
  | zero =>
    intro L a w hL hc hI
    have hall : ∀ x ∈ L.toList, x = true := all_of_count (by rw [Array.length_toList]; omega)
    have hr : Region.ready .any ops L = [] := by
      cases h : Region.ready .any ops L with
      | nil => rfl
      | cons i l =>
        have := mem_ready (md := .any) (ops := ops) (L := L) (i := i) (by rw [h]; simp)
        obtain ⟨h1, h2, _⟩ := this
        have hs : i < L.size := by omega
        simp only [Array.getD_eq_getD_getElem?, Array.getElem?_eq_getElem hs, Option.getD_some] at h2
        have := hall L[i] (by simp)
        rw [h2] at this
        cases this
    exact ⟨hr, done L a w hL hI hr⟩
  | succ fuel ih =>
    intro L a w hL hc hI
    refine ⟨done L a w hL hI, fun i hi => ?_⟩
    obtain ⟨h1, h2, h3⟩ := mem_ready hi
    have ho : ops[i]? = some ops[i] := Array.getElem?_eq_getElem h1
    refine wpOp_mono (fun a' w' hI' => ih _ a' w' (by simpa using hL) ?_ hI') (step L a w hL hI i _ ho h2 (h3 _ ho))
    rw [count_set (by omega) h2]
    omega

/-- where each operation's value lies -/
def dst (ops : Array Oper) (i : Nat) : Option Tmp := (ops[i]?).bind (·.dst)

/-- no two operations write one slot -/
def single (ops : Array Oper) : Bool := (List.range ops.size).all fun i => (List.range ops.size).all fun j => i == j || dst ops i == none || dst ops i != dst ops j

theorem single_spec (h : single ops = true) {i j d : Nat} (hi : i < ops.size) (hj : j < ops.size) (hij : j ≠ i) (hd : dst ops i = some d) : dst ops j ≠ some d := by
  have := List.all_eq_true.1 (List.all_eq_true.1 h i (List.mem_range.2 hi)) j (List.mem_range.2 hj)
  rw [hd] at this
  simp only [Bool.or_eq_true, beq_iff_eq, bne_iff_ne, reduceCtorEq, or_false] at this
  rcases this with h | h
  · exact absurd h.symm hij
  · exact fun e => h e.symm

/-- all slots lie within the frame -/
def inside (ops : Array Oper) (n : Nat) : Bool := (List.range ops.size).all fun i => match dst ops i with
  | some d => decide (d < n)
  | none => true

theorem inside_spec {n : Nat} (h : inside ops n = true) {i d : Nat} (hd : dst ops i = some d) : d < n := by
  have hi : i < ops.size := by
    rcases Nat.lt_or_ge i ops.size with h1 | h1
    · exact h1
    · simp [dst, Array.getElem?_eq_none h1] at hd
  have h2 := List.all_eq_true.1 h i (List.mem_range.2 hi)
  rw [hd] at h2
  exact of_decide_eq_true h2

/-- what is known when the operations of L have been done: of the world 'R L', of operation j's value 'φ L j'. -/
structure Inv (ops : Array Oper) (a0 : Act) (R : Array Bool → World → Prop) (φ : Array Bool → Nat → Value → World → Prop) (L : Array Bool) (a : Act) (w : World) : Prop where
  defers : a.defers = a0.defers
  size : a.tmps.size = a0.tmps.size
  same : ∀ t, (∀ j, j < ops.size → dst ops j ≠ some t) → a.tmps.getD t undef = a0.tmps.getD t undef
  world : R L w
  vals : ∀ j d, j < ops.size → dst ops j = some d → L.getD j false = true → φ L j (a.tmps.getD d undef) w

theorem getD_set_ne {α : Type} (x : Array α) (i j : Nat) (v z : α) (h : j ≠ i) : (x.setIfInBounds i v).getD j z = x.getD j z := by
  simp [Array.getD_eq_getD_getElem?, Array.getElem?_setIfInBounds, h.symm]

theorem getD_set_self {α : Type} (x : Array α) (i : Nat) (v z : α) (h : i < x.size) : (x.setIfInBounds i v).getD i z = v := by
  simp [Array.getD_eq_getD_getElem?, h]

/-- THE RULE for a region in which each slot is written once. -/
theorem wp_region_flow {id : Nat} {a0 : Act} {w0 : World} (hm : P.follows .mixedOrders = true) (hb : back ops = true) (hs : single ops = true)
    (hd : inside ops a0.tmps.size = true)
    (R : Array Bool → World → Prop) (φ : Array Bool → Nat → Value → World → Prop)
    (h0 : R (Array.replicate ops.size false) w0.drew)
    (step : ∀ L a w, L.size = ops.size → Inv ops a0 R φ L a w → ∀ i o, ops[i]? = some o → L.getD i true = false → (∀ e ∈ o.after.toList, Region.binds .any e = true → L.getD e.on false = true) →
      wpOp P ops Q i (fun a' w' => ∃ v, a' = a.put o.dst v ∧ φ (L.setIfInBounds i true) i v w' ∧ R (L.setIfInBounds i true) w' ∧
        ∀ j d, j ≠ i → dst ops j = some d → L.getD j false = true → φ L j (a.tmps.getD d undef) w → φ (L.setIfInBounds i true) j (a.tmps.getD d undef) w') a w)
    (fin : ∀ L a w, L.size = ops.size → (∀ i, i < ops.size → L.getD i false = true) → Inv ops a0 R φ L a w → Q .normal a w) :
    (Code.region id ops true).wp P Q a0 w0 := by
  refine wp_region_any hm ?_
  refine wpAny_inv (Inv ops a0 R φ) hb ?_ fin ops.size _ a0 _ (by simp) (by simp [List.count_replicate]) ?_
  · intro L a w hL hI i o ho hf hpre
    have hi : i < ops.size := (Array.getElem?_eq_some_iff.1 ho).1
    have hdi : dst ops i = o.dst := by simp [dst, ho]
    refine wpOp_mono ?_ (step L a w hL hI i o ho hf hpre)
    rintro a' w' ⟨v, rfl, hφ, hR, hmono⟩
    have key : ∀ t, o.dst ≠ some t → (a.put o.dst v).tmps.getD t undef = a.tmps.getD t undef := fun t ht => by
      cases hdd : o.dst with
      | none => rfl
      | some d =>
        simp only [Act.put]
        exact getD_set_ne _ _ _ _ _ (fun e => ht (by rw [hdd, e]))
    refine ⟨?_, ?_, fun t ht => ?_, hR, fun j d hj hdj hLj => ?_⟩
    · rw [← hI.defers]; cases o.dst <;> rfl
    · rw [← hI.size]; cases o.dst <;> simp [Act.put]
    · rw [key t (by rw [← hdi]; exact ht i hi), hI.same t ht]
    · by_cases hji : j = i
      · subst hji
        rw [hdi] at hdj
        have hlt : d < a.tmps.size := by rw [hI.size]; exact inside_spec hd (i := j) (by rw [hdi, hdj])
        have : (a.put o.dst v).tmps.getD d undef = v := by
          rw [hdj]
          simp only [Act.put]
          exact getD_set_self _ _ _ _ hlt
        rw [this]
        exact hφ
      · rw [getD_set_ne _ _ _ _ _ hji] at hLj
        rw [key d (by rw [← hdi]; exact single_spec hs hj hi (Ne.symm hji) hdj)]
        exact hmono j d hji hdj hLj (hI.vals j d hj hdj hLj)
  · refine ⟨rfl, rfl, fun _ _ => rfl, h0, fun j d hj hdj hLj => ?_⟩
    simp [Array.getD_eq_getD_getElem?, hj] at hLj

/-- a frame, slot by slot -/
theorem act_lit (a : Act) : a = { tmps := ((List.range a.tmps.size).map fun t => a.tmps.getD t undef).toArray, defers := a.defers } := by
  obtain ⟨t, d⟩ := a
  congr 1
  apply Array.ext
  · simp
  · intro i h1 h2
    simp [Array.getD_eq_getD_getElem?, h1]

theorem gn {x : Array Value} {i : Nat} {v : Value} (h : x.getD i undef = v) : x[i]?.getD undef = v := by simpa [Array.getD_eq_getD_getElem?] using h

theorem getD_true {L : Array Bool} {i : Nat} (h : L.getD i false = true) : L.getD i true = true := by
  simp only [Array.getD_eq_getD_getElem?] at *
  cases hh : L[i]? <;> simp_all

theorem set_true {L : Array Bool} {i j : Nat} (h : (L.setIfInBounds i true).getD j false = true) : j = i ∨ L.getD j false = true := by
  by_cases e : j = i
  · exact Or.inl e
  · rw [getD_set_ne _ _ _ _ _ e] at h
    exact Or.inr h

end Go.Flow
