/- That a region may be walked in the order of its text: a check that the kernel runs fast. Over any program. -/
import Derived.Test.YtpabaabkhmjdhaaDoorR3
import Derived.Test.YtpabaabkhmjdhaaDoorR1
namespace Go.Flow
open Go.RowKit Go.Sort
set_option linter.unusedVariables false
set_option linter.unusedSimpArgs false

variable {ops : Array Oper}

/-- operation o stands at place k, rest behind it -/
def fastFrom (ops : Array Oper) : Nat → List Oper → Bool
  | _, [] => true
  | k, o :: rest => (o.after.toList.all fun e => !Region.binds .any e || Nat.blt e.on k) && (rest.all fun oj => (oj.after.toList.any fun e => Region.binds .any e && Nat.beq e.on k) || o.apart ops oj) && fastFrom ops (k + 1) rest

structure UpTo (n k : Nat) (L : Array Bool) : Prop where
  size : L.size = n
  at_ : ∀ j, j < n → L.getD j true = decide (j < k)

theorem UpTo.at_false {n k : Nat} {L : Array Bool} (h : UpTo n k L) (j : Nat) (hj : j < n) : L.getD j false = decide (j < k) := by
  have := h.at_ j hj
  have hs : j < L.size := by rw [h.size]; exact hj
  simp only [Array.getD_eq_getD_getElem?, Array.getElem?_eq_getElem hs, Option.getD_some] at this ⊢
  exact this

theorem UpTo.next {n k : Nat} {L : Array Bool} (h : UpTo n k L) (hk : k < n) : UpTo n (k + 1) (L.setIfInBounds k true) := by
  refine ⟨by simpa using h.size, fun j hj => ?_⟩
  by_cases e : j = k
  · subst e
    rw [Flow.getD_set_self _ _ _ _ (by rw [h.size]; exact hk)]
    simp
  · rw [Flow.getD_set_ne _ _ _ _ _ e, h.at_ j hj, decide_eq_decide]
    omega

theorem lexFrom_of_fast : ∀ (l : List Oper) (k : Nat) (L : Array Bool), (∀ j, l[j]? = ops[k + j]?) → k + l.length = ops.size → UpTo ops.size k L → fastFrom ops k l = true → Region.lexFrom .any ops l.length k L = true
  | [], k, L, _, hk, hu, _ => by
    simp only [List.length_nil, Nat.add_zero] at hk
    simp only [List.length_nil, Region.lexFrom, List.isEmpty_iff]
    unfold Region.ready
    rw [List.filter_eq_nil_iff]
    intro i hi
    have hi' := List.mem_range.1 hi
    rw [hu.at_ i hi']
    simp [hk, hi']
  | o :: l, k, L, hl, hk, hu, hf => by
    have h0 : ops[k]? = some o := by simpa using (hl 0).symm
    have hkn : k < ops.size := by simp only [List.length_cons] at hk; omega
    simp only [fastFrom, Bool.and_eq_true] at hf
    obtain ⟨⟨h1, h2⟩, h3⟩ := hf
    have ih := lexFrom_of_fast l (k + 1) (L.setIfInBounds k true) (fun j => by have := hl (j + 1); simpa [Nat.add_assoc, Nat.add_comm 1 j] using this) (by simp only [List.length_cons] at hk; omega) (hu.next hkn) h3
    simp only [List.length_cons, Region.lexFrom, Bool.and_eq_true]
    refine ⟨⟨?_, ?_⟩, ih⟩
    · rw [List.contains_iff_mem]
      unfold Region.ready
      rw [List.mem_filter, List.mem_range, h0, hu.at_ k hkn]
      refine ⟨hkn, ?_⟩
      simp only [Nat.lt_irrefl, decide_false, Bool.not_false, Bool.true_and, Option.map_some, Option.getD_some, Array.all_eq_true']
      intro e he
      have := List.all_eq_true.1 h1 e (Array.mem_toList_iff.2 he)
      cases hb : Region.binds .any e
      · simp
      · rw [hb] at this
        simp only [Bool.not_true, Bool.false_or, Nat.blt_eq] at this
        rw [hu.at_false e.on (by omega)]
        simp [this]
    · unfold Region.free
      rw [h0]
      simp only [List.all_eq_true, List.mem_range]
      intro j hj
      by_cases e : j = k
      · simp [e]
      · rcases Nat.lt_or_ge j k with hlt | hge
        · rw [hu.at_ j hj]
          simp [hlt]
        · have hjl : l[j - (k + 1)]? = ops[j]? := by
            have := hl (j - k)
            rw [show k + (j - k) = j by omega, show j - k = (j - (k + 1)) + 1 by omega, List.getElem?_cons_succ] at this
            exact this
          have hoj : ops[j]? = some ops[j] := Array.getElem?_eq_getElem hj
          rw [hoj] at hjl ⊢
          have := List.all_eq_true.1 h2 ops[j] (List.mem_of_getElem? hjl)
          simp only [Bool.or_eq_true] at this ⊢
          right
          rcases this with h | h
          · left
            rw [List.any_eq_true] at h
            obtain ⟨x, hx, hx2⟩ := h
            rw [Array.any_eq_true']
            refine ⟨x, Array.mem_toList_iff.1 hx, ?_⟩
            simp only [Bool.and_eq_true] at hx2 ⊢
            exact ⟨hx2.1, by simpa using hx2.2⟩
          · right
            exact h

theorem lexB_of_fast (hs : Region.noSelect ops = true) (hf : fastFrom ops 0 ops.toList = true) : Region.lexB .any ops = true := by
  unfold Region.lexB
  rw [hs, Bool.true_and]
  have := lexFrom_of_fast (ops := ops) ops.toList 0 (Array.replicate ops.size false) (by simp) (by simp) ⟨by simp, fun j hj => by simp [Array.getD_eq_getD_getElem?, hj]⟩ hf
  simpa using this

/-- 'wp_region_quiet_below', the check by 'fastFrom' -/
theorem wp_region_quiet_fast {P : Program} {id : Nat} {Q : Exit → Act → World → Prop} {a : Act} {w : World} {l : List Oper} (hm : P.follows .mixedOrders = true) (hs : Region.noSelect l.toArray = true) (hf : fastFrom l.toArray 0 l = true)
    (h : wpQuiet P l.toArray (fun w' => ∃ p : Regrown, w' = grow (redrawn w p.d) p.os) (fun a' => ∀ w', (∃ p : Regrown, w' = grow (redrawn w p.d) p.os) → Q .normal a' w') l a) : (Code.region id l.toArray true).wp P Q a w :=
  wp_region_quiet_below hm (lexB_of_fast hs (by simpa using hf)) h

end Go.Flow
