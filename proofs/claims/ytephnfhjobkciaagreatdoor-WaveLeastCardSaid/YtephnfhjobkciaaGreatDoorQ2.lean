/- Texts of the Wave laws, merged: P6, P7, M1, M2, R1, R3, R4, W1, W2, W3. -/
import Derived.Test.YtephnfhjobkciaaGreatDoorQ1
import Derived.WalkKit
import Derived.Orders
import Derived.Lib.QuietBelow
import Derived.StillTail
import Derived.Test.YtephnfhjobkciaaGreatDoorProg
import Derived.WalkSpells
import Derived.WalkLawsBesides
import Derived.BigQuiet
import Derived.Deep.RegionHeld3
import Derived.Deep.DeepCutAuto
import Derived.Lib.Hide
import Derived.Laws.AppendOwn
import Derived.Laws.AppendOwnNone
import Derived.Below
import Derived.Lib.Strings

/- Waves in plain Lean: the laws. -/
namespace Go.Proofs.Wav
open Scn
set_option linter.unusedVariables false
set_option linter.unusedSimpArgs false

def zeroW : Wv := ⟨[], [], [], 0⟩
def rawW (ns : List Ln) (ws : List Int) (rows : List (List Nat)) : Wv := ⟨ns, ws, chsOf rows rows.length, (rows.length : Int) - 1⟩
def fullR (n : Nat) (rows : List (List Nat)) : Bool := decide (rows ≠ []) && rows.all fun r => decide (r.length = n)
/-- what Make says -/
def makeW (ns : List Ln) (ws : List Int) (rows : List (List Nat)) : Int × Wv :=
  if fullR ns.length rows = true then if checkW (rawW ns ws rows) = 0 then (0, rawW ns ws rows) else (checkW (rawW ns ws rows), zeroW) else (1, zeroW)
theorem full_get {n : Nat} {rows : List (List Nat)} (h : fullR n rows = true) : rows ≠ [] ∧ ∀ k, k < rows.length → (rows.getD k []).length = n := by
  simp only [fullR, Bool.and_eq_true, decide_eq_true_eq, List.all_eq_true] at h
  refine ⟨h.1, fun k hk => ?_⟩
  rw [List.getD_eq_getElem?_getD, List.getElem?_eq_getElem hk]
  exact h.2 _ (List.getElem_mem hk)
theorem full_of {n : Nat} {rows : List (List Nat)} (h0 : rows ≠ []) (h : ∀ k, k < rows.length → (rows.getD k []).length = n) : fullR n rows = true := by
  simp only [fullR, Bool.and_eq_true, decide_eq_true_eq, List.all_eq_true]
  refine ⟨h0, fun r hr => ?_⟩
  obtain ⟨k, hk, rfl⟩ := List.getElem_of_mem hr
  have := h k hk
  rwa [List.getD_eq_getElem?_getD, List.getElem?_eq_getElem hk] at this
theorem make_ok {ns : List Ln} {ws : List Int} {rows : List (List Nat)} {m : Wv} (h : makeW ns ws rows = (0, m)) : fullR ns.length rows = true ∧ m = rawW ns ws rows ∧ checkW m = 0 := by
  unfold makeW at h
  split at h
  · split at h
    · rename_i h1 h2
      cases h
      exact ⟨h1, rfl, h2⟩
    · rename_i h2
      simp only [Prod.mk.injEq] at h
      exact (h2 h.1).elim
  · cases h

/-- rows of a wave, made a wave -/
theorem make_rows {w : Wv} (h : checkW w = 0) : makeW w.names w.widths (rowsOf w.names.length w.chs (w.last.toNat + 1)) = (0, w) := by
  have hi := is_of h
  have hlo := hi.lo
  have hl : (rowsOf w.names.length w.chs (w.last.toNat + 1)).length = w.last.toNat + 1 := by simp [rowsOf]
  have hr : rawW w.names w.widths (rowsOf w.names.length w.chs (w.last.toNat + 1)) = w := by
    unfold rawW
    rw [hl, hi.good.made hlo, show ((w.last.toNat + 1 : Nat) : Int) - 1 = w.last by omega]
  unfold makeW
  rw [if_pos (full_of (fun e => by rw [e] at hl; simp at hl) fun k hk => by rw [rowsOf_get (by omega)]; simp), hr, if_pos h]
/-- what is made of rows, told again -/
theorem rows_make {ns : List Ln} {ws : List Int} {rows : List (List Nat)} {m : Wv} (h : makeW ns ws rows = (0, m)) : rowsOf m.names.length m.chs (m.last.toNat + 1) = rows := by
  obtain ⟨h1, rfl, h2⟩ := make_ok h
  obtain ⟨h3, h4⟩ := full_get h1
  have : 0 < rows.length := List.length_pos_iff.2 h3
  have e : (rawW ns ws rows).last.toNat + 1 = rows.length := by
    show ((rows.length : Int) - 1).toNat + 1 = rows.length
    omega
  rw [e]
  exact rows_chsOf rows ns.length h4

/-! a value stands till the next change -/
theorem at_change {w : Wv} (h : checkW w = 0) {c : Chg} (hc : c ∈ w.chs) : valAt w.chs c.t c.g = c.v := by
  obtain ⟨k, hk, rfl⟩ := List.getElem_of_mem hc
  exact (is_of h).good.val hk
theorem at_start {w : Wv} (h : checkW w = 0) {s : Nat} (hs : s < w.names.length) : ∃ c ∈ w.chs, c.t = 0 ∧ c.g = s := by
  obtain ⟨hl, a, b⟩ := (is_of h).good.start hs
  exact ⟨_, List.getElem_mem hl, a, b⟩

/-! no change is none -/
theorem rowC_none (t : Nat) (r : List Nat) : ∀ k, (rowC t none r k).length = k
  | 0 => rfl
  | k + 1 => by rw [rowC_succ, List.length_append, rowC_none t r k, if_neg (by simp)]; rfl
theorem rowC_len (t : Nat) (p r : List Nat) (k : Nat) : (rowC t (some p) r (k + 1)).length = (rowC t (some p) r k).length + if p.getD k 0 = r.getD k 0 then 0 else 1 := by
  rw [rowC_succ, List.length_append]
  simp only [Option.map_some, Option.some.injEq]
  split <;> rfl
theorem chsOf_one (rows : List (List Nat)) : (chsOf rows 1).length = (rows.getD 0 []).length := by
  rw [chsOf, chsOf, List.nil_append]
  exact rowC_none 0 _ _
theorem mem_made {rows : List (List Nat)} {n : Nat} (hn : ∀ k, k < rows.length → (rows.getD k []).length = n) {c : Chg} (h : c ∈ chsOf rows rows.length) :
    ∃ t s : Nat, c.t = t ∧ c.g = s ∧ t < rows.length ∧ s < n ∧ (rows.getD t []).getD s 0 = c.v ∧ (0 < t → (rows.getD (t - 1) []).getD s 0 ≠ c.v) := by
  obtain ⟨t, ht, hm⟩ := mem_chsOf h
  obtain ⟨h1, s, hs, h2, h3, h4⟩ := mem_rowC hm
  rw [hn t ht] at hs
  refine ⟨t, s, h1, h2, ht, hs, h3.symm, fun h0 e => h4 ?_⟩
  unfold ahead
  rw [if_neg (by omega), Option.map_some, e, h3]

/-! a wave that goes on as it ended -/
theorem rowC_same (t : Nat) (r : List Nat) : ∀ k, rowC t (some r) r k = []
  | 0 => rfl
  | k + 1 => by rw [rowC_succ, rowC_same t r k, if_pos (by simp)]; rfl
theorem chsOf_append (rows more : List (List Nat)) : ∀ k, k ≤ rows.length → chsOf (rows ++ more) k = chsOf rows k
  | 0, _ => rfl
  | k + 1, h => by
    rw [chsOf, chsOf, chsOf_append rows more k (by omega)]
    have e1 : (rows ++ more).getD k [] = rows.getD k [] := by
      rw [List.getD_eq_getElem?_getD, List.getD_eq_getElem?_getD, List.getElem?_append_left (by omega)]
    have e2 : ahead (rows ++ more) k = ahead rows k := by
      unfold ahead
      by_cases h0 : k = 0
      · rw [if_pos h0, if_pos h0]
      · rw [if_neg h0, if_neg h0, List.getD_eq_getElem?_getD, List.getD_eq_getElem?_getD, List.getElem?_append_left (by omega)]
    rw [e1, e2]
theorem chsOf_longer (rows : List (List Nat)) (h : rows ≠ []) : ∀ k, chsOf (rows ++ List.replicate k (rows.getD (rows.length - 1) [])) (rows.length + k) = chsOf rows rows.length := by
  have hp : 0 < rows.length := List.length_pos_iff.2 h
  have key : ∀ m j, j ≤ m → chsOf (rows ++ List.replicate m (rows.getD (rows.length - 1) [])) (rows.length + j) = chsOf rows rows.length := by
    intro m j
    induction j with
    | zero => intro _; exact chsOf_append rows _ _ (Nat.le_refl _)
    | succ j ih =>
      intro hj
      have e1 : (rows ++ List.replicate m (rows.getD (rows.length - 1) [])).getD (rows.length + j) [] = rows.getD (rows.length - 1) [] := by
        rw [List.getD_eq_getElem?_getD, List.getElem?_append_right (by omega), Nat.add_sub_cancel_left, List.getElem?_replicate, if_pos (by omega)]
        rfl
      have e2 : ahead (rows ++ List.replicate m (rows.getD (rows.length - 1) [])) (rows.length + j) = some (rows.getD (rows.length - 1) []) := by
        unfold ahead
        rw [if_neg (by omega)]
        congr 1
        by_cases h0 : j = 0
        · subst h0
          rw [List.getD_eq_getElem?_getD, List.getElem?_append_left (by omega), ← List.getD_eq_getElem?_getD]
          rfl
        · rw [List.getD_eq_getElem?_getD, List.getElem?_append_right (by omega), List.getElem?_replicate, if_pos (by omega)]
          rfl
      rw [show rows.length + (j + 1) = rows.length + j + 1 by omega, chsOf, ih (by omega), e1, e2, rowC_same, List.append_nil]
  exact fun k => key k k (Nat.le_refl _)
theorem allSteps_congr {f g : List Chg → Chg → Bool} : ∀ {l pre : List Chg}, (∀ pre c, c ∈ l → f pre c = g pre c) → allSteps f pre l = allSteps g pre l
  | [], _, _ => rfl
  | c :: l, pre, h => by
    rw [allSteps, allSteps, h pre c List.mem_cons_self, allSteps_congr fun p x hx => h p x (List.mem_cons_of_mem _ hx)]
theorem okP_last {n : Nat} {ws : List Int} {a b : Int} {l : List Chg} (ha : ∀ c ∈ l, c.t ≤ a) (hb : ∀ c ∈ l, c.t ≤ b) : okP n ws a l = okP n ws b l := by
  unfold okP
  congr 1
  refine allSteps_congr fun pre c hc => ?_
  unfold stepP okOne
  rw [decide_eq_true (ha c hc), decide_eq_true (hb c hc)]
/-- A WAVE THAT GOES ON as it ended -/
theorem make_longer (ns : List Ln) (ws : List Int) (rows : List (List Nat)) (h0 : rows ≠ []) (k : Nat) (hk : rows.length + k ≤ 2147483647) :
    makeW ns ws (rows ++ List.replicate k (rows.getD (rows.length - 1) [])) =
      match makeW ns ws rows with | (e, w) => if e = 0 then (0, { w with last := w.last + k }) else (e, w) := by
  have hp : 0 < rows.length := List.length_pos_iff.2 h0
  have hf : fullR ns.length (rows ++ List.replicate k (rows.getD (rows.length - 1) [])) = fullR ns.length rows := by
    rw [Bool.eq_iff_iff]
    constructor
    · intro h
      obtain ⟨_, h2⟩ := full_get h
      refine full_of h0 fun j hj => ?_
      have := h2 j (by rw [List.length_append]; omega)
      rwa [List.getD_eq_getElem?_getD, List.getElem?_append_left hj, ← List.getD_eq_getElem?_getD] at this
    · intro h
      obtain ⟨_, h2⟩ := full_get h
      refine full_of (by simp [h0]) fun j hj => ?_
      by_cases hj2 : j < rows.length
      · rw [List.getD_eq_getElem?_getD, List.getElem?_append_left hj2, ← List.getD_eq_getElem?_getD]
        exact h2 j hj2
      · rw [List.length_append, List.length_replicate] at hj
        rw [List.getD_eq_getElem?_getD, List.getElem?_append_right (by omega), List.getElem?_replicate, if_pos (by omega)]
        exact h2 _ (by omega)
  unfold makeW
  rw [hf]
  by_cases hfull : fullR ns.length rows = true
  · rw [if_pos hfull, if_pos hfull]
    have hraw : rawW ns ws (rows ++ List.replicate k (rows.getD (rows.length - 1) [])) = { rawW ns ws rows with last := (rawW ns ws rows).last + k } := by
      unfold rawW
      rw [List.length_append, List.length_replicate, chsOf_longer rows h0 k]
      simp only [Wv.mk.injEq, true_and]
      omega
    have hc : checkW { rawW ns ws rows with last := (rawW ns ws rows).last + k } = checkW (rawW ns ws rows) := by
      have ht : ∀ c ∈ chsOf rows rows.length, c.t ≤ (rows.length : Int) - 1 := by
        intro c hc
        obtain ⟨t, ht, hm⟩ := mem_chsOf hc
        have := (mem_rowC hm).1
        omega
      have e := okP_last (n := ns.length) (ws := ws) (a := (rows.length : Int) - 1 + k) (b := (rows.length : Int) - 1) (l := chsOf rows rows.length) (fun c hc => by have := ht c hc; omega) ht
      unfold checkW rawW
      simp only
      rw [e]
      have e1 : (2147483647 < (rows.length : Int) - 1 + (k : Int)) = (2147483647 < (rows.length : Int) - 1) := by apply propext; omega
      have e2 : (0 ≤ (rows.length : Int) - 1 + (k : Int)) = (0 ≤ (rows.length : Int) - 1) := by apply propext; omega
      simp only [e1, e2]
    rw [hraw, hc]
    by_cases h : checkW (rawW ns ws rows) = 0
    · rw [if_pos h, if_pos h]
      simp
    · rw [if_neg h, if_neg h]
      simp [h]
  · rw [if_neg hfull, if_neg hfull]
    simp

end Go.Proofs.Wav

/- The chapter's example, in plain Lean. -/
namespace Go.Proofs.Wav
open Scn
set_option linter.unusedVariables false
def exN : List Ln := [[97], [98]]
def exR : List (List Nat) := [[1, 0], [1, 1], [1, 1]]
def exW : Wv := ⟨exN, [2, 1], [⟨0, 0, 1⟩, ⟨0, 1, 0⟩, ⟨1, 1, 1⟩], 2⟩
def exB : Ln := [118, 97, 114, 32, 50, 32, 97, 10, 118, 97, 114, 32, 49, 32, 98, 10, 35, 48, 10, 98, 48, 49, 32, 48, 10, 98, 48, 32, 49, 10, 35, 49, 10, 98, 49, 32, 49, 10, 35, 50, 10]
theorem ex_check : checkW exW = 0 := by decide
theorem ex_make : makeW exN [2, 1] exR = (0, exW) := by decide
theorem ex_rows : rowsOf 2 exW.chs 3 = exR := by decide
theorem ex_at : valAt exW.chs 2 1 = 1 := by decide
theorem dec_small (n : Nat) (h : n < 10) : dec n = [UInt8.ofNat (48 + n)] := by
  unfold dec
  rw [digL_lt (.inl h), if_pos h]
theorem ex_put : putW exW = exB := by
  have d0 := dec_small 0 (by omega)
  have d1 := dec_small 1 (by omega)
  have d2 := dec_small 2 (by omega)
  have e0 : (0 : Int).toNat = 0 := rfl
  have e1 : (1 : Int).toNat = 1 := rfl
  have e2 : (2 : Int).toNat = 2 := rfl
  simp only [putW, linesW, exW, exN, sigLines, sigLine, chgLines, chgLine, timeLines, timeLine, lastT, joinL, e0, e1, e2, d0, d1, d2]
  decide
theorem ex_bad : getP exB.tail = none := by decide
end Go.Proofs.Wav

/- Plain arithmetic of the layer bitv: masks, and what the operations of one and of two come to. No program in sight. -/
namespace Go.Proofs.YtephnfhjobkciaaGreatDoor
set_option linter.unusedVariables false
set_option linter.unusedSimpArgs false

/-- 2 to the power w, less 1, within 64 bits. -/
def mask (w : Int) : Nat := if w ≤ 0 then 0 else if w < 64 then 2 ^ w.toNat - 1 else 18446744073709551615

theorem mask_lt (w : Int) : mask w < 18446744073709551616 := by
  unfold mask
  split
  · omega
  · split
    · have : 2 ^ w.toNat ≤ 2 ^ 64 := Nat.pow_le_pow_right (by omega) (by omega)
      omega
    · omega

/-- for widths of 1 to 64 -/
theorem mask_pow (k : Nat) (h0 : 0 < k) (h : k ≤ 64) : mask (k : Int) = 2 ^ k - 1 := by
  unfold mask
  rw [if_neg (by omega)]
  split
  · simp
  · obtain rfl : k = 64 := by omega
    rfl

theorem pow64 (k : Nat) (h : k ≤ 64) : 18446744073709551616 = 2 ^ k * 2 ^ (64 - k) := by
  rw [← Nat.pow_add, show k + (64 - k) = 64 by omega]

def mayB (w : Int) (v : Nat) : Bool := decide (0 < w ∧ w ≤ 64 ∧ v ≤ mask w)

theorem mayB_true {w : Int} {v : Nat} (h : mayB w v = true) : ∃ k : Nat, w = k ∧ 0 < k ∧ k ≤ 64 ∧ v < 2 ^ k ∧ mask w = 2 ^ k - 1 := by
  simp only [mayB, decide_eq_true_eq] at h
  obtain ⟨h0, h1, h2⟩ := h
  obtain ⟨k, rfl⟩ := Int.eq_ofNat_of_zero_le (Int.le_of_lt h0)
  have hm := mask_pow k (by omega) (by omega)
  have := Nat.two_pow_pos k
  exact ⟨k, rfl, by omega, by omega, by omega, hm⟩

theorem mayB_mk {k v : Nat} (h0 : 0 < k) (h : k ≤ 64) (hv : v < 2 ^ k) : mayB (k : Int) v = true := by
  have hm := mask_pow k h0 h
  simp only [mayB, decide_eq_true_eq]
  omega

/-- 1, if so -/
def bitN (b : Bool) : Nat := if b then 1 else 0
theorem bitN_lt (b : Bool) : bitN b < 18446744073709551616 := by cases b <;> decide

/-- a value of some bits, if it is wanted -/
def madeW (ok : Bool) (w : Int) : Int := if ok then w else 0
def madeV (ok : Bool) (w : Int) (v : Nat) : Nat := if ok then v &&& mask w else 0
def errE (ok : Bool) : Int := if ok then 0 else 1

theorem and_mask (k v : Nat) (h0 : 0 < k) (h : k ≤ 64) : v &&& mask (k : Int) = v % 2 ^ k := by
  rw [mask_pow k h0 h, Nat.and_two_pow_sub_one_eq_mod]

/-! ### ones -/
def ones : Nat → Nat → Nat
  | 0, _ => 0
  | n + 1, x => x % 2 + ones n (x / 2)

theorem and_split (k a b c d : Nat) (ha : a < 2 ^ k) (hc : c < 2 ^ k) : (a + 2 ^ k * b) &&& (c + 2 ^ k * d) = (a &&& c) + 2 ^ k * (b &&& d) := by
  have hac : a &&& c < 2 ^ k := Nat.and_lt_two_pow _ hc
  apply Nat.eq_of_testBit_eq
  intro i
  rw [Nat.testBit_and, Nat.add_comm a, Nat.add_comm c, Nat.add_comm (a &&& c), Nat.testBit_two_pow_mul_add _ ha, Nat.testBit_two_pow_mul_add _ hc, Nat.testBit_two_pow_mul_add _ hac]
  split <;> simp [Nat.testBit_and]

/-- all digits of a base, the lowest first -/
def ofD (B : Nat) : List Nat → Nat
  | [] => 0
  | d :: ds => d + B * ofD B ds

/-- pairs of digits -/
def ofP (B : Nat) : List (Nat × Nat) → Nat
  | [] => 0
  | p :: ps => p.1 + B * p.2 + B * B * ofP B ps

def msk (B : Nat) : Nat → Nat
  | 0 => 0
  | n + 1 => (B - 1) + B * B * msk B n

theorem ofP_and (k : Nat) (hk : 0 < k) : ∀ (ps : List (Nat × Nat)), (∀ p ∈ ps, p.1 < 2 ^ k ∧ p.2 < 2 ^ k) →
    ofP (2 ^ k) ps &&& msk (2 ^ k) ps.length = ofD (2 ^ k * 2 ^ k) (ps.map (·.1))
  | [], _ => by simp [ofP, msk, ofD]
  | p :: ps, h => by
    have ih := ofP_and k hk ps (fun q hq => h q (List.mem_cons_of_mem _ hq))
    have hp := h p (List.mem_cons_self ..)
    have hB : 2 ^ k * 2 ^ k = 2 ^ (k + k) := by rw [Nat.pow_add]
    have h1 := Nat.two_pow_pos k
    have hlt : p.1 + 2 ^ k * p.2 < 2 ^ (k + k) := by
      rw [← hB]
      have : 2 ^ k * (p.2 + 1) ≤ 2 ^ k * 2 ^ k := Nat.mul_le_mul_left _ (by omega)
      rw [Nat.mul_add] at this
      omega
    have hlt2 : 2 ^ k - 1 < 2 ^ (k + k) := by
      have : 2 ^ k ≤ 2 ^ (k + k) := Nat.pow_le_pow_right (by omega) (by omega)
      omega
    simp only [ofP, List.length_cons, msk, List.map_cons, ofD]
    rw [hB, and_split (k + k) _ _ _ _ hlt hlt2, ← hB, ih, Nat.and_two_pow_sub_one_eq_mod, Nat.add_mul_mod_self_left, Nat.mod_eq_of_lt hp.1]

theorem ofP_and' (k : Nat) (hk : 0 < k) : ∀ (ps : List (Nat × Nat)), (∀ p ∈ ps, p.1 < 2 ^ k ∧ p.2 < 2 ^ k) →
    (ofP (2 ^ k) ps / 2 ^ k) &&& msk (2 ^ k) ps.length = ofD (2 ^ k * 2 ^ k) (ps.map (·.2))
  | [], _ => by simp [ofP, msk, ofD]
  | p :: ps, h => by
    have ih := ofP_and' k hk ps (fun q hq => h q (List.mem_cons_of_mem _ hq))
    have hp := h p (List.mem_cons_self ..)
    have hB : 2 ^ k * 2 ^ k = 2 ^ (k + k) := by rw [Nat.pow_add]
    have h1 := Nat.two_pow_pos k
    have hr : ofP (2 ^ k) ps % 2 ^ k < 2 ^ k := Nat.mod_lt _ h1
    have hlt : p.2 + 2 ^ k * (ofP (2 ^ k) ps % 2 ^ k) < 2 ^ (k + k) := by
      rw [← hB]
      have : 2 ^ k * (ofP (2 ^ k) ps % 2 ^ k + 1) ≤ 2 ^ k * 2 ^ k := Nat.mul_le_mul_left _ (by omega)
      rw [Nat.mul_add] at this
      omega
    have hlt2 : 2 ^ k - 1 < 2 ^ (k + k) := by
      have : 2 ^ k ≤ 2 ^ (k + k) := Nat.pow_le_pow_right (by omega) (by omega)
      omega
    have e : (p.1 + 2 ^ k * p.2 + 2 ^ k * 2 ^ k * ofP (2 ^ k) ps) / 2 ^ k = (p.2 + 2 ^ k * (ofP (2 ^ k) ps % 2 ^ k)) + 2 ^ (k + k) * (ofP (2 ^ k) ps / 2 ^ k) := by
      rw [show p.1 + 2 ^ k * p.2 + 2 ^ k * 2 ^ k * ofP (2 ^ k) ps = p.1 + 2 ^ k * (p.2 + 2 ^ k * ofP (2 ^ k) ps) by rw [Nat.mul_add, Nat.mul_assoc, Nat.add_assoc],
        Nat.add_mul_div_left _ _ h1, Nat.div_eq_of_lt hp.1, Nat.zero_add, Nat.add_assoc, ← hB, Nat.mul_assoc, ← Nat.mul_add, Nat.mod_add_div]
    simp only [ofP, List.length_cons, msk, List.map_cons, ofD]
    rw [e, hB, and_split (k + k) _ _ _ _ hlt hlt2, ← hB, ih, Nat.and_two_pow_sub_one_eq_mod, Nat.add_mul_mod_self_left, Nat.mod_eq_of_lt hp.2]

theorem ofD_add (B : Nat) : ∀ (ps : List (Nat × Nat)), ofD B (ps.map (·.2)) + ofD B (ps.map (·.1)) = ofD B (ps.map fun p => p.1 + p.2)
  | [] => rfl
  | p :: ps => by
    have ih := ofD_add B ps
    simp only [List.map_cons, ofD]
    rw [← ih, Nat.mul_add]
    omega

/-- the digits in pairs -/
def paired : List Nat → List (Nat × Nat)
  | a :: b :: l => (a, b) :: paired l
  | _ => []

theorem ofP_paired (B : Nat) : ∀ (n : Nat) (l : List Nat), l.length = 2 * n → ofP B (paired l) = ofD B l
  | 0, l, h => by
    obtain rfl := List.eq_nil_of_length_eq_zero (by omega : l.length = 0)
    rfl
  | n + 1, l, h => by
    match l, h with
    | a :: b :: l, h =>
      have ih := ofP_paired B n l (by simp at h; omega)
      simp only [paired, ofP, ofD, ih, Nat.mul_add, Nat.mul_assoc]
      omega

theorem paired_length : ∀ (n : Nat) (l : List Nat), l.length = 2 * n → (paired l).length = n
  | 0, l, h => by
    obtain rfl := List.eq_nil_of_length_eq_zero (by omega : l.length = 0)
    rfl
  | n + 1, l, h => by
    match l, h with
    | a :: b :: l, h =>
      have ih := paired_length n l (by simp at h; omega)
      simp [paired, ih]

theorem paired_mem : ∀ (l : List Nat) (p : Nat × Nat), p ∈ paired l → p.1 ∈ l ∧ p.2 ∈ l
  | [], p, h => by simp [paired] at h
  | [a], p, h => by simp [paired] at h
  | a :: b :: l, p, h => by
    simp only [paired, List.mem_cons] at h
    rcases h with rfl | h
    · simp
    · have := paired_mem l p h
      simp [this.1, this.2]

/-- the sums of the pairs -/
def sums (l : List Nat) : List Nat := (paired l).map fun p => p.1 + p.2

theorem sums_length (n : Nat) (l : List Nat) (h : l.length = 2 * n) : (sums l).length = n := by simp [sums, paired_length n l h]

theorem sums_le (m : Nat) (l : List Nat) (h : ∀ d ∈ l, d ≤ m) : ∀ d ∈ sums l, d ≤ 2 * m := by
  intro d hd
  simp only [sums, List.mem_map] at hd
  obtain ⟨p, hp, rfl⟩ := hd
  have := paired_mem l p hp
  have h1 := h _ this.1
  have h2 := h _ this.2
  omega

theorem sum_sums : ∀ (n : Nat) (l : List Nat), l.length = 2 * n → (sums l).sum = l.sum
  | 0, l, h => by
    obtain rfl := List.eq_nil_of_length_eq_zero (by omega : l.length = 0)
    rfl
  | n + 1, l, h => by
    match l, h with
    | a :: b :: l, h =>
      have ih := sum_sums n l (by simp at h; omega)
      simp only [sums, paired, List.map_cons, List.sum_cons] at ih ⊢
      rw [ih]; omega

theorem step_sum (k n m : Nat) (hk : 0 < k) (l : List Nat) (hl : l.length = 2 * n) (hm : ∀ d ∈ l, d ≤ m) (hmk : m < 2 ^ k) :
    ((ofD (2 ^ k) l / 2 ^ k) &&& msk (2 ^ k) n) + (ofD (2 ^ k) l &&& msk (2 ^ k) n) = ofD (2 ^ k * 2 ^ k) (sums l) := by
  have hp : ∀ p ∈ paired l, p.1 < 2 ^ k ∧ p.2 < 2 ^ k := fun p hp => by
    have := paired_mem l p hp
    have h1 := hm _ this.1
    have h2 := hm _ this.2
    omega
  have hlen := paired_length n l hl
  have a := ofP_and k hk (paired l) hp
  have b := ofP_and' k hk (paired l) hp
  rw [hlen, ofP_paired _ n l hl] at a b
  rw [a, b, ofD_add]
  rfl

/-- the bits, the lowest first -/
def bitsOf : Nat → Nat → List Nat
  | 0, _ => []
  | n + 1, x => x % 2 :: bitsOf n (x / 2)

theorem bitsOf_length : ∀ n x, (bitsOf n x).length = n
  | 0, _ => rfl
  | n + 1, x => by simp [bitsOf, bitsOf_length n]

theorem bitsOf_le : ∀ n x, ∀ d ∈ bitsOf n x, d ≤ 1
  | 0, _, d, h => by simp [bitsOf] at h
  | n + 1, x, d, h => by
    simp only [bitsOf, List.mem_cons] at h
    rcases h with rfl | h
    · omega
    · exact bitsOf_le n _ d h

theorem ofD_bitsOf : ∀ n x, x < 2 ^ n → ofD 2 (bitsOf n x) = x
  | 0, x, h => by simp [bitsOf, ofD]; omega
  | n + 1, x, h => by
    rw [Nat.pow_succ] at h
    simp only [bitsOf, ofD]
    rw [ofD_bitsOf n (x / 2) (by omega)]
    omega

theorem sum_bitsOf : ∀ n x, (bitsOf n x).sum = ones n x
  | 0, _ => rfl
  | n + 1, x => by simp [bitsOf, ones, sum_bitsOf n]

theorem ofD_nibbles (l : List Nat) (n : Nat) (hl : l.length = 2 * n) (hm : ∀ d ∈ l, d ≤ 4) :
    (ofD 16 l / 16 + ofD 16 l) &&& msk 16 n = ofD 256 (sums l) := by
  have key : ∀ (n : Nat) (l : List Nat), l.length = 2 * n → (∀ d ∈ l, d ≤ 4) → (ofD 16 l / 16 + ofD 16 l) &&& msk 16 n = ofD 256 (sums l) := by
    intro n
    induction n with
    | zero =>
      intro l hl _
      obtain rfl := List.eq_nil_of_length_eq_zero (by omega : l.length = 0)
      rfl
    | succ n ih =>
      intro l hl hm
      match l, hl with
      | a :: b :: l, hl =>
        have ih := ih l (by simp at hl; omega) (fun d hd => hm d (by simp [hd]))
        have ha := hm a (by simp)
        have hb := hm b (by simp)
        simp only [sums, paired, List.map_cons, ofD, msk] at ih ⊢
        rw [← ih]
        have hc : ∃ c, c ≤ 4 ∧ ofD 16 l % 16 = c := by
          cases l with
          | nil => exact ⟨0, by omega, rfl⟩
          | cons c l =>
            have := hm c (by simp)
            exact ⟨c, this, by simp only [ofD]; omega⟩
        obtain ⟨c, hc, hcm⟩ := hc
        generalize ofD 16 l = x at hcm ⊢
        have e : (a + 16 * (b + 16 * x)) / 16 + (a + 16 * (b + 16 * x)) = ((a + b) + 16 * (b + c)) + 2 ^ 8 * (x / 16 + x) := by omega
        have e2 : 16 - 1 + 16 * 16 * msk 16 n = 15 + 2 ^ 8 * msk 16 n := by omega
        rw [e, e2, and_split 8 _ _ _ _ (by omega) (by omega), show (15 : Nat) = 2 ^ 4 - 1 from rfl, Nat.and_two_pow_sub_one_eq_mod]
        omega
  exact key n l hl hm

/-- what the seven steps of OnesCount64 come to -/
def swar (x : Nat) : Nat :=
  let a := ((x / 2) &&& 6148914691236517205) + (x &&& 6148914691236517205)
  let b := ((a / 4) &&& 3689348814741910323) + (a &&& 3689348814741910323)
  let c := (b / 16 + b) &&& 1085102592571150095
  let d := c + c / 256
  let e := d + d / 65536
  let f := e + e / 4294967296
  f &&& 127

theorem s8a (x0 x1 x2 Y1 Y2 Y3 : Nat) (h1 : Y1 = x1 + 256 * Y2) (h2 : Y2 = x2 + 256 * Y3) : x0 + 256 * Y1 + Y1 = ((x0 + x1) + 256 * (x1 + x2)) + 65536 * (Y2 + Y3) := by omega
theorem s8b (x0 x1 x2 x3 x4 x5 x6 Y2 Y3 Y4 Y5 Y6 Y7 d : Nat) (hd : d = ((x0 + x1) + 256 * (x1 + x2)) + 65536 * (Y2 + Y3)) (h2 : Y2 = x2 + 256 * Y3) (h3 : Y3 = x3 + 256 * Y4) (h4 : Y4 = x4 + 256 * Y5) (h5 : Y5 = x5 + 256 * Y6) (h6 : Y6 = x6 + 256 * Y7) :
    d + (Y2 + Y3) = ((x0 + x1 + x2 + x3) + 256 * ((x1 + x2 + x3 + x4) + 256 * ((x2 + x3 + x4 + x5) + 256 * (x3 + x4 + x5 + x6)))) + 4294967296 * (Y4 + Y5 + Y6 + Y7) := by omega
theorem s8c (x4 x5 x6 x7 Y4 Y5 Y6 Y7 : Nat) (h4 : Y4 = x4 + 256 * Y5) (h5 : Y5 = x5 + 256 * Y6) (h6 : Y6 = x6 + 256 * Y7) (h7 : Y7 = x7) : Y4 + Y5 + Y6 + Y7 = (x4 + x5 + x6 + x7) + 256 * (Y5 + Y6 + Y7) := by omega
theorem s8d (s t m n q : Nat) (hs : s + t ≤ 64) : (s + 256 * m + 4294967296 * n + (t + 256 * q)) % 2 ^ 7 = s + t := by
  rw [show s + 256 * m + 4294967296 * n + (t + 256 * q) = (s + t) + 2 ^ 7 * (2 * m + 33554432 * n + 2 * q) by omega, Nat.add_mul_mod_self_left, Nat.mod_eq_of_lt (by omega)]
theorem s8e (a b : Nat) (n : Nat) (h : a < n) : (a + n * b) / n = b := by
  rw [Nat.add_mul_div_left _ _ (by omega), Nat.div_eq_of_lt h, Nat.zero_add]
theorem s8f (a b c d : Nat) (ha : a ≤ 32) (hb : b ≤ 32) (hc : c ≤ 32) (hd : d ≤ 32) : a + 256 * (b + 256 * (c + 256 * d)) < 4294967296 := by omega

theorem sum8 (x0 x1 x2 x3 x4 x5 x6 x7 Y1 Y2 Y3 Y4 Y5 Y6 Y7 c d e : Nat) (c0 : x0 ≤ 8) (c1 : x1 ≤ 8) (c2 : x2 ≤ 8) (c3 : x3 ≤ 8) (c4 : x4 ≤ 8) (c5 : x5 ≤ 8) (c6 : x6 ≤ 8) (c7 : x7 ≤ 8)
    (hc : c = x0 + 256 * Y1) (h1 : Y1 = x1 + 256 * Y2) (h2 : Y2 = x2 + 256 * Y3) (h3 : Y3 = x3 + 256 * Y4) (h4 : Y4 = x4 + 256 * Y5) (h5 : Y5 = x5 + 256 * Y6) (h6 : Y6 = x6 + 256 * Y7) (h7 : Y7 = x7)
    (hd : d = c + c / 256) (he : e = d + d / 65536) :
    (e + e / 4294967296) % 2 ^ 7 = x0 + x1 + x2 + x3 + (x4 + x5 + x6 + x7) := by
  have g1 : x0 < 256 := Nat.lt_of_le_of_lt c0 (by decide)
  have g2 : (x0 + x1) + 256 * (x1 + x2) < 65536 := by clear hc h1 h2 h3 h4 h5 h6 h7 hd he; omega
  have g3 : x0 + x1 + x2 + x3 ≤ 32 := by clear hc h1 h2 h3 h4 h5 h6 h7 hd he; omega
  have g4 : x1 + x2 + x3 + x4 ≤ 32 := by clear hc h1 h2 h3 h4 h5 h6 h7 hd he; omega
  have g5 : x2 + x3 + x4 + x5 ≤ 32 := by clear hc h1 h2 h3 h4 h5 h6 h7 hd he; omega
  have g6 : x3 + x4 + x5 + x6 ≤ 32 := by clear hc h1 h2 h3 h4 h5 h6 h7 hd he; omega
  have g7 : x0 + x1 + x2 + x3 + (x4 + x5 + x6 + x7) ≤ 64 := by clear hc h1 h2 h3 h4 h5 h6 h7 hd he; omega
  have g8 := s8f _ _ _ _ g3 g4 g5 g6
  rw [hc, s8e _ _ _ g1, s8a x0 x1 x2 Y1 Y2 Y3 h1 h2] at hd
  have e3 : d / 65536 = Y2 + Y3 := by rw [hd, s8e _ _ _ g2]
  rw [e3, s8b x0 x1 x2 x3 x4 x5 x6 Y2 Y3 Y4 Y5 Y6 Y7 d hd h2 h3 h4 h5 h6] at he
  have e5 : e / 4294967296 = Y4 + Y5 + Y6 + Y7 := by rw [he, s8e _ _ _ g8]
  rw [e5, he, s8c x4 x5 x6 x7 Y4 Y5 Y6 Y7 h4 h5 h6 h7]
  exact s8d _ _ _ _ _ g7

theorem swar_ones (x : Nat) (hx : x < 18446744073709551616) : swar x = ones 64 x := by
  have m1 : (6148914691236517205 : Nat) = msk (2 ^ 1) 32 := by decide
  have m2 : (3689348814741910323 : Nat) = msk (2 ^ 2) 16 := by decide
  have m3 : (1085102592571150095 : Nat) = msk 16 8 := by decide
  have h0 := ofD_bitsOf 64 x hx
  have l0 := bitsOf_length 64 x
  have s1 := step_sum 1 32 1 (by omega) (bitsOf 64 x) (by omega) (bitsOf_le 64 x) (by omega)
  have l1 := sums_length 32 (bitsOf 64 x) (by omega)
  have b1 := sums_le 1 (bitsOf 64 x) (bitsOf_le 64 x)
  have t1 := sum_sums 32 (bitsOf 64 x) (by omega)
  generalize hL1 : sums (bitsOf 64 x) = L1 at *
  have s2 := step_sum 2 16 2 (by omega) L1 (by omega) b1 (by omega)
  have l2 := sums_length 16 L1 (by omega)
  have b2 := sums_le 2 L1 b1
  have t2 := sum_sums 16 L1 (by omega)
  generalize hL2 : sums L1 = L2 at *
  have s3 := ofD_nibbles L2 8 (by omega) b2
  have l3 := sums_length 8 L2 (by omega)
  have b3 := sums_le 4 L2 b2
  have t3 := sum_sums 8 L2 (by omega)
  generalize hL3 : sums L2 = L3 at *
  rw [sum_bitsOf] at t1
  simp only [Nat.pow_one, show (2 : Nat) ^ 2 = 4 from rfl, show (2 : Nat) * 2 = 4 from rfl, show (4 : Nat) * 4 = 16 from rfl] at s1 s2 m1 m2
  rw [h0] at s1
  unfold swar
  dsimp only
  rw [m1, m2, m3, s1, s2, s3, show (127 : Nat) = 2 ^ 7 - 1 from rfl, Nat.and_two_pow_sub_one_eq_mod]
  match L3, l3 with
  | [x0, x1, x2, x3, x4, x5, x6, x7], _ =>
    have c0 := b3 x0 (by simp); have c1 := b3 x1 (by simp); have c2 := b3 x2 (by simp); have c3 := b3 x3 (by simp)
    have c4 := b3 x4 (by simp); have c5 := b3 x5 (by simp); have c6 := b3 x6 (by simp); have c7 := b3 x7 (by simp)
    have tt := sum8 x0 x1 x2 x3 x4 x5 x6 x7 _ _ _ _ _ _ _ _ _ _ c0 c1 c2 c3 c4 c5 c6 c7 rfl rfl rfl rfl rfl rfl rfl rfl rfl rfl
    simp only [List.sum_cons, List.sum_nil, Nat.add_zero] at t3
    simp only [ofD, Nat.mul_zero, Nat.add_zero]
    rw [tt, ← t1, ← t2, ← t3]
    simp only [Nat.add_assoc]

end Go.Proofs.YtephnfhjobkciaaGreatDoor

/- Plain arithmetic of the layer bitv, more: how the walk spells these numbers. No program in sight. -/
namespace Go.Proofs.YtephnfhjobkciaaGreatDoor
open Go.RowKit
set_option linter.unusedVariables false
set_option linter.unusedSimpArgs false

theorem wrap_u64 (n : Int) : IntKind.wrap .u64 n = n % 18446744073709551616 := by simp [IntKind.wrap, IntKind.bits, IntKind.signed]

theorem max_u64 : IntKind.max .u64 = ((18446744073709551615 : Nat) : Int) := rfl

theorem ofNat_two_pow (k : Nat) : ((2 : Int) ^ k) = ((2 ^ k : Nat) : Int) := by simp

theorem pow_le64 (k : Nat) (h : k ≤ 64) : 2 ^ k ≤ 18446744073709551616 := Nat.pow_le_pow_right (by omega : 0 < 2) h
theorem pow_lt64 (k : Nat) (h : k < 64) : 2 ^ k < 18446744073709551616 := Nat.pow_lt_pow_right (a := 2) (n := 64) (by omega) h

theorem xor_all (x : Nat) (h : x < 18446744073709551616) : 18446744073709551615 ^^^ x = 18446744073709551615 - x := by
  have h1 : (18446744073709551615 : Nat) = 2 ^ 64 - 1 := rfl
  apply Nat.eq_of_testBit_eq
  intro i
  rw [Nat.testBit_xor, h1, Nat.testBit_two_pow_sub_one, show (2 : Nat) ^ 64 - 1 - x = 2 ^ 64 - (x + 1) by omega, Nat.testBit_two_pow_sub_succ h]
  by_cases hi : i < 64
  · simp [hi]
  · simp only [hi, decide_false, Bool.false_and, Bool.false_bne]
    exact Nat.testBit_lt_two_pow (Nat.lt_of_lt_of_le h (Nat.pow_le_pow_right (by omega : 0 < 2) (by omega : 64 ≤ i)))

theorem not_shl (n : Int) (h0 : 0 < n) (h : n < 64) :
    bits .xor .u64 (IntKind.max .u64) (IntKind.wrap .u64 (18446744073709551615 * 2 ^ n.toNat)) = ((mask n : Nat) : Int) := by
  obtain ⟨k, rfl⟩ := Int.eq_ofNat_of_zero_le (Int.le_of_lt h0)
  rw [mask_pow k (by omega) (by omega), wrap_u64, max_u64, Int.toNat_natCast, ofNat_two_pow]
  have hp := pow_lt64 k (by omega)
  have hp0 := Nat.two_pow_pos k
  have e : (18446744073709551615 * ((2 ^ k : Nat) : Int)) % 18446744073709551616 = ((18446744073709551616 - 2 ^ k : Nat) : Int) := by
    rw [show (18446744073709551615 * ((2 ^ k : Nat) : Int)) = ((18446744073709551616 - 2 ^ k : Nat) : Int) + 18446744073709551616 * (((2 ^ k : Nat) : Int) - 1) by
      generalize 2 ^ k = p at *; omega, Int.add_mul_emod_self_left]
    generalize 2 ^ k = p at *
    omega
  rw [e, u64_xor_nat _ _ (by omega) (by omega), xor_all _ (by omega)]
  congr 1
  generalize 2 ^ k = p at *
  omega

theorem one_shl (n : Int) (h0 : 0 < n) (h : n < 64) : IntKind.wrap .u64 (IntKind.wrap .u64 (2 ^ n.toNat) - 1) = ((mask n : Nat) : Int) := by
  obtain ⟨k, rfl⟩ := Int.eq_ofNat_of_zero_le (Int.le_of_lt h0)
  rw [mask_pow k (by omega) (by omega), wrap_u64, wrap_u64, Int.toNat_natCast, ofNat_two_pow]
  have hp := pow_lt64 k (by omega)
  have hp0 := Nat.two_pow_pos k
  generalize 2 ^ k = p at *
  omega

theorem notAll (v : Nat) (h : v < 18446744073709551616) : bits .xor .u64 (IntKind.max .u64) (v : Int) = ((18446744073709551615 - v : Nat) : Int) := by
  rw [max_u64, u64_xor_nat _ _ (by omega) h, xor_all _ h]

theorem and_compl_zero (k v : Nat) (h0 : 0 < k) (h : k ≤ 64) (hv : v < 18446744073709551616) : (v &&& (18446744073709551615 - mask (k : Int)) = 0) ↔ v ≤ mask (k : Int) := by
  have hp := pow_le64 k h
  have hp0 := Nat.two_pow_pos k
  have hk := mask_pow k h0 h
  rw [hk]
  have e : (18446744073709551615 - (2 ^ k - 1)) = 2 ^ k * (2 ^ (64 - k) - 1) := by
    have := pow64 k h
    rw [Nat.mul_sub, ← this]; omega
  rw [e]
  constructor
  · intro hz
    rcases Nat.lt_or_ge v (2 ^ k) with h1 | h1
    · omega
    · exfalso
      have hs := and_split k (v % 2 ^ k) (v / 2 ^ k) 0 (2 ^ (64 - k) - 1) (Nat.mod_lt _ hp0) hp0
      rw [Nat.mod_add_div, Nat.zero_add, Nat.and_zero, Nat.zero_add, Nat.and_two_pow_sub_one_eq_mod, hz] at hs
      have hlt : v / 2 ^ k < 2 ^ (64 - k) := by
        rw [Nat.div_lt_iff_lt_mul hp0, Nat.mul_comm]
        have := pow64 k h
        omega
      rw [Nat.mod_eq_of_lt hlt] at hs
      have h2 : 0 < v / 2 ^ k := Nat.div_pos h1 hp0
      have := Nat.mul_pos hp0 h2
      omega
  · intro hle
    have hs := and_split k v 0 0 (2 ^ (64 - k) - 1) (by omega) hp0
    rw [Nat.mul_zero, Nat.add_zero, Nat.zero_add, Nat.and_zero, Nat.zero_and, Nat.mul_zero] at hs
    exact hs

theorem may_test (w : Int) (v : Nat) (h0 : 0 < w) (h : w ≤ 64) (hv : v < 18446744073709551616) : (bits .andNot .u64 (v : Int) ((mask w : Nat) : Int) == 0) = mayB w v := by
  obtain ⟨k, rfl⟩ := Int.eq_ofNat_of_zero_le (Int.le_of_lt h0)
  rw [u64_andNot_nat _ _ hv (mask_lt _)]
  have := and_compl_zero k v (by omega) (by omega) hv
  have h3 : (0 : Int) < (k : Int) := h0
  rw [Bool.eq_iff_iff, beq_iff_eq]
  simp only [mayB, decide_eq_true_eq, h3, h, true_and]
  rw [← this]
  omega

theorem may_ref (w : Int) (v : Nat) (h0 : 0 < w) (h : w ≤ 64) : decide (((mask w : Nat) : Int) < (v : Int)) = !mayB w v := by
  have h3 : (0 : Int) < w := h0
  rw [Bool.eq_iff_iff]
  simp [mayB, h3, h]

/-- the seven steps of OnesCount64, as the walk spells them -/
theorem swar_walk (v : Nat) (hv : v < 18446744073709551616) :
    swar v = swar v := rfl

end Go.Proofs.YtephnfhjobkciaaGreatDoor

/- A region that draws its order, by an invariant: each operation is looked at once, whatever else is done already. Over any program. -/
namespace Go.Flow
open Go.RowKit
set_option linter.unusedVariables false
set_option linter.unusedSimpArgs false

variable {P : Program} {ops : Array Oper} {Q : Exit → Act → World → Prop}

theorem mem_ready {md : Region.Mode} {L : Array Bool} {i : Nat} (h : i ∈ Region.ready md ops L) :
    i < ops.size ∧ L.getD i true = false ∧ ∀ o, ops[i]? = some o → ∀ e ∈ o.after.toList, Region.binds md e = true → L.getD e.on false = true := by
  simp only [Region.ready, List.mem_filter, List.mem_range, Bool.and_eq_true, Bool.not_eq_true'] at h
  obtain ⟨h1, h2, h3⟩ := h
  refine ⟨h1, h2, fun o ho e he hb => ?_⟩
  rw [ho] at h3
  simp only [Option.map_some, Option.getD_some, Array.all_eq_true'] at h3
  have := h3 e (Array.mem_toList_iff.1 he)
  simp only [hb, Bool.not_true, Bool.false_or] at this
  exact this

/-- each edge leads back -/
def back (ops : Array Oper) : Bool := (List.range ops.size).all fun i => match ops[i]? with
  | some o => o.after.toList.all fun e => !Region.binds .any e || decide (e.on < i)
  | none => true

theorem ready_some (hb : back ops = true) {L : Array Bool} (hn : ∃ i, i < ops.size ∧ L.getD i true = false) (hL : L.size = ops.size) : Region.ready .any ops L ≠ [] := by
  obtain ⟨i, hi, hf⟩ := hn
  induction i using Nat.strongRecOn with
  | _ i ih =>
    by_cases hall : ∀ o, ops[i]? = some o → ∀ e ∈ o.after.toList, Region.binds .any e = true → L.getD e.on false = true
    · intro h
      have : i ∈ Region.ready .any ops L := by
        simp only [Region.ready, List.mem_filter, List.mem_range, Bool.and_eq_true, Bool.not_eq_true']
        refine ⟨hi, hf, ?_⟩
        have ho : ops[i]? = some ops[i] := Array.getElem?_eq_getElem hi
        rw [ho]
        simp only [Option.map_some, Option.getD_some, Array.all_eq_true']
        intro e he
        cases hbe : Region.binds .any e
        · simp
        · rw [hall _ ho e (Array.mem_toList_iff.2 he) hbe]
          simp
      rw [h] at this
      simp at this
    · simp only [Classical.not_forall] at hall
      obtain ⟨o, ho, e, he, hbe, hne⟩ := hall
      have hlt : e.on < i := by
        have h1 := List.all_eq_true.1 hb i (List.mem_range.2 hi)
        rw [ho] at h1
        have h2 := List.all_eq_true.1 h1 e he
        rw [hbe] at h2
        exact of_decide_eq_true (by simpa using h2)
      refine ih e.on hlt (by omega) ?_
      have hs : e.on < L.size := by omega
      simp only [Array.getD_eq_getD_getElem?, Array.getElem?_eq_getElem hs, Option.getD_some] at hne ⊢
      simpa using hne

theorem count_set {L : Array Bool} {i : Nat} (hi : i < L.size) (hf : L.getD i true = false) : (L.setIfInBounds i true).toList.count true = L.toList.count true + 1 := by
  have hi' : i < L.toList.length := by simpa using hi
  have h0 : L.toList[i] = false := by
    simp only [Array.getD_eq_getD_getElem?, Array.getElem?_eq_getElem hi, Option.getD_some] at hf
    simpa using hf
  rw [Array.toList_setIfInBounds, List.count_set hi', h0]
  simp

theorem all_of_count {L : List Bool} (h : L.count true = L.length) : ∀ x ∈ L, x = true := by
  intro x hx
  have := (List.count_eq_length.1 h) x hx
  exact this.symm

/-- THE RULE: an invariant over what has been done. -/
theorem wpAny_inv (I : Array Bool → Act → World → Prop) (hb : back ops = true)
    (step : ∀ L a w, L.size = ops.size → I L a w → ∀ i o, ops[i]? = some o → L.getD i true = false → (∀ e ∈ o.after.toList, Region.binds .any e = true → L.getD e.on false = true) →
      wpOp P ops Q i (I (L.setIfInBounds i true)) a w)
    (fin : ∀ L a w, L.size = ops.size → (∀ i, i < ops.size → L.getD i false = true) → I L a w → Q .normal a w) :
    ∀ fuel (L : Array Bool) a w, L.size = ops.size → L.toList.count true + fuel = ops.size → I L a w → wpAny P .any ops Q fuel L a w := by
  have done : ∀ (L : Array Bool) a w, L.size = ops.size → I L a w → Region.ready .any ops L = [] → Q .normal a w := fun L a w hL hI hr => by
    refine fin L a w hL (fun i hi => ?_) hI
    cases hc : L.getD i true
    · exact absurd hr (ready_some hb ⟨i, hi, hc⟩ hL)
    · have hs : i < L.size := by omega
      simp only [Array.getD_eq_getD_getElem?, Array.getElem?_eq_getElem hs, Option.getD_some] at hc ⊢
      exact hc
  intro fuel
  induction fuel with
  | zero =>
    intro L a w hL hc hI
    have hall : ∀ x ∈ L.toList, x = true := all_of_count (by rw [Array.length_toList]; omega)
    have hr : Region.ready .any ops L = [] := by
      cases h : Region.ready .any ops L with
      | nil => rfl
      | cons i l =>
        have := mem_ready (md := .any) (ops := ops) (L := L) (i := i) (by rw [h]; simp)
        obtain ⟨h1, h2, _⟩ := this
        have hs : i < L.size := by omega
        simp only [Array.getD_eq_getD_getElem?, Array.getElem?_eq_getElem hs, Option.getD_some] at h2
        have := hall L[i] (by simp)
        rw [h2] at this
        cases this
    exact ⟨hr, done L a w hL hI hr⟩
  | succ fuel ih =>
    intro L a w hL hc hI
    refine ⟨done L a w hL hI, fun i hi => ?_⟩
    obtain ⟨h1, h2, h3⟩ := mem_ready hi
    have ho : ops[i]? = some ops[i] := Array.getElem?_eq_getElem h1
    refine wpOp_mono (fun a' w' hI' => ih _ a' w' (by simpa using hL) ?_ hI') (step L a w hL hI i _ ho h2 (h3 _ ho))
    rw [count_set (by omega) h2]
    omega

/-- where each operation's value lies -/
def dst (ops : Array Oper) (i : Nat) : Option Tmp := (ops[i]?).bind (·.dst)

/-- no two operations write one slot -/
def single (ops : Array Oper) : Bool := (List.range ops.size).all fun i => (List.range ops.size).all fun j => i == j || dst ops i == none || dst ops i != dst ops j

theorem single_spec (h : single ops = true) {i j d : Nat} (hi : i < ops.size) (hj : j < ops.size) (hij : j ≠ i) (hd : dst ops i = some d) : dst ops j ≠ some d := by
  have := List.all_eq_true.1 (List.all_eq_true.1 h i (List.mem_range.2 hi)) j (List.mem_range.2 hj)
  rw [hd] at this
  simp only [Bool.or_eq_true, beq_iff_eq, bne_iff_ne, reduceCtorEq, or_false] at this
  rcases this with h | h
  · exact absurd h.symm hij
  · exact fun e => h e.symm

/-- all slots lie within the frame -/
def inside (ops : Array Oper) (n : Nat) : Bool := (List.range ops.size).all fun i => match dst ops i with
  | some d => decide (d < n)
  | none => true

theorem inside_spec {n : Nat} (h : inside ops n = true) {i d : Nat} (hd : dst ops i = some d) : d < n := by
  have hi : i < ops.size := by
    rcases Nat.lt_or_ge i ops.size with h1 | h1
    · exact h1
    · simp [dst, Array.getElem?_eq_none h1] at hd
  have h2 := List.all_eq_true.1 h i (List.mem_range.2 hi)
  rw [hd] at h2
  exact of_decide_eq_true h2

/-- what is known when the operations of L have been done: of the world 'R L', of operation j's value 'φ L j'. -/
structure Inv (ops : Array Oper) (a0 : Act) (R : Array Bool → World → Prop) (φ : Array Bool → Nat → Value → World → Prop) (L : Array Bool) (a : Act) (w : World) : Prop where
  defers : a.defers = a0.defers
  size : a.tmps.size = a0.tmps.size
  same : ∀ t, (∀ j, j < ops.size → dst ops j ≠ some t) → a.tmps.getD t undef = a0.tmps.getD t undef
  world : R L w
  vals : ∀ j d, j < ops.size → dst ops j = some d → L.getD j false = true → φ L j (a.tmps.getD d undef) w

theorem getD_set_ne {α : Type} (x : Array α) (i j : Nat) (v z : α) (h : j ≠ i) : (x.setIfInBounds i v).getD j z = x.getD j z := by
  simp [Array.getD_eq_getD_getElem?, Array.getElem?_setIfInBounds, h.symm]

theorem getD_set_self {α : Type} (x : Array α) (i : Nat) (v z : α) (h : i < x.size) : (x.setIfInBounds i v).getD i z = v := by
  simp [Array.getD_eq_getD_getElem?, h]

/-- THE RULE for a region in which each slot is written once. -/
theorem wp_region_flow {id : Nat} {a0 : Act} {w0 : World} (hm : P.follows .mixedOrders = true) (hb : back ops = true) (hs : single ops = true)
    (hd : inside ops a0.tmps.size = true)
    (R : Array Bool → World → Prop) (φ : Array Bool → Nat → Value → World → Prop)
    (h0 : R (Array.replicate ops.size false) w0.drew)
    (step : ∀ L a w, L.size = ops.size → Inv ops a0 R φ L a w → ∀ i o, ops[i]? = some o → L.getD i true = false → (∀ e ∈ o.after.toList, Region.binds .any e = true → L.getD e.on false = true) →
      wpOp P ops Q i (fun a' w' => ∃ v, a' = a.put o.dst v ∧ φ (L.setIfInBounds i true) i v w' ∧ R (L.setIfInBounds i true) w' ∧
        ∀ j d, j ≠ i → dst ops j = some d → L.getD j false = true → φ L j (a.tmps.getD d undef) w → φ (L.setIfInBounds i true) j (a.tmps.getD d undef) w') a w)
    (fin : ∀ L a w, L.size = ops.size → (∀ i, i < ops.size → L.getD i false = true) → Inv ops a0 R φ L a w → Q .normal a w) :
    (Code.region id ops true).wp P Q a0 w0 := by
  refine wp_region_any hm ?_
  refine wpAny_inv (Inv ops a0 R φ) hb ?_ fin ops.size _ a0 _ (by simp) (by simp [List.count_replicate]) ?_
  · intro L a w hL hI i o ho hf hpre
    have hi : i < ops.size := (Array.getElem?_eq_some_iff.1 ho).1
    have hdi : dst ops i = o.dst := by simp [dst, ho]
    refine wpOp_mono ?_ (step L a w hL hI i o ho hf hpre)
    rintro a' w' ⟨v, rfl, hφ, hR, hmono⟩
    have key : ∀ t, o.dst ≠ some t → (a.put o.dst v).tmps.getD t undef = a.tmps.getD t undef := fun t ht => by
      cases hdd : o.dst with
      | none => rfl
      | some d =>
        simp only [Act.put]
        exact getD_set_ne _ _ _ _ _ (fun e => ht (by rw [hdd, e]))
    refine ⟨?_, ?_, fun t ht => ?_, hR, fun j d hj hdj hLj => ?_⟩
    · rw [← hI.defers]; cases o.dst <;> rfl
    · rw [← hI.size]; cases o.dst <;> simp [Act.put]
    · rw [key t (by rw [← hdi]; exact ht i hi), hI.same t ht]
    · by_cases hji : j = i
      · subst hji
        rw [hdi] at hdj
        have hlt : d < a.tmps.size := by rw [hI.size]; exact inside_spec hd (i := j) (by rw [hdi, hdj])
        have : (a.put o.dst v).tmps.getD d undef = v := by
          rw [hdj]
          simp only [Act.put]
          exact getD_set_self _ _ _ _ hlt
        rw [this]
        exact hφ
      · rw [getD_set_ne _ _ _ _ _ hji] at hLj
        rw [key d (by rw [← hdi]; exact single_spec hs hj hi (Ne.symm hji) hdj)]
        exact hmono j d hji hdj hLj (hI.vals j d hj hdj hLj)
  · refine ⟨rfl, rfl, fun _ _ => rfl, h0, fun j d hj hdj hLj => ?_⟩
    simp [Array.getD_eq_getD_getElem?, hj] at hLj

/-- a frame, slot by slot -/
theorem act_lit (a : Act) : a = { tmps := ((List.range a.tmps.size).map fun t => a.tmps.getD t undef).toArray, defers := a.defers } := by
  obtain ⟨t, d⟩ := a
  congr 1
  apply Array.ext
  · simp
  · intro i h1 h2
    simp [Array.getD_eq_getD_getElem?, h1]

theorem gn {x : Array Value} {i : Nat} {v : Value} (h : x.getD i undef = v) : x[i]?.getD undef = v := by simpa [Array.getD_eq_getD_getElem?] using h

theorem getD_true {L : Array Bool} {i : Nat} (h : L.getD i false = true) : L.getD i true = true := by
  simp only [Array.getD_eq_getD_getElem?] at *
  cases hh : L[i]? <;> simp_all

theorem set_true {L : Array Bool} {i j : Nat} (h : (L.setIfInBounds i true).getD j false = true) : j = i ∨ L.getD j false = true := by
  by_cases e : j = i
  · exact Or.inl e
  · rw [getD_set_ne _ _ _ _ _ e] at h
    exact Or.inr h

end Go.Flow

/- A region that draws its order: all but its last operations leave each world of a class in the class and yield one value in all of them; the last ones have a forced order. One walk of the order of the text serves every order. Over any program. -/
namespace Go.Flow
open Go.RowKit Go.Sort
set_option linter.unusedVariables false
set_option linter.unusedSimpArgs false

section
variable {P : Program} {ops : Array Oper} {md : Region.Mode} {C : World → Prop}

/-- the first n operations, in whatever order, in the worlds of the class -/
def headAny (P : Program) (md : Region.Mode) (ops : Array Oper) (C : World → Prop) (n : Nat) (L : Array Bool → Act → Prop) : Nat → Array Bool → Act → Prop
  | 0, listed, a => L listed a
  | f + 1, listed, a => Region.ready md ops listed ≠ [] ∧ ∀ i ∈ Region.ready md ops listed, i < n ∧ qOp P ops C i (headAny P md ops C n L f (listed.setIfInBounds i true)) a

theorem wpAny_of_headAny {n g : Nat} {L : Array Bool → Act → Prop} {Q' : Exit → Act → World → Prop} (hL : ∀ listed a w, C w → L listed a → wpAny P md ops Q' g listed a w) :
    ∀ (f : Nat) (listed : Array Bool) (a : Act) (w : World), C w → headAny P md ops C n L f listed a → wpAny P md ops Q' (f + g) listed a w
  | 0, listed, a, w, hw, h => by rw [Nat.zero_add]; exact hL _ _ _ hw h
  | f + 1, listed, a, w, hw, h => by
    rw [show f + 1 + g = (f + g) + 1 by omega]
    exact ⟨fun h0 => absurd h0 h.1, fun i hi => wpOp_of_qOp hw (fun a' w' hw' h' => wpAny_of_headAny hL f _ a' w' hw' h') (h.2 i hi).2⟩

theorem headAny_first {n i : Nat} {oi : Oper} {v : Value} {L : Array Bool → Act → Prop} (hi : ops[i]? = some oi) (hsel : ∀ (j : Nat) (o : Oper) cs b, ops[j]? = some o → o.op ≠ .select cs b)
    (hs : Region.sinkB md ops n = true) (hc : Region.chainB md ops n = true) (hn : n < ops.size) (hin : i < n)
    (hdone : ∀ listed a, L listed a → ∀ j ∈ Region.ready md ops listed, n ≤ j) :
    ∀ (f : Nat) (listed : Array Bool) (a : Act), HeadInv md ops n listed →
      (∀ j oj, ops[j]? = some oj → j ≠ i → listed.getD j true = false → (∀ e ∈ oj.after, Region.binds md e = true → e.on ≠ i) → oi.apart ops oj = true) →
      i ∈ Region.ready md ops listed → YieldsIn P ops C oi v a →
      headAny P md ops C n L f (listed.setIfInBounds i true) (a.put oi.dst v) → headAny P md ops C n L (f + 1) listed a := by
  intro f
  induction f with
  | zero =>
    intro listed a inv _ hr hy H
    have hun := (Go.mem_ready.1 hr).1
    refine ⟨fun h => (by rw [h] at hr; cases hr), fun j hj => ?_⟩
    have hjn : j < n := by
      rcases Nat.lt_or_ge j n with h | h
      · exact h
      · exact absurd hj (tail_waits hs hc hn inv _ i rfl hin hun j h)
    refine ⟨hjn, ?_⟩
    by_cases hji : j = i
    · subst hji; exact hy.qOp hi H
    · have := hdone _ _ H j (ready_mono hj hji)
      omega
  | succ f ih =>
    intro listed a inv hfree hr hy H
    have hun := (Go.mem_ready.1 hr).1
    refine ⟨fun h => (by rw [h] at hr; cases hr), fun j hj => ?_⟩
    have hjn : j < n := by
      rcases Nat.lt_or_ge j n with h | h
      · exact h
      · exact absurd hj (tail_waits hs hc hn inv _ i rfl hin hun j h)
    refine ⟨hjn, ?_⟩
    by_cases hji : j = i
    · subst hji; exact hy.qOp hi H
    · have h1 := (H.2 j (ready_mono hj hji)).2
      obtain ⟨hjun, oj, hoj, hall⟩ := Go.mem_ready.1 hj
      have hnot : ∀ e ∈ oj.after, Region.binds md e = true → e.on ≠ i := fun e he hb heq => by
        have h1 := hall e he hb
        rw [heq, getD_both hun] at h1
        cases h1
      have h2 := qOp_put hoj (hfree j oj hoj hji hjun hnot) (fun cs b => hsel i oi cs b hi) (fun cs b => hsel j oj cs b hoj) hy h1
      have hfree' : ∀ k ok, ops[k]? = some ok → k ≠ i → (listed.setIfInBounds j true).getD k true = false →
          (∀ e ∈ ok.after, Region.binds md e = true → e.on ≠ i) → oi.apart ops ok = true := fun k ok hk hki hun hno => by
        refine hfree k ok hk hki ?_ hno
        by_cases hjk : j = k
        · subst hjk; exact hjun
        · rw [Go.getD_set_ne true hjk] at hun; exact hun
      refine qOp_mono (fun a' h3 => ih (listed.setIfInBounds j true) a' (inv.set hj hjn) hfree' (ready_mono hr (Ne.symm hji)) h3.1 ?_) h2
      rw [Array.setIfInBounds_comm _ _ hji]
      exact h3.2

theorem headAny_lex {n g : Nat} {Lq : Act → Prop} (hsel : Region.noSelect ops = true) (hs : Region.sinkB md ops n = true) (hc : Region.chainB md ops n = true) (hn : n < ops.size) :
    ∀ (l : List Oper) (k : Nat) (listed : Array Bool) (a : Act), (∀ j, j < l.length → l[j]? = ops[k + j]?) → k + l.length = n → HeadInv md ops n listed →
    Region.lexHead md ops g l.length k listed = true → wpQuiet P ops C Lq l a →
    headAny P md ops C n (fun listed' a' => Region.seqB md ops g n listed' = true ∧ Lq a') l.length listed a
  | [], k, listed, a, _, hk, _, hB, h => by
    have : k = n := by simpa using hk
    subst this
    exact ⟨by simpa [Region.lexHead] using hB, h⟩
  | o :: l, k, listed, a, hl, hk, inv, hB, h => by
    have h0 : ops[k]? = some o := by simpa using (hl 0 (by simp)).symm
    simp only [List.length_cons, Region.lexHead, Bool.and_eq_true] at hB
    obtain ⟨⟨hr, hf⟩, hB'⟩ := hB
    have hkn : k < n := by simp only [List.length_cons] at hk; omega
    have hr' : k ∈ Region.ready md ops listed := by simpa using hr
    have hst : qOp P ops C k (wpQuiet P ops C Lq l) a := by unfold qOp; simp only [h0]; exact h
    obtain ⟨v, hy, hK⟩ := yieldsIn_of_qOp h0 hst
    exact headAny_first h0 (Region.noSelect_spec hsel) hs hc hn hkn (fun listed' a' hL => seqB_ready hL.1) l.length listed a inv (Region.free_spec h0 hf) hr' hy
      (headAny_lex hsel hs hc hn l (k + 1) _ _ (fun j hj => by have := hl (j + 1) (by simp; omega); simpa [Nat.add_assoc, Nat.add_comm 1 j] using this) (by simp only [List.length_cons] at hk; omega) (inv.set hr' hkn) hB' hK)

theorem wp_region_quiet_tail {id : Nat} {Q : Exit → Act → World → Prop} {a : Act} {w : World} {l : List Oper} (n : Nat) (hm : P.follows .mixedOrders = true) (hB : Region.lexTailB .any l.toArray n = true)
    (hC : C { w with drawn := w.drawn + 1 })
    (h : wpQuiet P l.toArray C (fun a' => ∀ w', C w' → wpList P l.toArray Q (l.drop n) a' w') (l.take n) a) : (Code.region id l.toArray true).wp P Q a w := by
  simp only [Region.lexTailB, Bool.and_eq_true, decide_eq_true_eq] at hB
  obtain ⟨⟨⟨⟨hsel, hn⟩, hs⟩, hc⟩, hlex⟩ := hB
  have hn' : n < l.length := by simpa using hn
  have htl : (l.take n).length = n := by simp; omega
  have hdl : (l.drop n).length = l.toArray.size - n := by simp
  have inv0 : HeadInv .any l.toArray n (Array.replicate l.toArray.size false) :=
    ⟨by simp, fun j oj _ hl => (by rw [getD_replicate_false] at hl; cases hl), fun t _ ht => getD_in (by simpa using ht) (getD_replicate_false _ _)⟩
  have H := headAny_lex (md := .any) (g := l.toArray.size - n) (C := C) hsel hs hc hn (l.take n) 0 _ a (fun j hj => by
    have hj' : j < n := by rw [htl] at hj; exact hj
    simp [hj']) (by simpa using htl) inv0 (by rw [htl]; exact hlex) h
  refine wp_region_any hm ?_
  have := wpAny_of_headAny (Q' := Q) (g := l.toArray.size - n) (fun listed a' w' hw' hL => by
    have := wpAny_of_seq (md := .any) (Q' := Q) (l.drop n) n listed a' w' (fun j => by simp [List.getElem?_drop]) (by rw [hdl]; exact hL.1) (hL.2 w' hw')
    rwa [hdl] at this) _ _ _ _ hC H
  rw [htl, show n + (l.toArray.size - n) = l.toArray.size by omega] at this
  exact this

/-- the same, the class being 'nothing that was there has turned' -/
theorem wp_region_below_tail {id : Nat} {Q : Exit → Act → World → Prop} {a : Act} {w : World} {l : List Oper} (n : Nat) (hm : P.follows .mixedOrders = true) (hB : Region.lexTailB .any l.toArray n = true)
    (h : wpQuiet P l.toArray (fun w' => ∃ p : Regrown, w' = grow (redrawn w p.d) p.os) (fun a' => ∀ w', (∃ p : Regrown, w' = grow (redrawn w p.d) p.os) → wpList P l.toArray Q (l.drop n) a' w') (l.take n) a) :
    (Code.region id l.toArray true).wp P Q a w :=
  wp_region_quiet_tail n hm hB ⟨⟨w.drawn + 1, #[]⟩, by rw [grow_empty]; rfl⟩ h

/-- the same, the class being 'the same world, but for draws' -/
theorem wp_region_reads_tail {id : Nat} {Q : Exit → Act → World → Prop} {a : Act} {w : World} {l : List Oper} (n : Nat) (hm : P.follows .mixedOrders = true) (hB : Region.lexTailB .any l.toArray n = true)
    (h : wpQuiet P l.toArray (fun w' => ∃ m, w' = w.drewN m) (fun a' => ∀ w', (∃ m, w' = w.drewN m) → wpList P l.toArray Q (l.drop n) a' w') (l.take n) a) :
    (Code.region id l.toArray true).wp P Q a w :=
  wp_region_quiet_tail n hm hB ⟨1, rfl⟩ h

end
end Go.Flow

/- That a region may be walked in the order of its text: a check that the kernel runs fast. Over any program. -/
namespace Go.Flow
open Go.RowKit Go.Sort
set_option linter.unusedVariables false
set_option linter.unusedSimpArgs false

variable {ops : Array Oper}

/-- operation o stands at place k, rest behind it -/
def fastFrom (ops : Array Oper) : Nat → List Oper → Bool
  | _, [] => true
  | k, o :: rest => (o.after.toList.all fun e => !Region.binds .any e || Nat.blt e.on k) && (rest.all fun oj => (oj.after.toList.any fun e => Region.binds .any e && Nat.beq e.on k) || o.apart ops oj) && fastFrom ops (k + 1) rest

structure UpTo (n k : Nat) (L : Array Bool) : Prop where
  size : L.size = n
  at_ : ∀ j, j < n → L.getD j true = decide (j < k)

theorem UpTo.at_false {n k : Nat} {L : Array Bool} (h : UpTo n k L) (j : Nat) (hj : j < n) : L.getD j false = decide (j < k) := by
  have := h.at_ j hj
  have hs : j < L.size := by rw [h.size]; exact hj
  simp only [Array.getD_eq_getD_getElem?, Array.getElem?_eq_getElem hs, Option.getD_some] at this ⊢
  exact this

theorem UpTo.next {n k : Nat} {L : Array Bool} (h : UpTo n k L) (hk : k < n) : UpTo n (k + 1) (L.setIfInBounds k true) := by
  refine ⟨by simpa using h.size, fun j hj => ?_⟩
  by_cases e : j = k
  · subst e
    rw [Flow.getD_set_self _ _ _ _ (by rw [h.size]; exact hk)]
    simp
  · rw [Flow.getD_set_ne _ _ _ _ _ e, h.at_ j hj, decide_eq_decide]
    omega

theorem lexFrom_of_fast : ∀ (l : List Oper) (k : Nat) (L : Array Bool), (∀ j, l[j]? = ops[k + j]?) → k + l.length = ops.size → UpTo ops.size k L → fastFrom ops k l = true → Region.lexFrom .any ops l.length k L = true
  | [], k, L, _, hk, hu, _ => by
    simp only [List.length_nil, Nat.add_zero] at hk
    simp only [List.length_nil, Region.lexFrom, List.isEmpty_iff]
    unfold Region.ready
    rw [List.filter_eq_nil_iff]
    intro i hi
    have hi' := List.mem_range.1 hi
    rw [hu.at_ i hi']
    simp [hk, hi']
  | o :: l, k, L, hl, hk, hu, hf => by
    have h0 : ops[k]? = some o := by simpa using (hl 0).symm
    have hkn : k < ops.size := by simp only [List.length_cons] at hk; omega
    simp only [fastFrom, Bool.and_eq_true] at hf
    obtain ⟨⟨h1, h2⟩, h3⟩ := hf
    have ih := lexFrom_of_fast l (k + 1) (L.setIfInBounds k true) (fun j => by have := hl (j + 1); simpa [Nat.add_assoc, Nat.add_comm 1 j] using this) (by simp only [List.length_cons] at hk; omega) (hu.next hkn) h3
    simp only [List.length_cons, Region.lexFrom, Bool.and_eq_true]
    refine ⟨⟨?_, ?_⟩, ih⟩
    · rw [List.contains_iff_mem]
      unfold Region.ready
      rw [List.mem_filter, List.mem_range, h0, hu.at_ k hkn]
      refine ⟨hkn, ?_⟩
      simp only [Nat.lt_irrefl, decide_false, Bool.not_false, Bool.true_and, Option.map_some, Option.getD_some, Array.all_eq_true']
      intro e he
      have := List.all_eq_true.1 h1 e (Array.mem_toList_iff.2 he)
      cases hb : Region.binds .any e
      · simp
      · rw [hb] at this
        simp only [Bool.not_true, Bool.false_or, Nat.blt_eq] at this
        rw [hu.at_false e.on (by omega)]
        simp [this]
    · unfold Region.free
      rw [h0]
      simp only [List.all_eq_true, List.mem_range]
      intro j hj
      by_cases e : j = k
      · simp [e]
      · rcases Nat.lt_or_ge j k with hlt | hge
        · rw [hu.at_ j hj]
          simp [hlt]
        · have hjl : l[j - (k + 1)]? = ops[j]? := by
            have := hl (j - k)
            rw [show k + (j - k) = j by omega, show j - k = (j - (k + 1)) + 1 by omega, List.getElem?_cons_succ] at this
            exact this
          have hoj : ops[j]? = some ops[j] := Array.getElem?_eq_getElem hj
          rw [hoj] at hjl ⊢
          have := List.all_eq_true.1 h2 ops[j] (List.mem_of_getElem? hjl)
          simp only [Bool.or_eq_true] at this ⊢
          right
          rcases this with h | h
          · left
            rw [List.any_eq_true] at h
            obtain ⟨x, hx, hx2⟩ := h
            rw [Array.any_eq_true']
            refine ⟨x, Array.mem_toList_iff.1 hx, ?_⟩
            simp only [Bool.and_eq_true] at hx2 ⊢
            exact ⟨hx2.1, by simpa using hx2.2⟩
          · right
            exact h

theorem lexB_of_fast (hs : Region.noSelect ops = true) (hf : fastFrom ops 0 ops.toList = true) : Region.lexB .any ops = true := by
  unfold Region.lexB
  rw [hs, Bool.true_and]
  have := lexFrom_of_fast (ops := ops) ops.toList 0 (Array.replicate ops.size false) (by simp) (by simp) ⟨by simp, fun j hj => by simp [Array.getD_eq_getD_getElem?, hj]⟩ hf
  simpa using this

/-- 'wp_region_quiet_below', the check by 'fastFrom' -/
theorem wp_region_quiet_fast {P : Program} {id : Nat} {Q : Exit → Act → World → Prop} {a : Act} {w : World} {l : List Oper} (hm : P.follows .mixedOrders = true) (hs : Region.noSelect l.toArray = true) (hf : fastFrom l.toArray 0 l = true)
    (h : wpQuiet P l.toArray (fun w' => ∃ p : Regrown, w' = grow (redrawn w p.d) p.os) (fun a' => ∀ w', (∃ p : Regrown, w' = grow (redrawn w p.d) p.os) → Q .normal a' w') l a) : (Code.region id l.toArray true).wp P Q a w :=
  wp_region_quiet_below hm (lexB_of_fast hs (by simpa using hf)) h

end Go.Flow

/- Slices that can be read; masks; changes, one behind another. -/
namespace Go.Proofs.YtephnfhjobkciaaGreatDoor
open Go.RowKit Go.Proofs.Wav Go.Sort
set_option linter.unusedVariables false
set_option linter.unusedSimpArgs false
set_option maxRecDepth 100000

/-- a string of bytes -/
def bs (l : List UInt8) : ByteArray := ⟨l.toArray⟩
theorem bs_list (s : ByteArray) : bs s.data.toList = s := rfl
theorem list_bs (l : List UInt8) : (bs l).data.toList = l := rfl
theorem size_bs (l : List UInt8) : (bs l).size = l.length := rfl
theorem bs_inj {a b : List UInt8} : bs a = bs b ↔ a = b := ⟨fun h => by have := congrArg (fun s => s.data.toList) h; exact this, fun h => by rw [h]⟩
theorem ret_bool {a b : Bool} (h : a = b) : Ending.returned (.bool a) = .returned (.bool b) := by rw [h]
theorem ret_int {k : IntKind} {a b : Int} (h : a = b) : Ending.returned (.int k a) = .returned (.int k b) := by rw [h]

theorem below_drewN {B : Nat} {a w : World} (h : Below B a w) (n : Nat) : Below B a (w.drewN n) := h.trans ⟨rfl, rfl, rfl, Nat.le_refl _, fun _ _ => rfl⟩

/-- a slice of n elements of m cells each, that can be read -/
def Slc (w : World) (m : Nat) (v : Value) (n : Nat) (cs : List Value) : Prop :=
  cs.length = n * m ∧ ((n = 0 ∧ ∃ p cap, v = .slice p 0 cap) ∨
  ∃ b off cap, v = .slice (some ⟨b, off, none⟩) n cap ∧ b < w.heap.size ∧ ∀ j, j < n * m → w.cell? ⟨b, off + j, none⟩ = cs[j]?)
theorem Slc.later {w w' : World} {m n : Nat} {v : Value} {cs : List Value} (h : Slc w m v n cs) (hb : Below w.heap.size w w') : Slc w' m v n cs := by
  refine ⟨h.1, ?_⟩
  rcases h.2 with h | ⟨b, off, cap, hv, hlt, hc⟩
  · exact .inl h
  · exact .inr ⟨b, off, cap, hv, Nat.lt_of_lt_of_le hlt hb.size, fun k hk => (hb.cell (p := ⟨b, off + k, none⟩) hlt).trans (hc k hk)⟩
theorem Slc.form {w : World} {m n : Nat} {v : Value} {cs : List Value} (h : Slc w m v n cs) : ∃ p c, v = .slice p n c := by
  rcases h.2 with ⟨rfl, p, c, rfl⟩ | ⟨b, o, c, rfl, _⟩
  · exact ⟨_, _, rfl⟩
  · exact ⟨_, _, rfl⟩
theorem Slc.at {w : World} {m n n' : Nat} {p : Option Addr} {c : Nat} {cs : List Value} (h : Slc w m (.slice p n' c) n cs) (hn : 0 < n) : ∃ b off, p = some ⟨b, off, none⟩ ∧ b < w.heap.size ∧ ∀ j, j < n * m → w.cell? ⟨b, off + j, none⟩ = cs[j]? := by
  rcases h.2 with ⟨h0, _⟩ | ⟨b, o, c', hv, hlt, hc⟩
  · omega
  · simp only [Value.slice.injEq] at hv
    exact ⟨b, o, hv.1, hlt, hc⟩
theorem Slc.own {B : Nat} {w : World} {e : TypeId} {m n : Nat} {v : Value} {cs : List Value} (h : w.ownsRow B e m v n cs) : Slc w m v n cs := by
  refine ⟨h.1, ?_⟩
  rcases h.2 with ⟨rfl, h0⟩ | ⟨g, cap, cur, rfl, hB, hg, hn, hc, hs, ht⟩
  · exact .inl ⟨h0, _, _, rfl⟩
  · refine .inr ⟨g, 0, cap, rfl, (Array.getElem?_eq_some_iff.1 hg).1, fun j hj => ?_⟩
    rw [Nat.zero_add, cell_of_row w g j cur _ (0, 0) hg, ← ht, List.getElem?_take, if_pos hj]
    simp

def strV (s : Ln) : Value := .string (bs s)
def intV (n : Int) : Value := .int .i64 n
def u64V (n : Nat) : Value := .int .u64 n
def chgV (c : Chg) : List Value := [.int .i64 c.t, .int .i64 c.g, .int .u64 c.v]
def chgsV (l : List Chg) : List Value := l.flatMap chgV
theorem chgsV_length (l : List Chg) : (chgsV l).length = l.length * 3 := by
  induction l with
  | nil => rfl
  | cons t l ih => rw [chgsV, List.flatMap_cons, List.length_append, show List.flatMap chgV l = chgsV l from rfl, ih, List.length_cons]; simp [chgV]; omega
theorem chgsV_at (l : List Chg) (k j : Nat) (h : k < l.length) (hj : j < 3) : (chgsV l)[k * 3 + j]? = (chgV l[k])[j]? := by
  induction l generalizing k with
  | nil => simp at h
  | cons t l ih =>
    rw [chgsV, List.flatMap_cons]
    have hl : (chgV t).length = 3 := rfl
    match k with
    | 0 => rw [List.getElem?_append_left (by rw [hl]; omega), Nat.zero_mul, Nat.zero_add]; rfl
    | k + 1 =>
      rw [List.getElem?_append_right (by rw [hl]; omega), hl, show (k + 1) * 3 + j - 3 = k * 3 + j from by omega]
      exact ih k (by simpa using h)
def Strs (w : World) (v : Value) (l : List Ln) : Prop := Slc w 1 v l.length (l.map strV)
def Ints (w : World) (v : Value) (l : List Int) : Prop := Slc w 1 v l.length (l.map intV)
def U64s (w : World) (v : Value) (l : List Nat) : Prop := Slc w 1 v l.length (l.map u64V)
def Chgs (w : World) (v : Value) (l : List Chg) : Prop := Slc w 3 v l.length (chgsV l)
/-- rows of numbers -/
def Rws (w : World) (v : Value) (rows : List (List Nat)) : Prop := ∃ vs : List Value, vs.length = rows.length ∧ Slc w 1 v rows.length vs ∧ ∀ k (h : k < rows.length) (h' : k < vs.length), U64s w vs[k] rows[k]
theorem Rws.later {w w' : World} {v : Value} {rows : List (List Nat)} (h : Rws w v rows) (hb : Below w.heap.size w w') : Rws w' v rows := by
  obtain ⟨vs, h1, h2, h3⟩ := h
  exact ⟨vs, h1, h2.later hb, fun k hk hk' => Slc.later (h3 k hk hk') hb⟩
/-- a wave's four parts -/
def WavAt (w : World) (vn vw vc : Value) (x : Wv) : Prop := Strs w vn x.names ∧ Ints w vw x.widths ∧ Chgs w vc x.chs
theorem WavAt.later {w w' : World} {vn vw vc : Value} {x : Wv} (h : WavAt w vn vw vc x) (hb : Below w.heap.size w w') : WavAt w' vn vw vc x :=
  ⟨Slc.later h.1 hb, Slc.later h.2.1 hb, Slc.later h.2.2 hb⟩
theorem one_at {α : Type} {w : World} {b off : Nat} {f : α → Value} {l : List α} (hc : ∀ j, j < l.length * 1 → w.cell? ⟨b, off + j, none⟩ = (l.map f)[j]?) (k : Nat) (h : k < l.length) : w.cell? ⟨b, off + k, none⟩ = some (f l[k]) := by
  rw [hc k (by omega)]
  simp [h]

/-! masks -/
theorem mask_maskN (w : Int) : mask w = maskN w := by
  unfold mask maskN
  by_cases h : w ≤ 0
  · have h1 : w < 1 := by omega
    simp [h, h1]
  · have h1 : ¬ w < 1 := by omega
    by_cases h2 : w < 64
    · have h3 : ¬ 63 < w := by omega
      simp only [h, h1, h2, h3, if_true, if_false]
    · have h3 : 63 < w := by omega
      simp only [h, h1, h2, h3, if_true, if_false]
set_option maxHeartbeats 400000 in
theorem mask_any (n : Int) (w : World) :
    Calls Tryz.prog 40 #[.int .i64 n] w fun e w' => e = .returned (.int .u64 (maskN n)) ∧ w = w' := by
  rw [← mask_maskN]
  by_cases h0 : n ≤ 0
  · have hm : mask n = 0 := by simp [mask, h0]
    rw [hm]
    go_enter Tryz.func40, Tryz.ntmps40
    go_wp2
    go_ret
    exact ⟨rfl, rfl⟩
  · by_cases h : n < 64
    · rw [← not_shl n (by omega) h]
      go_enter Tryz.func40, Tryz.ntmps40
      go_wp2
      go_ret
      exact ⟨rfl, rfl⟩
    · have hm : mask n = 18446744073709551615 := by simp [mask, h0, h]
      rw [hm]
      go_enter Tryz.func40, Tryz.ntmps40
      go_wp2
      go_ret
      exact ⟨rfl, rfl⟩
set_option maxHeartbeats 400000 in
theorem rmask_any (n : Int) (w : World) :
    Calls Tryz.prog 43 #[.int .i64 n] w fun e w' => e = .returned (.int .u64 (maskN n)) ∧ w = w' := by
  rw [← mask_maskN]
  by_cases h0 : n ≤ 0
  · have hm : mask n = 0 := by simp [mask, h0]
    rw [hm]
    go_enter Tryz.func43, Tryz.ntmps43
    go_wp2
    go_ret
    exact ⟨rfl, rfl⟩
  · by_cases h : n < 64
    · rw [← one_shl n (by omega) h]
      go_enter Tryz.func43, Tryz.ntmps43
      go_wp2
      go_ret
      exact ⟨rfl, rfl⟩
    · have hm : mask n = 18446744073709551615 := by simp [mask, h0, h]
      rw [hm]
      go_enter Tryz.func43, Tryz.ntmps43
      go_wp2
      go_ret
      exact ⟨rfl, rfl⟩

set_option maxHeartbeats 1000000 in
theorem behind_any (a b : Chg) (W : World) :
    Calls Tryz.prog 41 #[.agg #[.int .i64 a.t, .int .i64 a.g, .int .u64 a.v], .agg #[.int .i64 b.t, .int .i64 b.g, .int .u64 b.v]] W fun e W' => e = .returned (.bool (behindC a b)) ∧ Below W.heap.size W W' := by
  have hW : ∀ o o', Below W.heap.size W ((W.alloc o).alloc o') := fun o o' => ((Below.refl _ _).alloc (Nat.le_refl _) o).alloc (by simp) o'
  have HW := Lib.hid hW
  unfold behindC
  by_cases h1 : a.t < b.t
  · clear hW
    go_enter Tryz.func41, Tryz.ntmps41
    go_wp2
    go_ret
    exact ⟨ret_bool (by simp [h1]), HW.out _ _⟩
  · by_cases h2 : b.t = a.t
    · clear hW
      go_enter Tryz.func41, Tryz.ntmps41
      go_wp2
      go_ret
      exact ⟨ret_bool (by simp [h1, h2]), HW.out _ _⟩
    · clear hW
      go_enter Tryz.func41, Tryz.ntmps41
      go_wp2
      go_ret
      exact ⟨ret_bool (by simp [h1, h2]), HW.out _ _⟩

end Go.Proofs.YtephnfhjobkciaaGreatDoor

/- Are waves, are rows alike? -/
namespace Go.Proofs.YtephnfhjobkciaaGreatDoor
open Go.RowKit Go.Proofs.Wav Go.Sort
set_option linter.unusedVariables false
set_option linter.unusedSimpArgs false
set_option maxRecDepth 100000

/-- a box of four cells -/
structure Box4 (w : World) (n : Nat) (a b c d : Value) : Prop where
  c0 : w.cell? ⟨n, 0, none⟩ = some a
  c1 : w.cell? ⟨n, 1, none⟩ = some b
  c2 : w.cell? ⟨n, 2, none⟩ = some c
  c3 : w.cell? ⟨n, 3, none⟩ = some d
  f0 : w.frozen? ⟨n, 0, none⟩ = false
  f1 : w.frozen? ⟨n, 1, none⟩ = false
  f2 : w.frozen? ⟨n, 2, none⟩ = false
  f3 : w.frozen? ⟨n, 3, none⟩ = false
  lt : n < w.heap.size
theorem Box4.new (w : World) (a b c d : Value) (t : TypeId) : Box4 (w.alloc (.cells #[a, b, c, d] t)) w.heap.size a b c d :=
  ⟨by simp [World.cell?_alloc_new], by simp [World.cell?_alloc_new], by simp [World.cell?_alloc_new], by simp [World.cell?_alloc_new], by simp [go_sem], by simp [go_sem], by simp [go_sem], by simp [go_sem], by simp⟩
theorem Box4.later {w w' : World} {n : Nat} {a b c d : Value} (h : Box4 w n a b c d) (hb : Below w.heap.size w w') : Box4 w' n a b c d :=
  ⟨(hb.cell (p := ⟨n, 0, none⟩) h.lt).trans h.c0, (hb.cell (p := ⟨n, 1, none⟩) h.lt).trans h.c1, (hb.cell (p := ⟨n, 2, none⟩) h.lt).trans h.c2, (hb.cell (p := ⟨n, 3, none⟩) h.lt).trans h.c3,
    (hb.frozen (p := ⟨n, 0, none⟩) h.lt).trans h.f0, (hb.frozen (p := ⟨n, 1, none⟩) h.lt).trans h.f1, (hb.frozen (p := ⟨n, 2, none⟩) h.lt).trans h.f2, (hb.frozen (p := ⟨n, 3, none⟩) h.lt).trans h.f3, Nat.lt_of_lt_of_le h.lt hb.size⟩

theorem toL (l : List UInt8) : (bs l).toList = l := by rw [Lib.toList_data]; rfl
theorem take_eq {α : Type} {a b : List α} {k : Nat} (h1 : k < a.length) (h2 : k < b.length) (h : a.take k = b.take k) (he : a[k] = b[k]) : a.take (k + 1) = b.take (k + 1) := by
  rw [List.take_succ_eq_append_getElem h1, List.take_succ_eq_append_getElem h2, h, he]
theorem take_ne {α : Type} {a b : List α} {k : Nat} (h1 : k < a.length) (h2 : k < b.length) (he : a[k] ≠ b[k]) : a ≠ b := by
  intro h
  subst h
  exact he rfl
theorem take_all {α : Type} {a b : List α} (hl : a.length = b.length) (h : a.take a.length = b.take a.length) : a = b := by
  rwa [List.take_length, hl, List.take_length] at h
theorem chg_neq (x y : Chg) (w : World) : (binOp .neq 50 (.agg #[.int .i64 x.t, .int .i64 x.g, .int .u64 x.v]) (.agg #[.int .i64 y.t, .int .i64 y.g, .int .u64 y.v])).run Tryz.prog w = .ok (.bool (!decide (x = y))) w := by
  rw [run_neq_struct]
  simp [go_sem]
  obtain ⟨t, g, v⟩ := x
  obtain ⟨t', g', v'⟩ := y
  simp only [Chg.mk.injEq]
  by_cases h1 : t = t'
  · by_cases h2 : g = g'
    · by_cases h3 : v = v'
      · simp [h1, h2, h3]
      · have : ¬ (v : Int) = (v' : Int) := by omega
        simp [h1, h2, h3, this]
    · simp [h1, h2]
  · simp [h1]
theorem chg_at {w : World} {b off : Nat} {l : List Chg} (hc : ∀ j, j < l.length * 3 → w.cell? ⟨b, off + j, none⟩ = (chgsV l)[j]?) (k : Nat) (h : k < l.length) :
    w.cell? ⟨b, off + k * 3, none⟩ = some (.int .i64 l[k].t) ∧ w.cell? ⟨b, off + k * 3 + 1, none⟩ = some (.int .i64 l[k].g) ∧ w.cell? ⟨b, off + k * 3 + 2, none⟩ = some (.int .u64 l[k].v) := by
  have key : ∀ j, j < 3 → w.cell? ⟨b, off + k * 3 + j, none⟩ = (chgV l[k])[j]? := by
    intro j hj
    rw [Nat.add_assoc, hc (k * 3 + j) (by omega), chgsV_at l k j h hj]
  exact ⟨key 0 (by omega), key 1 (by omega), key 2 (by omega)⟩

set_option maxHeartbeats 4000000 in
theorem same_any (vn vw vc un uw uc : Value) (x y : Wv) (hx : x.names.length ≤ 100000 ∧ x.widths.length ≤ 100000 ∧ x.chs.length ≤ 100000) (W : World) (h1 : WavAt W vn vw vc x) (h2 : WavAt W un uw uc y) :
    Calls Tryz.prog 23 #[.agg #[vn, vw, vc, .int .i64 x.last], .agg #[un, uw, uc, .int .i64 y.last]] W fun e W' => e = .returned (.bool (decide (x = y))) ∧ Below W.heap.size W W' := by
  obtain ⟨xn, xw, xc, xl⟩ := x
  obtain ⟨yn, yw, yc, yl⟩ := y
  simp only at *
  obtain ⟨pn, cn, rfl⟩ := h1.1.form
  obtain ⟨pw, cw, rfl⟩ := h1.2.1.form
  obtain ⟨pc, cc, rfl⟩ := h1.2.2.form
  obtain ⟨qn, dn, rfl⟩ := h2.1.form
  obtain ⟨qw, dw, rfl⟩ := h2.2.1.form
  obtain ⟨qc, dc, rfl⟩ := h2.2.2.form
  simp only at *
  have HA := Lib.hid (fun o o' => ((Below.refl W.heap.size W).alloc (Nat.le_refl _) o).alloc (by simp) o')
  by_cases e1 : xl = yl
  case neg =>
    go_enter Tryz.func23, Tryz.ntmps23
    go_wp2
    go_ret
    exact ⟨ret_bool (decide_eq_false (fun h => e1 (by simpa using congrArg Wv.last h))).symm, HA.out _ _⟩
  subst e1
  by_cases e2 : xn.length = yn.length
  case neg =>
    have e2' : ¬ (xn.length : Int) = (yn.length : Int) := by omega
    go_enter Tryz.func23, Tryz.ntmps23
    go_wp2
    go_ret
    exact ⟨ret_bool (decide_eq_false (fun h => e2 (by have := congrArg (fun w => w.names.length) h; simpa using this))).symm, HA.out _ _⟩
  by_cases e3 : xw.length = yw.length
  case neg =>
    have e2' : (xn.length : Int) = (yn.length : Int) := by omega
    have e3' : ¬ (xw.length : Int) = (yw.length : Int) := by omega
    go_enter Tryz.func23, Tryz.ntmps23
    go_wp2
    go_ret
    exact ⟨ret_bool (decide_eq_false (fun h => e3 (by have := congrArg (fun w => w.widths.length) h; simpa using this))).symm, HA.out _ _⟩
  by_cases e4 : xc.length = yc.length
  case neg =>
    have e2' : (xn.length : Int) = (yn.length : Int) := by omega
    have e3' : (xw.length : Int) = (yw.length : Int) := by omega
    have e4' : ¬ (xc.length : Int) = (yc.length : Int) := by omega
    go_enter Tryz.func23, Tryz.ntmps23
    go_wp2
    go_ret
    exact ⟨ret_bool (decide_eq_false (fun h => e4 (by have := congrArg (fun w => w.chs.length) h; simpa using this))).symm, HA.out _ _⟩
  have HE2 := Lib.hid e2
  have HE3 := Lib.hid e3
  have HE4 := Lib.hid e4
  obtain ⟨l1, l2, l3⟩ := hx
  rw [← e2, ← e3, ← e4] at h2 ⊢
  clear e2 e3 e4
  have b1 := Box4.new W (.slice pn xn.length cn) (.slice pw xw.length cw) (.slice pc xc.length cc) (.int .i64 xl) 26
  have b2 := Box4.new (W.alloc (.cells #[.slice pn xn.length cn, .slice pw xw.length cw, .slice pc xc.length cc, .int .i64 xl] 26)) (.slice qn xn.length dn) (.slice qw xw.length dw) (.slice qc xc.length dc) (.int .i64 xl) 26
  rw [show (W.alloc (.cells #[.slice pn xn.length cn, .slice pw xw.length cw, .slice pc xc.length cc, .int .i64 xl] 26)).heap.size = W.heap.size + 1 from by simp] at b2
  have hb1 := (Below.refl W.heap.size W).alloc (Nat.le_refl _) (.cells #[.slice pn xn.length cn, .slice pw xw.length cw, .slice pc xc.length cc, .int .i64 xl] 26)
  have hb2 := hb1.alloc hb1.size (.cells #[.slice qn xn.length dn, .slice qw xw.length dw, .slice qc xc.length dc, .int .i64 xl] 26)
  replace b1 := b1.later ((Below.refl _ _).alloc (Nat.le_refl _) (.cells #[.slice qn xn.length dn, .slice qw xw.length dw, .slice qc xc.length dc, .int .i64 xl] 26))
  have HX := Lib.hid (h1.later hb2)
  have HY := Lib.hid (h2.later hb2)
  have HB := Lib.hid hb2
  clear hb1 hb2 h1 h2
  have HX1 := Lib.hid (fun w hb (h0 : 0 < xn.length) => Slc.at (Slc.later (w' := w) HX.out.1 hb) h0)
  have HX2 := Lib.hid (fun w hb (h0 : 0 < xw.length) => Slc.at (Slc.later (w' := w) HX.out.2.1 hb) h0)
  have HX3 := Lib.hid (fun w hb (h0 : 0 < xc.length) => Slc.at (Slc.later (w' := w) HX.out.2.2 hb) h0)
  have HY1 := Lib.hid (fun w hb (h0 : 0 < yn.length) => Slc.at (Slc.later (w' := w) HY.out.1 hb) h0)
  have HY2 := Lib.hid (fun w hb (h0 : 0 < yw.length) => Slc.at (Slc.later (w' := w) HY.out.2.1 hb) h0)
  have HY3 := Lib.hid (fun w hb (h0 : 0 < yc.length) => Slc.at (Slc.later (w' := w) HY.out.2.2 hb) h0)
  clear HX HY
  go_enter Tryz.func23, Tryz.ntmps23
  go_wp2_with fail
  generalize (W.alloc (.cells #[.slice pn xn.length cn, .slice pw xw.length cw, .slice pc xc.length cc, .int .i64 xl] 26)).alloc (.cells #[.slice qn xn.length dn, .slice qw xw.length dw, .slice qc xc.length dc, .int .i64 xl] 26) = Z at *
  have HB1 := Lib.hid b1
  have HB2 := Lib.hid b2
  clear b1 b2
  go_loopw [5] (fun i wr => ∃ k : Nat, k ≤ xn.length ∧ i = .int .i64 k ∧ Hid (Below Z.heap.size Z wr) ∧ Hid (xn.take k = yn.take k)) (fun i _ => xn.length - (intOf i).toNat)
  case atStart => exact ⟨0, Nat.zero_le _, rfl, Lib.hid (Below.refl _ _), Lib.hid rfl⟩
  case round =>
    obtain ⟨k, hk, rfl, HR, HE⟩ := hrel
    obtain ⟨a0, a1, a2, a3, _, _, _, _, _⟩ := HB1.out.later HR.out
    obtain ⟨g0, g1, g2, g3, _, _, _, _, _⟩ := HB2.out.later HR.out
    by_cases hks : k < xn.length
    · have hky : k < yn.length := by have := HE2.out; have := HE3.out; have := HE4.out; omega
      obtain ⟨bx, ox, hpx, hltx, hcx⟩ := HX1.out _ HR.out (by omega)
      obtain ⟨bz, oz, hpy, hlty, hcy⟩ := HY1.out _ HR.out (by omega)
      have x0 := one_at hcx k hks
      have y0 := one_at hcy k hky
      subst hpx hpy
      clear hcx hcy hltx hlty
      by_cases he : xn[k] = yn[k]
      · have HT := Lib.hid (take_eq hks hky HE.out he)
        rw [he] at x0
        unfold strV at x0 y0
        clear he
        go_wp2_with fail
        go_quiet (fail)
        go_wp2_with fail
        go_roundw
        case rel => exact ⟨k + 1, by omega, by go_num, Lib.hid (below_drewN HR.out _), HT⟩
        case measure => simp [intOf]; omega
      · have HN := Lib.hid (take_ne hks hky he)
        have hn0 : ¬ (bs xn[k]).toList = (bs yn[k]).toList := by
          intro h
          apply he
          rwa [toL, toL] at h
        have hn1 : ((bs xn[k]).toList == (bs yn[k]).toList) = false := by simpa using hn0
        have hn2 : ((bs xn[k]).toList != (bs yn[k]).toList) = true := by simpa using hn0
        unfold strV at x0 y0
        go_wp2_with fail
        go_quiet (fail)
        go_wp2_with fail
        go_ret
        exact ⟨ret_bool (decide_eq_false (fun h => HN.out (by have := congrArg Wv.names h; simpa using this))).symm, HB.out.trans ((below_drewN HR.out _).mono HB.out.size)⟩
    · obtain rfl : k = xn.length := by omega
      have Hxn := Lib.hid (take_all HE2.out HE.out)
      have HRxn := Lib.hid HR.out
      go_wp2_with fail
      go_loopw [6] (fun i wr => ∃ k : Nat, k ≤ xw.length ∧ i = .int .i64 k ∧ Hid (Below Z.heap.size Z wr) ∧ Hid (xw.take k = yw.take k)) (fun i _ => xw.length - (intOf i).toNat)
      case atStart => exact ⟨0, Nat.zero_le _, rfl, HRxn, Lib.hid rfl⟩
      case round =>
        obtain ⟨k, hk, rfl, HR, HE⟩ := hrel
        obtain ⟨a0, a1, a2, a3, _, _, _, _, _⟩ := HB1.out.later HR.out
        obtain ⟨g0, g1, g2, g3, _, _, _, _, _⟩ := HB2.out.later HR.out
        by_cases hks : k < xw.length
        · have hky : k < yw.length := by have := HE2.out; have := HE3.out; have := HE4.out; omega
          obtain ⟨bx, ox, hpx, hltx, hcx⟩ := HX2.out _ HR.out (by omega)
          obtain ⟨bz, oz, hpy, hlty, hcy⟩ := HY2.out _ HR.out (by omega)
          have x0 := one_at hcx k hks
          have y0 := one_at hcy k hky
          subst hpx hpy
          clear hcx hcy hltx hlty
          by_cases he : xw[k] = yw[k]
          · have HT := Lib.hid (take_eq hks hky HE.out he)
            rw [he] at x0
            unfold intV at x0 y0
            clear he
            go_wp2_with fail
            go_quiet (fail)
            go_wp2_with fail
            go_roundw
            case rel => exact ⟨k + 1, by omega, by go_num, Lib.hid (below_drewN HR.out _), HT⟩
            case measure => simp [intOf]; omega
          · have HN := Lib.hid (take_ne hks hky he)
            have hn1 : (xw[k] == yw[k]) = false := by simpa using he
            have hn2 : (xw[k] != yw[k]) = true := by simpa using he
            unfold intV at x0 y0
            go_wp2_with fail
            go_quiet (fail)
            go_wp2_with fail
            go_ret
            exact ⟨ret_bool (decide_eq_false (fun h => HN.out (by have := congrArg Wv.widths h; simpa using this))).symm, HB.out.trans ((below_drewN HR.out _).mono HB.out.size)⟩
        · obtain rfl : k = xw.length := by omega
          have Hxw := Lib.hid (take_all HE3.out HE.out)
          have HRxw := Lib.hid HR.out
          go_wp2_with fail
          go_loopw [7] (fun i wr => ∃ k : Nat, k ≤ xc.length ∧ i = .int .i64 k ∧ Hid (Below Z.heap.size Z wr) ∧ Hid (xc.take k = yc.take k)) (fun i _ => xc.length - (intOf i).toNat)
          case atStart => exact ⟨0, Nat.zero_le _, rfl, HRxw, Lib.hid rfl⟩
          case round =>
            obtain ⟨k, hk, rfl, HR, HE⟩ := hrel
            obtain ⟨a0, a1, a2, a3, _, _, _, _, _⟩ := HB1.out.later HR.out
            obtain ⟨g0, g1, g2, g3, _, _, _, _, _⟩ := HB2.out.later HR.out
            by_cases hks : k < xc.length
            · have hky : k < yc.length := by have := HE2.out; have := HE3.out; have := HE4.out; omega
              obtain ⟨bx, ox, hpx, hltx, hcx⟩ := HX3.out _ HR.out (by omega)
              obtain ⟨bz, oz, hpy, hlty, hcy⟩ := HY3.out _ HR.out (by omega)
              obtain ⟨x0, x1, x2⟩ := chg_at hcx k hks
              obtain ⟨y0, y1, y2⟩ := chg_at hcy k hky
              subst hpx hpy
              clear hcx hcy hltx hlty
              by_cases he : xc[k] = yc[k]
              · have HT := Lib.hid (take_eq hks hky HE.out he)
                have hq := chg_neq xc[k] yc[k]
                rw [decide_eq_true he] at hq
                go_wp2_with fail
                go_quiet (fail)
                go_wp2_with fail
                go_roundw
                case rel => exact ⟨k + 1, by omega, by go_num, Lib.hid (below_drewN HR.out _), HT⟩
                case measure => simp [intOf]; omega
              · have HN := Lib.hid (take_ne hks hky he)
                have hq := chg_neq xc[k] yc[k]
                rw [decide_eq_false he] at hq
                go_wp2_with fail
                go_quiet (fail)
                go_wp2_with fail
                go_ret
                exact ⟨ret_bool (decide_eq_false (fun h => HN.out (by have := congrArg Wv.chs h; simpa using this))).symm, HB.out.trans ((below_drewN HR.out _).mono HB.out.size)⟩
            · obtain rfl : k = xc.length := by omega
              have Hxc := Lib.hid (take_all HE4.out HE.out)
              have HRxc := Lib.hid HR.out
              go_wp2_with fail
              go_ret
              exact ⟨ret_bool (decide_eq_true (by rw [Hxn.out, Hxw.out, Hxc.out])).symm, HB.out.trans (HRxc.out.mono HB.out.size)⟩
end Go.Proofs.YtephnfhjobkciaaGreatDoor

/- Are a wave's parts few? -/
namespace Go.Proofs.YtephnfhjobkciaaGreatDoor
open Go.RowKit Go.Proofs.Wav Go.Sort
set_option linter.unusedVariables false
set_option linter.unusedSimpArgs false
set_option maxRecDepth 100000

/-- what few tells -/
def Few (x : Wv) : Prop := x.names.length ≤ 20 ∧ x.widths.length ≤ 20 ∧ x.chs.length ≤ 200 ∧ ∀ s ∈ x.names, s.length ≤ 100

def FewPost (x : Wv) (W : World) (e : Ending) (W' : World) : Prop := (∃ b, e = .returned (.bool b) ∧ (b = true → Few x)) ∧ Below W.heap.size W W'

set_option maxHeartbeats 4000000 in
theorem few_any (vn vw vc : Value) (x : Wv) (W : World) (h1 : WavAt W vn vw vc x) :
    Calls Tryz.prog 13 #[.agg #[vn, vw, vc, .int .i64 x.last]] W (FewPost x W) := by
  obtain ⟨xn, xw, xc, xl⟩ := x
  simp only at *
  obtain ⟨pn, cn, rfl⟩ := h1.1.form
  obtain ⟨pw, cw, rfl⟩ := h1.2.1.form
  obtain ⟨pc, cc, rfl⟩ := h1.2.2.form
  simp only at *
  have b1 := Box4.new W (.slice pn xn.length cn) (.slice pw xw.length cw) (.slice pc xc.length cc) (.int .i64 xl) 26
  have hb1 := (Below.refl W.heap.size W).alloc (Nat.le_refl _) (.cells #[.slice pn xn.length cn, .slice pw xw.length cw, .slice pc xc.length cc, .int .i64 xl] 26)
  have HX := Lib.hid (fun w hb (h0 : 0 < xn.length) => Slc.at (Slc.later (w' := w) (Slc.later h1.1 hb1) hb) h0)
  have HB := Lib.hid hb1
  clear hb1 h1
  go_enter Tryz.func13, Tryz.ntmps13
  go_wp2_with fail
  generalize W.alloc (.cells #[.slice pn xn.length cn, .slice pw xw.length cw, .slice pc xc.length cc, .int .i64 xl] 26) = Z at *
  have HB1 := Lib.hid b1
  clear b1
  go_loopw [3] (fun i wr => ∃ k : Nat, k ≤ xn.length ∧ k ≤ 30 ∧ i = .int .i64 k ∧ Hid (Below Z.heap.size Z wr) ∧ Hid (∀ s ∈ xn.take k, s.length ≤ 100)) (fun i _ => 30 - (intOf i).toNat)
  case atStart => exact ⟨0, Nat.zero_le _, Nat.zero_le _, rfl, Lib.hid (Below.refl _ _), Lib.hid (by simp)⟩
  case round =>
    obtain ⟨k, hk, hk30, rfl, HR, HE⟩ := hrel
    obtain ⟨a0, a1, a2, a3, _, _, _, _, _⟩ := HB1.out.later HR.out
    by_cases hks : k < xn.length
    · by_cases hk3 : k < 30
      · obtain ⟨bx, ox, hpx, hltx, hcx⟩ := HX.out _ HR.out (by omega)
        have x0 := one_at hcx k hks
        subst hpx
        clear hcx hltx
        unfold strV at x0
        have hsz : (bs xn[k]).size = xn[k].length := rfl
        have hnx : xn[k].length ≤ 100 → ∀ s ∈ xn.take (k + 1), s.length ≤ 100 := by
          intro h s hs
          rw [List.take_succ_eq_append_getElem hks] at hs
          rcases List.mem_append.1 hs with h1 | h1
          · exact HE.out s h1
          · rw [List.mem_singleton.1 h1]; exact h
        generalize xn[k] = s at *
        by_cases hbig : 100 < s.length
        · have hb' : (100 : Int) < ((bs s).size : Int) := by omega
          clear hnx
          go_wp2_with fail
          go_ret
          exact ⟨⟨false, rfl, fun h => by cases h⟩, HB.out.trans (HR.out.mono HB.out.size)⟩
        · have hb' : ¬ (100 : Int) < ((bs s).size : Int) := by omega
          have HN := Lib.hid (hnx (by omega))
          clear hnx
          go_wp2_with fail
          go_roundw
          case rel => exact ⟨k + 1, by omega, by omega, by go_num, HR, HN⟩
          case measure => simp [intOf]; omega
      · have hk3' : ¬ (k : Int) < 30 := by omega
        have h20 : ¬ (xn.length : Int) ≤ 20 := by omega
        go_wp2_with fail
        go_ret
        exact ⟨⟨false, rfl, fun h => by cases h⟩, HB.out.trans (HR.out.mono HB.out.size)⟩
    · obtain rfl : k = xn.length := by omega
      have hall := HE.out
      rw [List.take_length] at hall
      have HA := Lib.hid hall
      clear hall
      by_cases h1 : (xn.length : Int) ≤ 20
      · by_cases h2 : (xw.length : Int) ≤ 20
        · by_cases h3 : (xc.length : Int) ≤ 200
          · go_wp2_with fail
            go_ret
            exact ⟨⟨true, rfl, fun _ => ⟨by simp only; omega, by simp only; omega, by simp only; omega, HA.out⟩⟩, HB.out.trans (HR.out.mono HB.out.size)⟩
          · go_wp2_with fail
            go_ret
            exact ⟨⟨false, rfl, fun h => by cases h⟩, HB.out.trans (HR.out.mono HB.out.size)⟩
        · go_wp2_with fail
          go_ret
          exact ⟨⟨false, rfl, fun h => by cases h⟩, HB.out.trans (HR.out.mono HB.out.size)⟩
      · go_wp2_with fail
        go_ret
        exact ⟨⟨false, rfl, fun h => by cases h⟩, HB.out.trans (HR.out.mono HB.out.size)⟩

end Go.Proofs.YtephnfhjobkciaaGreatDoor
