/- Texts of the seat, merged. -/
import Derived.Test.YtlcfpdmicpggbaaGreatDoorB2
set_option linter.unusedVariables false
set_option linter.unusedSimpArgs false
set_option maxRecDepth 100000
set_option maxHeartbeats 16000000
namespace Go.Proofs.Scn
def numV (b : Nat) (l : List UInt8) : Nat := l.foldl (fun v c => v * b + figV c) 0
def allFig (b : Nat) (l : List UInt8) : Bool := l.all fun c => decide (figV c < b)
inductive Got where
 | tok (t : Tok) (n : Nat)
 | bad (e : Int)
deriving DecidableEq
def baseL (c : UInt8) : Nat := if c = 104 then 16 else if c = 100 then 10 else if c = 98 then 2 else 0
def wideL (d r : List UInt8) : Got :=
 match r with
 | [] => .bad 21
 | c :: r =>
  if baseL c = 0 then .bad 21
  else if (runL r).isEmpty || !allFig (baseL c) (runL r) then .bad 21
  else if decide (numV 10 d < two64) && decide (numV (baseL c) (runL r) < two64) && fitsV (numV 10 d) (numV (baseL c) (runL r)) then
   .tok ⟨3, [], numV 10 d, numV (baseL c) (runL r), 0⟩ (d.length + 2 + (runL r).length)
  else .bad 22
def plainL (d : List UInt8) : Got := if numV 10 d < two64 then .tok ⟨3, [], 0, numV 10 d, 0⟩ d.length else .bad 22
def figL (l : List UInt8) : Got :=
 match l.dropWhile isDigit with
 | [] => plainL (l.takeWhile isDigit)
 | c :: r => if c = 39 then wideL (l.takeWhile isDigit) r else if isLetter c then .bad 21 else plainL (l.takeWhile isDigit)
def tokL (l : List UInt8) : Got :=
 match l with
 | [] => .bad 20
 | c :: r =>
  if isLetter c then
   if 64 < (runL l).length then .bad 2 else .tok ⟨if isWord (runL l) then 2 else 1, runL l, 0, 0, 0⟩ (runL l).length
  else if isDigit c then figL l
  else if 2 ≤ l.length ∧ isSign (l.take 2) = true then .tok ⟨4, l.take 2, 0, 0, 0⟩ 2
  else if isSign (l.take 1) then .tok ⟨4, l.take 1, 0, 0, 0⟩ 1
  else .bad 20
def scanW (i : Nat) (l : List UInt8) : Except (Nat × Int) (List Tok) :=
 match l with
 | [] => .ok []
 | c :: r =>
  if isBlank c then scanW (i + 1) r
  else if c = 47 ∧ r.head? = some 47 then scanW (i + 1 + (r.takeWhile (· != 10)).length) (r.dropWhile (· != 10))
  else match tokL (c :: r) with
   | .bad e => .error (i, e)
   | .tok t n =>
    match scanW (i + n) (r.drop (n - 1)) with
    | .ok ts => .ok ({ t with p := i } :: ts)
    | .error x => .error x
termination_by l.length
decreasing_by
 all_goals simp_wf
 ·have := (List.dropWhile_sublist (l := r) (· != 10)).length_le; omega
 ·omega
theorem letter_not {c : UInt8} (h : isLetter c = true) : isDigit c = false ∧ isBlank c = false ∧ c ≠ 47 ∧ isPart c = true ∧ c ≠ 39 := by
 revert h
 refine forall_u8 (P := fun c => isLetter c = true → isDigit c = false ∧ isBlank c = false ∧ c ≠ 47 ∧ isPart c = true ∧ c ≠ 39) ?_ c
 decide
def Ends (r : List UInt8) : Prop := r = [] ∨ ∃ c u, r = c :: u ∧ (c = 32 ∨ c = 10)
theorem Ends.not {p : UInt8 → Bool} {r : List UInt8} (h : Ends r) (h1 : p 32 = false) (h2 : p 10 = false) : r = [] ∨ ∃ c u, r = c :: u ∧ p c = false := by
 rcases h with rfl | ⟨c, u, rfl, rfl | rfl⟩
 ·exact .inl rfl
 ·exact .inr ⟨_, _, rfl, h1⟩
 ·exact .inr ⟨_, _, rfl, h2⟩
theorem run_ends {l r : List UInt8} (hl : l.all isPart = true) (hr : Ends r) : runL (l ++ r) = l :=
 (takeWhile_ends hl (hr.not (by decide) (by decide))).1
theorem tok_word {s r : List UInt8} (hs : s.all isPart = true) (h0 : isLetter (s.headD 0) = true) (hl : s.length ≤ 64) (hr : Ends r) :
  tokL (s ++ r) = .tok ⟨if isWord s then 2 else 1, s, 0, 0, 0⟩ s.length := by
 match s, h0 with
 | [], h0 => simp [isLetter] at h0
 | c :: s, h0 =>
  have hc : isLetter c = true := h0
  have := run_ends hs hr
  rw [List.cons_append] at this ⊢
  rw [tokL, if_pos hc, this, if_neg (by omega)]
theorem tok_sign {s r : List UInt8} (h : isSign s = true) (hr : Ends r) : tokL (s ++ r) = .tok ⟨4, s, 0, 0, 0⟩ s.length := by
 obtain ⟨h1, h2, h3, h4, h5, h6, h7⟩ := sign_mem h
 match s, h5 with
 | [c], _ =>
  simp only [List.headD_cons] at h1 h2
  rw [List.singleton_append, tokL, if_neg (by simp [h1]), if_neg (by simp [h2])]
  have hn : ¬ (2 ≤ (c :: r).length ∧ isSign ((c :: r).take 2) = true) := by
   rintro ⟨ha, hb⟩
   rcases hr with rfl | ⟨d, u, rfl, rfl | rfl⟩
   ·simp at ha
   ·have := (sign_mem hb).2.2.2.2.2.1
    simp at this
   ·have := (sign_mem hb).2.2.2.2.2.2
    simp at this
  rw [if_neg hn, if_pos (by simpa using h)]
  rfl
 | [c, d], _ =>
  simp only [List.headD_cons] at h1 h2
  rw [List.cons_append, tokL, if_neg (by simp [h1]), if_neg (by simp [h2]), if_pos ⟨by simp, by simpa using h⟩]
  rfl
theorem fig_digit : ∀ n, n < 16 → figV (UInt8.ofNat (if n < 10 then 48 + n else 87 + n)) = n ∧ isPart (UInt8.ofNat (if n < 10 then 48 + n else 87 + n)) = true ∧ (n < 10 → isDigit (UInt8.ofNat (if n < 10 then 48 + n else 87 + n)) = true) := by decide
theorem numV_append (b : Nat) (l : List UInt8) (c : UInt8) : numV b (l ++ [c]) = numV b l * b + figV c := by simp [numV]
theorem digL_spec (b : Nat) (hb : 2 ≤ b) (hb' : b ≤ 16) : ∀ n, numV b (digL b n) = n ∧ (digL b n).all isPart = true ∧ allFig b (digL b n) = true ∧ (b ≤ 10 → (digL b n).all isDigit = true) ∧ (digL b n).isEmpty = false := by
 intro n
 induction n using Nat.strongRecOn with
 | _ n ih =>
  by_cases h : n < b ∨ b < 2
  ·have hn : n < b := by omega
   obtain ⟨f1, f2, f3⟩ := fig_digit n (by omega)
   rw [digL_lt h]
   generalize UInt8.ofNat (if n < 10 then 48 + n else 87 + n) = c at *
   simp [numV, allFig, f1, f2, hn]
   intro hb10
   exact f3 (by omega)
  ·obtain ⟨g1, g2, g3, g4, g5⟩ := ih (n / b) (Nat.div_lt_self (by omega) (by omega))
   have hm := Nat.mod_lt n (show 0 < b by omega)
   obtain ⟨f1, f2, f3⟩ := fig_digit (n % b) (by omega)
   rw [digL_ge h]
   generalize UInt8.ofNat (if n % b < 10 then 48 + n % b else 87 + n % b) = c at *
   refine ⟨?_, ?_, ?_, ?_, ?_⟩
   ·rw [numV_append, g1, f1]; have := Nat.div_add_mod n b; rw [Nat.mul_comm]; exact this
   ·simp [g2, f2]
   ·unfold allFig at *; simp only [List.all_append, g3, List.all_cons, List.all_nil, f1, hm]; rfl
   ·intro h10; simp [g4 h10, f3 (by omega)]
   ·simp
theorem figL_plain {d r : List UInt8} (hd : d.all isDigit = true) (hr : Ends r) : figL (d ++ r) = plainL d := by
 obtain ⟨e1, e2⟩ := takeWhile_ends hd (hr.not (p := isDigit) (by decide) (by decide))
 rw [figL, e1, e2]
 rcases hr with rfl | ⟨c, u, rfl, rfl | rfl⟩
 ·rfl
 ·simp only [if_neg (show ¬ (32 : UInt8) = 39 by decide)]; rfl
 ·simp only [if_neg (show ¬ (10 : UInt8) = 39 by decide)]; rfl
theorem figL_wide {d r : List UInt8} (hd : d.all isDigit = true) : figL (d ++ 39 :: r) = wideL d r := by
 obtain ⟨e1, e2⟩ := takeWhile_ends (p := isDigit) (r := 39 :: r) hd (.inr ⟨_, _, rfl, by decide⟩)
 rw [figL, e1, e2]
 simp
theorem tok_fig {d r : List UInt8} (hd : d.all isDigit = true) (h0 : d.isEmpty = false) : tokL (d ++ r) = figL (d ++ r) := by
 match d, h0 with
 | c :: d, _ =>
  simp only [List.all_cons, Bool.and_eq_true] at hd
  have := digit_not hd.1
  rw [List.cons_append, tokL, if_neg (by simp [this.1]), if_pos hd.1]
theorem tok_num {v : Nat} {r : List UInt8} (hv : v < two64) (hr : Ends r) : tokL (digL 10 v ++ r) = .tok ⟨3, [], 0, v, 0⟩ (digL 10 v).length := by
 obtain ⟨g1, g2, g3, g4, g5⟩ := digL_spec 10 (by decide) (by decide) v
 rw [tok_fig (g4 (by decide)) g5, figL_plain (g4 (by decide)) hr, plainL, g1, if_pos hv]
theorem tok_wide {w v : Nat} {r : List UInt8} (hw : w < two64) (hv : v < two64) (hf : fitsV w v = true) (hr : Ends r) :
  tokL (digL 10 w ++ [39, 104] ++ digL 16 v ++ r) = .tok ⟨3, [], w, v, 0⟩ (digL 10 w ++ [39, 104] ++ digL 16 v).length := by
 obtain ⟨g1, g2, g3, g4, g5⟩ := digL_spec 10 (by decide) (by decide) w
 obtain ⟨k1, k2, k3, k4, k5⟩ := digL_spec 16 (by decide) (by decide) v
 rw [List.append_assoc, List.append_assoc, tok_fig (g4 (by decide)) g5]
 simp only [List.cons_append, List.nil_append]
 rw [figL_wide (g4 (by decide)), wideL]
 simp only [show baseL 104 = 16 from rfl, run_ends k2 hr, k5, k3, k1, g1, hw, hv, hf]
 simp
 omega
theorem tok_one {t : Tok} {r : List UInt8} (ht : checkT t = true) (hv : t.v < two64) (hr : Ends r) : tokL (oneT t ++ r) = .tok { t with p := 0 } (oneT t).length := by
 unfold checkT at ht
 simp only [Bool.and_eq_true, decide_eq_true_eq] at ht
 obtain ⟨hp, ht⟩ := ht
 split at ht
 ·rename_i hk
  simp only [Bool.and_eq_true, beq_iff_eq, isName, decide_eq_true_eq, Bool.not_eq_true'] at ht
  obtain ⟨⟨h1, h2⟩, ⟨⟨⟨h3, h4⟩, h5⟩, h6⟩, h7⟩ := ht
  have e : oneT t = t.s := by rw [oneT, if_pos (by omega)]
  rw [e, tok_word h6 h5 h4 hr, h7]
  simp [← h1, ← h2, ← hk]
 ·split at ht
  ·rename_i hk
   simp only [Bool.and_eq_true, beq_iff_eq] at ht
   obtain ⟨⟨h1, h2⟩, h3⟩ := ht
   have hw := words_ok
   rw [List.all_eq_true] at hw
   have hw := hw t.s (by simpa [isWord] using h3)
   simp only [Bool.and_eq_true, decide_eq_true_eq] at hw
   have e : oneT t = t.s := by rw [oneT, if_pos (by omega)]
   rw [e, tok_word hw.1.1.1 hw.1.1.2 hw.1.2 hr, h3]
   simp [← h1, ← h2, ← hk]
  ·split at ht
   ·rename_i hk
    simp only [Bool.and_eq_true, beq_iff_eq] at ht
    obtain ⟨⟨h1, h2⟩, h3⟩ := ht
    have e : oneT t = t.s := by rw [oneT, if_pos (by omega)]
    rw [e, tok_sign h3 hr]
    simp [← h1, ← h2, ← hk]
   ·split at ht
    ·rename_i hk
     simp only [Bool.and_eq_true, Bool.or_eq_true, beq_iff_eq, List.isEmpty_iff] at ht
     obtain ⟨h1, h2⟩ := ht
     by_cases h0 : t.w = 0
     ·have e : oneT t = digL 10 t.v := by rw [oneT, if_neg (by omega), if_pos h0]
      rw [e, tok_num hv hr]
      simp [← h1, ← h0, ← hk]
     ·have hf : fitsV t.w t.v = true := by rcases h2 with h2 | h2; exact absurd h2 h0; exact h2
      have e : oneT t = digL 10 t.w.toNat ++ [39, 104] ++ digL 16 t.v := by rw [oneT, if_neg (by omega), if_neg h0]
      have hw : 1 ≤ t.w ∧ t.w ≤ 64 := by simp [fitsV] at hf; exact ⟨hf.1.1, hf.1.2⟩
      have hc : ((t.w.toNat : Nat) : Int) = t.w := Int.toNat_of_nonneg (by omega)
      rw [e, tok_wide (by unfold two64; omega) hv (by rw [hc]; exact hf) hr, hc]
      simp [← h1, ← hk]
    ·exact absurd ht (by simp)
theorem scanW_nil (i : Nat) : scanW i [] = .ok [] := by rw [scanW]
theorem scanW_blank (i : Nat) {c : UInt8} {r : List UInt8} (h : isBlank c = true) : scanW i (c :: r) = scanW (i + 1) r := by rw [scanW, if_pos h]
theorem scanW_note (i : Nat) {r : List UInt8} (h : r.head? = some 47) : scanW i (47 :: r) = scanW (i + 1 + (r.takeWhile (· != 10)).length) (r.dropWhile (· != 10)) := by
 rw [scanW, if_neg (by decide), if_pos ⟨rfl, h⟩]
theorem scanW_bad (i : Nat) {c : UInt8} {r : List UInt8} {e : Int} (h1 : isBlank c = false) (h2 : ¬ (c = 47 ∧ r.head? = some 47)) (h : tokL (c :: r) = .bad e) : scanW i (c :: r) = .error (i, e) := by
 rw [scanW, if_neg (by simp [h1]), if_neg h2, h]
theorem scanW_tok (i : Nat) {c : UInt8} {r : List UInt8} {t : Tok} {n : Nat} (h1 : isBlank c = false) (h2 : ¬ (c = 47 ∧ r.head? = some 47)) (h : tokL (c :: r) = .tok t n) :
  scanW i (c :: r) = match scanW (i + n) (r.drop (n - 1)) with | .ok ts => .ok ({ t with p := i } :: ts) | .error x => .error x := by
 rw [scanW, if_neg (by simp [h1]), if_neg h2, h]
theorem takeWhile_le {p : UInt8 → Bool} (l : List UInt8) : (l.takeWhile p).length ≤ l.length := (List.takeWhile_sublist p).length_le
theorem drop_takeWhile {p : UInt8 → Bool} (l : List UInt8) : l.drop (l.takeWhile p).length = l.dropWhile p := by
 induction l with
 | nil => rfl
 | cons a l ih =>
  rw [List.takeWhile_cons, List.dropWhile_cons]
  split
  ·simp [ih]
  ·rfl
theorem dropWhile_head {p : UInt8 → Bool} {l r : List UInt8} {c : UInt8} (h : l.dropWhile p = c :: r) : p c = false := by
 induction l with
 | nil => simp at h
 | cons a l ih =>
  rw [List.dropWhile_cons] at h
  split at h
  ·exact ih h
  ·rename_i hp; injection h with h1 h2; subst h1; simpa using hp
theorem numV_lt (b : Nat) (hb : 1 ≤ b) : ∀ (l : List UInt8), allFig b l = true → numV b l < b ^ l.length := by
 intro l
 suffices h : ∀ (l : List UInt8) (a k : Nat), a < b ^ k → l.all (fun c => decide (figV c < b)) = true → l.foldl (fun v c => v * b + figV c) a < b ^ (k + l.length) by
  intro hl
  have := h l 0 0 (by simp) hl
  simpa [numV] using this
 intro l
 induction l with
 | nil => intro a k ha _; simpa using ha
 | cons c l ih =>
  intro a k ha hl
  simp only [List.all_cons, Bool.and_eq_true, decide_eq_true_eq] at hl
  have h2 : (a + 1) * b ≤ b ^ k * b := Nat.mul_le_mul_right _ ha
  rw [Nat.add_mul, ← Nat.pow_succ, Nat.succ_eq_add_one] at h2
  have := ih (a * b + figV c) (k + 1) (by have := hl.1; omega) hl.2
  rw [List.foldl_cons, List.length_cons, show k + (l.length + 1) = k + 1 + l.length by omega]
  exact this
theorem fig_all (d : List UInt8) (h : d.all isDigit = true) : allFig 10 d = true := by
 unfold allFig
 rw [List.all_eq_true] at h ⊢
 intro c hc
 have := (digit_not (h c hc)).2.2.2.2.2
 simpa using this
theorem plain_is {l d : List UInt8} (hd : d.all isDigit = true) (h0 : 1 ≤ d.length) (hl : d.length ≤ l.length) (hh : isDigit (l.headD 0) = true) {t : Tok} {n : Nat} (h : plainL d = .tok t n) : TokIs l t n := by
 unfold plainL at h
 split at h
 ·rename_i hv
  injection h with h1 h2
  subst h1 h2
  refine ⟨h0, hl, ?_, hv, by simp, fun _ => ⟨hh, rfl⟩, by simp, ?_⟩
  ·intro p hp; simp [checkT, hp]
  ·rw [oneT, if_neg (by simp), if_pos rfl]
   exact digL_len 10 (by decide) _ _ h0 (numV_lt 10 (by decide) d (fig_all d hd))
 ·exact absurd h (by simp)
theorem pow_base_le {b k : Nat} (hb : b ≤ 16) : b ^ k ≤ 16 ^ k := Nat.pow_le_pow_left hb k
theorem wide_is {l d r : List UInt8} (hd : d.all isDigit = true) (h0 : 1 ≤ d.length) (hl : l = d ++ 39 :: r) (hh : isDigit (l.headD 0) = true) {t : Tok} {n : Nat} (h : wideL d r = .tok t n) : TokIs l t n := by
 unfold wideL at h
 match r with
 | [] => exact absurd h (by simp)
 | c :: r =>
  simp only at h
  split at h
  ·exact absurd h (by simp)
  ·rename_i hb
   split at h
   ·exact absurd h (by simp)
   ·rename_i hf
    split at h
    ·rename_i hv
     simp only [Bool.and_eq_true, decide_eq_true_eq] at hv
     simp only [Bool.or_eq_true, not_or, Bool.not_eq_true, Bool.not_eq_false', Bool.not_eq_true'] at hf
     injection h with h1 h2
     subst h1 h2
     obtain ⟨⟨hv1, hv2⟩, hv3⟩ := hv
     have hlen := takeWhile_le (p := isPart) r
     have hbc : baseL c ≤ 16 ∧ 1 ≤ baseL c := by unfold baseL at hb ⊢; split <;> (try split) <;> (try split) <;> simp_all
     have hf1 : 1 ≤ (runL r).length := by
      cases hq : runL r with
      | nil => simp [hq] at hf
      | cons => simp
     refine ⟨by omega, ?_, ?_, hv2, by simp, fun _ => ⟨hh, rfl⟩, by simp, ?_⟩
     ·rw [hl]; simp [runL] at *; omega
     ·intro p hp; simp [checkT, hp, hv3]
     ·have hw0 : ¬ ((numV 10 d : Nat) : Int) = 0 := by simp [fitsV] at hv3; omega
      rw [oneT, if_neg (by simp), if_neg hw0]
      have a1 := digL_len 10 (by decide) _ _ h0 (numV_lt 10 (by decide) d (fig_all d hd))
      have a2 := digL_len 16 (by decide) (runL r).length (numV (baseL c) (runL r)) hf1 (Nat.lt_of_lt_of_le (numV_lt _ hbc.2 _ (by simpa using hf.2)) (pow_base_le hbc.1))
      simp
      omega
    ·exact absurd h (by simp)
theorem tok_is {l : List UInt8} {t : Tok} {n : Nat} (h : tokL l = .tok t n) : TokIs l t n := by
 match l with
 | [] => exact absurd h (by simp [tokL])
 | c :: r =>
  rw [tokL] at h
  split at h
  ·rename_i hc
   have hp := (letter_not hc).2.2.2.1
   have hrun : runL (c :: r) = c :: r.takeWhile isPart := by rw [runL, List.takeWhile_cons, if_pos hp]
   split at h
   ·exact absurd h (by simp)
   ·rename_i hlen
    injection h with h1 h2
    subst h1 h2
    have hall := all_takeWhile (p := isPart) (c :: r)
    have htk := take_takeWhile (p := isPart) (c :: r)
    have hle := takeWhile_le (p := isPart) (c :: r)
    have hh : isLetter ((runL (c :: r)).headD 0) = true := by rw [hrun]; exact hc
    have he : (runL (c :: r)).isEmpty = false := by rw [hrun]; rfl
    refine ⟨by rw [hrun]; simp, hle, ?_, by simp [two64], fun _ => htk.symm, ?_, ?_, ?_⟩
    ·intro p hp
     by_cases hw : isWord (runL (c :: r)) = true
     ·simp [checkT, hw, hp]
     ·have : isName (runL (c :: r)) = true := by
       simp only [isName, he, hh, Bool.not_false, Bool.true_and, Bool.and_eq_true, decide_eq_true_eq, Bool.not_eq_true']
       exact ⟨⟨⟨by omega, trivial⟩, hall⟩, by simpa using hw⟩
      simp [checkT, hw, hp, this]
    ·intro h3; simp only at h3; split at h3 <;> omega
    ·simp only; split <;> simp
    ·rw [oneT, if_pos (by simp only; split <;> decide)]; exact Nat.le_refl _
  ·rename_i hc
   split at h
   ·rename_i hd
    have e0 := takeWhile_le (p := isDigit) (c :: r)
    have e1 := all_takeWhile (p := isDigit) (c :: r)
    have e2 : 1 ≤ ((c :: r).takeWhile isDigit).length := by rw [List.takeWhile_cons, if_pos hd]; simp
    unfold figL at h
    split at h
    ·exact plain_is e1 e2 e0 hd h
    ·rename_i c' r' hq
     split at h
     ·rename_i h39
      subst h39
      exact wide_is (l := c :: r) e1 e2 (by rw [← hq]; exact (List.takeWhile_append_dropWhile).symm) hd h
     ·split at h
      ·exact absurd h (by simp)
      ·exact plain_is e1 e2 e0 hd h
   ·split at h
    ·rename_i h2
     injection h with h3 h4
     subst h3 h4
     refine ⟨by omega, h2.1, ?_, by simp [two64], fun _ => rfl, by simp, by simp, ?_⟩
     ·intro p hp; simp [checkT, hp]; simpa using h2.2
     ·rw [oneT, if_pos (by simp)]; exact List.length_take_le _ _
    ·split at h
     ·rename_i h2
      injection h with h3 h4
      subst h3 h4
      refine ⟨by omega, by simp, ?_, by simp [two64], fun _ => rfl, by simp, by simp, ?_⟩
      ·intro p hp; simp [checkT, hp]; simpa using h2
      ·rw [oneT, if_pos (by simp)]; exact List.length_take_le _ _
     ·exact absurd h (by simp)
end Go.Proofs.Scn
namespace Go.Proofs.Scn
theorem drop_headN (p : UInt8 → Bool) (l : List UInt8) : l.drop (headN p l) = l.dropWhile p := drop_takeWhile l
end Go.Proofs.Scn
namespace Go.Proofs.YtlcfpdmicpggbaaGreatDoor
open Go.RowKit Go.Proofs.Scn
theorem low_figure (c : UInt8) : (isDigit c = true ∧ ((c.toNat : Int) - 48) % 256 = figV c ∧ (c.toNat : Int) - 48 = figV c) ∨ (isDigit c = false ∧ 97 ≤ bits .or .u8 c.toNat 32 ∧ bits .or .u8 c.toNat 32 ≤ 102 ∧ (bits .or .u8 c.toNat 32 - 97) % 256 = figV c - 10 ∧ 10 ≤ figV c ∧ figV c ≤ 15) ∨ (isDigit c = false ∧ (bits .or .u8 c.toNat 32 < 97 ∨ 102 < bits .or .u8 c.toNat 32) ∧ figV c = 16) := by
 refine forall_u8k (P := fun c => (isDigit c = true ∧ ((c.toNat : Int) - 48) % 256 = figV c ∧ (c.toNat : Int) - 48 = figV c) ∨ (isDigit c = false ∧ 97 ≤ bits .or .u8 c.toNat 32 ∧ bits .or .u8 c.toNat 32 ≤ 102 ∧ (bits .or .u8 c.toNat 32 - 97) % 256 = figV c - 10 ∧ 10 ≤ figV c ∧ figV c ≤ 15) ∨ (isDigit c = false ∧ (bits .or .u8 c.toNat 32 < 97 ∨ 102 < bits .or .u8 c.toNat 32) ∧ figV c = 16)) ?_ c
 decide +kernel
theorem figure_any (c : UInt8) (W : World) : Calls Tryz.prog 232 #[.int .u8 c.toNat] W fun e W' => e = .returned (.int .u64 (figV c)) ∧ W = W' := by
 have kd := digit_any c
 rcases low_figure c with ⟨h1, h2, _⟩ | ⟨h1, h2, h3, h4, h5, h6⟩ | ⟨h1, h2, h3⟩
 ·rw [h1] at kd
  have KD := Lib.hid kd
  clear kd h1
  go_enter Tryz.func232, Tryz.ntmps232
  go_wp2_with (go_at_call 192; refine (KD.out _).mono ?_; rintro e w' ⟨rfl, rfl⟩)
  go_ret
  exact ⟨rfl, rfl⟩
 ·rw [h1] at kd
  have KD := Lib.hid kd
  have h6' := Lib.hid h6
  clear kd h1 h6
  go_enter Tryz.func232, Tryz.ntmps232
  go_wp2_with (go_at_call 192; refine (KD.out _).mono ?_; rintro e w' ⟨rfl, rfl⟩)
  go_ret
  exact ⟨ret_int (by omega), rfl⟩
 ·rw [h1] at kd
  rw [h3]
  have KD := Lib.hid kd
  clear kd h1 h3
  rcases h2 with h2 | h2
  ·go_enter Tryz.func232, Tryz.ntmps232
   go_wp2_with (go_at_call 192; refine (KD.out _).mono ?_; rintro e w' ⟨rfl, rfl⟩)
   go_ret
   exact ⟨rfl, rfl⟩
  ·have h4 : 97 ≤ bits .or .u8 c.toNat 32 := by omega
   go_enter Tryz.func232, Tryz.ntmps232
   go_wp2_with (go_at_call 192; refine (KD.out _).mono ?_; rintro e w' ⟨rfl, rfl⟩)
   go_ret
   exact ⟨rfl, rfl⟩
end Go.Proofs.YtlcfpdmicpggbaaGreatDoor
namespace Go.Proofs
open Go.Shelf
open Go.RowKit in
def Tryz.lays161_ren : Go.Shelf.Ren := ⟨fun | 161 => 146 | 231 => 197 | 227 => 198 | 233 => 199 | 235 => 200 | 228 => 216 | 197 => 217 | 151 => 218 | 260 => 226 | 152 => 227 | 137 => 240 | 119 => 241 | 224 => 230 | 225 => 229 | 217 => 228 | 266 => 242 | n => n, fun | 9 => 9 | 4 => 4 | 3 => 3 | 5 => 5 | 117 => 210 | 116 => 209 | 0 => 0 | 124 => 213 | 105 => 224 | 21 => 21 | 119 => 241 | 46 => 220 | 139 => 244 | 138 => 243 | n => n, fun | 3 => 3 | 4 => 4 | n => n⟩
theorem Tryz.lays161 : Go.Proofs.Lays.n161 Tryz.prog Tryz.lays161_ren := {
 mixed := by kernel_rfl
 f119 := Tryz.func241.trans (congrArg some (by kernel_rfl))
 f137 := Tryz.func240.trans (congrArg some (by kernel_rfl))
 f151 := Tryz.func218.trans (congrArg some (by kernel_rfl))
 f152 := Tryz.func227.trans (congrArg some (by kernel_rfl))
 f161 := Tryz.func146.trans (congrArg some (by kernel_rfl))
 f197 := Tryz.func217.trans (congrArg some (by kernel_rfl))
 f217 := Tryz.func228.trans (congrArg some (by kernel_rfl))
 f224 := Tryz.func230.trans (congrArg some (by kernel_rfl))
 f225 := Tryz.func229.trans (congrArg some (by kernel_rfl))
 f227 := Tryz.func198.trans (congrArg some (by kernel_rfl))
 f228 := Tryz.func216.trans (congrArg some (by kernel_rfl))
 f231 := Tryz.func197.trans (congrArg some (by kernel_rfl))
 f233 := Tryz.func199.trans (congrArg some (by kernel_rfl))
 f235 := Tryz.func200.trans (congrArg some (by kernel_rfl))
 f260 := Tryz.func226.trans (congrArg some (by kernel_rfl))
 f266 := Tryz.func242.trans (congrArg some (by kernel_rfl))
 t0 := Tryz.underlying0
 a0 := Tryz.isAgg0
 z0 := Tryz.sizeOf0
 v0 := Tryz.zeroValue0
 t3 := Tryz.underlying3
 a3 := Tryz.isAgg3
 z3 := Tryz.sizeOf3
 v3 := Tryz.zeroValue3
 t4 := Tryz.underlying4
 a4 := Tryz.isAgg4
 z4 := Tryz.sizeOf4
 v4 := Tryz.zeroValue4
 t5 := Tryz.underlying5
 a5 := Tryz.isAgg5
 z5 := Tryz.sizeOf5
 v5 := Tryz.zeroValue5
 t9 := Tryz.underlying9
 a9 := Tryz.isAgg9
 z9 := Tryz.sizeOf9
 v9 := Tryz.zeroValue9
 t21 := Tryz.underlying21
 a21 := Tryz.isAgg21
 z21 := Tryz.sizeOf21
 v21 := Tryz.zeroValue21
 t46 := Tryz.underlying220
 a46 := Tryz.isAgg220
 z46 := Tryz.sizeOf220
 v46 := Tryz.zeroValue220
 t105 := Tryz.underlying224
 a105 := Tryz.isAgg224
 z105 := Tryz.sizeOf224
 v105 := Tryz.zeroValue224
 t116 := Tryz.underlying209
 a116 := Tryz.isAgg209
 z116 := Tryz.sizeOf209
 t117 := Tryz.underlying210
 a117 := Tryz.isAgg210
 z117 := Tryz.sizeOf210
 v117 := Tryz.zeroValue210
 t119 := Tryz.underlying241
 a119 := Tryz.isAgg241
 z119 := Tryz.sizeOf241
 t124 := Tryz.underlying213
 a124 := Tryz.isAgg213
 z124 := Tryz.sizeOf213
 v124 := Tryz.zeroValue213
 t138 := Tryz.underlying243
 a138 := Tryz.isAgg243
 z138 := Tryz.sizeOf243
 v138 := Tryz.zeroValue243
 t139 := Tryz.underlying244
 a139 := Tryz.isAgg244
 z139 := Tryz.sizeOf244
 v139 := Tryz.zeroValue244
 g3 := by kernel_rfl
 g4 := by kernel_rfl }
open Go.RowKit in
open Go.RowKit in
open Go.Lib in
open Go.Lib in
open Go.Lib in
open Go.Lib in
open Go.RowKit Go.Sort Go.Lib in
open Go.RowKit Go.Sort Go.Lib in
open Go.RowKit Go.Sort Go.Lib in
open Go.RowKit Go.Sort Go.Lib in
open Go.RowKit Go.Sort Go.Lib in
open Go.RowKit Go.Sort Go.Lib in
open Go.RowKit Go.Sort Go.Lib in
open Go.RowKit Go.Lib in
open Go.RowKit Go.Lib in
open Go.RowKit Go.Lib in
open Go.RowKit Go.Lib in
open Go.RowKit Go.Lib in
open Go.RowKit Go.Lib in
open Go.RowKit Go.Lib in
open Go.RowKit Go.Lib in
open Go.RowKit Go.Lib in
open Go.RowKit Go.Lib in
open Go.RowKit Go.Lib in
def Tryz.lays145_ren : Go.Shelf.Ren := ⟨fun | 145 => 148 | 220 => 202 | 219 => 219 | 217 => 228 | 225 => 229 | 224 => 230 | 267 => 231 | 266 => 242 | 314 => 243 | n => n, fun | 9 => 9 | 4 => 4 | 59 => 169 | 3 => 3 | 5 => 5 | 46 => 220 | 146 => 247 | 51 => 246 | n => n, fun | 1 => 2 | n => n⟩
theorem Tryz.lays145 : Go.Proofs.Lays.n145 Tryz.prog Tryz.lays145_ren := {
 mixed := by kernel_rfl
 f145 := Tryz.func148.trans (congrArg some (by kernel_rfl))
 f217 := Tryz.func228.trans (congrArg some (by kernel_rfl))
 f219 := Tryz.func219.trans (congrArg some (by kernel_rfl))
 f220 := Tryz.func202.trans (congrArg some (by kernel_rfl))
 f224 := Tryz.func230.trans (congrArg some (by kernel_rfl))
 f225 := Tryz.func229.trans (congrArg some (by kernel_rfl))
 f266 := Tryz.func242.trans (congrArg some (by kernel_rfl))
 f267 := Tryz.func231.trans (congrArg some (by kernel_rfl))
 f314 := Tryz.func243.trans (congrArg some (by kernel_rfl))
 t3 := Tryz.underlying3
 a3 := Tryz.isAgg3
 z3 := Tryz.sizeOf3
 v3 := Tryz.zeroValue3
 t4 := Tryz.underlying4
 a4 := Tryz.isAgg4
 z4 := Tryz.sizeOf4
 v4 := Tryz.zeroValue4
 t5 := Tryz.underlying5
 a5 := Tryz.isAgg5
 z5 := Tryz.sizeOf5
 v5 := Tryz.zeroValue5
 t9 := Tryz.underlying9
 a9 := Tryz.isAgg9
 z9 := Tryz.sizeOf9
 v9 := Tryz.zeroValue9
 t46 := Tryz.underlying220
 a46 := Tryz.isAgg220
 z46 := Tryz.sizeOf220
 v46 := Tryz.zeroValue220
 t51 := Tryz.underlying246
 a51 := Tryz.isAgg246
 z51 := Tryz.sizeOf246
 v51 := Tryz.zeroValue246
 t59 := Tryz.underlying169
 a59 := Tryz.isAgg169
 z59 := Tryz.sizeOf169
 v59 := Tryz.zeroValue169
 t146 := Tryz.underlying247
 a146 := Tryz.isAgg247
 z146 := Tryz.sizeOf247
 v146 := Tryz.zeroValue247
 g1 := by kernel_rfl }
open Go.RowKit Go.Lib in
theorem Tryz.strings_Cut (s sep : ByteArray) (m : Int) (w : World) (hs : s.size < 4294967281) (hm : w.cell? ⟨2, 0, none⟩ = some (.int .i64 m)) :
  Calls Tryz.prog 148 #[.string s, .string sep] w fun e w' => e = .returned (.tuple #[.string ⟨(Lib.cut s.data.toList sep.data.toList).1.toArray⟩, .string ⟨(Lib.cut s.data.toList sep.data.toList).2.1.toArray⟩, .bool (Lib.cut s.data.toList sep.data.toList).2.2]) ∧ ∃ n, w' = w.drewN n := Any.strings_Cut Tryz.lays145 s sep m w hs hm
open Go.RowKit Go.Lib in
open Go.RowKit Go.Lib in
open Go.RowKit Go.Lib in
open Go.RowKit Go.Lib in
open Go.RowKit Go.Lib in
open Go.RowKit Go.Lib in
def Tryz.lays99_ren : Go.Shelf.Ren := ⟨fun | 99 => 147 | 206 => 201 | n => n, fun | 9 => 9 | 4 => 4 | 3 => 3 | n => n, fun | n => n⟩
theorem Tryz.lays99 : Go.Proofs.Lays.n99 Tryz.prog Tryz.lays99_ren := {
 mixed := by kernel_rfl
 f99 := Tryz.func147.trans (congrArg some (by kernel_rfl))
 f206 := Tryz.func201.trans (congrArg some (by kernel_rfl))
 t3 := Tryz.underlying3
 a3 := Tryz.isAgg3
 z3 := Tryz.sizeOf3
 v3 := Tryz.zeroValue3
 t4 := Tryz.underlying4
 a4 := Tryz.isAgg4
 z4 := Tryz.sizeOf4
 v4 := Tryz.zeroValue4
 t9 := Tryz.underlying9
 a9 := Tryz.isAgg9
 z9 := Tryz.sizeOf9
 v9 := Tryz.zeroValue9 }
open Go.RowKit Go.Lib in
theorem Tryz.strings_HasPrefix (s p : ByteArray) (w : World) :
  Calls Tryz.prog 147 #[.string s, .string p] w fun e w' => e = .returned (.bool (Lib.hasPrefix s.data.toList p.data.toList)) ∧ w' = w := Any.strings_HasPrefix Tryz.lays99 s p w
open Go.RowKit Go.Lib in
open Go.RowKit Go.Lib in
open Go.RowKit Go.Lib in
open Go.RowKit Go.Lib in
open Go.RowKit Go.Lib in
def Tryz.lays264_ren : Go.Shelf.Ren := ⟨fun | 264 => 233 | n => n, fun | 53 => 25 | 46 => 220 | n => n, fun | n => n⟩
theorem Tryz.lays264 : Go.Proofs.Lays.n264 Tryz.prog Tryz.lays264_ren := {
 mixed := by kernel_rfl
 f264 := Tryz.func233.trans (congrArg some (by kernel_rfl))
 t46 := Tryz.underlying220
 a46 := Tryz.isAgg220
 z46 := Tryz.sizeOf220
 v46 := Tryz.zeroValue220
 t53 := Tryz.underlying25
 a53 := Tryz.isAgg25
 z53 := Tryz.sizeOf25
 v53 := Tryz.zeroValue25 }
open Go.RowKit Go.Lib in
theorem Tryz.bits_Mul64 (x y : Nat) (hx : x < 18446744073709551616) (hy : y < 18446744073709551616) (w : World) :
  Calls Tryz.prog 233 #[.int .u64 x, .int .u64 y] w fun e w' => e = .returned (.tuple #[.int .u64 ((x * y / 18446744073709551616 : Nat) : Int), .int .u64 ((x * y % 18446744073709551616 : Nat) : Int)]) ∧ w' = w := Any.bits_Mul64 Tryz.lays264 x y hx hy w
open Go.RowKit Go.Lib in
open Go.RowKit Go.Lib in
open Go.Lib in
open Go.Lib in
open Go.Lib in
open Go.Lib in
def Tryz.lays7n25_ren : Go.Shelf.Ren := ⟨fun | 25 => 234 | n => n, fun | 22 => 25 | n => n, fun | n => n⟩
theorem Tryz.lays7n25 : Go.Proofs.Lays7.n25 Tryz.prog Tryz.lays7n25_ren := {
 mixed := by kernel_rfl
 f25 := Tryz.func234.trans (congrArg some (by kernel_rfl))
 t22 := Tryz.underlying25
 a22 := Tryz.isAgg25
 z22 := Tryz.sizeOf25
 v22 := Tryz.zeroValue25
 i22 := by kernel_rfl }
end Go.Proofs
namespace Go.Proofs.Scn
def cutV (b : Nat) (l : List UInt8) : Nat := numV b l % two64
def smallV (b : Nat) (l : List UInt8) : Bool := decide (numV b l < two64)
theorem num_snoc (b : Nat) (l : List UInt8) (k : Nat) (h : k < l.length) : numV b (l.take (k + 1)) = numV b (l.take k) * b + figV l[k] := by
 rw [List.take_succ_eq_append_getElem h, numV_append]
theorem fig_snoc (b : Nat) (l : List UInt8) (k : Nat) (h : k < l.length) : allFig b (l.take (k + 1)) = (allFig b (l.take k) && decide (figV l[k] < b)) := by
 unfold allFig
 rw [List.take_succ_eq_append_getElem h, List.all_append]
 simp
theorem allFig_not {b : Nat} {l : List UInt8} {k : Nat} (h : k < l.length) (hb : ¬ figV l[k] < b) : allFig b l = false := by
 unfold allFig
 rw [List.all_eq_false]
 exact ⟨l[k], List.getElem_mem h, by simpa using hb⟩
theorem num_step (v b d : Nat) (hv : v < two64) (hb : b ≤ 16) (hd : d < b) (small : Bool) (V : Nat) (hV : V % two64 = v) (hs : small = decide (V < two64)) (hb1 : 1 ≤ b) :
  ((v * b % two64 + d + 0) % two64 = (V * b + d) % two64) ∧
  ((small && (v * b / two64 == 0) && ((v * b % two64 + d + 0) / two64 == 0)) = decide (V * b + d < two64)) := by
 have h1 : (v * b) % two64 = (V * b) % two64 := by rw [← hV, Nat.mod_mul_mod]
 refine ⟨by rw [Nat.add_zero, h1, Nat.mod_add_mod], ?_⟩
 subst hs
 by_cases hs : V < two64
 ·have hVv : V = v := by rw [← hV]; exact (Nat.mod_eq_of_lt hs).symm
  subst hVv
  clear h1 hV hv
  generalize V * b = p at *
  rw [Bool.eq_iff_iff]
  simp only [Bool.and_eq_true, decide_eq_true_eq, beq_iff_eq]
  simp only [two64] at hs ⊢
  constructor
  ·rintro ⟨⟨_, h2⟩, h3⟩; omega
  ·intro h; refine ⟨⟨hs, by omega⟩, by omega⟩
 ·have : ¬ V * b + d < two64 := by
   have := Nat.le_mul_of_pos_right V hb1
   omega
  simp [hs, this]
end Go.Proofs.Scn
namespace Go.Proofs.YtlcfpdmicpggbaaGreatDoor
open Go.RowKit Go.Proofs.Scn
theorem two64_lt (n : Nat) : n % two64 < two64 := Nat.mod_lt _ (by decide)
theorem add_run (x y : Nat) (w : World) : (callFunc 234 #[.int .u64 x, .int .u64 y, .int .u64 0]).run Tryz.prog w =
  .ok (.value (.tuple #[.int .u64 (((x + y + 0) % two64 : Nat) : Int), .int .u64 (((x + y + 0) / two64 : Nat) : Int)])) w :=
 Any7.bits_Add64 Tryz.lays7n25 x y 0 (by omega) w
def NumPost (b : Nat) (l : List UInt8) (e : Ending) : Prop :=
 e = if allFig b l then .returned (.tuple #[.int .u64 (cutV b l : Nat), .bool (smallV b l), .int .i64 (if l.isEmpty then 21 else 0)]) else .returned (.tuple #[.int .u64 0, .bool false, .int .i64 21])
theorem number_empty (b : Nat) (W : World) :
  Calls Tryz.prog 221 #[.string ⟨#[]⟩, .int .u64 b] W fun e W' => NumPost b [] e ∧ Below W.heap.size W W' := by
 have hconv := conv_run ⟨#[]⟩
 have hbel := Lib.hid (Joins.below_bytesWorld W.heap.size W 5 ⟨#[]⟩ (Nat.le_refl _))
 go_enter Tryz.func221, Tryz.ntmps221
 go_wp2
 refine wp_loop_rounds 1 ?_
 rw [rounds_succ]
 go_wp2
 go_ret3
 exact ⟨rfl, hbel.out⟩
theorem number_any (s : ByteArray) (b : Nat) (hs : s.size ≤ 140737488351232) (h0 : 0 < s.size) (hb : 2 ≤ b) (hb2 : b ≤ 16) (W : World) :
  Calls Tryz.prog 221 #[.string s, .int .u64 b] W fun e W' => NumPost b s.data.toList e ∧ Below W.heap.size W W' := by
 have hconv := conv_run s
 have hbel := Lib.hid (Joins.below_bytesWorld W.heap.size W 5 s (Nat.le_refl _))
 have hcell0 : ∀ k, (h : k < s.size) → (Lib.bytesWorld W 5 s).cell? ⟨W.heap.size, k, none⟩ = some (.int .u8 (s[k].toNat)) := fun k h => by
  rw [Lib.bytesWorld_cell W 5 s k h]
  have : s.data.toList.getD k 0 = s[k] := by
   have h' : k < s.data.toList.length := h
   simp [List.getD_eq_getElem?_getD, List.getElem?_eq_getElem h']
   rfl
  rw [this]
 have hcell := Lib.hid hcell0
 have hne : s.toList.isEmpty = false := by
  rw [toList_eq]
  cases h : s.data.toList with
  | nil => have : s.data.toList.length = 0 := by rw [h]; rfl
           have h2 : s.data.toList.length = s.size := rfl
           omega
  | cons => rfl
 have hne1 : s.data.toList.isEmpty = false := by rw [← toList_eq]; exact hne
 have hne2 : ¬ s.toList = [] := by intro h; rw [h] at hne; cases hne
 have HE := Lib.hid hne1
 have hlen : s.data.toList.length = s.size := rfl
 have HL := Lib.hid hlen
 clear hcell0 hne1 hlen
 go_enter Tryz.func221, Tryz.ntmps221
 go_wp2
 clear hconv
 generalize Lib.bytesWorld W 5 s = X at *
 go_loop [4, 5, 6, 17] (fun v sm e i => ∃ k : Nat, k ≤ s.size ∧ i = .int .i64 k ∧ e = .int .i64 0 ∧ v = .int .u64 (cutV b (s.data.toList.take k) : Nat) ∧ sm = .bool (smallV b (s.data.toList.take k)) ∧ Hid (allFig b (s.data.toList.take k) = true)) (fun _ _ _ i => s.size - (intOf i).toNat)
 case atStart => exact ⟨0, Nat.zero_le _, rfl, rfl, rfl, rfl, Lib.hid rfl⟩
 case round =>
  obtain ⟨k, hk, rfl, rfl, rfl, rfl, hfig⟩ := hrel
  by_cases hlt : k < s.size
  ·have hc := hcell.out k hlt
   have kf := figure_any s[k] X
   have hkl : k < s.data.toList.length := hlt
   have hsk : s.data.toList[k] = s[k] := rfl
   by_cases hfb : figV s[k] < b
   ·have hstep := num_step (cutV b (s.data.toList.take k)) b (figV s[k]) (two64_lt _) hb2 hfb (smallV b (s.data.toList.take k)) (numV b (s.data.toList.take k)) rfl rfl (by omega)
    have hns := num_snoc b s.data.toList k hkl
    have hfs := fig_snoc b s.data.toList k hkl
    rw [hsk] at hns hfs
    have hnext : allFig b (s.data.toList.take (k + 1)) = true := by rw [hfs, hfig.out, decide_eq_true hfb]; rfl
    have hv : (cutV b (s.data.toList.take k) * b % two64 + figV s[k] + 0) % two64 = cutV b (s.data.toList.take (k + 1)) := by rw [hstep.1, ← hns]; rfl
    have hsm : (smallV b (s.data.toList.take k) && (cutV b (s.data.toList.take k) * b / two64 == 0) && ((cutV b (s.data.toList.take k) * b % two64 + figV s[k] + 0) / two64 == 0)) = smallV b (s.data.toList.take (k + 1)) := by rw [hstep.2, ← hns]; rfl
    have kmul : Calls Tryz.prog 233 #[.int .u64 (cutV b (s.data.toList.take k) : Nat), .int .u64 b] X fun e W' => e = .returned (.tuple #[.int .u64 ((cutV b (s.data.toList.take k) * b / two64 : Nat) : Int), .int .u64 ((cutV b (s.data.toList.take k) * b % two64 : Nat) : Int)]) ∧ W' = X :=
     Tryz.bits_Mul64 _ _ (two64_lt _) (by omega) X
    have kadd := add_run (cutV b (s.data.toList.take k) * b % two64) (figV s[k])
    have N := Lib.hid hnext
    clear hstep hns hfs hnext hsk
    generalize cutV b (s.data.toList.take k) * b / two64 = hi at *
    generalize cutV b (s.data.toList.take k) * b % two64 = lo at *
    generalize hsum : (lo + figV s[k] + 0) % two64 = sum at *
    generalize (lo + figV s[k] + 0) / two64 = car at *
    have V := Lib.hid hv
    have SM := Lib.hid hsm
    have KF := Lib.hid kf
    have KM := Lib.hid kmul
    have hnf : ((figV s[k] : Nat) : Int) < (b : Int) := by omega
    generalize smallV b (s.data.toList.take k) = sm at *
    generalize figV s[k] = d at *
    generalize cutV b (s.data.toList.take k) = v at *
    clear hv hsm kf kmul hsum hfb
    cases sm
    ·go_wp2_with (first | (go_at_call 232; refine KF.out.mono ?_; rintro e w' ⟨rfl, rfl⟩) | (go_at_call 233; refine KM.out.mono ?_; rintro e w' ⟨rfl, rfl⟩))
     exact ⟨⟨k + 1, by omega, by go_num, rfl, by rw [V.out], by rw [← SM.out]; simp, N⟩, by simp [intOf]; omega⟩
    ·by_cases h1 : hi = 0
     ·by_cases h2 : car = 0
      ·subst h1 h2
       go_wp2_with (first | (go_at_call 232; refine KF.out.mono ?_; rintro e w' ⟨rfl, rfl⟩) | (go_at_call 233; refine KM.out.mono ?_; rintro e w' ⟨rfl, rfl⟩))
       exact ⟨⟨k + 1, by omega, by go_num, rfl, by rw [V.out], by rw [← SM.out]; simp, N⟩, by simp [intOf]; omega⟩
      ·subst h1
       have q2 : ((car : Int) == 0) = false := by rw [beq_eq_false_iff_ne]; omega
       have Q2 := Lib.hid h2
       clear h2
       go_wp2_with (first | (go_at_call 232; refine KF.out.mono ?_; rintro e w' ⟨rfl, rfl⟩) | (go_at_call 233; refine KM.out.mono ?_; rintro e w' ⟨rfl, rfl⟩))
       exact ⟨⟨k + 1, by omega, by go_num, rfl, by rw [V.out], by rw [← SM.out]; simp [Q2.out], N⟩, by simp [intOf]; omega⟩
     ·have q1 : ((hi : Int) == 0) = false := by rw [beq_eq_false_iff_ne]; omega
      have Q1 := Lib.hid h1
      clear h1
      go_wp2_with (first | (go_at_call 232; refine KF.out.mono ?_; rintro e w' ⟨rfl, rfl⟩) | (go_at_call 233; refine KM.out.mono ?_; rintro e w' ⟨rfl, rfl⟩))
      exact ⟨⟨k + 1, by omega, by go_num, rfl, by rw [V.out], by rw [← SM.out]; simp [Q1.out], N⟩, by simp [intOf]; omega⟩
   ·have hno := Lib.hid (allFig_not (b := b) hkl (by rw [hsk]; exact hfb))
    have hnf : (b : Int) ≤ ((figV s[k] : Nat) : Int) := by omega
    have KF := Lib.hid kf
    clear kf hfb hsk
    generalize figV s[k] = d at *
    go_wp2_with (go_at_call 232; refine KF.out.mono ?_; rintro e w' ⟨rfl, rfl⟩)
    go_ret3
    exact ⟨by unfold NumPost; rw [hno.out]; rfl, hbel.out⟩
  ·obtain rfl : k = s.size := by omega
   have e : s.data.toList.take s.size = s.data.toList := List.take_of_length_le (by rw [HL.out]; exact Nat.le_refl _)
   have hf := hfig.out
   rw [e] at hf
   rw [e]
   have F := Lib.hid hf
   clear hf e hfig
   go_wp2
   go_ret3
   exact ⟨by unfold NumPost; rw [F.out, HE.out]; rfl, hbel.out⟩
end Go.Proofs.YtlcfpdmicpggbaaGreatDoor
