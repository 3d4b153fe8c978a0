/- Texts of the Wave laws, merged: S1, P1, P2, P3, P4, P5. -/
import Init

/- The words of the second layer, in plain Lean: letters, names, signs, numbers, tokens, texts. -/
namespace Go.Proofs.Scn
set_option linter.unusedVariables false
set_option linter.unusedSimpArgs false

def isDigit (c : UInt8) : Bool := decide (48 ≤ c.toNat) && decide (c.toNat ≤ 57)
def isLetter (c : UInt8) : Bool := decide (c.toNat = 95) || (decide (97 ≤ c.toNat) && decide (c.toNat ≤ 122)) || (decide (65 ≤ c.toNat) && decide (c.toNat ≤ 90))
def isPart (c : UInt8) : Bool := isLetter c || isDigit c
def isBlank (c : UInt8) : Bool := decide (c.toNat = 32) || decide (c.toNat = 9) || decide (c.toNat = 10) || decide (c.toNat = 13)
def runL (l : List UInt8) : List UInt8 := l.takeWhile isPart
def wordsL : List (List UInt8) :=
  [[109,111,100,117,108,101],[105,110],[111,117,116],[119,105,114,101],[114,101,103],[99,111,110,115,116],[97,115,115,105,103,110],[99,111,109,98],[111,110],[116,105,99,107],[105,110,115,116],[105,102],[101,108,115,101],[102,111,114],[99,104,101,99,107],[99,97,115,101],[122,101,120,116],[115,101,120,116],[116,114,117,110,99]]
def pairsL : List (List UInt8) := [[46,46],[60,61],[62,61],[124,124],[38,38],[61,61],[33,61],[60,60],[62,62]]
def loneL : List UInt8 := [35,40,41,44,123,125,61,58,59,91,93,63,124,94,38,60,62,43,45,42,126,33]
def isWord (l : List UInt8) : Bool := wordsL.contains l
def isSign (l : List UInt8) : Bool := pairsL.contains l || (l.length == 1 && loneL.contains (l.headD 0))
def isName (l : List UInt8) : Bool := !l.isEmpty && decide (l.length ≤ 64) && isLetter (l.headD 0) && l.all isPart && !isWord l
def fitsV (w : Int) (v : Nat) : Bool := decide (1 ≤ w) && decide (w ≤ 64) && decide (v < 2 ^ w.toNat)

structure Tok where
  k : Int
  s : List UInt8
  w : Int
  v : Nat
  p : Int
deriving DecidableEq, Inhabited

def checkT (t : Tok) : Bool :=
  decide (0 ≤ t.p) &&
  (if t.k = 1 then t.w == 0 && t.v == 0 && isName t.s
   else if t.k = 2 then t.w == 0 && t.v == 0 && isWord t.s
   else if t.k = 4 then t.w == 0 && t.v == 0 && isSign t.s
   else if t.k = 3 then t.s.isEmpty && (t.w == 0 || fitsV t.w t.v)
   else false)

/-- the value of a figure; 16: it is none -/
def figV (c : UInt8) : Nat :=
  if isDigit c then c.toNat - 48 else if 97 ≤ c.toNat ∧ c.toNat ≤ 102 then c.toNat - 87 else if 65 ≤ c.toNat ∧ c.toNat ≤ 70 then c.toNat - 55 else 16
def numV (b : Nat) (l : List UInt8) : Nat := l.foldl (fun v c => v * b + figV c) 0
def allFig (b : Nat) (l : List UInt8) : Bool := l.all fun c => decide (figV c < b)

inductive Got where
  | tok (t : Tok) (n : Nat)
  | bad (e : Int)
deriving DecidableEq

def baseL (c : UInt8) : Nat := if c = 104 then 16 else if c = 100 then 10 else if c = 98 then 2 else 0
def two64 : Nat := 18446744073709551616

/-- behind a width's figures and the stroke -/
def wideL (d r : List UInt8) : Got :=
  match r with
  | [] => .bad 21
  | c :: r =>
    if baseL c = 0 then .bad 21
    else if (runL r).isEmpty || !allFig (baseL c) (runL r) then .bad 21
    else if decide (numV 10 d < two64) && decide (numV (baseL c) (runL r) < two64) && fitsV (numV 10 d) (numV (baseL c) (runL r)) then
      .tok ⟨3, [], numV 10 d, numV (baseL c) (runL r), 0⟩ (d.length + 2 + (runL r).length)
    else .bad 22
def plainL (d : List UInt8) : Got := if numV 10 d < two64 then .tok ⟨3, [], 0, numV 10 d, 0⟩ d.length else .bad 22
def figL (l : List UInt8) : Got :=
  match l.dropWhile isDigit with
  | [] => plainL (l.takeWhile isDigit)
  | c :: r => if c = 39 then wideL (l.takeWhile isDigit) r else if isLetter c then .bad 21 else plainL (l.takeWhile isDigit)
def tokL (l : List UInt8) : Got :=
  match l with
  | [] => .bad 20
  | c :: r =>
    if isLetter c then
      if 64 < (runL l).length then .bad 2 else .tok ⟨if isWord (runL l) then 2 else 1, runL l, 0, 0, 0⟩ (runL l).length
    else if isDigit c then figL l
    else if 2 ≤ l.length ∧ isSign (l.take 2) = true then .tok ⟨4, l.take 2, 0, 0, 0⟩ 2
    else if isSign (l.take 1) then .tok ⟨4, l.take 1, 0, 0, 0⟩ 1
    else .bad 20

/-- the tokens of a text that begins at a place, or where something is wrong, and what -/
def scanW (i : Nat) (l : List UInt8) : Except (Nat × Int) (List Tok) :=
  match l with
  | [] => .ok []
  | c :: r =>
    if isBlank c then scanW (i + 1) r
    else if c = 47 ∧ r.head? = some 47 then scanW (i + 1 + (r.takeWhile (· != 10)).length) (r.dropWhile (· != 10))
    else match tokL (c :: r) with
      | .bad e => .error (i, e)
      | .tok t n =>
        match scanW (i + n) (r.drop (n - 1)) with
        | .ok ts => .ok ({ t with p := i } :: ts)
        | .error x => .error x
termination_by l.length
decreasing_by
  all_goals simp_wf
  · have := (List.dropWhile_sublist (l := r) (· != 10)).length_le; omega
  · omega

def digL (b : Nat) (n : Nat) : List UInt8 := if h : n < b ∨ b < 2 then [UInt8.ofNat (if n < 10 then 48 + n else 87 + n)] else digL b (n / b) ++ [UInt8.ofNat (if n % b < 10 then 48 + n % b else 87 + n % b)]
termination_by n
decreasing_by exact Nat.div_lt_self (by omega) (by omega)

def oneT (t : Tok) : List UInt8 := if t.k ≠ 3 then t.s else if t.w = 0 then digL 10 t.v else digL 10 t.w.toNat ++ [39, 104] ++ digL 16 t.v
def sepT (t : Tok) : UInt8 := if t.s = [59] ∨ t.s = [123] ∨ t.s = [125] then 10 else 32
def textL : List Tok → List UInt8
  | [] => []
  | [t] => oneT t
  | t :: u :: l => oneT t ++ sepT t :: textL (u :: l)
theorem forall_u8 {P : UInt8 → Prop} (h : ∀ n : Fin 256, P (UInt8.ofNat n.val)) (c : UInt8) : P c := by
  have := h ⟨c.toNat, c.toNat_lt⟩
  simpa using this

theorem isSign_iff (l : List UInt8) : isSign l = (pairsL ++ loneL.map ([·])).contains l := by
  rw [Bool.eq_iff_iff]
  simp only [isSign, Bool.or_eq_true, Bool.and_eq_true, List.contains_iff_mem, List.mem_append, List.mem_map, beq_iff_eq]
  constructor
  · rintro (h | ⟨h1, h2⟩)
    · exact .inl h
    · match l, h1, h2 with
      | [c], _, h2 => exact .inr ⟨c, h2, rfl⟩
  · rintro (h | ⟨c, hc, rfl⟩)
    · exact .inl h
    · exact .inr ⟨rfl, hc⟩

def signsAll : List (List UInt8) := pairsL ++ loneL.map ([·])

theorem words_ok : (wordsL.all fun s => s.all isPart && isLetter (s.headD 0) && decide (s.length ≤ 64) && !s.isEmpty) = true := by decide
theorem signs_ok : (signsAll.all fun s => !isLetter (s.headD 0) && !isDigit (s.headD 0) && !isBlank (s.headD 0) && !(s.headD 0 == 47) && (decide (s.length = 1) || decide (s.length = 2)) && !s.contains 32 && !s.contains 10) = true := by decide

set_option maxRecDepth 100000 in
theorem letter_not {c : UInt8} (h : isLetter c = true) : isDigit c = false ∧ isBlank c = false ∧ c ≠ 47 ∧ isPart c = true ∧ c ≠ 39 := by
  revert h
  refine forall_u8 (P := fun c => isLetter c = true → isDigit c = false ∧ isBlank c = false ∧ c ≠ 47 ∧ isPart c = true ∧ c ≠ 39) ?_ c
  decide
set_option maxRecDepth 100000 in
theorem digit_not {c : UInt8} (h : isDigit c = true) : isLetter c = false ∧ isBlank c = false ∧ c ≠ 47 ∧ isPart c = true ∧ c ≠ 39 ∧ figV c < 10 := by
  revert h
  refine forall_u8 (P := fun c => isDigit c = true → isLetter c = false ∧ isBlank c = false ∧ c ≠ 47 ∧ isPart c = true ∧ c ≠ 39 ∧ figV c < 10) ?_ c
  decide

/-- what may stand behind a token: nothing, or a blank -/
def Ends (r : List UInt8) : Prop := r = [] ∨ ∃ c u, r = c :: u ∧ (c = 32 ∨ c = 10)

theorem takeWhile_ends {p : UInt8 → Bool} {l r : List UInt8} (hl : l.all p = true) (hr : r = [] ∨ ∃ c u, r = c :: u ∧ p c = false) : (l ++ r).takeWhile p = l ∧ (l ++ r).dropWhile p = r := by
  induction l with
  | nil =>
    rcases hr with rfl | ⟨c, u, rfl, hc⟩
    · exact ⟨rfl, rfl⟩
    · simp [List.takeWhile, List.dropWhile, hc]
  | cons a l ih =>
    simp only [List.all_cons, Bool.and_eq_true] at hl
    have := ih hl.2
    simp [List.takeWhile_cons, List.dropWhile_cons, hl.1, this.1, this.2]

theorem Ends.not {p : UInt8 → Bool} {r : List UInt8} (h : Ends r) (h1 : p 32 = false) (h2 : p 10 = false) : r = [] ∨ ∃ c u, r = c :: u ∧ p c = false := by
  rcases h with rfl | ⟨c, u, rfl, rfl | rfl⟩
  · exact .inl rfl
  · exact .inr ⟨_, _, rfl, h1⟩
  · exact .inr ⟨_, _, rfl, h2⟩

theorem run_ends {l r : List UInt8} (hl : l.all isPart = true) (hr : Ends r) : runL (l ++ r) = l :=
  (takeWhile_ends hl (hr.not (by decide) (by decide))).1

/-- a name or a word, read -/
theorem tok_word {s r : List UInt8} (hs : s.all isPart = true) (h0 : isLetter (s.headD 0) = true) (hl : s.length ≤ 64) (hr : Ends r) :
    tokL (s ++ r) = .tok ⟨if isWord s then 2 else 1, s, 0, 0, 0⟩ s.length := by
  match s, h0 with
  | [], h0 => simp [isLetter] at h0
  | c :: s, h0 =>
    have hc : isLetter c = true := h0
    have := run_ends hs hr
    rw [List.cons_append] at this ⊢
    rw [tokL, if_pos hc, this, if_neg (by omega)]

theorem sign_mem {s : List UInt8} (h : isSign s = true) : isLetter (s.headD 0) = false ∧ isDigit (s.headD 0) = false ∧ isBlank (s.headD 0) = false ∧ s.headD 0 ≠ 47 ∧ (s.length = 1 ∨ s.length = 2) ∧ 32 ∉ s ∧ 10 ∉ s := by
  rw [isSign_iff] at h
  have := signs_ok
  rw [List.all_eq_true] at this
  have := this s (by simpa [signsAll] using h)
  simpa [and_assoc] using this

theorem tok_sign {s r : List UInt8} (h : isSign s = true) (hr : Ends r) : tokL (s ++ r) = .tok ⟨4, s, 0, 0, 0⟩ s.length := by
  obtain ⟨h1, h2, h3, h4, h5, h6, h7⟩ := sign_mem h
  match s, h5 with
  | [c], _ =>
    simp only [List.headD_cons] at h1 h2
    rw [List.singleton_append, tokL, if_neg (by simp [h1]), if_neg (by simp [h2])]
    have hn : ¬ (2 ≤ (c :: r).length ∧ isSign ((c :: r).take 2) = true) := by
      rintro ⟨ha, hb⟩
      rcases hr with rfl | ⟨d, u, rfl, rfl | rfl⟩
      · simp at ha
      · have := (sign_mem hb).2.2.2.2.2.1
        simp at this
      · have := (sign_mem hb).2.2.2.2.2.2
        simp at this
    rw [if_neg hn, if_pos (by simpa using h)]
    rfl
  | [c, d], _ =>
    simp only [List.headD_cons] at h1 h2
    rw [List.cons_append, tokL, if_neg (by simp [h1]), if_neg (by simp [h2]), if_pos ⟨by simp, by simpa using h⟩]
    rfl

/-! figures -/
theorem digL_lt {b n : Nat} (h : n < b ∨ b < 2) : digL b n = [UInt8.ofNat (if n < 10 then 48 + n else 87 + n)] := by rw [digL, dif_pos h]
theorem digL_ge {b n : Nat} (h : ¬ (n < b ∨ b < 2)) : digL b n = digL b (n / b) ++ [UInt8.ofNat (if n % b < 10 then 48 + n % b else 87 + n % b)] := by rw [digL, dif_neg h]

theorem fig_digit : ∀ n, n < 16 → figV (UInt8.ofNat (if n < 10 then 48 + n else 87 + n)) = n ∧ isPart (UInt8.ofNat (if n < 10 then 48 + n else 87 + n)) = true ∧ (n < 10 → isDigit (UInt8.ofNat (if n < 10 then 48 + n else 87 + n)) = true) := by decide

theorem numV_append (b : Nat) (l : List UInt8) (c : UInt8) : numV b (l ++ [c]) = numV b l * b + figV c := by simp [numV]

theorem digL_spec (b : Nat) (hb : 2 ≤ b) (hb' : b ≤ 16) : ∀ n, numV b (digL b n) = n ∧ (digL b n).all isPart = true ∧ allFig b (digL b n) = true ∧ (b ≤ 10 → (digL b n).all isDigit = true) ∧ (digL b n).isEmpty = false := by
  intro n
  induction n using Nat.strongRecOn with
  | _ n ih =>
    by_cases h : n < b ∨ b < 2
    · have hn : n < b := by omega
      obtain ⟨f1, f2, f3⟩ := fig_digit n (by omega)
      rw [digL_lt h]
      generalize UInt8.ofNat (if n < 10 then 48 + n else 87 + n) = c at *
      simp [numV, allFig, f1, f2, hn]
      intro hb10
      exact f3 (by omega)
    · obtain ⟨g1, g2, g3, g4, g5⟩ := ih (n / b) (Nat.div_lt_self (by omega) (by omega))
      have hm := Nat.mod_lt n (show 0 < b by omega)
      obtain ⟨f1, f2, f3⟩ := fig_digit (n % b) (by omega)
      rw [digL_ge h]
      generalize UInt8.ofNat (if n % b < 10 then 48 + n % b else 87 + n % b) = c at *
      refine ⟨?_, ?_, ?_, ?_, ?_⟩
      · rw [numV_append, g1, f1]; have := Nat.div_add_mod n b; rw [Nat.mul_comm]; exact this
      · simp [g2, f2]
      · unfold allFig at *; simp only [List.all_append, g3, List.all_cons, List.all_nil, f1, hm]; rfl
      · intro h10; simp [g4 h10, f3 (by omega)]
      · simp

theorem digL_len (b : Nat) (hb : 2 ≤ b) : ∀ k n, 1 ≤ k → n < b ^ k → (digL b n).length ≤ k := by
  intro k
  induction k with
  | zero => intro n h; omega
  | succ k ih =>
    intro n _ hn
    by_cases h : n < b ∨ b < 2
    · rw [digL_lt h]; simp
    · rw [digL_ge h]
      have : n / b < b ^ k := by rw [Nat.div_lt_iff_lt_mul (by omega), ← Nat.pow_succ]; exact hn
      have h1 : 1 ≤ k := by
        rcases Nat.eq_zero_or_pos k with rfl | h1
        · simp at hn; omega
        · exact h1
      have := ih (n / b) h1 this
      simp; omega

theorem figL_plain {d r : List UInt8} (hd : d.all isDigit = true) (hr : Ends r) : figL (d ++ r) = plainL d := by
  obtain ⟨e1, e2⟩ := takeWhile_ends hd (hr.not (p := isDigit) (by decide) (by decide))
  rw [figL, e1, e2]
  rcases hr with rfl | ⟨c, u, rfl, rfl | rfl⟩
  · rfl
  · simp only [if_neg (show ¬ (32 : UInt8) = 39 by decide)]; rfl
  · simp only [if_neg (show ¬ (10 : UInt8) = 39 by decide)]; rfl
theorem figL_wide {d r : List UInt8} (hd : d.all isDigit = true) : figL (d ++ 39 :: r) = wideL d r := by
  obtain ⟨e1, e2⟩ := takeWhile_ends (p := isDigit) (r := 39 :: r) hd (.inr ⟨_, _, rfl, by decide⟩)
  rw [figL, e1, e2]
  simp
theorem tok_fig {d r : List UInt8} (hd : d.all isDigit = true) (h0 : d.isEmpty = false) : tokL (d ++ r) = figL (d ++ r) := by
  match d, h0 with
  | c :: d, _ =>
    simp only [List.all_cons, Bool.and_eq_true] at hd
    have := digit_not hd.1
    rw [List.cons_append, tokL, if_neg (by simp [this.1]), if_pos hd.1]

theorem tok_num {v : Nat} {r : List UInt8} (hv : v < two64) (hr : Ends r) : tokL (digL 10 v ++ r) = .tok ⟨3, [], 0, v, 0⟩ (digL 10 v).length := by
  obtain ⟨g1, g2, g3, g4, g5⟩ := digL_spec 10 (by decide) (by decide) v
  rw [tok_fig (g4 (by decide)) g5, figL_plain (g4 (by decide)) hr, plainL, g1, if_pos hv]
theorem tok_wide {w v : Nat} {r : List UInt8} (hw : w < two64) (hv : v < two64) (hf : fitsV w v = true) (hr : Ends r) :
    tokL (digL 10 w ++ [39, 104] ++ digL 16 v ++ r) = .tok ⟨3, [], w, v, 0⟩ (digL 10 w ++ [39, 104] ++ digL 16 v).length := by
  obtain ⟨g1, g2, g3, g4, g5⟩ := digL_spec 10 (by decide) (by decide) w
  obtain ⟨k1, k2, k3, k4, k5⟩ := digL_spec 16 (by decide) (by decide) v
  rw [List.append_assoc, List.append_assoc, tok_fig (g4 (by decide)) g5]
  simp only [List.cons_append, List.nil_append]
  rw [figL_wide (g4 (by decide)), wideL]
  simp only [show baseL 104 = 16 from rfl, run_ends k2 hr, k5, k3, k1, g1, hw, hv, hf]
  simp
  omega

theorem Tok.ext' {a b : Tok} (h1 : a.k = b.k) (h2 : a.s = b.s) (h3 : a.w = b.w) (h4 : a.v = b.v) (h5 : a.p = b.p) : a = b := by
  cases a; cases b; simp_all

/-- A token that may be, written, and read. -/
theorem tok_one {t : Tok} {r : List UInt8} (ht : checkT t = true) (hv : t.v < two64) (hr : Ends r) : tokL (oneT t ++ r) = .tok { t with p := 0 } (oneT t).length := by
  unfold checkT at ht
  simp only [Bool.and_eq_true, decide_eq_true_eq] at ht
  obtain ⟨hp, ht⟩ := ht
  split at ht
  · rename_i hk
    simp only [Bool.and_eq_true, beq_iff_eq, isName, decide_eq_true_eq, Bool.not_eq_true'] at ht
    obtain ⟨⟨h1, h2⟩, ⟨⟨⟨h3, h4⟩, h5⟩, h6⟩, h7⟩ := ht
    have e : oneT t = t.s := by rw [oneT, if_pos (by omega)]
    rw [e, tok_word h6 h5 h4 hr, h7]
    simp [← h1, ← h2, ← hk]
  · split at ht
    · rename_i hk
      simp only [Bool.and_eq_true, beq_iff_eq] at ht
      obtain ⟨⟨h1, h2⟩, h3⟩ := ht
      have hw := words_ok
      rw [List.all_eq_true] at hw
      have hw := hw t.s (by simpa [isWord] using h3)
      simp only [Bool.and_eq_true, decide_eq_true_eq] at hw
      have e : oneT t = t.s := by rw [oneT, if_pos (by omega)]
      rw [e, tok_word hw.1.1.1 hw.1.1.2 hw.1.2 hr, h3]
      simp [← h1, ← h2, ← hk]
    · split at ht
      · rename_i hk
        simp only [Bool.and_eq_true, beq_iff_eq] at ht
        obtain ⟨⟨h1, h2⟩, h3⟩ := ht
        have e : oneT t = t.s := by rw [oneT, if_pos (by omega)]
        rw [e, tok_sign h3 hr]
        simp [← h1, ← h2, ← hk]
      · split at ht
        · rename_i hk
          simp only [Bool.and_eq_true, Bool.or_eq_true, beq_iff_eq, List.isEmpty_iff] at ht
          obtain ⟨h1, h2⟩ := ht
          by_cases h0 : t.w = 0
          · have e : oneT t = digL 10 t.v := by rw [oneT, if_neg (by omega), if_pos h0]
            rw [e, tok_num hv hr]
            simp [← h1, ← h0, ← hk]
          · have hf : fitsV t.w t.v = true := by rcases h2 with h2 | h2; exact absurd h2 h0; exact h2
            have e : oneT t = digL 10 t.w.toNat ++ [39, 104] ++ digL 16 t.v := by rw [oneT, if_neg (by omega), if_neg h0]
            have hw : 1 ≤ t.w ∧ t.w ≤ 64 := by simp [fitsV] at hf; exact ⟨hf.1.1, hf.1.2⟩
            have hc : ((t.w.toNat : Nat) : Int) = t.w := Int.toNat_of_nonneg (by omega)
            rw [e, tok_wide (by unfold two64; omega) hv (by rw [hc]; exact hf) hr, hc]
            simp [← h1, ← hk]
        · exact absurd ht (by simp)
theorem scanW_nil (i : Nat) : scanW i [] = .ok [] := by rw [scanW]
theorem scanW_blank (i : Nat) {c : UInt8} {r : List UInt8} (h : isBlank c = true) : scanW i (c :: r) = scanW (i + 1) r := by rw [scanW, if_pos h]
theorem scanW_note (i : Nat) {r : List UInt8} (h : r.head? = some 47) : scanW i (47 :: r) = scanW (i + 1 + (r.takeWhile (· != 10)).length) (r.dropWhile (· != 10)) := by
  rw [scanW, if_neg (by decide), if_pos ⟨rfl, h⟩]
theorem scanW_bad (i : Nat) {c : UInt8} {r : List UInt8} {e : Int} (h1 : isBlank c = false) (h2 : ¬ (c = 47 ∧ r.head? = some 47)) (h : tokL (c :: r) = .bad e) : scanW i (c :: r) = .error (i, e) := by
  rw [scanW, if_neg (by simp [h1]), if_neg h2, h]
theorem scanW_tok (i : Nat) {c : UInt8} {r : List UInt8} {t : Tok} {n : Nat} (h1 : isBlank c = false) (h2 : ¬ (c = 47 ∧ r.head? = some 47)) (h : tokL (c :: r) = .tok t n) :
    scanW i (c :: r) = match scanW (i + n) (r.drop (n - 1)) with | .ok ts => .ok ({ t with p := i } :: ts) | .error x => .error x := by
  rw [scanW, if_neg (by simp [h1]), if_neg h2, h]

/-- induction along a scan -/
theorem scan_ind {P : Nat → List UInt8 → Prop} (h0 : ∀ i, P i [])
    (h1 : ∀ i c r, isBlank c = true → P (i + 1) r → P i (c :: r))
    (h2 : ∀ i r, r.head? = some 47 → P (i + 1 + (r.takeWhile (· != 10)).length) (r.dropWhile (· != 10)) → P i (47 :: r))
    (h3 : ∀ i c r e, isBlank c = false → ¬ (c = 47 ∧ r.head? = some 47) → tokL (c :: r) = .bad e → P i (c :: r))
    (h4 : ∀ i c r t n, isBlank c = false → ¬ (c = 47 ∧ r.head? = some 47) → tokL (c :: r) = .tok t n → P (i + n) (r.drop (n - 1)) → P i (c :: r)) : ∀ i l, P i l := by
  have key : ∀ m i (l : List UInt8), l.length ≤ m → P i l := by
    intro m
    induction m with
    | zero => intro i l h; match l, h with | [], _ => exact h0 i
    | succ m ih =>
      intro i l h
      match l, h with
      | [], _ => exact h0 i
      | c :: r, h =>
        have hr : r.length ≤ m := by simp at h; omega
        by_cases hb : isBlank c = true
        · exact h1 i c r hb (ih _ _ hr)
        · by_cases hn : c = 47 ∧ r.head? = some 47
          · obtain ⟨rfl, hn⟩ := hn
            exact h2 i r hn (ih _ _ (Nat.le_trans (List.dropWhile_sublist _).length_le hr))
          · cases ht : tokL (c :: r) with
            | bad e => exact h3 i c r e (by simpa using hb) hn ht
            | tok t n => exact h4 i c r t n (by simpa using hb) hn ht (ih _ _ (by simp; omega))
  exact fun i l => key _ i l (Nat.le_refl _)

theorem takeWhile_le {p : UInt8 → Bool} (l : List UInt8) : (l.takeWhile p).length ≤ l.length := (List.takeWhile_sublist p).length_le
theorem take_takeWhile {p : UInt8 → Bool} (l : List UInt8) : l.take (l.takeWhile p).length = l.takeWhile p := by
  induction l with
  | nil => rfl
  | cons a l ih =>
    rw [List.takeWhile_cons]
    split
    · simp [ih]
    · rfl
theorem drop_takeWhile {p : UInt8 → Bool} (l : List UInt8) : l.drop (l.takeWhile p).length = l.dropWhile p := by
  induction l with
  | nil => rfl
  | cons a l ih =>
    rw [List.takeWhile_cons, List.dropWhile_cons]
    split
    · simp [ih]
    · rfl
theorem all_takeWhile {p : UInt8 → Bool} (l : List UInt8) : (l.takeWhile p).all p = true := by
  induction l with
  | nil => rfl
  | cons a l ih =>
    rw [List.takeWhile_cons]
    split
    · simp_all
    · rfl
theorem dropWhile_head {p : UInt8 → Bool} {l r : List UInt8} {c : UInt8} (h : l.dropWhile p = c :: r) : p c = false := by
  induction l with
  | nil => simp at h
  | cons a l ih =>
    rw [List.dropWhile_cons] at h
    split at h
    · exact ih h
    · rename_i hp; injection h with h1 h2; subst h1; simpa using hp

/-- what a token is -/
structure TokIs (l : List UInt8) (t : Tok) (n : Nat) : Prop where
  pos : 1 ≤ n
  le : n ≤ l.length
  may : ∀ p : Int, 0 ≤ p → checkT { t with p := p } = true
  v : t.v < two64
  s : t.k ≠ 3 → t.s = l.take n
  num : t.k = 3 → isDigit (l.headD 0) = true ∧ t.s = []
  kinds : t.k = 1 ∨ t.k = 2 ∨ t.k = 3 ∨ t.k = 4
  short : (oneT t).length ≤ n

theorem numV_lt (b : Nat) (hb : 1 ≤ b) : ∀ (l : List UInt8), allFig b l = true → numV b l < b ^ l.length := by
  intro l
  suffices h : ∀ (l : List UInt8) (a k : Nat), a < b ^ k → l.all (fun c => decide (figV c < b)) = true → l.foldl (fun v c => v * b + figV c) a < b ^ (k + l.length) by
    intro hl
    have := h l 0 0 (by simp) hl
    simpa [numV] using this
  intro l
  induction l with
  | nil => intro a k ha _; simpa using ha
  | cons c l ih =>
    intro a k ha hl
    simp only [List.all_cons, Bool.and_eq_true, decide_eq_true_eq] at hl
    have h2 : (a + 1) * b ≤ b ^ k * b := Nat.mul_le_mul_right _ ha
    rw [Nat.add_mul, ← Nat.pow_succ, Nat.succ_eq_add_one] at h2
    have := ih (a * b + figV c) (k + 1) (by have := hl.1; omega) hl.2
    rw [List.foldl_cons, List.length_cons, show k + (l.length + 1) = k + 1 + l.length by omega]
    exact this

theorem fig_all (d : List UInt8) (h : d.all isDigit = true) : allFig 10 d = true := by
  unfold allFig
  rw [List.all_eq_true] at h ⊢
  intro c hc
  have := (digit_not (h c hc)).2.2.2.2.2
  simpa using this

theorem plain_is {l d : List UInt8} (hd : d.all isDigit = true) (h0 : 1 ≤ d.length) (hl : d.length ≤ l.length) (hh : isDigit (l.headD 0) = true) {t : Tok} {n : Nat} (h : plainL d = .tok t n) : TokIs l t n := by
  unfold plainL at h
  split at h
  · rename_i hv
    injection h with h1 h2
    subst h1 h2
    refine ⟨h0, hl, ?_, hv, by simp, fun _ => ⟨hh, rfl⟩, by simp, ?_⟩
    · intro p hp; simp [checkT, hp]
    · rw [oneT, if_neg (by simp), if_pos rfl]
      exact digL_len 10 (by decide) _ _ h0 (numV_lt 10 (by decide) d (fig_all d hd))
  · exact absurd h (by simp)

theorem pow_base_le {b k : Nat} (hb : b ≤ 16) : b ^ k ≤ 16 ^ k := Nat.pow_le_pow_left hb k

theorem wide_is {l d r : List UInt8} (hd : d.all isDigit = true) (h0 : 1 ≤ d.length) (hl : l = d ++ 39 :: r) (hh : isDigit (l.headD 0) = true) {t : Tok} {n : Nat} (h : wideL d r = .tok t n) : TokIs l t n := by
  unfold wideL at h
  match r with
  | [] => exact absurd h (by simp)
  | c :: r =>
    simp only at h
    split at h
    · exact absurd h (by simp)
    · rename_i hb
      split at h
      · exact absurd h (by simp)
      · rename_i hf
        split at h
        · rename_i hv
          simp only [Bool.and_eq_true, decide_eq_true_eq] at hv
          simp only [Bool.or_eq_true, not_or, Bool.not_eq_true, Bool.not_eq_false', Bool.not_eq_true'] at hf
          injection h with h1 h2
          subst h1 h2
          obtain ⟨⟨hv1, hv2⟩, hv3⟩ := hv
          have hlen := takeWhile_le (p := isPart) r
          have hbc : baseL c ≤ 16 ∧ 1 ≤ baseL c := by unfold baseL at hb ⊢; split <;> (try split) <;> (try split) <;> simp_all
          have hf1 : 1 ≤ (runL r).length := by
            cases hq : runL r with
            | nil => simp [hq] at hf
            | cons => simp
          refine ⟨by omega, ?_, ?_, hv2, by simp, fun _ => ⟨hh, rfl⟩, by simp, ?_⟩
          · rw [hl]; simp [runL] at *; omega
          · intro p hp; simp [checkT, hp, hv3]
          · have hw0 : ¬ ((numV 10 d : Nat) : Int) = 0 := by simp [fitsV] at hv3; omega
            rw [oneT, if_neg (by simp), if_neg hw0]
            have a1 := digL_len 10 (by decide) _ _ h0 (numV_lt 10 (by decide) d (fig_all d hd))
            have a2 := digL_len 16 (by decide) (runL r).length (numV (baseL c) (runL r)) hf1 (Nat.lt_of_lt_of_le (numV_lt _ hbc.2 _ (by simpa using hf.2)) (pow_base_le hbc.1))
            simp
            omega
        · exact absurd h (by simp)

theorem tok_is {l : List UInt8} {t : Tok} {n : Nat} (h : tokL l = .tok t n) : TokIs l t n := by
  match l with
  | [] => exact absurd h (by simp [tokL])
  | c :: r =>
    rw [tokL] at h
    split at h
    · rename_i hc
      have hp := (letter_not hc).2.2.2.1
      have hrun : runL (c :: r) = c :: r.takeWhile isPart := by rw [runL, List.takeWhile_cons, if_pos hp]
      split at h
      · exact absurd h (by simp)
      · rename_i hlen
        injection h with h1 h2
        subst h1 h2
        have hall := all_takeWhile (p := isPart) (c :: r)
        have htk := take_takeWhile (p := isPart) (c :: r)
        have hle := takeWhile_le (p := isPart) (c :: r)
        have hh : isLetter ((runL (c :: r)).headD 0) = true := by rw [hrun]; exact hc
        have he : (runL (c :: r)).isEmpty = false := by rw [hrun]; rfl
        refine ⟨by rw [hrun]; simp, hle, ?_, by simp [two64], fun _ => htk.symm, ?_, ?_, ?_⟩
        · intro p hp
          by_cases hw : isWord (runL (c :: r)) = true
          · simp [checkT, hw, hp]
          · have : isName (runL (c :: r)) = true := by
              simp only [isName, he, hh, Bool.not_false, Bool.true_and, Bool.and_eq_true, decide_eq_true_eq, Bool.not_eq_true']
              exact ⟨⟨⟨by omega, trivial⟩, hall⟩, by simpa using hw⟩
            simp [checkT, hw, hp, this]
        · intro h3; simp only at h3; split at h3 <;> omega
        · simp only; split <;> simp
        · rw [oneT, if_pos (by simp only; split <;> decide)]; exact Nat.le_refl _
    · rename_i hc
      split at h
      · rename_i hd
        have e0 := takeWhile_le (p := isDigit) (c :: r)
        have e1 := all_takeWhile (p := isDigit) (c :: r)
        have e2 : 1 ≤ ((c :: r).takeWhile isDigit).length := by rw [List.takeWhile_cons, if_pos hd]; simp
        unfold figL at h
        split at h
        · exact plain_is e1 e2 e0 hd h
        · rename_i c' r' hq
          split at h
          · rename_i h39
            subst h39
            exact wide_is (l := c :: r) e1 e2 (by rw [← hq]; exact (List.takeWhile_append_dropWhile).symm) hd h
          · split at h
            · exact absurd h (by simp)
            · exact plain_is e1 e2 e0 hd h
      · split at h
        · rename_i h2
          injection h with h3 h4
          subst h3 h4
          refine ⟨by omega, h2.1, ?_, by simp [two64], fun _ => rfl, by simp, by simp, ?_⟩
          · intro p hp; simp [checkT, hp]; simpa using h2.2
          · rw [oneT, if_pos (by simp)]; exact List.length_take_le _ _
        · split at h
          · rename_i h2
            injection h with h3 h4
            subst h3 h4
            refine ⟨by omega, by simp, ?_, by simp [two64], fun _ => rfl, by simp, by simp, ?_⟩
            · intro p hp; simp [checkT, hp]; simpa using h2
            · rw [oneT, if_pos (by simp)]; exact List.length_take_le _ _
          · exact absurd h (by simp)
end Go.Proofs.Scn

/- Waves in plain Lean: what may be a wave; both ways to look. -/
namespace Go.Proofs.Wav
set_option linter.unusedVariables false
set_option linter.unusedSimpArgs false

/-- a change -/
structure Chg where
  t : Int
  g : Int
  v : Nat
deriving DecidableEq, Inhabited
/-- a wave -/
structure Wv where
  names : List (List UInt8)
  widths : List Int
  chs : List Chg
  last : Int
deriving DecidableEq, Inhabited

def nameOk (s : List UInt8) : Bool := !s.isEmpty && s.all fun c => decide (33 ≤ c.toNat) && decide (c.toNat ≤ 126)
def widthOk (w : Int) : Bool := decide (1 ≤ w) && decide (w ≤ 64)
def sigsOk (ns : List (List UInt8)) (ws : List Int) : Bool := decide (ws.length = ns.length) && (ns.all nameOk && (ws.all widthOk && decide ns.Nodup))
def maskN (w : Int) : Nat := if w < 1 then 0 else if 63 < w then 18446744073709551615 else 2 ^ w.toNat - 1
def behindC (a b : Chg) : Bool := decide (a.t < b.t) || (decide (b.t = a.t) && decide (a.g < b.g))
/-- may a change be, by itself -/
def okOne (n : Nat) (ws : List Int) (last : Int) (c : Chg) : Bool := decide (0 ≤ c.t) && decide (c.t ≤ last) && decide (0 ≤ c.g) && decide (c.g < n) && decide (c.v ≤ maskN (ws.getD c.g.toNat 0))
/-- what a signal was told last -/
def told (l : List Chg) (g : Int) : Option Nat := l.foldl (fun o c => if c.g = g then some c.v else o) none
theorem told_nil (g : Int) : told [] g = none := rfl
theorem told_snoc (l : List Chg) (c : Chg) (g : Int) : told (l ++ [c]) g = if c.g = g then some c.v else told l g := by simp [told]
theorem told_fold (g : Int) : ∀ (l : List Chg) (o : Option Nat), l.foldl (fun o c => if c.g = g then some c.v else o) o = (told l g).or o
  | [], o => by simp [told]
  | c :: l, o => by
    have h1 := told_fold g l
    unfold told
    rw [List.foldl_cons, List.foldl_cons, h1, h1]
    by_cases h : c.g = g
    · simp [h]
    · simp [h]
theorem told_cons (c : Chg) (l : List Chg) (g : Int) : told (c :: l) g = (told l g).or (if c.g = g then some c.v else none) := by
  unfold told
  rw [List.foldl_cons, told_fold]
  rfl
theorem told_none {l : List Chg} {g : Int} (h : ∀ c ∈ l, c.g ≠ g) : told l g = none := by
  induction l with
  | nil => rfl
  | cons c l ih =>
    rw [told_cons, ih (fun x hx => h x (List.mem_cons_of_mem _ hx)), if_neg (h c List.mem_cons_self)]
    rfl
theorem told_some {l : List Chg} {c : Chg} (h : c ∈ l) : ∃ x, told l c.g = some x := by
  induction l with
  | nil => cases h
  | cons d l ih =>
    rw [told_cons]
    rcases List.mem_cons.1 h with rfl | h
    · rw [if_pos rfl]
      cases told l c.g with
      | none => exact ⟨_, rfl⟩
      | some x => exact ⟨x, rfl⟩
    · obtain ⟨x, hx⟩ := ih h
      rw [hx]
      exact ⟨x, rfl⟩
/-- as the program looks: a change behind others -/
def stepP (n : Nat) (ws : List Int) (last : Int) (pre : List Chg) (c : Chg) : Bool :=
  okOne n ws last c && (match pre.getLast? with | none => true | some p => behindC p c) && !decide (told pre c.g = some c.v) && (decide (c.t = 0) == decide (pre.length < n))
/-- as the reference looks -/
def stepR (n : Nat) (ws : List Int) (last : Int) (pre : List Chg) (c : Chg) : Bool :=
  okOne n ws last c && (match pre.getLast? with | none => true | some p => behindC p c) && !(decide (0 < c.t) && decide ((told pre c.g).getD 0 = c.v))
def allSteps (f : List Chg → Chg → Bool) (pre : List Chg) : List Chg → Bool
  | [] => true
  | c :: l => f pre c && allSteps f (pre ++ [c]) l
def zeros (l : List Chg) : Nat := (l.filter fun c => decide (c.t = 0)).length
def okP (n : Nat) (ws : List Int) (last : Int) (l : List Chg) : Bool := decide (n ≤ l.length) && allSteps (stepP n ws last) [] l
def okR (n : Nat) (ws : List Int) (last : Int) (l : List Chg) : Bool := allSteps (stepR n ws last) [] l && decide (zeros l = n)

/-- what Check says -/
def checkW (w : Wv) : Int :=
  if 512 < w.names.length ∨ 65536 < w.chs.length ∨ 2147483647 < w.last then 2
  else if sigsOk w.names w.widths = true ∧ 0 ≤ w.last ∧ okP w.names.length w.widths w.last w.chs = true then 0 else 1

theorem allSteps_iff {f : List Chg → Chg → Bool} : ∀ {l pre : List Chg}, allSteps f pre l = true ↔ ∀ k (h : k < l.length), f (pre ++ l.take k) l[k] = true
  | [], pre => by simp [allSteps]
  | c :: l, pre => by
    rw [allSteps, Bool.and_eq_true, allSteps_iff (l := l)]
    constructor
    · rintro ⟨h1, h2⟩ k hk
      cases k with
      | zero => simpa using h1
      | succ k =>
        have := h2 k (by simpa using hk)
        simpa using this
    · intro h
      refine ⟨?_, fun k hk => ?_⟩
      · have := h 0 (by simp)
        simp only [List.take_zero, List.append_nil] at this
        exact this
      have := h (k + 1) (by simpa using hk)
      simpa using this

/-- each change may be, and stands behind the one ahead -/
structure Row (n : Nat) (ws : List Int) (last : Int) (l : List Chg) : Prop where
  one : ∀ k (h : k < l.length), okOne n ws last l[k] = true
  next : ∀ k (h : k + 1 < l.length), behindC l[k] l[k + 1] = true

theorem take_last (l : List Chg) (k : Nat) (h : k < l.length) : (l.take (k + 1)).getLast? = some l[k] := by
  rw [List.take_succ_eq_append_getElem h, List.getLast?_append]
  simp
theorem row_of {n : Nat} {ws : List Int} {last : Int} {l : List Chg} (f : List Chg → Chg → Bool) (h : ∀ k (h : k < l.length), f (l.take k) l[k] = true)
    (hf : ∀ pre c, f pre c = true → (okOne n ws last c && (match pre.getLast? with | none => true | some p => behindC p c)) = true) : Row n ws last l := by
  constructor
  · intro k hk
    have := hf _ _ (h k hk)
    rw [Bool.and_eq_true] at this
    exact this.1
  · intro k hk
    have := hf _ _ (h (k + 1) hk)
    rw [Bool.and_eq_true, take_last l k (by omega)] at this
    exact this.2
theorem Row.mono {n : Nat} {ws : List Int} {last : Int} {l : List Chg} (h : Row n ws last l) : ∀ d i (hi : i + d < l.length), l[i].t ≤ l[i + d].t ∧ (0 < d → l[i].t = l[i + d].t → l[i].g < l[i + d].g) := by
  intro d
  induction d with
  | zero => intro i hi; exact ⟨by simp, fun h => by omega⟩
  | succ d ih =>
    intro i hi
    obtain ⟨h1, h2⟩ := ih i (by omega)
    have h3 := h.next (i + d) (by omega)
    simp only [behindC, Bool.or_eq_true, Bool.and_eq_true, decide_eq_true_eq] at h3
    have e : i + (d + 1) = i + d + 1 := by omega
    simp only [e]
    refine ⟨by omega, fun _ ht => ?_⟩
    rcases Nat.eq_zero_or_pos d with h0 | h0
    · subst h0
      simp at h1 h2 h3 ht ⊢
      omega
    · have := h2 h0 (by omega)
      omega
theorem zeros_iff : ∀ {l : List Chg}, (∀ k (h : k < l.length), 0 ≤ l[k].t) → (∀ i j (hi : i ≤ j) (hj : j < l.length), l[i].t ≤ l[j].t) → ∀ k (h : k < l.length), (l[k].t = 0 ↔ k < zeros l)
  | [], _, _, k, h => by simp at h
  | c :: l, h0, hm, k, hk => by
    have ih := zeros_iff (l := l) (fun k h => h0 (k + 1) (by simpa using h)) (fun i j hi hj => hm (i + 1) (j + 1) (by omega) (by simpa using hj))
    by_cases hc : c.t = 0
    · have hz : zeros (c :: l) = zeros l + 1 := by simp [zeros, hc]
      cases k with
      | zero => simp [hc, hz]
      | succ k =>
        rw [hz, Nat.add_lt_add_iff_right]
        simpa using ih k (by simpa using hk)
    · have hz : zeros (c :: l) = zeros l := by simp [zeros, hc]
      have hz0 : zeros l = 0 := by
        rcases Nat.eq_zero_or_pos (zeros l) with h | h
        · exact h
        · have hl : 0 < l.length := by
            cases l with
            | nil => simp [zeros] at h
            | cons _ _ => simp
          have h1 := (ih 0 hl).2 h
          have h2 := hm 0 1 (by omega) (by simpa using hl)
          have h3 := h0 0 (by simp)
          simp at h1 h2 h3
          omega
      rw [hz, hz0]
      have h2 := hm 0 k (by omega) hk
      have h3 := h0 0 (by simp)
      simp only [List.getElem_cons_zero] at h2 h3
      constructor
      · intro h; omega
      · intro h; omega
theorem zeros_le (l : List Chg) : zeros l ≤ l.length := List.length_filter_le _ _
theorem Row.t0 {n : Nat} {ws : List Int} {last : Int} {l : List Chg} (h : Row n ws last l) (k : Nat) (hk : k < l.length) : 0 ≤ l[k].t ∧ 0 ≤ l[k].g ∧ l[k].g < n := by
  have := h.one k hk
  simp only [okOne, Bool.and_eq_true, decide_eq_true_eq] at this
  omega
theorem Row.zero {n : Nat} {ws : List Int} {last : Int} {l : List Chg} (h : Row n ws last l) (k : Nat) (hk : k < l.length) : l[k].t = 0 ↔ k < zeros l :=
  zeros_iff (fun k hk => (h.t0 k hk).1) (fun i j hi hj => by
    obtain ⟨d, rfl⟩ : ∃ d, j = i + d := ⟨j - i, by omega⟩
    exact (h.mono d i hj).1) k hk
/-- the first changes are of each signal, in order -/
theorem Row.first {n : Nat} {ws : List Int} {last : Int} {l : List Chg} (h : Row n ws last l) (hn : zeros l = n) : ∀ k (hk : k < n), ∃ hl : k < l.length, l[k].g = k := by
  have hle := zeros_le l
  have low : ∀ k (hk : k < l.length), k < n → (k : Int) ≤ l[k].g := by
    intro k
    induction k with
    | zero => intro hk _; have := (h.t0 0 hk).2.1; omega
    | succ k ih =>
      intro hk hkn
      have h1 := ih (by omega) (by omega)
      have e1 := (h.zero k (by omega)).2 (by omega)
      have e2 := (h.zero (k + 1) hk).2 (by omega)
      have := (h.mono 1 k hk).2 (by omega) (by omega)
      omega
  have high : ∀ d k (hk : k < l.length), k + d + 1 = n → l[k].g ≤ k := by
    intro d
    induction d with
    | zero => intro k hk he; have := (h.t0 k hk).2.2; omega
    | succ d ih =>
      intro k hk he
      have h1 := ih (k + 1) (by omega) (by omega)
      have e1 := (h.zero k (by omega)).2 (by omega)
      have e2 := (h.zero (k + 1) (by omega)).2 (by omega)
      have := (h.mono 1 k (by omega)).2 (by omega) (by omega)
      omega
  intro k hk
  have hl : k < l.length := by omega
  refine ⟨hl, ?_⟩
  have h1 := low k hl hk
  have h2 := high (n - k - 1) k hl (by omega)
  omega
theorem Row.told {n : Nat} {ws : List Int} {last : Int} {l : List Chg} (h : Row n ws last l) (hn : zeros l = n) (k : Nat) (hk : k < l.length) (hkn : n ≤ k) : ∃ x, told (l.take k) l[k].g = some x := by
  obtain ⟨h1, h2, h3⟩ := h.t0 k hk
  obtain ⟨hl, hg⟩ := h.first hn l[k].g.toNat (by omega)
  have hm : l[l[k].g.toNat] ∈ l.take k := by
    rw [List.mem_take_iff_getElem]
    exact ⟨l[k].g.toNat, by omega, rfl⟩
  obtain ⟨x, hx⟩ := told_some hm
  rw [hg, show ((l[k].g.toNat : Nat) : Int) = l[k].g by omega] at hx
  exact ⟨x, hx⟩

/-- both look the same -/
theorem okP_okR (n : Nat) (ws : List Int) (last : Int) (l : List Chg) : okP n ws last l = okR n ws last l := by
  rw [Bool.eq_iff_iff]
  unfold okP okR
  rw [Bool.and_eq_true, Bool.and_eq_true, allSteps_iff, allSteps_iff, decide_eq_true_iff, decide_eq_true_iff]
  simp only [List.nil_append]
  constructor
  · rintro ⟨hn, h⟩
    have R : Row n ws last l := row_of _ h fun pre c hp => by
      simp only [stepP, Bool.and_eq_true] at hp
      simp only [Bool.and_eq_true]
      exact hp.1.1
    have hb : ∀ k (hk : k < l.length), (l[k].t = 0 ↔ k < n) := by
      intro k hk
      have := h k hk
      simp only [stepP, Bool.and_eq_true, beq_iff_eq] at this
      have := this.2
      rw [List.length_take, Nat.min_eq_left (by omega)] at this
      exact decide_eq_decide.1 this
    have hz : zeros l = n := by
      have hle := zeros_le l
      rcases Nat.lt_trichotomy (zeros l) n with h1 | h1 | h1
      · have a := (R.zero (zeros l) (by omega)).1 ((hb (zeros l) (by omega)).2 h1)
        omega
      · exact h1
      · have a := (hb n (by omega)).1 ((R.zero n (by omega)).2 h1)
        omega
    refine ⟨fun k hk => ?_, hz⟩
    have := h k hk
    simp only [stepP, Bool.and_eq_true] at this
    simp only [stepR, Bool.and_eq_true]
    refine ⟨this.1.1, ?_⟩
    by_cases ht : 0 < l[k].t
    · have hkn : n ≤ k := by
        rcases Nat.lt_or_ge k n with h1 | h1
        · have := (hb k hk).2 h1; omega
        · exact h1
      obtain ⟨x, hx⟩ := R.told hz k hk hkn
      have h2 := this.1.2
      rw [hx] at h2 ⊢
      simp only [Option.some.injEq, Bool.not_eq_true', decide_eq_false_iff_not, Option.getD_some, Bool.and_eq_false_iff] at h2 ⊢
      exact .inr h2
    · simp [ht]
  · rintro ⟨h, hz⟩
    have R : Row n ws last l := row_of _ h fun pre c hp => by
      simp only [stepR, Bool.and_eq_true] at hp
      simp only [Bool.and_eq_true]
      exact hp.1
    have hle := zeros_le l
    refine ⟨by omega, fun k hk => ?_⟩
    have := h k hk
    simp only [stepR, Bool.and_eq_true] at this
    simp only [stepP, Bool.and_eq_true, beq_iff_eq]
    refine ⟨⟨this.1, ?_⟩, ?_⟩
    · by_cases hkn : k < n
      · have : told (l.take k) l[k].g = none := told_none fun c hc => by
          rw [List.mem_take_iff_getElem] at hc
          obtain ⟨i, hi, rfl⟩ := hc
          obtain ⟨d, rfl⟩ : ∃ d, k = i + d := ⟨k - i, by omega⟩
          have e1 := (R.zero i (by omega)).2 (by omega)
          have e2 := (R.zero (i + d) hk).2 (by omega)
          have := (R.mono d i hk).2 (by omega) (by omega)
          omega
        rw [this]; simp
      · obtain ⟨x, hx⟩ := R.told hz k hk (by omega)
        have ht : 0 < l[k].t := by
          have h1 := (R.t0 k hk).1
          have h2 : ¬ l[k].t = 0 := fun e => by have := (R.zero k hk).1 e; omega
          omega
        have h2 := this.2
        rw [hx] at h2 ⊢
        simp only [ht, decide_true, Bool.true_and, Option.getD_some, Bool.not_eq_true', decide_eq_false_iff_not] at h2
        simp [h2]
    · rw [List.length_take, Nat.min_eq_left (by omega)]
      exact decide_eq_decide.2 ((R.zero k hk).trans (by rw [hz]))

end Go.Proofs.Wav

/- Waves in plain Lean: values, rows, what is made of rows. -/
namespace Go.Proofs.Wav
set_option linter.unusedVariables false
set_option linter.unusedSimpArgs false

/-- a signal's value at a time -/
def valAt (l : List Chg) (t g : Int) : Nat := (told (l.filter fun c => decide (c.t ≤ t)) g).getD 0
def rowsOf (n : Nat) (l : List Chg) (m : Nat) : List (List Nat) := (List.range m).map fun (t : Nat) => (List.range n).map fun (s : Nat) => valAt l t s

/-- the changes of a row behind another one -/
def rowC (t : Nat) (was : Option (List Nat)) (r : List Nat) (k : Nat) : List Chg :=
  (List.range k).filterMap fun (s : Nat) => if was.map (fun p => p.getD s 0) = some (r.getD s 0) then none else some ⟨t, s, r.getD s 0⟩
theorem rowC_zero (t : Nat) (was : Option (List Nat)) (r : List Nat) : rowC t was r 0 = [] := rfl
theorem rowC_succ (t : Nat) (was : Option (List Nat)) (r : List Nat) (k : Nat) : rowC t was r (k + 1) = rowC t was r k ++ if was.map (fun p => p.getD k 0) = some (r.getD k 0) then [] else [⟨t, k, r.getD k 0⟩] := by
  unfold rowC
  rw [List.range_succ, List.filterMap_append]
  congr 1
  by_cases h : was.map (fun p => p.getD k 0) = some (r.getD k 0)
  · rw [if_pos h, List.filterMap_cons_none (by rw [if_pos h])]
    rfl
  · rw [if_neg h, List.filterMap_cons_some (by rw [if_neg h])]
    rfl
/-- the row ahead of row k -/
def ahead (rows : List (List Nat)) (k : Nat) : Option (List Nat) := if k = 0 then none else some (rows.getD (k - 1) [])
/-- the changes of the first k rows -/
def chsOf (rows : List (List Nat)) : Nat → List Chg
  | 0 => []
  | k + 1 => chsOf rows k ++ rowC k (ahead rows k) (rows.getD k []) (rows.getD k []).length

theorem mem_rowC {t : Nat} {was : Option (List Nat)} {r : List Nat} {k : Nat} {c : Chg} (h : c ∈ rowC t was r k) : c.t = t ∧ ∃ s : Nat, s < k ∧ c.g = s ∧ c.v = r.getD s 0 ∧ was.map (fun p => p.getD s 0) ≠ some (r.getD s 0) := by
  unfold rowC at h
  rw [List.mem_filterMap] at h
  obtain ⟨s, hs, hc⟩ := h
  split at hc
  · cases hc
  · cases hc
    exact ⟨rfl, s, List.mem_range.1 hs, rfl, rfl, by assumption⟩
theorem rowC_mem {t : Nat} {was : Option (List Nat)} {r : List Nat} {k s : Nat} (hs : s < k) (h : was.map (fun p => p.getD s 0) ≠ some (r.getD s 0)) : (⟨t, s, r.getD s 0⟩ : Chg) ∈ rowC t was r k := by
  unfold rowC
  rw [List.mem_filterMap]
  exact ⟨s, List.mem_range.2 hs, by rw [if_neg h]⟩
theorem told_rowC (pre : List Chg) (t : Nat) (was : Option (List Nat)) (r : List Nat) (s : Nat) : ∀ k, told (pre ++ rowC t was r k) s = if s < k ∧ was.map (fun p => p.getD s 0) ≠ some (r.getD s 0) then some (r.getD s 0) else told pre s
  | 0 => by simp [rowC_zero]
  | k + 1 => by
    rw [rowC_succ, ← List.append_assoc]
    have ih := told_rowC pre t was r s k
    by_cases hw : was.map (fun p => p.getD k 0) = some (r.getD k 0)
    · rw [if_pos hw, List.append_nil, ih]
      by_cases hs : s = k
      · subst hs
        rw [if_neg (by omega), if_neg (fun h => h.2 hw)]
      · have : (s < k + 1) = (s < k) := by apply propext; omega
        simp only [this]
    · rw [if_neg hw, told_snoc]
      by_cases hs : s = k
      · subst hs
        rw [if_pos rfl, if_pos ⟨by omega, hw⟩]
      · have : (s < k + 1) = (s < k) := by apply propext; omega
        rw [if_neg (by simp; omega), ih]
        simp only [this]
theorem mem_chsOf {rows : List (List Nat)} {c : Chg} : ∀ {k}, c ∈ chsOf rows k → ∃ t : Nat, t < k ∧ c ∈ rowC t (ahead rows t) (rows.getD t []) (rows.getD t []).length
  | 0, h => by simp [chsOf] at h
  | k + 1, h => by
    rw [chsOf, List.mem_append] at h
    rcases h with h | h
    · obtain ⟨t, h1, h2⟩ := mem_chsOf h
      exact ⟨t, by omega, h2⟩
    · exact ⟨k, by omega, h⟩
theorem chsOf_mem {rows : List (List Nat)} {c : Chg} {t : Nat} : ∀ {k}, t < k → c ∈ rowC t (ahead rows t) (rows.getD t []) (rows.getD t []).length → c ∈ chsOf rows k
  | 0, h, _ => by omega
  | k + 1, h, hc => by
    rw [chsOf, List.mem_append]
    by_cases ht : t = k
    · subst ht; exact .inr hc
    · exact .inl (chsOf_mem (by omega) hc)
/-- up to a time -/
theorem chsOf_upto (rows : List (List Nat)) (t : Nat) : ∀ k, t < k → (chsOf rows k).filter (fun c => decide (c.t ≤ (t : Int))) = chsOf rows (t + 1)
  | 0, h => by omega
  | k + 1, h => by
    by_cases ht : t = k
    · subst ht
      rw [List.filter_eq_self]
      intro c hc
      obtain ⟨s, hs, hm⟩ := mem_chsOf hc
      have := (mem_rowC hm).1
      simp; omega
    · rw [chsOf, List.filter_append, chsOf_upto rows t k (by omega)]
      have : (rowC k (ahead rows k) (rows.getD k []) (rows.getD k []).length).filter (fun c => decide (c.t ≤ (t : Int))) = [] := by
        rw [List.filter_eq_nil_iff]
        intro c hc
        have := (mem_rowC hc).1
        simp; omega
      rw [this, List.append_nil]
/-- what was made of rows tells them -/
theorem told_chsOf (rows : List (List Nat)) (n : Nat) (hn : ∀ k, k < rows.length → (rows.getD k []).length = n) (s : Nat) (hs : s < n) : ∀ k, k < rows.length → told (chsOf rows (k + 1)) s = some ((rows.getD k []).getD s 0) := by
  intro k
  induction k with
  | zero =>
    intro h
    rw [chsOf, told_rowC, if_pos ⟨by rw [hn 0 h]; exact hs, by simp [ahead]⟩]
  | succ k ih =>
    intro h
    rw [chsOf, told_rowC, ih (by omega)]
    by_cases hw : (ahead rows (k + 1)).map (fun p => p.getD s 0) = some ((rows.getD (k + 1) []).getD s 0)
    · rw [if_neg (fun hh => hh.2 hw)]
      simpa [ahead] using hw
    · rw [if_pos ⟨by rw [hn (k + 1) h]; exact hs, hw⟩]
theorem rows_chsOf (rows : List (List Nat)) (n : Nat) (hn : ∀ k, k < rows.length → (rows.getD k []).length = n) : rowsOf n (chsOf rows rows.length) rows.length = rows := by
  apply List.ext_getElem
  · simp [rowsOf]
  · intro t h1 h2
    have hnt := hn t h2
    have e : rows.getD t [] = rows[t] := by simp [List.getD_eq_getElem?_getD, h2]
    simp only [rowsOf, List.getElem_map, List.getElem_range]
    apply List.ext_getElem
    · simp; rw [← e, hnt]
    · intro s h3 h4
      simp only [List.getElem_map, List.getElem_range]
      have hs : s < n := by simpa using h3
      unfold valAt
      rw [chsOf_upto rows t rows.length h2, told_chsOf rows n hn s hs t h2, e]
      simp [List.getD_eq_getElem?_getD, h4]

/-! changes in order -/
def lt2 (a b : Chg) : Prop := a.t < b.t ∨ (a.t = b.t ∧ a.g < b.g)
theorem behind_lt (a b : Chg) : behindC a b = true ↔ lt2 a b := by
  simp only [behindC, lt2, Bool.or_eq_true, Bool.and_eq_true, decide_eq_true_eq]
  omega
theorem Row.lt {n : Nat} {ws : List Int} {last : Int} {l : List Chg} (h : Row n ws last l) : l.Pairwise lt2 := by
  rw [List.pairwise_iff_getElem]
  intro i j hi hj hij
  obtain ⟨d, rfl⟩ : ∃ d, j = i + d := ⟨j - i, by omega⟩
  obtain ⟨h1, h2⟩ := h.mono d i hj
  unfold lt2
  rcases Int.lt_or_le l[i].t l[i + d].t with h3 | h3
  · exact .inl h3
  · exact .inr ⟨by omega, h2 (by omega) (by omega)⟩
theorem lt2_eq : ∀ {l m : List Chg}, l.Pairwise lt2 → m.Pairwise lt2 → (∀ c, c ∈ l ↔ c ∈ m) → l = m
  | [], [], _, _, _ => rfl
  | [], b :: m, _, _, h => by have := (h b).2 List.mem_cons_self; cases this
  | a :: l, [], _, _, h => by have := (h a).1 List.mem_cons_self; cases this
  | a :: l, b :: m, hl, hm, h => by
    rw [List.pairwise_cons] at hl hm
    have hirr : ∀ c, ¬ lt2 c c := fun c hc => by unfold lt2 at hc; omega
    have hanti : ∀ c d, lt2 c d → ¬ lt2 d c := fun c d h1 h2 => by unfold lt2 at h1 h2; omega
    have hab : a = b := by
      rcases List.mem_cons.1 ((h a).1 List.mem_cons_self) with h1 | h1
      · exact h1
      · rcases List.mem_cons.1 ((h b).2 List.mem_cons_self) with h2 | h2
        · exact h2.symm
        · exact (hanti _ _ (hm.1 a h1) (hl.1 b h2)).elim
    subst hab
    congr 1
    refine lt2_eq hl.2 hm.2 fun c => ⟨fun hc => ?_, fun hc => ?_⟩
    · rcases List.mem_cons.1 ((h c).1 (List.mem_cons_of_mem _ hc)) with h1 | h1
      · subst h1; exact (hirr _ (hl.1 _ hc)).elim
      · exact h1
    · rcases List.mem_cons.1 ((h c).2 (List.mem_cons_of_mem _ hc)) with h1 | h1
      · subst h1; exact (hirr _ (hm.1 _ hc)).elim
      · exact h1
theorem rowC_lt (t : Nat) (was : Option (List Nat)) (r : List Nat) : ∀ k, (rowC t was r k).Pairwise lt2
  | 0 => by simp [rowC_zero]
  | k + 1 => by
    rw [rowC_succ, List.pairwise_append]
    refine ⟨rowC_lt t was r k, by split <;> simp, ?_⟩
    intro a ha b hb
    split at hb
    · cases hb
    · obtain ⟨h1, s, hs, h2, _⟩ := mem_rowC ha
      rw [List.mem_singleton] at hb
      subst hb
      right
      simp only
      omega
theorem chsOf_lt (rows : List (List Nat)) : ∀ k, (chsOf rows k).Pairwise lt2
  | 0 => by simp [chsOf]
  | k + 1 => by
    rw [chsOf, List.pairwise_append]
    refine ⟨chsOf_lt rows k, rowC_lt _ _ _ _, ?_⟩
    intro a ha b hb
    obtain ⟨t, ht, hm⟩ := mem_chsOf ha
    have h1 := (mem_rowC hm).1
    have h2 := (mem_rowC hb).1
    left
    omega

end Go.Proofs.Wav

/- Waves in plain Lean: a wave is its rows. -/
namespace Go.Proofs.Wav
set_option linter.unusedVariables false
set_option linter.unusedSimpArgs false

theorem told_append (a b : List Chg) (g : Int) : told (a ++ b) g = (told b g).or (told a g) := by
  have := told_fold g b (told a g)
  unfold told at this ⊢
  rw [List.foldl_append]
  exact this
theorem told_filter {l : List Chg} {p : Chg → Bool} {g : Int} (h : ∀ c ∈ l, p c = false → c.g ≠ g) : told (l.filter p) g = told l g := by
  induction l with
  | nil => rfl
  | cons c l ih =>
    have ih := ih fun x hx => h x (List.mem_cons_of_mem _ hx)
    cases hp : p c
    · rw [List.filter_cons_of_neg (by rw [hp]; exact Bool.false_ne_true), told_cons, ih, if_neg (h c List.mem_cons_self hp)]
      simp
    · rw [List.filter_cons_of_pos hp, told_cons, told_cons, ih]
theorem split_at (l : List Chg) (k : Nat) (h : k < l.length) : l = l.take k ++ l[k] :: l.drop (k + 1) := by
  rw [← List.drop_eq_getElem_cons h, List.take_append_drop]

section
variable {l : List Chg} (hl : l.Pairwise lt2)
include hl
theorem pre_lt {k : Nat} (hk : k < l.length) {c : Chg} (h : c ∈ l.take k) : lt2 c l[k] := by
  rw [List.mem_take_iff_getElem] at h
  obtain ⟨i, hi, rfl⟩ := h
  exact List.pairwise_iff_getElem.1 hl i k (by omega) hk (by omega)
theorem post_lt {k : Nat} (hk : k < l.length) {c : Chg} (h : c ∈ l.drop (k + 1)) : lt2 l[k] c := by
  rw [List.mem_drop_iff_getElem] at h
  obtain ⟨i, hi, rfl⟩ := h
  exact List.pairwise_iff_getElem.1 hl k (k + 1 + i) hk (by omega) (by omega)
theorem told_at {k : Nat} (hk : k < l.length) : told (l.filter fun c => decide (c.t ≤ l[k].t)) l[k].g = some l[k].v := by
  have e := split_at l k hk
  have h1 : told ((l.take k ++ l[k] :: l.drop (k + 1)).filter fun c => decide (c.t ≤ l[k].t)) l[k].g = some l[k].v := by
    rw [List.filter_append, List.filter_cons_of_pos (by simp), told_append, told_cons, if_pos rfl, told_none]
    · rfl
    · intro c hc
      rw [List.mem_filter] at hc
      have h2 := post_lt hl hk hc.1
      have h3 := of_decide_eq_true hc.2
      unfold lt2 at h2
      omega
  rwa [← e] at h1
theorem told_ahead {k : Nat} (hk : k < l.length) : told (l.filter fun c => decide (c.t ≤ l[k].t - 1)) l[k].g = told (l.take k) l[k].g := by
  have e := split_at l k hk
  have h1 : told ((l.take k ++ l[k] :: l.drop (k + 1)).filter fun c => decide (c.t ≤ l[k].t - 1)) l[k].g = told (l.take k) l[k].g := by
    rw [List.filter_append, List.filter_cons_of_neg (by simp; omega)]
    have h2 : (l.drop (k + 1)).filter (fun c => decide (c.t ≤ l[k].t - 1)) = [] := by
      rw [List.filter_eq_nil_iff]
      intro c hc
      have h2 := post_lt hl hk hc
      unfold lt2 at h2
      simp; omega
    rw [h2, List.append_nil]
    refine told_filter fun c hc hp => ?_
    have h2 := pre_lt hl hk hc
    have h3 := of_decide_eq_false hp
    unfold lt2 at h2
    omega
  rwa [← e] at h1
end
theorem told_still {l : List Chg} {t g : Int} (h : ∀ c ∈ l, c.t = t → c.g ≠ g) : told (l.filter fun c => decide (c.t ≤ t)) g = told (l.filter fun c => decide (c.t ≤ t - 1)) g := by
  have : (l.filter fun c => decide (c.t ≤ t - 1)) = (l.filter fun c => decide (c.t ≤ t)).filter fun c => decide (c.t ≤ t - 1) := by
    rw [List.filter_filter]
    congr 1
    funext c
    rw [Bool.eq_iff_iff]
    simp
    omega
  rw [this]
  refine (told_filter fun c hc hp => ?_).symm
  rw [List.mem_filter] at hc
  have h1 := of_decide_eq_true hc.2
  have h2 := of_decide_eq_false hp
  exact h c hc.1 (by omega)

/-- at a time without a change of it a signal is as it was -/
theorem val_still {l : List Chg} {t g : Int} (h : ∀ c ∈ l, c.t = t → c.g ≠ g) : valAt l t g = valAt l (t - 1) g := by
  unfold valAt
  rw [told_still h]
theorem rowsOf_get {n : Nat} {l : List Chg} {m t : Nat} (ht : t < m) : (rowsOf n l m).getD t [] = (List.range n).map fun (s : Nat) => valAt l t s := by
  simp [rowsOf, List.getD_eq_getElem?_getD, ht]
theorem rowsOf_val {n : Nat} {l : List Chg} {m t s : Nat} (ht : t < m) (hs : s < n) : ((rowsOf n l m).getD t []).getD s 0 = valAt l t s := by
  rw [rowsOf_get ht]
  simp [List.getD_eq_getElem?_getD, hs]

/-- what a good row of changes is -/
structure Good (n : Nat) (ws : List Int) (last : Int) (l : List Chg) : Prop where
  row : Row n ws last l
  zero : zeros l = n
  new : ∀ k (h : k < l.length), told (l.take k) l[k].g ≠ some l[k].v
theorem good_of {n : Nat} {ws : List Int} {last : Int} {l : List Chg} (h : okP n ws last l = true) : Good n ws last l := by
  have h' := h
  rw [okP_okR] at h'
  unfold okP at h
  unfold okR at h'
  rw [Bool.and_eq_true, allSteps_iff] at h h'
  simp only [List.nil_append] at h h'
  refine ⟨row_of _ h.2 fun pre c hp => ?_, of_decide_eq_true h'.2, fun k hk => ?_⟩
  · simp only [stepP, Bool.and_eq_true] at hp
    simp only [Bool.and_eq_true]
    exact hp.1.1
  · have := h.2 k hk
    simp only [stepP, Bool.and_eq_true, Bool.not_eq_true', decide_eq_false_iff_not] at this
    exact this.1.2

section
variable {n : Nat} {ws : List Int} {last : Int} {l : List Chg} (G : Good n ws last l)
include G
theorem Good.val {k : Nat} (hk : k < l.length) : valAt l l[k].t l[k].g = l[k].v := by
  unfold valAt
  rw [told_at G.row.lt hk]
  rfl
theorem Good.old {k : Nat} (hk : k < l.length) (ht : 0 < l[k].t) : valAt l (l[k].t - 1) l[k].g ≠ l[k].v := by
  have hz : n ≤ k := by
    have h1 : ¬ l[k].t = 0 := by omega
    rw [G.row.zero k hk, G.zero] at h1
    omega
  obtain ⟨x, hx⟩ := G.row.told G.zero k hk hz
  have h1 := G.new k hk
  unfold valAt
  rw [told_ahead G.row.lt hk]
  rw [hx] at h1 ⊢
  intro h2
  simp only [Option.getD_some] at h2
  exact h1 (by rw [h2])
theorem Good.start {s : Nat} (hs : s < n) : ∃ hl : s < l.length, l[s].t = 0 ∧ l[s].g = s := by
  obtain ⟨hl, hg⟩ := G.row.first G.zero s hs
  exact ⟨hl, (G.row.zero s hl).2 (by rw [G.zero]; exact hs), hg⟩
/-- a wave is made of its rows -/
theorem Good.made (hlast : 0 ≤ last) : chsOf (rowsOf n l (last.toNat + 1)) (last.toNat + 1) = l := by
  have hah : ∀ t s : Nat, t < last.toNat + 1 → s < n → (ahead (rowsOf n l (last.toNat + 1)) t).map (fun p => p.getD s 0) = if t = 0 then none else some (valAt l ((t : Int) - 1) s) := by
    intro t s ht hs
    unfold ahead
    by_cases h0 : t = 0
    · rw [if_pos h0, if_pos h0]; rfl
    · rw [if_neg h0, if_neg h0, Option.map_some, rowsOf_val (by omega) hs, show ((t - 1 : Nat) : Int) = (t : Int) - 1 by omega]
  have hlen : ∀ t, t < last.toNat + 1 → ((rowsOf n l (last.toNat + 1)).getD t []).length = n := by
    intro t ht
    rw [rowsOf_get ht]; simp
  have fwd : ∀ c ∈ l, c ∈ chsOf (rowsOf n l (last.toNat + 1)) (last.toNat + 1) := by
    intro c hc
    obtain ⟨k, hk, rfl⟩ := List.getElem_of_mem hc
    have h1 := G.row.one k hk
    simp only [okOne, Bool.and_eq_true, decide_eq_true_eq] at h1
    have ht : l[k].t.toNat < last.toNat + 1 := by omega
    have hs : l[k].g.toNat < n := by omega
    have e1 : ((l[k].t.toNat : Nat) : Int) = l[k].t := by omega
    have e2 : ((l[k].g.toNat : Nat) : Int) = l[k].g := by omega
    have hv := rowsOf_val (n := n) (l := l) ht hs
    rw [e1, e2, G.val hk] at hv
    refine chsOf_mem ht ?_
    have := rowC_mem (t := l[k].t.toNat) (was := ahead (rowsOf n l (last.toNat + 1)) l[k].t.toNat) (r := (rowsOf n l (last.toNat + 1)).getD l[k].t.toNat []) (k := ((rowsOf n l (last.toNat + 1)).getD l[k].t.toNat []).length) (s := l[k].g.toNat) (by rw [hlen _ ht]; exact hs) (by
      rw [hah _ _ ht hs, hv]
      by_cases h0 : l[k].t.toNat = 0
      · rw [if_pos h0]; simp
      · rw [if_neg h0, e1, e2]
        have := G.old hk (by omega)
        simpa using this)
    rw [hv, e1, e2] at this
    exact this
  refine lt2_eq (chsOf_lt _ _) G.row.lt fun c => ⟨fun hc => ?_, fwd c⟩
  obtain ⟨t, ht, hm⟩ := mem_chsOf hc
  obtain ⟨h1, s, hs, h2, h3, h4⟩ := mem_rowC hm
  rw [hlen t ht] at hs
  rw [rowsOf_val ht hs] at h3 h4
  rw [hah t s ht hs] at h4
  have key : ∃ c' ∈ l, c'.t = t ∧ c'.g = s := by
    by_cases h0 : t = 0
    · obtain ⟨hl, a, b⟩ := G.start hs
      exact ⟨l[s], List.getElem_mem hl, by rw [a, h0]; rfl, b⟩
    · rw [if_neg h0] at h4
      apply Classical.byContradiction
      intro hno
      apply h4
      rw [val_still (t := t) (g := s) fun c hc hct hcg => hno ⟨c, hc, hct, hcg⟩]
  obtain ⟨c', hc', ht', hg'⟩ := key
  have : c = c' := by
    obtain ⟨k, hk, rfl⟩ := List.getElem_of_mem hc'
    have hv := G.val hk
    rw [ht', hg'] at hv
    cases c with
    | mk a b v =>
      simp only at h1 h2 h3
      cases hx : l[k] with
      | mk a' b' v' =>
        rw [hx] at ht' hg' hv
        simp only at ht' hg' hv
        rw [h1, h2, h3, hv, ht', hg']
  rw [this]
  exact hc'
end

end Go.Proofs.Wav

/- Waves in plain Lean: the text of a wave, and how it is read. -/
namespace Go.Proofs.Wav
open Scn
set_option linter.unusedVariables false
set_option linter.unusedSimpArgs false

abbrev Ln := List UInt8
def dec (n : Nat) : Ln := digL 10 n
/-- so many binary figures -/
def binL : Nat → Nat → Ln
  | 0, _ => []
  | w + 1, v => binL w (v / 2) ++ [UInt8.ofNat (48 + v % 2)]
theorem binL_len : ∀ w v, (binL w v).length = w
  | 0, _ => rfl
  | w + 1, v => by simp [binL, binL_len w]
theorem binL_mem : ∀ w v, ∀ c ∈ binL w v, c = 48 ∨ c = 49
  | 0, _, c, h => by simp [binL] at h
  | w + 1, v, c, h => by
    rw [binL, List.mem_append] at h
    rcases h with h | h
    · exact binL_mem w _ c h
    · rw [List.mem_singleton] at h
      rcases Nat.mod_two_eq_zero_or_one v with h2 | h2
      · left; rw [h, h2]; rfl
      · right; rw [h, h2]; rfl
theorem fig_two (m : Nat) (h : m < 2) : figV (UInt8.ofNat (48 + m)) = m := by
  match m, h with
  | 0, _ => decide
  | 1, _ => decide
theorem binL_val : ∀ w v, v < 2 ^ w → numV 2 (binL w v) = v
  | 0, v, h => by simp at h; simp [binL, numV, h]
  | w + 1, v, h => by
    rw [binL, numV_append, binL_val w (v / 2) (by rw [Nat.pow_succ] at h; omega), fig_two _ (Nat.mod_lt _ (by omega))]
    omega
theorem binL_zero : ∀ w, binL w 0 = List.replicate w 48
  | 0 => rfl
  | w + 1 => by
    rw [binL, Nat.zero_div, binL_zero w, List.replicate_succ']
    rfl
theorem digL_two (v : Nat) (h : v < 2) : digL 2 v = [UInt8.ofNat (48 + v)] := by
  rw [digL_lt (.inl h), if_pos (by omega)]
/-- as the program has it -/
theorem binL_pad : ∀ w v, v < 2 ^ (w + 1) → List.replicate (w + 1 - (digL 2 v).length) 48 ++ digL 2 v = binL (w + 1) v
  | 0, v, h => by
    simp at h
    rw [digL_two v (by omega), binL, binL, Nat.mod_eq_of_lt (by omega)]
    simp
  | w + 1, v, h => by
    by_cases h2 : v < 2
    · rw [digL_two v h2, binL, Nat.mod_eq_of_lt h2, show v / 2 = 0 by omega, binL_zero]
      simp
    · rw [binL, ← binL_pad w (v / 2) (by rw [Nat.pow_succ] at h; omega), digL_ge (by omega), List.append_assoc, if_pos (by omega)]
      congr 1
      congr 1
      simp

theorem dec_mem (n : Nat) : ∀ c ∈ dec n, isDigit c = true := by
  have := (digL_spec 10 (by omega) (by omega) n).2.2.2.1 (by omega)
  rw [List.all_eq_true] at this
  exact this
theorem dec_ne (n : Nat) : dec n ≠ [] := by
  have := (digL_spec 10 (by omega) (by omega) n).2.2.2.2
  intro h
  unfold dec at h
  rw [h] at this
  cases this
theorem dec_val (n : Nat) : numV 10 (dec n) = n := (digL_spec 10 (by omega) (by omega) n).1
theorem digit_c {c : UInt8} (h : isDigit c = true) : c ≠ 32 ∧ c ≠ 10 := by
  have := digit_not h
  constructor
  · rintro rfl; exact absurd this.2.1 (by decide)
  · rintro rfl; exact absurd this.2.1 (by decide)

/-! the text -/
def sigLine (w : Int) (s : Ln) : Ln := [118, 97, 114, 32] ++ dec w.toNat ++ [32] ++ s
def timeLine (t : Int) : Ln := 35 :: dec t.toNat
def chgLine (ws : List Int) (c : Chg) : Ln := 98 :: binL (ws.getD c.g.toNat 0).toNat c.v ++ [32] ++ dec c.g.toNat
def sigLines : List Ln → List Int → List Ln
  | s :: ns, w :: ws => sigLine w s :: sigLines ns ws
  | _, _ => []
def timeLines (prev t : Int) : List Ln := if t = prev then [] else [timeLine t]
def chgLines (ws : List Int) : Int → List Chg → List Ln
  | _, [] => []
  | prev, c :: l => timeLines prev c.t ++ chgLine ws c :: chgLines ws c.t l
def lastT : Int → List Chg → Int
  | prev, [] => prev
  | _, c :: l => lastT c.t l
def linesW (w : Wv) : List Ln := sigLines w.names w.widths ++ (chgLines w.widths (-1) w.chs ++ timeLines (lastT (-1) w.chs) w.last)
def joinL (l : List Ln) : Ln := l.flatMap (· ++ [10])
def putW (w : Wv) : Ln := joinL (linesW w)

/-- a text's lines, and what stands behind the last line's end -/
def linesOf : Ln → List Ln × Ln
  | [] => ([], [])
  | c :: r => if c = 10 then ([] :: (linesOf r).1, (linesOf r).2) else
    match linesOf r with
    | ([], t) => ([], c :: t)
    | (l :: ls, t) => ((c :: l) :: ls, t)
theorem linesOf_line : ∀ (l r : Ln), 10 ∉ l → linesOf (l ++ 10 :: r) = (l :: (linesOf r).1, (linesOf r).2)
  | [], r, _ => by rw [List.nil_append, linesOf, if_pos rfl]
  | c :: l, r, h => by
    have hc : c ≠ 10 := fun e => h (by rw [e]; exact List.mem_cons_self)
    rw [List.cons_append, linesOf, if_neg hc, linesOf_line l r (fun hh => h (List.mem_cons_of_mem _ hh))]
theorem linesOf_join : ∀ ls : List Ln, (∀ l ∈ ls, 10 ∉ l) → linesOf (joinL ls) = (ls, [])
  | [], _ => rfl
  | l :: ls, h => by
    have : joinL (l :: ls) = l ++ 10 :: joinL ls := by simp [joinL]
    rw [this, linesOf_line l _ (h l List.mem_cons_self), linesOf_join ls fun x hx => h x (List.mem_cons_of_mem _ hx)]

/-! a line's words -/
/-- ahead of the first blank, and behind it -/
def cutB (s : Ln) : Ln × Option Ln :=
  match s.dropWhile (· != 32) with
  | [] => (s, none)
  | _ :: r => (s.takeWhile (· != 32), some r)
theorem dropWhile_all {p : UInt8 → Bool} : ∀ {l : Ln}, (∀ c ∈ l, p c = true) → l.dropWhile p = []
  | [], _ => rfl
  | c :: l, h => by
    rw [List.dropWhile_cons, if_pos (h c List.mem_cons_self)]
    exact dropWhile_all fun x hx => h x (List.mem_cons_of_mem _ hx)
theorem cutB_none {s : Ln} (h : 32 ∉ s) : cutB s = (s, none) := by
  have : s.dropWhile (· != 32) = [] := dropWhile_all fun c hc => by
    simp
    rintro rfl; exact h hc
  unfold cutB
  rw [this]
theorem cutB_some {a r : Ln} (h : 32 ∉ a) : cutB (a ++ 32 :: r) = (a, some r) := by
  have ha : ∀ c ∈ a, (c != 32) = true := by
    intro c hc
    simp
    rintro rfl; exact h hc
  unfold cutB
  rw [List.dropWhile_append_of_pos ha, List.takeWhile_append_of_pos ha]
  simp
/-- three words at most -/
def words3 (s : Ln) : List Ln :=
  match cutB s with
  | (a, none) => [a]
  | (a, some r) => match cutB r with
    | (b, none) => [a, b]
    | (b, some c) => [a, b, c]

/-- the program's numbers -/
def numP (s : Ln) : Option Nat := if numV 10 s < 9223372036854775808 ∧ s = dec (numV 10 s) then some (numV 10 s) else none
theorem numP_dec {n : Nat} (h : n < 9223372036854775808) : numP (dec n) = some n := by
  unfold numP
  rw [dec_val, if_pos ⟨h, rfl⟩]
/-- binary figures -/
def bin2 (s : Ln) : Option Nat := if s.all (fun c => decide (c = 48 ∨ c = 49)) = true ∧ s ≠ [] ∧ numV 2 s < two64 then some (numV 2 s) else none
theorem bin2_binL {w v : Nat} (h : v < 2 ^ (w + 1)) (h2 : v < two64) : bin2 (binL (w + 1) v) = some v := by
  unfold bin2
  rw [binL_val _ _ h, if_pos]
  refine ⟨?_, ?_, h2⟩
  · rw [List.all_eq_true]
    intro c hc
    rw [decide_eq_true_iff]
    exact binL_mem _ _ c hc
  · intro e
    have := binL_len (w + 1) v
    rw [e] at this
    simp at this

/-- a line, as the program reads it -/
def lineP (w : Wv) (named : Bool) (s : Ln) : Option (Wv × Bool) :=
  match words3 s with
  | [a, b, c] => if a = [118, 97, 114] ∧ w.last < 0 then (numP b).map fun (n : Nat) => ({ w with names := w.names ++ [c], widths := w.widths ++ [(n : Int)] }, named) else none
  | [a] => if a.head? = some 35 then (match numP a.tail with | some n => if w.last < n then some ({ w with last := n }, true) else none | none => none) else none
  | [a, b] => if a.head? = some 98 ∧ named = true then
      (match numP b, bin2 a.tail with | some n, some v => if n < w.names.length ∧ (a.tail.length : Int) = w.widths.getD n 0 then some ({ w with chs := w.chs ++ [⟨w.last, n, v⟩] }, named) else none | _, _ => none) else none
  | _ => none
def allP : Wv × Bool → List Ln → Option (Wv × Bool)
  | st, [] => some st
  | st, s :: l => match lineP st.1 st.2 s with | some st' => allP st' l | none => none
theorem allP_append : ∀ (a b : List Ln) (st : Wv × Bool), allP st (a ++ b) = (match allP st a with | some st' => allP st' b | none => none)
  | [], b, st => rfl
  | s :: a, b, st => by
    rw [List.cons_append, allP, allP]
    cases lineP st.1 st.2 s with
    | none => rfl
    | some st' => exact allP_append a b st'

/-- the reference's numbers -/
def numR (s : Ln) : Int := if s ≠ [] ∧ s.length ≤ 10 ∧ s.all isDigit = true then (numV 10 s : Int) else -1
theorem numR_dec {n : Nat} (h : n < 10000000000) : numR (dec n) = n := by
  unfold numR
  rw [dec_val, if_pos]
  exact ⟨dec_ne n, digL_len 10 (by omega) 10 n (by omega) h, by rw [List.all_eq_true]; exact dec_mem n⟩
def splitR (s : Ln) : Ln × Ln := ((cutB s).1, (cutB s).2.getD [])
def bin2R (s : Ln) : Nat × Bool := if s.all (fun c => decide (c = 48 ∨ c = 49)) = true then (numV 2 s % two64, decide (s ≠ [] ∧ s.length ≤ 64)) else (0, false)
def lineR (w : Wv) (s : Ln) : Option Wv :=
  match s with
  | [] => none
  | 118 :: r => if (splitR r).1 = [97, 114] then some { w with names := w.names ++ [(splitR (splitR r).2).2], widths := w.widths ++ [numR (splitR (splitR r).2).1] } else none
  | 35 :: r => if 0 ≤ numR r then some { w with last := numR r } else none
  | 98 :: r => if (bin2R (splitR r).1).2 = true then some { w with chs := w.chs ++ [⟨w.last, numR (splitR r).2, (bin2R (splitR r).1).1⟩] } else none
  | _ => none
def allR : Wv → List Ln → Option Wv
  | w, [] => some w
  | w, s :: l => match lineR w s with | some w' => allR w' l | none => none
theorem allR_append : ∀ (a b : List Ln) (w : Wv), allR w (a ++ b) = (match allR w a with | some w' => allR w' b | none => none)
  | [], b, w => rfl
  | s :: a, b, w => by
    rw [List.cons_append, allR, allR]
    cases lineR w s with
    | none => rfl
    | some w' => exact allR_append a b w'

end Go.Proofs.Wav

/- Waves in plain Lean: what is put is got. -/
namespace Go.Proofs.Wav
open Scn
set_option linter.unusedVariables false
set_option linter.unusedSimpArgs false

theorem dec_no32 (n : Nat) : 32 ∉ dec n := fun h => (digit_c (dec_mem n 32 h)).1 rfl
theorem dec_no10 (n : Nat) : 10 ∉ dec n := fun h => (digit_c (dec_mem n 10 h)).2 rfl
theorem binL_no (w v : Nat) (c : UInt8) (h1 : c ≠ 48) (h2 : c ≠ 49) : c ∉ binL w v := fun h => by
  rcases binL_mem w v c h with h | h
  · exact h1 h
  · exact h2 h
theorem name_no {s : Ln} (h : nameOk s = true) (c : UInt8) (hc : c.toNat < 33) : c ∉ s := fun hm => by
  simp only [nameOk, Bool.and_eq_true, List.all_eq_true, decide_eq_true_eq] at h
  have := (h.2 c hm).1
  omega

/-! the program's reading -/
theorem words_sig (w : Int) {s : Ln} (hs : nameOk s = true) : words3 (sigLine w s) = [[118, 97, 114], dec w.toNat, s] := by
  have e : sigLine w s = [118, 97, 114] ++ 32 :: (dec w.toNat ++ 32 :: s) := by simp [sigLine]
  unfold words3
  rw [e, cutB_some (by decide)]
  simp only
  rw [cutB_some (dec_no32 _)]
theorem words_time (t : Int) : words3 (timeLine t) = [timeLine t] := by
  unfold words3
  rw [cutB_none]
  unfold timeLine
  intro h
  rcases List.mem_cons.1 h with h | h
  · cases h
  · exact dec_no32 _ h
theorem words_chg (ws : List Int) (c : Chg) : words3 (chgLine ws c) = [98 :: binL (ws.getD c.g.toNat 0).toNat c.v, dec c.g.toNat] := by
  have e : chgLine ws c = (98 :: binL (ws.getD c.g.toNat 0).toNat c.v) ++ 32 :: dec c.g.toNat := by simp [chgLine]
  unfold words3
  rw [e, cutB_some]
  · simp only
    rw [cutB_none (dec_no32 _)]
  · intro h
    rcases List.mem_cons.1 h with h | h
    · cases h
    · exact binL_no _ _ 32 (by decide) (by decide) h

theorem lineP_sig (w : Wv) (b : Bool) (x : Int) {s : Ln} (hs : nameOk s = true) (hx : widthOk x = true) (hl : w.last < 0) :
    lineP w b (sigLine x s) = some ({ w with names := w.names ++ [s], widths := w.widths ++ [x] }, b) := by
  simp only [widthOk, Bool.and_eq_true, decide_eq_true_eq] at hx
  unfold lineP
  rw [words_sig x hs]
  have h1 := numP_dec (n := x.toNat) (by omega)
  have h2 : ((x.toNat : Nat) : Int) = x := by omega
  simp [hl, h1]
  omega
theorem lineP_time (w : Wv) (b : Bool) {t : Int} (h0 : 0 ≤ t) (h1 : t ≤ 2147483647) (hl : w.last < t) : lineP w b (timeLine t) = some ({ w with last := t }, true) := by
  unfold lineP
  rw [words_time]
  have h2 := numP_dec (n := t.toNat) (by omega)
  have h3 : ((t.toNat : Nat) : Int) = t := by omega
  have h4 : max t 0 = t := by omega
  simp [timeLine, h2, h4, hl]
theorem mask_pow {x : Int} (h : widthOk x = true) {v : Nat} (hv : v ≤ maskN x) : ∃ k, x.toNat = k + 1 ∧ v < 2 ^ (k + 1) ∧ v < two64 := by
  simp only [widthOk, Bool.and_eq_true, decide_eq_true_eq] at h
  refine ⟨x.toNat - 1, by omega, ?_⟩
  rw [show x.toNat - 1 + 1 = x.toNat by omega]
  unfold maskN at hv
  rw [if_neg (by omega)] at hv
  by_cases h2 : 63 < x
  · rw [if_pos h2] at hv
    have : x.toNat = 64 := by omega
    rw [this]
    unfold two64
    omega
  · rw [if_neg h2] at hv
    have h3 : (2 : Nat) ^ x.toNat ≤ 2 ^ 63 := Nat.pow_le_pow_right (by omega) (by omega)
    have h4 : 0 < (2 : Nat) ^ x.toNat := Nat.pow_pos (by omega)
    unfold two64
    omega
theorem width_get {ws : List Int} (h : ws.all widthOk = true) {k : Nat} (hk : k < ws.length) : widthOk (ws.getD k 0) = true := by
  rw [List.all_eq_true] at h
  rw [List.getD_eq_getElem?_getD, List.getElem?_eq_getElem hk]
  exact h _ (List.getElem_mem hk)
theorem lineP_chg (w : Wv) {c : Chg} (hw : w.widths.all widthOk = true) (hn : w.widths.length = w.names.length) (hs : w.names.length ≤ 512) (h : okOne w.names.length w.widths w.last c = true) (ht : w.last = c.t) :
    lineP w true (chgLine w.widths c) = some ({ w with chs := w.chs ++ [c] }, true) := by
  simp only [okOne, Bool.and_eq_true, decide_eq_true_eq] at h
  obtain ⟨k, hk, h1, h2⟩ := mask_pow (width_get hw (k := c.g.toNat) (by omega)) h.2
  have hA := numP_dec (n := c.g.toNat) (by omega)
  have hB := bin2_binL h1 h2
  have hC : c.g.toNat < w.names.length := by omega
  have hD : (((k + 1 : Nat) : Int)) = w.widths.getD c.g.toNat 0 := by
    have := width_get hw (k := c.g.toNat) (by omega)
    simp only [widthOk, Bool.and_eq_true, decide_eq_true_eq] at this
    omega
  have hE : ((c.g.toNat : Nat) : Int) = c.g := by omega
  have key : ∀ y : Ln, y.length = k + 1 → bin2 y = some c.v → ∀ z, numP z = some c.g.toNat → (match [98 :: y, z] with
    | [a, b, c] => if a = [118, 97, 114] ∧ w.last < 0 then (numP b).map fun (n : Nat) => (({ w with names := w.names ++ [c], widths := w.widths ++ [(n : Int)] } : Wv), true) else none
    | [a] => if a.head? = some 35 then (match numP a.tail with | some n => if w.last < n then some (({ w with last := n } : Wv), true) else none | none => none) else none
    | [a, b] => if a.head? = some 98 ∧ true = true then
      (match numP b, bin2 a.tail with | some n, some v => if n < w.names.length ∧ (a.tail.length : Int) = w.widths.getD n 0 then some (({ w with chs := w.chs ++ [⟨w.last, n, v⟩] } : Wv), true) else none | _, _ => none) else none
    | _ => none) = some (({ w with chs := w.chs ++ [c] } : Wv), true) := by
    intro y hy hb z hz
    show (if (98 :: y).head? = some 98 ∧ true = true then (match numP z, bin2 y with | some n, some v => if n < w.names.length ∧ (y.length : Int) = w.widths.getD n 0 then some (({ w with chs := w.chs ++ [⟨w.last, n, v⟩] } : Wv), true) else none | _, _ => none) else none) = _
    rw [if_pos ⟨rfl, rfl⟩, hz, hb]
    show (if c.g.toNat < w.names.length ∧ (y.length : Int) = w.widths.getD c.g.toNat 0 then some (({ w with chs := w.chs ++ [⟨w.last, c.g.toNat, c.v⟩] } : Wv), true) else none) = _
    rw [if_pos ⟨hC, by rw [hy]; exact hD⟩, ht, hE]
  unfold lineP
  rw [words_chg, hk]
  exact key _ (binL_len _ _) hB _ hA

theorem allP_sig (b : Bool) : ∀ (ns : List Ln) (ws : List Int) (w : Wv), ws.length = ns.length → ns.all nameOk = true → ws.all widthOk = true → w.last < 0 →
    allP (w, b) (sigLines ns ws) = some ({ w with names := w.names ++ ns, widths := w.widths ++ ws }, b)
  | [], [], w, _, _, _, _ => by simp [sigLines, allP]
  | s :: ns, x :: ws, w, hl, hn, hw, h0 => by
    simp only [List.all_cons, Bool.and_eq_true] at hn hw
    rw [sigLines, allP, lineP_sig w b x hn.1 hw.1 h0]
    refine (allP_sig b ns ws ⟨w.names ++ [s], w.widths ++ [x], w.chs, w.last⟩ (by simpa using hl) hn.2 hw.2 h0).trans ?_
    simp
  | [], _ :: _, _, hl, _, _, _ => by simp at hl
  | _ :: _, [], _, hl, _, _, _ => by simp at hl

/-- the changes, from a place on -/
theorem allP_chg (n : Nat) (ws : List Int) (ns : List Ln) (last : Int) (hn : ns.length = n) (hln : ws.length = ns.length) (h512 : ns.length ≤ 512) (hw : ws.all widthOk = true) (hlast : last ≤ 2147483647) : ∀ (l pre : List Chg) (prev : Int),
    (∀ c ∈ l, okOne n ws last c = true) → (∀ c ∈ l, prev ≤ c.t) → l.Pairwise (fun a b => a.t ≤ b.t) → -1 ≤ prev →
    ∃ b', allP (⟨ns, ws, pre, prev⟩, decide (0 ≤ prev)) (chgLines ws prev l) = some (⟨ns, ws, pre ++ l, lastT prev l⟩, b')
  | [], pre, prev, _, _, _, _ => ⟨decide (0 ≤ prev), by simp only [chgLines, allP, lastT, List.append_nil]⟩
  | c :: l, pre, prev, hok, hp, hm, h1 => by
    have hc := hok c List.mem_cons_self
    have hc' := hc
    simp only [okOne, Bool.and_eq_true, decide_eq_true_eq] at hc'
    have hpc := hp c List.mem_cons_self
    rw [List.pairwise_cons] at hm
    have h2 : allP (⟨ns, ws, pre, prev⟩, decide (0 ≤ prev)) (timeLines prev c.t) = some (⟨ns, ws, pre, c.t⟩, true) := by
      unfold timeLines
      by_cases he : c.t = prev
      · rw [if_pos he, allP, ← he, decide_eq_true (by omega)]
      · rw [if_neg he, allP, lineP_time _ _ (by omega) (by omega) (by simp only; omega)]
        simp only [allP]
    have h3 : lineP ⟨ns, ws, pre, c.t⟩ true (chgLine ws c) = some (⟨ns, ws, pre ++ [c], c.t⟩, true) :=
      lineP_chg ⟨ns, ws, pre, c.t⟩ hw hln h512 (by
        simp only [okOne, Bool.and_eq_true, decide_eq_true_eq]
        rw [hn]
        omega) rfl
    obtain ⟨b', h4⟩ := allP_chg n ws ns last hn hln h512 hw hlast l (pre ++ [c]) c.t (fun x hx => hok x (List.mem_cons_of_mem _ hx)) hm.1 hm.2 (by omega)
    refine ⟨b', ?_⟩
    rw [chgLines, allP_append, h2]
    simp only
    rw [allP, h3]
    simp only
    rw [decide_eq_true (show (0 : Int) ≤ c.t by omega)] at h4
    rw [h4, lastT]
    simp
theorem lastT_le : ∀ (l : List Chg) (prev m : Int), prev ≤ m → (∀ c ∈ l, c.t ≤ m) → lastT prev l ≤ m
  | [], prev, m, h, _ => h
  | c :: l, prev, m, _, h => lastT_le l c.t m (h c List.mem_cons_self) fun x hx => h x (List.mem_cons_of_mem _ hx)
theorem lastT_ge : ∀ (l : List Chg) (prev m : Int), m ≤ prev → (∀ c ∈ l, m ≤ c.t) → m ≤ lastT prev l
  | [], prev, m, h, _ => h
  | c :: l, prev, m, _, h => lastT_ge l c.t m (h c List.mem_cons_self) fun x hx => h x (List.mem_cons_of_mem _ hx)

/-- what a wave is, unfolded -/
structure Is (w : Wv) : Prop where
  n : w.names.length ≤ 512
  c : w.chs.length ≤ 65536
  hi : w.last ≤ 2147483647
  lo : 0 ≤ w.last
  len : w.widths.length = w.names.length
  names : w.names.all nameOk = true
  widths : w.widths.all widthOk = true
  nodup : w.names.Nodup
  good : Good w.names.length w.widths w.last w.chs
theorem is_of {w : Wv} (h : checkW w = 0) : Is w := by
  unfold checkW at h
  split at h
  · cases h
  · rename_i h1
    split at h
    · rename_i h2
      simp only [sigsOk, Bool.and_eq_true, decide_eq_true_eq] at h2
      obtain ⟨⟨a, b, c, d⟩, e, f⟩ := h2
      exact ⟨by omega, by omega, by omega, e, a, b, c, d, good_of f⟩
    · cases h
theorem Is.chs {w : Wv} (h : Is w) : (∀ c ∈ w.chs, okOne w.names.length w.widths w.last c = true) ∧ w.chs.Pairwise (fun a b => a.t ≤ b.t) := by
  refine ⟨fun c hc => ?_, ?_⟩
  · obtain ⟨k, hk, rfl⟩ := List.getElem_of_mem hc
    exact h.good.row.one k hk
  · refine h.good.row.lt.imp fun {a b} hab => ?_
    unfold lt2 at hab
    omega
def emptyW : Wv := ⟨[], [], [], -1⟩
/-- WHAT IS PUT IS GOT: the program -/
theorem allP_put {w : Wv} (h : Is w) : ∃ b, allP (emptyW, false) (linesW w) = some (w, b) := by
  obtain ⟨hok, hm⟩ := h.chs
  have hc : ∀ c ∈ w.chs, 0 ≤ c.t ∧ c.t ≤ w.last := fun c hx => by
    have := hok c hx
    simp only [okOne, Bool.and_eq_true, decide_eq_true_eq] at this
    omega
  have h1 := allP_sig false w.names w.widths emptyW h.len h.names h.widths (by simp [emptyW])
  obtain ⟨b, h2⟩ := allP_chg w.names.length w.widths w.names w.last rfl h.len h.n h.widths h.hi w.chs [] (-1) hok (fun c hx => by have := hc c hx; omega) hm (by omega)
  have hl := lastT_le w.chs (-1) w.last (by have := h.lo; omega) fun c hx => (hc c hx).2
  refine ⟨?_, ?_⟩
  · exact if w.last = lastT (-1) w.chs then b else true
  · unfold linesW
    rw [allP_append, h1]
    simp only [emptyW, List.nil_append] at h2 ⊢
    rw [allP_append, show (false : Bool) = decide ((0 : Int) ≤ -1) from rfl, h2]
    simp only
    unfold timeLines
    have hlo := h.lo
    have hhi := h.hi
    by_cases he : w.last = lastT (-1) w.chs
    · rw [if_pos he, if_pos he, allP, ← he]
    · rw [if_neg he, if_neg he, allP, lineP_time _ _ hlo hhi (by simp only; omega)]
      simp only [allP]

/-! the reference's reading -/
theorem splitR_some {a r : Ln} (h : 32 ∉ a) : splitR (a ++ 32 :: r) = (a, r) := by
  unfold splitR
  rw [cutB_some h]
  rfl
theorem lineR_sig (w : Wv) (x : Int) {s : Ln} (hx : widthOk x = true) : lineR w (sigLine x s) = some { w with names := w.names ++ [s], widths := w.widths ++ [x] } := by
  simp only [widthOk, Bool.and_eq_true, decide_eq_true_eq] at hx
  have e : sigLine x s = 118 :: ([97, 114] ++ 32 :: (dec x.toNat ++ 32 :: s)) := by simp [sigLine]
  rw [e]
  have h1 : splitR ([97, 114] ++ 32 :: (dec x.toNat ++ 32 :: s)) = ([97, 114], dec x.toNat ++ 32 :: s) := splitR_some (by decide)
  have h2 : splitR (dec x.toNat ++ 32 :: s) = (dec x.toNat, s) := splitR_some (dec_no32 _)
  have h3 := numR_dec (n := x.toNat) (by omega)
  have h4 : ((x.toNat : Nat) : Int) = x := by omega
  rw [h4] at h3
  show (if (splitR ([97, 114] ++ 32 :: (dec x.toNat ++ 32 :: s))).1 = [97, 114] then some ({ w with names := w.names ++ [(splitR (splitR ([97, 114] ++ 32 :: (dec x.toNat ++ 32 :: s))).2).2], widths := w.widths ++ [numR (splitR (splitR ([97, 114] ++ 32 :: (dec x.toNat ++ 32 :: s))).2).1] } : Wv) else none) = _
  rw [if_pos (by rw [h1]), h1]
  simp only
  rw [h2]
  simp only
  rw [h3]
theorem lineR_time (w : Wv) {t : Int} (h0 : 0 ≤ t) (h1 : t ≤ 2147483647) : lineR w (timeLine t) = some { w with last := t } := by
  have h3 := numR_dec (n := t.toNat) (by omega)
  rw [show ((t.toNat : Nat) : Int) = t by omega] at h3
  show (if 0 ≤ numR (dec t.toNat) then some ({ w with last := numR (dec t.toNat) } : Wv) else none) = _
  rw [if_pos (by rw [h3]; exact h0), h3]
theorem lineR_chg (w : Wv) {c : Chg} (hw : w.widths.all widthOk = true) (hn : w.widths.length = w.names.length) (hs : w.names.length ≤ 512) (h : okOne w.names.length w.widths w.last c = true) (ht : w.last = c.t) :
    lineR w (chgLine w.widths c) = some { w with chs := w.chs ++ [c] } := by
  simp only [okOne, Bool.and_eq_true, decide_eq_true_eq] at h
  have hwd := width_get hw (k := c.g.toNat) (by omega)
  obtain ⟨k, hk, h1, h2⟩ := mask_pow hwd h.2
  simp only [widthOk, Bool.and_eq_true, decide_eq_true_eq] at hwd
  have e : chgLine w.widths c = 98 :: (binL (w.widths.getD c.g.toNat 0).toNat c.v ++ 32 :: dec c.g.toNat) := by simp [chgLine]
  rw [e]
  have hs := splitR_some (r := dec c.g.toNat) (binL_no (w.widths.getD c.g.toNat 0).toNat c.v 32 (by decide) (by decide))
  have hb : bin2R (binL (w.widths.getD c.g.toNat 0).toNat c.v) = (c.v, true) := by
    unfold bin2R
    rw [if_pos]
    · rw [hk, binL_val _ _ h1, Nat.mod_eq_of_lt h2]
      congr 1
      rw [decide_eq_true_iff]
      refine ⟨fun e => ?_, by rw [binL_len]; omega⟩
      have := binL_len (k + 1) c.v
      rw [e] at this
      simp at this
    · rw [List.all_eq_true]
      intro x hx
      rw [decide_eq_true_iff]
      exact binL_mem _ _ x hx
  have h3 := numR_dec (n := c.g.toNat) (by omega)
  rw [show ((c.g.toNat : Nat) : Int) = c.g by omega] at h3
  show (if (bin2R (splitR (binL (w.widths.getD c.g.toNat 0).toNat c.v ++ 32 :: dec c.g.toNat)).1).2 = true then some ({ w with chs := w.chs ++ [⟨w.last, numR (splitR (binL (w.widths.getD c.g.toNat 0).toNat c.v ++ 32 :: dec c.g.toNat)).2, (bin2R (splitR (binL (w.widths.getD c.g.toNat 0).toNat c.v ++ 32 :: dec c.g.toNat)).1).1⟩] } : Wv) else none) = _
  rw [if_pos (by rw [hs, hb]), hs]
  simp only
  rw [hb, h3, ht]
theorem allR_sig : ∀ (ns : List Ln) (ws : List Int) (w : Wv), ws.length = ns.length → ws.all widthOk = true → allR w (sigLines ns ws) = some { w with names := w.names ++ ns, widths := w.widths ++ ws }
  | [], [], w, _, _ => by simp [sigLines, allR]
  | s :: ns, x :: ws, w, hl, hw => by
    simp only [List.all_cons, Bool.and_eq_true] at hw
    rw [sigLines, allR, lineR_sig w x hw.1]
    refine (allR_sig ns ws ⟨w.names ++ [s], w.widths ++ [x], w.chs, w.last⟩ (by simpa using hl) hw.2).trans ?_
    simp
  | [], _ :: _, _, hl, _ => by simp at hl
  | _ :: _, [], _, hl, _ => by simp at hl
theorem allR_chg (n : Nat) (ws : List Int) (ns : List Ln) (last : Int) (hn : ns.length = n) (hln : ws.length = ns.length) (h512 : ns.length ≤ 512) (hw : ws.all widthOk = true) (hlast : last ≤ 2147483647) : ∀ (l pre : List Chg) (prev : Int),
    (∀ c ∈ l, okOne n ws last c = true) → allR ⟨ns, ws, pre, prev⟩ (chgLines ws prev l) = some ⟨ns, ws, pre ++ l, lastT prev l⟩
  | [], pre, prev, _ => by simp only [chgLines, allR, lastT, List.append_nil]
  | c :: l, pre, prev, hok => by
    have hc := hok c List.mem_cons_self
    have hc' := hc
    simp only [okOne, Bool.and_eq_true, decide_eq_true_eq] at hc'
    have h2 : allR ⟨ns, ws, pre, prev⟩ (timeLines prev c.t) = some ⟨ns, ws, pre, c.t⟩ := by
      unfold timeLines
      by_cases he : c.t = prev
      · rw [if_pos he, allR, ← he]
      · rw [if_neg he, allR, lineR_time _ (by omega) (by omega)]
        simp only [allR]
    have h3 : lineR ⟨ns, ws, pre, c.t⟩ (chgLine ws c) = some ⟨ns, ws, pre ++ [c], c.t⟩ :=
      lineR_chg ⟨ns, ws, pre, c.t⟩ hw hln h512 (by
        simp only [okOne, Bool.and_eq_true, decide_eq_true_eq]
        rw [hn]
        omega) rfl
    rw [chgLines, allR_append, h2]
    simp only
    rw [allR, h3]
    simp only
    rw [allR_chg n ws ns last hn hln h512 hw hlast l (pre ++ [c]) c.t (fun x hx => hok x (List.mem_cons_of_mem _ hx)), lastT]
    simp
/-- WHAT IS PUT IS GOT: the reference -/
theorem allR_put {w : Wv} (h : Is w) : allR emptyW (linesW w) = some w := by
  obtain ⟨hok, hm⟩ := h.chs
  have hlo := h.lo
  have hhi := h.hi
  unfold linesW
  rw [allR_append, allR_sig w.names w.widths emptyW h.len h.widths]
  simp only [emptyW, List.nil_append]
  rw [allR_append, allR_chg w.names.length w.widths w.names w.last rfl h.len h.n h.widths h.hi w.chs [] (-1) hok]
  simp only [List.nil_append]
  unfold timeLines
  by_cases he : w.last = lastT (-1) w.chs
  · rw [if_pos he, allR, ← he]
  · rw [if_neg he, allR, lineR_time _ hlo hhi]
    simp only [allR]

theorem sigLines_no10 : ∀ {ns : List Ln} {ws : List Int}, ns.all nameOk = true → ∀ l ∈ sigLines ns ws, 10 ∉ l
  | [], _, _, l, h => by simp [sigLines] at h
  | _ :: _, [], _, l, h => by simp [sigLines] at h
  | s :: ns, x :: ws, hn, l, h => by
    simp only [List.all_cons, Bool.and_eq_true] at hn
    rw [sigLines, List.mem_cons] at h
    rcases h with rfl | h
    · unfold sigLine
      simp only [List.mem_append, not_or]
      exact ⟨⟨⟨by decide, dec_no10 _⟩, by decide⟩, name_no hn.1 10 (by decide)⟩
    · exact sigLines_no10 hn.2 l h
theorem timeLines_no10 (a b : Int) : ∀ l ∈ timeLines a b, 10 ∉ l := by
  intro l h
  unfold timeLines at h
  split at h
  · cases h
  · rw [List.mem_singleton] at h
    subst h
    unfold timeLine
    intro h
    rcases List.mem_cons.1 h with h | h
    · cases h
    · exact dec_no10 _ h
theorem chgLines_no10 (ws : List Int) : ∀ (cs : List Chg) (prev : Int), ∀ l ∈ chgLines ws prev cs, 10 ∉ l
  | [], _, l, h => by simp [chgLines] at h
  | c :: cs, prev, l, h => by
    rw [chgLines, List.mem_append, List.mem_cons] at h
    rcases h with h | rfl | h
    · exact timeLines_no10 _ _ l h
    · unfold chgLine
      simp only [List.mem_append, List.mem_cons, not_or]
      exact ⟨⟨⟨by decide, binL_no _ _ 10 (by decide) (by decide)⟩, by decide⟩, dec_no10 _⟩
    · exact chgLines_no10 ws cs c.t l h
theorem linesOf_put {w : Wv} (h : Is w) : linesOf (putW w) = (linesW w, []) := by
  refine linesOf_join _ fun l hl => ?_
  unfold linesW at hl
  rw [List.mem_append, List.mem_append] at hl
  rcases hl with hl | hl | hl
  · exact sigLines_no10 h.names l hl
  · exact chgLines_no10 _ _ _ l hl
  · exact timeLines_no10 _ _ l hl

/-- what Get says: the program -/
def getP (b : Ln) : Option Wv :=
  match (linesOf b).2, allP (emptyW, false) (linesOf b).1 with
  | [], some (w, _) => if checkW w = 0 ∧ (putW w).length ≤ 65536 ∧ putW w = b then some w else none
  | _, _ => none
/-- what Get says: the reference -/
def getR (b : Ln) : Option Wv :=
  match allR emptyW (linesOf b).1 with
  | some w => if checkW w = 0 ∧ (putW w).length ≤ 65536 ∧ putW w = b then some w else none
  | none => none
theorem getP_iff (b : Ln) (w : Wv) : getP b = some w ↔ checkW w = 0 ∧ (putW w).length ≤ 65536 ∧ putW w = b := by
  constructor
  · intro h
    unfold getP at h
    split at h
    · split at h
      · cases h; assumption
      · cases h
    · cases h
  · rintro ⟨h1, h2, rfl⟩
    have hi := is_of h1
    obtain ⟨b, hb⟩ := allP_put hi
    unfold getP
    rw [linesOf_put hi]
    simp only
    rw [hb]
    simp only
    rw [if_pos ⟨h1, h2, trivial⟩]
theorem getR_iff (b : Ln) (w : Wv) : getR b = some w ↔ checkW w = 0 ∧ (putW w).length ≤ 65536 ∧ putW w = b := by
  constructor
  · intro h
    unfold getR at h
    split at h
    · split at h
      · cases h; assumption
      · cases h
    · cases h
  · rintro ⟨h1, h2, rfl⟩
    have hi := is_of h1
    unfold getR
    rw [linesOf_put hi]
    simp only
    rw [allR_put hi]
    simp only
    rw [if_pos ⟨h1, h2, trivial⟩]
theorem getP_getR (b : Ln) : getP b = getR b := by
  cases h : getP b with
  | some w => exact ((getR_iff b w).2 ((getP_iff b w).1 h)).symm
  | none =>
    cases h2 : getR b with
    | none => rfl
    | some w =>
      rw [(getP_iff b w).2 ((getR_iff b w).1 h2)] at h
      cases h

end Go.Proofs.Wav
