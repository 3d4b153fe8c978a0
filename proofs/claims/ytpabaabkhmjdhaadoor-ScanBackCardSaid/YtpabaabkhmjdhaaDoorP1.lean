/- The words of the second layer, in plain Lean: letters, names, signs, numbers, tokens, texts. -/
import Init
namespace Go.Proofs.Scn
set_option linter.unusedVariables false
set_option linter.unusedSimpArgs false

def isDigit (c : UInt8) : Bool := decide (48 ≤ c.toNat) && decide (c.toNat ≤ 57)
def isLetter (c : UInt8) : Bool := decide (c.toNat = 95) || (decide (97 ≤ c.toNat) && decide (c.toNat ≤ 122)) || (decide (65 ≤ c.toNat) && decide (c.toNat ≤ 90))
def isPart (c : UInt8) : Bool := isLetter c || isDigit c
def isBlank (c : UInt8) : Bool := decide (c.toNat = 32) || decide (c.toNat = 9) || decide (c.toNat = 10) || decide (c.toNat = 13)
def runL (l : List UInt8) : List UInt8 := l.takeWhile isPart
def wordsL : List (List UInt8) :=
  [[109,111,100,117,108,101],[105,110],[111,117,116],[119,105,114,101],[114,101,103],[99,111,110,115,116],[97,115,115,105,103,110],[99,111,109,98],[111,110],[116,105,99,107],[105,110,115,116],[105,102],[101,108,115,101],[102,111,114],[99,104,101,99,107],[99,97,115,101],[122,101,120,116],[115,101,120,116],[116,114,117,110,99]]
def pairsL : List (List UInt8) := [[46,46],[60,61],[62,61],[124,124],[38,38],[61,61],[33,61],[60,60],[62,62]]
def loneL : List UInt8 := [35,40,41,44,123,125,61,58,59,91,93,63,124,94,38,60,62,43,45,42,126,33]
def isWord (l : List UInt8) : Bool := wordsL.contains l
def isSign (l : List UInt8) : Bool := pairsL.contains l || (l.length == 1 && loneL.contains (l.headD 0))
def isName (l : List UInt8) : Bool := !l.isEmpty && decide (l.length ≤ 64) && isLetter (l.headD 0) && l.all isPart && !isWord l
def fitsV (w : Int) (v : Nat) : Bool := decide (1 ≤ w) && decide (w ≤ 64) && decide (v < 2 ^ w.toNat)

structure Tok where
  k : Int
  s : List UInt8
  w : Int
  v : Nat
  p : Int
deriving DecidableEq, Inhabited

def checkT (t : Tok) : Bool :=
  decide (0 ≤ t.p) &&
  (if t.k = 1 then t.w == 0 && t.v == 0 && isName t.s
   else if t.k = 2 then t.w == 0 && t.v == 0 && isWord t.s
   else if t.k = 4 then t.w == 0 && t.v == 0 && isSign t.s
   else if t.k = 3 then t.s.isEmpty && (t.w == 0 || fitsV t.w t.v)
   else false)

/-- the value of a figure; 16: it is none -/
def figV (c : UInt8) : Nat :=
  if isDigit c then c.toNat - 48 else if 97 ≤ c.toNat ∧ c.toNat ≤ 102 then c.toNat - 87 else if 65 ≤ c.toNat ∧ c.toNat ≤ 70 then c.toNat - 55 else 16
def numV (b : Nat) (l : List UInt8) : Nat := l.foldl (fun v c => v * b + figV c) 0
def allFig (b : Nat) (l : List UInt8) : Bool := l.all fun c => decide (figV c < b)

inductive Got where
  | tok (t : Tok) (n : Nat)
  | bad (e : Int)
deriving DecidableEq

def baseL (c : UInt8) : Nat := if c = 104 then 16 else if c = 100 then 10 else if c = 98 then 2 else 0
def two64 : Nat := 18446744073709551616

/-- behind a width's figures and the stroke -/
def wideL (d r : List UInt8) : Got :=
  match r with
  | [] => .bad 21
  | c :: r =>
    if baseL c = 0 then .bad 21
    else if (runL r).isEmpty || !allFig (baseL c) (runL r) then .bad 21
    else if decide (numV 10 d < two64) && decide (numV (baseL c) (runL r) < two64) && fitsV (numV 10 d) (numV (baseL c) (runL r)) then
      .tok ⟨3, [], numV 10 d, numV (baseL c) (runL r), 0⟩ (d.length + 2 + (runL r).length)
    else .bad 22
def plainL (d : List UInt8) : Got := if numV 10 d < two64 then .tok ⟨3, [], 0, numV 10 d, 0⟩ d.length else .bad 22
def figL (l : List UInt8) : Got :=
  match l.dropWhile isDigit with
  | [] => plainL (l.takeWhile isDigit)
  | c :: r => if c = 39 then wideL (l.takeWhile isDigit) r else if isLetter c then .bad 21 else plainL (l.takeWhile isDigit)
def tokL (l : List UInt8) : Got :=
  match l with
  | [] => .bad 20
  | c :: r =>
    if isLetter c then
      if 64 < (runL l).length then .bad 2 else .tok ⟨if isWord (runL l) then 2 else 1, runL l, 0, 0, 0⟩ (runL l).length
    else if isDigit c then figL l
    else if 2 ≤ l.length ∧ isSign (l.take 2) = true then .tok ⟨4, l.take 2, 0, 0, 0⟩ 2
    else if isSign (l.take 1) then .tok ⟨4, l.take 1, 0, 0, 0⟩ 1
    else .bad 20

/-- the tokens of a text that begins at a place, or where something is wrong, and what -/
def scanW (i : Nat) (l : List UInt8) : Except (Nat × Int) (List Tok) :=
  match l with
  | [] => .ok []
  | c :: r =>
    if isBlank c then scanW (i + 1) r
    else if c = 47 ∧ r.head? = some 47 then scanW (i + 1 + (r.takeWhile (· != 10)).length) (r.dropWhile (· != 10))
    else match tokL (c :: r) with
      | .bad e => .error (i, e)
      | .tok t n =>
        match scanW (i + n) (r.drop (n - 1)) with
        | .ok ts => .ok ({ t with p := i } :: ts)
        | .error x => .error x
termination_by l.length
decreasing_by
  all_goals simp_wf
  · have := (List.dropWhile_sublist (l := r) (· != 10)).length_le; omega
  · omega

def digL (b : Nat) (n : Nat) : List UInt8 := if h : n < b ∨ b < 2 then [UInt8.ofNat (if n < 10 then 48 + n else 87 + n)] else digL b (n / b) ++ [UInt8.ofNat (if n % b < 10 then 48 + n % b else 87 + n % b)]
termination_by n
decreasing_by exact Nat.div_lt_self (by omega) (by omega)

def oneT (t : Tok) : List UInt8 := if t.k ≠ 3 then t.s else if t.w = 0 then digL 10 t.v else digL 10 t.w.toNat ++ [39, 104] ++ digL 16 t.v
def sepT (t : Tok) : UInt8 := if t.s = [59] ∨ t.s = [123] ∨ t.s = [125] then 10 else 32
def textL : List Tok → List UInt8
  | [] => []
  | [t] => oneT t
  | t :: u :: l => oneT t ++ sepT t :: textL (u :: l)
theorem forall_u8 {P : UInt8 → Prop} (h : ∀ n : Fin 256, P (UInt8.ofNat n.val)) (c : UInt8) : P c := by
  have := h ⟨c.toNat, c.toNat_lt⟩
  simpa using this

theorem isSign_iff (l : List UInt8) : isSign l = (pairsL ++ loneL.map ([·])).contains l := by
  rw [Bool.eq_iff_iff]
  simp only [isSign, Bool.or_eq_true, Bool.and_eq_true, List.contains_iff_mem, List.mem_append, List.mem_map, beq_iff_eq]
  constructor
  · rintro (h | ⟨h1, h2⟩)
    · exact .inl h
    · match l, h1, h2 with
      | [c], _, h2 => exact .inr ⟨c, h2, rfl⟩
  · rintro (h | ⟨c, hc, rfl⟩)
    · exact .inl h
    · exact .inr ⟨rfl, hc⟩

def signsAll : List (List UInt8) := pairsL ++ loneL.map ([·])

theorem words_ok : (wordsL.all fun s => s.all isPart && isLetter (s.headD 0) && decide (s.length ≤ 64) && !s.isEmpty) = true := by decide
theorem signs_ok : (signsAll.all fun s => !isLetter (s.headD 0) && !isDigit (s.headD 0) && !isBlank (s.headD 0) && !(s.headD 0 == 47) && (decide (s.length = 1) || decide (s.length = 2)) && !s.contains 32 && !s.contains 10) = true := by decide

set_option maxRecDepth 100000 in
theorem letter_not {c : UInt8} (h : isLetter c = true) : isDigit c = false ∧ isBlank c = false ∧ c ≠ 47 ∧ isPart c = true ∧ c ≠ 39 := by
  revert h
  refine forall_u8 (P := fun c => isLetter c = true → isDigit c = false ∧ isBlank c = false ∧ c ≠ 47 ∧ isPart c = true ∧ c ≠ 39) ?_ c
  decide
set_option maxRecDepth 100000 in
theorem digit_not {c : UInt8} (h : isDigit c = true) : isLetter c = false ∧ isBlank c = false ∧ c ≠ 47 ∧ isPart c = true ∧ c ≠ 39 ∧ figV c < 10 := by
  revert h
  refine forall_u8 (P := fun c => isDigit c = true → isLetter c = false ∧ isBlank c = false ∧ c ≠ 47 ∧ isPart c = true ∧ c ≠ 39 ∧ figV c < 10) ?_ c
  decide

/-- what may stand behind a token: nothing, or a blank -/
def Ends (r : List UInt8) : Prop := r = [] ∨ ∃ c u, r = c :: u ∧ (c = 32 ∨ c = 10)

theorem takeWhile_ends {p : UInt8 → Bool} {l r : List UInt8} (hl : l.all p = true) (hr : r = [] ∨ ∃ c u, r = c :: u ∧ p c = false) : (l ++ r).takeWhile p = l ∧ (l ++ r).dropWhile p = r := by
  induction l with
  | nil =>
    rcases hr with rfl | ⟨c, u, rfl, hc⟩
    · exact ⟨rfl, rfl⟩
    · simp [List.takeWhile, List.dropWhile, hc]
  | cons a l ih =>
    simp only [List.all_cons, Bool.and_eq_true] at hl
    have := ih hl.2
    simp [List.takeWhile_cons, List.dropWhile_cons, hl.1, this.1, this.2]

theorem Ends.not {p : UInt8 → Bool} {r : List UInt8} (h : Ends r) (h1 : p 32 = false) (h2 : p 10 = false) : r = [] ∨ ∃ c u, r = c :: u ∧ p c = false := by
  rcases h with rfl | ⟨c, u, rfl, rfl | rfl⟩
  · exact .inl rfl
  · exact .inr ⟨_, _, rfl, h1⟩
  · exact .inr ⟨_, _, rfl, h2⟩

theorem run_ends {l r : List UInt8} (hl : l.all isPart = true) (hr : Ends r) : runL (l ++ r) = l :=
  (takeWhile_ends hl (hr.not (by decide) (by decide))).1

/-- a name or a word, read -/
theorem tok_word {s r : List UInt8} (hs : s.all isPart = true) (h0 : isLetter (s.headD 0) = true) (hl : s.length ≤ 64) (hr : Ends r) :
    tokL (s ++ r) = .tok ⟨if isWord s then 2 else 1, s, 0, 0, 0⟩ s.length := by
  match s, h0 with
  | [], h0 => simp [isLetter] at h0
  | c :: s, h0 =>
    have hc : isLetter c = true := h0
    have := run_ends hs hr
    rw [List.cons_append] at this ⊢
    rw [tokL, if_pos hc, this, if_neg (by omega)]

theorem sign_mem {s : List UInt8} (h : isSign s = true) : isLetter (s.headD 0) = false ∧ isDigit (s.headD 0) = false ∧ isBlank (s.headD 0) = false ∧ s.headD 0 ≠ 47 ∧ (s.length = 1 ∨ s.length = 2) ∧ 32 ∉ s ∧ 10 ∉ s := by
  rw [isSign_iff] at h
  have := signs_ok
  rw [List.all_eq_true] at this
  have := this s (by simpa [signsAll] using h)
  simpa [and_assoc] using this

theorem tok_sign {s r : List UInt8} (h : isSign s = true) (hr : Ends r) : tokL (s ++ r) = .tok ⟨4, s, 0, 0, 0⟩ s.length := by
  obtain ⟨h1, h2, h3, h4, h5, h6, h7⟩ := sign_mem h
  match s, h5 with
  | [c], _ =>
    simp only [List.headD_cons] at h1 h2
    rw [List.singleton_append, tokL, if_neg (by simp [h1]), if_neg (by simp [h2])]
    have hn : ¬ (2 ≤ (c :: r).length ∧ isSign ((c :: r).take 2) = true) := by
      rintro ⟨ha, hb⟩
      rcases hr with rfl | ⟨d, u, rfl, rfl | rfl⟩
      · simp at ha
      · have := (sign_mem hb).2.2.2.2.2.1
        simp at this
      · have := (sign_mem hb).2.2.2.2.2.2
        simp at this
    rw [if_neg hn, if_pos (by simpa using h)]
    rfl
  | [c, d], _ =>
    simp only [List.headD_cons] at h1 h2
    rw [List.cons_append, tokL, if_neg (by simp [h1]), if_neg (by simp [h2]), if_pos ⟨by simp, by simpa using h⟩]
    rfl

/-! figures -/
theorem digL_lt {b n : Nat} (h : n < b ∨ b < 2) : digL b n = [UInt8.ofNat (if n < 10 then 48 + n else 87 + n)] := by rw [digL, dif_pos h]
theorem digL_ge {b n : Nat} (h : ¬ (n < b ∨ b < 2)) : digL b n = digL b (n / b) ++ [UInt8.ofNat (if n % b < 10 then 48 + n % b else 87 + n % b)] := by rw [digL, dif_neg h]

theorem fig_digit : ∀ n, n < 16 → figV (UInt8.ofNat (if n < 10 then 48 + n else 87 + n)) = n ∧ isPart (UInt8.ofNat (if n < 10 then 48 + n else 87 + n)) = true ∧ (n < 10 → isDigit (UInt8.ofNat (if n < 10 then 48 + n else 87 + n)) = true) := by decide

theorem numV_append (b : Nat) (l : List UInt8) (c : UInt8) : numV b (l ++ [c]) = numV b l * b + figV c := by simp [numV]

theorem digL_spec (b : Nat) (hb : 2 ≤ b) (hb' : b ≤ 16) : ∀ n, numV b (digL b n) = n ∧ (digL b n).all isPart = true ∧ allFig b (digL b n) = true ∧ (b ≤ 10 → (digL b n).all isDigit = true) ∧ (digL b n).isEmpty = false := by
  intro n
  induction n using Nat.strongRecOn with
  | _ n ih =>
    by_cases h : n < b ∨ b < 2
    · have hn : n < b := by omega
      obtain ⟨f1, f2, f3⟩ := fig_digit n (by omega)
      rw [digL_lt h]
      generalize UInt8.ofNat (if n < 10 then 48 + n else 87 + n) = c at *
      simp [numV, allFig, f1, f2, hn]
      intro hb10
      exact f3 (by omega)
    · obtain ⟨g1, g2, g3, g4, g5⟩ := ih (n / b) (Nat.div_lt_self (by omega) (by omega))
      have hm := Nat.mod_lt n (show 0 < b by omega)
      obtain ⟨f1, f2, f3⟩ := fig_digit (n % b) (by omega)
      rw [digL_ge h]
      generalize UInt8.ofNat (if n % b < 10 then 48 + n % b else 87 + n % b) = c at *
      refine ⟨?_, ?_, ?_, ?_, ?_⟩
      · rw [numV_append, g1, f1]; have := Nat.div_add_mod n b; rw [Nat.mul_comm]; exact this
      · simp [g2, f2]
      · unfold allFig at *; simp only [List.all_append, g3, List.all_cons, List.all_nil, f1, hm]; rfl
      · intro h10; simp [g4 h10, f3 (by omega)]
      · simp

theorem digL_len (b : Nat) (hb : 2 ≤ b) : ∀ k n, 1 ≤ k → n < b ^ k → (digL b n).length ≤ k := by
  intro k
  induction k with
  | zero => intro n h; omega
  | succ k ih =>
    intro n _ hn
    by_cases h : n < b ∨ b < 2
    · rw [digL_lt h]; simp
    · rw [digL_ge h]
      have : n / b < b ^ k := by rw [Nat.div_lt_iff_lt_mul (by omega), ← Nat.pow_succ]; exact hn
      have h1 : 1 ≤ k := by
        rcases Nat.eq_zero_or_pos k with rfl | h1
        · simp at hn; omega
        · exact h1
      have := ih (n / b) h1 this
      simp; omega

theorem figL_plain {d r : List UInt8} (hd : d.all isDigit = true) (hr : Ends r) : figL (d ++ r) = plainL d := by
  obtain ⟨e1, e2⟩ := takeWhile_ends hd (hr.not (p := isDigit) (by decide) (by decide))
  rw [figL, e1, e2]
  rcases hr with rfl | ⟨c, u, rfl, rfl | rfl⟩
  · rfl
  · simp only [if_neg (show ¬ (32 : UInt8) = 39 by decide)]; rfl
  · simp only [if_neg (show ¬ (10 : UInt8) = 39 by decide)]; rfl
theorem figL_wide {d r : List UInt8} (hd : d.all isDigit = true) : figL (d ++ 39 :: r) = wideL d r := by
  obtain ⟨e1, e2⟩ := takeWhile_ends (p := isDigit) (r := 39 :: r) hd (.inr ⟨_, _, rfl, by decide⟩)
  rw [figL, e1, e2]
  simp
theorem tok_fig {d r : List UInt8} (hd : d.all isDigit = true) (h0 : d.isEmpty = false) : tokL (d ++ r) = figL (d ++ r) := by
  match d, h0 with
  | c :: d, _ =>
    simp only [List.all_cons, Bool.and_eq_true] at hd
    have := digit_not hd.1
    rw [List.cons_append, tokL, if_neg (by simp [this.1]), if_pos hd.1]

theorem tok_num {v : Nat} {r : List UInt8} (hv : v < two64) (hr : Ends r) : tokL (digL 10 v ++ r) = .tok ⟨3, [], 0, v, 0⟩ (digL 10 v).length := by
  obtain ⟨g1, g2, g3, g4, g5⟩ := digL_spec 10 (by decide) (by decide) v
  rw [tok_fig (g4 (by decide)) g5, figL_plain (g4 (by decide)) hr, plainL, g1, if_pos hv]
theorem tok_wide {w v : Nat} {r : List UInt8} (hw : w < two64) (hv : v < two64) (hf : fitsV w v = true) (hr : Ends r) :
    tokL (digL 10 w ++ [39, 104] ++ digL 16 v ++ r) = .tok ⟨3, [], w, v, 0⟩ (digL 10 w ++ [39, 104] ++ digL 16 v).length := by
  obtain ⟨g1, g2, g3, g4, g5⟩ := digL_spec 10 (by decide) (by decide) w
  obtain ⟨k1, k2, k3, k4, k5⟩ := digL_spec 16 (by decide) (by decide) v
  rw [List.append_assoc, List.append_assoc, tok_fig (g4 (by decide)) g5]
  simp only [List.cons_append, List.nil_append]
  rw [figL_wide (g4 (by decide)), wideL]
  simp only [show baseL 104 = 16 from rfl, run_ends k2 hr, k5, k3, k1, g1, hw, hv, hf]
  simp
  omega

theorem Tok.ext' {a b : Tok} (h1 : a.k = b.k) (h2 : a.s = b.s) (h3 : a.w = b.w) (h4 : a.v = b.v) (h5 : a.p = b.p) : a = b := by
  cases a; cases b; simp_all

/-- A token that may be, written, and read. -/
theorem tok_one {t : Tok} {r : List UInt8} (ht : checkT t = true) (hv : t.v < two64) (hr : Ends r) : tokL (oneT t ++ r) = .tok { t with p := 0 } (oneT t).length := by
  unfold checkT at ht
  simp only [Bool.and_eq_true, decide_eq_true_eq] at ht
  obtain ⟨hp, ht⟩ := ht
  split at ht
  · rename_i hk
    simp only [Bool.and_eq_true, beq_iff_eq, isName, decide_eq_true_eq, Bool.not_eq_true'] at ht
    obtain ⟨⟨h1, h2⟩, ⟨⟨⟨h3, h4⟩, h5⟩, h6⟩, h7⟩ := ht
    have e : oneT t = t.s := by rw [oneT, if_pos (by omega)]
    rw [e, tok_word h6 h5 h4 hr, h7]
    simp [← h1, ← h2, ← hk]
  · split at ht
    · rename_i hk
      simp only [Bool.and_eq_true, beq_iff_eq] at ht
      obtain ⟨⟨h1, h2⟩, h3⟩ := ht
      have hw := words_ok
      rw [List.all_eq_true] at hw
      have hw := hw t.s (by simpa [isWord] using h3)
      simp only [Bool.and_eq_true, decide_eq_true_eq] at hw
      have e : oneT t = t.s := by rw [oneT, if_pos (by omega)]
      rw [e, tok_word hw.1.1.1 hw.1.1.2 hw.1.2 hr, h3]
      simp [← h1, ← h2, ← hk]
    · split at ht
      · rename_i hk
        simp only [Bool.and_eq_true, beq_iff_eq] at ht
        obtain ⟨⟨h1, h2⟩, h3⟩ := ht
        have e : oneT t = t.s := by rw [oneT, if_pos (by omega)]
        rw [e, tok_sign h3 hr]
        simp [← h1, ← h2, ← hk]
      · split at ht
        · rename_i hk
          simp only [Bool.and_eq_true, Bool.or_eq_true, beq_iff_eq, List.isEmpty_iff] at ht
          obtain ⟨h1, h2⟩ := ht
          by_cases h0 : t.w = 0
          · have e : oneT t = digL 10 t.v := by rw [oneT, if_neg (by omega), if_pos h0]
            rw [e, tok_num hv hr]
            simp [← h1, ← h0, ← hk]
          · have hf : fitsV t.w t.v = true := by rcases h2 with h2 | h2; exact absurd h2 h0; exact h2
            have e : oneT t = digL 10 t.w.toNat ++ [39, 104] ++ digL 16 t.v := by rw [oneT, if_neg (by omega), if_neg h0]
            have hw : 1 ≤ t.w ∧ t.w ≤ 64 := by simp [fitsV] at hf; exact ⟨hf.1.1, hf.1.2⟩
            have hc : ((t.w.toNat : Nat) : Int) = t.w := Int.toNat_of_nonneg (by omega)
            rw [e, tok_wide (by unfold two64; omega) hv (by rw [hc]; exact hf) hr, hc]
            simp [← h1, ← hk]
        · exact absurd ht (by simp)
theorem scanW_nil (i : Nat) : scanW i [] = .ok [] := by rw [scanW]
theorem scanW_blank (i : Nat) {c : UInt8} {r : List UInt8} (h : isBlank c = true) : scanW i (c :: r) = scanW (i + 1) r := by rw [scanW, if_pos h]
theorem scanW_note (i : Nat) {r : List UInt8} (h : r.head? = some 47) : scanW i (47 :: r) = scanW (i + 1 + (r.takeWhile (· != 10)).length) (r.dropWhile (· != 10)) := by
  rw [scanW, if_neg (by decide), if_pos ⟨rfl, h⟩]
theorem scanW_bad (i : Nat) {c : UInt8} {r : List UInt8} {e : Int} (h1 : isBlank c = false) (h2 : ¬ (c = 47 ∧ r.head? = some 47)) (h : tokL (c :: r) = .bad e) : scanW i (c :: r) = .error (i, e) := by
  rw [scanW, if_neg (by simp [h1]), if_neg h2, h]
theorem scanW_tok (i : Nat) {c : UInt8} {r : List UInt8} {t : Tok} {n : Nat} (h1 : isBlank c = false) (h2 : ¬ (c = 47 ∧ r.head? = some 47)) (h : tokL (c :: r) = .tok t n) :
    scanW i (c :: r) = match scanW (i + n) (r.drop (n - 1)) with | .ok ts => .ok ({ t with p := i } :: ts) | .error x => .error x := by
  rw [scanW, if_neg (by simp [h1]), if_neg h2, h]

/-- induction along a scan -/
theorem scan_ind {P : Nat → List UInt8 → Prop} (h0 : ∀ i, P i [])
    (h1 : ∀ i c r, isBlank c = true → P (i + 1) r → P i (c :: r))
    (h2 : ∀ i r, r.head? = some 47 → P (i + 1 + (r.takeWhile (· != 10)).length) (r.dropWhile (· != 10)) → P i (47 :: r))
    (h3 : ∀ i c r e, isBlank c = false → ¬ (c = 47 ∧ r.head? = some 47) → tokL (c :: r) = .bad e → P i (c :: r))
    (h4 : ∀ i c r t n, isBlank c = false → ¬ (c = 47 ∧ r.head? = some 47) → tokL (c :: r) = .tok t n → P (i + n) (r.drop (n - 1)) → P i (c :: r)) : ∀ i l, P i l := by
  have key : ∀ m i (l : List UInt8), l.length ≤ m → P i l := by
    intro m
    induction m with
    | zero => intro i l h; match l, h with | [], _ => exact h0 i
    | succ m ih =>
      intro i l h
      match l, h with
      | [], _ => exact h0 i
      | c :: r, h =>
        have hr : r.length ≤ m := by simp at h; omega
        by_cases hb : isBlank c = true
        · exact h1 i c r hb (ih _ _ hr)
        · by_cases hn : c = 47 ∧ r.head? = some 47
          · obtain ⟨rfl, hn⟩ := hn
            exact h2 i r hn (ih _ _ (Nat.le_trans (List.dropWhile_sublist _).length_le hr))
          · cases ht : tokL (c :: r) with
            | bad e => exact h3 i c r e (by simpa using hb) hn ht
            | tok t n => exact h4 i c r t n (by simpa using hb) hn ht (ih _ _ (by simp; omega))
  exact fun i l => key _ i l (Nat.le_refl _)

theorem takeWhile_le {p : UInt8 → Bool} (l : List UInt8) : (l.takeWhile p).length ≤ l.length := (List.takeWhile_sublist p).length_le
theorem take_takeWhile {p : UInt8 → Bool} (l : List UInt8) : l.take (l.takeWhile p).length = l.takeWhile p := by
  induction l with
  | nil => rfl
  | cons a l ih =>
    rw [List.takeWhile_cons]
    split
    · simp [ih]
    · rfl
theorem drop_takeWhile {p : UInt8 → Bool} (l : List UInt8) : l.drop (l.takeWhile p).length = l.dropWhile p := by
  induction l with
  | nil => rfl
  | cons a l ih =>
    rw [List.takeWhile_cons, List.dropWhile_cons]
    split
    · simp [ih]
    · rfl
theorem all_takeWhile {p : UInt8 → Bool} (l : List UInt8) : (l.takeWhile p).all p = true := by
  induction l with
  | nil => rfl
  | cons a l ih =>
    rw [List.takeWhile_cons]
    split
    · simp_all
    · rfl
theorem dropWhile_head {p : UInt8 → Bool} {l r : List UInt8} {c : UInt8} (h : l.dropWhile p = c :: r) : p c = false := by
  induction l with
  | nil => simp at h
  | cons a l ih =>
    rw [List.dropWhile_cons] at h
    split at h
    · exact ih h
    · rename_i hp; injection h with h1 h2; subst h1; simpa using hp

/-- what a token is -/
structure TokIs (l : List UInt8) (t : Tok) (n : Nat) : Prop where
  pos : 1 ≤ n
  le : n ≤ l.length
  may : ∀ p : Int, 0 ≤ p → checkT { t with p := p } = true
  v : t.v < two64
  s : t.k ≠ 3 → t.s = l.take n
  num : t.k = 3 → isDigit (l.headD 0) = true ∧ t.s = []
  kinds : t.k = 1 ∨ t.k = 2 ∨ t.k = 3 ∨ t.k = 4
  short : (oneT t).length ≤ n

theorem numV_lt (b : Nat) (hb : 1 ≤ b) : ∀ (l : List UInt8), allFig b l = true → numV b l < b ^ l.length := by
  intro l
  suffices h : ∀ (l : List UInt8) (a k : Nat), a < b ^ k → l.all (fun c => decide (figV c < b)) = true → l.foldl (fun v c => v * b + figV c) a < b ^ (k + l.length) by
    intro hl
    have := h l 0 0 (by simp) hl
    simpa [numV] using this
  intro l
  induction l with
  | nil => intro a k ha _; simpa using ha
  | cons c l ih =>
    intro a k ha hl
    simp only [List.all_cons, Bool.and_eq_true, decide_eq_true_eq] at hl
    have h2 : (a + 1) * b ≤ b ^ k * b := Nat.mul_le_mul_right _ ha
    rw [Nat.add_mul, ← Nat.pow_succ, Nat.succ_eq_add_one] at h2
    have := ih (a * b + figV c) (k + 1) (by have := hl.1; omega) hl.2
    rw [List.foldl_cons, List.length_cons, show k + (l.length + 1) = k + 1 + l.length by omega]
    exact this

theorem fig_all (d : List UInt8) (h : d.all isDigit = true) : allFig 10 d = true := by
  unfold allFig
  rw [List.all_eq_true] at h ⊢
  intro c hc
  have := (digit_not (h c hc)).2.2.2.2.2
  simpa using this

theorem plain_is {l d : List UInt8} (hd : d.all isDigit = true) (h0 : 1 ≤ d.length) (hl : d.length ≤ l.length) (hh : isDigit (l.headD 0) = true) {t : Tok} {n : Nat} (h : plainL d = .tok t n) : TokIs l t n := by
  unfold plainL at h
  split at h
  · rename_i hv
    injection h with h1 h2
    subst h1 h2
    refine ⟨h0, hl, ?_, hv, by simp, fun _ => ⟨hh, rfl⟩, by simp, ?_⟩
    · intro p hp; simp [checkT, hp]
    · rw [oneT, if_neg (by simp), if_pos rfl]
      exact digL_len 10 (by decide) _ _ h0 (numV_lt 10 (by decide) d (fig_all d hd))
  · exact absurd h (by simp)

theorem pow_base_le {b k : Nat} (hb : b ≤ 16) : b ^ k ≤ 16 ^ k := Nat.pow_le_pow_left hb k

theorem wide_is {l d r : List UInt8} (hd : d.all isDigit = true) (h0 : 1 ≤ d.length) (hl : l = d ++ 39 :: r) (hh : isDigit (l.headD 0) = true) {t : Tok} {n : Nat} (h : wideL d r = .tok t n) : TokIs l t n := by
  unfold wideL at h
  match r with
  | [] => exact absurd h (by simp)
  | c :: r =>
    simp only at h
    split at h
    · exact absurd h (by simp)
    · rename_i hb
      split at h
      · exact absurd h (by simp)
      · rename_i hf
        split at h
        · rename_i hv
          simp only [Bool.and_eq_true, decide_eq_true_eq] at hv
          simp only [Bool.or_eq_true, not_or, Bool.not_eq_true, Bool.not_eq_false', Bool.not_eq_true'] at hf
          injection h with h1 h2
          subst h1 h2
          obtain ⟨⟨hv1, hv2⟩, hv3⟩ := hv
          have hlen := takeWhile_le (p := isPart) r
          have hbc : baseL c ≤ 16 ∧ 1 ≤ baseL c := by unfold baseL at hb ⊢; split <;> (try split) <;> (try split) <;> simp_all
          have hf1 : 1 ≤ (runL r).length := by
            cases hq : runL r with
            | nil => simp [hq] at hf
            | cons => simp
          refine ⟨by omega, ?_, ?_, hv2, by simp, fun _ => ⟨hh, rfl⟩, by simp, ?_⟩
          · rw [hl]; simp [runL] at *; omega
          · intro p hp; simp [checkT, hp, hv3]
          · have hw0 : ¬ ((numV 10 d : Nat) : Int) = 0 := by simp [fitsV] at hv3; omega
            rw [oneT, if_neg (by simp), if_neg hw0]
            have a1 := digL_len 10 (by decide) _ _ h0 (numV_lt 10 (by decide) d (fig_all d hd))
            have a2 := digL_len 16 (by decide) (runL r).length (numV (baseL c) (runL r)) hf1 (Nat.lt_of_lt_of_le (numV_lt _ hbc.2 _ (by simpa using hf.2)) (pow_base_le hbc.1))
            simp
            omega
        · exact absurd h (by simp)

theorem tok_is {l : List UInt8} {t : Tok} {n : Nat} (h : tokL l = .tok t n) : TokIs l t n := by
  match l with
  | [] => exact absurd h (by simp [tokL])
  | c :: r =>
    rw [tokL] at h
    split at h
    · rename_i hc
      have hp := (letter_not hc).2.2.2.1
      have hrun : runL (c :: r) = c :: r.takeWhile isPart := by rw [runL, List.takeWhile_cons, if_pos hp]
      split at h
      · exact absurd h (by simp)
      · rename_i hlen
        injection h with h1 h2
        subst h1 h2
        have hall := all_takeWhile (p := isPart) (c :: r)
        have htk := take_takeWhile (p := isPart) (c :: r)
        have hle := takeWhile_le (p := isPart) (c :: r)
        have hh : isLetter ((runL (c :: r)).headD 0) = true := by rw [hrun]; exact hc
        have he : (runL (c :: r)).isEmpty = false := by rw [hrun]; rfl
        refine ⟨by rw [hrun]; simp, hle, ?_, by simp [two64], fun _ => htk.symm, ?_, ?_, ?_⟩
        · intro p hp
          by_cases hw : isWord (runL (c :: r)) = true
          · simp [checkT, hw, hp]
          · have : isName (runL (c :: r)) = true := by
              simp only [isName, he, hh, Bool.not_false, Bool.true_and, Bool.and_eq_true, decide_eq_true_eq, Bool.not_eq_true']
              exact ⟨⟨⟨by omega, trivial⟩, hall⟩, by simpa using hw⟩
            simp [checkT, hw, hp, this]
        · intro h3; simp only at h3; split at h3 <;> omega
        · simp only; split <;> simp
        · rw [oneT, if_pos (by simp only; split <;> decide)]; exact Nat.le_refl _
    · rename_i hc
      split at h
      · rename_i hd
        have e0 := takeWhile_le (p := isDigit) (c :: r)
        have e1 := all_takeWhile (p := isDigit) (c :: r)
        have e2 : 1 ≤ ((c :: r).takeWhile isDigit).length := by rw [List.takeWhile_cons, if_pos hd]; simp
        unfold figL at h
        split at h
        · exact plain_is e1 e2 e0 hd h
        · rename_i c' r' hq
          split at h
          · rename_i h39
            subst h39
            exact wide_is (l := c :: r) e1 e2 (by rw [← hq]; exact (List.takeWhile_append_dropWhile).symm) hd h
          · split at h
            · exact absurd h (by simp)
            · exact plain_is e1 e2 e0 hd h
      · split at h
        · rename_i h2
          injection h with h3 h4
          subst h3 h4
          refine ⟨by omega, h2.1, ?_, by simp [two64], fun _ => rfl, by simp, by simp, ?_⟩
          · intro p hp; simp [checkT, hp]; simpa using h2.2
          · rw [oneT, if_pos (by simp)]; exact List.length_take_le _ _
        · split at h
          · rename_i h2
            injection h with h3 h4
            subst h3 h4
            refine ⟨by omega, by simp, ?_, by simp [two64], fun _ => rfl, by simp, by simp, ?_⟩
            · intro p hp; simp [checkT, hp]; simpa using h2
            · rw [oneT, if_pos (by simp)]; exact List.length_take_le _ _
          · exact absurd h (by simp)
end Go.Proofs.Scn
