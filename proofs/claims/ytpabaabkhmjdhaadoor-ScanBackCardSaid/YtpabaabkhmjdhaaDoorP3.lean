/- Strings as lists of bytes: how far a run goes; a list of words in one text. Plain. -/
import Derived.Test.YtpabaabkhmjdhaaDoorP1
import Derived.Lib.Strings
import Derived.Lib.IndexMore
import Derived.Lib.IndexBytes
import Derived.Lib.BitFns
namespace Go.Proofs.Scn
set_option linter.unusedVariables false
set_option linter.unusedSimpArgs false

/-- a string of bytes -/
def bs (l : List UInt8) : ByteArray := ⟨l.toArray⟩
theorem bs_list (s : ByteArray) : bs s.data.toList = s := rfl
theorem list_bs (l : List UInt8) : (bs l).data.toList = l := rfl
theorem size_list (s : ByteArray) : s.size = s.data.toList.length := rfl
theorem size_bs (l : List UInt8) : (bs l).size = l.length := rfl
theorem bs_inj {a b : List UInt8} : bs a = bs b ↔ a = b := ⟨fun h => by have := congrArg (fun s => s.data.toList) h; exact this, fun h => by rw [h]⟩
theorem extract_bs (s : ByteArray) (a b : Nat) : s.extract a b = bs ((s.data.toList.take b).drop a) := by
  have : (s.extract a b).data.toList = (s.data.toList.take b).drop a := by simp [List.drop_take]
  rw [← this, bs_list]

theorem getElem_list (s : ByteArray) (k : Nat) (h : k < s.size) : s[k] = s.data.toList[k]'h := rfl

/-- how many bytes at the head are so -/
def headN (p : UInt8 → Bool) (l : List UInt8) : Nat := (l.takeWhile p).length
theorem headN_le (p : UInt8 → Bool) (l : List UInt8) : headN p l ≤ l.length := (List.takeWhile_sublist p).length_le
theorem headN_lt {p : UInt8 → Bool} : ∀ {l : List UInt8} {k : Nat} (h : k < headN p l) (h' : k < l.length), p l[k] = true
  | [], k, h, h' => by simp at h'
  | a :: l, 0, h, h' => by
    unfold headN at h
    rw [List.takeWhile_cons] at h
    split at h
    · assumption
    · simp at h
  | a :: l, k + 1, h, h' => by
    unfold headN at h
    rw [List.takeWhile_cons] at h
    split at h
    · exact headN_lt (k := k) (by simpa [headN] using h) _
    · simp at h
theorem headN_at {p : UInt8 → Bool} : ∀ {l : List UInt8} (h : headN p l < l.length), p (l[headN p l]) = false
  | [], h => by simp at h
  | a :: l, h => by
    by_cases hp : p a = true
    · have e : headN p (a :: l) = headN p l + 1 := by simp [headN, List.takeWhile_cons, hp]
      have h2 : headN p l < l.length := by rw [e] at h; simpa using h
      have := headN_at h2
      simp only [e, List.getElem_cons_succ]
      exact this
    · have e : headN p (a :: l) = 0 := by simp [headN, List.takeWhile_cons, hp]
      simp only [e, List.getElem_cons_zero]
      simpa using hp
theorem take_headN (p : UInt8 → Bool) (l : List UInt8) : l.take (headN p l) = l.takeWhile p := take_takeWhile l
theorem drop_headN (p : UInt8 → Bool) (l : List UInt8) : l.drop (headN p l) = l.dropWhile p := drop_takeWhile l
theorem headN_drop_step {p : UInt8 → Bool} {l : List UInt8} {i k : Nat} : headN p (l.drop i) ≤ l.length - i := by
  have := headN_le p (l.drop i); simpa using this

/-! words in one text, a blank behind each -/
def cutsF (cur : List UInt8) : List UInt8 → List (List UInt8)
  | [] => []
  | c :: r => if c = 32 then cur :: cutsF [] r else cutsF (cur ++ [c]) r
def amongR (list s : List UInt8) : Bool := (cutsF [] list).contains s

/-- words in one text, a blank ahead of, and behind each -/
def amongS (list s : List UInt8) : Bool := !s.isEmpty && !s.contains 32 && Lib.contains list (32 :: s ++ [32])

theorem contains_iff (s sub : List UInt8) : Lib.contains s sub = true ↔ ∃ i, i ≤ s.length ∧ sub.isPrefixOf (s.drop i) = true := by
  unfold Lib.contains
  rw [decide_eq_true_eq]
  rcases Lib.index_spec s sub with ⟨h1, h2⟩ | ⟨i, h1, h2, h3, _⟩
  · constructor
    · intro h; omega
    · rintro ⟨i, hi, hp⟩
      have := h2 i hi
      unfold Lib.occAt at this
      rw [this] at hp
      cases hp
  · exact ⟨fun _ => ⟨i, h2, h3⟩, fun _ => by omega⟩

theorem among_pre {s l : List UInt8} (h32 : 32 ∉ s) : ∀ {cur : List UInt8}, 32 ∉ cur → (s ++ [32]).isPrefixOf (cur ++ 32 :: l) = true → s = cur := by
  induction s with
  | nil =>
    intro cur hc h
    match cur, hc, h with
    | [], _, _ => rfl
    | c :: cur, hc, h => simp at h hc; exact absurd h hc.1
  | cons a s ih =>
    intro cur hc h
    simp only [List.mem_cons, not_or] at h32
    match cur, hc, h with
    | [], _, h => simp at h; exact absurd h.1.symm h32.1
    | c :: cur, hc, h =>
      simp only [List.mem_cons, not_or] at hc
      simp at h
      rw [h.1, ih h32.2 hc.2 (by simpa using h.2)]

theorem cuts_contains {s : List UInt8} (h32 : 32 ∉ s) : ∀ (l cur : List UInt8), 32 ∉ cur →
    ((cutsF cur l).contains s = true ↔ (s ++ [32]).isPrefixOf (cur ++ l) = true ∨ ∃ i, i ≤ l.length ∧ (32 :: s ++ [32]).isPrefixOf (l.drop i) = true)
  | [], cur, hc => by
    simp only [cutsF, List.contains_nil, Bool.false_eq_true, false_iff, not_or, not_exists, not_and]
    refine ⟨fun h => ?_, fun i hi h => by simp at h⟩
    have := List.isPrefixOf_iff_prefix.1 h
    have hm : (32 : UInt8) ∈ cur ++ [] := this.subset (by simp)
    simp at hm
    exact hc hm
  | c :: r, cur, hc => by
    by_cases h : c = 32
    · subst h
      simp only [cutsF, if_true, List.contains_cons, Bool.or_eq_true, beq_iff_eq]
      rw [cuts_contains h32 r [] (by simp)]
      constructor
      · rintro (rfl | h | ⟨i, hi, h⟩)
        · left; rw [List.isPrefixOf_iff_prefix]; exact ⟨r, by simp⟩
        · right; exact ⟨0, by simp, by simpa using h⟩
        · right; exact ⟨i + 1, by simp; omega, by simpa using h⟩
      · rintro (h | ⟨i, hi, h⟩)
        · left; exact among_pre h32 hc h
        · match i, hi, h with
          | 0, _, h => right; left; simpa using h
          | i + 1, hi, h => right; right; exact ⟨i, by simp at hi; omega, by simpa using h⟩
    · simp only [cutsF, if_neg h]
      rw [cuts_contains h32 r (cur ++ [c]) (by simp [hc]; exact fun e => h e.symm)]
      simp only [List.append_assoc, List.singleton_append]
      constructor
      · rintro (h1 | ⟨i, hi, h1⟩)
        · exact .inl h1
        · exact .inr ⟨i + 1, by simp; omega, by simpa using h1⟩
      · rintro (h1 | ⟨i, hi, h1⟩)
        · exact .inl h1
        · match i, hi, h1 with
          | 0, _, h1 => simp at h1; exact absurd h1.1.symm h
          | i + 1, hi, h1 => exact .inr ⟨i, by simp at hi; omega, by simpa using h1⟩

theorem amongS_eq (list s : List UInt8) (hs : s.isEmpty = false) (hc : s.contains 32 = false) : amongS (32 :: list) s = amongR list s := by
  have h32 : (32 : UInt8) ∉ s := fun h => by rw [← List.contains_iff_mem] at h; rw [h] at hc; cases hc
  unfold amongS amongR
  rw [hs, hc]
  simp only [Bool.not_false, Bool.true_and]
  rw [Bool.eq_iff_iff, contains_iff, cuts_contains h32 list [] (by simp)]
  constructor
  · rintro ⟨i, hi, h⟩
    match i, hi, h with
    | 0, _, h => left; simpa using h
    | i + 1, hi, h => right; exact ⟨i, by simp at hi; omega, by simpa using h⟩
  · rintro (h | ⟨i, hi, h⟩)
    · exact ⟨0, by simp, by simpa using h⟩
    · exact ⟨i + 1, by simp; omega, by simpa using h⟩

def wordsT : List UInt8 := wordsL.flatMap (· ++ [32])
def pairsT : List UInt8 := pairsL.flatMap (· ++ [32])
def signsT : List UInt8 := (loneL.map ([·]) ++ pairsL).flatMap (· ++ [32])

theorem words_text : cutsF [] wordsT = wordsL := by decide +kernel
theorem pairs_text : cutsF [] pairsT = pairsL := by decide +kernel
theorem signs_text : cutsF [] signsT = loneL.map ([·]) ++ pairsL := by decide +kernel

theorem words_clean : (wordsL.all fun s => !s.isEmpty && !s.contains 32) = true := by decide
theorem pairs_clean : (pairsL.all fun s => !s.isEmpty && !s.contains 32) = true := by decide

theorem among_words (s : List UInt8) : amongS (32 :: wordsT) s = isWord s := by
  by_cases h : s.isEmpty = false ∧ s.contains 32 = false
  · rw [amongS_eq _ _ h.1 h.2, amongR, words_text, isWord]
  · have h1 : amongS (32 :: wordsT) s = false := by
      unfold amongS
      rcases Classical.not_and_iff_not_or_not.1 h with h | h
      · simp at h; simp [h]
      · simp at h; simp [h]
    rw [h1]
    cases h2 : isWord s
    · rfl
    · have := List.all_eq_true.1 words_clean s (by simpa [isWord] using h2)
      simp at this
      exact absurd (by simpa using this) h
theorem among_pairs (s : List UInt8) : amongS (32 :: pairsT) s = pairsL.contains s := by
  by_cases h : s.isEmpty = false ∧ s.contains 32 = false
  · rw [amongS_eq _ _ h.1 h.2, amongR, pairs_text]
  · have h1 : amongS (32 :: pairsT) s = false := by
      unfold amongS
      rcases Classical.not_and_iff_not_or_not.1 h with h | h
      · simp at h; simp [h]
      · simp at h; simp [h]
    rw [h1]
    cases h2 : pairsL.contains s
    · rfl
    · have := List.all_eq_true.1 pairs_clean s (by simpa using h2)
      simp at this
      exact absurd (by simpa using this) h
theorem amongR_words (s : List UInt8) : amongR wordsT s = isWord s := by rw [amongR, words_text, isWord]
theorem amongR_signs (s : List UInt8) : amongR signsT s = isSign s := by
  rw [amongR, signs_text, isSign_iff, Bool.eq_iff_iff]
  simp only [List.contains_iff_mem, List.mem_append]
  exact Or.comm

/-- one byte among bytes -/
theorem contains_lone (l : List UInt8) (c : UInt8) : Lib.contains l [c] = l.contains c := by
  rw [Bool.eq_iff_iff, contains_iff, List.contains_iff_mem]
  constructor
  · rintro ⟨i, hi, h⟩
    have := (List.isPrefixOf_iff_prefix.1 h).subset (a := c) (by simp)
    exact List.mem_of_mem_drop this
  · intro h
    obtain ⟨i, hi, rfl⟩ := List.getElem_of_mem h
    exact ⟨i, by omega, List.isPrefixOf_iff_prefix.2 ⟨l.drop (i + 1), by rw [List.drop_eq_getElem_cons hi]; rfl⟩⟩

theorem bitLen_le (v w : Nat) (hv : v < 2 ^ 64) : decide (Lib.bitLen v ≤ w) = decide (v < 2 ^ w) := by
  have key : ∀ f x, x < 2 ^ f → ∀ w, (Lib.bitLenAux f x ≤ w ↔ x < 2 ^ w) := by
    intro f
    induction f with
    | zero => intro x hx w; simp [Lib.bitLenAux] at *; subst hx; exact Nat.two_pow_pos w
    | succ f ih =>
      intro x hx w
      unfold Lib.bitLenAux
      by_cases h0 : x = 0
      · subst h0; simp [Nat.two_pow_pos]
      · rw [if_neg h0]
        have := ih (x / 2) (by rw [Nat.pow_succ] at hx; omega)
        match w with
        | 0 => simp; omega
        | w + 1 => rw [Nat.add_comm 1, Nat.add_le_add_iff_right, this, Nat.pow_succ]; omega
  rw [decide_eq_decide]
  exact key 64 v hv w
end Go.Proofs.Scn
