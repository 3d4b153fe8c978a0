/- The second layer in plain Lean: what is read stands where it says; two texts; what is wrong; names; numbers. -/
import Derived.Test.YtpabaabkhmjdhaaDoorP1
namespace Go.Proofs.Scn
set_option linter.unusedVariables false
set_option linter.unusedSimpArgs false

theorem tok_head {c : UInt8} {r : List UInt8} {t : Tok} {n : Nat} (h : tokL (c :: r) = .tok t n) : isBlank c = false ∧ c ≠ 47 := by
  rw [tokL] at h
  split at h
  · rename_i hc; exact ⟨(letter_not hc).2.1, (letter_not hc).2.2.1⟩
  · split at h
    · rename_i hc; exact ⟨(digit_not hc).2.1, (digit_not hc).2.2.1⟩
    · split at h
      · rename_i h2
        have := sign_mem h2.2
        match r, h2.1 with
        | d :: r, _ => simpa using And.intro this.2.2.1 this.2.2.2.1
      · split at h
        · rename_i h2
          have := sign_mem h2
          simpa using And.intro this.2.2.1 this.2.2.2.1
        · exact absurd h (by simp)

def at0 (t : Tok) : Tok := { t with p := 0 }

theorem scanW_one (i : Nat) {l : List UInt8} {t : Tok} {n : Nat} (h : tokL l = .tok t n) :
    scanW i l = match scanW (i + n) (l.drop n) with | .ok ts => .ok ({ t with p := i } :: ts) | .error x => .error x := by
  have hi := tok_is h
  match l, h, hi with
  | [], h, _ => exact absurd h (by simp [tokL])
  | c :: r, h, hi =>
    obtain ⟨h1, h2⟩ := tok_head h
    obtain ⟨m, rfl⟩ : ∃ m, n = m + 1 := ⟨n - 1, by have := hi.pos; omega⟩
    rw [scanW_tok i h1 (fun hh => h2 hh.1) h]
    rfl

/-- What is written is read. -/
theorem scan_text : ∀ (ts : List Tok) (i : Nat), (∀ t ∈ ts, checkT t = true ∧ t.v < two64) → ∃ us, scanW i (textL ts) = .ok us ∧ us.map at0 = ts.map at0 := by
  intro ts
  induction ts with
  | nil => intro i _; exact ⟨[], by rw [textL, scanW_nil], rfl⟩
  | cons t l ih =>
    intro i h
    have ht := h t (by simp)
    match l, ih, h with
    | [], ih, h =>
      have := tok_one (r := []) ht.1 ht.2 (.inl rfl)
      rw [List.append_nil] at this
      rw [textL, scanW_one i this, List.drop_length, scanW_nil]
      exact ⟨_, rfl, rfl⟩
    | u :: l, ih, h =>
      obtain ⟨us, h1, h2⟩ := ih (i + (oneT t).length + 1) (fun x hx => h x (by simp at hx ⊢; exact .inr hx))
      have hs : sepT t = 32 ∨ sepT t = 10 := by unfold sepT; split <;> simp
      have := tok_one (r := sepT t :: textL (u :: l)) ht.1 ht.2 (.inr ⟨_, _, rfl, hs⟩)
      rw [textL, scanW_one i this, List.drop_left, scanW_blank _ (by rcases hs with hs | hs <;> rw [hs] <;> decide), h1]
      exact ⟨_, rfl, by simp [h2, at0]⟩

/-- What is read stands where it says, one behind the other. -/
def Right (i : Nat) (l : List UInt8) : List Tok → Prop
  | [] => True
  | t :: ts => ∃ d, t.p = ((i + d : Nat) : Int) ∧ d < l.length ∧ checkT t = true ∧ t.v < two64 ∧ t.s.length ≤ l.length - d ∧ (t.k ≠ 3 → (l.drop d).take t.s.length = t.s) ∧ (t.k = 3 → isDigit ((l.drop d).headD 0) = true ∧ t.s = []) ∧
      Right (i + d + max t.s.length 1) (l.drop (d + max t.s.length 1)) ts

theorem Right.earlier (e : Nat) {i : Nat} {l : List UInt8} : ∀ {ts : List Tok}, Right (i + e) (l.drop e) ts → Right i l ts
  | [], _ => trivial
  | t :: ts, ⟨d, h1, h2, h3, h4, h5, h6, h7, h8⟩ => by
    rw [List.drop_drop] at h6 h7 h8
    refine ⟨e + d, by rw [h1, Nat.add_assoc], by simp at h2; omega, h3, h4, by simp at h5; omega, h6, h7, ?_⟩
    rw [← Nat.add_assoc] at h8 ⊢
    exact h8

theorem scan_right : ∀ i l, ∀ ts, scanW i l = .ok ts → Right i l ts := by
  refine scan_ind (P := fun i l => ∀ ts, scanW i l = .ok ts → Right i l ts) ?_ ?_ ?_ ?_ ?_
  · intro i ts h; rw [scanW_nil] at h; injection h with h; subst h; trivial
  · intro i c r hb ih ts h
    rw [scanW_blank i hb] at h
    exact Right.earlier 1 (ih ts h)
  · intro i r hr ih ts h
    rw [scanW_note i hr] at h
    have := ih ts h
    rw [← drop_takeWhile] at this
    refine Right.earlier (1 + (r.takeWhile (· != 10)).length) ?_
    rw [show i + (1 + (r.takeWhile (· != 10)).length) = i + 1 + (r.takeWhile (· != 10)).length by omega, Nat.add_comm 1]
    exact this
  · intro i c r e h1 h2 h3 ts h
    rw [scanW_bad i h1 h2 h3] at h
    exact absurd h (by simp)
  · intro i c r t n h1 h2 h3 ih ts h
    have hi := tok_is h3
    rw [scanW_tok i h1 h2 h3] at h
    split at h
    · rename_i ts' hs
      injection h with h
      subst h
      have hr := ih ts' hs
      obtain ⟨m, rfl⟩ : ∃ m, n = m + 1 := ⟨n - 1, by have := hi.pos; omega⟩
      have hle := hi.le
      have hslen : t.s.length ≤ m + 1 := by
        by_cases hk : t.k = 3
        · rw [(hi.num hk).2]; simp
        · rw [hi.s hk]; exact List.length_take_le _ _
      refine ⟨0, rfl, by simp, hi.may _ (by omega), hi.v, by simp only [Nat.sub_zero]; omega, ?_, ?_, ?_⟩
      · intro hk
        simp only [List.drop_zero]
        have := hi.s hk
        rw [this, List.length_take, Nat.min_eq_left hle]
      · exact hi.num
      · simp only [Nat.add_zero, Nat.zero_add]
        refine Right.earlier (m + 1 - max t.s.length 1) ?_
        rw [List.drop_drop, show i + max t.s.length 1 + (m + 1 - max t.s.length 1) = i + (m + 1) by omega, show max t.s.length 1 + (m + 1 - max t.s.length 1) = m + 1 by omega]
        exact hr
    · exact absurd h (by simp)

theorem Right.all {i : Nat} {l : List UInt8} : ∀ {ts : List Tok}, Right i l ts → ∀ t ∈ ts, checkT t = true ∧ t.v < two64
  | [], _, t, h => by simp at h
  | u :: ts, ⟨d, h1, h2, h3, h4, h5, h6, h7, h8⟩, t, h => by
    rcases List.mem_cons.1 h with rfl | h
    · exact ⟨h3, h4⟩
    · exact h8.all t h

/-- what is written of what was read is not much longer -/
def lenT (ts : List Tok) : Nat := (ts.map fun t => (oneT t).length + 1).sum
theorem text_len : ∀ ts, (textL ts).length ≤ lenT ts
  | [] => by simp [textL]
  | [t] => by simp [textL, lenT]
  | t :: u :: l => by
    have := text_len (u :: l)
    rw [textL]
    simp [lenT] at *
    omega
theorem oneT_p (t : Tok) (p : Int) : oneT { t with p := p } = oneT t := rfl
theorem scan_len : ∀ i l, ∀ ts, scanW i l = .ok ts → lenT ts ≤ 2 * l.length := by
  refine scan_ind (P := fun i l => ∀ ts, scanW i l = .ok ts → lenT ts ≤ 2 * l.length) ?_ ?_ ?_ ?_ ?_
  · intro i ts h; rw [scanW_nil] at h; injection h with h; subst h; simp [lenT]
  · intro i c r hb ih ts h
    rw [scanW_blank i hb] at h
    have := ih ts h
    simp; omega
  · intro i r hr ih ts h
    rw [scanW_note i hr] at h
    have := ih ts h
    have := (List.dropWhile_sublist (l := r) (· != 10)).length_le
    simp; omega
  · intro i c r e h1 h2 h3 ts h
    rw [scanW_bad i h1 h2 h3] at h
    exact absurd h (by simp)
  · intro i c r t n h1 h2 h3 ih ts h
    have hi := tok_is h3
    rw [scanW_tok i h1 h2 h3] at h
    split at h
    · rename_i ts' hs
      injection h with h
      subst h
      have hr := ih ts' hs
      have h1 := hi.pos
      have h2 := hi.le
      have h3 := hi.short
      simp [lenT, oneT_p] at *
      omega
    · exact absurd h (by simp)

theorem at0_oneT {t u : Tok} (h : at0 t = at0 u) : oneT t = oneT u ∧ sepT t = sepT u ∧ t.v = u.v := by
  have h1 : oneT (at0 t) = oneT (at0 u) := by rw [h]
  have h2 : sepT (at0 t) = sepT (at0 u) := by rw [h]
  have h3 : (at0 t).v = (at0 u).v := by rw [h]
  exact ⟨h1, h2, h3⟩
theorem text_at0 : ∀ ts us, ts.map at0 = us.map at0 → textL ts = textL us
  | [], [], _ => rfl
  | [], u :: us, h => by simp at h
  | t :: ts, [], h => by simp at h
  | [t], [u], h => by simp at h; rw [textL, textL, (at0_oneT h).1]
  | [t], u :: v :: us, h => by simp at h
  | t :: v :: ts, [u], h => by simp at h
  | t :: v :: ts, u :: x :: us, h => by
    have h' : at0 t = at0 u ∧ (v :: ts).map at0 = (x :: us).map at0 := by simpa using h
    have := text_at0 (v :: ts) (x :: us) h'.2
    rw [textL, textL, (at0_oneT h'.1).1, (at0_oneT h'.1).2.1, this]
/-! two texts, one behind the other on lines of their own; a text that is cut where it is wrong -/
theorem takeWhile_nl {p : UInt8 → Bool} (hp : p 10 = false) (l b : List UInt8) : (l ++ 10 :: b).takeWhile p = l.takeWhile p := by
  induction l with
  | nil => simp [List.takeWhile_cons, hp]
  | cons a l ih => simp only [List.cons_append, List.takeWhile_cons, ih]
theorem dropWhile_nl {p : UInt8 → Bool} (hp : p 10 = false) (l b : List UInt8) : (l ++ 10 :: b).dropWhile p = l.dropWhile p ++ 10 :: b := by
  induction l with
  | nil => simp [List.dropWhile_cons, hp]
  | cons a l ih =>
    simp only [List.cons_append, List.dropWhile_cons, ih]
    split
    · rfl
    · rfl
theorem wide_nl (d r b : List UInt8) : wideL d (r ++ 10 :: b) = wideL d r := by
  match r with
  | [] => rfl
  | c :: r =>
    have : runL (r ++ 10 :: b) = runL r := takeWhile_nl (by decide) r b
    simp only [List.cons_append, wideL, this]
theorem fig_nl (l b : List UInt8) : figL (l ++ 10 :: b) = figL l := by
  unfold figL
  rw [takeWhile_nl (by decide), dropWhile_nl (by decide)]
  match l.dropWhile isDigit with
  | [] => rfl
  | c :: r =>
    simp only [List.cons_append]
    split
    · exact wide_nl _ _ _
    · rfl
theorem tok_nl {l : List UInt8} (b : List UInt8) (h : l ≠ []) : tokL (l ++ 10 :: b) = tokL l := by
  match l, h with
  | c :: r, _ =>
    have e1 := takeWhile_nl (p := isPart) (by decide) (c :: r) b
    have e2 := fig_nl (c :: r) b
    have e1' : runL (c :: (r ++ 10 :: b)) = runL (c :: r) := e1
    rw [List.cons_append] at e2 ⊢
    rw [tokL, tokL, e1', e2]
    split
    · rfl
    · split
      · rfl
      · match r with
        | [] =>
          have hn : ¬ (2 ≤ (c :: ([] ++ 10 :: b)).length ∧ isSign ((c :: ([] ++ 10 :: b)).take 2) = true) := by
            rintro ⟨_, hb⟩
            have := (sign_mem hb).2.2.2.2.2.2
            simp at this
          rw [if_neg hn, if_neg (show ¬ (2 ≤ [c].length ∧ _) by simp)]
          rfl
        | d :: r => simp only [List.cons_append, List.take_succ_cons, List.take_zero, List.length_cons]; simp; rfl

def shiftT (d : Nat) (t : Tok) : Tok := { t with p := t.p + d }
theorem scan_shift (d : Nat) : ∀ i l, scanW (i + d) l = match scanW i l with | .ok ts => .ok (ts.map (shiftT d)) | .error (k, e) => .error (k + d, e) := by
  refine scan_ind (P := fun i l => scanW (i + d) l = match scanW i l with | .ok ts => .ok (ts.map (shiftT d)) | .error (k, e) => .error (k + d, e)) ?_ ?_ ?_ ?_ ?_
  · intro i; rw [scanW_nil, scanW_nil]; rfl
  · intro i c r hb ih; rw [scanW_blank _ hb, scanW_blank _ hb, ← ih, Nat.add_right_comm]
  · intro i r hr ih; rw [scanW_note _ hr, scanW_note _ hr, ← ih]; congr 1; omega
  · intro i c r e h1 h2 h3; rw [scanW_bad _ h1 h2 h3, scanW_bad _ h1 h2 h3]
  · intro i c r t n h1 h2 h3 ih
    rw [scanW_tok _ h1 h2 h3, scanW_tok _ h1 h2 h3, show i + d + n = i + n + d by omega, ih]
    cases scanW (i + n) (r.drop (n - 1)) with
    | error x => rfl
    | ok ts => simp [shiftT]

theorem scan_lines (b : List UInt8) : ∀ i l, scanW i (l ++ 10 :: b) =
    match scanW i l with
    | .error x => .error x
    | .ok ts => match scanW (i + l.length + 1) b with | .ok us => .ok (ts ++ us) | .error x => .error x := by
  refine scan_ind (P := fun i l => scanW i (l ++ 10 :: b) =
    match scanW i l with
    | .error x => .error x
    | .ok ts => match scanW (i + l.length + 1) b with | .ok us => .ok (ts ++ us) | .error x => .error x) ?_ ?_ ?_ ?_ ?_
  · intro i
    rw [List.nil_append, scanW_blank i (by decide), scanW_nil]
    simp only [List.length_nil, Nat.add_zero, List.nil_append]
    cases scanW (i + 1) b <;> rfl
  · intro i c r hb ih
    rw [List.cons_append, scanW_blank i hb, scanW_blank i hb, ih, List.length_cons]
    rw [show i + 1 + r.length + 1 = i + (r.length + 1) + 1 by omega]
  · intro i r hr ih
    have hr' : (r ++ 10 :: b).head? = some 47 := by
      match r, hr with
      | x :: r, hr => exact hr
    have hl : (r.takeWhile (· != 10)).length + (r.dropWhile (· != 10)).length = r.length := by
      rw [← List.length_append, List.takeWhile_append_dropWhile]
    rw [List.cons_append, scanW_note i hr, scanW_note i hr', takeWhile_nl (by decide), dropWhile_nl (by decide), ih, List.length_cons]
    rw [show i + 1 + (r.takeWhile (· != 10)).length + (r.dropWhile (· != 10)).length + 1 = i + (r.length + 1) + 1 by omega]
  · intro i c r e h1 h2 h3
    have h2' : ¬ (c = 47 ∧ (r ++ 10 :: b).head? = some 47) := by
      match r, h2 with
      | [], h2 => simp
      | x :: r, h2 => exact h2
    rw [List.cons_append, scanW_bad i h1 h2 h3, scanW_bad i h1 h2' (by rw [← List.cons_append, tok_nl b (by simp), h3])]
  · intro i c r t n h1 h2 h3 ih
    have hi := tok_is h3
    have h2' : ¬ (c = 47 ∧ (r ++ 10 :: b).head? = some 47) := by
      match r, h2 with
      | [], h2 => simp
      | x :: r, h2 => exact h2
    obtain ⟨m, rfl⟩ : ∃ m, n = m + 1 := ⟨n - 1, by have := hi.pos; omega⟩
    have hle := hi.le
    simp only [List.length_cons] at hle
    simp only [Nat.add_sub_cancel] at ih
    rw [List.cons_append, scanW_tok i h1 h2 h3, scanW_tok i h1 h2' (by rw [← List.cons_append, tok_nl b (by simp), h3]), Nat.add_sub_cancel, List.drop_append_of_le_length (by omega), ih]
    rw [List.length_drop, List.length_cons, show i + (m + 1) + (r.length - m) + 1 = i + (r.length + 1) + 1 by omega]
    cases scanW (i + (m + 1)) (r.drop m) with
    | error x => rfl
    | ok ts =>
      simp only
      cases scanW (i + (r.length + 1) + 1) b <;> rfl

theorem takeWhile_take {p : UInt8 → Bool} : ∀ {l : List UInt8} {m : Nat}, (l.takeWhile p).length ≤ m → (l.take m).takeWhile p = l.takeWhile p
  | [], m, h => by simp
  | a :: l, 0, h => by
    rw [List.takeWhile_cons] at h ⊢
    split at h
    · simp at h
    · rename_i hp; rw [if_neg hp]; rfl
  | a :: l, m + 1, h => by
    rw [List.take_succ_cons, List.takeWhile_cons, List.takeWhile_cons]
    rw [List.takeWhile_cons] at h
    split at h
    · rw [takeWhile_take (by simpa using h)]
    · rename_i hp; rw [if_neg hp, if_neg hp]
theorem dropWhile_take {p : UInt8 → Bool} {l : List UInt8} {m : Nat} (h : (l.takeWhile p).length ≤ m) : (l.take m).dropWhile p = (l.dropWhile p).take (m - (l.takeWhile p).length) := by
  rw [← drop_takeWhile, ← drop_takeWhile, takeWhile_take h, List.drop_take]

theorem wide_cut {d r : List UInt8} {t : Tok} {n m : Nat} (h : wideL d r = .tok t n) (hm : n ≤ d.length + 1 + m) : wideL d (r.take m) = .tok t n := by
  match r, h with
  | [], h => exact absurd h (by simp [wideL])
  | c :: r, h =>
    have h' := h
    unfold wideL at h'
    simp only at h'
    split at h'
    · exact absurd h' (by simp)
    · split at h'
      · exact absurd h' (by simp)
      · split at h'
        · injection h' with h1 h2
          have hr : (runL r).length + 1 ≤ m := by omega
          obtain ⟨m, rfl⟩ : ∃ q, m = q + 1 := ⟨m - 1, by omega⟩
          have : runL (r.take m) = runL r := takeWhile_take (p := isPart) (by unfold runL at hr; omega)
          rw [← h]
          simp only [List.take_succ_cons, wideL, this]
        · exact absurd h' (by simp)
theorem tok_cut {l : List UInt8} {t : Tok} {n m : Nat} (h : tokL l = .tok t n) (hm : n ≤ m) : tokL (l.take m) = .tok t n := by
  have hi := tok_is h
  match l, h, hi with
  | [], h, _ => exact absurd h (by simp [tokL])
  | c :: r, h, hi =>
    obtain ⟨m, rfl⟩ : ∃ q, m = q + 1 := ⟨m - 1, by have := hi.pos; omega⟩
    have h0 := h
    rw [tokL] at h0
    split at h0
    · rename_i hc
      split at h0
      · exact absurd h0 (by simp)
      · injection h0 with h1 h2
        have e : runL ((c :: r).take (m + 1)) = runL (c :: r) := takeWhile_take (p := isPart) (by unfold runL at h2; omega)
        rw [List.take_succ_cons] at e ⊢
        rw [← h, tokL, tokL, if_pos hc, if_pos hc, e]
    · rename_i hc
      split at h0
      · rename_i hd
        rw [List.take_succ_cons, tokL, if_neg hc, if_pos hd, ← List.take_succ_cons]
        unfold figL at h0 ⊢
        have hlen : ((c :: r).takeWhile isDigit).length ≤ n := by
          split at h0
          · unfold plainL at h0; split at h0
            · injection h0 with _ h0; omega
            · exact absurd h0 (by simp)
          · split at h0
            · rename_i c' r' _ _
              unfold wideL at h0
              split at h0
              · exact absurd h0 (by simp)
              · split at h0
                · exact absurd h0 (by simp)
                · split at h0
                  · exact absurd h0 (by simp)
                  · split at h0
                    · injection h0 with _ h0; omega
                    · exact absurd h0 (by simp)
            · split at h0
              · exact absurd h0 (by simp)
              · unfold plainL at h0; split at h0
                · injection h0 with _ h0; omega
                · exact absurd h0 (by simp)
        rw [takeWhile_take (show _ ≤ m + 1 by omega), dropWhile_take (show _ ≤ m + 1 by omega)]
        obtain ⟨q, hq0⟩ : ∃ q, q = m + 1 - ((c :: r).takeWhile isDigit).length := ⟨_, rfl⟩
        rw [← hq0]
        have hq : ((c :: r).takeWhile isDigit).length + q = m + 1 := by omega
        clear hq0
        revert h0 hq hlen
        generalize (c :: r).takeWhile isDigit = D
        generalize (c :: r).dropWhile isDigit = E
        intro h0 hlen hq
        match E, h0 with
        | [], h0 => simpa using h0
        | c' :: r', h0 =>
          simp only at h0
          match q, hq with
          | 0, hq =>
            simp only [List.take_zero]
            split at h0
            · unfold wideL at h0
              split at h0
              · exact absurd h0 (by simp)
              · split at h0
                · exact absurd h0 (by simp)
                · split at h0
                  · exact absurd h0 (by simp)
                  · split at h0
                    · injection h0 with _ h0; omega
                    · exact absurd h0 (by simp)
            · split at h0
              · exact absurd h0 (by simp)
              · exact h0
          | q + 1, hq =>
            simp only [List.take_succ_cons]
            split at h0
            · rename_i h39
              rw [if_pos h39]
              exact wide_cut h0 (by omega)
            · rename_i h39
              rw [if_neg h39]
              exact h0
      · rename_i hd
        rw [List.take_succ_cons, tokL, if_neg hc, if_neg hd]
        split at h0
        · rename_i h2
          injection h0 with h3 h4
          obtain ⟨m, rfl⟩ : ∃ q, m = q + 1 := ⟨m - 1, by omega⟩
          match r, h2 with
          | d :: r, h2 =>
            have e : (c :: (d :: r).take (m + 1)).take 2 = (c :: d :: r).take 2 := by simp
            rw [e, if_pos ⟨by simp, h2.2⟩, ← h3, ← h4]
        · rename_i h2
          split at h0
          · rename_i h5
            injection h0 with h3 h4
            have e1 : (c :: r.take m).take 1 = (c :: r).take 1 := by simp
            have hn : ¬ (2 ≤ (c :: r.take m).length ∧ isSign ((c :: r.take m).take 2) = true) := by
              rintro ⟨ha, hb⟩
              refine h2 ⟨by simp at ha ⊢; omega, ?_⟩
              obtain ⟨m, rfl⟩ : ∃ q, m = q + 1 := ⟨m - 1, by simp at ha; omega⟩
              simpa [List.take_take] using hb
            rw [if_neg hn, e1, if_pos h5, ← h3, ← h4]
          · exact absurd h0 (by simp)
/-! what is wrong is wrong by itself; a name is one token; a number of a width -/
theorem take_le_head (r : List UInt8) (m : Nat) (hm : 1 ≤ m) : (r.take m).head? = r.head? := by
  match r, m, hm with
  | [], _, _ => simp
  | a :: r, m + 1, _ => rfl

/-- Where a text is wrong: all ahead of it is right, and it is wrong by itself. -/
theorem scan_wrong : ∀ i l, ∀ k e, scanW i l = .error (k, e) → ∃ d, k = i + d ∧ d < l.length ∧ (∃ ts : Nat → List Tok, ∀ j, scanW j (l.take d) = .ok (ts j)) ∧ ∀ j, scanW j (l.drop d) = .error (j, e) := by
  refine scan_ind (P := fun i l => ∀ k e, scanW i l = .error (k, e) → ∃ d, k = i + d ∧ d < l.length ∧ (∃ ts : Nat → List Tok, ∀ j, scanW j (l.take d) = .ok (ts j)) ∧ ∀ j, scanW j (l.drop d) = .error (j, e)) ?_ ?_ ?_ ?_ ?_
  · intro i k e h; rw [scanW_nil] at h; exact absurd h (by simp)
  · intro i c r hb ih k e h
    rw [scanW_blank i hb] at h
    obtain ⟨d, h1, h2, ⟨ts, h3⟩, h4⟩ := ih k e h
    exact ⟨d + 1, by omega, by simp; omega, ⟨fun j => ts (j + 1), fun j => by rw [List.take_succ_cons, scanW_blank j hb, h3]⟩, fun j => by rw [List.drop_succ_cons, h4]⟩
  · intro i r hr ih k e h
    rw [scanW_note i hr] at h
    obtain ⟨d, h1, h2, ⟨ts, h3⟩, h4⟩ := ih k e h
    have hpos : 1 ≤ (r.takeWhile (· != 10)).length := by
      match r, hr with
      | x :: r, hr => simp at hr; subst hr; rw [List.takeWhile_cons, if_pos (by decide)]; simp
    have hsum : (r.takeWhile (· != 10)).length + (r.dropWhile (· != 10)).length = r.length := by
      rw [← List.length_append, List.takeWhile_append_dropWhile]
    refine ⟨1 + (r.takeWhile (· != 10)).length + d, by omega, by simp; omega, ⟨fun j => ts (j + 1 + (r.takeWhile (· != 10)).length), fun j => ?_⟩, fun j => ?_⟩
    · rw [show 1 + (r.takeWhile (· != 10)).length + d = ((r.takeWhile (· != 10)).length + d) + 1 by omega, List.take_succ_cons, scanW_note j (by rw [take_le_head _ _ (by omega)]; exact hr), takeWhile_take (by omega), dropWhile_take (by omega), show (r.takeWhile (· != 10)).length + d - (r.takeWhile (· != 10)).length = d by omega, h3]
    · rw [show 1 + (r.takeWhile (· != 10)).length + d = (r.takeWhile (· != 10)).length + d + 1 by omega, List.drop_succ_cons, ← List.drop_drop, drop_takeWhile, h4]
  · intro i c r e h1 h2 h3 k e' h
    rw [scanW_bad i h1 h2 h3] at h
    injection h with h
    injection h with ha hb
    subst ha hb
    exact ⟨0, rfl, by simp, ⟨fun _ => [], fun j => by rw [List.take_zero, scanW_nil]⟩, fun j => by rw [List.drop_zero, scanW_bad j h1 h2 h3]⟩
  · intro i c r t n h1 h2 h3 ih k e h
    have hi := tok_is h3
    rw [scanW_tok i h1 h2 h3] at h
    split at h
    · exact absurd h (by simp)
    · rename_i x hs
      injection h with h
      subst h
      obtain ⟨d, g1, g2, ⟨ts, g3⟩, g4⟩ := ih k e hs
      obtain ⟨m, rfl⟩ : ∃ m, n = m + 1 := ⟨n - 1, by have := hi.pos; omega⟩
      have hle := hi.le
      simp only [Nat.add_sub_cancel] at g2 g3 g4
      simp only [List.length_cons] at hle
      refine ⟨m + 1 + d, by omega, by simp at g2 ⊢; omega, ⟨fun j => { t with p := j } :: ts (j + (m + 1)), fun j => ?_⟩, fun j => ?_⟩
      · have hc := tok_cut (m := m + 1 + d) h3 (by omega)
        rw [show m + 1 + d = (m + d) + 1 by omega, List.take_succ_cons] at hc ⊢
        have h2' : ¬ (c = 47 ∧ (r.take (m + d)).head? = some 47) := fun hh => (tok_head h3).2 hh.1
        rw [scanW_tok j h1 h2' hc, Nat.add_sub_cancel, List.drop_take, show m + d - m = d by omega, g3]
      · rw [show m + 1 + d = m + d + 1 by omega, List.drop_succ_cons, ← List.drop_drop, g4]

theorem scan_name {s : List UInt8} (h : checkT ⟨1, s, 0, 0, 0⟩ = true ∨ checkT ⟨2, s, 0, 0, 0⟩ = true) :
    scanW 0 s = .ok [⟨if isWord s then 2 else 1, s, 0, 0, 0⟩] := by
  have ht : tokL (s ++ []) = .tok ⟨if isWord s then 2 else 1, s, 0, 0, 0⟩ s.length := by
    rcases h with h | h
    · have h' : isName s = true := by simpa [checkT] using h
      simp only [isName, Bool.and_eq_true, decide_eq_true_eq, Bool.not_eq_true'] at h'
      exact tok_word h'.1.2 h'.1.1.2 h'.1.1.1.2 (.inl rfl)
    · have h' : isWord s = true := by simpa [checkT] using h
      have hw := words_ok
      rw [List.all_eq_true] at hw
      have hw := hw s (by simpa [isWord] using h')
      simp only [Bool.and_eq_true, decide_eq_true_eq] at hw
      exact tok_word hw.1.1.1 hw.1.1.2 hw.1.2 (.inl rfl)
  rw [List.append_nil] at ht
  rw [scanW_one 0 ht, List.drop_length, scanW_nil]
  rfl

theorem scan_names {s : List UInt8} {t : Tok} (h : scanW 0 s = .ok [t]) (hs : t.s = s) (hp : t.p = 0) :
    t.k = 4 ∨ t.k = 1 ∧ checkT ⟨1, s, 0, 0, 0⟩ = true ∨ t.k = 2 ∧ checkT ⟨2, s, 0, 0, 0⟩ = true := by
  obtain ⟨d, h1, h2, h3, h4, h5, h6, h7, _⟩ := scan_right 0 s _ h
  unfold checkT at h3 ⊢
  rw [hs] at h3
  simp only [Bool.and_eq_true] at h3
  obtain ⟨_, h3⟩ := h3
  split at h3
  · rename_i hk; right; left; refine ⟨hk, ?_⟩; simp at h3 ⊢; exact h3.2
  · split at h3
    · rename_i hk; right; right; refine ⟨hk, ?_⟩; simp at h3 ⊢; exact h3.2
    · split at h3
      · rename_i hk; exact .inl hk
      · split at h3
        · rename_i hk
          have := (h7 hk).2
          rw [hs] at this
          subst this
          simp at h2
        · exact absurd h3 (by simp)

/-- a figure, great letters above 9 -/
def figU (d : Nat) : UInt8 := if d < 10 then UInt8.ofNat (48 + d) else UInt8.ofNat (55 + d)
/-- so many figures at least -/
def digU (b : Nat) (v : Nat) (n : Nat) : List UInt8 := if h : b < 2 ∨ (v = 0 ∧ n = 0) then [] else digU b (v / b) (n - 1) ++ [figU (v % b)]
termination_by v + n
decreasing_by
  rcases Nat.eq_zero_or_pos v with rfl | hv
  · simp; omega
  · have := Nat.div_lt_self hv (show 1 < b by omega); omega

theorem figU_digit : ∀ n, n < 16 → figV (figU n) = n ∧ isPart (figU n) = true ∧ (n < 10 → isDigit (figU n) = true) := by decide

theorem digU_spec (b : Nat) (hb : 2 ≤ b) (hb' : b ≤ 16) : ∀ k v n, v + n ≤ k → numV b (digU b v n) = v ∧ (digU b v n).all isPart = true ∧ allFig b (digU b v n) = true ∧ (b ≤ 10 → (digU b v n).all isDigit = true) ∧ ((v ≠ 0 ∨ n ≠ 0) → (digU b v n).isEmpty = false) := by
  intro k
  induction k with
  | zero =>
    intro v n h
    obtain ⟨rfl, rfl⟩ : v = 0 ∧ n = 0 := by omega
    rw [digU, dif_pos (by simp)]
    simp [numV, allFig]
  | succ k ih =>
    intro v n h
    by_cases h0 : v = 0 ∧ n = 0
    · obtain ⟨rfl, rfl⟩ := h0
      rw [digU, dif_pos (by simp)]
      simp [numV, allFig]
    · have hlt : v / b + (n - 1) ≤ k := by
        rcases Nat.eq_zero_or_pos v with rfl | hv
        · simp; omega
        · have := Nat.div_lt_self hv (show 1 < b by omega); omega
      obtain ⟨g1, g2, g3, g4, g5⟩ := ih (v / b) (n - 1) hlt
      have hm := Nat.mod_lt v (show 0 < b by omega)
      obtain ⟨f1, f2, f3⟩ := figU_digit (v % b) (by omega)
      rw [digU, dif_neg (by omega)]
      generalize figU (v % b) = c at *
      refine ⟨?_, ?_, ?_, ?_, ?_⟩
      · rw [numV_append, g1, f1]; have := Nat.div_add_mod v b; rw [Nat.mul_comm]; exact this
      · simp [g2, f2]
      · unfold allFig at *; simp only [List.all_append, g3, List.all_cons, List.all_nil, f1, hm]; rfl
      · intro h10; simp [g4 h10, f3 (by omega)]
      · intro _; simp

theorem scan_plain {v n : Nat} (hn : 1 ≤ n) (hv : v < two64) : scanW 0 (digU 10 v n) = .ok [⟨3, [], 0, v, 0⟩] := by
  obtain ⟨g1, g2, g3, g4, g5⟩ := digU_spec 10 (by decide) (by decide) _ v n (Nat.le_refl _)
  have : tokL (digU 10 v n ++ []) = .tok ⟨3, [], 0, v, 0⟩ (digU 10 v n).length := by
    rw [tok_fig (g4 (by decide)) (g5 (by omega)), figL_plain (g4 (by decide)) (.inl rfl), plainL, g1, if_pos hv]
  rw [List.append_nil] at this
  rw [scanW_one 0 this, List.drop_length, scanW_nil]
  rfl

theorem scan_wide {w v n b : Nat} {c : UInt8} (hc : baseL c = b) (hb : 2 ≤ b) (hb' : b ≤ 16) (hw : 1 ≤ w) (hw2 : w < two64) (hn : 1 ≤ n) (hv : v < two64) :
    scanW 0 (digU 10 w 1 ++ [39, c] ++ digU b v n) = if fitsV w v = true then .ok [⟨3, [], w, v, 0⟩] else .error (0, 22) := by
  obtain ⟨g1, g2, g3, g4, g5⟩ := digU_spec 10 (by decide) (by decide) _ w 1 (Nat.le_refl _)
  obtain ⟨k1, k2, k3, k4, k5⟩ := digU_spec b hb hb' _ v n (Nat.le_refl _)
  have hr := run_ends (r := []) k2 (.inl rfl)
  rw [List.append_nil] at hr
  have ht : tokL (digU 10 w 1 ++ [39, c] ++ digU b v n) = wideL (digU 10 w 1) (c :: digU b v n) := by
    rw [List.append_assoc, tok_fig (g4 (by decide)) (g5 (by omega))]
    simp only [List.cons_append, List.nil_append]
    rw [figL_wide (g4 (by decide))]
  have hw' : wideL (digU 10 w 1) (c :: digU b v n) = if fitsV w v = true then .tok ⟨3, [], w, v, 0⟩ (digU 10 w 1 ++ [39, c] ++ digU b v n).length else .bad 22 := by
    rw [wideL]
    simp only [hc, hr, k5 (by omega), k3, k1, g1, hw2, hv]
    rw [if_neg (by omega)]
    simp
    rw [show (digU 10 w 1).length + 2 + (digU b v n).length = (digU 10 w 1).length + ((digU b v n).length + 1 + 1) by omega]
  rw [hw'] at ht
  by_cases hf : fitsV w v = true
  · rw [if_pos hf] at ht ⊢
    rw [scanW_one 0 ht, List.drop_length, scanW_nil]
    rfl
  · rw [if_neg hf] at ht ⊢
    generalize hq : digU 10 w 1 ++ [39, c] ++ digU b v n = q at *
    match q, ht with
    | [], ht => simp at hq
    | x :: q, ht =>
      have hd : isDigit x = true := by
        have := g4 (by decide)
        cases hz : digU 10 w 1 with
        | nil => rw [hz] at g5; simp at g5
        | cons y z => rw [hz] at hq this; simp at hq this; rw [← hq.1]; exact this.1
      have := digit_not hd
      exact scanW_bad 0 this.2.1 (fun hh => this.2.2.1 hh.1) ht
end Go.Proofs.Scn
