/- Plain arithmetic of the layer bitv: masks, and what the operations of one and of two come to. No program in sight. -/
namespace Go.Proofs.Ytafhnkhcbfilaaa
set_option linter.unusedVariables false
set_option linter.unusedSimpArgs false

/-- 2 to the power w, less 1, within 64 bits. -/
def mask (w : Int) : Nat := if w ≤ 0 then 0 else if w < 64 then 2 ^ w.toNat - 1 else 18446744073709551615

theorem mask_lt (w : Int) : mask w < 18446744073709551616 := by
  unfold mask
  split
  · omega
  · split
    · have : 2 ^ w.toNat ≤ 2 ^ 64 := Nat.pow_le_pow_right (by omega) (by omega)
      omega
    · omega

/-- for widths of 1 to 64 -/
theorem mask_pow (k : Nat) (h0 : 0 < k) (h : k ≤ 64) : mask (k : Int) = 2 ^ k - 1 := by
  unfold mask
  rw [if_neg (by omega)]
  split
  · simp
  · obtain rfl : k = 64 := by omega
    rfl

theorem pow64 (k : Nat) (h : k ≤ 64) : 18446744073709551616 = 2 ^ k * 2 ^ (64 - k) := by
  rw [← Nat.pow_add, show k + (64 - k) = 64 by omega]

def mayB (w : Int) (v : Nat) : Bool := decide (0 < w ∧ w ≤ 64 ∧ v ≤ mask w)

theorem mayB_true {w : Int} {v : Nat} (h : mayB w v = true) : ∃ k : Nat, w = k ∧ 0 < k ∧ k ≤ 64 ∧ v < 2 ^ k ∧ mask w = 2 ^ k - 1 := by
  simp only [mayB, decide_eq_true_eq] at h
  obtain ⟨h0, h1, h2⟩ := h
  obtain ⟨k, rfl⟩ := Int.eq_ofNat_of_zero_le (Int.le_of_lt h0)
  have hm := mask_pow k (by omega) (by omega)
  have := Nat.two_pow_pos k
  exact ⟨k, rfl, by omega, by omega, by omega, hm⟩

theorem mayB_mk {k v : Nat} (h0 : 0 < k) (h : k ≤ 64) (hv : v < 2 ^ k) : mayB (k : Int) v = true := by
  have hm := mask_pow k h0 h
  simp only [mayB, decide_eq_true_eq]
  omega

/-- 1, if so -/
def bitN (b : Bool) : Nat := if b then 1 else 0
theorem bitN_lt (b : Bool) : bitN b < 18446744073709551616 := by cases b <;> decide

/-- a value of some bits, if it is wanted -/
def madeW (ok : Bool) (w : Int) : Int := if ok then w else 0
def madeV (ok : Bool) (w : Int) (v : Nat) : Nat := if ok then v &&& mask w else 0
def errE (ok : Bool) : Int := if ok then 0 else 1

theorem and_mask (k v : Nat) (h0 : 0 < k) (h : k ≤ 64) : v &&& mask (k : Int) = v % 2 ^ k := by
  rw [mask_pow k h0 h, Nat.and_two_pow_sub_one_eq_mod]

/-! ### ones -/
def ones : Nat → Nat → Nat
  | 0, _ => 0
  | n + 1, x => x % 2 + ones n (x / 2)

theorem and_split (k a b c d : Nat) (ha : a < 2 ^ k) (hc : c < 2 ^ k) : (a + 2 ^ k * b) &&& (c + 2 ^ k * d) = (a &&& c) + 2 ^ k * (b &&& d) := by
  have hac : a &&& c < 2 ^ k := Nat.and_lt_two_pow _ hc
  apply Nat.eq_of_testBit_eq
  intro i
  rw [Nat.testBit_and, Nat.add_comm a, Nat.add_comm c, Nat.add_comm (a &&& c), Nat.testBit_two_pow_mul_add _ ha, Nat.testBit_two_pow_mul_add _ hc, Nat.testBit_two_pow_mul_add _ hac]
  split <;> simp [Nat.testBit_and]

/-- all digits of a base, the lowest first -/
def ofD (B : Nat) : List Nat → Nat
  | [] => 0
  | d :: ds => d + B * ofD B ds

/-- pairs of digits -/
def ofP (B : Nat) : List (Nat × Nat) → Nat
  | [] => 0
  | p :: ps => p.1 + B * p.2 + B * B * ofP B ps

def msk (B : Nat) : Nat → Nat
  | 0 => 0
  | n + 1 => (B - 1) + B * B * msk B n

theorem ofP_and (k : Nat) (hk : 0 < k) : ∀ (ps : List (Nat × Nat)), (∀ p ∈ ps, p.1 < 2 ^ k ∧ p.2 < 2 ^ k) →
    ofP (2 ^ k) ps &&& msk (2 ^ k) ps.length = ofD (2 ^ k * 2 ^ k) (ps.map (·.1))
  | [], _ => by simp [ofP, msk, ofD]
  | p :: ps, h => by
    have ih := ofP_and k hk ps (fun q hq => h q (List.mem_cons_of_mem _ hq))
    have hp := h p (List.mem_cons_self ..)
    have hB : 2 ^ k * 2 ^ k = 2 ^ (k + k) := by rw [Nat.pow_add]
    have h1 := Nat.two_pow_pos k
    have hlt : p.1 + 2 ^ k * p.2 < 2 ^ (k + k) := by
      rw [← hB]
      have : 2 ^ k * (p.2 + 1) ≤ 2 ^ k * 2 ^ k := Nat.mul_le_mul_left _ (by omega)
      rw [Nat.mul_add] at this
      omega
    have hlt2 : 2 ^ k - 1 < 2 ^ (k + k) := by
      have : 2 ^ k ≤ 2 ^ (k + k) := Nat.pow_le_pow_right (by omega) (by omega)
      omega
    simp only [ofP, List.length_cons, msk, List.map_cons, ofD]
    rw [hB, and_split (k + k) _ _ _ _ hlt hlt2, ← hB, ih, Nat.and_two_pow_sub_one_eq_mod, Nat.add_mul_mod_self_left, Nat.mod_eq_of_lt hp.1]

theorem ofP_and' (k : Nat) (hk : 0 < k) : ∀ (ps : List (Nat × Nat)), (∀ p ∈ ps, p.1 < 2 ^ k ∧ p.2 < 2 ^ k) →
    (ofP (2 ^ k) ps / 2 ^ k) &&& msk (2 ^ k) ps.length = ofD (2 ^ k * 2 ^ k) (ps.map (·.2))
  | [], _ => by simp [ofP, msk, ofD]
  | p :: ps, h => by
    have ih := ofP_and' k hk ps (fun q hq => h q (List.mem_cons_of_mem _ hq))
    have hp := h p (List.mem_cons_self ..)
    have hB : 2 ^ k * 2 ^ k = 2 ^ (k + k) := by rw [Nat.pow_add]
    have h1 := Nat.two_pow_pos k
    have hr : ofP (2 ^ k) ps % 2 ^ k < 2 ^ k := Nat.mod_lt _ h1
    have hlt : p.2 + 2 ^ k * (ofP (2 ^ k) ps % 2 ^ k) < 2 ^ (k + k) := by
      rw [← hB]
      have : 2 ^ k * (ofP (2 ^ k) ps % 2 ^ k + 1) ≤ 2 ^ k * 2 ^ k := Nat.mul_le_mul_left _ (by omega)
      rw [Nat.mul_add] at this
      omega
    have hlt2 : 2 ^ k - 1 < 2 ^ (k + k) := by
      have : 2 ^ k ≤ 2 ^ (k + k) := Nat.pow_le_pow_right (by omega) (by omega)
      omega
    have e : (p.1 + 2 ^ k * p.2 + 2 ^ k * 2 ^ k * ofP (2 ^ k) ps) / 2 ^ k = (p.2 + 2 ^ k * (ofP (2 ^ k) ps % 2 ^ k)) + 2 ^ (k + k) * (ofP (2 ^ k) ps / 2 ^ k) := by
      rw [show p.1 + 2 ^ k * p.2 + 2 ^ k * 2 ^ k * ofP (2 ^ k) ps = p.1 + 2 ^ k * (p.2 + 2 ^ k * ofP (2 ^ k) ps) by rw [Nat.mul_add, Nat.mul_assoc, Nat.add_assoc],
        Nat.add_mul_div_left _ _ h1, Nat.div_eq_of_lt hp.1, Nat.zero_add, Nat.add_assoc, ← hB, Nat.mul_assoc, ← Nat.mul_add, Nat.mod_add_div]
    simp only [ofP, List.length_cons, msk, List.map_cons, ofD]
    rw [e, hB, and_split (k + k) _ _ _ _ hlt hlt2, ← hB, ih, Nat.and_two_pow_sub_one_eq_mod, Nat.add_mul_mod_self_left, Nat.mod_eq_of_lt hp.2]

theorem ofD_add (B : Nat) : ∀ (ps : List (Nat × Nat)), ofD B (ps.map (·.2)) + ofD B (ps.map (·.1)) = ofD B (ps.map fun p => p.1 + p.2)
  | [] => rfl
  | p :: ps => by
    have ih := ofD_add B ps
    simp only [List.map_cons, ofD]
    rw [← ih, Nat.mul_add]
    omega

/-- the digits in pairs -/
def paired : List Nat → List (Nat × Nat)
  | a :: b :: l => (a, b) :: paired l
  | _ => []

theorem ofP_paired (B : Nat) : ∀ (n : Nat) (l : List Nat), l.length = 2 * n → ofP B (paired l) = ofD B l
  | 0, l, h => by
    obtain rfl := List.eq_nil_of_length_eq_zero (by omega : l.length = 0)
    rfl
  | n + 1, l, h => by
    match l, h with
    | a :: b :: l, h =>
      have ih := ofP_paired B n l (by simp at h; omega)
      simp only [paired, ofP, ofD, ih, Nat.mul_add, Nat.mul_assoc]
      omega

theorem paired_length : ∀ (n : Nat) (l : List Nat), l.length = 2 * n → (paired l).length = n
  | 0, l, h => by
    obtain rfl := List.eq_nil_of_length_eq_zero (by omega : l.length = 0)
    rfl
  | n + 1, l, h => by
    match l, h with
    | a :: b :: l, h =>
      have ih := paired_length n l (by simp at h; omega)
      simp [paired, ih]

theorem paired_mem : ∀ (l : List Nat) (p : Nat × Nat), p ∈ paired l → p.1 ∈ l ∧ p.2 ∈ l
  | [], p, h => by simp [paired] at h
  | [a], p, h => by simp [paired] at h
  | a :: b :: l, p, h => by
    simp only [paired, List.mem_cons] at h
    rcases h with rfl | h
    · simp
    · have := paired_mem l p h
      simp [this.1, this.2]

/-- the sums of the pairs -/
def sums (l : List Nat) : List Nat := (paired l).map fun p => p.1 + p.2

theorem sums_length (n : Nat) (l : List Nat) (h : l.length = 2 * n) : (sums l).length = n := by simp [sums, paired_length n l h]

theorem sums_le (m : Nat) (l : List Nat) (h : ∀ d ∈ l, d ≤ m) : ∀ d ∈ sums l, d ≤ 2 * m := by
  intro d hd
  simp only [sums, List.mem_map] at hd
  obtain ⟨p, hp, rfl⟩ := hd
  have := paired_mem l p hp
  have h1 := h _ this.1
  have h2 := h _ this.2
  omega

theorem sum_sums : ∀ (n : Nat) (l : List Nat), l.length = 2 * n → (sums l).sum = l.sum
  | 0, l, h => by
    obtain rfl := List.eq_nil_of_length_eq_zero (by omega : l.length = 0)
    rfl
  | n + 1, l, h => by
    match l, h with
    | a :: b :: l, h =>
      have ih := sum_sums n l (by simp at h; omega)
      simp only [sums, paired, List.map_cons, List.sum_cons] at ih ⊢
      rw [ih]; omega

theorem step_sum (k n m : Nat) (hk : 0 < k) (l : List Nat) (hl : l.length = 2 * n) (hm : ∀ d ∈ l, d ≤ m) (hmk : m < 2 ^ k) :
    ((ofD (2 ^ k) l / 2 ^ k) &&& msk (2 ^ k) n) + (ofD (2 ^ k) l &&& msk (2 ^ k) n) = ofD (2 ^ k * 2 ^ k) (sums l) := by
  have hp : ∀ p ∈ paired l, p.1 < 2 ^ k ∧ p.2 < 2 ^ k := fun p hp => by
    have := paired_mem l p hp
    have h1 := hm _ this.1
    have h2 := hm _ this.2
    omega
  have hlen := paired_length n l hl
  have a := ofP_and k hk (paired l) hp
  have b := ofP_and' k hk (paired l) hp
  rw [hlen, ofP_paired _ n l hl] at a b
  rw [a, b, ofD_add]
  rfl

/-- the bits, the lowest first -/
def bitsOf : Nat → Nat → List Nat
  | 0, _ => []
  | n + 1, x => x % 2 :: bitsOf n (x / 2)

theorem bitsOf_length : ∀ n x, (bitsOf n x).length = n
  | 0, _ => rfl
  | n + 1, x => by simp [bitsOf, bitsOf_length n]

theorem bitsOf_le : ∀ n x, ∀ d ∈ bitsOf n x, d ≤ 1
  | 0, _, d, h => by simp [bitsOf] at h
  | n + 1, x, d, h => by
    simp only [bitsOf, List.mem_cons] at h
    rcases h with rfl | h
    · omega
    · exact bitsOf_le n _ d h

theorem ofD_bitsOf : ∀ n x, x < 2 ^ n → ofD 2 (bitsOf n x) = x
  | 0, x, h => by simp [bitsOf, ofD]; omega
  | n + 1, x, h => by
    rw [Nat.pow_succ] at h
    simp only [bitsOf, ofD]
    rw [ofD_bitsOf n (x / 2) (by omega)]
    omega

theorem sum_bitsOf : ∀ n x, (bitsOf n x).sum = ones n x
  | 0, _ => rfl
  | n + 1, x => by simp [bitsOf, ones, sum_bitsOf n]

theorem ofD_nibbles (l : List Nat) (n : Nat) (hl : l.length = 2 * n) (hm : ∀ d ∈ l, d ≤ 4) :
    (ofD 16 l / 16 + ofD 16 l) &&& msk 16 n = ofD 256 (sums l) := by
  have key : ∀ (n : Nat) (l : List Nat), l.length = 2 * n → (∀ d ∈ l, d ≤ 4) → (ofD 16 l / 16 + ofD 16 l) &&& msk 16 n = ofD 256 (sums l) := by
    intro n
    induction n with
    | zero =>
      intro l hl _
      obtain rfl := List.eq_nil_of_length_eq_zero (by omega : l.length = 0)
      rfl
    | succ n ih =>
      intro l hl hm
      match l, hl with
      | a :: b :: l, hl =>
        have ih := ih l (by simp at hl; omega) (fun d hd => hm d (by simp [hd]))
        have ha := hm a (by simp)
        have hb := hm b (by simp)
        simp only [sums, paired, List.map_cons, ofD, msk] at ih ⊢
        rw [← ih]
        have hc : ∃ c, c ≤ 4 ∧ ofD 16 l % 16 = c := by
          cases l with
          | nil => exact ⟨0, by omega, rfl⟩
          | cons c l =>
            have := hm c (by simp)
            exact ⟨c, this, by simp only [ofD]; omega⟩
        obtain ⟨c, hc, hcm⟩ := hc
        generalize ofD 16 l = x at hcm ⊢
        have e : (a + 16 * (b + 16 * x)) / 16 + (a + 16 * (b + 16 * x)) = ((a + b) + 16 * (b + c)) + 2 ^ 8 * (x / 16 + x) := by omega
        have e2 : 16 - 1 + 16 * 16 * msk 16 n = 15 + 2 ^ 8 * msk 16 n := by omega
        rw [e, e2, and_split 8 _ _ _ _ (by omega) (by omega), show (15 : Nat) = 2 ^ 4 - 1 from rfl, Nat.and_two_pow_sub_one_eq_mod]
        omega
  exact key n l hl hm

/-- what the seven steps of OnesCount64 come to -/
def swar (x : Nat) : Nat :=
  let a := ((x / 2) &&& 6148914691236517205) + (x &&& 6148914691236517205)
  let b := ((a / 4) &&& 3689348814741910323) + (a &&& 3689348814741910323)
  let c := (b / 16 + b) &&& 1085102592571150095
  let d := c + c / 256
  let e := d + d / 65536
  let f := e + e / 4294967296
  f &&& 127

theorem s8a (x0 x1 x2 Y1 Y2 Y3 : Nat) (h1 : Y1 = x1 + 256 * Y2) (h2 : Y2 = x2 + 256 * Y3) : x0 + 256 * Y1 + Y1 = ((x0 + x1) + 256 * (x1 + x2)) + 65536 * (Y2 + Y3) := by omega
theorem s8b (x0 x1 x2 x3 x4 x5 x6 Y2 Y3 Y4 Y5 Y6 Y7 d : Nat) (hd : d = ((x0 + x1) + 256 * (x1 + x2)) + 65536 * (Y2 + Y3)) (h2 : Y2 = x2 + 256 * Y3) (h3 : Y3 = x3 + 256 * Y4) (h4 : Y4 = x4 + 256 * Y5) (h5 : Y5 = x5 + 256 * Y6) (h6 : Y6 = x6 + 256 * Y7) :
    d + (Y2 + Y3) = ((x0 + x1 + x2 + x3) + 256 * ((x1 + x2 + x3 + x4) + 256 * ((x2 + x3 + x4 + x5) + 256 * (x3 + x4 + x5 + x6)))) + 4294967296 * (Y4 + Y5 + Y6 + Y7) := by omega
theorem s8c (x4 x5 x6 x7 Y4 Y5 Y6 Y7 : Nat) (h4 : Y4 = x4 + 256 * Y5) (h5 : Y5 = x5 + 256 * Y6) (h6 : Y6 = x6 + 256 * Y7) (h7 : Y7 = x7) : Y4 + Y5 + Y6 + Y7 = (x4 + x5 + x6 + x7) + 256 * (Y5 + Y6 + Y7) := by omega
theorem s8d (s t m n q : Nat) (hs : s + t ≤ 64) : (s + 256 * m + 4294967296 * n + (t + 256 * q)) % 2 ^ 7 = s + t := by
  rw [show s + 256 * m + 4294967296 * n + (t + 256 * q) = (s + t) + 2 ^ 7 * (2 * m + 33554432 * n + 2 * q) by omega, Nat.add_mul_mod_self_left, Nat.mod_eq_of_lt (by omega)]
theorem s8e (a b : Nat) (n : Nat) (h : a < n) : (a + n * b) / n = b := by
  rw [Nat.add_mul_div_left _ _ (by omega), Nat.div_eq_of_lt h, Nat.zero_add]
theorem s8f (a b c d : Nat) (ha : a ≤ 32) (hb : b ≤ 32) (hc : c ≤ 32) (hd : d ≤ 32) : a + 256 * (b + 256 * (c + 256 * d)) < 4294967296 := by omega

theorem sum8 (x0 x1 x2 x3 x4 x5 x6 x7 Y1 Y2 Y3 Y4 Y5 Y6 Y7 c d e : Nat) (c0 : x0 ≤ 8) (c1 : x1 ≤ 8) (c2 : x2 ≤ 8) (c3 : x3 ≤ 8) (c4 : x4 ≤ 8) (c5 : x5 ≤ 8) (c6 : x6 ≤ 8) (c7 : x7 ≤ 8)
    (hc : c = x0 + 256 * Y1) (h1 : Y1 = x1 + 256 * Y2) (h2 : Y2 = x2 + 256 * Y3) (h3 : Y3 = x3 + 256 * Y4) (h4 : Y4 = x4 + 256 * Y5) (h5 : Y5 = x5 + 256 * Y6) (h6 : Y6 = x6 + 256 * Y7) (h7 : Y7 = x7)
    (hd : d = c + c / 256) (he : e = d + d / 65536) :
    (e + e / 4294967296) % 2 ^ 7 = x0 + x1 + x2 + x3 + (x4 + x5 + x6 + x7) := by
  have g1 : x0 < 256 := Nat.lt_of_le_of_lt c0 (by decide)
  have g2 : (x0 + x1) + 256 * (x1 + x2) < 65536 := by clear hc h1 h2 h3 h4 h5 h6 h7 hd he; omega
  have g3 : x0 + x1 + x2 + x3 ≤ 32 := by clear hc h1 h2 h3 h4 h5 h6 h7 hd he; omega
  have g4 : x1 + x2 + x3 + x4 ≤ 32 := by clear hc h1 h2 h3 h4 h5 h6 h7 hd he; omega
  have g5 : x2 + x3 + x4 + x5 ≤ 32 := by clear hc h1 h2 h3 h4 h5 h6 h7 hd he; omega
  have g6 : x3 + x4 + x5 + x6 ≤ 32 := by clear hc h1 h2 h3 h4 h5 h6 h7 hd he; omega
  have g7 : x0 + x1 + x2 + x3 + (x4 + x5 + x6 + x7) ≤ 64 := by clear hc h1 h2 h3 h4 h5 h6 h7 hd he; omega
  have g8 := s8f _ _ _ _ g3 g4 g5 g6
  rw [hc, s8e _ _ _ g1, s8a x0 x1 x2 Y1 Y2 Y3 h1 h2] at hd
  have e3 : d / 65536 = Y2 + Y3 := by rw [hd, s8e _ _ _ g2]
  rw [e3, s8b x0 x1 x2 x3 x4 x5 x6 Y2 Y3 Y4 Y5 Y6 Y7 d hd h2 h3 h4 h5 h6] at he
  have e5 : e / 4294967296 = Y4 + Y5 + Y6 + Y7 := by rw [he, s8e _ _ _ g8]
  rw [e5, he, s8c x4 x5 x6 x7 Y4 Y5 Y6 Y7 h4 h5 h6 h7]
  exact s8d _ _ _ _ _ g7

theorem swar_ones (x : Nat) (hx : x < 18446744073709551616) : swar x = ones 64 x := by
  have m1 : (6148914691236517205 : Nat) = msk (2 ^ 1) 32 := by decide
  have m2 : (3689348814741910323 : Nat) = msk (2 ^ 2) 16 := by decide
  have m3 : (1085102592571150095 : Nat) = msk 16 8 := by decide
  have h0 := ofD_bitsOf 64 x hx
  have l0 := bitsOf_length 64 x
  have s1 := step_sum 1 32 1 (by omega) (bitsOf 64 x) (by omega) (bitsOf_le 64 x) (by omega)
  have l1 := sums_length 32 (bitsOf 64 x) (by omega)
  have b1 := sums_le 1 (bitsOf 64 x) (bitsOf_le 64 x)
  have t1 := sum_sums 32 (bitsOf 64 x) (by omega)
  generalize hL1 : sums (bitsOf 64 x) = L1 at *
  have s2 := step_sum 2 16 2 (by omega) L1 (by omega) b1 (by omega)
  have l2 := sums_length 16 L1 (by omega)
  have b2 := sums_le 2 L1 b1
  have t2 := sum_sums 16 L1 (by omega)
  generalize hL2 : sums L1 = L2 at *
  have s3 := ofD_nibbles L2 8 (by omega) b2
  have l3 := sums_length 8 L2 (by omega)
  have b3 := sums_le 4 L2 b2
  have t3 := sum_sums 8 L2 (by omega)
  generalize hL3 : sums L2 = L3 at *
  rw [sum_bitsOf] at t1
  simp only [Nat.pow_one, show (2 : Nat) ^ 2 = 4 from rfl, show (2 : Nat) * 2 = 4 from rfl, show (4 : Nat) * 4 = 16 from rfl] at s1 s2 m1 m2
  rw [h0] at s1
  unfold swar
  dsimp only
  rw [m1, m2, m3, s1, s2, s3, show (127 : Nat) = 2 ^ 7 - 1 from rfl, Nat.and_two_pow_sub_one_eq_mod]
  match L3, l3 with
  | [x0, x1, x2, x3, x4, x5, x6, x7], _ =>
    have c0 := b3 x0 (by simp); have c1 := b3 x1 (by simp); have c2 := b3 x2 (by simp); have c3 := b3 x3 (by simp)
    have c4 := b3 x4 (by simp); have c5 := b3 x5 (by simp); have c6 := b3 x6 (by simp); have c7 := b3 x7 (by simp)
    have tt := sum8 x0 x1 x2 x3 x4 x5 x6 x7 _ _ _ _ _ _ _ _ _ _ c0 c1 c2 c3 c4 c5 c6 c7 rfl rfl rfl rfl rfl rfl rfl rfl rfl rfl
    simp only [List.sum_cons, List.sum_nil, Nat.add_zero] at t3
    simp only [ofD, Nat.mul_zero, Nat.add_zero]
    rw [tt, ← t1, ← t2, ← t3]
    simp only [Nat.add_assoc]

end Go.Proofs.Ytafhnkhcbfilaaa
