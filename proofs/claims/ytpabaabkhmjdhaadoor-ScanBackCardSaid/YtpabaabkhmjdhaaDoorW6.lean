/- A number with a width, figures: scan. -/
import Derived.Test.YtpabaabkhmjdhaaDoorW5
namespace Go.Proofs.YtpabaabkhmjdhaaDoor
open Go.RowKit Go.Proofs.Scn
set_option linter.unusedVariables false
set_option linter.unusedSimpArgs false
set_option maxRecDepth 100000

/-- a box of five cells that can be read and written -/
structure Box5 (w : World) (n : Nat) (a b c d e : Value) : Prop where
  c0 : w.cell? ⟨n, 0, none⟩ = some a
  c1 : w.cell? ⟨n, 1, none⟩ = some b
  c2 : w.cell? ⟨n, 2, none⟩ = some c
  c3 : w.cell? ⟨n, 3, none⟩ = some d
  c4 : w.cell? ⟨n, 4, none⟩ = some e
  f0 : w.frozen? ⟨n, 0, none⟩ = false
  f1 : w.frozen? ⟨n, 1, none⟩ = false
  f2 : w.frozen? ⟨n, 2, none⟩ = false
  f3 : w.frozen? ⟨n, 3, none⟩ = false
  f4 : w.frozen? ⟨n, 4, none⟩ = false
  lt : n < w.heap.size

theorem Box5.new (w : World) (a b c d e : Value) (t : TypeId) : Box5 (w.alloc (.cells #[a, b, c, d, e] t)) w.heap.size a b c d e :=
  ⟨by simp [World.cell?_alloc_new], by simp [World.cell?_alloc_new], by simp [World.cell?_alloc_new], by simp [World.cell?_alloc_new], by simp [World.cell?_alloc_new], by simp [go_sem], by simp [go_sem], by simp [go_sem], by simp [go_sem], by simp [go_sem], by simp⟩
theorem Box5.later {w w' : World} {n : Nat} {a b c d e : Value} (h : Box5 w n a b c d e) (hb : Below w.heap.size w w') : Box5 w' n a b c d e :=
  ⟨(hb.cell (p := ⟨n, 0, none⟩) h.lt).trans h.c0, (hb.cell (p := ⟨n, 1, none⟩) h.lt).trans h.c1, (hb.cell (p := ⟨n, 2, none⟩) h.lt).trans h.c2, (hb.cell (p := ⟨n, 3, none⟩) h.lt).trans h.c3, (hb.cell (p := ⟨n, 4, none⟩) h.lt).trans h.c4,
    (hb.frozen (p := ⟨n, 0, none⟩) h.lt).trans h.f0, (hb.frozen (p := ⟨n, 1, none⟩) h.lt).trans h.f1, (hb.frozen (p := ⟨n, 2, none⟩) h.lt).trans h.f2, (hb.frozen (p := ⟨n, 3, none⟩) h.lt).trans h.f3, (hb.frozen (p := ⟨n, 4, none⟩) h.lt).trans h.f4, Nat.lt_of_lt_of_le h.lt hb.size⟩

def tokVal (t : Tok) : Value := .agg #[.int .i64 t.k, .string (bs t.s), .int .i64 t.w, .int .u64 t.v, .int .i64 t.p]
def zeroTok : Tok := ⟨0, [], 0, 0, 0⟩
/-- what reading a token gives: it, how long it is, or an error -/
def gotEnd : Got → Ending
  | .tok t n => .returned (.tuple #[tokVal t, .int .i64 n, .int .i64 0])
  | .bad e => .returned (.tuple #[tokVal zeroTok, .int .i64 0, .int .i64 e])
theorem gotEnd_bad {g : Got} {e : Int} (h : g = .bad e) : gotEnd g = .returned (.tuple #[.agg #[.int .i64 0, .string ⟨#[]⟩, .int .i64 0, .int .u64 0, .int .i64 0], .int .i64 0, .int .i64 e]) := by rw [h]; rfl
theorem gotEnd_tok {g : Got} {k w p n : Int} {s : ByteArray} {v : Nat} {t : Tok} {m : Nat} (h : g = .tok t m) (h1 : t.k = k) (h2 : bs t.s = s) (h3 : t.w = w) (h4 : t.v = v) (h5 : t.p = p) (h6 : (m : Int) = n) :
    gotEnd g = .returned (.tuple #[.agg #[.int .i64 k, .string s, .int .i64 w, .int .u64 v, .int .i64 p], .int .i64 n, .int .i64 0]) := by rw [h, gotEnd, tokVal, h1, h2, h3, h4, h5, h6]

/-- the text behind the stroke: none -/
theorem ext2 (s : ByteArray) (c c' : UInt8) (r : List UInt8) (h : s.data.toList = c' :: c :: r) : (s.extract 2 s.size).data.toList = r ∧ 1 < s.size ∧ ∃ h1 : 1 < s.size, s[1] = c := by
  have hsz : s.size = r.length + 2 := by rw [size_list, h]; simp
  refine ⟨?_, by omega, by omega, ?_⟩
  · rw [extract_bs, list_bs, h, hsz]; simp
  · have : s[1]'(by omega) = s.data.toList[1]'(by show 1 < s.size; omega) := rfl
    rw [this]
    simp [h]

set_option maxHeartbeats 1000000 in
theorem wide_none (width s : ByteArray) (hs : s.size ≤ 1) (W : World) (d : List UInt8) :
    Calls Tryd.prog 66 #[.string width, .string s] W fun e W' => e = gotEnd (wideL d []) ∧ Below W.heap.size W W' := by
  have hd : ¬ (1 : Int) < (s.size : Int) := by omega
  rw [gotEnd_bad (show wideL d [] = .bad 21 from rfl)]
  go_enter Tryd.func66, Tryd.ntmps66
  go_wp2
  refine bodyPost_ret (v := .tuple #[.agg #[.int .i64 0, .string ⟨#[]⟩, .int .i64 0, .int .u64 0, .int .i64 0], .int .i64 0, .int .i64 21]) ?_ rfl ⟨rfl, (Below.refl _ _).alloc (Nat.le_refl _) _⟩
  simp [results, Tryd.results66, go_sem]

theorem nat_ne {c : UInt8} {n : Nat} (k : UInt8) (hk : k.toNat = n) (h : c ≠ k) : ((c.toNat : Int) == (n : Int)) = false := by
  rw [beq_eq_false_iff_ne]
  intro e
  exact h (by rw [← UInt8.toNat_inj, hk]; omega)

set_option maxHeartbeats 1000000 in
theorem wide_base (width s : ByteArray) (c : UInt8) (r d : List UInt8) (h : s.data.toList = 39 :: c :: r) (hb : baseL c = 0) (W : World) :
    Calls Tryd.prog 66 #[.string width, .string s] W fun e W' => e = gotEnd (wideL d (c :: r)) ∧ Below W.heap.size W W' := by
  obtain ⟨_, _, h1, h2⟩ := ext2 s c 39 r h
  have n1 : c ≠ 104 := by rintro rfl; cases hb
  have n2 : c ≠ 100 := by rintro rfl; cases hb
  have n3 : c ≠ 98 := by rintro rfl; cases hb
  have d1 := nat_ne 104 rfl n1
  have d2 := nat_ne 100 rfl n2
  have d3 := nat_ne 98 rfl n3
  rw [← h2] at d1 d2 d3
  have q1 : ((s[1].toNat : Int) == 104) = false := d1
  have q2 : ((s[1].toNat : Int) == 100) = false := d2
  have q3 : ((s[1].toNat : Int) == 98) = false := d3
  have hl : (1 : Int) < (s.size : Int) := by omega
  rw [gotEnd_bad (show wideL d (c :: r) = .bad 21 by rw [wideL, if_pos hb])]
  clear d1 d2 d3 n1 n2 n3 h2 hb h
  go_enter Tryd.func66, Tryd.ntmps66
  go_wp2
  refine bodyPost_ret (v := .tuple #[.agg #[.int .i64 0, .string ⟨#[]⟩, .int .i64 0, .int .u64 0, .int .i64 0], .int .i64 0, .int .i64 21]) ?_ rfl ⟨rfl, (Below.refl _ _).alloc (Nat.le_refl _) _⟩
  simp [results, Tryd.results66, go_sem]

/-- a base's letter is there -/
def BaseAt (s : ByteArray) (b : Nat) : Prop := ∃ h : 1 < s.size, s[1] = 104 ∧ b = 16 ∨ ∃ h : 1 < s.size, s[1] = 100 ∧ b = 10 ∨ ∃ h : 1 < s.size, s[1] = 98 ∧ b = 2

theorem base_at {s : ByteArray} {c : UInt8} {r : List UInt8} (h : s.data.toList = 39 :: c :: r) (hb : baseL c ≠ 0) : ∃ h1 : 1 < s.size, s[1] = 104 ∧ baseL c = 16 ∨ s[1] = 100 ∧ baseL c = 10 ∨ s[1] = 98 ∧ baseL c = 2 := by
  obtain ⟨_, _, h1, h2⟩ := ext2 s c 39 r h
  refine ⟨h1, ?_⟩
  rw [h2]
  unfold baseL at hb ⊢
  split
  · rename_i e; exact .inl ⟨e, rfl⟩
  · split
    · rename_i e; exact .inr (.inl ⟨e, rfl⟩)
    · split
      · rename_i e; exact .inr (.inr ⟨e, rfl⟩)
      · rename_i n1 n2 n3; rw [if_neg n1, if_neg n2, if_neg n3] at hb; exact absurd rfl hb

set_option maxHeartbeats 2000000 in
theorem wide_e16 (width s : ByteArray) (T : List UInt8) (v : Nat) (sm : Bool) (er : Int) (kt : ∀ W, Calls Tryd.prog 67 #[.string (bs T), .int .u64 16] W fun e W' => e = .returned (.tuple #[.int .u64 v, .bool sm, .int .i64 er]) ∧ Below W.heap.size W W') (her : er ≠ 0) (h1 : 1 < s.size) (hc : s[1] = 104) (W : World)
    (kr : ∀ W, Calls Tryd.prog 50 #[.string (s.extract 2 s.size)] W fun e W' => e = .returned (.string (bs T)) ∧ W = W') :
    Calls Tryd.prog 66 #[.string width, .string s] W fun e W' => e = .returned (.tuple #[.agg #[.int .i64 0, .string ⟨#[]⟩, .int .i64 0, .int .u64 0, .int .i64 0], .int .i64 0, .int .i64 er]) ∧ Below W.heap.size W W' := by
  have q104 : ((s[1].toNat : Int) == 104) = true := by rw [hc]; rfl
  have hl : (1 : Int) < (s.size : Int) := by omega
  have KR := Lib.hid kr
  clear kr hc
  have hne : (er != 0) = true := by simpa using her
  clear her
  have KT := Lib.hid kt
  clear kt
  go_enter Tryd.func66, Tryd.ntmps66
  go_wp2_with fail
  refine (KR.out _).mono ?_
  rintro e w' ⟨rfl, rfl⟩
  go_wp2_with fail
  have B := Box5.new W (.int .i64 0) (.string ⟨#[]⟩) (.int .i64 0) (.int .u64 0) (.int .i64 0) 32
  have hW : Below W.heap.size W (W.alloc (.cells #[.int .i64 0, .string ⟨#[]⟩, .int .i64 0, .int .u64 0, .int .i64 0] 32)) := (Below.refl _ _).alloc (Nat.le_refl _) _
  refine (KT.out _).mono ?_
  rintro e W1 ⟨rfl, hb1⟩
  replace B := B.later hb1
  replace hW := hW.trans (hb1.mono hW.size)
  clear hb1
  obtain ⟨c0, c1, c2, c3, c4, f0, f1, f2, f3, f4, lt⟩ := B
  have HW := Lib.hid hW
  clear hW
  go_wp2
  refine bodyPost_ret (v := .tuple #[.agg #[.int .i64 0, .string ⟨#[]⟩, .int .i64 0, .int .u64 0, .int .i64 0], .int .i64 0, .int .i64 er]) ?_ rfl ⟨rfl, (((((HW.out.setCell (Nat.le_refl _) _).setCell (Nat.le_refl _) _).setCell (Nat.le_refl _) _).setCell (Nat.le_refl _) _).setCell (Nat.le_refl _) _)⟩
  simp [results, Tryd.results66, go_sem, c0, c1, c2, c3, c4, f0, f1, f2, f3, f4]

set_option maxHeartbeats 2000000 in
theorem wide_few16 (width s : ByteArray) (T : List UInt8) (v : Nat) (sm : Bool) (kt : ∀ W, Calls Tryd.prog 67 #[.string (bs T), .int .u64 16] W fun e W' => e = .returned (.tuple #[.int .u64 v, .bool sm, .int .i64 0]) ∧ Below W.heap.size W W') (w : Nat) (kd : ∀ W, Calls Tryd.prog 67 #[.string width, .int .u64 10] W fun e W' => e = .returned (.tuple #[.int .u64 w, .bool false, .int .i64 0]) ∧ Below W.heap.size W W') (h1 : 1 < s.size) (hc : s[1] = 104) (W : World)
    (kr : ∀ W, Calls Tryd.prog 50 #[.string (s.extract 2 s.size)] W fun e W' => e = .returned (.string (bs T)) ∧ W = W') :
    Calls Tryd.prog 66 #[.string width, .string s] W fun e W' => e = .returned (.tuple #[.agg #[.int .i64 0, .string ⟨#[]⟩, .int .i64 0, .int .u64 0, .int .i64 0], .int .i64 0, .int .i64 22]) ∧ Below W.heap.size W W' := by
  have q104 : ((s[1].toNat : Int) == 104) = true := by rw [hc]; rfl
  have hl : (1 : Int) < (s.size : Int) := by omega
  have KR := Lib.hid kr
  clear kr hc
  have KT := Lib.hid kt
  clear kt
  go_enter Tryd.func66, Tryd.ntmps66
  go_wp2_with fail
  refine (KR.out _).mono ?_
  rintro e w' ⟨rfl, rfl⟩
  go_wp2_with fail
  have B := Box5.new W (.int .i64 0) (.string ⟨#[]⟩) (.int .i64 0) (.int .u64 0) (.int .i64 0) 32
  have hW : Below W.heap.size W (W.alloc (.cells #[.int .i64 0, .string ⟨#[]⟩, .int .i64 0, .int .u64 0, .int .i64 0] 32)) := (Below.refl _ _).alloc (Nat.le_refl _) _
  refine (KT.out _).mono ?_
  rintro e W1 ⟨rfl, hb1⟩
  replace B := B.later hb1
  replace hW := hW.trans (hb1.mono hW.size)
  clear hb1
  have KD := Lib.hid kd
  clear kd
  go_wp2_with fail
  refine (KD.out _).mono ?_
  rintro e W2 ⟨rfl, hb2⟩
  replace B := B.later hb2
  replace hW := hW.trans (hb2.mono hW.size)
  clear hb2
  obtain ⟨c0, c1, c2, c3, c4, f0, f1, f2, f3, f4, lt⟩ := B
  have HW := Lib.hid hW
  clear hW
  go_wp2
  refine bodyPost_ret (v := .tuple #[.agg #[.int .i64 0, .string ⟨#[]⟩, .int .i64 0, .int .u64 0, .int .i64 0], .int .i64 0, .int .i64 22]) ?_ rfl ⟨rfl, (((((HW.out.setCell (Nat.le_refl _) _).setCell (Nat.le_refl _) _).setCell (Nat.le_refl _) _).setCell (Nat.le_refl _) _).setCell (Nat.le_refl _) _)⟩
  simp [results, Tryd.results66, go_sem, c0, c1, c2, c3, c4, f0, f1, f2, f3, f4]

set_option maxHeartbeats 2000000 in
theorem wide_w16 (width s : ByteArray) (T : List UInt8) (v : Nat) (sm : Bool) (kt : ∀ W, Calls Tryd.prog 67 #[.string (bs T), .int .u64 16] W fun e W' => e = .returned (.tuple #[.int .u64 v, .bool sm, .int .i64 0]) ∧ Below W.heap.size W W') (w : Nat) (kd : ∀ W, Calls Tryd.prog 67 #[.string width, .int .u64 10] W fun e W' => e = .returned (.tuple #[.int .u64 w, .bool true, .int .i64 0]) ∧ Below W.heap.size W W') (hw : 64 < w) (h1 : 1 < s.size) (hc : s[1] = 104) (W : World)
    (kr : ∀ W, Calls Tryd.prog 50 #[.string (s.extract 2 s.size)] W fun e W' => e = .returned (.string (bs T)) ∧ W = W') :
    Calls Tryd.prog 66 #[.string width, .string s] W fun e W' => e = .returned (.tuple #[.agg #[.int .i64 0, .string ⟨#[]⟩, .int .i64 0, .int .u64 0, .int .i64 0], .int .i64 0, .int .i64 22]) ∧ Below W.heap.size W W' := by
  have q104 : ((s[1].toNat : Int) == 104) = true := by rw [hc]; rfl
  have hl : (1 : Int) < (s.size : Int) := by omega
  have KR := Lib.hid kr
  clear kr hc
  have hwi : (64 : Int) < (w : Int) := by omega
  clear hw
  have KT := Lib.hid kt
  clear kt
  go_enter Tryd.func66, Tryd.ntmps66
  go_wp2_with fail
  refine (KR.out _).mono ?_
  rintro e w' ⟨rfl, rfl⟩
  go_wp2_with fail
  have B := Box5.new W (.int .i64 0) (.string ⟨#[]⟩) (.int .i64 0) (.int .u64 0) (.int .i64 0) 32
  have hW : Below W.heap.size W (W.alloc (.cells #[.int .i64 0, .string ⟨#[]⟩, .int .i64 0, .int .u64 0, .int .i64 0] 32)) := (Below.refl _ _).alloc (Nat.le_refl _) _
  refine (KT.out _).mono ?_
  rintro e W1 ⟨rfl, hb1⟩
  replace B := B.later hb1
  replace hW := hW.trans (hb1.mono hW.size)
  clear hb1
  have KD := Lib.hid kd
  clear kd
  go_wp2_with fail
  refine (KD.out _).mono ?_
  rintro e W2 ⟨rfl, hb2⟩
  replace B := B.later hb2
  replace hW := hW.trans (hb2.mono hW.size)
  clear hb2
  obtain ⟨c0, c1, c2, c3, c4, f0, f1, f2, f3, f4, lt⟩ := B
  have HW := Lib.hid hW
  clear hW
  go_wp2
  refine bodyPost_ret (v := .tuple #[.agg #[.int .i64 0, .string ⟨#[]⟩, .int .i64 0, .int .u64 0, .int .i64 0], .int .i64 0, .int .i64 22]) ?_ rfl ⟨rfl, (((((HW.out.setCell (Nat.le_refl _) _).setCell (Nat.le_refl _) _).setCell (Nat.le_refl _) _).setCell (Nat.le_refl _) _).setCell (Nat.le_refl _) _)⟩
  simp [results, Tryd.results66, go_sem, c0, c1, c2, c3, c4, f0, f1, f2, f3, f4]

set_option maxHeartbeats 2000000 in
theorem wide_sm16 (width s : ByteArray) (T : List UInt8) (v : Nat) (kt : ∀ W, Calls Tryd.prog 67 #[.string (bs T), .int .u64 16] W fun e W' => e = .returned (.tuple #[.int .u64 v, .bool false, .int .i64 0]) ∧ Below W.heap.size W W') (w : Nat) (kd : ∀ W, Calls Tryd.prog 67 #[.string width, .int .u64 10] W fun e W' => e = .returned (.tuple #[.int .u64 w, .bool true, .int .i64 0]) ∧ Below W.heap.size W W') (hw : w ≤ 64) (h1 : 1 < s.size) (hc : s[1] = 104) (W : World)
    (kr : ∀ W, Calls Tryd.prog 50 #[.string (s.extract 2 s.size)] W fun e W' => e = .returned (.string (bs T)) ∧ W = W') :
    Calls Tryd.prog 66 #[.string width, .string s] W fun e W' => e = .returned (.tuple #[.agg #[.int .i64 0, .string ⟨#[]⟩, .int .i64 0, .int .u64 0, .int .i64 0], .int .i64 0, .int .i64 22]) ∧ Below W.heap.size W W' := by
  have q104 : ((s[1].toNat : Int) == 104) = true := by rw [hc]; rfl
  have hl : (1 : Int) < (s.size : Int) := by omega
  have KR := Lib.hid kr
  clear kr hc
  have hwi : (w : Int) ≤ 64 := by omega
  clear hw
  have KT := Lib.hid kt
  clear kt
  go_enter Tryd.func66, Tryd.ntmps66
  go_wp2_with fail
  refine (KR.out _).mono ?_
  rintro e w' ⟨rfl, rfl⟩
  go_wp2_with fail
  have B := Box5.new W (.int .i64 0) (.string ⟨#[]⟩) (.int .i64 0) (.int .u64 0) (.int .i64 0) 32
  have hW : Below W.heap.size W (W.alloc (.cells #[.int .i64 0, .string ⟨#[]⟩, .int .i64 0, .int .u64 0, .int .i64 0] 32)) := (Below.refl _ _).alloc (Nat.le_refl _) _
  refine (KT.out _).mono ?_
  rintro e W1 ⟨rfl, hb1⟩
  replace B := B.later hb1
  replace hW := hW.trans (hb1.mono hW.size)
  clear hb1
  have KD := Lib.hid kd
  clear kd
  go_wp2_with fail
  refine (KD.out _).mono ?_
  rintro e W2 ⟨rfl, hb2⟩
  replace B := B.later hb2
  replace hW := hW.trans (hb2.mono hW.size)
  clear hb2
  obtain ⟨c0, c1, c2, c3, c4, f0, f1, f2, f3, f4, lt⟩ := B
  have HW := Lib.hid hW
  clear hW
  go_wp2
  refine bodyPost_ret (v := .tuple #[.agg #[.int .i64 0, .string ⟨#[]⟩, .int .i64 0, .int .u64 0, .int .i64 0], .int .i64 0, .int .i64 22]) ?_ rfl ⟨rfl, (((((HW.out.setCell (Nat.le_refl _) _).setCell (Nat.le_refl _) _).setCell (Nat.le_refl _) _).setCell (Nat.le_refl _) _).setCell (Nat.le_refl _) _)⟩
  simp [results, Tryd.results66, go_sem, c0, c1, c2, c3, c4, f0, f1, f2, f3, f4]

set_option maxHeartbeats 2000000 in
theorem wide_nf16 (width s : ByteArray) (T : List UInt8) (v : Nat) (kt : ∀ W, Calls Tryd.prog 67 #[.string (bs T), .int .u64 16] W fun e W' => e = .returned (.tuple #[.int .u64 v, .bool true, .int .i64 0]) ∧ Below W.heap.size W W') (w : Nat) (kd : ∀ W, Calls Tryd.prog 67 #[.string width, .int .u64 10] W fun e W' => e = .returned (.tuple #[.int .u64 w, .bool true, .int .i64 0]) ∧ Below W.heap.size W W') (kf : ∀ W, Calls Tryd.prog 35 #[.int .i64 w, .int .u64 v] W fun e W' => e = .returned (.bool false) ∧ W = W') (hw : w ≤ 64) (h1 : 1 < s.size) (hc : s[1] = 104) (W : World)
    (kr : ∀ W, Calls Tryd.prog 50 #[.string (s.extract 2 s.size)] W fun e W' => e = .returned (.string (bs T)) ∧ W = W') :
    Calls Tryd.prog 66 #[.string width, .string s] W fun e W' => e = .returned (.tuple #[.agg #[.int .i64 0, .string ⟨#[]⟩, .int .i64 0, .int .u64 0, .int .i64 0], .int .i64 0, .int .i64 22]) ∧ Below W.heap.size W W' := by
  have q104 : ((s[1].toNat : Int) == 104) = true := by rw [hc]; rfl
  have hl : (1 : Int) < (s.size : Int) := by omega
  have KR := Lib.hid kr
  clear kr hc
  have hwi : (w : Int) ≤ 64 := by omega
  clear hw
  have hwr : IntKind.i64.wrap (w : Int) = (w : Int) := IntWalk.i64_in _ (by omega)
  have KT := Lib.hid kt
  clear kt
  go_enter Tryd.func66, Tryd.ntmps66
  go_wp2_with fail
  refine (KR.out _).mono ?_
  rintro e w' ⟨rfl, rfl⟩
  go_wp2_with fail
  have B := Box5.new W (.int .i64 0) (.string ⟨#[]⟩) (.int .i64 0) (.int .u64 0) (.int .i64 0) 32
  have hW : Below W.heap.size W (W.alloc (.cells #[.int .i64 0, .string ⟨#[]⟩, .int .i64 0, .int .u64 0, .int .i64 0] 32)) := (Below.refl _ _).alloc (Nat.le_refl _) _
  refine (KT.out _).mono ?_
  rintro e W1 ⟨rfl, hb1⟩
  replace B := B.later hb1
  replace hW := hW.trans (hb1.mono hW.size)
  clear hb1
  have KD := Lib.hid kd
  clear kd
  go_wp2_with fail
  refine (KD.out _).mono ?_
  rintro e W2 ⟨rfl, hb2⟩
  replace B := B.later hb2
  replace hW := hW.trans (hb2.mono hW.size)
  clear hb2
  have KF := Lib.hid kf
  clear kf
  go_wp2_with fail
  refine (KF.out _).mono ?_
  rintro e w' ⟨rfl, rfl⟩
  obtain ⟨c0, c1, c2, c3, c4, f0, f1, f2, f3, f4, lt⟩ := B
  have HW := Lib.hid hW
  clear hW
  go_wp2
  refine bodyPost_ret (v := .tuple #[.agg #[.int .i64 0, .string ⟨#[]⟩, .int .i64 0, .int .u64 0, .int .i64 0], .int .i64 0, .int .i64 22]) ?_ rfl ⟨rfl, (((((HW.out.setCell (Nat.le_refl _) _).setCell (Nat.le_refl _) _).setCell (Nat.le_refl _) _).setCell (Nat.le_refl _) _).setCell (Nat.le_refl _) _)⟩
  simp [results, Tryd.results66, go_sem, c0, c1, c2, c3, c4, f0, f1, f2, f3, f4]

set_option maxHeartbeats 2000000 in
theorem wide_ok16 (width s : ByteArray) (T : List UInt8) (v : Nat) (kt : ∀ W, Calls Tryd.prog 67 #[.string (bs T), .int .u64 16] W fun e W' => e = .returned (.tuple #[.int .u64 v, .bool true, .int .i64 0]) ∧ Below W.heap.size W W') (w : Nat) (kd : ∀ W, Calls Tryd.prog 67 #[.string width, .int .u64 10] W fun e W' => e = .returned (.tuple #[.int .u64 w, .bool true, .int .i64 0]) ∧ Below W.heap.size W W') (kf : ∀ W, Calls Tryd.prog 35 #[.int .i64 w, .int .u64 v] W fun e W' => e = .returned (.bool true) ∧ W = W') (hw : w ≤ 64) (hT : T.length ≤ 140737488351232) (hwd : width.size ≤ 140737488351232) (h1 : 1 < s.size) (hc : s[1] = 104) (W : World)
    (kr : ∀ W, Calls Tryd.prog 50 #[.string (s.extract 2 s.size)] W fun e W' => e = .returned (.string (bs T)) ∧ W = W') :
    Calls Tryd.prog 66 #[.string width, .string s] W fun e W' => e = .returned (.tuple #[.agg #[.int .i64 3, .string ⟨#[]⟩, .int .i64 w, .int .u64 v, .int .i64 0], .int .i64 ((width.size : Int) + 2 + (T.length : Int)), .int .i64 0]) ∧ Below W.heap.size W W' := by
  have q104 : ((s[1].toNat : Int) == 104) = true := by rw [hc]; rfl
  have hl : (1 : Int) < (s.size : Int) := by omega
  have KR := Lib.hid kr
  clear kr hc
  have hwi : (w : Int) ≤ 64 := by omega
  clear hw
  have hwr : IntKind.i64.wrap (w : Int) = (w : Int) := IntWalk.i64_in _ (by omega)
  have hT' : (T.length : Int) ≤ 140737488351232 := by omega
  have hwd' : (width.size : Int) ≤ 140737488351232 := by omega
  have hsz : ((bs T).size : Int) ≤ 140737488351232 := hT'
  have KT := Lib.hid kt
  clear kt
  go_enter Tryd.func66, Tryd.ntmps66
  go_wp2_with fail
  refine (KR.out _).mono ?_
  rintro e w' ⟨rfl, rfl⟩
  go_wp2_with fail
  have B := Box5.new W (.int .i64 0) (.string ⟨#[]⟩) (.int .i64 0) (.int .u64 0) (.int .i64 0) 32
  have hW : Below W.heap.size W (W.alloc (.cells #[.int .i64 0, .string ⟨#[]⟩, .int .i64 0, .int .u64 0, .int .i64 0] 32)) := (Below.refl _ _).alloc (Nat.le_refl _) _
  refine (KT.out _).mono ?_
  rintro e W1 ⟨rfl, hb1⟩
  replace B := B.later hb1
  replace hW := hW.trans (hb1.mono hW.size)
  clear hb1
  have KD := Lib.hid kd
  clear kd
  go_wp2_with fail
  refine (KD.out _).mono ?_
  rintro e W2 ⟨rfl, hb2⟩
  replace B := B.later hb2
  replace hW := hW.trans (hb2.mono hW.size)
  clear hb2
  have KF := Lib.hid kf
  clear kf
  go_wp2_with fail
  refine (KF.out _).mono ?_
  rintro e w' ⟨rfl, rfl⟩
  obtain ⟨c0, c1, c2, c3, c4, f0, f1, f2, f3, f4, lt⟩ := B
  have HW := Lib.hid hW
  clear hW
  go_wp2
  refine bodyPost_ret (v := .tuple #[.agg #[.int .i64 3, .string ⟨#[]⟩, .int .i64 w, .int .u64 v, .int .i64 0], .int .i64 ((width.size : Int) + 2 + ((bs T).size : Int)), .int .i64 0]) ?_ rfl ⟨rfl, (((((HW.out.setCell (Nat.le_refl _) _).setCell (Nat.le_refl _) _).setCell (Nat.le_refl _) _).setCell (Nat.le_refl _) _).setCell (Nat.le_refl _) _)⟩
  simp [results, Tryd.results66, go_sem, c0, c1, c2, c3, c4, f0, f1, f2, f3, f4]

set_option maxHeartbeats 2000000 in
theorem wide_e10 (width s : ByteArray) (T : List UInt8) (v : Nat) (sm : Bool) (er : Int) (kt : ∀ W, Calls Tryd.prog 67 #[.string (bs T), .int .u64 10] W fun e W' => e = .returned (.tuple #[.int .u64 v, .bool sm, .int .i64 er]) ∧ Below W.heap.size W W') (her : er ≠ 0) (h1 : 1 < s.size) (hc : s[1] = 100) (W : World)
    (kr : ∀ W, Calls Tryd.prog 50 #[.string (s.extract 2 s.size)] W fun e W' => e = .returned (.string (bs T)) ∧ W = W') :
    Calls Tryd.prog 66 #[.string width, .string s] W fun e W' => e = .returned (.tuple #[.agg #[.int .i64 0, .string ⟨#[]⟩, .int .i64 0, .int .u64 0, .int .i64 0], .int .i64 0, .int .i64 er]) ∧ Below W.heap.size W W' := by
  have q104 : ((s[1].toNat : Int) == 104) = false := by rw [hc]; rfl
  have q100 : ((s[1].toNat : Int) == 100) = true := by rw [hc]; rfl
  have hl : (1 : Int) < (s.size : Int) := by omega
  have KR := Lib.hid kr
  clear kr hc
  have hne : (er != 0) = true := by simpa using her
  clear her
  have KT := Lib.hid kt
  clear kt
  go_enter Tryd.func66, Tryd.ntmps66
  go_wp2_with fail
  refine (KR.out _).mono ?_
  rintro e w' ⟨rfl, rfl⟩
  go_wp2_with fail
  have B := Box5.new W (.int .i64 0) (.string ⟨#[]⟩) (.int .i64 0) (.int .u64 0) (.int .i64 0) 32
  have hW : Below W.heap.size W (W.alloc (.cells #[.int .i64 0, .string ⟨#[]⟩, .int .i64 0, .int .u64 0, .int .i64 0] 32)) := (Below.refl _ _).alloc (Nat.le_refl _) _
  refine (KT.out _).mono ?_
  rintro e W1 ⟨rfl, hb1⟩
  replace B := B.later hb1
  replace hW := hW.trans (hb1.mono hW.size)
  clear hb1
  obtain ⟨c0, c1, c2, c3, c4, f0, f1, f2, f3, f4, lt⟩ := B
  have HW := Lib.hid hW
  clear hW
  go_wp2
  refine bodyPost_ret (v := .tuple #[.agg #[.int .i64 0, .string ⟨#[]⟩, .int .i64 0, .int .u64 0, .int .i64 0], .int .i64 0, .int .i64 er]) ?_ rfl ⟨rfl, (((((HW.out.setCell (Nat.le_refl _) _).setCell (Nat.le_refl _) _).setCell (Nat.le_refl _) _).setCell (Nat.le_refl _) _).setCell (Nat.le_refl _) _)⟩
  simp [results, Tryd.results66, go_sem, c0, c1, c2, c3, c4, f0, f1, f2, f3, f4]

set_option maxHeartbeats 2000000 in
theorem wide_few10 (width s : ByteArray) (T : List UInt8) (v : Nat) (sm : Bool) (kt : ∀ W, Calls Tryd.prog 67 #[.string (bs T), .int .u64 10] W fun e W' => e = .returned (.tuple #[.int .u64 v, .bool sm, .int .i64 0]) ∧ Below W.heap.size W W') (w : Nat) (kd : ∀ W, Calls Tryd.prog 67 #[.string width, .int .u64 10] W fun e W' => e = .returned (.tuple #[.int .u64 w, .bool false, .int .i64 0]) ∧ Below W.heap.size W W') (h1 : 1 < s.size) (hc : s[1] = 100) (W : World)
    (kr : ∀ W, Calls Tryd.prog 50 #[.string (s.extract 2 s.size)] W fun e W' => e = .returned (.string (bs T)) ∧ W = W') :
    Calls Tryd.prog 66 #[.string width, .string s] W fun e W' => e = .returned (.tuple #[.agg #[.int .i64 0, .string ⟨#[]⟩, .int .i64 0, .int .u64 0, .int .i64 0], .int .i64 0, .int .i64 22]) ∧ Below W.heap.size W W' := by
  have q104 : ((s[1].toNat : Int) == 104) = false := by rw [hc]; rfl
  have q100 : ((s[1].toNat : Int) == 100) = true := by rw [hc]; rfl
  have hl : (1 : Int) < (s.size : Int) := by omega
  have KR := Lib.hid kr
  clear kr hc
  have KT := Lib.hid kt
  clear kt
  go_enter Tryd.func66, Tryd.ntmps66
  go_wp2_with fail
  refine (KR.out _).mono ?_
  rintro e w' ⟨rfl, rfl⟩
  go_wp2_with fail
  have B := Box5.new W (.int .i64 0) (.string ⟨#[]⟩) (.int .i64 0) (.int .u64 0) (.int .i64 0) 32
  have hW : Below W.heap.size W (W.alloc (.cells #[.int .i64 0, .string ⟨#[]⟩, .int .i64 0, .int .u64 0, .int .i64 0] 32)) := (Below.refl _ _).alloc (Nat.le_refl _) _
  refine (KT.out _).mono ?_
  rintro e W1 ⟨rfl, hb1⟩
  replace B := B.later hb1
  replace hW := hW.trans (hb1.mono hW.size)
  clear hb1
  have KD := Lib.hid kd
  clear kd
  go_wp2_with fail
  refine (KD.out _).mono ?_
  rintro e W2 ⟨rfl, hb2⟩
  replace B := B.later hb2
  replace hW := hW.trans (hb2.mono hW.size)
  clear hb2
  obtain ⟨c0, c1, c2, c3, c4, f0, f1, f2, f3, f4, lt⟩ := B
  have HW := Lib.hid hW
  clear hW
  go_wp2
  refine bodyPost_ret (v := .tuple #[.agg #[.int .i64 0, .string ⟨#[]⟩, .int .i64 0, .int .u64 0, .int .i64 0], .int .i64 0, .int .i64 22]) ?_ rfl ⟨rfl, (((((HW.out.setCell (Nat.le_refl _) _).setCell (Nat.le_refl _) _).setCell (Nat.le_refl _) _).setCell (Nat.le_refl _) _).setCell (Nat.le_refl _) _)⟩
  simp [results, Tryd.results66, go_sem, c0, c1, c2, c3, c4, f0, f1, f2, f3, f4]

set_option maxHeartbeats 2000000 in
theorem wide_w10 (width s : ByteArray) (T : List UInt8) (v : Nat) (sm : Bool) (kt : ∀ W, Calls Tryd.prog 67 #[.string (bs T), .int .u64 10] W fun e W' => e = .returned (.tuple #[.int .u64 v, .bool sm, .int .i64 0]) ∧ Below W.heap.size W W') (w : Nat) (kd : ∀ W, Calls Tryd.prog 67 #[.string width, .int .u64 10] W fun e W' => e = .returned (.tuple #[.int .u64 w, .bool true, .int .i64 0]) ∧ Below W.heap.size W W') (hw : 64 < w) (h1 : 1 < s.size) (hc : s[1] = 100) (W : World)
    (kr : ∀ W, Calls Tryd.prog 50 #[.string (s.extract 2 s.size)] W fun e W' => e = .returned (.string (bs T)) ∧ W = W') :
    Calls Tryd.prog 66 #[.string width, .string s] W fun e W' => e = .returned (.tuple #[.agg #[.int .i64 0, .string ⟨#[]⟩, .int .i64 0, .int .u64 0, .int .i64 0], .int .i64 0, .int .i64 22]) ∧ Below W.heap.size W W' := by
  have q104 : ((s[1].toNat : Int) == 104) = false := by rw [hc]; rfl
  have q100 : ((s[1].toNat : Int) == 100) = true := by rw [hc]; rfl
  have hl : (1 : Int) < (s.size : Int) := by omega
  have KR := Lib.hid kr
  clear kr hc
  have hwi : (64 : Int) < (w : Int) := by omega
  clear hw
  have KT := Lib.hid kt
  clear kt
  go_enter Tryd.func66, Tryd.ntmps66
  go_wp2_with fail
  refine (KR.out _).mono ?_
  rintro e w' ⟨rfl, rfl⟩
  go_wp2_with fail
  have B := Box5.new W (.int .i64 0) (.string ⟨#[]⟩) (.int .i64 0) (.int .u64 0) (.int .i64 0) 32
  have hW : Below W.heap.size W (W.alloc (.cells #[.int .i64 0, .string ⟨#[]⟩, .int .i64 0, .int .u64 0, .int .i64 0] 32)) := (Below.refl _ _).alloc (Nat.le_refl _) _
  refine (KT.out _).mono ?_
  rintro e W1 ⟨rfl, hb1⟩
  replace B := B.later hb1
  replace hW := hW.trans (hb1.mono hW.size)
  clear hb1
  have KD := Lib.hid kd
  clear kd
  go_wp2_with fail
  refine (KD.out _).mono ?_
  rintro e W2 ⟨rfl, hb2⟩
  replace B := B.later hb2
  replace hW := hW.trans (hb2.mono hW.size)
  clear hb2
  obtain ⟨c0, c1, c2, c3, c4, f0, f1, f2, f3, f4, lt⟩ := B
  have HW := Lib.hid hW
  clear hW
  go_wp2
  refine bodyPost_ret (v := .tuple #[.agg #[.int .i64 0, .string ⟨#[]⟩, .int .i64 0, .int .u64 0, .int .i64 0], .int .i64 0, .int .i64 22]) ?_ rfl ⟨rfl, (((((HW.out.setCell (Nat.le_refl _) _).setCell (Nat.le_refl _) _).setCell (Nat.le_refl _) _).setCell (Nat.le_refl _) _).setCell (Nat.le_refl _) _)⟩
  simp [results, Tryd.results66, go_sem, c0, c1, c2, c3, c4, f0, f1, f2, f3, f4]

set_option maxHeartbeats 2000000 in
theorem wide_sm10 (width s : ByteArray) (T : List UInt8) (v : Nat) (kt : ∀ W, Calls Tryd.prog 67 #[.string (bs T), .int .u64 10] W fun e W' => e = .returned (.tuple #[.int .u64 v, .bool false, .int .i64 0]) ∧ Below W.heap.size W W') (w : Nat) (kd : ∀ W, Calls Tryd.prog 67 #[.string width, .int .u64 10] W fun e W' => e = .returned (.tuple #[.int .u64 w, .bool true, .int .i64 0]) ∧ Below W.heap.size W W') (hw : w ≤ 64) (h1 : 1 < s.size) (hc : s[1] = 100) (W : World)
    (kr : ∀ W, Calls Tryd.prog 50 #[.string (s.extract 2 s.size)] W fun e W' => e = .returned (.string (bs T)) ∧ W = W') :
    Calls Tryd.prog 66 #[.string width, .string s] W fun e W' => e = .returned (.tuple #[.agg #[.int .i64 0, .string ⟨#[]⟩, .int .i64 0, .int .u64 0, .int .i64 0], .int .i64 0, .int .i64 22]) ∧ Below W.heap.size W W' := by
  have q104 : ((s[1].toNat : Int) == 104) = false := by rw [hc]; rfl
  have q100 : ((s[1].toNat : Int) == 100) = true := by rw [hc]; rfl
  have hl : (1 : Int) < (s.size : Int) := by omega
  have KR := Lib.hid kr
  clear kr hc
  have hwi : (w : Int) ≤ 64 := by omega
  clear hw
  have KT := Lib.hid kt
  clear kt
  go_enter Tryd.func66, Tryd.ntmps66
  go_wp2_with fail
  refine (KR.out _).mono ?_
  rintro e w' ⟨rfl, rfl⟩
  go_wp2_with fail
  have B := Box5.new W (.int .i64 0) (.string ⟨#[]⟩) (.int .i64 0) (.int .u64 0) (.int .i64 0) 32
  have hW : Below W.heap.size W (W.alloc (.cells #[.int .i64 0, .string ⟨#[]⟩, .int .i64 0, .int .u64 0, .int .i64 0] 32)) := (Below.refl _ _).alloc (Nat.le_refl _) _
  refine (KT.out _).mono ?_
  rintro e W1 ⟨rfl, hb1⟩
  replace B := B.later hb1
  replace hW := hW.trans (hb1.mono hW.size)
  clear hb1
  have KD := Lib.hid kd
  clear kd
  go_wp2_with fail
  refine (KD.out _).mono ?_
  rintro e W2 ⟨rfl, hb2⟩
  replace B := B.later hb2
  replace hW := hW.trans (hb2.mono hW.size)
  clear hb2
  obtain ⟨c0, c1, c2, c3, c4, f0, f1, f2, f3, f4, lt⟩ := B
  have HW := Lib.hid hW
  clear hW
  go_wp2
  refine bodyPost_ret (v := .tuple #[.agg #[.int .i64 0, .string ⟨#[]⟩, .int .i64 0, .int .u64 0, .int .i64 0], .int .i64 0, .int .i64 22]) ?_ rfl ⟨rfl, (((((HW.out.setCell (Nat.le_refl _) _).setCell (Nat.le_refl _) _).setCell (Nat.le_refl _) _).setCell (Nat.le_refl _) _).setCell (Nat.le_refl _) _)⟩
  simp [results, Tryd.results66, go_sem, c0, c1, c2, c3, c4, f0, f1, f2, f3, f4]

set_option maxHeartbeats 2000000 in
theorem wide_nf10 (width s : ByteArray) (T : List UInt8) (v : Nat) (kt : ∀ W, Calls Tryd.prog 67 #[.string (bs T), .int .u64 10] W fun e W' => e = .returned (.tuple #[.int .u64 v, .bool true, .int .i64 0]) ∧ Below W.heap.size W W') (w : Nat) (kd : ∀ W, Calls Tryd.prog 67 #[.string width, .int .u64 10] W fun e W' => e = .returned (.tuple #[.int .u64 w, .bool true, .int .i64 0]) ∧ Below W.heap.size W W') (kf : ∀ W, Calls Tryd.prog 35 #[.int .i64 w, .int .u64 v] W fun e W' => e = .returned (.bool false) ∧ W = W') (hw : w ≤ 64) (h1 : 1 < s.size) (hc : s[1] = 100) (W : World)
    (kr : ∀ W, Calls Tryd.prog 50 #[.string (s.extract 2 s.size)] W fun e W' => e = .returned (.string (bs T)) ∧ W = W') :
    Calls Tryd.prog 66 #[.string width, .string s] W fun e W' => e = .returned (.tuple #[.agg #[.int .i64 0, .string ⟨#[]⟩, .int .i64 0, .int .u64 0, .int .i64 0], .int .i64 0, .int .i64 22]) ∧ Below W.heap.size W W' := by
  have q104 : ((s[1].toNat : Int) == 104) = false := by rw [hc]; rfl
  have q100 : ((s[1].toNat : Int) == 100) = true := by rw [hc]; rfl
  have hl : (1 : Int) < (s.size : Int) := by omega
  have KR := Lib.hid kr
  clear kr hc
  have hwi : (w : Int) ≤ 64 := by omega
  clear hw
  have hwr : IntKind.i64.wrap (w : Int) = (w : Int) := IntWalk.i64_in _ (by omega)
  have KT := Lib.hid kt
  clear kt
  go_enter Tryd.func66, Tryd.ntmps66
  go_wp2_with fail
  refine (KR.out _).mono ?_
  rintro e w' ⟨rfl, rfl⟩
  go_wp2_with fail
  have B := Box5.new W (.int .i64 0) (.string ⟨#[]⟩) (.int .i64 0) (.int .u64 0) (.int .i64 0) 32
  have hW : Below W.heap.size W (W.alloc (.cells #[.int .i64 0, .string ⟨#[]⟩, .int .i64 0, .int .u64 0, .int .i64 0] 32)) := (Below.refl _ _).alloc (Nat.le_refl _) _
  refine (KT.out _).mono ?_
  rintro e W1 ⟨rfl, hb1⟩
  replace B := B.later hb1
  replace hW := hW.trans (hb1.mono hW.size)
  clear hb1
  have KD := Lib.hid kd
  clear kd
  go_wp2_with fail
  refine (KD.out _).mono ?_
  rintro e W2 ⟨rfl, hb2⟩
  replace B := B.later hb2
  replace hW := hW.trans (hb2.mono hW.size)
  clear hb2
  have KF := Lib.hid kf
  clear kf
  go_wp2_with fail
  refine (KF.out _).mono ?_
  rintro e w' ⟨rfl, rfl⟩
  obtain ⟨c0, c1, c2, c3, c4, f0, f1, f2, f3, f4, lt⟩ := B
  have HW := Lib.hid hW
  clear hW
  go_wp2
  refine bodyPost_ret (v := .tuple #[.agg #[.int .i64 0, .string ⟨#[]⟩, .int .i64 0, .int .u64 0, .int .i64 0], .int .i64 0, .int .i64 22]) ?_ rfl ⟨rfl, (((((HW.out.setCell (Nat.le_refl _) _).setCell (Nat.le_refl _) _).setCell (Nat.le_refl _) _).setCell (Nat.le_refl _) _).setCell (Nat.le_refl _) _)⟩
  simp [results, Tryd.results66, go_sem, c0, c1, c2, c3, c4, f0, f1, f2, f3, f4]

set_option maxHeartbeats 2000000 in
theorem wide_ok10 (width s : ByteArray) (T : List UInt8) (v : Nat) (kt : ∀ W, Calls Tryd.prog 67 #[.string (bs T), .int .u64 10] W fun e W' => e = .returned (.tuple #[.int .u64 v, .bool true, .int .i64 0]) ∧ Below W.heap.size W W') (w : Nat) (kd : ∀ W, Calls Tryd.prog 67 #[.string width, .int .u64 10] W fun e W' => e = .returned (.tuple #[.int .u64 w, .bool true, .int .i64 0]) ∧ Below W.heap.size W W') (kf : ∀ W, Calls Tryd.prog 35 #[.int .i64 w, .int .u64 v] W fun e W' => e = .returned (.bool true) ∧ W = W') (hw : w ≤ 64) (hT : T.length ≤ 140737488351232) (hwd : width.size ≤ 140737488351232) (h1 : 1 < s.size) (hc : s[1] = 100) (W : World)
    (kr : ∀ W, Calls Tryd.prog 50 #[.string (s.extract 2 s.size)] W fun e W' => e = .returned (.string (bs T)) ∧ W = W') :
    Calls Tryd.prog 66 #[.string width, .string s] W fun e W' => e = .returned (.tuple #[.agg #[.int .i64 3, .string ⟨#[]⟩, .int .i64 w, .int .u64 v, .int .i64 0], .int .i64 ((width.size : Int) + 2 + (T.length : Int)), .int .i64 0]) ∧ Below W.heap.size W W' := by
  have q104 : ((s[1].toNat : Int) == 104) = false := by rw [hc]; rfl
  have q100 : ((s[1].toNat : Int) == 100) = true := by rw [hc]; rfl
  have hl : (1 : Int) < (s.size : Int) := by omega
  have KR := Lib.hid kr
  clear kr hc
  have hwi : (w : Int) ≤ 64 := by omega
  clear hw
  have hwr : IntKind.i64.wrap (w : Int) = (w : Int) := IntWalk.i64_in _ (by omega)
  have hT' : (T.length : Int) ≤ 140737488351232 := by omega
  have hwd' : (width.size : Int) ≤ 140737488351232 := by omega
  have hsz : ((bs T).size : Int) ≤ 140737488351232 := hT'
  have KT := Lib.hid kt
  clear kt
  go_enter Tryd.func66, Tryd.ntmps66
  go_wp2_with fail
  refine (KR.out _).mono ?_
  rintro e w' ⟨rfl, rfl⟩
  go_wp2_with fail
  have B := Box5.new W (.int .i64 0) (.string ⟨#[]⟩) (.int .i64 0) (.int .u64 0) (.int .i64 0) 32
  have hW : Below W.heap.size W (W.alloc (.cells #[.int .i64 0, .string ⟨#[]⟩, .int .i64 0, .int .u64 0, .int .i64 0] 32)) := (Below.refl _ _).alloc (Nat.le_refl _) _
  refine (KT.out _).mono ?_
  rintro e W1 ⟨rfl, hb1⟩
  replace B := B.later hb1
  replace hW := hW.trans (hb1.mono hW.size)
  clear hb1
  have KD := Lib.hid kd
  clear kd
  go_wp2_with fail
  refine (KD.out _).mono ?_
  rintro e W2 ⟨rfl, hb2⟩
  replace B := B.later hb2
  replace hW := hW.trans (hb2.mono hW.size)
  clear hb2
  have KF := Lib.hid kf
  clear kf
  go_wp2_with fail
  refine (KF.out _).mono ?_
  rintro e w' ⟨rfl, rfl⟩
  obtain ⟨c0, c1, c2, c3, c4, f0, f1, f2, f3, f4, lt⟩ := B
  have HW := Lib.hid hW
  clear hW
  go_wp2
  refine bodyPost_ret (v := .tuple #[.agg #[.int .i64 3, .string ⟨#[]⟩, .int .i64 w, .int .u64 v, .int .i64 0], .int .i64 ((width.size : Int) + 2 + ((bs T).size : Int)), .int .i64 0]) ?_ rfl ⟨rfl, (((((HW.out.setCell (Nat.le_refl _) _).setCell (Nat.le_refl _) _).setCell (Nat.le_refl _) _).setCell (Nat.le_refl _) _).setCell (Nat.le_refl _) _)⟩
  simp [results, Tryd.results66, go_sem, c0, c1, c2, c3, c4, f0, f1, f2, f3, f4]

set_option maxHeartbeats 2000000 in
theorem wide_e2 (width s : ByteArray) (T : List UInt8) (v : Nat) (sm : Bool) (er : Int) (kt : ∀ W, Calls Tryd.prog 67 #[.string (bs T), .int .u64 2] W fun e W' => e = .returned (.tuple #[.int .u64 v, .bool sm, .int .i64 er]) ∧ Below W.heap.size W W') (her : er ≠ 0) (h1 : 1 < s.size) (hc : s[1] = 98) (W : World)
    (kr : ∀ W, Calls Tryd.prog 50 #[.string (s.extract 2 s.size)] W fun e W' => e = .returned (.string (bs T)) ∧ W = W') :
    Calls Tryd.prog 66 #[.string width, .string s] W fun e W' => e = .returned (.tuple #[.agg #[.int .i64 0, .string ⟨#[]⟩, .int .i64 0, .int .u64 0, .int .i64 0], .int .i64 0, .int .i64 er]) ∧ Below W.heap.size W W' := by
  have q104 : ((s[1].toNat : Int) == 104) = false := by rw [hc]; rfl
  have q100 : ((s[1].toNat : Int) == 100) = false := by rw [hc]; rfl
  have q98 : ((s[1].toNat : Int) == 98) = true := by rw [hc]; rfl
  have hl : (1 : Int) < (s.size : Int) := by omega
  have KR := Lib.hid kr
  clear kr hc
  have hne : (er != 0) = true := by simpa using her
  clear her
  have KT := Lib.hid kt
  clear kt
  go_enter Tryd.func66, Tryd.ntmps66
  go_wp2_with fail
  refine (KR.out _).mono ?_
  rintro e w' ⟨rfl, rfl⟩
  go_wp2_with fail
  have B := Box5.new W (.int .i64 0) (.string ⟨#[]⟩) (.int .i64 0) (.int .u64 0) (.int .i64 0) 32
  have hW : Below W.heap.size W (W.alloc (.cells #[.int .i64 0, .string ⟨#[]⟩, .int .i64 0, .int .u64 0, .int .i64 0] 32)) := (Below.refl _ _).alloc (Nat.le_refl _) _
  refine (KT.out _).mono ?_
  rintro e W1 ⟨rfl, hb1⟩
  replace B := B.later hb1
  replace hW := hW.trans (hb1.mono hW.size)
  clear hb1
  obtain ⟨c0, c1, c2, c3, c4, f0, f1, f2, f3, f4, lt⟩ := B
  have HW := Lib.hid hW
  clear hW
  go_wp2
  refine bodyPost_ret (v := .tuple #[.agg #[.int .i64 0, .string ⟨#[]⟩, .int .i64 0, .int .u64 0, .int .i64 0], .int .i64 0, .int .i64 er]) ?_ rfl ⟨rfl, (((((HW.out.setCell (Nat.le_refl _) _).setCell (Nat.le_refl _) _).setCell (Nat.le_refl _) _).setCell (Nat.le_refl _) _).setCell (Nat.le_refl _) _)⟩
  simp [results, Tryd.results66, go_sem, c0, c1, c2, c3, c4, f0, f1, f2, f3, f4]

set_option maxHeartbeats 2000000 in
theorem wide_few2 (width s : ByteArray) (T : List UInt8) (v : Nat) (sm : Bool) (kt : ∀ W, Calls Tryd.prog 67 #[.string (bs T), .int .u64 2] W fun e W' => e = .returned (.tuple #[.int .u64 v, .bool sm, .int .i64 0]) ∧ Below W.heap.size W W') (w : Nat) (kd : ∀ W, Calls Tryd.prog 67 #[.string width, .int .u64 10] W fun e W' => e = .returned (.tuple #[.int .u64 w, .bool false, .int .i64 0]) ∧ Below W.heap.size W W') (h1 : 1 < s.size) (hc : s[1] = 98) (W : World)
    (kr : ∀ W, Calls Tryd.prog 50 #[.string (s.extract 2 s.size)] W fun e W' => e = .returned (.string (bs T)) ∧ W = W') :
    Calls Tryd.prog 66 #[.string width, .string s] W fun e W' => e = .returned (.tuple #[.agg #[.int .i64 0, .string ⟨#[]⟩, .int .i64 0, .int .u64 0, .int .i64 0], .int .i64 0, .int .i64 22]) ∧ Below W.heap.size W W' := by
  have q104 : ((s[1].toNat : Int) == 104) = false := by rw [hc]; rfl
  have q100 : ((s[1].toNat : Int) == 100) = false := by rw [hc]; rfl
  have q98 : ((s[1].toNat : Int) == 98) = true := by rw [hc]; rfl
  have hl : (1 : Int) < (s.size : Int) := by omega
  have KR := Lib.hid kr
  clear kr hc
  have KT := Lib.hid kt
  clear kt
  go_enter Tryd.func66, Tryd.ntmps66
  go_wp2_with fail
  refine (KR.out _).mono ?_
  rintro e w' ⟨rfl, rfl⟩
  go_wp2_with fail
  have B := Box5.new W (.int .i64 0) (.string ⟨#[]⟩) (.int .i64 0) (.int .u64 0) (.int .i64 0) 32
  have hW : Below W.heap.size W (W.alloc (.cells #[.int .i64 0, .string ⟨#[]⟩, .int .i64 0, .int .u64 0, .int .i64 0] 32)) := (Below.refl _ _).alloc (Nat.le_refl _) _
  refine (KT.out _).mono ?_
  rintro e W1 ⟨rfl, hb1⟩
  replace B := B.later hb1
  replace hW := hW.trans (hb1.mono hW.size)
  clear hb1
  have KD := Lib.hid kd
  clear kd
  go_wp2_with fail
  refine (KD.out _).mono ?_
  rintro e W2 ⟨rfl, hb2⟩
  replace B := B.later hb2
  replace hW := hW.trans (hb2.mono hW.size)
  clear hb2
  obtain ⟨c0, c1, c2, c3, c4, f0, f1, f2, f3, f4, lt⟩ := B
  have HW := Lib.hid hW
  clear hW
  go_wp2
  refine bodyPost_ret (v := .tuple #[.agg #[.int .i64 0, .string ⟨#[]⟩, .int .i64 0, .int .u64 0, .int .i64 0], .int .i64 0, .int .i64 22]) ?_ rfl ⟨rfl, (((((HW.out.setCell (Nat.le_refl _) _).setCell (Nat.le_refl _) _).setCell (Nat.le_refl _) _).setCell (Nat.le_refl _) _).setCell (Nat.le_refl _) _)⟩
  simp [results, Tryd.results66, go_sem, c0, c1, c2, c3, c4, f0, f1, f2, f3, f4]

set_option maxHeartbeats 2000000 in
theorem wide_w2 (width s : ByteArray) (T : List UInt8) (v : Nat) (sm : Bool) (kt : ∀ W, Calls Tryd.prog 67 #[.string (bs T), .int .u64 2] W fun e W' => e = .returned (.tuple #[.int .u64 v, .bool sm, .int .i64 0]) ∧ Below W.heap.size W W') (w : Nat) (kd : ∀ W, Calls Tryd.prog 67 #[.string width, .int .u64 10] W fun e W' => e = .returned (.tuple #[.int .u64 w, .bool true, .int .i64 0]) ∧ Below W.heap.size W W') (hw : 64 < w) (h1 : 1 < s.size) (hc : s[1] = 98) (W : World)
    (kr : ∀ W, Calls Tryd.prog 50 #[.string (s.extract 2 s.size)] W fun e W' => e = .returned (.string (bs T)) ∧ W = W') :
    Calls Tryd.prog 66 #[.string width, .string s] W fun e W' => e = .returned (.tuple #[.agg #[.int .i64 0, .string ⟨#[]⟩, .int .i64 0, .int .u64 0, .int .i64 0], .int .i64 0, .int .i64 22]) ∧ Below W.heap.size W W' := by
  have q104 : ((s[1].toNat : Int) == 104) = false := by rw [hc]; rfl
  have q100 : ((s[1].toNat : Int) == 100) = false := by rw [hc]; rfl
  have q98 : ((s[1].toNat : Int) == 98) = true := by rw [hc]; rfl
  have hl : (1 : Int) < (s.size : Int) := by omega
  have KR := Lib.hid kr
  clear kr hc
  have hwi : (64 : Int) < (w : Int) := by omega
  clear hw
  have KT := Lib.hid kt
  clear kt
  go_enter Tryd.func66, Tryd.ntmps66
  go_wp2_with fail
  refine (KR.out _).mono ?_
  rintro e w' ⟨rfl, rfl⟩
  go_wp2_with fail
  have B := Box5.new W (.int .i64 0) (.string ⟨#[]⟩) (.int .i64 0) (.int .u64 0) (.int .i64 0) 32
  have hW : Below W.heap.size W (W.alloc (.cells #[.int .i64 0, .string ⟨#[]⟩, .int .i64 0, .int .u64 0, .int .i64 0] 32)) := (Below.refl _ _).alloc (Nat.le_refl _) _
  refine (KT.out _).mono ?_
  rintro e W1 ⟨rfl, hb1⟩
  replace B := B.later hb1
  replace hW := hW.trans (hb1.mono hW.size)
  clear hb1
  have KD := Lib.hid kd
  clear kd
  go_wp2_with fail
  refine (KD.out _).mono ?_
  rintro e W2 ⟨rfl, hb2⟩
  replace B := B.later hb2
  replace hW := hW.trans (hb2.mono hW.size)
  clear hb2
  obtain ⟨c0, c1, c2, c3, c4, f0, f1, f2, f3, f4, lt⟩ := B
  have HW := Lib.hid hW
  clear hW
  go_wp2
  refine bodyPost_ret (v := .tuple #[.agg #[.int .i64 0, .string ⟨#[]⟩, .int .i64 0, .int .u64 0, .int .i64 0], .int .i64 0, .int .i64 22]) ?_ rfl ⟨rfl, (((((HW.out.setCell (Nat.le_refl _) _).setCell (Nat.le_refl _) _).setCell (Nat.le_refl _) _).setCell (Nat.le_refl _) _).setCell (Nat.le_refl _) _)⟩
  simp [results, Tryd.results66, go_sem, c0, c1, c2, c3, c4, f0, f1, f2, f3, f4]

set_option maxHeartbeats 2000000 in
theorem wide_sm2 (width s : ByteArray) (T : List UInt8) (v : Nat) (kt : ∀ W, Calls Tryd.prog 67 #[.string (bs T), .int .u64 2] W fun e W' => e = .returned (.tuple #[.int .u64 v, .bool false, .int .i64 0]) ∧ Below W.heap.size W W') (w : Nat) (kd : ∀ W, Calls Tryd.prog 67 #[.string width, .int .u64 10] W fun e W' => e = .returned (.tuple #[.int .u64 w, .bool true, .int .i64 0]) ∧ Below W.heap.size W W') (hw : w ≤ 64) (h1 : 1 < s.size) (hc : s[1] = 98) (W : World)
    (kr : ∀ W, Calls Tryd.prog 50 #[.string (s.extract 2 s.size)] W fun e W' => e = .returned (.string (bs T)) ∧ W = W') :
    Calls Tryd.prog 66 #[.string width, .string s] W fun e W' => e = .returned (.tuple #[.agg #[.int .i64 0, .string ⟨#[]⟩, .int .i64 0, .int .u64 0, .int .i64 0], .int .i64 0, .int .i64 22]) ∧ Below W.heap.size W W' := by
  have q104 : ((s[1].toNat : Int) == 104) = false := by rw [hc]; rfl
  have q100 : ((s[1].toNat : Int) == 100) = false := by rw [hc]; rfl
  have q98 : ((s[1].toNat : Int) == 98) = true := by rw [hc]; rfl
  have hl : (1 : Int) < (s.size : Int) := by omega
  have KR := Lib.hid kr
  clear kr hc
  have hwi : (w : Int) ≤ 64 := by omega
  clear hw
  have KT := Lib.hid kt
  clear kt
  go_enter Tryd.func66, Tryd.ntmps66
  go_wp2_with fail
  refine (KR.out _).mono ?_
  rintro e w' ⟨rfl, rfl⟩
  go_wp2_with fail
  have B := Box5.new W (.int .i64 0) (.string ⟨#[]⟩) (.int .i64 0) (.int .u64 0) (.int .i64 0) 32
  have hW : Below W.heap.size W (W.alloc (.cells #[.int .i64 0, .string ⟨#[]⟩, .int .i64 0, .int .u64 0, .int .i64 0] 32)) := (Below.refl _ _).alloc (Nat.le_refl _) _
  refine (KT.out _).mono ?_
  rintro e W1 ⟨rfl, hb1⟩
  replace B := B.later hb1
  replace hW := hW.trans (hb1.mono hW.size)
  clear hb1
  have KD := Lib.hid kd
  clear kd
  go_wp2_with fail
  refine (KD.out _).mono ?_
  rintro e W2 ⟨rfl, hb2⟩
  replace B := B.later hb2
  replace hW := hW.trans (hb2.mono hW.size)
  clear hb2
  obtain ⟨c0, c1, c2, c3, c4, f0, f1, f2, f3, f4, lt⟩ := B
  have HW := Lib.hid hW
  clear hW
  go_wp2
  refine bodyPost_ret (v := .tuple #[.agg #[.int .i64 0, .string ⟨#[]⟩, .int .i64 0, .int .u64 0, .int .i64 0], .int .i64 0, .int .i64 22]) ?_ rfl ⟨rfl, (((((HW.out.setCell (Nat.le_refl _) _).setCell (Nat.le_refl _) _).setCell (Nat.le_refl _) _).setCell (Nat.le_refl _) _).setCell (Nat.le_refl _) _)⟩
  simp [results, Tryd.results66, go_sem, c0, c1, c2, c3, c4, f0, f1, f2, f3, f4]

set_option maxHeartbeats 2000000 in
theorem wide_nf2 (width s : ByteArray) (T : List UInt8) (v : Nat) (kt : ∀ W, Calls Tryd.prog 67 #[.string (bs T), .int .u64 2] W fun e W' => e = .returned (.tuple #[.int .u64 v, .bool true, .int .i64 0]) ∧ Below W.heap.size W W') (w : Nat) (kd : ∀ W, Calls Tryd.prog 67 #[.string width, .int .u64 10] W fun e W' => e = .returned (.tuple #[.int .u64 w, .bool true, .int .i64 0]) ∧ Below W.heap.size W W') (kf : ∀ W, Calls Tryd.prog 35 #[.int .i64 w, .int .u64 v] W fun e W' => e = .returned (.bool false) ∧ W = W') (hw : w ≤ 64) (h1 : 1 < s.size) (hc : s[1] = 98) (W : World)
    (kr : ∀ W, Calls Tryd.prog 50 #[.string (s.extract 2 s.size)] W fun e W' => e = .returned (.string (bs T)) ∧ W = W') :
    Calls Tryd.prog 66 #[.string width, .string s] W fun e W' => e = .returned (.tuple #[.agg #[.int .i64 0, .string ⟨#[]⟩, .int .i64 0, .int .u64 0, .int .i64 0], .int .i64 0, .int .i64 22]) ∧ Below W.heap.size W W' := by
  have q104 : ((s[1].toNat : Int) == 104) = false := by rw [hc]; rfl
  have q100 : ((s[1].toNat : Int) == 100) = false := by rw [hc]; rfl
  have q98 : ((s[1].toNat : Int) == 98) = true := by rw [hc]; rfl
  have hl : (1 : Int) < (s.size : Int) := by omega
  have KR := Lib.hid kr
  clear kr hc
  have hwi : (w : Int) ≤ 64 := by omega
  clear hw
  have hwr : IntKind.i64.wrap (w : Int) = (w : Int) := IntWalk.i64_in _ (by omega)
  have KT := Lib.hid kt
  clear kt
  go_enter Tryd.func66, Tryd.ntmps66
  go_wp2_with fail
  refine (KR.out _).mono ?_
  rintro e w' ⟨rfl, rfl⟩
  go_wp2_with fail
  have B := Box5.new W (.int .i64 0) (.string ⟨#[]⟩) (.int .i64 0) (.int .u64 0) (.int .i64 0) 32
  have hW : Below W.heap.size W (W.alloc (.cells #[.int .i64 0, .string ⟨#[]⟩, .int .i64 0, .int .u64 0, .int .i64 0] 32)) := (Below.refl _ _).alloc (Nat.le_refl _) _
  refine (KT.out _).mono ?_
  rintro e W1 ⟨rfl, hb1⟩
  replace B := B.later hb1
  replace hW := hW.trans (hb1.mono hW.size)
  clear hb1
  have KD := Lib.hid kd
  clear kd
  go_wp2_with fail
  refine (KD.out _).mono ?_
  rintro e W2 ⟨rfl, hb2⟩
  replace B := B.later hb2
  replace hW := hW.trans (hb2.mono hW.size)
  clear hb2
  have KF := Lib.hid kf
  clear kf
  go_wp2_with fail
  refine (KF.out _).mono ?_
  rintro e w' ⟨rfl, rfl⟩
  obtain ⟨c0, c1, c2, c3, c4, f0, f1, f2, f3, f4, lt⟩ := B
  have HW := Lib.hid hW
  clear hW
  go_wp2
  refine bodyPost_ret (v := .tuple #[.agg #[.int .i64 0, .string ⟨#[]⟩, .int .i64 0, .int .u64 0, .int .i64 0], .int .i64 0, .int .i64 22]) ?_ rfl ⟨rfl, (((((HW.out.setCell (Nat.le_refl _) _).setCell (Nat.le_refl _) _).setCell (Nat.le_refl _) _).setCell (Nat.le_refl _) _).setCell (Nat.le_refl _) _)⟩
  simp [results, Tryd.results66, go_sem, c0, c1, c2, c3, c4, f0, f1, f2, f3, f4]

set_option maxHeartbeats 2000000 in
theorem wide_ok2 (width s : ByteArray) (T : List UInt8) (v : Nat) (kt : ∀ W, Calls Tryd.prog 67 #[.string (bs T), .int .u64 2] W fun e W' => e = .returned (.tuple #[.int .u64 v, .bool true, .int .i64 0]) ∧ Below W.heap.size W W') (w : Nat) (kd : ∀ W, Calls Tryd.prog 67 #[.string width, .int .u64 10] W fun e W' => e = .returned (.tuple #[.int .u64 w, .bool true, .int .i64 0]) ∧ Below W.heap.size W W') (kf : ∀ W, Calls Tryd.prog 35 #[.int .i64 w, .int .u64 v] W fun e W' => e = .returned (.bool true) ∧ W = W') (hw : w ≤ 64) (hT : T.length ≤ 140737488351232) (hwd : width.size ≤ 140737488351232) (h1 : 1 < s.size) (hc : s[1] = 98) (W : World)
    (kr : ∀ W, Calls Tryd.prog 50 #[.string (s.extract 2 s.size)] W fun e W' => e = .returned (.string (bs T)) ∧ W = W') :
    Calls Tryd.prog 66 #[.string width, .string s] W fun e W' => e = .returned (.tuple #[.agg #[.int .i64 3, .string ⟨#[]⟩, .int .i64 w, .int .u64 v, .int .i64 0], .int .i64 ((width.size : Int) + 2 + (T.length : Int)), .int .i64 0]) ∧ Below W.heap.size W W' := by
  have q104 : ((s[1].toNat : Int) == 104) = false := by rw [hc]; rfl
  have q100 : ((s[1].toNat : Int) == 100) = false := by rw [hc]; rfl
  have q98 : ((s[1].toNat : Int) == 98) = true := by rw [hc]; rfl
  have hl : (1 : Int) < (s.size : Int) := by omega
  have KR := Lib.hid kr
  clear kr hc
  have hwi : (w : Int) ≤ 64 := by omega
  clear hw
  have hwr : IntKind.i64.wrap (w : Int) = (w : Int) := IntWalk.i64_in _ (by omega)
  have hT' : (T.length : Int) ≤ 140737488351232 := by omega
  have hwd' : (width.size : Int) ≤ 140737488351232 := by omega
  have hsz : ((bs T).size : Int) ≤ 140737488351232 := hT'
  have KT := Lib.hid kt
  clear kt
  go_enter Tryd.func66, Tryd.ntmps66
  go_wp2_with fail
  refine (KR.out _).mono ?_
  rintro e w' ⟨rfl, rfl⟩
  go_wp2_with fail
  have B := Box5.new W (.int .i64 0) (.string ⟨#[]⟩) (.int .i64 0) (.int .u64 0) (.int .i64 0) 32
  have hW : Below W.heap.size W (W.alloc (.cells #[.int .i64 0, .string ⟨#[]⟩, .int .i64 0, .int .u64 0, .int .i64 0] 32)) := (Below.refl _ _).alloc (Nat.le_refl _) _
  refine (KT.out _).mono ?_
  rintro e W1 ⟨rfl, hb1⟩
  replace B := B.later hb1
  replace hW := hW.trans (hb1.mono hW.size)
  clear hb1
  have KD := Lib.hid kd
  clear kd
  go_wp2_with fail
  refine (KD.out _).mono ?_
  rintro e W2 ⟨rfl, hb2⟩
  replace B := B.later hb2
  replace hW := hW.trans (hb2.mono hW.size)
  clear hb2
  have KF := Lib.hid kf
  clear kf
  go_wp2_with fail
  refine (KF.out _).mono ?_
  rintro e w' ⟨rfl, rfl⟩
  obtain ⟨c0, c1, c2, c3, c4, f0, f1, f2, f3, f4, lt⟩ := B
  have HW := Lib.hid hW
  clear hW
  go_wp2
  refine bodyPost_ret (v := .tuple #[.agg #[.int .i64 3, .string ⟨#[]⟩, .int .i64 w, .int .u64 v, .int .i64 0], .int .i64 ((width.size : Int) + 2 + ((bs T).size : Int)), .int .i64 0]) ?_ rfl ⟨rfl, (((((HW.out.setCell (Nat.le_refl _) _).setCell (Nat.le_refl _) _).setCell (Nat.le_refl _) _).setCell (Nat.le_refl _) _).setCell (Nat.le_refl _) _)⟩
  simp [results, Tryd.results66, go_sem, c0, c1, c2, c3, c4, f0, f1, f2, f3, f4]


def numA (b : Nat) (l : List UInt8) : Nat := if allFig b l then cutV b l else 0
def numB (b : Nat) (l : List UInt8) : Bool := if allFig b l then smallV b l else false
def numE (b : Nat) (l : List UInt8) : Int := if allFig b l then (if l.isEmpty then 21 else 0) else 21

theorem number_all (s : ByteArray) (b : Nat) (hs : s.size ≤ 140737488351232) (hb : 2 ≤ b) (hb2 : b ≤ 16) (W : World) :
    Calls Tryd.prog 67 #[.string s, .int .u64 b] W fun e W' => e = .returned (.tuple #[.int .u64 (numA b s.data.toList : Nat), .bool (numB b s.data.toList), .int .i64 (numE b s.data.toList)]) ∧ Below W.heap.size W W' := by
  have key : ∀ e, NumPost b s.data.toList e → e = .returned (.tuple #[.int .u64 (numA b s.data.toList : Nat), .bool (numB b s.data.toList), .int .i64 (numE b s.data.toList)]) := by
    intro e h
    unfold NumPost at h
    unfold numA numB numE
    rw [h]
    split <;> rfl
  by_cases h0 : 0 < s.size
  · exact (number_any s b hs h0 hb hb2 W).mono fun e W' h => ⟨key e h.1, h.2⟩
  · have he : s.data.toList = [] := by
      have h2 : s.data.toList.length = s.size := rfl
      exact List.eq_nil_of_length_eq_zero (by omega)
    obtain rfl := empty_of he
    exact (number_empty b W).mono fun e W' h => ⟨key e h.1, h.2⟩

theorem wideL_e {d r : List UInt8} {c : UInt8} (hb : baseL c ≠ 0) (h : numE (baseL c) (runL r) ≠ 0) : wideL d (c :: r) = .bad 21 ∧ numE (baseL c) (runL r) = 21 := by
  unfold numE at h ⊢
  rw [wideL, if_neg hb]
  cases h1 : allFig (baseL c) (runL r)
  · simp
  · rw [h1] at h
    cases h2 : (runL r).isEmpty
    · rw [h2] at h; simp at h
    · simp
theorem wideL_o {d r : List UInt8} {c : UInt8} (hb : baseL c ≠ 0) (h : numE (baseL c) (runL r) = 0) : allFig (baseL c) (runL r) = true ∧
    wideL d (c :: r) = if smallV 10 d && smallV (baseL c) (runL r) && fitsV (numV 10 d) (numV (baseL c) (runL r)) then
      .tok ⟨3, [], numV 10 d, numV (baseL c) (runL r), 0⟩ (d.length + 2 + (runL r).length) else .bad 22 := by
  unfold numE at h
  cases h1 : allFig (baseL c) (runL r)
  · rw [h1] at h; simp at h
  · rw [h1] at h
    cases h2 : (runL r).isEmpty
    · refine ⟨rfl, ?_⟩
      rw [wideL, if_neg hb, h1, h2]
      rfl
    · rw [h2] at h; simp at h

theorem cut_small {b : Nat} {l : List UInt8} (h : smallV b l = true) : cutV b l = numV b l := Nat.mod_eq_of_lt (by simpa [smallV] using h)

theorem wide_any (width s : ByteArray) (r : List UInt8) (hd : allFig 10 width.data.toList = true) (hd0 : width.data.toList.isEmpty = false) (h : s.data.toList = 39 :: r) (hs : s.size ≤ 140737488351232) (hwd : width.size ≤ 140737488351232) (W : World) :
    Calls Tryd.prog 66 #[.string width, .string s] W fun e W' => e = gotEnd (wideL width.data.toList r) ∧ Below W.heap.size W W' := by
  match r, h with
  | [], h => exact wide_none width s (by rw [size_list, h]; simp) W _
  | c :: r, h =>
    by_cases hb : baseL c = 0
    · exact wide_base width s c r _ h hb W
    obtain ⟨hx, _, _, _⟩ := ext2 s c 39 r h
    have hle : (s.extract 2 s.size).size ≤ 140737488351232 := by
      rw [size_list, hx]
      have : s.size = r.length + 2 := by rw [size_list, h]; simp
      omega
    have kr := fun W => run_any (s.extract 2 s.size) (by omega) W
    rw [hx] at kr
    have hTl : (runL r).length ≤ 140737488351232 := by
      have h1 := takeWhile_le (p := isPart) r
      have : s.size = r.length + 2 := by rw [size_list, h]; simp
      unfold runL
      omega
    have kd := fun W => number_all width 10 hwd (by omega) (by omega) W
    have e1 : numA 10 width.data.toList = cutV 10 width.data.toList := by unfold numA; rw [hd]; rfl
    have e2 : numB 10 width.data.toList = smallV 10 width.data.toList := by unfold numB; rw [hd]; rfl
    have e3 : numE 10 width.data.toList = 0 := by unfold numE; rw [hd, hd0]; rfl
    rw [e1, e2, e3] at kd
    obtain ⟨h1, hcase⟩ := base_at h hb
    rcases hcase with ⟨hc, hbb⟩ | ⟨hc, hbb⟩ | ⟨hc, hbb⟩
    · have kt := fun W => number_all (bs (runL r)) 16 hTl (by omega) (by omega) W
      rw [list_bs] at kt
      by_cases he : numE 16 (runL r) = 0
      · obtain ⟨ha, hw⟩ := wideL_o (d := width.data.toList) hb (by rw [hbb]; exact he)
        rw [hw]
        rw [hbb] at ha
        rw [he] at kt
        have a1 : numA 16 (runL r) = cutV 16 (runL r) := by unfold numA; rw [ha]; rfl
        have a2 : numB 16 (runL r) = smallV 16 (runL r) := by unfold numB; rw [ha]; rfl
        rw [a1, a2] at kt
        rw [hbb]
        cases hf : smallV 10 width.data.toList
        · rw [hf] at kd
          rw [gotEnd_bad (by simp : _ = Got.bad 22)]
          exact wide_few16 width s (runL r) _ _ kt _ kd h1 hc W kr
        · rw [hf, cut_small hf] at kd
          by_cases hw64 : 64 < numV 10 width.data.toList
          · have : fitsV (numV 10 width.data.toList) (numV 16 (runL r)) = false := by
              have h64 : ¬ ((numV 10 width.data.toList : Nat) : Int) ≤ 64 := by omega
              simp [fitsV]
              intro _ h; omega
            rw [gotEnd_bad (by rw [this]; simp : _ = Got.bad 22)]
            exact wide_w16 width s (runL r) _ _ kt _ kd hw64 h1 hc W kr
          · cases hsm : smallV 16 (runL r)
            · rw [hsm] at kt
              rw [gotEnd_bad (by simp : _ = Got.bad 22)]
              exact wide_sm16 width s (runL r) _ kt _ kd (by omega) h1 hc W kr
            · have hlt : numV 16 (runL r) < 18446744073709551616 := by
                have : numV 16 (runL r) < two64 := by simpa [smallV] using hsm
                exact this
              rw [hsm, cut_small hsm] at kt
              have kf := fun W => fits_any (numV 10 width.data.toList) (numV 16 (runL r)) hlt W
              cases hfi : fitsV (numV 10 width.data.toList) (numV 16 (runL r))
              · rw [hfi] at kf
                rw [gotEnd_bad (by simp : _ = Got.bad 22)]
                exact wide_nf16 width s (runL r) _ kt _ kd kf (by omega) h1 hc W kr
              · rw [hfi] at kf
                rw [gotEnd_tok (n := (width.size : Int) + 2 + ((runL r).length : Int)) (by simp; exact ⟨rfl, rfl⟩) rfl rfl rfl rfl rfl (by rw [size_list]; omega)]
                exact wide_ok16 width s (runL r) _ kt _ kd kf (by omega) hTl hwd h1 hc W kr
      · obtain ⟨hw, he2⟩ := wideL_e (d := width.data.toList) hb (by rw [hbb]; exact he)
        rw [hbb] at he2
        rw [gotEnd_bad hw]
        rw [he2] at kt
        exact wide_e16 width s (runL r) _ _ 21 kt (by decide) h1 hc W kr
    · have kt := fun W => number_all (bs (runL r)) 10 hTl (by omega) (by omega) W
      rw [list_bs] at kt
      by_cases he : numE 10 (runL r) = 0
      · obtain ⟨ha, hw⟩ := wideL_o (d := width.data.toList) hb (by rw [hbb]; exact he)
        rw [hw]
        rw [hbb] at ha
        rw [he] at kt
        have a1 : numA 10 (runL r) = cutV 10 (runL r) := by unfold numA; rw [ha]; rfl
        have a2 : numB 10 (runL r) = smallV 10 (runL r) := by unfold numB; rw [ha]; rfl
        rw [a1, a2] at kt
        rw [hbb]
        cases hf : smallV 10 width.data.toList
        · rw [hf] at kd
          rw [gotEnd_bad (by simp : _ = Got.bad 22)]
          exact wide_few10 width s (runL r) _ _ kt _ kd h1 hc W kr
        · rw [hf, cut_small hf] at kd
          by_cases hw64 : 64 < numV 10 width.data.toList
          · have : fitsV (numV 10 width.data.toList) (numV 10 (runL r)) = false := by
              have h64 : ¬ ((numV 10 width.data.toList : Nat) : Int) ≤ 64 := by omega
              simp [fitsV]
              intro _ h; omega
            rw [gotEnd_bad (by rw [this]; simp : _ = Got.bad 22)]
            exact wide_w10 width s (runL r) _ _ kt _ kd hw64 h1 hc W kr
          · cases hsm : smallV 10 (runL r)
            · rw [hsm] at kt
              rw [gotEnd_bad (by simp : _ = Got.bad 22)]
              exact wide_sm10 width s (runL r) _ kt _ kd (by omega) h1 hc W kr
            · have hlt : numV 10 (runL r) < 18446744073709551616 := by
                have : numV 10 (runL r) < two64 := by simpa [smallV] using hsm
                exact this
              rw [hsm, cut_small hsm] at kt
              have kf := fun W => fits_any (numV 10 width.data.toList) (numV 10 (runL r)) hlt W
              cases hfi : fitsV (numV 10 width.data.toList) (numV 10 (runL r))
              · rw [hfi] at kf
                rw [gotEnd_bad (by simp : _ = Got.bad 22)]
                exact wide_nf10 width s (runL r) _ kt _ kd kf (by omega) h1 hc W kr
              · rw [hfi] at kf
                rw [gotEnd_tok (n := (width.size : Int) + 2 + ((runL r).length : Int)) (by simp; exact ⟨rfl, rfl⟩) rfl rfl rfl rfl rfl (by rw [size_list]; omega)]
                exact wide_ok10 width s (runL r) _ kt _ kd kf (by omega) hTl hwd h1 hc W kr
      · obtain ⟨hw, he2⟩ := wideL_e (d := width.data.toList) hb (by rw [hbb]; exact he)
        rw [hbb] at he2
        rw [gotEnd_bad hw]
        rw [he2] at kt
        exact wide_e10 width s (runL r) _ _ 21 kt (by decide) h1 hc W kr
    · have kt := fun W => number_all (bs (runL r)) 2 hTl (by omega) (by omega) W
      rw [list_bs] at kt
      by_cases he : numE 2 (runL r) = 0
      · obtain ⟨ha, hw⟩ := wideL_o (d := width.data.toList) hb (by rw [hbb]; exact he)
        rw [hw]
        rw [hbb] at ha
        rw [he] at kt
        have a1 : numA 2 (runL r) = cutV 2 (runL r) := by unfold numA; rw [ha]; rfl
        have a2 : numB 2 (runL r) = smallV 2 (runL r) := by unfold numB; rw [ha]; rfl
        rw [a1, a2] at kt
        rw [hbb]
        cases hf : smallV 10 width.data.toList
        · rw [hf] at kd
          rw [gotEnd_bad (by simp : _ = Got.bad 22)]
          exact wide_few2 width s (runL r) _ _ kt _ kd h1 hc W kr
        · rw [hf, cut_small hf] at kd
          by_cases hw64 : 64 < numV 10 width.data.toList
          · have : fitsV (numV 10 width.data.toList) (numV 2 (runL r)) = false := by
              have h64 : ¬ ((numV 10 width.data.toList : Nat) : Int) ≤ 64 := by omega
              simp [fitsV]
              intro _ h; omega
            rw [gotEnd_bad (by rw [this]; simp : _ = Got.bad 22)]
            exact wide_w2 width s (runL r) _ _ kt _ kd hw64 h1 hc W kr
          · cases hsm : smallV 2 (runL r)
            · rw [hsm] at kt
              rw [gotEnd_bad (by simp : _ = Got.bad 22)]
              exact wide_sm2 width s (runL r) _ kt _ kd (by omega) h1 hc W kr
            · have hlt : numV 2 (runL r) < 18446744073709551616 := by
                have : numV 2 (runL r) < two64 := by simpa [smallV] using hsm
                exact this
              rw [hsm, cut_small hsm] at kt
              have kf := fun W => fits_any (numV 10 width.data.toList) (numV 2 (runL r)) hlt W
              cases hfi : fitsV (numV 10 width.data.toList) (numV 2 (runL r))
              · rw [hfi] at kf
                rw [gotEnd_bad (by simp : _ = Got.bad 22)]
                exact wide_nf2 width s (runL r) _ kt _ kd kf (by omega) h1 hc W kr
              · rw [hfi] at kf
                rw [gotEnd_tok (n := (width.size : Int) + 2 + ((runL r).length : Int)) (by simp; exact ⟨rfl, rfl⟩) rfl rfl rfl rfl rfl (by rw [size_list]; omega)]
                exact wide_ok2 width s (runL r) _ kt _ kd kf (by omega) hTl hwd h1 hc W kr
      · obtain ⟨hw, he2⟩ := wideL_e (d := width.data.toList) hb (by rw [hbb]; exact he)
        rw [hbb] at he2
        rw [gotEnd_bad hw]
        rw [he2] at kt
        exact wide_e2 width s (runL r) _ _ 21 kt (by decide) h1 hc W kr
end Go.Proofs.YtpabaabkhmjdhaaDoor
