/- Texts of the seat, merged. -/
import Derived.Test.YtlcfpdmicpggbaaGreatDoorEF71
set_option linter.unusedVariables false
set_option linter.unusedSimpArgs false
set_option maxRecDepth 100000
set_option maxHeartbeats 16000000
namespace Go.Proofs.YtlcfpdmicpggbaaGreatDoor
open Go.RowKit Go.Proofs.Scn
def tokVal (t : Tok) : Value := .agg #[.int .i64 t.k, .string (bs t.s), .int .i64 t.w, .int .u64 t.v, .int .i64 t.p]
def zeroTok : Tok := ⟨0, [], 0, 0, 0⟩
def gotEnd : Got → Ending
 | .tok t n => .returned (.tuple #[tokVal t, .int .i64 n, .int .i64 0])
 | .bad e => .returned (.tuple #[tokVal zeroTok, .int .i64 0, .int .i64 e])
theorem gotEnd_bad {g : Got} {e : Int} (h : g = .bad e) : gotEnd g = .returned (.tuple #[.agg #[.int .i64 0, .string ⟨#[]⟩, .int .i64 0, .int .u64 0, .int .i64 0], .int .i64 0, .int .i64 e]) := by rw [h]; rfl
theorem gotEnd_tok {g : Got} {k w p n : Int} {s : ByteArray} {v : Nat} {t : Tok} {m : Nat} (h : g = .tok t m) (h1 : t.k = k) (h2 : bs t.s = s) (h3 : t.w = w) (h4 : t.v = v) (h5 : t.p = p) (h6 : (m : Int) = n) :
  gotEnd g = .returned (.tuple #[.agg #[.int .i64 k, .string s, .int .i64 w, .int .u64 v, .int .i64 p], .int .i64 n, .int .i64 0]) := by rw [h, gotEnd, tokVal, h1, h2, h3, h4, h5, h6]
theorem ext2 (s : ByteArray) (c c' : UInt8) (r : List UInt8) (h : s.data.toList = c' :: c :: r) : (s.extract 2 s.size).data.toList = r ∧ 1 < s.size ∧ ∃ h1 : 1 < s.size, s[1] = c := by
 have hsz : s.size = r.length + 2 := by rw [size_list, h]; simp
 refine ⟨?_, by omega, by omega, ?_⟩
 ·rw [extract_bs, list_bs, h, hsz]; simp
 ·have : s[1]'(by omega) = s.data.toList[1]'(by show 1 < s.size; omega) := rfl
  rw [this]
  simp [h]
theorem wide_none (width s : ByteArray) (hs : s.size ≤ 1) (W : World) (d : List UInt8) :
  Calls Tryz.prog 220 #[.string width, .string s] W fun e W' => e = gotEnd (wideL d []) ∧ Below W.heap.size W W' := by
 have hd : ¬ (1 : Int) < (s.size : Int) := by omega
 rw [gotEnd_bad (show wideL d [] = .bad 21 from rfl)]
 go_enter Tryz.func220, Tryz.ntmps220
 go_wp2
 refine bodyPost_ret (v := .tuple #[.agg #[.int .i64 0, .string ⟨#[]⟩, .int .i64 0, .int .u64 0, .int .i64 0], .int .i64 0, .int .i64 21]) ?_ rfl ⟨rfl, (Below.refl _ _).alloc (Nat.le_refl _) _⟩
 simp [results, Tryz.results220, go_sem]
theorem nat_ne {c : UInt8} {n : Nat} (k : UInt8) (hk : k.toNat = n) (h : c ≠ k) : ((c.toNat : Int) == (n : Int)) = false := by
 rw [beq_eq_false_iff_ne]
 intro e
 exact h (by rw [← UInt8.toNat_inj, hk]; omega)
theorem wide_base (width s : ByteArray) (c : UInt8) (r d : List UInt8) (h : s.data.toList = 39 :: c :: r) (hb : baseL c = 0) (W : World) :
  Calls Tryz.prog 220 #[.string width, .string s] W fun e W' => e = gotEnd (wideL d (c :: r)) ∧ Below W.heap.size W W' := by
 obtain ⟨_, _, h1, h2⟩ := ext2 s c 39 r h
 have n1 : c ≠ 104 := by rintro rfl; cases hb
 have n2 : c ≠ 100 := by rintro rfl; cases hb
 have n3 : c ≠ 98 := by rintro rfl; cases hb
 have d1 := nat_ne 104 rfl n1
 have d2 := nat_ne 100 rfl n2
 have d3 := nat_ne 98 rfl n3
 rw [← h2] at d1 d2 d3
 have q1 : ((s[1].toNat : Int) == 104) = false := d1
 have q2 : ((s[1].toNat : Int) == 100) = false := d2
 have q3 : ((s[1].toNat : Int) == 98) = false := d3
 have hl : (1 : Int) < (s.size : Int) := by omega
 rw [gotEnd_bad (show wideL d (c :: r) = .bad 21 by rw [wideL, if_pos hb])]
 clear d1 d2 d3 n1 n2 n3 h2 hb h
 go_enter Tryz.func220, Tryz.ntmps220
 go_wp2
 refine bodyPost_ret (v := .tuple #[.agg #[.int .i64 0, .string ⟨#[]⟩, .int .i64 0, .int .u64 0, .int .i64 0], .int .i64 0, .int .i64 21]) ?_ rfl ⟨rfl, (Below.refl _ _).alloc (Nat.le_refl _) _⟩
 simp [results, Tryz.results220, go_sem]
theorem base_at {s : ByteArray} {c : UInt8} {r : List UInt8} (h : s.data.toList = 39 :: c :: r) (hb : baseL c ≠ 0) : ∃ h1 : 1 < s.size, s[1] = 104 ∧ baseL c = 16 ∨ s[1] = 100 ∧ baseL c = 10 ∨ s[1] = 98 ∧ baseL c = 2 := by
 obtain ⟨_, _, h1, h2⟩ := ext2 s c 39 r h
 refine ⟨h1, ?_⟩
 rw [h2]
 unfold baseL at hb ⊢
 split
 ·rename_i e; exact .inl ⟨e, rfl⟩
 ·split
  ·rename_i e; exact .inr (.inl ⟨e, rfl⟩)
  ·split
   ·rename_i e; exact .inr (.inr ⟨e, rfl⟩)
   ·rename_i n1 n2 n3; rw [if_neg n1, if_neg n2, if_neg n3] at hb; exact absurd rfl hb
theorem wide_e16 (width s : ByteArray) (T : List UInt8) (v : Nat) (sm : Bool) (er : Int) (kt : ∀ W, Calls Tryz.prog 221 #[.string (bs T), .int .u64 16] W fun e W' => e = .returned (.tuple #[.int .u64 v, .bool sm, .int .i64 er]) ∧ Below W.heap.size W W') (her : er ≠ 0) (h1 : 1 < s.size) (hc : s[1] = 104) (W : World)
  (kr : ∀ W, Calls Tryz.prog 193 #[.string (s.extract 2 s.size)] W fun e W' => e = .returned (.string (bs T)) ∧ W = W') :
  Calls Tryz.prog 220 #[.string width, .string s] W fun e W' => e = .returned (.tuple #[.agg #[.int .i64 0, .string ⟨#[]⟩, .int .i64 0, .int .u64 0, .int .i64 0], .int .i64 0, .int .i64 er]) ∧ Below W.heap.size W W' := by
 have q104 : ((s[1].toNat : Int) == 104) = true := by rw [hc]; rfl
 have hl : (1 : Int) < (s.size : Int) := by omega
 have KR := Lib.hid kr
 clear kr hc
 have hne : (er != 0) = true := by simpa using her
 clear her
 have KT := Lib.hid kt
 clear kt
 go_enter Tryz.func220, Tryz.ntmps220
 go_wp2_with fail
 refine (KR.out _).mono ?_
 rintro e w' ⟨rfl, rfl⟩
 go_wp2_with fail
 have B := Box5.new W (.int .i64 0) (.string ⟨#[]⟩) (.int .i64 0) (.int .u64 0) (.int .i64 0) 55
 have hW : Below W.heap.size W (W.alloc (.cells #[.int .i64 0, .string ⟨#[]⟩, .int .i64 0, .int .u64 0, .int .i64 0] 55)) := (Below.refl _ _).alloc (Nat.le_refl _) _
 refine (KT.out _).mono ?_
 rintro e W1 ⟨rfl, hb1⟩
 replace B := B.later hb1
 replace hW := hW.trans (hb1.mono hW.size)
 clear hb1
 obtain ⟨c0, c1, c2, c3, c4, f0, f1, f2, f3, f4, lt⟩ := B
 have HW := Lib.hid hW
 clear hW
 go_wp2
 refine bodyPost_ret (v := .tuple #[.agg #[.int .i64 0, .string ⟨#[]⟩, .int .i64 0, .int .u64 0, .int .i64 0], .int .i64 0, .int .i64 er]) ?_ rfl ⟨rfl, (((((HW.out.setCell (Nat.le_refl _) _).setCell (Nat.le_refl _) _).setCell (Nat.le_refl _) _).setCell (Nat.le_refl _) _).setCell (Nat.le_refl _) _)⟩
 simp [results, Tryz.results220, go_sem, c0, c1, c2, c3, c4, f0, f1, f2, f3, f4]
theorem wide_few16 (width s : ByteArray) (T : List UInt8) (v : Nat) (sm : Bool) (kt : ∀ W, Calls Tryz.prog 221 #[.string (bs T), .int .u64 16] W fun e W' => e = .returned (.tuple #[.int .u64 v, .bool sm, .int .i64 0]) ∧ Below W.heap.size W W') (w : Nat) (kd : ∀ W, Calls Tryz.prog 221 #[.string width, .int .u64 10] W fun e W' => e = .returned (.tuple #[.int .u64 w, .bool false, .int .i64 0]) ∧ Below W.heap.size W W') (h1 : 1 < s.size) (hc : s[1] = 104) (W : World)
  (kr : ∀ W, Calls Tryz.prog 193 #[.string (s.extract 2 s.size)] W fun e W' => e = .returned (.string (bs T)) ∧ W = W') :
  Calls Tryz.prog 220 #[.string width, .string s] W fun e W' => e = .returned (.tuple #[.agg #[.int .i64 0, .string ⟨#[]⟩, .int .i64 0, .int .u64 0, .int .i64 0], .int .i64 0, .int .i64 22]) ∧ Below W.heap.size W W' := by
 have q104 : ((s[1].toNat : Int) == 104) = true := by rw [hc]; rfl
 have hl : (1 : Int) < (s.size : Int) := by omega
 have KR := Lib.hid kr
 clear kr hc
 have KT := Lib.hid kt
 clear kt
 go_enter Tryz.func220, Tryz.ntmps220
 go_wp2_with fail
 refine (KR.out _).mono ?_
 rintro e w' ⟨rfl, rfl⟩
 go_wp2_with fail
 have B := Box5.new W (.int .i64 0) (.string ⟨#[]⟩) (.int .i64 0) (.int .u64 0) (.int .i64 0) 55
 have hW : Below W.heap.size W (W.alloc (.cells #[.int .i64 0, .string ⟨#[]⟩, .int .i64 0, .int .u64 0, .int .i64 0] 55)) := (Below.refl _ _).alloc (Nat.le_refl _) _
 refine (KT.out _).mono ?_
 rintro e W1 ⟨rfl, hb1⟩
 replace B := B.later hb1
 replace hW := hW.trans (hb1.mono hW.size)
 clear hb1
 have KD := Lib.hid kd
 clear kd
 go_wp2_with fail
 refine (KD.out _).mono ?_
 rintro e W2 ⟨rfl, hb2⟩
 replace B := B.later hb2
 replace hW := hW.trans (hb2.mono hW.size)
 clear hb2
 obtain ⟨c0, c1, c2, c3, c4, f0, f1, f2, f3, f4, lt⟩ := B
 have HW := Lib.hid hW
 clear hW
 go_wp2
 refine bodyPost_ret (v := .tuple #[.agg #[.int .i64 0, .string ⟨#[]⟩, .int .i64 0, .int .u64 0, .int .i64 0], .int .i64 0, .int .i64 22]) ?_ rfl ⟨rfl, (((((HW.out.setCell (Nat.le_refl _) _).setCell (Nat.le_refl _) _).setCell (Nat.le_refl _) _).setCell (Nat.le_refl _) _).setCell (Nat.le_refl _) _)⟩
 simp [results, Tryz.results220, go_sem, c0, c1, c2, c3, c4, f0, f1, f2, f3, f4]
theorem wide_w16 (width s : ByteArray) (T : List UInt8) (v : Nat) (sm : Bool) (kt : ∀ W, Calls Tryz.prog 221 #[.string (bs T), .int .u64 16] W fun e W' => e = .returned (.tuple #[.int .u64 v, .bool sm, .int .i64 0]) ∧ Below W.heap.size W W') (w : Nat) (kd : ∀ W, Calls Tryz.prog 221 #[.string width, .int .u64 10] W fun e W' => e = .returned (.tuple #[.int .u64 w, .bool true, .int .i64 0]) ∧ Below W.heap.size W W') (hw : 64 < w) (h1 : 1 < s.size) (hc : s[1] = 104) (W : World)
  (kr : ∀ W, Calls Tryz.prog 193 #[.string (s.extract 2 s.size)] W fun e W' => e = .returned (.string (bs T)) ∧ W = W') :
  Calls Tryz.prog 220 #[.string width, .string s] W fun e W' => e = .returned (.tuple #[.agg #[.int .i64 0, .string ⟨#[]⟩, .int .i64 0, .int .u64 0, .int .i64 0], .int .i64 0, .int .i64 22]) ∧ Below W.heap.size W W' := by
 have q104 : ((s[1].toNat : Int) == 104) = true := by rw [hc]; rfl
 have hl : (1 : Int) < (s.size : Int) := by omega
 have KR := Lib.hid kr
 clear kr hc
 have hwi : (64 : Int) < (w : Int) := by omega
 clear hw
 have KT := Lib.hid kt
 clear kt
 go_enter Tryz.func220, Tryz.ntmps220
 go_wp2_with fail
 refine (KR.out _).mono ?_
 rintro e w' ⟨rfl, rfl⟩
 go_wp2_with fail
 have B := Box5.new W (.int .i64 0) (.string ⟨#[]⟩) (.int .i64 0) (.int .u64 0) (.int .i64 0) 55
 have hW : Below W.heap.size W (W.alloc (.cells #[.int .i64 0, .string ⟨#[]⟩, .int .i64 0, .int .u64 0, .int .i64 0] 55)) := (Below.refl _ _).alloc (Nat.le_refl _) _
 refine (KT.out _).mono ?_
 rintro e W1 ⟨rfl, hb1⟩
 replace B := B.later hb1
 replace hW := hW.trans (hb1.mono hW.size)
 clear hb1
 have KD := Lib.hid kd
 clear kd
 go_wp2_with fail
 refine (KD.out _).mono ?_
 rintro e W2 ⟨rfl, hb2⟩
 replace B := B.later hb2
 replace hW := hW.trans (hb2.mono hW.size)
 clear hb2
 obtain ⟨c0, c1, c2, c3, c4, f0, f1, f2, f3, f4, lt⟩ := B
 have HW := Lib.hid hW
 clear hW
 go_wp2
 refine bodyPost_ret (v := .tuple #[.agg #[.int .i64 0, .string ⟨#[]⟩, .int .i64 0, .int .u64 0, .int .i64 0], .int .i64 0, .int .i64 22]) ?_ rfl ⟨rfl, (((((HW.out.setCell (Nat.le_refl _) _).setCell (Nat.le_refl _) _).setCell (Nat.le_refl _) _).setCell (Nat.le_refl _) _).setCell (Nat.le_refl _) _)⟩
 simp [results, Tryz.results220, go_sem, c0, c1, c2, c3, c4, f0, f1, f2, f3, f4]
theorem wide_sm16 (width s : ByteArray) (T : List UInt8) (v : Nat) (kt : ∀ W, Calls Tryz.prog 221 #[.string (bs T), .int .u64 16] W fun e W' => e = .returned (.tuple #[.int .u64 v, .bool false, .int .i64 0]) ∧ Below W.heap.size W W') (w : Nat) (kd : ∀ W, Calls Tryz.prog 221 #[.string width, .int .u64 10] W fun e W' => e = .returned (.tuple #[.int .u64 w, .bool true, .int .i64 0]) ∧ Below W.heap.size W W') (hw : w ≤ 64) (h1 : 1 < s.size) (hc : s[1] = 104) (W : World)
  (kr : ∀ W, Calls Tryz.prog 193 #[.string (s.extract 2 s.size)] W fun e W' => e = .returned (.string (bs T)) ∧ W = W') :
  Calls Tryz.prog 220 #[.string width, .string s] W fun e W' => e = .returned (.tuple #[.agg #[.int .i64 0, .string ⟨#[]⟩, .int .i64 0, .int .u64 0, .int .i64 0], .int .i64 0, .int .i64 22]) ∧ Below W.heap.size W W' := by
 have q104 : ((s[1].toNat : Int) == 104) = true := by rw [hc]; rfl
 have hl : (1 : Int) < (s.size : Int) := by omega
 have KR := Lib.hid kr
 clear kr hc
 have hwi : (w : Int) ≤ 64 := by omega
 clear hw
 have KT := Lib.hid kt
 clear kt
 go_enter Tryz.func220, Tryz.ntmps220
 go_wp2_with fail
 refine (KR.out _).mono ?_
 rintro e w' ⟨rfl, rfl⟩
 go_wp2_with fail
 have B := Box5.new W (.int .i64 0) (.string ⟨#[]⟩) (.int .i64 0) (.int .u64 0) (.int .i64 0) 55
 have hW : Below W.heap.size W (W.alloc (.cells #[.int .i64 0, .string ⟨#[]⟩, .int .i64 0, .int .u64 0, .int .i64 0] 55)) := (Below.refl _ _).alloc (Nat.le_refl _) _
 refine (KT.out _).mono ?_
 rintro e W1 ⟨rfl, hb1⟩
 replace B := B.later hb1
 replace hW := hW.trans (hb1.mono hW.size)
 clear hb1
 have KD := Lib.hid kd
 clear kd
 go_wp2_with fail
 refine (KD.out _).mono ?_
 rintro e W2 ⟨rfl, hb2⟩
 replace B := B.later hb2
 replace hW := hW.trans (hb2.mono hW.size)
 clear hb2
 obtain ⟨c0, c1, c2, c3, c4, f0, f1, f2, f3, f4, lt⟩ := B
 have HW := Lib.hid hW
 clear hW
 go_wp2
 refine bodyPost_ret (v := .tuple #[.agg #[.int .i64 0, .string ⟨#[]⟩, .int .i64 0, .int .u64 0, .int .i64 0], .int .i64 0, .int .i64 22]) ?_ rfl ⟨rfl, (((((HW.out.setCell (Nat.le_refl _) _).setCell (Nat.le_refl _) _).setCell (Nat.le_refl _) _).setCell (Nat.le_refl _) _).setCell (Nat.le_refl _) _)⟩
 simp [results, Tryz.results220, go_sem, c0, c1, c2, c3, c4, f0, f1, f2, f3, f4]
theorem wide_nf16 (width s : ByteArray) (T : List UInt8) (v : Nat) (kt : ∀ W, Calls Tryz.prog 221 #[.string (bs T), .int .u64 16] W fun e W' => e = .returned (.tuple #[.int .u64 v, .bool true, .int .i64 0]) ∧ Below W.heap.size W W') (w : Nat) (kd : ∀ W, Calls Tryz.prog 221 #[.string width, .int .u64 10] W fun e W' => e = .returned (.tuple #[.int .u64 w, .bool true, .int .i64 0]) ∧ Below W.heap.size W W') (kf : ∀ W, Calls Tryz.prog 137 #[.int .i64 w, .int .u64 v] W fun e W' => e = .returned (.bool false) ∧ W = W') (hw : w ≤ 64) (h1 : 1 < s.size) (hc : s[1] = 104) (W : World)
  (kr : ∀ W, Calls Tryz.prog 193 #[.string (s.extract 2 s.size)] W fun e W' => e = .returned (.string (bs T)) ∧ W = W') :
  Calls Tryz.prog 220 #[.string width, .string s] W fun e W' => e = .returned (.tuple #[.agg #[.int .i64 0, .string ⟨#[]⟩, .int .i64 0, .int .u64 0, .int .i64 0], .int .i64 0, .int .i64 22]) ∧ Below W.heap.size W W' := by
 have q104 : ((s[1].toNat : Int) == 104) = true := by rw [hc]; rfl
 have hl : (1 : Int) < (s.size : Int) := by omega
 have KR := Lib.hid kr
 clear kr hc
 have hwi : (w : Int) ≤ 64 := by omega
 clear hw
 have hwr : IntKind.i64.wrap (w : Int) = (w : Int) := IntWalk.i64_in _ (by omega)
 have KT := Lib.hid kt
 clear kt
 go_enter Tryz.func220, Tryz.ntmps220
 go_wp2_with fail
 refine (KR.out _).mono ?_
 rintro e w' ⟨rfl, rfl⟩
 go_wp2_with fail
 have B := Box5.new W (.int .i64 0) (.string ⟨#[]⟩) (.int .i64 0) (.int .u64 0) (.int .i64 0) 55
 have hW : Below W.heap.size W (W.alloc (.cells #[.int .i64 0, .string ⟨#[]⟩, .int .i64 0, .int .u64 0, .int .i64 0] 55)) := (Below.refl _ _).alloc (Nat.le_refl _) _
 refine (KT.out _).mono ?_
 rintro e W1 ⟨rfl, hb1⟩
 replace B := B.later hb1
 replace hW := hW.trans (hb1.mono hW.size)
 clear hb1
 have KD := Lib.hid kd
 clear kd
 go_wp2_with fail
 refine (KD.out _).mono ?_
 rintro e W2 ⟨rfl, hb2⟩
 replace B := B.later hb2
 replace hW := hW.trans (hb2.mono hW.size)
 clear hb2
 have KF := Lib.hid kf
 clear kf
 go_wp2_with fail
 refine (KF.out _).mono ?_
 rintro e w' ⟨rfl, rfl⟩
 obtain ⟨c0, c1, c2, c3, c4, f0, f1, f2, f3, f4, lt⟩ := B
 have HW := Lib.hid hW
 clear hW
 go_wp2
 refine bodyPost_ret (v := .tuple #[.agg #[.int .i64 0, .string ⟨#[]⟩, .int .i64 0, .int .u64 0, .int .i64 0], .int .i64 0, .int .i64 22]) ?_ rfl ⟨rfl, (((((HW.out.setCell (Nat.le_refl _) _).setCell (Nat.le_refl _) _).setCell (Nat.le_refl _) _).setCell (Nat.le_refl _) _).setCell (Nat.le_refl _) _)⟩
 simp [results, Tryz.results220, go_sem, c0, c1, c2, c3, c4, f0, f1, f2, f3, f4]
theorem wide_ok16 (width s : ByteArray) (T : List UInt8) (v : Nat) (kt : ∀ W, Calls Tryz.prog 221 #[.string (bs T), .int .u64 16] W fun e W' => e = .returned (.tuple #[.int .u64 v, .bool true, .int .i64 0]) ∧ Below W.heap.size W W') (w : Nat) (kd : ∀ W, Calls Tryz.prog 221 #[.string width, .int .u64 10] W fun e W' => e = .returned (.tuple #[.int .u64 w, .bool true, .int .i64 0]) ∧ Below W.heap.size W W') (kf : ∀ W, Calls Tryz.prog 137 #[.int .i64 w, .int .u64 v] W fun e W' => e = .returned (.bool true) ∧ W = W') (hw : w ≤ 64) (hT : T.length ≤ 140737488351232) (hwd : width.size ≤ 140737488351232) (h1 : 1 < s.size) (hc : s[1] = 104) (W : World)
  (kr : ∀ W, Calls Tryz.prog 193 #[.string (s.extract 2 s.size)] W fun e W' => e = .returned (.string (bs T)) ∧ W = W') :
  Calls Tryz.prog 220 #[.string width, .string s] W fun e W' => e = .returned (.tuple #[.agg #[.int .i64 3, .string ⟨#[]⟩, .int .i64 w, .int .u64 v, .int .i64 0], .int .i64 ((width.size : Int) + 2 + (T.length : Int)), .int .i64 0]) ∧ Below W.heap.size W W' := by
 have q104 : ((s[1].toNat : Int) == 104) = true := by rw [hc]; rfl
 have hl : (1 : Int) < (s.size : Int) := by omega
 have KR := Lib.hid kr
 clear kr hc
 have hwi : (w : Int) ≤ 64 := by omega
 clear hw
 have hwr : IntKind.i64.wrap (w : Int) = (w : Int) := IntWalk.i64_in _ (by omega)
 have hT' : (T.length : Int) ≤ 140737488351232 := by omega
 have hwd' : (width.size : Int) ≤ 140737488351232 := by omega
 have hsz : ((bs T).size : Int) ≤ 140737488351232 := hT'
 have KT := Lib.hid kt
 clear kt
 go_enter Tryz.func220, Tryz.ntmps220
 go_wp2_with fail
 refine (KR.out _).mono ?_
 rintro e w' ⟨rfl, rfl⟩
 go_wp2_with fail
 have B := Box5.new W (.int .i64 0) (.string ⟨#[]⟩) (.int .i64 0) (.int .u64 0) (.int .i64 0) 55
 have hW : Below W.heap.size W (W.alloc (.cells #[.int .i64 0, .string ⟨#[]⟩, .int .i64 0, .int .u64 0, .int .i64 0] 55)) := (Below.refl _ _).alloc (Nat.le_refl _) _
 refine (KT.out _).mono ?_
 rintro e W1 ⟨rfl, hb1⟩
 replace B := B.later hb1
 replace hW := hW.trans (hb1.mono hW.size)
 clear hb1
 have KD := Lib.hid kd
 clear kd
 go_wp2_with fail
 refine (KD.out _).mono ?_
 rintro e W2 ⟨rfl, hb2⟩
 replace B := B.later hb2
 replace hW := hW.trans (hb2.mono hW.size)
 clear hb2
 have KF := Lib.hid kf
 clear kf
 go_wp2_with fail
 refine (KF.out _).mono ?_
 rintro e w' ⟨rfl, rfl⟩
 obtain ⟨c0, c1, c2, c3, c4, f0, f1, f2, f3, f4, lt⟩ := B
 have HW := Lib.hid hW
 clear hW
 go_wp2
 refine bodyPost_ret (v := .tuple #[.agg #[.int .i64 3, .string ⟨#[]⟩, .int .i64 w, .int .u64 v, .int .i64 0], .int .i64 ((width.size : Int) + 2 + ((bs T).size : Int)), .int .i64 0]) ?_ rfl ⟨rfl, (((((HW.out.setCell (Nat.le_refl _) _).setCell (Nat.le_refl _) _).setCell (Nat.le_refl _) _).setCell (Nat.le_refl _) _).setCell (Nat.le_refl _) _)⟩
 simp [results, Tryz.results220, go_sem, c0, c1, c2, c3, c4, f0, f1, f2, f3, f4]
theorem wide_e10 (width s : ByteArray) (T : List UInt8) (v : Nat) (sm : Bool) (er : Int) (kt : ∀ W, Calls Tryz.prog 221 #[.string (bs T), .int .u64 10] W fun e W' => e = .returned (.tuple #[.int .u64 v, .bool sm, .int .i64 er]) ∧ Below W.heap.size W W') (her : er ≠ 0) (h1 : 1 < s.size) (hc : s[1] = 100) (W : World)
  (kr : ∀ W, Calls Tryz.prog 193 #[.string (s.extract 2 s.size)] W fun e W' => e = .returned (.string (bs T)) ∧ W = W') :
  Calls Tryz.prog 220 #[.string width, .string s] W fun e W' => e = .returned (.tuple #[.agg #[.int .i64 0, .string ⟨#[]⟩, .int .i64 0, .int .u64 0, .int .i64 0], .int .i64 0, .int .i64 er]) ∧ Below W.heap.size W W' := by
 have q104 : ((s[1].toNat : Int) == 104) = false := by rw [hc]; rfl
 have q100 : ((s[1].toNat : Int) == 100) = true := by rw [hc]; rfl
 have hl : (1 : Int) < (s.size : Int) := by omega
 have KR := Lib.hid kr
 clear kr hc
 have hne : (er != 0) = true := by simpa using her
 clear her
 have KT := Lib.hid kt
 clear kt
 go_enter Tryz.func220, Tryz.ntmps220
 go_wp2_with fail
 refine (KR.out _).mono ?_
 rintro e w' ⟨rfl, rfl⟩
 go_wp2_with fail
 have B := Box5.new W (.int .i64 0) (.string ⟨#[]⟩) (.int .i64 0) (.int .u64 0) (.int .i64 0) 55
 have hW : Below W.heap.size W (W.alloc (.cells #[.int .i64 0, .string ⟨#[]⟩, .int .i64 0, .int .u64 0, .int .i64 0] 55)) := (Below.refl _ _).alloc (Nat.le_refl _) _
 refine (KT.out _).mono ?_
 rintro e W1 ⟨rfl, hb1⟩
 replace B := B.later hb1
 replace hW := hW.trans (hb1.mono hW.size)
 clear hb1
 obtain ⟨c0, c1, c2, c3, c4, f0, f1, f2, f3, f4, lt⟩ := B
 have HW := Lib.hid hW
 clear hW
 go_wp2
 refine bodyPost_ret (v := .tuple #[.agg #[.int .i64 0, .string ⟨#[]⟩, .int .i64 0, .int .u64 0, .int .i64 0], .int .i64 0, .int .i64 er]) ?_ rfl ⟨rfl, (((((HW.out.setCell (Nat.le_refl _) _).setCell (Nat.le_refl _) _).setCell (Nat.le_refl _) _).setCell (Nat.le_refl _) _).setCell (Nat.le_refl _) _)⟩
 simp [results, Tryz.results220, go_sem, c0, c1, c2, c3, c4, f0, f1, f2, f3, f4]
theorem wide_few10 (width s : ByteArray) (T : List UInt8) (v : Nat) (sm : Bool) (kt : ∀ W, Calls Tryz.prog 221 #[.string (bs T), .int .u64 10] W fun e W' => e = .returned (.tuple #[.int .u64 v, .bool sm, .int .i64 0]) ∧ Below W.heap.size W W') (w : Nat) (kd : ∀ W, Calls Tryz.prog 221 #[.string width, .int .u64 10] W fun e W' => e = .returned (.tuple #[.int .u64 w, .bool false, .int .i64 0]) ∧ Below W.heap.size W W') (h1 : 1 < s.size) (hc : s[1] = 100) (W : World)
  (kr : ∀ W, Calls Tryz.prog 193 #[.string (s.extract 2 s.size)] W fun e W' => e = .returned (.string (bs T)) ∧ W = W') :
  Calls Tryz.prog 220 #[.string width, .string s] W fun e W' => e = .returned (.tuple #[.agg #[.int .i64 0, .string ⟨#[]⟩, .int .i64 0, .int .u64 0, .int .i64 0], .int .i64 0, .int .i64 22]) ∧ Below W.heap.size W W' := by
 have q104 : ((s[1].toNat : Int) == 104) = false := by rw [hc]; rfl
 have q100 : ((s[1].toNat : Int) == 100) = true := by rw [hc]; rfl
 have hl : (1 : Int) < (s.size : Int) := by omega
 have KR := Lib.hid kr
 clear kr hc
 have KT := Lib.hid kt
 clear kt
 go_enter Tryz.func220, Tryz.ntmps220
 go_wp2_with fail
 refine (KR.out _).mono ?_
 rintro e w' ⟨rfl, rfl⟩
 go_wp2_with fail
 have B := Box5.new W (.int .i64 0) (.string ⟨#[]⟩) (.int .i64 0) (.int .u64 0) (.int .i64 0) 55
 have hW : Below W.heap.size W (W.alloc (.cells #[.int .i64 0, .string ⟨#[]⟩, .int .i64 0, .int .u64 0, .int .i64 0] 55)) := (Below.refl _ _).alloc (Nat.le_refl _) _
 refine (KT.out _).mono ?_
 rintro e W1 ⟨rfl, hb1⟩
 replace B := B.later hb1
 replace hW := hW.trans (hb1.mono hW.size)
 clear hb1
 have KD := Lib.hid kd
 clear kd
 go_wp2_with fail
 refine (KD.out _).mono ?_
 rintro e W2 ⟨rfl, hb2⟩
 replace B := B.later hb2
 replace hW := hW.trans (hb2.mono hW.size)
 clear hb2
 obtain ⟨c0, c1, c2, c3, c4, f0, f1, f2, f3, f4, lt⟩ := B
 have HW := Lib.hid hW
 clear hW
 go_wp2
 refine bodyPost_ret (v := .tuple #[.agg #[.int .i64 0, .string ⟨#[]⟩, .int .i64 0, .int .u64 0, .int .i64 0], .int .i64 0, .int .i64 22]) ?_ rfl ⟨rfl, (((((HW.out.setCell (Nat.le_refl _) _).setCell (Nat.le_refl _) _).setCell (Nat.le_refl _) _).setCell (Nat.le_refl _) _).setCell (Nat.le_refl _) _)⟩
 simp [results, Tryz.results220, go_sem, c0, c1, c2, c3, c4, f0, f1, f2, f3, f4]
theorem wide_w10 (width s : ByteArray) (T : List UInt8) (v : Nat) (sm : Bool) (kt : ∀ W, Calls Tryz.prog 221 #[.string (bs T), .int .u64 10] W fun e W' => e = .returned (.tuple #[.int .u64 v, .bool sm, .int .i64 0]) ∧ Below W.heap.size W W') (w : Nat) (kd : ∀ W, Calls Tryz.prog 221 #[.string width, .int .u64 10] W fun e W' => e = .returned (.tuple #[.int .u64 w, .bool true, .int .i64 0]) ∧ Below W.heap.size W W') (hw : 64 < w) (h1 : 1 < s.size) (hc : s[1] = 100) (W : World)
  (kr : ∀ W, Calls Tryz.prog 193 #[.string (s.extract 2 s.size)] W fun e W' => e = .returned (.string (bs T)) ∧ W = W') :
  Calls Tryz.prog 220 #[.string width, .string s] W fun e W' => e = .returned (.tuple #[.agg #[.int .i64 0, .string ⟨#[]⟩, .int .i64 0, .int .u64 0, .int .i64 0], .int .i64 0, .int .i64 22]) ∧ Below W.heap.size W W' := by
 have q104 : ((s[1].toNat : Int) == 104) = false := by rw [hc]; rfl
 have q100 : ((s[1].toNat : Int) == 100) = true := by rw [hc]; rfl
 have hl : (1 : Int) < (s.size : Int) := by omega
 have KR := Lib.hid kr
 clear kr hc
 have hwi : (64 : Int) < (w : Int) := by omega
 clear hw
 have KT := Lib.hid kt
 clear kt
 go_enter Tryz.func220, Tryz.ntmps220
 go_wp2_with fail
 refine (KR.out _).mono ?_
 rintro e w' ⟨rfl, rfl⟩
 go_wp2_with fail
 have B := Box5.new W (.int .i64 0) (.string ⟨#[]⟩) (.int .i64 0) (.int .u64 0) (.int .i64 0) 55
 have hW : Below W.heap.size W (W.alloc (.cells #[.int .i64 0, .string ⟨#[]⟩, .int .i64 0, .int .u64 0, .int .i64 0] 55)) := (Below.refl _ _).alloc (Nat.le_refl _) _
 refine (KT.out _).mono ?_
 rintro e W1 ⟨rfl, hb1⟩
 replace B := B.later hb1
 replace hW := hW.trans (hb1.mono hW.size)
 clear hb1
 have KD := Lib.hid kd
 clear kd
 go_wp2_with fail
 refine (KD.out _).mono ?_
 rintro e W2 ⟨rfl, hb2⟩
 replace B := B.later hb2
 replace hW := hW.trans (hb2.mono hW.size)
 clear hb2
 obtain ⟨c0, c1, c2, c3, c4, f0, f1, f2, f3, f4, lt⟩ := B
 have HW := Lib.hid hW
 clear hW
 go_wp2
 refine bodyPost_ret (v := .tuple #[.agg #[.int .i64 0, .string ⟨#[]⟩, .int .i64 0, .int .u64 0, .int .i64 0], .int .i64 0, .int .i64 22]) ?_ rfl ⟨rfl, (((((HW.out.setCell (Nat.le_refl _) _).setCell (Nat.le_refl _) _).setCell (Nat.le_refl _) _).setCell (Nat.le_refl _) _).setCell (Nat.le_refl _) _)⟩
 simp [results, Tryz.results220, go_sem, c0, c1, c2, c3, c4, f0, f1, f2, f3, f4]
theorem wide_sm10 (width s : ByteArray) (T : List UInt8) (v : Nat) (kt : ∀ W, Calls Tryz.prog 221 #[.string (bs T), .int .u64 10] W fun e W' => e = .returned (.tuple #[.int .u64 v, .bool false, .int .i64 0]) ∧ Below W.heap.size W W') (w : Nat) (kd : ∀ W, Calls Tryz.prog 221 #[.string width, .int .u64 10] W fun e W' => e = .returned (.tuple #[.int .u64 w, .bool true, .int .i64 0]) ∧ Below W.heap.size W W') (hw : w ≤ 64) (h1 : 1 < s.size) (hc : s[1] = 100) (W : World)
  (kr : ∀ W, Calls Tryz.prog 193 #[.string (s.extract 2 s.size)] W fun e W' => e = .returned (.string (bs T)) ∧ W = W') :
  Calls Tryz.prog 220 #[.string width, .string s] W fun e W' => e = .returned (.tuple #[.agg #[.int .i64 0, .string ⟨#[]⟩, .int .i64 0, .int .u64 0, .int .i64 0], .int .i64 0, .int .i64 22]) ∧ Below W.heap.size W W' := by
 have q104 : ((s[1].toNat : Int) == 104) = false := by rw [hc]; rfl
 have q100 : ((s[1].toNat : Int) == 100) = true := by rw [hc]; rfl
 have hl : (1 : Int) < (s.size : Int) := by omega
 have KR := Lib.hid kr
 clear kr hc
 have hwi : (w : Int) ≤ 64 := by omega
 clear hw
 have KT := Lib.hid kt
 clear kt
 go_enter Tryz.func220, Tryz.ntmps220
 go_wp2_with fail
 refine (KR.out _).mono ?_
 rintro e w' ⟨rfl, rfl⟩
 go_wp2_with fail
 have B := Box5.new W (.int .i64 0) (.string ⟨#[]⟩) (.int .i64 0) (.int .u64 0) (.int .i64 0) 55
 have hW : Below W.heap.size W (W.alloc (.cells #[.int .i64 0, .string ⟨#[]⟩, .int .i64 0, .int .u64 0, .int .i64 0] 55)) := (Below.refl _ _).alloc (Nat.le_refl _) _
 refine (KT.out _).mono ?_
 rintro e W1 ⟨rfl, hb1⟩
 replace B := B.later hb1
 replace hW := hW.trans (hb1.mono hW.size)
 clear hb1
 have KD := Lib.hid kd
 clear kd
 go_wp2_with fail
 refine (KD.out _).mono ?_
 rintro e W2 ⟨rfl, hb2⟩
 replace B := B.later hb2
 replace hW := hW.trans (hb2.mono hW.size)
 clear hb2
 obtain ⟨c0, c1, c2, c3, c4, f0, f1, f2, f3, f4, lt⟩ := B
 have HW := Lib.hid hW
 clear hW
 go_wp2
 refine bodyPost_ret (v := .tuple #[.agg #[.int .i64 0, .string ⟨#[]⟩, .int .i64 0, .int .u64 0, .int .i64 0], .int .i64 0, .int .i64 22]) ?_ rfl ⟨rfl, (((((HW.out.setCell (Nat.le_refl _) _).setCell (Nat.le_refl _) _).setCell (Nat.le_refl _) _).setCell (Nat.le_refl _) _).setCell (Nat.le_refl _) _)⟩
 simp [results, Tryz.results220, go_sem, c0, c1, c2, c3, c4, f0, f1, f2, f3, f4]
theorem wide_nf10 (width s : ByteArray) (T : List UInt8) (v : Nat) (kt : ∀ W, Calls Tryz.prog 221 #[.string (bs T), .int .u64 10] W fun e W' => e = .returned (.tuple #[.int .u64 v, .bool true, .int .i64 0]) ∧ Below W.heap.size W W') (w : Nat) (kd : ∀ W, Calls Tryz.prog 221 #[.string width, .int .u64 10] W fun e W' => e = .returned (.tuple #[.int .u64 w, .bool true, .int .i64 0]) ∧ Below W.heap.size W W') (kf : ∀ W, Calls Tryz.prog 137 #[.int .i64 w, .int .u64 v] W fun e W' => e = .returned (.bool false) ∧ W = W') (hw : w ≤ 64) (h1 : 1 < s.size) (hc : s[1] = 100) (W : World)
  (kr : ∀ W, Calls Tryz.prog 193 #[.string (s.extract 2 s.size)] W fun e W' => e = .returned (.string (bs T)) ∧ W = W') :
  Calls Tryz.prog 220 #[.string width, .string s] W fun e W' => e = .returned (.tuple #[.agg #[.int .i64 0, .string ⟨#[]⟩, .int .i64 0, .int .u64 0, .int .i64 0], .int .i64 0, .int .i64 22]) ∧ Below W.heap.size W W' := by
 have q104 : ((s[1].toNat : Int) == 104) = false := by rw [hc]; rfl
 have q100 : ((s[1].toNat : Int) == 100) = true := by rw [hc]; rfl
 have hl : (1 : Int) < (s.size : Int) := by omega
 have KR := Lib.hid kr
 clear kr hc
 have hwi : (w : Int) ≤ 64 := by omega
 clear hw
 have hwr : IntKind.i64.wrap (w : Int) = (w : Int) := IntWalk.i64_in _ (by omega)
 have KT := Lib.hid kt
 clear kt
 go_enter Tryz.func220, Tryz.ntmps220
 go_wp2_with fail
 refine (KR.out _).mono ?_
 rintro e w' ⟨rfl, rfl⟩
 go_wp2_with fail
 have B := Box5.new W (.int .i64 0) (.string ⟨#[]⟩) (.int .i64 0) (.int .u64 0) (.int .i64 0) 55
 have hW : Below W.heap.size W (W.alloc (.cells #[.int .i64 0, .string ⟨#[]⟩, .int .i64 0, .int .u64 0, .int .i64 0] 55)) := (Below.refl _ _).alloc (Nat.le_refl _) _
 refine (KT.out _).mono ?_
 rintro e W1 ⟨rfl, hb1⟩
 replace B := B.later hb1
 replace hW := hW.trans (hb1.mono hW.size)
 clear hb1
 have KD := Lib.hid kd
 clear kd
 go_wp2_with fail
 refine (KD.out _).mono ?_
 rintro e W2 ⟨rfl, hb2⟩
 replace B := B.later hb2
 replace hW := hW.trans (hb2.mono hW.size)
 clear hb2
 have KF := Lib.hid kf
 clear kf
 go_wp2_with fail
 refine (KF.out _).mono ?_
 rintro e w' ⟨rfl, rfl⟩
 obtain ⟨c0, c1, c2, c3, c4, f0, f1, f2, f3, f4, lt⟩ := B
 have HW := Lib.hid hW
 clear hW
 go_wp2
 refine bodyPost_ret (v := .tuple #[.agg #[.int .i64 0, .string ⟨#[]⟩, .int .i64 0, .int .u64 0, .int .i64 0], .int .i64 0, .int .i64 22]) ?_ rfl ⟨rfl, (((((HW.out.setCell (Nat.le_refl _) _).setCell (Nat.le_refl _) _).setCell (Nat.le_refl _) _).setCell (Nat.le_refl _) _).setCell (Nat.le_refl _) _)⟩
 simp [results, Tryz.results220, go_sem, c0, c1, c2, c3, c4, f0, f1, f2, f3, f4]
theorem wide_ok10 (width s : ByteArray) (T : List UInt8) (v : Nat) (kt : ∀ W, Calls Tryz.prog 221 #[.string (bs T), .int .u64 10] W fun e W' => e = .returned (.tuple #[.int .u64 v, .bool true, .int .i64 0]) ∧ Below W.heap.size W W') (w : Nat) (kd : ∀ W, Calls Tryz.prog 221 #[.string width, .int .u64 10] W fun e W' => e = .returned (.tuple #[.int .u64 w, .bool true, .int .i64 0]) ∧ Below W.heap.size W W') (kf : ∀ W, Calls Tryz.prog 137 #[.int .i64 w, .int .u64 v] W fun e W' => e = .returned (.bool true) ∧ W = W') (hw : w ≤ 64) (hT : T.length ≤ 140737488351232) (hwd : width.size ≤ 140737488351232) (h1 : 1 < s.size) (hc : s[1] = 100) (W : World)
  (kr : ∀ W, Calls Tryz.prog 193 #[.string (s.extract 2 s.size)] W fun e W' => e = .returned (.string (bs T)) ∧ W = W') :
  Calls Tryz.prog 220 #[.string width, .string s] W fun e W' => e = .returned (.tuple #[.agg #[.int .i64 3, .string ⟨#[]⟩, .int .i64 w, .int .u64 v, .int .i64 0], .int .i64 ((width.size : Int) + 2 + (T.length : Int)), .int .i64 0]) ∧ Below W.heap.size W W' := by
 have q104 : ((s[1].toNat : Int) == 104) = false := by rw [hc]; rfl
 have q100 : ((s[1].toNat : Int) == 100) = true := by rw [hc]; rfl
 have hl : (1 : Int) < (s.size : Int) := by omega
 have KR := Lib.hid kr
 clear kr hc
 have hwi : (w : Int) ≤ 64 := by omega
 clear hw
 have hwr : IntKind.i64.wrap (w : Int) = (w : Int) := IntWalk.i64_in _ (by omega)
 have hT' : (T.length : Int) ≤ 140737488351232 := by omega
 have hwd' : (width.size : Int) ≤ 140737488351232 := by omega
 have hsz : ((bs T).size : Int) ≤ 140737488351232 := hT'
 have KT := Lib.hid kt
 clear kt
 go_enter Tryz.func220, Tryz.ntmps220
 go_wp2_with fail
 refine (KR.out _).mono ?_
 rintro e w' ⟨rfl, rfl⟩
 go_wp2_with fail
 have B := Box5.new W (.int .i64 0) (.string ⟨#[]⟩) (.int .i64 0) (.int .u64 0) (.int .i64 0) 55
 have hW : Below W.heap.size W (W.alloc (.cells #[.int .i64 0, .string ⟨#[]⟩, .int .i64 0, .int .u64 0, .int .i64 0] 55)) := (Below.refl _ _).alloc (Nat.le_refl _) _
 refine (KT.out _).mono ?_
 rintro e W1 ⟨rfl, hb1⟩
 replace B := B.later hb1
 replace hW := hW.trans (hb1.mono hW.size)
 clear hb1
 have KD := Lib.hid kd
 clear kd
 go_wp2_with fail
 refine (KD.out _).mono ?_
 rintro e W2 ⟨rfl, hb2⟩
 replace B := B.later hb2
 replace hW := hW.trans (hb2.mono hW.size)
 clear hb2
 have KF := Lib.hid kf
 clear kf
 go_wp2_with fail
 refine (KF.out _).mono ?_
 rintro e w' ⟨rfl, rfl⟩
 obtain ⟨c0, c1, c2, c3, c4, f0, f1, f2, f3, f4, lt⟩ := B
 have HW := Lib.hid hW
 clear hW
 go_wp2
 refine bodyPost_ret (v := .tuple #[.agg #[.int .i64 3, .string ⟨#[]⟩, .int .i64 w, .int .u64 v, .int .i64 0], .int .i64 ((width.size : Int) + 2 + ((bs T).size : Int)), .int .i64 0]) ?_ rfl ⟨rfl, (((((HW.out.setCell (Nat.le_refl _) _).setCell (Nat.le_refl _) _).setCell (Nat.le_refl _) _).setCell (Nat.le_refl _) _).setCell (Nat.le_refl _) _)⟩
 simp [results, Tryz.results220, go_sem, c0, c1, c2, c3, c4, f0, f1, f2, f3, f4]
theorem wide_e2 (width s : ByteArray) (T : List UInt8) (v : Nat) (sm : Bool) (er : Int) (kt : ∀ W, Calls Tryz.prog 221 #[.string (bs T), .int .u64 2] W fun e W' => e = .returned (.tuple #[.int .u64 v, .bool sm, .int .i64 er]) ∧ Below W.heap.size W W') (her : er ≠ 0) (h1 : 1 < s.size) (hc : s[1] = 98) (W : World)
  (kr : ∀ W, Calls Tryz.prog 193 #[.string (s.extract 2 s.size)] W fun e W' => e = .returned (.string (bs T)) ∧ W = W') :
  Calls Tryz.prog 220 #[.string width, .string s] W fun e W' => e = .returned (.tuple #[.agg #[.int .i64 0, .string ⟨#[]⟩, .int .i64 0, .int .u64 0, .int .i64 0], .int .i64 0, .int .i64 er]) ∧ Below W.heap.size W W' := by
 have q104 : ((s[1].toNat : Int) == 104) = false := by rw [hc]; rfl
 have q100 : ((s[1].toNat : Int) == 100) = false := by rw [hc]; rfl
 have q98 : ((s[1].toNat : Int) == 98) = true := by rw [hc]; rfl
 have hl : (1 : Int) < (s.size : Int) := by omega
 have KR := Lib.hid kr
 clear kr hc
 have hne : (er != 0) = true := by simpa using her
 clear her
 have KT := Lib.hid kt
 clear kt
 go_enter Tryz.func220, Tryz.ntmps220
 go_wp2_with fail
 refine (KR.out _).mono ?_
 rintro e w' ⟨rfl, rfl⟩
 go_wp2_with fail
 have B := Box5.new W (.int .i64 0) (.string ⟨#[]⟩) (.int .i64 0) (.int .u64 0) (.int .i64 0) 55
 have hW : Below W.heap.size W (W.alloc (.cells #[.int .i64 0, .string ⟨#[]⟩, .int .i64 0, .int .u64 0, .int .i64 0] 55)) := (Below.refl _ _).alloc (Nat.le_refl _) _
 refine (KT.out _).mono ?_
 rintro e W1 ⟨rfl, hb1⟩
 replace B := B.later hb1
 replace hW := hW.trans (hb1.mono hW.size)
 clear hb1
 obtain ⟨c0, c1, c2, c3, c4, f0, f1, f2, f3, f4, lt⟩ := B
 have HW := Lib.hid hW
 clear hW
 go_wp2
 refine bodyPost_ret (v := .tuple #[.agg #[.int .i64 0, .string ⟨#[]⟩, .int .i64 0, .int .u64 0, .int .i64 0], .int .i64 0, .int .i64 er]) ?_ rfl ⟨rfl, (((((HW.out.setCell (Nat.le_refl _) _).setCell (Nat.le_refl _) _).setCell (Nat.le_refl _) _).setCell (Nat.le_refl _) _).setCell (Nat.le_refl _) _)⟩
 simp [results, Tryz.results220, go_sem, c0, c1, c2, c3, c4, f0, f1, f2, f3, f4]
theorem wide_few2 (width s : ByteArray) (T : List UInt8) (v : Nat) (sm : Bool) (kt : ∀ W, Calls Tryz.prog 221 #[.string (bs T), .int .u64 2] W fun e W' => e = .returned (.tuple #[.int .u64 v, .bool sm, .int .i64 0]) ∧ Below W.heap.size W W') (w : Nat) (kd : ∀ W, Calls Tryz.prog 221 #[.string width, .int .u64 10] W fun e W' => e = .returned (.tuple #[.int .u64 w, .bool false, .int .i64 0]) ∧ Below W.heap.size W W') (h1 : 1 < s.size) (hc : s[1] = 98) (W : World)
  (kr : ∀ W, Calls Tryz.prog 193 #[.string (s.extract 2 s.size)] W fun e W' => e = .returned (.string (bs T)) ∧ W = W') :
  Calls Tryz.prog 220 #[.string width, .string s] W fun e W' => e = .returned (.tuple #[.agg #[.int .i64 0, .string ⟨#[]⟩, .int .i64 0, .int .u64 0, .int .i64 0], .int .i64 0, .int .i64 22]) ∧ Below W.heap.size W W' := by
 have q104 : ((s[1].toNat : Int) == 104) = false := by rw [hc]; rfl
 have q100 : ((s[1].toNat : Int) == 100) = false := by rw [hc]; rfl
 have q98 : ((s[1].toNat : Int) == 98) = true := by rw [hc]; rfl
 have hl : (1 : Int) < (s.size : Int) := by omega
 have KR := Lib.hid kr
 clear kr hc
 have KT := Lib.hid kt
 clear kt
 go_enter Tryz.func220, Tryz.ntmps220
 go_wp2_with fail
 refine (KR.out _).mono ?_
 rintro e w' ⟨rfl, rfl⟩
 go_wp2_with fail
 have B := Box5.new W (.int .i64 0) (.string ⟨#[]⟩) (.int .i64 0) (.int .u64 0) (.int .i64 0) 55
 have hW : Below W.heap.size W (W.alloc (.cells #[.int .i64 0, .string ⟨#[]⟩, .int .i64 0, .int .u64 0, .int .i64 0] 55)) := (Below.refl _ _).alloc (Nat.le_refl _) _
 refine (KT.out _).mono ?_
 rintro e W1 ⟨rfl, hb1⟩
 replace B := B.later hb1
 replace hW := hW.trans (hb1.mono hW.size)
 clear hb1
 have KD := Lib.hid kd
 clear kd
 go_wp2_with fail
 refine (KD.out _).mono ?_
 rintro e W2 ⟨rfl, hb2⟩
 replace B := B.later hb2
 replace hW := hW.trans (hb2.mono hW.size)
 clear hb2
 obtain ⟨c0, c1, c2, c3, c4, f0, f1, f2, f3, f4, lt⟩ := B
 have HW := Lib.hid hW
 clear hW
 go_wp2
 refine bodyPost_ret (v := .tuple #[.agg #[.int .i64 0, .string ⟨#[]⟩, .int .i64 0, .int .u64 0, .int .i64 0], .int .i64 0, .int .i64 22]) ?_ rfl ⟨rfl, (((((HW.out.setCell (Nat.le_refl _) _).setCell (Nat.le_refl _) _).setCell (Nat.le_refl _) _).setCell (Nat.le_refl _) _).setCell (Nat.le_refl _) _)⟩
 simp [results, Tryz.results220, go_sem, c0, c1, c2, c3, c4, f0, f1, f2, f3, f4]
theorem wide_w2 (width s : ByteArray) (T : List UInt8) (v : Nat) (sm : Bool) (kt : ∀ W, Calls Tryz.prog 221 #[.string (bs T), .int .u64 2] W fun e W' => e = .returned (.tuple #[.int .u64 v, .bool sm, .int .i64 0]) ∧ Below W.heap.size W W') (w : Nat) (kd : ∀ W, Calls Tryz.prog 221 #[.string width, .int .u64 10] W fun e W' => e = .returned (.tuple #[.int .u64 w, .bool true, .int .i64 0]) ∧ Below W.heap.size W W') (hw : 64 < w) (h1 : 1 < s.size) (hc : s[1] = 98) (W : World)
  (kr : ∀ W, Calls Tryz.prog 193 #[.string (s.extract 2 s.size)] W fun e W' => e = .returned (.string (bs T)) ∧ W = W') :
  Calls Tryz.prog 220 #[.string width, .string s] W fun e W' => e = .returned (.tuple #[.agg #[.int .i64 0, .string ⟨#[]⟩, .int .i64 0, .int .u64 0, .int .i64 0], .int .i64 0, .int .i64 22]) ∧ Below W.heap.size W W' := by
 have q104 : ((s[1].toNat : Int) == 104) = false := by rw [hc]; rfl
 have q100 : ((s[1].toNat : Int) == 100) = false := by rw [hc]; rfl
 have q98 : ((s[1].toNat : Int) == 98) = true := by rw [hc]; rfl
 have hl : (1 : Int) < (s.size : Int) := by omega
 have KR := Lib.hid kr
 clear kr hc
 have hwi : (64 : Int) < (w : Int) := by omega
 clear hw
 have KT := Lib.hid kt
 clear kt
 go_enter Tryz.func220, Tryz.ntmps220
 go_wp2_with fail
 refine (KR.out _).mono ?_
 rintro e w' ⟨rfl, rfl⟩
 go_wp2_with fail
 have B := Box5.new W (.int .i64 0) (.string ⟨#[]⟩) (.int .i64 0) (.int .u64 0) (.int .i64 0) 55
 have hW : Below W.heap.size W (W.alloc (.cells #[.int .i64 0, .string ⟨#[]⟩, .int .i64 0, .int .u64 0, .int .i64 0] 55)) := (Below.refl _ _).alloc (Nat.le_refl _) _
 refine (KT.out _).mono ?_
 rintro e W1 ⟨rfl, hb1⟩
 replace B := B.later hb1
 replace hW := hW.trans (hb1.mono hW.size)
 clear hb1
 have KD := Lib.hid kd
 clear kd
 go_wp2_with fail
 refine (KD.out _).mono ?_
 rintro e W2 ⟨rfl, hb2⟩
 replace B := B.later hb2
 replace hW := hW.trans (hb2.mono hW.size)
 clear hb2
 obtain ⟨c0, c1, c2, c3, c4, f0, f1, f2, f3, f4, lt⟩ := B
 have HW := Lib.hid hW
 clear hW
 go_wp2
 refine bodyPost_ret (v := .tuple #[.agg #[.int .i64 0, .string ⟨#[]⟩, .int .i64 0, .int .u64 0, .int .i64 0], .int .i64 0, .int .i64 22]) ?_ rfl ⟨rfl, (((((HW.out.setCell (Nat.le_refl _) _).setCell (Nat.le_refl _) _).setCell (Nat.le_refl _) _).setCell (Nat.le_refl _) _).setCell (Nat.le_refl _) _)⟩
 simp [results, Tryz.results220, go_sem, c0, c1, c2, c3, c4, f0, f1, f2, f3, f4]
theorem wide_sm2 (width s : ByteArray) (T : List UInt8) (v : Nat) (kt : ∀ W, Calls Tryz.prog 221 #[.string (bs T), .int .u64 2] W fun e W' => e = .returned (.tuple #[.int .u64 v, .bool false, .int .i64 0]) ∧ Below W.heap.size W W') (w : Nat) (kd : ∀ W, Calls Tryz.prog 221 #[.string width, .int .u64 10] W fun e W' => e = .returned (.tuple #[.int .u64 w, .bool true, .int .i64 0]) ∧ Below W.heap.size W W') (hw : w ≤ 64) (h1 : 1 < s.size) (hc : s[1] = 98) (W : World)
  (kr : ∀ W, Calls Tryz.prog 193 #[.string (s.extract 2 s.size)] W fun e W' => e = .returned (.string (bs T)) ∧ W = W') :
  Calls Tryz.prog 220 #[.string width, .string s] W fun e W' => e = .returned (.tuple #[.agg #[.int .i64 0, .string ⟨#[]⟩, .int .i64 0, .int .u64 0, .int .i64 0], .int .i64 0, .int .i64 22]) ∧ Below W.heap.size W W' := by
 have q104 : ((s[1].toNat : Int) == 104) = false := by rw [hc]; rfl
 have q100 : ((s[1].toNat : Int) == 100) = false := by rw [hc]; rfl
 have q98 : ((s[1].toNat : Int) == 98) = true := by rw [hc]; rfl
 have hl : (1 : Int) < (s.size : Int) := by omega
 have KR := Lib.hid kr
 clear kr hc
 have hwi : (w : Int) ≤ 64 := by omega
 clear hw
 have KT := Lib.hid kt
 clear kt
 go_enter Tryz.func220, Tryz.ntmps220
 go_wp2_with fail
 refine (KR.out _).mono ?_
 rintro e w' ⟨rfl, rfl⟩
 go_wp2_with fail
 have B := Box5.new W (.int .i64 0) (.string ⟨#[]⟩) (.int .i64 0) (.int .u64 0) (.int .i64 0) 55
 have hW : Below W.heap.size W (W.alloc (.cells #[.int .i64 0, .string ⟨#[]⟩, .int .i64 0, .int .u64 0, .int .i64 0] 55)) := (Below.refl _ _).alloc (Nat.le_refl _) _
 refine (KT.out _).mono ?_
 rintro e W1 ⟨rfl, hb1⟩
 replace B := B.later hb1
 replace hW := hW.trans (hb1.mono hW.size)
 clear hb1
 have KD := Lib.hid kd
 clear kd
 go_wp2_with fail
 refine (KD.out _).mono ?_
 rintro e W2 ⟨rfl, hb2⟩
 replace B := B.later hb2
 replace hW := hW.trans (hb2.mono hW.size)
 clear hb2
 obtain ⟨c0, c1, c2, c3, c4, f0, f1, f2, f3, f4, lt⟩ := B
 have HW := Lib.hid hW
 clear hW
 go_wp2
 refine bodyPost_ret (v := .tuple #[.agg #[.int .i64 0, .string ⟨#[]⟩, .int .i64 0, .int .u64 0, .int .i64 0], .int .i64 0, .int .i64 22]) ?_ rfl ⟨rfl, (((((HW.out.setCell (Nat.le_refl _) _).setCell (Nat.le_refl _) _).setCell (Nat.le_refl _) _).setCell (Nat.le_refl _) _).setCell (Nat.le_refl _) _)⟩
 simp [results, Tryz.results220, go_sem, c0, c1, c2, c3, c4, f0, f1, f2, f3, f4]
theorem wide_nf2 (width s : ByteArray) (T : List UInt8) (v : Nat) (kt : ∀ W, Calls Tryz.prog 221 #[.string (bs T), .int .u64 2] W fun e W' => e = .returned (.tuple #[.int .u64 v, .bool true, .int .i64 0]) ∧ Below W.heap.size W W') (w : Nat) (kd : ∀ W, Calls Tryz.prog 221 #[.string width, .int .u64 10] W fun e W' => e = .returned (.tuple #[.int .u64 w, .bool true, .int .i64 0]) ∧ Below W.heap.size W W') (kf : ∀ W, Calls Tryz.prog 137 #[.int .i64 w, .int .u64 v] W fun e W' => e = .returned (.bool false) ∧ W = W') (hw : w ≤ 64) (h1 : 1 < s.size) (hc : s[1] = 98) (W : World)
  (kr : ∀ W, Calls Tryz.prog 193 #[.string (s.extract 2 s.size)] W fun e W' => e = .returned (.string (bs T)) ∧ W = W') :
  Calls Tryz.prog 220 #[.string width, .string s] W fun e W' => e = .returned (.tuple #[.agg #[.int .i64 0, .string ⟨#[]⟩, .int .i64 0, .int .u64 0, .int .i64 0], .int .i64 0, .int .i64 22]) ∧ Below W.heap.size W W' := by
 have q104 : ((s[1].toNat : Int) == 104) = false := by rw [hc]; rfl
 have q100 : ((s[1].toNat : Int) == 100) = false := by rw [hc]; rfl
 have q98 : ((s[1].toNat : Int) == 98) = true := by rw [hc]; rfl
 have hl : (1 : Int) < (s.size : Int) := by omega
 have KR := Lib.hid kr
 clear kr hc
 have hwi : (w : Int) ≤ 64 := by omega
 clear hw
 have hwr : IntKind.i64.wrap (w : Int) = (w : Int) := IntWalk.i64_in _ (by omega)
 have KT := Lib.hid kt
 clear kt
 go_enter Tryz.func220, Tryz.ntmps220
 go_wp2_with fail
 refine (KR.out _).mono ?_
 rintro e w' ⟨rfl, rfl⟩
 go_wp2_with fail
 have B := Box5.new W (.int .i64 0) (.string ⟨#[]⟩) (.int .i64 0) (.int .u64 0) (.int .i64 0) 55
 have hW : Below W.heap.size W (W.alloc (.cells #[.int .i64 0, .string ⟨#[]⟩, .int .i64 0, .int .u64 0, .int .i64 0] 55)) := (Below.refl _ _).alloc (Nat.le_refl _) _
 refine (KT.out _).mono ?_
 rintro e W1 ⟨rfl, hb1⟩
 replace B := B.later hb1
 replace hW := hW.trans (hb1.mono hW.size)
 clear hb1
 have KD := Lib.hid kd
 clear kd
 go_wp2_with fail
 refine (KD.out _).mono ?_
 rintro e W2 ⟨rfl, hb2⟩
 replace B := B.later hb2
 replace hW := hW.trans (hb2.mono hW.size)
 clear hb2
 have KF := Lib.hid kf
 clear kf
 go_wp2_with fail
 refine (KF.out _).mono ?_
 rintro e w' ⟨rfl, rfl⟩
 obtain ⟨c0, c1, c2, c3, c4, f0, f1, f2, f3, f4, lt⟩ := B
 have HW := Lib.hid hW
 clear hW
 go_wp2
 refine bodyPost_ret (v := .tuple #[.agg #[.int .i64 0, .string ⟨#[]⟩, .int .i64 0, .int .u64 0, .int .i64 0], .int .i64 0, .int .i64 22]) ?_ rfl ⟨rfl, (((((HW.out.setCell (Nat.le_refl _) _).setCell (Nat.le_refl _) _).setCell (Nat.le_refl _) _).setCell (Nat.le_refl _) _).setCell (Nat.le_refl _) _)⟩
 simp [results, Tryz.results220, go_sem, c0, c1, c2, c3, c4, f0, f1, f2, f3, f4]
theorem wide_ok2 (width s : ByteArray) (T : List UInt8) (v : Nat) (kt : ∀ W, Calls Tryz.prog 221 #[.string (bs T), .int .u64 2] W fun e W' => e = .returned (.tuple #[.int .u64 v, .bool true, .int .i64 0]) ∧ Below W.heap.size W W') (w : Nat) (kd : ∀ W, Calls Tryz.prog 221 #[.string width, .int .u64 10] W fun e W' => e = .returned (.tuple #[.int .u64 w, .bool true, .int .i64 0]) ∧ Below W.heap.size W W') (kf : ∀ W, Calls Tryz.prog 137 #[.int .i64 w, .int .u64 v] W fun e W' => e = .returned (.bool true) ∧ W = W') (hw : w ≤ 64) (hT : T.length ≤ 140737488351232) (hwd : width.size ≤ 140737488351232) (h1 : 1 < s.size) (hc : s[1] = 98) (W : World)
  (kr : ∀ W, Calls Tryz.prog 193 #[.string (s.extract 2 s.size)] W fun e W' => e = .returned (.string (bs T)) ∧ W = W') :
  Calls Tryz.prog 220 #[.string width, .string s] W fun e W' => e = .returned (.tuple #[.agg #[.int .i64 3, .string ⟨#[]⟩, .int .i64 w, .int .u64 v, .int .i64 0], .int .i64 ((width.size : Int) + 2 + (T.length : Int)), .int .i64 0]) ∧ Below W.heap.size W W' := by
 have q104 : ((s[1].toNat : Int) == 104) = false := by rw [hc]; rfl
 have q100 : ((s[1].toNat : Int) == 100) = false := by rw [hc]; rfl
 have q98 : ((s[1].toNat : Int) == 98) = true := by rw [hc]; rfl
 have hl : (1 : Int) < (s.size : Int) := by omega
 have KR := Lib.hid kr
 clear kr hc
 have hwi : (w : Int) ≤ 64 := by omega
 clear hw
 have hwr : IntKind.i64.wrap (w : Int) = (w : Int) := IntWalk.i64_in _ (by omega)
 have hT' : (T.length : Int) ≤ 140737488351232 := by omega
 have hwd' : (width.size : Int) ≤ 140737488351232 := by omega
 have hsz : ((bs T).size : Int) ≤ 140737488351232 := hT'
 have KT := Lib.hid kt
 clear kt
 go_enter Tryz.func220, Tryz.ntmps220
 go_wp2_with fail
 refine (KR.out _).mono ?_
 rintro e w' ⟨rfl, rfl⟩
 go_wp2_with fail
 have B := Box5.new W (.int .i64 0) (.string ⟨#[]⟩) (.int .i64 0) (.int .u64 0) (.int .i64 0) 55
 have hW : Below W.heap.size W (W.alloc (.cells #[.int .i64 0, .string ⟨#[]⟩, .int .i64 0, .int .u64 0, .int .i64 0] 55)) := (Below.refl _ _).alloc (Nat.le_refl _) _
 refine (KT.out _).mono ?_
 rintro e W1 ⟨rfl, hb1⟩
 replace B := B.later hb1
 replace hW := hW.trans (hb1.mono hW.size)
 clear hb1
 have KD := Lib.hid kd
 clear kd
 go_wp2_with fail
 refine (KD.out _).mono ?_
 rintro e W2 ⟨rfl, hb2⟩
 replace B := B.later hb2
 replace hW := hW.trans (hb2.mono hW.size)
 clear hb2
 have KF := Lib.hid kf
 clear kf
 go_wp2_with fail
 refine (KF.out _).mono ?_
 rintro e w' ⟨rfl, rfl⟩
 obtain ⟨c0, c1, c2, c3, c4, f0, f1, f2, f3, f4, lt⟩ := B
 have HW := Lib.hid hW
 clear hW
 go_wp2
 refine bodyPost_ret (v := .tuple #[.agg #[.int .i64 3, .string ⟨#[]⟩, .int .i64 w, .int .u64 v, .int .i64 0], .int .i64 ((width.size : Int) + 2 + ((bs T).size : Int)), .int .i64 0]) ?_ rfl ⟨rfl, (((((HW.out.setCell (Nat.le_refl _) _).setCell (Nat.le_refl _) _).setCell (Nat.le_refl _) _).setCell (Nat.le_refl _) _).setCell (Nat.le_refl _) _)⟩
 simp [results, Tryz.results220, go_sem, c0, c1, c2, c3, c4, f0, f1, f2, f3, f4]
def numA (b : Nat) (l : List UInt8) : Nat := if allFig b l then cutV b l else 0
def numB (b : Nat) (l : List UInt8) : Bool := if allFig b l then smallV b l else false
def numE (b : Nat) (l : List UInt8) : Int := if allFig b l then (if l.isEmpty then 21 else 0) else 21
theorem number_all (s : ByteArray) (b : Nat) (hs : s.size ≤ 140737488351232) (hb : 2 ≤ b) (hb2 : b ≤ 16) (W : World) :
  Calls Tryz.prog 221 #[.string s, .int .u64 b] W fun e W' => e = .returned (.tuple #[.int .u64 (numA b s.data.toList : Nat), .bool (numB b s.data.toList), .int .i64 (numE b s.data.toList)]) ∧ Below W.heap.size W W' := by
 have key : ∀ e, NumPost b s.data.toList e → e = .returned (.tuple #[.int .u64 (numA b s.data.toList : Nat), .bool (numB b s.data.toList), .int .i64 (numE b s.data.toList)]) := by
  intro e h
  unfold NumPost at h
  unfold numA numB numE
  rw [h]
  split <;> rfl
 by_cases h0 : 0 < s.size
 ·exact (number_any s b hs h0 hb hb2 W).mono fun e W' h => ⟨key e h.1, h.2⟩
 ·have he : s.data.toList = [] := by
   have h2 : s.data.toList.length = s.size := rfl
   exact List.eq_nil_of_length_eq_zero (by omega)
  obtain rfl := empty_of he
  exact (number_empty b W).mono fun e W' h => ⟨key e h.1, h.2⟩
theorem wideL_e {d r : List UInt8} {c : UInt8} (hb : baseL c ≠ 0) (h : numE (baseL c) (runL r) ≠ 0) : wideL d (c :: r) = .bad 21 ∧ numE (baseL c) (runL r) = 21 := by
 unfold numE at h ⊢
 rw [wideL, if_neg hb]
 cases h1 : allFig (baseL c) (runL r)
 ·simp
 ·rw [h1] at h
  cases h2 : (runL r).isEmpty
  ·rw [h2] at h; simp at h
  ·simp
theorem wideL_o {d r : List UInt8} {c : UInt8} (hb : baseL c ≠ 0) (h : numE (baseL c) (runL r) = 0) : allFig (baseL c) (runL r) = true ∧
  wideL d (c :: r) = if smallV 10 d && smallV (baseL c) (runL r) && fitsV (numV 10 d) (numV (baseL c) (runL r)) then
   .tok ⟨3, [], numV 10 d, numV (baseL c) (runL r), 0⟩ (d.length + 2 + (runL r).length) else .bad 22 := by
 unfold numE at h
 cases h1 : allFig (baseL c) (runL r)
 ·rw [h1] at h; simp at h
 ·rw [h1] at h
  cases h2 : (runL r).isEmpty
  ·refine ⟨rfl, ?_⟩
   rw [wideL, if_neg hb, h1, h2]
   rfl
  ·rw [h2] at h; simp at h
theorem cut_small {b : Nat} {l : List UInt8} (h : smallV b l = true) : cutV b l = numV b l := Nat.mod_eq_of_lt (by simpa [smallV] using h)
theorem wide_any (width s : ByteArray) (r : List UInt8) (hd : allFig 10 width.data.toList = true) (hd0 : width.data.toList.isEmpty = false) (h : s.data.toList = 39 :: r) (hs : s.size ≤ 140737488351232) (hwd : width.size ≤ 140737488351232) (W : World) :
  Calls Tryz.prog 220 #[.string width, .string s] W fun e W' => e = gotEnd (wideL width.data.toList r) ∧ Below W.heap.size W W' := by
 match r, h with
 | [], h => exact wide_none width s (by rw [size_list, h]; simp) W _
 | c :: r, h =>
  by_cases hb : baseL c = 0
  ·exact wide_base width s c r _ h hb W
  obtain ⟨hx, _, _, _⟩ := ext2 s c 39 r h
  have hle : (s.extract 2 s.size).size ≤ 140737488351232 := by
   rw [size_list, hx]
   have : s.size = r.length + 2 := by rw [size_list, h]; simp
   omega
  have kr := fun W => run_any (s.extract 2 s.size) (by omega) W
  rw [hx] at kr
  have hTl : (runL r).length ≤ 140737488351232 := by
   have h1 := takeWhile_le (p := isPart) r
   have : s.size = r.length + 2 := by rw [size_list, h]; simp
   unfold runL
   omega
  have kd := fun W => number_all width 10 hwd (by omega) (by omega) W
  have e1 : numA 10 width.data.toList = cutV 10 width.data.toList := by unfold numA; rw [hd]; rfl
  have e2 : numB 10 width.data.toList = smallV 10 width.data.toList := by unfold numB; rw [hd]; rfl
  have e3 : numE 10 width.data.toList = 0 := by unfold numE; rw [hd, hd0]; rfl
  rw [e1, e2, e3] at kd
  obtain ⟨h1, hcase⟩ := base_at h hb
  rcases hcase with ⟨hc, hbb⟩ | ⟨hc, hbb⟩ | ⟨hc, hbb⟩
  ·have kt := fun W => number_all (bs (runL r)) 16 hTl (by omega) (by omega) W
   rw [list_bs] at kt
   by_cases he : numE 16 (runL r) = 0
   ·obtain ⟨ha, hw⟩ := wideL_o (d := width.data.toList) hb (by rw [hbb]; exact he)
    rw [hw]
    rw [hbb] at ha
    rw [he] at kt
    have a1 : numA 16 (runL r) = cutV 16 (runL r) := by unfold numA; rw [ha]; rfl
    have a2 : numB 16 (runL r) = smallV 16 (runL r) := by unfold numB; rw [ha]; rfl
    rw [a1, a2] at kt
    rw [hbb]
    cases hf : smallV 10 width.data.toList
    ·rw [hf] at kd
     rw [gotEnd_bad (by simp : _ = Got.bad 22)]
     exact wide_few16 width s (runL r) _ _ kt _ kd h1 hc W kr
    ·rw [hf, cut_small hf] at kd
     by_cases hw64 : 64 < numV 10 width.data.toList
     ·have : fitsV (numV 10 width.data.toList) (numV 16 (runL r)) = false := by
       have h64 : ¬ ((numV 10 width.data.toList : Nat) : Int) ≤ 64 := by omega
       simp [fitsV]
       intro _ h; omega
      rw [gotEnd_bad (by rw [this]; simp : _ = Got.bad 22)]
      exact wide_w16 width s (runL r) _ _ kt _ kd hw64 h1 hc W kr
     ·cases hsm : smallV 16 (runL r)
      ·rw [hsm] at kt
       rw [gotEnd_bad (by simp : _ = Got.bad 22)]
       exact wide_sm16 width s (runL r) _ kt _ kd (by omega) h1 hc W kr
      ·have hlt : numV 16 (runL r) < 18446744073709551616 := by
        have : numV 16 (runL r) < two64 := by simpa [smallV] using hsm
        exact this
       rw [hsm, cut_small hsm] at kt
       have kf := fun W => fits_any (numV 10 width.data.toList) (numV 16 (runL r)) hlt W
       cases hfi : fitsV (numV 10 width.data.toList) (numV 16 (runL r))
       ·rw [hfi] at kf
        rw [gotEnd_bad (by simp : _ = Got.bad 22)]
        exact wide_nf16 width s (runL r) _ kt _ kd kf (by omega) h1 hc W kr
       ·rw [hfi] at kf
        rw [gotEnd_tok (n := (width.size : Int) + 2 + ((runL r).length : Int)) (by simp; exact ⟨rfl, rfl⟩) rfl rfl rfl rfl rfl (by rw [size_list]; omega)]
        exact wide_ok16 width s (runL r) _ kt _ kd kf (by omega) hTl hwd h1 hc W kr
   ·obtain ⟨hw, he2⟩ := wideL_e (d := width.data.toList) hb (by rw [hbb]; exact he)
    rw [hbb] at he2
    rw [gotEnd_bad hw]
    rw [he2] at kt
    exact wide_e16 width s (runL r) _ _ 21 kt (by decide) h1 hc W kr
  ·have kt := fun W => number_all (bs (runL r)) 10 hTl (by omega) (by omega) W
   rw [list_bs] at kt
   by_cases he : numE 10 (runL r) = 0
   ·obtain ⟨ha, hw⟩ := wideL_o (d := width.data.toList) hb (by rw [hbb]; exact he)
    rw [hw]
    rw [hbb] at ha
    rw [he] at kt
    have a1 : numA 10 (runL r) = cutV 10 (runL r) := by unfold numA; rw [ha]; rfl
    have a2 : numB 10 (runL r) = smallV 10 (runL r) := by unfold numB; rw [ha]; rfl
    rw [a1, a2] at kt
    rw [hbb]
    cases hf : smallV 10 width.data.toList
    ·rw [hf] at kd
     rw [gotEnd_bad (by simp : _ = Got.bad 22)]
     exact wide_few10 width s (runL r) _ _ kt _ kd h1 hc W kr
    ·rw [hf, cut_small hf] at kd
     by_cases hw64 : 64 < numV 10 width.data.toList
     ·have : fitsV (numV 10 width.data.toList) (numV 10 (runL r)) = false := by
       have h64 : ¬ ((numV 10 width.data.toList : Nat) : Int) ≤ 64 := by omega
       simp [fitsV]
       intro _ h; omega
      rw [gotEnd_bad (by rw [this]; simp : _ = Got.bad 22)]
      exact wide_w10 width s (runL r) _ _ kt _ kd hw64 h1 hc W kr
     ·cases hsm : smallV 10 (runL r)
      ·rw [hsm] at kt
       rw [gotEnd_bad (by simp : _ = Got.bad 22)]
       exact wide_sm10 width s (runL r) _ kt _ kd (by omega) h1 hc W kr
      ·have hlt : numV 10 (runL r) < 18446744073709551616 := by
        have : numV 10 (runL r) < two64 := by simpa [smallV] using hsm
        exact this
       rw [hsm, cut_small hsm] at kt
       have kf := fun W => fits_any (numV 10 width.data.toList) (numV 10 (runL r)) hlt W
       cases hfi : fitsV (numV 10 width.data.toList) (numV 10 (runL r))
       ·rw [hfi] at kf
        rw [gotEnd_bad (by simp : _ = Got.bad 22)]
        exact wide_nf10 width s (runL r) _ kt _ kd kf (by omega) h1 hc W kr
       ·rw [hfi] at kf
        rw [gotEnd_tok (n := (width.size : Int) + 2 + ((runL r).length : Int)) (by simp; exact ⟨rfl, rfl⟩) rfl rfl rfl rfl rfl (by rw [size_list]; omega)]
        exact wide_ok10 width s (runL r) _ kt _ kd kf (by omega) hTl hwd h1 hc W kr
   ·obtain ⟨hw, he2⟩ := wideL_e (d := width.data.toList) hb (by rw [hbb]; exact he)
    rw [hbb] at he2
    rw [gotEnd_bad hw]
    rw [he2] at kt
    exact wide_e10 width s (runL r) _ _ 21 kt (by decide) h1 hc W kr
  ·have kt := fun W => number_all (bs (runL r)) 2 hTl (by omega) (by omega) W
   rw [list_bs] at kt
   by_cases he : numE 2 (runL r) = 0
   ·obtain ⟨ha, hw⟩ := wideL_o (d := width.data.toList) hb (by rw [hbb]; exact he)
    rw [hw]
    rw [hbb] at ha
    rw [he] at kt
    have a1 : numA 2 (runL r) = cutV 2 (runL r) := by unfold numA; rw [ha]; rfl
    have a2 : numB 2 (runL r) = smallV 2 (runL r) := by unfold numB; rw [ha]; rfl
    rw [a1, a2] at kt
    rw [hbb]
    cases hf : smallV 10 width.data.toList
    ·rw [hf] at kd
     rw [gotEnd_bad (by simp : _ = Got.bad 22)]
     exact wide_few2 width s (runL r) _ _ kt _ kd h1 hc W kr
    ·rw [hf, cut_small hf] at kd
     by_cases hw64 : 64 < numV 10 width.data.toList
     ·have : fitsV (numV 10 width.data.toList) (numV 2 (runL r)) = false := by
       have h64 : ¬ ((numV 10 width.data.toList : Nat) : Int) ≤ 64 := by omega
       simp [fitsV]
       intro _ h; omega
      rw [gotEnd_bad (by rw [this]; simp : _ = Got.bad 22)]
      exact wide_w2 width s (runL r) _ _ kt _ kd hw64 h1 hc W kr
     ·cases hsm : smallV 2 (runL r)
      ·rw [hsm] at kt
       rw [gotEnd_bad (by simp : _ = Got.bad 22)]
       exact wide_sm2 width s (runL r) _ kt _ kd (by omega) h1 hc W kr
      ·have hlt : numV 2 (runL r) < 18446744073709551616 := by
        have : numV 2 (runL r) < two64 := by simpa [smallV] using hsm
        exact this
       rw [hsm, cut_small hsm] at kt
       have kf := fun W => fits_any (numV 10 width.data.toList) (numV 2 (runL r)) hlt W
       cases hfi : fitsV (numV 10 width.data.toList) (numV 2 (runL r))
       ·rw [hfi] at kf
        rw [gotEnd_bad (by simp : _ = Got.bad 22)]
        exact wide_nf2 width s (runL r) _ kt _ kd kf (by omega) h1 hc W kr
       ·rw [hfi] at kf
        rw [gotEnd_tok (n := (width.size : Int) + 2 + ((runL r).length : Int)) (by simp; exact ⟨rfl, rfl⟩) rfl rfl rfl rfl rfl (by rw [size_list]; omega)]
        exact wide_ok2 width s (runL r) _ kt _ kd kf (by omega) hTl hwd h1 hc W kr
   ·obtain ⟨hw, he2⟩ := wideL_e (d := width.data.toList) hb (by rw [hbb]; exact he)
    rw [hbb] at he2
    rw [gotEnd_bad hw]
    rw [he2] at kt
    exact wide_e2 width s (runL r) _ _ 21 kt (by decide) h1 hc W kr
end Go.Proofs.YtlcfpdmicpggbaaGreatDoor
namespace Go.Flow
open Go.RowKit
variable {P : Program} {ops : Array Oper} {Q : Exit → Act → World → Prop}
def back (ops : Array Oper) : Bool := (List.range ops.size).all fun i => match ops[i]? with
 | some o => o.after.toList.all fun e => !Region.binds .any e || decide (e.on < i)
 | none => true
theorem ready_some (hb : back ops = true) {L : Array Bool} (hn : ∃ i, i < ops.size ∧ L.getD i true = false) (hL : L.size = ops.size) : Region.ready .any ops L ≠ [] := by
 obtain ⟨i, hi, hf⟩ := hn
 induction i using Nat.strongRecOn with
 | _ i ih =>
  by_cases hall : ∀ o, ops[i]? = some o → ∀ e ∈ o.after.toList, Region.binds .any e = true → L.getD e.on false = true
  ·intro h
   have : i ∈ Region.ready .any ops L := by
    simp only [Region.ready, List.mem_filter, List.mem_range, Bool.and_eq_true, Bool.not_eq_true']
    refine ⟨hi, hf, ?_⟩
    have ho : ops[i]? = some ops[i] := Array.getElem?_eq_getElem hi
    rw [ho]
    simp only [Option.map_some, Option.getD_some, Array.all_eq_true']
    intro e he
    cases hbe : Region.binds .any e
    ·simp
    ·rw [hall _ ho e (Array.mem_toList_iff.2 he) hbe]
     simp
   rw [h] at this
   simp at this
  ·simp only [Classical.not_forall] at hall
   obtain ⟨o, ho, e, he, hbe, hne⟩ := hall
   have hlt : e.on < i := by
    have h1 := List.all_eq_true.1 hb i (List.mem_range.2 hi)
    rw [ho] at h1
    have h2 := List.all_eq_true.1 h1 e he
    rw [hbe] at h2
    exact of_decide_eq_true (by simpa using h2)
   refine ih e.on hlt (by omega) ?_
   have hs : e.on < L.size := by omega
   simp only [Array.getD_eq_getD_getElem?, Array.getElem?_eq_getElem hs, Option.getD_some] at hne ⊢
   simpa using hne
theorem count_set {L : Array Bool} {i : Nat} (hi : i < L.size) (hf : L.getD i true = false) : (L.setIfInBounds i true).toList.count true = L.toList.count true + 1 := by
 have hi' : i < L.toList.length := by simpa using hi
 have h0 : L.toList[i] = false := by
  simp only [Array.getD_eq_getD_getElem?, Array.getElem?_eq_getElem hi, Option.getD_some] at hf
  simpa using hf
 rw [Array.toList_setIfInBounds, List.count_set hi', h0]
 simp
theorem all_of_count {L : List Bool} (h : L.count true = L.length) : ∀ x ∈ L, x = true := by
 intro x hx
 have := (List.count_eq_length.1 h) x hx
 exact this.symm
theorem wpAny_inv (I : Array Bool → Act → World → Prop) (hb : back ops = true)
  (step : ∀ L a w, L.size = ops.size → I L a w → ∀ i o, ops[i]? = some o → L.getD i true = false → (∀ e ∈ o.after.toList, Region.binds .any e = true → L.getD e.on false = true) →
   wpOp P ops Q i (I (L.setIfInBounds i true)) a w)
  (fin : ∀ L a w, L.size = ops.size → (∀ i, i < ops.size → L.getD i false = true) → I L a w → Q .normal a w) :
  ∀ fuel (L : Array Bool) a w, L.size = ops.size → L.toList.count true + fuel = ops.size → I L a w → wpAny P .any ops Q fuel L a w := by
 have done : ∀ (L : Array Bool) a w, L.size = ops.size → I L a w → Region.ready .any ops L = [] → Q .normal a w := fun L a w hL hI hr => by
  refine fin L a w hL (fun i hi => ?_) hI
  cases hc : L.getD i true
  ·exact absurd hr (ready_some hb ⟨i, hi, hc⟩ hL)
  ·have hs : i < L.size := by omega
   simp only [Array.getD_eq_getD_getElem?, Array.getElem?_eq_getElem hs, Option.getD_some] at hc ⊢
   exact hc
 intro fuel
 induction fuel with
 | zero =>
  intro L a w hL hc hI
  have hall : ∀ x ∈ L.toList, x = true := all_of_count (by rw [Array.length_toList]; omega)
  have hr : Region.ready .any ops L = [] := by
   cases h : Region.ready .any ops L with
   | nil => rfl
   | cons i l =>
    have := mem_ready (md := .any) (ops := ops) (L := L) (i := i) (by rw [h]; simp)
    obtain ⟨h1, h2, _⟩ := this
    have hs : i < L.size := by omega
    simp only [Array.getD_eq_getD_getElem?, Array.getElem?_eq_getElem hs, Option.getD_some] at h2
    have := hall L[i] (by simp)
    rw [h2] at this
    cases this
  exact ⟨hr, done L a w hL hI hr⟩
 | succ fuel ih =>
  intro L a w hL hc hI
  refine ⟨done L a w hL hI, fun i hi => ?_⟩
  obtain ⟨h1, h2, h3⟩ := mem_ready hi
  have ho : ops[i]? = some ops[i] := Array.getElem?_eq_getElem h1
  refine wpOp_mono (fun a' w' hI' => ih _ a' w' (by simpa using hL) ?_ hI') (step L a w hL hI i _ ho h2 (h3 _ ho))
  rw [count_set (by omega) h2]
  omega
def single (ops : Array Oper) : Bool := (List.range ops.size).all fun i => (List.range ops.size).all fun j => i == j || dst ops i == none || dst ops i != dst ops j
theorem single_spec (h : single ops = true) {i j d : Nat} (hi : i < ops.size) (hj : j < ops.size) (hij : j ≠ i) (hd : dst ops i = some d) : dst ops j ≠ some d := by
 have := List.all_eq_true.1 (List.all_eq_true.1 h i (List.mem_range.2 hi)) j (List.mem_range.2 hj)
 rw [hd] at this
 simp only [Bool.or_eq_true, beq_iff_eq, bne_iff_ne, reduceCtorEq, or_false] at this
 rcases this with h | h
 ·exact absurd h.symm hij
 ·exact fun e => h e.symm
def inside (ops : Array Oper) (n : Nat) : Bool := (List.range ops.size).all fun i => match dst ops i with
 | some d => decide (d < n)
 | none => true
theorem inside_spec {n : Nat} (h : inside ops n = true) {i d : Nat} (hd : dst ops i = some d) : d < n := by
 have hi : i < ops.size := by
  rcases Nat.lt_or_ge i ops.size with h1 | h1
  ·exact h1
  ·simp [dst, Array.getElem?_eq_none h1] at hd
 have h2 := List.all_eq_true.1 h i (List.mem_range.2 hi)
 rw [hd] at h2
 exact of_decide_eq_true h2
end Go.Flow
namespace Go.Flow
open Go.RowKit Go.Sort
def strike : List Bool → List Oper → List Oper
 | true :: bs, _ :: l => strike bs l
 | false :: bs, o :: l => o :: strike bs l
 | _, _ => []
section
variable {P : Program} {ops : Array Oper} {C : World → Prop}
theorem put_getD_ne (a : Act) (x : Option Tmp) (v : Value) (t : Nat) (h : x ≠ some t) : (a.put x v).tmps.getD t undef = a.tmps.getD t undef := by
 cases x with
 | none => rfl
 | some d =>
  simp only [Act.put]
  exact getD_set_ne _ _ _ _ _ (fun e => h (by rw [e]))
theorem put_getD_self (a : Act) (d : Tmp) (v : Value) (h : d < a.tmps.size) : (a.put (some d) v).tmps.getD d undef = v := by
 simp only [Act.put]
 exact getD_set_self _ _ _ _ h
theorem put_size (a : Act) (x : Option Tmp) (v : Value) : (a.put x v).tmps.size = a.tmps.size := by cases x <;> simp [Act.put]
theorem put_defers (a : Act) (x : Option Tmp) (v : Value) : (a.put x v).defers = a.defers := by cases x <;> rfl
theorem wpQuiet_cons {Q : Act → Prop} {o : Oper} {l : List Oper} {a : Act} (h : wpQuiet P ops C Q (o :: l) a) : ∃ v, YieldsIn P ops C o v a ∧ wpQuiet P ops C Q l (a.put o.dst v) := by
 unfold wpQuiet at h
 by_cases hw : Region.wanted o (yielded ops a.tmps) = true
 ·simp only [hw, if_true] at h
  obtain ⟨v, h1, h2⟩ := h
  exact ⟨v, .inl ⟨hw, h1⟩, h2⟩
 ·simp only [hw] at h
  exact ⟨undef, .inr ⟨by simpa using hw, rfl⟩, h⟩
theorem strike_frames {aF : Act} (hs : single ops = true) : ∀ (bs : List Bool) (l : List Oper) (k : Nat) (a : Act), (∀ j, l[j]? = ops[k + j]?) → bs.length ≤ l.length → (∀ i d, dst ops i = some d → d < a.tmps.size) →
  wpQuiet P ops C (fun a' => a' = aF) (strike bs l) a →
  (aF.tmps.size = a.tmps.size ∧ aF.defers = a.defers) ∧
  (∀ t, (∀ j, bs[j]? = some false → dst ops (k + j) ≠ some t) → aF.tmps.getD t undef = a.tmps.getD t undef) ∧
  (∀ (j : Nat) o, bs[j]? = some false → l[j]? = some o → ∃ v b, YieldsIn P ops C o v b ∧ (∀ d, o.dst = some d → aF.tmps.getD d undef = v) ∧
   b.tmps.size = a.tmps.size ∧
   ∀ t, ((∃ i, i < j ∧ bs[i]? = some false ∧ dst ops (k + i) = some t) → b.tmps.getD t undef = aF.tmps.getD t undef) ∧
    ((∀ i, i < j → bs[i]? = some false → dst ops (k + i) ≠ some t) → b.tmps.getD t undef = a.tmps.getD t undef))
 | [], l, k, a, hl, hlen, hin, h => by
  have : a = aF := by simpa [strike, wpQuiet] using h
  subst this
  exact ⟨⟨rfl, rfl⟩, fun t _ => rfl, fun j o hj => by simp at hj⟩
 | b0 :: bs, [], k, a, hl, hlen, hin, h => by simp at hlen
 | true :: bs, o0 :: l, k, a, hl, hlen, hin, h => by
  obtain ⟨h1, h2, h3⟩ := strike_frames hs bs l (k + 1) a (fun j => by have := hl (j + 1); simpa [Nat.add_assoc, Nat.add_comm 1 j] using this) (by simpa using hlen) hin (by simpa [strike] using h)
  refine ⟨h1, fun t ht => h2 t fun j hj => by have := ht (j + 1) (by simpa using hj); rwa [show k + (j + 1) = k + 1 + j by omega] at this, fun j o hj ho => ?_⟩
  match j, hj, ho with
  | 0, hj, ho => simp at hj
  | j + 1, hj, ho =>
   obtain ⟨v, b, g1, g2, g3, g4⟩ := h3 j o (by simpa using hj) (by simpa using ho)
   refine ⟨v, b, g1, g2, g3, fun t => ⟨fun ⟨i, hi, hb, hd⟩ => ?_, fun hall => ?_⟩⟩
   ·match i, hi, hb, hd with
    | 0, hi, hb, hd => simp at hb
    | i + 1, hi, hb, hd => exact (g4 t).1 ⟨i, by omega, by simpa using hb, by rwa [show k + 1 + i = k + (i + 1) by omega]⟩
   ·exact (g4 t).2 fun i hi hb => by have := hall (i + 1) (by omega) (by simpa using hb); rwa [show k + (i + 1) = k + 1 + i by omega] at this
 | false :: bs, o0 :: l, k, a, hl, hlen, hin, h => by
  obtain ⟨v0, hy, hrest⟩ := wpQuiet_cons (by simpa only [strike] using h)
  have hk : ops[k]? = some o0 := by simpa using (hl 0).symm
  have hks : k < ops.size := (Array.getElem?_eq_some_iff.1 hk).1
  have hdk : dst ops k = o0.dst := by simp [dst, hk]
  obtain ⟨h1, h2, h3⟩ := strike_frames hs bs l (k + 1) (a.put o0.dst v0) (fun j => by have := hl (j + 1); simpa [Nat.add_assoc, Nat.add_comm 1 j] using this) (by simpa using hlen) (by intro i d hd; rw [put_size]; exact hin i d hd) hrest
  rw [put_size, put_defers] at h1
  have hlt : ∀ j, bs[j]? = some false → k + 1 + j < ops.size := fun j hj => by
   have hjl : j < bs.length := (List.getElem?_eq_some_iff.1 hj).1
   have hll : j + 1 < (o0 :: l).length := by simp at hlen ⊢; omega
   have := hl (j + 1)
   rw [List.getElem?_eq_getElem hll] at this
   have := (Array.getElem?_eq_some_iff.1 this.symm).1
   omega
  have hself : ∀ d, o0.dst = some d → aF.tmps.getD d undef = v0 := fun d hd => by
   rw [h2 d fun j hj => single_spec hs hks (hlt j hj) (by omega) (by rw [hdk, hd]), hd]
   exact put_getD_self a d v0 (hin k d (by rw [hdk, hd]))
  refine ⟨h1, fun t ht => ?_, fun j o hj ho => ?_⟩
  ·rw [h2 t fun j hj => by have := ht (j + 1) (by simpa using hj); rwa [show k + (j + 1) = k + 1 + j by omega] at this]
   exact put_getD_ne _ _ _ _ (by have := ht 0 rfl; rwa [Nat.add_zero, hdk] at this)
  ·match j, hj, ho with
   | 0, hj, ho =>
    obtain rfl : o0 = o := by simpa using ho
    exact ⟨v0, a, hy, hself, rfl, fun t => ⟨fun ⟨i, hi, _⟩ => by omega, fun _ => rfl⟩⟩
   | j + 1, hj, ho =>
    obtain ⟨v, b, g1, g2, g3, g4⟩ := h3 j o (by simpa using hj) (by simpa using ho)
    refine ⟨v, b, g1, g2, by rw [g3, put_size], fun t => ⟨fun ⟨i, hi, hb, hd⟩ => ?_, fun hall => ?_⟩⟩
    ·match i, hi, hb, hd with
     | 0, hi, hb, hd =>
      rw [Nat.add_zero, hdk] at hd
      rw [(g4 t).2 fun i' hi' hb' => single_spec hs hks (hlt i' hb') (by omega) (by rw [hdk, hd]), hself t hd, hd]
      exact put_getD_self a t v0 (hin k t (by rw [hdk, hd]))
     | i + 1, hi, hb, hd => exact (g4 t).1 ⟨i, by omega, by simpa using hb, by rwa [show k + 1 + i = k + (i + 1) by omega]⟩
    ·rw [(g4 t).2 fun i hi hb => by have := hall (i + 1) (by omega) (by simpa using hb); rwa [show k + (i + 1) = k + 1 + i by omega] at this]
     exact put_getD_ne _ _ _ _ (by have := hall 0 (by omega) rfl; rwa [Nat.add_zero, hdk] at this)
theorem eval_of_looks {a b : Act} {o : Oper} (hsel : ∀ cs q, o.op ≠ .select cs q) (hsz : a.tmps.size = b.tmps.size) (h : ∀ t ∈ o.looksAt ops, a.tmps.getD t undef = b.tmps.getD t undef) :
  execOp a.eval o = execOp b.eval o ∧ Region.wanted o (yielded ops a.tmps) = Region.wanted o (yielded ops b.tmps) := by
 have key : ∀ t, a.tmps.getD t undef = b.tmps.getD t undef → a.tmps[t]? = b.tmps[t]? := fun t ht => by
  rcases Nat.lt_or_ge t a.tmps.size with h1 | h1
  ·have h2 : t < b.tmps.size := by omega
   simp only [Array.getD_eq_getD_getElem?, Array.getElem?_eq_getElem h1, Array.getElem?_eq_getElem h2, Option.getD_some] at ht ⊢
   rw [ht]
  ·rw [Array.getElem?_eq_none h1, Array.getElem?_eq_none (by omega)]
 refine ⟨execOp_congr o hsel fun x hx => ?_, ?_⟩
 ·cases x with
  | tmp t =>
   have := key t (h t (List.mem_append_left _ (List.mem_filterMap.2 ⟨.tmp t, by simpa using hx, rfl⟩)))
   simp [Act.eval, this]
  | _ => rfl
 ·unfold Region.wanted
  cases hg : o.guard with
  | none => rfl
  | some gw =>
   obtain ⟨g, want⟩ := gw
   have hy : yielded ops a.tmps g = yielded ops b.tmps g := by
    unfold yielded
    cases ht : (ops[g]?).bind (·.dst) with
    | none => rfl
    | some t =>
     have := key t (h t (by simp [Oper.looksAt, hg, ht]))
     simp [this]
   simp only [hy]
end
end Go.Flow
namespace Go.Flow
open Go.RowKit Go.Sort
def waitsOn (ops : Array Oper) (q j : Nat) : Bool := match ops[q]? with
 | some o => o.after.toList.any fun e => Region.binds .any e && Nat.beq e.on j
 | none => false
theorem waitsOn_spec {ops : Array Oper} {q j : Nat} (h : waitsOn ops q j = true) {o : Oper} (ho : ops[q]? = some o) : ∃ e ∈ o.after.toList, Region.binds .any e = true ∧ e.on = j := by
 unfold waitsOn at h
 rw [ho] at h
 obtain ⟨e, he, h⟩ := List.any_eq_true.1 h
 simp only [Bool.and_eq_true] at h
 exact ⟨e, he, h.1, Nat.eq_of_beq_eq_true h.2⟩
end Go.Flow
namespace Go.Flow
open Go.RowKit Go.Sort
def fed2 (ops : Array Oper) (bs : List Bool) : Bool :=
 (List.range bs.length).all fun i => bs[i]? != some false || match ops[i]? with
 | some o => (o.looksAt ops).all fun t => (List.range ops.size).all fun j => dst ops j != some t || (Nat.blt j i && (bs[j]? == some false) && waitsOn ops i j) || (Nat.blt i j && waitsOn ops j i)
 | none => true
theorem fed2_spec {ops : Array Oper} {bs : List Bool} (h : fed2 ops bs = true) {i : Nat} {o : Oper} (hi : bs[i]? = some false) (ho : ops[i]? = some o) {t j : Nat} (ht : t ∈ o.looksAt ops) (hj : dst ops j = some t) :
  (j < i ∧ bs[j]? = some false ∧ waitsOn ops i j = true) ∨ (i < j ∧ waitsOn ops j i = true) := by
 have h1 := List.all_eq_true.1 h i (List.mem_range.2 (List.getElem?_eq_some_iff.1 hi).1)
 rw [ho, hi] at h1
 simp only [bne_self_eq_false, Bool.false_or] at h1
 have hjs : j < ops.size := by
  rcases Nat.lt_or_ge j ops.size with h2 | h2
  ·exact h2
  ·simp [dst, Array.getElem?_eq_none h2] at hj
 have h2 := List.all_eq_true.1 (List.all_eq_true.1 h1 t ht) j (List.mem_range.2 hjs)
 rw [hj] at h2
 simp only [bne_self_eq_false, Bool.false_or, Bool.or_eq_true, Bool.and_eq_true, Nat.blt_eq, beq_iff_eq] at h2
 rcases h2 with ⟨⟨h3, h4⟩, h5⟩ | ⟨h3, h4⟩
 ·exact .inl ⟨h3, h4, h5⟩
 ·exact .inr ⟨h3, h4⟩
def unwritten (ops : Array Oper) (d : Tmp) : Bool := (List.range ops.size).all fun j => dst ops j != some d
theorem unwritten_spec {ops : Array Oper} {d : Tmp} (h : unwritten ops d = true) (j : Nat) : dst ops j ≠ some d := by
 rcases Nat.lt_or_ge j ops.size with h2 | h2
 ·have := List.all_eq_true.1 h j (List.mem_range.2 h2)
  simpa using this
 ·simp [dst, Array.getElem?_eq_none h2]
theorem wp_region_store {P : Program} {id : Nat} {Q : Exit → Act → World → Prop} {a : Act} {w : World} {l : List Oper} {aF : Act} (bs : List Bool) (q : Nat) (d x : Tmp) (m0 B : Nat) (O O2 : Obj) (V : Value)
  (hm : P.follows .mixedOrders = true) (hsel : Region.noSelect l.toArray = true) (hb : back l.toArray = true) (hsg : single l.toArray = true) (hin : inside l.toArray a.tmps.size = true) (hfed : fed2 l.toArray bs = true)
  (hlen : bs.length = l.length)
  (hbs : ∀ i, i < bs.length → (bs[i]? = some true ↔ i = q)) (hq : q < bs.length)
  (jx : Nat) (hw2 : waitsOn l.toArray q jx = true) (hjx1 : dst l.toArray jx = some x) (hjx2 : bs[jx]? = some false)
  (hun : unwritten l.toArray d = true) (had : a.tmps.getD d undef = .pointer (some ⟨m0, 0, none⟩))
  (hoq : ∃ o, l.toArray[q]? = some o ∧ o.dst = none ∧ o.guard = none ∧
   ∀ (e : Operand → Value) (W : World) (m : Nat), W.heap[m]? = some O → e (.tmp d) = .pointer (some ⟨m, 0, none⟩) → e (.tmp x) = V → ∃ W', (execOp e o).run P W = .ok .skip W' ∧ W'.heap[m]? = some O2 ∧ ∀ B, B ≤ m → B ≤ W.heap.size → Below B W W')
  (hO : w.heap[m0]? = some O) (hBm : B ≤ m0)
  (hwalk : ∀ Z, Below B w Z → wpQuiet P l.toArray (fun w' => ∃ q : Regrown, w' = grow (redrawn Z q.d) q.os) (fun a' => a' = aF) (strike bs l) a)
  (hV : aF.tmps.getD x undef = V)
  (hfin : ∀ Z, Below B w Z → Z.heap[m0]? = some O2 → Q .normal aF Z) :
  (Code.region id l.toArray true).wp P Q a w := by
 obtain ⟨oq, hoq1, hoq2, hoq3, hoq4⟩ := hoq
 obtain ⟨ex, hex1, hex2, hex3⟩ := waitsOn_spec hw2 hoq1
 have hm0 : m0 < w.heap.size := (Array.getElem?_eq_some_iff.1 hO).1
 have hBw : B ≤ w.heap.size := by omega
 have hsz : l.toArray.size = l.length := by simp
 have hdq : dst l.toArray q = none := by simp [dst, hoq1, hoq2]
 have hframes := fun Z hZ => strike_frames hsg bs l 0 a (fun j => by simp) (by omega) (fun i d' hd' => inside_spec hin hd') (hwalk Z hZ)
 have hdF : ∀ j, bs[j]? = some false → j < bs.length := fun j hj => (List.getElem?_eq_some_iff.1 hj).1
 have hbf : ∀ j, j < bs.length → j ≠ q → bs[j]? = some false := fun j hj hnq => by
  have h1 := hbs j hj
  rw [List.getElem?_eq_getElem hj] at h1 ⊢
  cases hv : bs[j]
  ·rfl
  ·rw [hv] at h1
   exact absurd (h1.1 rfl) hnq
 have hjl : ∀ j t, dst l.toArray j = some t → j < bs.length := fun j t hj => by
  rcases Nat.lt_or_ge j l.toArray.size with h2 | h2
  ·omega
  ·simp [dst, Array.getElem?_eq_none h2] at hj
 refine wp_region_any hm ?_
 refine wpAny_inv (SInv l.toArray bs q m0 B O O2 a aF w) hb ?_ ?_ l.toArray.size _ a _ (by simp) (by simp [List.count_replicate]) ?_
 ·intro L a' w' hL hI i o ho hf hpre
  have hi : i < l.toArray.size := (Array.getElem?_eq_some_iff.1 ho).1
  have hilt : i < bs.length := by omega
  have hiL : i < L.size := by omega
  have hLi : (L.setIfInBounds i true).getD i false = true := getD_set_self _ _ _ _ hiL
  have hm0' : m0 < w'.heap.size := (Array.getElem?_eq_some_iff.1 hI.blk).1
  have hfi : L.getD i false = false := by
   simp only [Array.getD_eq_getD_getElem?, Array.getElem?_eq_getElem hiL, Option.getD_some] at hf ⊢
   exact hf
  have hLmono : ∀ j, L.getD j false = true → (L.setIfInBounds i true).getD j false = true := fun j hj => by
   by_cases hji : j = i
   ·subst hji; exact hLi
   ·rw [getD_set_ne _ _ _ _ _ hji]; exact hj
  have hclosed : ∀ j o', l.toArray[j]? = some o' → (L.setIfInBounds i true).getD j false = true → ∀ e ∈ o'.after.toList, Region.binds .any e = true → (L.setIfInBounds i true).getD e.on false = true := fun j o' ho' hj e he hbe => by
   by_cases hji : j = i
   ·subst hji
    obtain rfl : o = o' := Option.some.inj (ho.symm.trans ho')
    exact hLmono _ (hpre e he hbe)
   ·rw [getD_set_ne _ _ _ _ _ hji] at hj
    exact hLmono _ (hI.closed j o' ho' hj e he hbe)
  by_cases hiq : i = q
  ·subst hiq
   obtain rfl : oq = o := Option.some.inj (hoq1.symm.trans ho)
   have hxL : L.getD jx false = true := by rw [← hex3]; exact hpre _ hex1 hex2
   have hqL : L.getD i false = false := by
    simp only [Array.getD_eq_getD_getElem?, Array.getElem?_eq_getElem hiL, Option.getD_some] at hf ⊢
    exact hf
   have h3 := hI.blk
   rw [hqL] at h3
   simp only [Bool.false_eq_true, if_false] at h3
   have ev : ∀ t, a'.eval (.tmp t) = a'.tmps.getD t undef := fun t => by simp [Act.eval, Array.getD_eq_getD_getElem?]
   obtain ⟨W', g1, g2, g3⟩ := hoq4 a'.eval w' m0 h3 (by rw [ev, hI.same d (fun j _ => unwritten_spec hun j), had]) (by rw [ev, hI.vals jx x hjx2 hxL hjx1, hV])
   unfold wpOp
   rw [hoq1]
   simp only [Region.wanted, hoq3, if_true]
   refine .inl ?_
   unfold Oper.wp
   rw [g1]
   simp only [Oper.upon, hoq2]
   refine ⟨hI.size, hI.defers, hI.below.trans (g3 _ hBm (by omega)), fun t ht => hI.same t fun j hj => ht j (hLmono j hj), hclosed, fun j t hj hLj hjt => ?_, ?_⟩
   ·have hji : j ≠ i := fun e => by subst e; rw [hdq] at hjt; cases hjt
    rw [getD_set_ne _ _ _ _ _ hji] at hLj
    exact hI.vals j t hj hLj hjt
   ·rw [hLi]; exact g2
  ·have hbi := hbf i hilt hiq
   have hol : l[i]? = some o := by simpa using ho
   obtain ⟨_, hF3, hF4⟩ := hframes w' hI.below
   obtain ⟨v, b, g1, g2, g3, g4⟩ := hF4 i _ hbi hol
   simp only [Nat.zero_add] at g4
   have hselo := Region.noSelect_spec hsel
   have hlook : ∀ t ∈ o.looksAt l.toArray, a'.tmps.getD t undef = b.tmps.getD t undef := fun t ht => by
    by_cases hw : ∃ j, dst l.toArray j = some t
    ·obtain ⟨j, hjt⟩ := hw
     rcases fed2_spec hfed hbi ho ht hjt with ⟨h1, h2, h3⟩ | ⟨h1, h3⟩
     ·obtain ⟨e, he, hbe, hon⟩ := waitsOn_spec h3 ho
      rw [(g4 t).1 ⟨j, h1, h2, hjt⟩]
      exact hI.vals j t h2 (by rw [← hon]; exact hpre e he hbe) hjt
     ·have hjs : j < l.toArray.size := by have := hjl j t hjt; omega
      have huniq : ∀ j', dst l.toArray j' = some t → j' = j := fun j' hj' => by
       by_cases e : j' = j
       ·exact e
       ·exact absurd hj' (single_spec hsg hjs (by have := hjl j' t hj'; omega) e hjt)
      rw [(g4 t).2 fun j' hj' hbj e => by have := huniq j' e; omega]
      refine hI.same t fun j' hj' e => ?_
      obtain rfl := huniq j' e
      obtain ⟨e, he, hbe, hon⟩ := waitsOn_spec h3 (Array.getElem?_eq_getElem hjs)
      have := hI.closed j' _ (Array.getElem?_eq_getElem hjs) hj' e he hbe
      rw [hon, hfi] at this
      cases this
    ·rw [(g4 t).2 fun j hj hbj e => hw ⟨j, e⟩]
     exact hI.same t fun j _ e => hw ⟨j, e⟩
   obtain ⟨ev, wn⟩ := eval_of_looks (ops := l.toArray) (o := o) (hselo i _ · · ho) (by rw [hI.size, g3]) hlook
   have hy := g1.of_same ev wn
   have hdi : dst l.toArray i = o.dst := by simp [dst, ho]
   refine wpOp_of_qOp (C := fun z => ∃ q : Regrown, z = grow (redrawn w' q.d) q.os) (K := fun a'' => a'' = a'.put o.dst v) ⟨⟨w'.drawn, #[]⟩, by rw [grow_empty]; rfl⟩ ?_ (hy.qOp ho rfl)
   rintro a'' w'' ⟨q', rfl⟩ rfl
   have hbel := below_regrown w' q'.d q'.os
   have hLq : (L.setIfInBounds i true).getD q false = L.getD q false := getD_set_ne _ _ _ _ _ (Ne.symm hiq)
   refine ⟨by rw [put_size]; exact hI.size, by rw [put_defers]; exact hI.defers, hI.below.trans (hbel.mono (by omega)), fun t ht => ?_, hclosed, fun j t hj hLj hjt => ?_, ?_⟩
   ·rw [put_getD_ne _ _ _ _ (by rw [← hdi]; exact ht i hLi)]
    exact hI.same t fun j hj => ht j (hLmono j hj)
   ·by_cases hji : j = i
    ·subst hji
     rw [hdi] at hjt
     rw [hjt, put_getD_self _ _ _ (by rw [hI.size]; exact inside_spec hin (i := j) (by rw [hdi, hjt])), g2 t hjt]
    ·rw [getD_set_ne _ _ _ _ _ hji] at hLj
     have hjs : j < l.toArray.size := by rw [hsz]; have := hdF j hj; omega
     rw [put_getD_ne _ _ _ _ (by rw [← hdi]; exact fun e => single_spec hsg hi hjs hji e hjt)]
     exact hI.vals j t hj hLj hjt
   ·rw [hLq, hbel.block m0 hm0']
    exact hI.blk
 ·intro L a' w' hL hall hI
  have hm3 := hI.blk
  rw [hall q (by omega)] at hm3
  simp only [if_true] at hm3
  obtain ⟨⟨hF1, hF2⟩, hF3, _⟩ := hframes w (Below.refl _ _)
  have ha' : a' = aF := by
   have e1 : a'.tmps = aF.tmps := by
    apply Array.ext
    ·rw [hF1, hI.size]
    ·intro t h1 h2
     have g : a'.tmps.getD t undef = aF.tmps.getD t undef := by
      by_cases hw : ∃ j, dst l.toArray j = some t
      ·obtain ⟨j, hjt⟩ := hw
       have hjq : j ≠ q := fun e => by subst e; rw [hdq] at hjt; cases hjt
       exact hI.vals j t (hbf j (hjl j t hjt) hjq) (hall j (by have := hjl j t hjt; omega)) hjt
      ·rw [hI.same t fun j _ e => hw ⟨j, e⟩, hF3 t fun j hj => by rw [Nat.zero_add]; exact fun e => hw ⟨j, e⟩]
     simpa [Array.getD_eq_getD_getElem?, h1, h2] using g
   have e2 : a'.defers = aF.defers := by rw [hF2, hI.defers]
   obtain ⟨x, y⟩ := a'
   obtain ⟨x', y'⟩ := aF
   simp only at e1 e2
   rw [e1, e2]
  rw [ha']
  exact hfin w' hI.below hm3
 ·refine ⟨rfl, rfl, (Below.refl B w).drew, fun _ _ => rfl, fun j o _ hl => (by rw [getD_replicate_false] at hl; cases hl), fun j t _ hl => (by rw [getD_replicate_false] at hl; cases hl), ?_⟩
  rw [getD_replicate_false]
  exact hO
end Go.Flow
