/- The reference's number. -/
import Derived.Test.YtpabaabkhmjdhaaDoorW8
namespace Go.Proofs.YtpabaabkhmjdhaaDoor
open Go.RowKit Go.Proofs.Scn Go.Flow Go.Sort
set_option linter.unusedVariables false
set_option linter.unusedSimpArgs false
set_option maxRecDepth 100000

/-- a box of 3 cells that can be read and written -/
structure Box3 (w : World) (n : Nat) (a b c : Value) : Prop where
  c0 : w.cell? ⟨n, 0, none⟩ = some a
  c1 : w.cell? ⟨n, 1, none⟩ = some b
  c2 : w.cell? ⟨n, 2, none⟩ = some c
  f0 : w.frozen? ⟨n, 0, none⟩ = false
  f1 : w.frozen? ⟨n, 1, none⟩ = false
  f2 : w.frozen? ⟨n, 2, none⟩ = false
  lt : n < w.heap.size
theorem Box3.new (w : World) (a b c : Value) (t : TypeId) : Box3 (w.alloc (.cells #[a, b, c] t)) w.heap.size a b c :=
  ⟨by simp [World.cell?_alloc_new], by simp [World.cell?_alloc_new], by simp [World.cell?_alloc_new], by simp [go_sem], by simp [go_sem], by simp [go_sem], by simp⟩
theorem Box3.later {w w' : World} {n : Nat} {a b c : Value} (h : Box3 w n a b c) (hb : Below w.heap.size w w') : Box3 w' n a b c :=
  ⟨(hb.cell (p := ⟨n, 0, none⟩) h.lt).trans h.c0, (hb.cell (p := ⟨n, 1, none⟩) h.lt).trans h.c1, (hb.cell (p := ⟨n, 2, none⟩) h.lt).trans h.c2, (hb.frozen (p := ⟨n, 0, none⟩) h.lt).trans h.f0, (hb.frozen (p := ⟨n, 1, none⟩) h.lt).trans h.f1, (hb.frozen (p := ⟨n, 2, none⟩) h.lt).trans h.f2, Nat.lt_of_lt_of_le h.lt hb.size⟩
theorem Box3.below {w w' : World} {n B : Nat} {a b c : Value} (h : Box3 w n a b c) (hn : n < B) (hb : Below B w w') : Box3 w' n a b c :=
  ⟨(hb.cell (p := ⟨n, 0, none⟩) hn).trans h.c0, (hb.cell (p := ⟨n, 1, none⟩) hn).trans h.c1, (hb.cell (p := ⟨n, 2, none⟩) hn).trans h.c2, (hb.frozen (p := ⟨n, 0, none⟩) hn).trans h.f0, (hb.frozen (p := ⟨n, 1, none⟩) hn).trans h.f1, (hb.frozen (p := ⟨n, 2, none⟩) hn).trans h.f2, Nat.lt_of_lt_of_le h.lt hb.size⟩
theorem Box3.of_block {w : World} {m : Nat} {a b c : Value} {t : TypeId} (h : w.heap[m]? = some (.cells #[a, b, c] t)) : Box3 w m a b c :=
  ⟨by simp [World.cell?, h], by simp [World.cell?, h], by simp [World.cell?, h], by simp [World.frozen?, h], by simp [World.frozen?, h], by simp [World.frozen?, h], (Array.getElem?_eq_some_iff.1 h).1⟩
theorem Box3.set0 {w : World} {n : Nat} {a b c : Value} (h : Box3 w n a b c) (x : Value) : Box3 (w.setCell ⟨n, 0, none⟩ x) n x b c :=
  ⟨by simp [go_sem, h.c0], by simp [go_sem, h.c1], by simp [go_sem, h.c2], by simp [go_sem, h.f0], by simp [go_sem, h.f1], by simp [go_sem, h.f2], by simpa [World.setCell] using h.lt⟩
theorem Box3.set1 {w : World} {n : Nat} {a b c : Value} (h : Box3 w n a b c) (x : Value) : Box3 (w.setCell ⟨n, 1, none⟩ x) n a x c :=
  ⟨by simp [go_sem, h.c0], by simp [go_sem, h.c1], by simp [go_sem, h.c2], by simp [go_sem, h.f0], by simp [go_sem, h.f1], by simp [go_sem, h.f2], by simpa [World.setCell] using h.lt⟩
theorem Box3.set2 {w : World} {n : Nat} {a b c : Value} (h : Box3 w n a b c) (x : Value) : Box3 (w.setCell ⟨n, 2, none⟩ x) n a b x :=
  ⟨by simp [go_sem, h.c0], by simp [go_sem, h.c1], by simp [go_sem, h.c2], by simp [go_sem, h.f0], by simp [go_sem, h.f1], by simp [go_sem, h.f2], by simpa [World.setCell] using h.lt⟩

/-- a box of 7 cells that can be read and written -/
structure Box7 (w : World) (n : Nat) (a b c d e f g : Value) : Prop where
  c0 : w.cell? ⟨n, 0, none⟩ = some a
  c1 : w.cell? ⟨n, 1, none⟩ = some b
  c2 : w.cell? ⟨n, 2, none⟩ = some c
  c3 : w.cell? ⟨n, 3, none⟩ = some d
  c4 : w.cell? ⟨n, 4, none⟩ = some e
  c5 : w.cell? ⟨n, 5, none⟩ = some f
  c6 : w.cell? ⟨n, 6, none⟩ = some g
  f0 : w.frozen? ⟨n, 0, none⟩ = false
  f1 : w.frozen? ⟨n, 1, none⟩ = false
  f2 : w.frozen? ⟨n, 2, none⟩ = false
  f3 : w.frozen? ⟨n, 3, none⟩ = false
  f4 : w.frozen? ⟨n, 4, none⟩ = false
  f5 : w.frozen? ⟨n, 5, none⟩ = false
  f6 : w.frozen? ⟨n, 6, none⟩ = false
  lt : n < w.heap.size
theorem Box7.new (w : World) (a b c d e f g : Value) (t : TypeId) : Box7 (w.alloc (.cells #[a, b, c, d, e, f, g] t)) w.heap.size a b c d e f g :=
  ⟨by simp [World.cell?_alloc_new], by simp [World.cell?_alloc_new], by simp [World.cell?_alloc_new], by simp [World.cell?_alloc_new], by simp [World.cell?_alloc_new], by simp [World.cell?_alloc_new], by simp [World.cell?_alloc_new], by simp [go_sem], by simp [go_sem], by simp [go_sem], by simp [go_sem], by simp [go_sem], by simp [go_sem], by simp [go_sem], by simp⟩
theorem Box7.later {w w' : World} {n : Nat} {a b c d e f g : Value} (h : Box7 w n a b c d e f g) (hb : Below w.heap.size w w') : Box7 w' n a b c d e f g :=
  ⟨(hb.cell (p := ⟨n, 0, none⟩) h.lt).trans h.c0, (hb.cell (p := ⟨n, 1, none⟩) h.lt).trans h.c1, (hb.cell (p := ⟨n, 2, none⟩) h.lt).trans h.c2, (hb.cell (p := ⟨n, 3, none⟩) h.lt).trans h.c3, (hb.cell (p := ⟨n, 4, none⟩) h.lt).trans h.c4, (hb.cell (p := ⟨n, 5, none⟩) h.lt).trans h.c5, (hb.cell (p := ⟨n, 6, none⟩) h.lt).trans h.c6, (hb.frozen (p := ⟨n, 0, none⟩) h.lt).trans h.f0, (hb.frozen (p := ⟨n, 1, none⟩) h.lt).trans h.f1, (hb.frozen (p := ⟨n, 2, none⟩) h.lt).trans h.f2, (hb.frozen (p := ⟨n, 3, none⟩) h.lt).trans h.f3, (hb.frozen (p := ⟨n, 4, none⟩) h.lt).trans h.f4, (hb.frozen (p := ⟨n, 5, none⟩) h.lt).trans h.f5, (hb.frozen (p := ⟨n, 6, none⟩) h.lt).trans h.f6, Nat.lt_of_lt_of_le h.lt hb.size⟩
theorem Box7.below {w w' : World} {n B : Nat} {a b c d e f g : Value} (h : Box7 w n a b c d e f g) (hn : n < B) (hb : Below B w w') : Box7 w' n a b c d e f g :=
  ⟨(hb.cell (p := ⟨n, 0, none⟩) hn).trans h.c0, (hb.cell (p := ⟨n, 1, none⟩) hn).trans h.c1, (hb.cell (p := ⟨n, 2, none⟩) hn).trans h.c2, (hb.cell (p := ⟨n, 3, none⟩) hn).trans h.c3, (hb.cell (p := ⟨n, 4, none⟩) hn).trans h.c4, (hb.cell (p := ⟨n, 5, none⟩) hn).trans h.c5, (hb.cell (p := ⟨n, 6, none⟩) hn).trans h.c6, (hb.frozen (p := ⟨n, 0, none⟩) hn).trans h.f0, (hb.frozen (p := ⟨n, 1, none⟩) hn).trans h.f1, (hb.frozen (p := ⟨n, 2, none⟩) hn).trans h.f2, (hb.frozen (p := ⟨n, 3, none⟩) hn).trans h.f3, (hb.frozen (p := ⟨n, 4, none⟩) hn).trans h.f4, (hb.frozen (p := ⟨n, 5, none⟩) hn).trans h.f5, (hb.frozen (p := ⟨n, 6, none⟩) hn).trans h.f6, Nat.lt_of_lt_of_le h.lt hb.size⟩
theorem Box7.of_block {w : World} {m : Nat} {a b c d e f g : Value} {t : TypeId} (h : w.heap[m]? = some (.cells #[a, b, c, d, e, f, g] t)) : Box7 w m a b c d e f g :=
  ⟨by simp [World.cell?, h], by simp [World.cell?, h], by simp [World.cell?, h], by simp [World.cell?, h], by simp [World.cell?, h], by simp [World.cell?, h], by simp [World.cell?, h], by simp [World.frozen?, h], by simp [World.frozen?, h], by simp [World.frozen?, h], by simp [World.frozen?, h], by simp [World.frozen?, h], by simp [World.frozen?, h], by simp [World.frozen?, h], (Array.getElem?_eq_some_iff.1 h).1⟩
theorem Box7.set0 {w : World} {n : Nat} {a b c d e f g : Value} (h : Box7 w n a b c d e f g) (x : Value) : Box7 (w.setCell ⟨n, 0, none⟩ x) n x b c d e f g :=
  ⟨by simp [go_sem, h.c0], by simp [go_sem, h.c1], by simp [go_sem, h.c2], by simp [go_sem, h.c3], by simp [go_sem, h.c4], by simp [go_sem, h.c5], by simp [go_sem, h.c6], by simp [go_sem, h.f0], by simp [go_sem, h.f1], by simp [go_sem, h.f2], by simp [go_sem, h.f3], by simp [go_sem, h.f4], by simp [go_sem, h.f5], by simp [go_sem, h.f6], by simpa [World.setCell] using h.lt⟩
theorem Box7.set1 {w : World} {n : Nat} {a b c d e f g : Value} (h : Box7 w n a b c d e f g) (x : Value) : Box7 (w.setCell ⟨n, 1, none⟩ x) n a x c d e f g :=
  ⟨by simp [go_sem, h.c0], by simp [go_sem, h.c1], by simp [go_sem, h.c2], by simp [go_sem, h.c3], by simp [go_sem, h.c4], by simp [go_sem, h.c5], by simp [go_sem, h.c6], by simp [go_sem, h.f0], by simp [go_sem, h.f1], by simp [go_sem, h.f2], by simp [go_sem, h.f3], by simp [go_sem, h.f4], by simp [go_sem, h.f5], by simp [go_sem, h.f6], by simpa [World.setCell] using h.lt⟩
theorem Box7.set2 {w : World} {n : Nat} {a b c d e f g : Value} (h : Box7 w n a b c d e f g) (x : Value) : Box7 (w.setCell ⟨n, 2, none⟩ x) n a b x d e f g :=
  ⟨by simp [go_sem, h.c0], by simp [go_sem, h.c1], by simp [go_sem, h.c2], by simp [go_sem, h.c3], by simp [go_sem, h.c4], by simp [go_sem, h.c5], by simp [go_sem, h.c6], by simp [go_sem, h.f0], by simp [go_sem, h.f1], by simp [go_sem, h.f2], by simp [go_sem, h.f3], by simp [go_sem, h.f4], by simp [go_sem, h.f5], by simp [go_sem, h.f6], by simpa [World.setCell] using h.lt⟩
theorem Box7.set3 {w : World} {n : Nat} {a b c d e f g : Value} (h : Box7 w n a b c d e f g) (x : Value) : Box7 (w.setCell ⟨n, 3, none⟩ x) n a b c x e f g :=
  ⟨by simp [go_sem, h.c0], by simp [go_sem, h.c1], by simp [go_sem, h.c2], by simp [go_sem, h.c3], by simp [go_sem, h.c4], by simp [go_sem, h.c5], by simp [go_sem, h.c6], by simp [go_sem, h.f0], by simp [go_sem, h.f1], by simp [go_sem, h.f2], by simp [go_sem, h.f3], by simp [go_sem, h.f4], by simp [go_sem, h.f5], by simp [go_sem, h.f6], by simpa [World.setCell] using h.lt⟩
theorem Box7.set4 {w : World} {n : Nat} {a b c d e f g : Value} (h : Box7 w n a b c d e f g) (x : Value) : Box7 (w.setCell ⟨n, 4, none⟩ x) n a b c d x f g :=
  ⟨by simp [go_sem, h.c0], by simp [go_sem, h.c1], by simp [go_sem, h.c2], by simp [go_sem, h.c3], by simp [go_sem, h.c4], by simp [go_sem, h.c5], by simp [go_sem, h.c6], by simp [go_sem, h.f0], by simp [go_sem, h.f1], by simp [go_sem, h.f2], by simp [go_sem, h.f3], by simp [go_sem, h.f4], by simp [go_sem, h.f5], by simp [go_sem, h.f6], by simpa [World.setCell] using h.lt⟩
theorem Box7.set5 {w : World} {n : Nat} {a b c d e f g : Value} (h : Box7 w n a b c d e f g) (x : Value) : Box7 (w.setCell ⟨n, 5, none⟩ x) n a b c d e x g :=
  ⟨by simp [go_sem, h.c0], by simp [go_sem, h.c1], by simp [go_sem, h.c2], by simp [go_sem, h.c3], by simp [go_sem, h.c4], by simp [go_sem, h.c5], by simp [go_sem, h.c6], by simp [go_sem, h.f0], by simp [go_sem, h.f1], by simp [go_sem, h.f2], by simp [go_sem, h.f3], by simp [go_sem, h.f4], by simp [go_sem, h.f5], by simp [go_sem, h.f6], by simpa [World.setCell] using h.lt⟩
theorem Box7.set6 {w : World} {n : Nat} {a b c d e f g : Value} (h : Box7 w n a b c d e f g) (x : Value) : Box7 (w.setCell ⟨n, 6, none⟩ x) n a b c d e f x :=
  ⟨by simp [go_sem, h.c0], by simp [go_sem, h.c1], by simp [go_sem, h.c2], by simp [go_sem, h.c3], by simp [go_sem, h.c4], by simp [go_sem, h.c5], by simp [go_sem, h.c6], by simp [go_sem, h.f0], by simp [go_sem, h.f1], by simp [go_sem, h.f2], by simp [go_sem, h.f3], by simp [go_sem, h.f4], by simp [go_sem, h.f5], by simp [go_sem, h.f6], by simpa [World.setCell] using h.lt⟩

def numO (b : Nat) (l : List UInt8) : Bool := allFig b l && !l.isEmpty

theorem fits_step (V b d : Nat) (hb1 : 1 ≤ b) (hb : b ≤ 16) (hd : d < b) : (decide (V < two64) && !decide ((18446744073709551615 - d) / b < V % two64)) = decide (V * b + d < two64) := by
  rw [Bool.eq_iff_iff]
  simp only [Bool.and_eq_true, decide_eq_true_eq, Bool.not_eq_true', decide_eq_false_iff_not]
  constructor
  · rintro ⟨h1, h2⟩
    rw [Nat.mod_eq_of_lt h1] at h2
    have h3 : V ≤ (18446744073709551615 - d) / b := by omega
    have h4 := (Nat.le_div_iff_mul_le (by omega)).1 h3
    unfold two64
    omega
  · intro h
    have h1 : V < two64 := by
      have := Nat.le_mul_of_pos_right V hb1
      omega
    refine ⟨h1, ?_⟩
    rw [Nat.mod_eq_of_lt h1]
    have h3 : V ≤ (18446744073709551615 - d) / b := (Nat.le_div_iff_mul_le (by omega)).2 (by unfold two64 at h; omega)
    omega

set_option maxHeartbeats 4000000 in
theorem refNumber_any (s : ByteArray) (b : Nat) (hs : s.size ≤ 140737488351232) (hb : 2 ≤ b) (hb2 : b ≤ 16) (W : World) :
    Calls Tryd.prog 70 #[.string s, .int .u64 b] W fun e W' => e = .returned (.agg #[.bool (numO b s.data.toList), .bool (numB b s.data.toList), .int .u64 (numA b s.data.toList : Nat)]) ∧ Below W.heap.size W W' := by
  have hlen : s.data.toList.length = s.size := rfl
  have HL := Lib.hid hlen
  have hfin : allFig b s.data.toList = true → numO b s.data.toList = decide (0 < s.size) ∧ numB b s.data.toList = smallV b s.data.toList ∧ numA b s.data.toList = cutV b s.data.toList := by
    intro h
    refine ⟨?_, by unfold numB; rw [h]; rfl, by unfold numA; rw [h]; rfl⟩
    unfold numO
    rw [h]
    cases hh : s.data.toList with
    | nil => have : s.size = 0 := by rw [← hlen, hh]; rfl
             rw [this]; rfl
    | cons x l => have : s.size = l.length + 1 := by rw [← hlen, hh]; rfl
                  rw [this]; simp
  have hbad : allFig b s.data.toList = false → numO b s.data.toList = false ∧ numB b s.data.toList = false ∧ numA b s.data.toList = 0 := by
    intro h
    unfold numO numB numA
    rw [h]
    exact ⟨rfl, rfl, rfl⟩
  have HF := Lib.hid hfin
  have HB := Lib.hid hbad
  clear hfin hbad hlen
  have B1 := Box3.new W (.bool false) (.bool false) (.int .u64 0) 77
  have B1' := B1.later ((Below.refl _ _).alloc (Nat.le_refl _) (.cells #[.bool (decide (0 < s.size)), .bool true, .int .u64 0] 77))
  have B2 : Box3 ((W.alloc (.cells #[.bool false, .bool false, .int .u64 0] 77)).alloc (.cells #[.bool (decide (0 < s.size)), .bool true, .int .u64 0] 77)) (W.heap.size + 1) (.bool (decide (0 < s.size))) (.bool true) (.int .u64 0) := by
    simpa using Box3.new (W.alloc (.cells #[.bool false, .bool false, .int .u64 0] 77)) (.bool (decide (0 < s.size))) (.bool true) (.int .u64 0) 77
  have hW : Below W.heap.size W ((W.alloc (.cells #[.bool false, .bool false, .int .u64 0] 77)).alloc (.cells #[.bool (decide (0 < s.size)), .bool true, .int .u64 0] 77)) := ((Below.refl _ _).alloc (Nat.le_refl _) _).alloc (by simp) _
  have H1 := Lib.hid B1'
  have H2 := Lib.hid B2
  have HW := Lib.hid hW
  clear B1 B1' B2 hW
  go_enter Tryd.func70, Tryd.ntmps70
  go_wp2
  have hm1 := Lib.hid (show W.heap.size < W.heap.size + 1 by omega)
  generalize (W.alloc (.cells #[.bool false, .bool false, .int .u64 0] 77)).alloc (.cells #[.bool (decide (0 < s.size)), .bool true, .int .u64 0] 77) = X at *
  generalize decide (0 < s.size) = ok at *
  generalize hn1 : W.heap.size + 1 = m1 at *
  have HN := Lib.hid hn1
  clear hn1
  go_loopw [6] (fun i wr => ∃ k : Nat, k ≤ s.size ∧ i = .int .i64 k ∧ Hid (Box3 wr m1 (.bool ok) (.bool (smallV b (s.data.toList.take k))) (.int .u64 (cutV b (s.data.toList.take k) : Nat))) ∧ Hid (Below m1 X wr) ∧ Hid (Below W.heap.size W wr) ∧ Hid (allFig b (s.data.toList.take k) = true)) (fun i _ => s.size - (intOf i).toNat)
  case atStart => exact ⟨0, Nat.zero_le _, rfl, H2, Lib.hid (Below.refl _ _), HW, Lib.hid rfl⟩
  case round =>
    obtain ⟨k, hk, rfl, hb1, hbel, hbw, hfig⟩ := hrel
    by_cases hlt : k < s.size
    · have kv := fun W => value_any s[k] W
      have hkl : k < s.data.toList.length := hlt
      have hsk : s.data.toList[k] = s[k] := rfl
      by_cases hfb : figV s[k] < b
      · have hns := num_snoc b s.data.toList k hkl
        have hfs := fig_snoc b s.data.toList k hkl
        rw [hsk] at hns hfs
        have hst := fits_step (numV b (s.data.toList.take k)) b (figV s[k]) (by omega) hb2 hfb
        rw [← hns] at hst
        have hnext : allFig b (s.data.toList.take (k + 1)) = true := by rw [hfs, hfig.out, decide_eq_true hfb]; rfl
        have N := Lib.hid hnext
        obtain ⟨c0, c1, c2, f0, f1, f2, lt⟩ := hb1.out
        have KV := Lib.hid kv
        have hd : ((figV s[k] : Nat) : Int) < (b : Int) := by omega
        have hv : cutV b (s.data.toList.take k) < two64 := two64_lt _
        have hcut : (cutV b (s.data.toList.take k) * b + figV s[k]) % two64 = cutV b (s.data.toList.take (k + 1)) := by
          unfold cutV
          rw [hns, Nat.add_mod, Nat.mod_mul_mod, ← Nat.add_mod]
        have hsm : (smallV b (s.data.toList.take k) && !decide ((18446744073709551615 - figV s[k]) / b < cutV b (s.data.toList.take k))) = smallV b (s.data.toList.take (k + 1)) := hst
        have HC := Lib.hid hcut
        have HS := Lib.hid hsm
        clear hns hfs hst hnext kv hcut hsm hfb hsk
        generalize figV s[k] = d at *
        generalize cutV b (s.data.toList.take k) = v at *
        generalize smallV b (s.data.toList.take k) = sm at *
        go_wp2_with (go_at_call 84; refine (KV.out _).mono ?_; rintro e w' ⟨rfl, rfl⟩)
        go_quiet (fail)
        have e1 : ((18446744073709551615 - d : Nat) : Int) = 18446744073709551615 - (d : Int) := by omega
        have e2 : (((18446744073709551615 - d) / b : Nat) : Int) = (18446744073709551615 - (d : Int)) / (b : Int) := by rw [Int.natCast_ediv, e1]
        have e3 : ((v : Int) * (b : Int) % 18446744073709551616 + (d : Int)) % 18446744073709551616 = ((cutV b (s.data.toList.take (k + 1)) : Nat) : Int) := by
          rw [← HC.out, show (v : Int) * (b : Int) = ((v * b : Nat) : Int) by simp]
          generalize v * b = p
          unfold two64
          omega
        have E3 := Lib.hid e3
        clear e1 e3
        have hbd := Lib.hid ((Box3.mk c0 c1 c2 f0 f1 f2 lt).later (below_drewN (Below.refl _ _) nq))
        have hnle := Lib.hid (show W.heap.size ≤ m1 by have := HN.out; omega)
        by_cases hq : (18446744073709551615 - d) / b < v
        · have hq' : (18446744073709551615 - (d : Int)) / (b : Int) < (v : Int) := by rw [← e2]; omega
          have HQ := Lib.hid hq
          clear e2 hq
          go_wp2
          go_roundw
          case rel =>
            have hbx := (hbd.out.set1 (.bool false)).set2 (.int .u64 (((v : Int) * (b : Int) % 18446744073709551616 + (d : Int)) % 18446744073709551616))
            refine ⟨k + 1, by omega, by go_num, Lib.hid ?_, Lib.hid (((hbel.out.trans (below_drewN (Below.refl _ _) nq)).setCell (Nat.le_refl _) _).setCell (Nat.le_refl _) _), Lib.hid (((hbw.out.trans (below_drewN (Below.refl _ _) nq)).setCell hnle.out _).setCell hnle.out _), N⟩
            rw [← E3.out, ← HS.out, show (sm && !decide ((18446744073709551615 - d) / b < v)) = false by simp [HQ.out]]
            exact hbx
          case measure => simp [intOf]; omega
        · have hq' : ¬ (18446744073709551615 - (d : Int)) / (b : Int) < (v : Int) := by rw [← e2]; omega
          have HQ := Lib.hid hq
          clear e2 hq
          go_wp2
          go_roundw
          case rel =>
            have hbx := hbd.out.set2 (.int .u64 (((v : Int) * (b : Int) % 18446744073709551616 + (d : Int)) % 18446744073709551616))
            refine ⟨k + 1, by omega, by go_num, Lib.hid ?_, Lib.hid ((hbel.out.trans (below_drewN (Below.refl _ _) nq)).setCell (Nat.le_refl _) _), Lib.hid ((hbw.out.trans (below_drewN (Below.refl _ _) nq)).setCell hnle.out _), N⟩
            rw [← E3.out, ← HS.out, show (sm && !decide ((18446744073709551615 - d) / b < v)) = sm by simp [HQ.out]]
            exact hbx
          case measure => simp [intOf]; omega
      · have hno := HB.out (allFig_not (b := b) hkl (by rw [hsk]; exact hfb))
        have hd : (b : Int) ≤ ((figV s[k] : Nat) : Int) := by omega
        have hR := H1.out.below (show W.heap.size < m1 by have := HN.out; omega) hbel.out
        obtain ⟨c0, c1, c2, f0, f1, f2, lt⟩ := hR
        have KV := Lib.hid kv
        have NO := Lib.hid hno
        clear kv hfb hsk hno
        generalize figV s[k] = d at *
        go_wp2_with (go_at_call 84; refine (KV.out _).mono ?_; rintro e w' ⟨rfl, rfl⟩)
        refine bodyPost_ret (v := .agg #[.bool false, .bool false, .int .u64 0]) ?_ rfl ⟨by rw [NO.out.1, NO.out.2.1, NO.out.2.2]; rfl, (((hbw.out.setCell (Nat.le_refl _) _).setCell (Nat.le_refl _) _).setCell (Nat.le_refl _) _)⟩
        simp [results, Tryd.results70, go_sem, c0, c1, c2, f0, f1, f2]
    · obtain rfl : k = s.size := by omega
      have e : s.data.toList.take s.size = s.data.toList := List.take_of_length_le (by rw [HL.out]; exact Nat.le_refl _)
      have hf := hfig.out
      have hb := hb1.out
      rw [e] at hf hb
      have hfi := Lib.hid (HF.out hf)
      have hR := H1.out.below (show W.heap.size < m1 by have := HN.out; omega) hbel.out
      obtain ⟨c0, c1, c2, f0, f1, f2, lt⟩ := hR
      obtain ⟨k0, k1, k2, g0, g1, g2, lk⟩ := hb
      clear hf e hfig hb1
      generalize smallV b s.data.toList = sm at *
      generalize cutV b s.data.toList = v at *
      go_wp2
      refine bodyPost_ret (v := .agg #[.bool ok, .bool sm, .int .u64 v]) ?_ rfl ⟨by rw [hfi.out.1, hfi.out.2.1, hfi.out.2.2], (((hbw.out.setCell (Nat.le_refl _) _).setCell (Nat.le_refl _) _).setCell (Nat.le_refl _) _)⟩
      simp [results, Tryd.results70, go_sem, c0, c1, c2, f0, f1, f2]
end Go.Proofs.YtpabaabkhmjdhaaDoor
