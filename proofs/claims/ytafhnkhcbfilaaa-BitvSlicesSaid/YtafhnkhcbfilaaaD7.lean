/- Parts are what they are parts of: the walk. -/
import Derived.Test.YtafhnkhcbfilaaaD2
import Derived.Test.YtafhnkhcbfilaaaP13
import Derived.Deep.Cut
namespace Go.Proofs.Ytafhnkhcbfilaaa
open Go.RowKit Go.Flow Go.Sort
set_option linter.unusedVariables false
set_option linter.unusedSimpArgs false
set_option maxRecDepth 100000

theorem own_block {w : World} {base e size n : Nat} {v : Value} {xs : List Value} (h : w.ownsRow base e size v n xs) : ∀ k, v.ownBlock = some k → base ≤ k := by
  rcases h.2 with ⟨rfl, _⟩ | ⟨g, cap, cur, rfl, hb, _⟩
  · intro k hk; simp [Value.ownBlock] at hk
  · intro k hk; simp [Value.ownBlock] at hk; omega

set_option maxHeartbeats 8000000 in
theorem law_slices11 (w x hi lo y : Nat) (W : World) (hw : w < 256) (hx : x < 18446744073709551616) (hhi : hi < 256) (hlo : lo < 256) (hy : y < 18446744073709551616)
    (c1 : hi % mw w + 1 < mw w) (c2 : 0 < lo % (hi % mw w + 1)) :
    Calls Try.prog 9 #[.int .u8 w, .int .u64 x, .int .u8 hi, .int .u8 lo, .int .u64 y] W fun e W' => e = .returned (.bool true) ∧ Below W.heap.size W W' := by
  have m1 := fun W => masked_any w x W hw hx
  have h0 := mw_pos w
  have h64 := mw_le w
  have lx := Nat.mod_lt x (Nat.two_pow_pos (mw w))
  generalize x % 2 ^ mw w = x' at *
  generalize mw w = k at *
  have hk := Nat.mod_lt hi h0
  have eh : (hi : Int) % (k : Int) = ((hi % k : Nat) : Int) := by rw [Int.natCast_emod]
  generalize hi % k = h at *
  have hl := Nat.mod_lt lo (show 0 < h + 1 by omega)
  have el : (lo : Int) % ((h : Int) + 1) = ((lo % (h + 1) : Nat) : Int) := by rw [Int.natCast_emod]; rfl
  have hl' : lo % (h + 1) ≤ h := by have := hl; omega
  clear hl
  generalize lo % (h + 1) = l at *
  have e1 : (h : Int) - l + 1 = ((h - l + 1 : Nat) : Int) := by omega
  have hm := and_mask (h - l + 1) y (by omega) (by omega)
  have hy' := Nat.mod_lt y (Nat.two_pow_pos (h - l + 1))
  rw [← e1] at hm
  have ha := u64_and_nat y (mask ((h : Int) - l + 1)) hy (mask_lt _)
  rw [hm] at ha
  generalize y % 2 ^ (h - l + 1) = y' at *
  clear hm
  have hr := slices_calls k x' h l y' h0 h64 lx hk hl' hy'
  have ly' : y' < 18446744073709551616 := lt64 (k := h - l + 1) (by omega) hy'
  simp only [SetC, SliceC] at hr
  obtain ⟨p, t, r, hp, k1, k2, k3, k4, k5, k6, k7, k8⟩ := hr
  clear e1 hy' hp lx
  obtain ⟨k3, ht⟩ := k3 (by omega)
  obtain ⟨k4, hr⟩ := k4 (by omega)
  have kc := k5 (by omega) (by omega)
  clear k5 k6 k7 k8
  have k9 := fun base v W hown => cat_own base v [((k : Int) - 1 - h, t), ((h : Int) - l + 1, y'), ((l : Int), r)] k p W hown (by simp) (by simp) (by simp; omega) kc
  clear kc
  have lk : (0 : Int) < (k : Int) := by omega
  have lk2 : (k : Int) ≤ 64 := by omega
  have lh : (h : Int) < (k : Int) := by omega
  have ll : (l : Int) ≤ (h : Int) := by omega
  have c1i : (h : Int) + 1 < (k : Int) := by omega
  have c2i : (0 : Int) < (l : Int) := by omega
  obtain ⟨i0, hi0, hz0, hz1, hz2⟩ := info_parts Try.infoBits
  have hi0h := Lib.hid hi0
  have hz0h := Lib.hid hz0
  have hz1h := Lib.hid hz1
  have hz2h := Lib.hid hz2
  clear hi0 hz0 hz1 hz2
  have kl : ∀ W, Calls Try.prog 15 #[] W fun e W' => e = .returned (.bool true) ∧ Below W.heap.size W W' := live_any
  have k1h := Lib.hid k1
  have k2h := Lib.hid k2
  have k3h := Lib.hid k3
  have k4h := Lib.hid k4
  have k9h := Lib.hid k9
  have m1h := Lib.hid m1
  have klh := Lib.hid kl
  clear k1 k2 k3 k4 k9 m1 kl
  go_enter Try.func9, Try.ntmps9
  go_wp2_with fail
  refine Calls.mono (m1h _) ?_
  rintro e W1 ⟨rfl, h1⟩
  have hW := h1
  clear h1
  replace hW := hW.alloc hW.size (.cells #[.int .i64 k, .int .u64 x'] 24)
  have A := Box.new W1 (.int .i64 k) (.int .u64 x') 24
  obtain ⟨A0, A1, _, _, _⟩ := id A
  go_wp2_with fail
  clear A0 A1
  refine Calls.mono (refMask_any _ _) ?_
  rintro e WM ⟨rfl, rfl⟩
  have B : Box ((W1.alloc (.cells #[.int .i64 k, .int .u64 x'] 24)).alloc (.cells #[.int .i64 ((h : Int) - l + 1), .int .u64 y'] 24)) (W1.heap.size + 1) (.int .i64 ((h : Int) - l + 1)) (.int .u64 y') := by simpa using Box.new (W1.alloc (.cells #[.int .i64 k, .int .u64 x'] 24)) (.int .i64 ((h : Int) - l + 1)) (.int .u64 y') 24
  replace A := A.alloc (.cells #[.int .i64 ((h : Int) - l + 1), .int .u64 y'] 24)
  replace hW := hW.alloc hW.size (.cells #[.int .i64 ((h : Int) - l + 1), .int .u64 y'] 24)
  obtain ⟨A0, A1, _, _, _⟩ := id A
  go_wp2_with fail
  clear A0 A1
  generalize (W1.alloc (.cells #[.int .i64 k, .int .u64 x'] 24)).alloc (.cells #[.int .i64 ((h : Int) - l + 1), .int .u64 y'] 24) = Z0 at *
  generalize W1.heap.size + 1 = nb' at *
  clear ha
  obtain ⟨B0, B1, _, _, _⟩ := id B
  go_wp2_with fail
  refine Calls.mono (k1h _) ?_
  rintro e W2 ⟨rfl, h1⟩
  clear B0 B1
  replace A := (A.later h1).alloc (.cells #[.int .i64 k, .int .u64 p] 24)
  replace B := (B.later h1).alloc (.cells #[.int .i64 k, .int .u64 p] 24)
  replace hW := hW.trans (h1.mono hW.size)
  clear h1
  replace hW := hW.alloc hW.size (.cells #[.int .i64 k, .int .u64 p] 24)
  have P := Box.new W2 (.int .i64 k) (.int .u64 p) 24
  obtain ⟨P0, P1, _, _, _⟩ := id P
  go_wp2_with fail
  refine Calls.mono (k2h _) ?_
  rintro e W3 ⟨rfl, h1⟩
  clear P0 P1
  replace A := (A.later h1).alloc (.cells #[.int .i64 ((h : Int) - l + 1), .int .u64 y'] 24)
  replace B := (B.later h1).alloc (.cells #[.int .i64 ((h : Int) - l + 1), .int .u64 y'] 24)
  replace P := (P.later h1).alloc (.cells #[.int .i64 ((h : Int) - l + 1), .int .u64 y'] 24)
  replace hW := hW.trans (h1.mono hW.size)
  clear h1
  replace hW := hW.alloc hW.size (.cells #[.int .i64 ((h : Int) - l + 1), .int .u64 y'] 24)
  have S := Box.new W3 (.int .i64 ((h : Int) - l + 1)) (.int .u64 y') 24
  obtain ⟨A0, A1, _, _, _⟩ := id A
  obtain ⟨B0, B1, _, _, _⟩ := id B
  have A2 := fun o => (A.alloc o).c0
  have A3 := fun o => (A.alloc o).c1
  have B2 := fun o => (B.alloc o).c0
  have B3 := fun o => (B.alloc o).c1
  go_upto_if 71 with fail
  clear A0 A1 B0 B1
  clear A2 A3 B2 B3
  generalize hZ1 : W3.alloc (.cells #[.int .i64 ((h : Int) - l + 1), .int .u64 y'] 24) = Z1 at *
  have hs1 : W3.heap.size + 1 = Z1.heap.size := by rw [← hZ1]; simp
  clear hZ1
  rw [hs1]
  clear hs1
  have hown : (Z1.alloc (.cells #[] 24)).ownsRow Z1.heap.size 24 2 (.slice (some ⟨Z1.heap.size, 0, none⟩) 0 0) 0 [] := World.ownsRow_made Z1 #[] 0 (Nat.le_refl _) (by decide) (by simp)
  have lA := A.lt
  have lB := B.lt
  have lP := P.lt
  have lS := S.lt
  have hbase : Z1.heap.size ≤ (Z1.alloc (.cells #[] 24)).heap.size := by simp
  have hsz := hW.size
  replace A := A.alloc (.cells #[] 24)
  replace B := B.alloc (.cells #[] 24)
  replace P := P.alloc (.cells #[] 24)
  replace S := S.alloc (.cells #[] 24)
  replace hW := hW.alloc hW.size (.cells #[] 24)
  generalize Z1.heap.size = base at hown hbase hsz ⊢ lA lB lP lS
  generalize Z1.alloc (.cells #[] 24) = Y0 at *
  obtain ⟨A0, A1, _, _, _⟩ := id A
  go_wp2_with fail
  clear A0 A1
  refine Calls.mono (k3h _) ?_
  rintro e W4 ⟨rfl, h1⟩
  replace A := (A.later h1).alloc (.cells #[.int .i64 ((k : Int) - 1 - h), .int .u64 t] 24)
  replace B := (B.later h1).alloc (.cells #[.int .i64 ((k : Int) - 1 - h), .int .u64 t] 24)
  replace P := (P.later h1).alloc (.cells #[.int .i64 ((k : Int) - 1 - h), .int .u64 t] 24)
  replace S := (S.later h1).alloc (.cells #[.int .i64 ((k : Int) - 1 - h), .int .u64 t] 24)
  replace hW := (hW.trans (h1.mono hW.size)).alloc (hW.trans (h1.mono hW.size)).size (.cells #[.int .i64 ((k : Int) - 1 - h), .int .u64 t] 24)
  replace hown := (own_later hown h1).alloc (.cells #[.int .i64 ((k : Int) - 1 - h), .int .u64 t] 24)
  replace hbase : base ≤ (W4.alloc (.cells #[.int .i64 ((k : Int) - 1 - h), .int .u64 t] 24)).heap.size := by have h2 := h1.size; simp; omega
  clear h1
  have T := Box.new W4 (.int .i64 ((k : Int) - 1 - h)) (.int .u64 t) 24
  obtain ⟨T0, T1, _, _, _⟩ := id T
  go_wp2_with (first | (at_builtin; refine wpList_append_own _ rfl _ _ 34 rfl base 24 i0 (.agg #[.int .i64 0, .int .u64 0]) 2 16 Try.underlying34 hi0h hz0h hz1h hz2h rfl (by decide) _ _ _ rfl (hown.alloc _) _ 1 1 [.int .i64 ((k : Int) - 1 - h), .int .u64 t] rfl rfl ?c1 ?c2 ?c3 ?c4 ?c5 ?_))
  case c1 =>
    have TB : Box ((W4.alloc (.cells #[.int .i64 ((k : Int) - 1 - h), .int .u64 t] 24)).alloc (.cells #[.int .i64 ((k : Int) - 1 - h), .int .u64 t] 24)) (W4.alloc (.cells #[.int .i64 ((k : Int) - 1 - h), .int .u64 t] 24)).heap.size (.int .i64 ((k : Int) - 1 - h)) (.int .u64 t) := Box.new _ _ _ _
    have := cells_new2 TB
    intro j u hj
    simpa using this j u hj
  case c2 => intro u hu; simp at hu; rcases hu with rfl | rfl <;> rfl
  case c3 => decide
  case c4 => decide
  case c5 => simp at hbase ⊢; omega
  intro v1 Y1 hown' hgrow _
  have hob := own_block (hown.alloc (.cells #[.int .i64 ((k : Int) - 1 - h), .int .u64 t] 24))
  replace A := (A.alloc (.cells #[.int .i64 ((k : Int) - 1 - h), .int .u64 t] 24)).grown hgrow (fun k hk => by have := hob k hk; omega)
  replace B := (B.alloc (.cells #[.int .i64 ((k : Int) - 1 - h), .int .u64 t] 24)).grown hgrow (fun k hk => by have := hob k hk; omega)
  replace P := (P.alloc (.cells #[.int .i64 ((k : Int) - 1 - h), .int .u64 t] 24)).grown hgrow (fun k hk => by have := hob k hk; omega)
  replace S := (S.alloc (.cells #[.int .i64 ((k : Int) - 1 - h), .int .u64 t] 24)).grown hgrow (fun k hk => by have := hob k hk; omega)
  replace hW := (hW.alloc hW.size (.cells #[.int .i64 ((k : Int) - 1 - h), .int .u64 t] 24)).grown hgrow (Nat.le_trans hW.size (by simp)) (fun k hk => by have := hob k hk; omega)
  replace hbase : base ≤ Y1.heap.size := by have := hgrow.size; simp at this hbase; omega
  clear hown hgrow hob
  have hown := hown'
  clear hown'
  clear T0 T1
  obtain ⟨B0, B1, _, _, _⟩ := id B
  go_wp2_with (first | (at_builtin; refine wpList_append_own _ rfl _ _ 34 rfl base 24 i0 (.agg #[.int .i64 0, .int .u64 0]) 2 16 Try.underlying34 hi0h hz0h hz1h hz2h rfl (by decide) _ _ _ rfl (hown.alloc _) _ 1 1 [.int .i64 ((h : Int) - l + 1), .int .u64 y'] rfl rfl ?c1 ?c2 ?c3 ?c4 ?c5 ?_))
  case c1 =>
    have TB : Box ((Y1).alloc (.cells #[.int .i64 ((h : Int) - l + 1), .int .u64 y'] 24)) (Y1).heap.size (.int .i64 ((h : Int) - l + 1)) (.int .u64 y') := Box.new _ _ _ _
    have := cells_new2 TB
    intro j u hj
    simpa using this j u hj
  case c2 => intro u hu; simp at hu; rcases hu with rfl | rfl <;> rfl
  case c3 => decide
  case c4 => decide
  case c5 => simp at hbase ⊢; omega
  intro v2 Y2 hown' hgrow _
  have hob := own_block (hown.alloc (.cells #[.int .i64 ((h : Int) - l + 1), .int .u64 y'] 24))
  replace A := (A.alloc (.cells #[.int .i64 ((h : Int) - l + 1), .int .u64 y'] 24)).grown hgrow (fun k hk => by have := hob k hk; omega)
  replace B := (B.alloc (.cells #[.int .i64 ((h : Int) - l + 1), .int .u64 y'] 24)).grown hgrow (fun k hk => by have := hob k hk; omega)
  replace P := (P.alloc (.cells #[.int .i64 ((h : Int) - l + 1), .int .u64 y'] 24)).grown hgrow (fun k hk => by have := hob k hk; omega)
  replace S := (S.alloc (.cells #[.int .i64 ((h : Int) - l + 1), .int .u64 y'] 24)).grown hgrow (fun k hk => by have := hob k hk; omega)
  replace hW := (hW.alloc hW.size (.cells #[.int .i64 ((h : Int) - l + 1), .int .u64 y'] 24)).grown hgrow (Nat.le_trans hW.size (by simp)) (fun k hk => by have := hob k hk; omega)
  replace hbase : base ≤ Y2.heap.size := by have := hgrow.size; simp at this hbase; omega
  clear hown hgrow hob
  have hown := hown'
  clear hown'
  clear B0 B1
  obtain ⟨A0, A1, _, _, _⟩ := id A
  go_wp2_with fail
  clear A0 A1
  refine Calls.mono (k4h _) ?_
  rintro e W5 ⟨rfl, h1⟩
  replace A := (A.later h1).alloc (.cells #[.int .i64 (l : Int), .int .u64 r] 24)
  replace B := (B.later h1).alloc (.cells #[.int .i64 (l : Int), .int .u64 r] 24)
  replace P := (P.later h1).alloc (.cells #[.int .i64 (l : Int), .int .u64 r] 24)
  replace S := (S.later h1).alloc (.cells #[.int .i64 (l : Int), .int .u64 r] 24)
  replace hW := (hW.trans (h1.mono hW.size)).alloc (hW.trans (h1.mono hW.size)).size (.cells #[.int .i64 (l : Int), .int .u64 r] 24)
  replace hown := (own_later hown h1).alloc (.cells #[.int .i64 (l : Int), .int .u64 r] 24)
  replace hbase : base ≤ (W5.alloc (.cells #[.int .i64 (l : Int), .int .u64 r] 24)).heap.size := by have h2 := h1.size; simp; omega
  clear h1
  have R := Box.new W5 (.int .i64 (l : Int)) (.int .u64 r) 24
  obtain ⟨R0, R1, _, _, _⟩ := id R
  go_wp2_with (first | (at_builtin; refine wpList_append_own _ rfl _ _ 34 rfl base 24 i0 (.agg #[.int .i64 0, .int .u64 0]) 2 16 Try.underlying34 hi0h hz0h hz1h hz2h rfl (by decide) _ _ _ rfl (hown.alloc _) _ 1 1 [.int .i64 (l : Int), .int .u64 r] rfl rfl ?c1 ?c2 ?c3 ?c4 ?c5 ?_))
  case c1 =>
    have TB : Box ((W5.alloc (.cells #[.int .i64 (l : Int), .int .u64 r] 24)).alloc (.cells #[.int .i64 (l : Int), .int .u64 r] 24)) (W5.alloc (.cells #[.int .i64 (l : Int), .int .u64 r] 24)).heap.size (.int .i64 (l : Int)) (.int .u64 r) := Box.new _ _ _ _
    have := cells_new2 TB
    intro j u hj
    simpa using this j u hj
  case c2 => intro u hu; simp at hu; rcases hu with rfl | rfl <;> rfl
  case c3 => decide
  case c4 => decide
  case c5 => simp at hbase ⊢; omega
  intro v3 Y3 hown' hgrow _
  have hob := own_block (hown.alloc (.cells #[.int .i64 (l : Int), .int .u64 r] 24))
  replace A := (A.alloc (.cells #[.int .i64 (l : Int), .int .u64 r] 24)).grown hgrow (fun k hk => by have := hob k hk; omega)
  replace B := (B.alloc (.cells #[.int .i64 (l : Int), .int .u64 r] 24)).grown hgrow (fun k hk => by have := hob k hk; omega)
  replace P := (P.alloc (.cells #[.int .i64 (l : Int), .int .u64 r] 24)).grown hgrow (fun k hk => by have := hob k hk; omega)
  replace S := (S.alloc (.cells #[.int .i64 (l : Int), .int .u64 r] 24)).grown hgrow (fun k hk => by have := hob k hk; omega)
  replace hW := (hW.alloc hW.size (.cells #[.int .i64 (l : Int), .int .u64 r] 24)).grown hgrow (Nat.le_trans hW.size (by simp)) (fun k hk => by have := hob k hk; omega)
  replace hbase : base ≤ Y3.heap.size := by have := hgrow.size; simp at this hbase; omega
  clear hown hgrow hob
  have hown := hown'
  clear hown'
  clear R0 R1
  go_wp2_with fail
  refine Calls.mono (k9h _ _ _ hown) ?_
  rintro e W6 ⟨rfl, h1⟩
  replace A := (A.later h1).alloc (.cells #[.int .i64 k, .int .u64 p] 24)
  replace B := (B.later h1).alloc (.cells #[.int .i64 k, .int .u64 p] 24)
  replace P := (P.later h1).alloc (.cells #[.int .i64 k, .int .u64 p] 24)
  replace S := (S.later h1).alloc (.cells #[.int .i64 k, .int .u64 p] 24)
  replace hW := (hW.trans (h1.mono hW.size)).alloc (hW.trans (h1.mono hW.size)).size (.cells #[.int .i64 k, .int .u64 p] 24)
  clear h1 hown hbase
  have C := Box.new W6 (.int .i64 k) (.int .u64 p) 24
  go_wp2_with fail
  refine Calls.mono (klh _) ?_
  rintro e W7 ⟨rfl, h1⟩
  replace A := A.later h1
  replace B := B.later h1
  replace P := P.later h1
  replace S := S.later h1
  replace C := C.later h1
  replace hW := hW.trans (h1.mono hW.size)
  clear h1
  obtain ⟨P0, P1, _, _, _⟩ := id P
  obtain ⟨S0, S1, _, _, _⟩ := id S
  obtain ⟨B0, B1, _, _, _⟩ := id B
  obtain ⟨C0, C1, _, _, _⟩ := id C
  go_wp2
  go_ret
  exact ⟨rfl, hW⟩

set_option maxHeartbeats 8000000 in
theorem law_slices10 (w x hi lo y : Nat) (W : World) (hw : w < 256) (hx : x < 18446744073709551616) (hhi : hi < 256) (hlo : lo < 256) (hy : y < 18446744073709551616)
    (c1 : hi % mw w + 1 < mw w) (c2 : ¬ 0 < lo % (hi % mw w + 1)) :
    Calls Try.prog 9 #[.int .u8 w, .int .u64 x, .int .u8 hi, .int .u8 lo, .int .u64 y] W fun e W' => e = .returned (.bool true) ∧ Below W.heap.size W W' := by
  have m1 := fun W => masked_any w x W hw hx
  have h0 := mw_pos w
  have h64 := mw_le w
  have lx := Nat.mod_lt x (Nat.two_pow_pos (mw w))
  generalize x % 2 ^ mw w = x' at *
  generalize mw w = k at *
  have hk := Nat.mod_lt hi h0
  have eh : (hi : Int) % (k : Int) = ((hi % k : Nat) : Int) := by rw [Int.natCast_emod]
  generalize hi % k = h at *
  have hl := Nat.mod_lt lo (show 0 < h + 1 by omega)
  have el : (lo : Int) % ((h : Int) + 1) = ((lo % (h + 1) : Nat) : Int) := by rw [Int.natCast_emod]; rfl
  have hl' : lo % (h + 1) ≤ h := by have := hl; omega
  clear hl
  generalize lo % (h + 1) = l at *
  have e1 : (h : Int) - l + 1 = ((h - l + 1 : Nat) : Int) := by omega
  have hm := and_mask (h - l + 1) y (by omega) (by omega)
  have hy' := Nat.mod_lt y (Nat.two_pow_pos (h - l + 1))
  rw [← e1] at hm
  have ha := u64_and_nat y (mask ((h : Int) - l + 1)) hy (mask_lt _)
  rw [hm] at ha
  generalize y % 2 ^ (h - l + 1) = y' at *
  clear hm
  have hr := slices_calls k x' h l y' h0 h64 lx hk hl' hy'
  have ly' : y' < 18446744073709551616 := lt64 (k := h - l + 1) (by omega) hy'
  simp only [SetC, SliceC] at hr
  obtain ⟨p, t, r, hp, k1, k2, k3, k4, k5, k6, k7, k8⟩ := hr
  clear e1 hy' hp lx
  obtain ⟨k3, ht⟩ := k3 (by omega)
  clear k4
  have kc := k6 (by omega) (by omega)
  clear k5 k6 k7 k8
  have k9 := fun base v W hown => cat_own base v [((k : Int) - 1 - h, t), ((h : Int) - l + 1, y')] k p W hown (by simp) (by simp) (by simp; omega) kc
  clear kc
  have lk : (0 : Int) < (k : Int) := by omega
  have lk2 : (k : Int) ≤ 64 := by omega
  have lh : (h : Int) < (k : Int) := by omega
  have ll : (l : Int) ≤ (h : Int) := by omega
  have c1i : (h : Int) + 1 < (k : Int) := by omega
  have c2i : ¬ (0 : Int) < (l : Int) := by omega
  obtain ⟨i0, hi0, hz0, hz1, hz2⟩ := info_parts Try.infoBits
  have hi0h := Lib.hid hi0
  have hz0h := Lib.hid hz0
  have hz1h := Lib.hid hz1
  have hz2h := Lib.hid hz2
  clear hi0 hz0 hz1 hz2
  have kl : ∀ W, Calls Try.prog 15 #[] W fun e W' => e = .returned (.bool true) ∧ Below W.heap.size W W' := live_any
  have k1h := Lib.hid k1
  have k2h := Lib.hid k2
  have k3h := Lib.hid k3
  have k9h := Lib.hid k9
  have m1h := Lib.hid m1
  have klh := Lib.hid kl
  clear k1 k2 k3 k9 m1 kl
  go_enter Try.func9, Try.ntmps9
  go_wp2_with fail
  refine Calls.mono (m1h _) ?_
  rintro e W1 ⟨rfl, h1⟩
  have hW := h1
  clear h1
  replace hW := hW.alloc hW.size (.cells #[.int .i64 k, .int .u64 x'] 24)
  have A := Box.new W1 (.int .i64 k) (.int .u64 x') 24
  obtain ⟨A0, A1, _, _, _⟩ := id A
  go_wp2_with fail
  clear A0 A1
  refine Calls.mono (refMask_any _ _) ?_
  rintro e WM ⟨rfl, rfl⟩
  have B : Box ((W1.alloc (.cells #[.int .i64 k, .int .u64 x'] 24)).alloc (.cells #[.int .i64 ((h : Int) - l + 1), .int .u64 y'] 24)) (W1.heap.size + 1) (.int .i64 ((h : Int) - l + 1)) (.int .u64 y') := by simpa using Box.new (W1.alloc (.cells #[.int .i64 k, .int .u64 x'] 24)) (.int .i64 ((h : Int) - l + 1)) (.int .u64 y') 24
  replace A := A.alloc (.cells #[.int .i64 ((h : Int) - l + 1), .int .u64 y'] 24)
  replace hW := hW.alloc hW.size (.cells #[.int .i64 ((h : Int) - l + 1), .int .u64 y'] 24)
  obtain ⟨A0, A1, _, _, _⟩ := id A
  go_wp2_with fail
  clear A0 A1
  generalize (W1.alloc (.cells #[.int .i64 k, .int .u64 x'] 24)).alloc (.cells #[.int .i64 ((h : Int) - l + 1), .int .u64 y'] 24) = Z0 at *
  generalize W1.heap.size + 1 = nb' at *
  clear ha
  obtain ⟨B0, B1, _, _, _⟩ := id B
  go_wp2_with fail
  refine Calls.mono (k1h _) ?_
  rintro e W2 ⟨rfl, h1⟩
  clear B0 B1
  replace A := (A.later h1).alloc (.cells #[.int .i64 k, .int .u64 p] 24)
  replace B := (B.later h1).alloc (.cells #[.int .i64 k, .int .u64 p] 24)
  replace hW := hW.trans (h1.mono hW.size)
  clear h1
  replace hW := hW.alloc hW.size (.cells #[.int .i64 k, .int .u64 p] 24)
  have P := Box.new W2 (.int .i64 k) (.int .u64 p) 24
  obtain ⟨P0, P1, _, _, _⟩ := id P
  go_wp2_with fail
  refine Calls.mono (k2h _) ?_
  rintro e W3 ⟨rfl, h1⟩
  clear P0 P1
  replace A := (A.later h1).alloc (.cells #[.int .i64 ((h : Int) - l + 1), .int .u64 y'] 24)
  replace B := (B.later h1).alloc (.cells #[.int .i64 ((h : Int) - l + 1), .int .u64 y'] 24)
  replace P := (P.later h1).alloc (.cells #[.int .i64 ((h : Int) - l + 1), .int .u64 y'] 24)
  replace hW := hW.trans (h1.mono hW.size)
  clear h1
  replace hW := hW.alloc hW.size (.cells #[.int .i64 ((h : Int) - l + 1), .int .u64 y'] 24)
  have S := Box.new W3 (.int .i64 ((h : Int) - l + 1)) (.int .u64 y') 24
  obtain ⟨A0, A1, _, _, _⟩ := id A
  obtain ⟨B0, B1, _, _, _⟩ := id B
  have A2 := fun o => (A.alloc o).c0
  have A3 := fun o => (A.alloc o).c1
  have B2 := fun o => (B.alloc o).c0
  have B3 := fun o => (B.alloc o).c1
  go_upto_if 71 with fail
  clear A0 A1 B0 B1
  clear A2 A3 B2 B3
  generalize hZ1 : W3.alloc (.cells #[.int .i64 ((h : Int) - l + 1), .int .u64 y'] 24) = Z1 at *
  have hs1 : W3.heap.size + 1 = Z1.heap.size := by rw [← hZ1]; simp
  clear hZ1
  rw [hs1]
  clear hs1
  have hown : (Z1.alloc (.cells #[] 24)).ownsRow Z1.heap.size 24 2 (.slice (some ⟨Z1.heap.size, 0, none⟩) 0 0) 0 [] := World.ownsRow_made Z1 #[] 0 (Nat.le_refl _) (by decide) (by simp)
  have lA := A.lt
  have lB := B.lt
  have lP := P.lt
  have lS := S.lt
  have hbase : Z1.heap.size ≤ (Z1.alloc (.cells #[] 24)).heap.size := by simp
  have hsz := hW.size
  replace A := A.alloc (.cells #[] 24)
  replace B := B.alloc (.cells #[] 24)
  replace P := P.alloc (.cells #[] 24)
  replace S := S.alloc (.cells #[] 24)
  replace hW := hW.alloc hW.size (.cells #[] 24)
  generalize Z1.heap.size = base at hown hbase hsz ⊢ lA lB lP lS
  generalize Z1.alloc (.cells #[] 24) = Y0 at *
  obtain ⟨A0, A1, _, _, _⟩ := id A
  go_wp2_with fail
  clear A0 A1
  refine Calls.mono (k3h _) ?_
  rintro e W4 ⟨rfl, h1⟩
  replace A := (A.later h1).alloc (.cells #[.int .i64 ((k : Int) - 1 - h), .int .u64 t] 24)
  replace B := (B.later h1).alloc (.cells #[.int .i64 ((k : Int) - 1 - h), .int .u64 t] 24)
  replace P := (P.later h1).alloc (.cells #[.int .i64 ((k : Int) - 1 - h), .int .u64 t] 24)
  replace S := (S.later h1).alloc (.cells #[.int .i64 ((k : Int) - 1 - h), .int .u64 t] 24)
  replace hW := (hW.trans (h1.mono hW.size)).alloc (hW.trans (h1.mono hW.size)).size (.cells #[.int .i64 ((k : Int) - 1 - h), .int .u64 t] 24)
  replace hown := (own_later hown h1).alloc (.cells #[.int .i64 ((k : Int) - 1 - h), .int .u64 t] 24)
  replace hbase : base ≤ (W4.alloc (.cells #[.int .i64 ((k : Int) - 1 - h), .int .u64 t] 24)).heap.size := by have h2 := h1.size; simp; omega
  clear h1
  have T := Box.new W4 (.int .i64 ((k : Int) - 1 - h)) (.int .u64 t) 24
  obtain ⟨T0, T1, _, _, _⟩ := id T
  go_wp2_with (first | (at_builtin; refine wpList_append_own _ rfl _ _ 34 rfl base 24 i0 (.agg #[.int .i64 0, .int .u64 0]) 2 16 Try.underlying34 hi0h hz0h hz1h hz2h rfl (by decide) _ _ _ rfl (hown.alloc _) _ 1 1 [.int .i64 ((k : Int) - 1 - h), .int .u64 t] rfl rfl ?c1 ?c2 ?c3 ?c4 ?c5 ?_))
  case c1 =>
    have TB : Box ((W4.alloc (.cells #[.int .i64 ((k : Int) - 1 - h), .int .u64 t] 24)).alloc (.cells #[.int .i64 ((k : Int) - 1 - h), .int .u64 t] 24)) (W4.alloc (.cells #[.int .i64 ((k : Int) - 1 - h), .int .u64 t] 24)).heap.size (.int .i64 ((k : Int) - 1 - h)) (.int .u64 t) := Box.new _ _ _ _
    have := cells_new2 TB
    intro j u hj
    simpa using this j u hj
  case c2 => intro u hu; simp at hu; rcases hu with rfl | rfl <;> rfl
  case c3 => decide
  case c4 => decide
  case c5 => simp at hbase ⊢; omega
  intro v1 Y1 hown' hgrow _
  have hob := own_block (hown.alloc (.cells #[.int .i64 ((k : Int) - 1 - h), .int .u64 t] 24))
  replace A := (A.alloc (.cells #[.int .i64 ((k : Int) - 1 - h), .int .u64 t] 24)).grown hgrow (fun k hk => by have := hob k hk; omega)
  replace B := (B.alloc (.cells #[.int .i64 ((k : Int) - 1 - h), .int .u64 t] 24)).grown hgrow (fun k hk => by have := hob k hk; omega)
  replace P := (P.alloc (.cells #[.int .i64 ((k : Int) - 1 - h), .int .u64 t] 24)).grown hgrow (fun k hk => by have := hob k hk; omega)
  replace S := (S.alloc (.cells #[.int .i64 ((k : Int) - 1 - h), .int .u64 t] 24)).grown hgrow (fun k hk => by have := hob k hk; omega)
  replace hW := (hW.alloc hW.size (.cells #[.int .i64 ((k : Int) - 1 - h), .int .u64 t] 24)).grown hgrow (Nat.le_trans hW.size (by simp)) (fun k hk => by have := hob k hk; omega)
  replace hbase : base ≤ Y1.heap.size := by have := hgrow.size; simp at this hbase; omega
  clear hown hgrow hob
  have hown := hown'
  clear hown'
  clear T0 T1
  obtain ⟨B0, B1, _, _, _⟩ := id B
  go_wp2_with (first | (at_builtin; refine wpList_append_own _ rfl _ _ 34 rfl base 24 i0 (.agg #[.int .i64 0, .int .u64 0]) 2 16 Try.underlying34 hi0h hz0h hz1h hz2h rfl (by decide) _ _ _ rfl (hown.alloc _) _ 1 1 [.int .i64 ((h : Int) - l + 1), .int .u64 y'] rfl rfl ?c1 ?c2 ?c3 ?c4 ?c5 ?_))
  case c1 =>
    have TB : Box ((Y1).alloc (.cells #[.int .i64 ((h : Int) - l + 1), .int .u64 y'] 24)) (Y1).heap.size (.int .i64 ((h : Int) - l + 1)) (.int .u64 y') := Box.new _ _ _ _
    have := cells_new2 TB
    intro j u hj
    simpa using this j u hj
  case c2 => intro u hu; simp at hu; rcases hu with rfl | rfl <;> rfl
  case c3 => decide
  case c4 => decide
  case c5 => simp at hbase ⊢; omega
  intro v2 Y2 hown' hgrow _
  have hob := own_block (hown.alloc (.cells #[.int .i64 ((h : Int) - l + 1), .int .u64 y'] 24))
  replace A := (A.alloc (.cells #[.int .i64 ((h : Int) - l + 1), .int .u64 y'] 24)).grown hgrow (fun k hk => by have := hob k hk; omega)
  replace B := (B.alloc (.cells #[.int .i64 ((h : Int) - l + 1), .int .u64 y'] 24)).grown hgrow (fun k hk => by have := hob k hk; omega)
  replace P := (P.alloc (.cells #[.int .i64 ((h : Int) - l + 1), .int .u64 y'] 24)).grown hgrow (fun k hk => by have := hob k hk; omega)
  replace S := (S.alloc (.cells #[.int .i64 ((h : Int) - l + 1), .int .u64 y'] 24)).grown hgrow (fun k hk => by have := hob k hk; omega)
  replace hW := (hW.alloc hW.size (.cells #[.int .i64 ((h : Int) - l + 1), .int .u64 y'] 24)).grown hgrow (Nat.le_trans hW.size (by simp)) (fun k hk => by have := hob k hk; omega)
  replace hbase : base ≤ Y2.heap.size := by have := hgrow.size; simp at this hbase; omega
  clear hown hgrow hob
  have hown := hown'
  clear hown'
  clear B0 B1
  obtain ⟨A0, A1, _, _, _⟩ := id A
  go_wp2_with fail
  clear A0 A1
  refine Calls.mono (k9h _ _ _ hown) ?_
  rintro e W6 ⟨rfl, h1⟩
  replace A := (A.later h1).alloc (.cells #[.int .i64 k, .int .u64 p] 24)
  replace B := (B.later h1).alloc (.cells #[.int .i64 k, .int .u64 p] 24)
  replace P := (P.later h1).alloc (.cells #[.int .i64 k, .int .u64 p] 24)
  replace S := (S.later h1).alloc (.cells #[.int .i64 k, .int .u64 p] 24)
  replace hW := (hW.trans (h1.mono hW.size)).alloc (hW.trans (h1.mono hW.size)).size (.cells #[.int .i64 k, .int .u64 p] 24)
  clear h1 hown hbase
  have C := Box.new W6 (.int .i64 k) (.int .u64 p) 24
  go_wp2_with fail
  refine Calls.mono (klh _) ?_
  rintro e W7 ⟨rfl, h1⟩
  replace A := A.later h1
  replace B := B.later h1
  replace P := P.later h1
  replace S := S.later h1
  replace C := C.later h1
  replace hW := hW.trans (h1.mono hW.size)
  clear h1
  obtain ⟨P0, P1, _, _, _⟩ := id P
  obtain ⟨S0, S1, _, _, _⟩ := id S
  obtain ⟨B0, B1, _, _, _⟩ := id B
  obtain ⟨C0, C1, _, _, _⟩ := id C
  go_wp2
  go_ret
  exact ⟨rfl, hW⟩

set_option maxHeartbeats 8000000 in
theorem law_slices01 (w x hi lo y : Nat) (W : World) (hw : w < 256) (hx : x < 18446744073709551616) (hhi : hi < 256) (hlo : lo < 256) (hy : y < 18446744073709551616)
    (c1 : ¬ hi % mw w + 1 < mw w) (c2 : 0 < lo % (hi % mw w + 1)) :
    Calls Try.prog 9 #[.int .u8 w, .int .u64 x, .int .u8 hi, .int .u8 lo, .int .u64 y] W fun e W' => e = .returned (.bool true) ∧ Below W.heap.size W W' := by
  have m1 := fun W => masked_any w x W hw hx
  have h0 := mw_pos w
  have h64 := mw_le w
  have lx := Nat.mod_lt x (Nat.two_pow_pos (mw w))
  generalize x % 2 ^ mw w = x' at *
  generalize mw w = k at *
  have hk := Nat.mod_lt hi h0
  have eh : (hi : Int) % (k : Int) = ((hi % k : Nat) : Int) := by rw [Int.natCast_emod]
  generalize hi % k = h at *
  have hl := Nat.mod_lt lo (show 0 < h + 1 by omega)
  have el : (lo : Int) % ((h : Int) + 1) = ((lo % (h + 1) : Nat) : Int) := by rw [Int.natCast_emod]; rfl
  have hl' : lo % (h + 1) ≤ h := by have := hl; omega
  clear hl
  generalize lo % (h + 1) = l at *
  have e1 : (h : Int) - l + 1 = ((h - l + 1 : Nat) : Int) := by omega
  have hm := and_mask (h - l + 1) y (by omega) (by omega)
  have hy' := Nat.mod_lt y (Nat.two_pow_pos (h - l + 1))
  rw [← e1] at hm
  have ha := u64_and_nat y (mask ((h : Int) - l + 1)) hy (mask_lt _)
  rw [hm] at ha
  generalize y % 2 ^ (h - l + 1) = y' at *
  clear hm
  have hr := slices_calls k x' h l y' h0 h64 lx hk hl' hy'
  have ly' : y' < 18446744073709551616 := lt64 (k := h - l + 1) (by omega) hy'
  simp only [SetC, SliceC] at hr
  obtain ⟨p, t, r, hp, k1, k2, k3, k4, k5, k6, k7, k8⟩ := hr
  clear e1 hy' hp lx
  clear k3
  obtain ⟨k4, hr⟩ := k4 (by omega)
  have kc := k7 (by omega) (by omega)
  clear k5 k6 k7 k8
  have k9 := fun base v W hown => cat_own base v [((h : Int) - l + 1, y'), ((l : Int), r)] k p W hown (by simp) (by simp) (by simp; omega) kc
  clear kc
  have lk : (0 : Int) < (k : Int) := by omega
  have lk2 : (k : Int) ≤ 64 := by omega
  have lh : (h : Int) < (k : Int) := by omega
  have ll : (l : Int) ≤ (h : Int) := by omega
  have c1i : ¬ (h : Int) + 1 < (k : Int) := by omega
  have c2i : (0 : Int) < (l : Int) := by omega
  obtain ⟨i0, hi0, hz0, hz1, hz2⟩ := info_parts Try.infoBits
  have hi0h := Lib.hid hi0
  have hz0h := Lib.hid hz0
  have hz1h := Lib.hid hz1
  have hz2h := Lib.hid hz2
  clear hi0 hz0 hz1 hz2
  have kl : ∀ W, Calls Try.prog 15 #[] W fun e W' => e = .returned (.bool true) ∧ Below W.heap.size W W' := live_any
  have k1h := Lib.hid k1
  have k2h := Lib.hid k2
  have k4h := Lib.hid k4
  have k9h := Lib.hid k9
  have m1h := Lib.hid m1
  have klh := Lib.hid kl
  clear k1 k2 k4 k9 m1 kl
  go_enter Try.func9, Try.ntmps9
  go_wp2_with fail
  refine Calls.mono (m1h _) ?_
  rintro e W1 ⟨rfl, h1⟩
  have hW := h1
  clear h1
  replace hW := hW.alloc hW.size (.cells #[.int .i64 k, .int .u64 x'] 24)
  have A := Box.new W1 (.int .i64 k) (.int .u64 x') 24
  obtain ⟨A0, A1, _, _, _⟩ := id A
  go_wp2_with fail
  clear A0 A1
  refine Calls.mono (refMask_any _ _) ?_
  rintro e WM ⟨rfl, rfl⟩
  have B : Box ((W1.alloc (.cells #[.int .i64 k, .int .u64 x'] 24)).alloc (.cells #[.int .i64 ((h : Int) - l + 1), .int .u64 y'] 24)) (W1.heap.size + 1) (.int .i64 ((h : Int) - l + 1)) (.int .u64 y') := by simpa using Box.new (W1.alloc (.cells #[.int .i64 k, .int .u64 x'] 24)) (.int .i64 ((h : Int) - l + 1)) (.int .u64 y') 24
  replace A := A.alloc (.cells #[.int .i64 ((h : Int) - l + 1), .int .u64 y'] 24)
  replace hW := hW.alloc hW.size (.cells #[.int .i64 ((h : Int) - l + 1), .int .u64 y'] 24)
  obtain ⟨A0, A1, _, _, _⟩ := id A
  go_wp2_with fail
  clear A0 A1
  generalize (W1.alloc (.cells #[.int .i64 k, .int .u64 x'] 24)).alloc (.cells #[.int .i64 ((h : Int) - l + 1), .int .u64 y'] 24) = Z0 at *
  generalize W1.heap.size + 1 = nb' at *
  clear ha
  obtain ⟨B0, B1, _, _, _⟩ := id B
  go_wp2_with fail
  refine Calls.mono (k1h _) ?_
  rintro e W2 ⟨rfl, h1⟩
  clear B0 B1
  replace A := (A.later h1).alloc (.cells #[.int .i64 k, .int .u64 p] 24)
  replace B := (B.later h1).alloc (.cells #[.int .i64 k, .int .u64 p] 24)
  replace hW := hW.trans (h1.mono hW.size)
  clear h1
  replace hW := hW.alloc hW.size (.cells #[.int .i64 k, .int .u64 p] 24)
  have P := Box.new W2 (.int .i64 k) (.int .u64 p) 24
  obtain ⟨P0, P1, _, _, _⟩ := id P
  go_wp2_with fail
  refine Calls.mono (k2h _) ?_
  rintro e W3 ⟨rfl, h1⟩
  clear P0 P1
  replace A := (A.later h1).alloc (.cells #[.int .i64 ((h : Int) - l + 1), .int .u64 y'] 24)
  replace B := (B.later h1).alloc (.cells #[.int .i64 ((h : Int) - l + 1), .int .u64 y'] 24)
  replace P := (P.later h1).alloc (.cells #[.int .i64 ((h : Int) - l + 1), .int .u64 y'] 24)
  replace hW := hW.trans (h1.mono hW.size)
  clear h1
  replace hW := hW.alloc hW.size (.cells #[.int .i64 ((h : Int) - l + 1), .int .u64 y'] 24)
  have S := Box.new W3 (.int .i64 ((h : Int) - l + 1)) (.int .u64 y') 24
  obtain ⟨A0, A1, _, _, _⟩ := id A
  obtain ⟨B0, B1, _, _, _⟩ := id B
  have A2 := fun o => (A.alloc o).c0
  have A3 := fun o => (A.alloc o).c1
  have B2 := fun o => (B.alloc o).c0
  have B3 := fun o => (B.alloc o).c1
  go_upto_if 71 with fail
  clear A0 A1 B0 B1
  clear A2 A3 B2 B3
  generalize hZ1 : W3.alloc (.cells #[.int .i64 ((h : Int) - l + 1), .int .u64 y'] 24) = Z1 at *
  have hs1 : W3.heap.size + 1 = Z1.heap.size := by rw [← hZ1]; simp
  clear hZ1
  rw [hs1]
  clear hs1
  have hown : (Z1.alloc (.cells #[] 24)).ownsRow Z1.heap.size 24 2 (.slice (some ⟨Z1.heap.size, 0, none⟩) 0 0) 0 [] := World.ownsRow_made Z1 #[] 0 (Nat.le_refl _) (by decide) (by simp)
  have lA := A.lt
  have lB := B.lt
  have lP := P.lt
  have lS := S.lt
  have hbase : Z1.heap.size ≤ (Z1.alloc (.cells #[] 24)).heap.size := by simp
  have hsz := hW.size
  replace A := A.alloc (.cells #[] 24)
  replace B := B.alloc (.cells #[] 24)
  replace P := P.alloc (.cells #[] 24)
  replace S := S.alloc (.cells #[] 24)
  replace hW := hW.alloc hW.size (.cells #[] 24)
  generalize Z1.heap.size = base at hown hbase hsz ⊢ lA lB lP lS
  generalize Z1.alloc (.cells #[] 24) = Y0 at *
  obtain ⟨B0, B1, _, _, _⟩ := id B
  go_wp2_with (first | (at_builtin; refine wpList_append_own _ rfl _ _ 34 rfl base 24 i0 (.agg #[.int .i64 0, .int .u64 0]) 2 16 Try.underlying34 hi0h hz0h hz1h hz2h rfl (by decide) _ _ _ rfl (hown.alloc _) _ 1 1 [.int .i64 ((h : Int) - l + 1), .int .u64 y'] rfl rfl ?c1 ?c2 ?c3 ?c4 ?c5 ?_))
  case c1 =>
    have TB : Box ((Y0).alloc (.cells #[.int .i64 ((h : Int) - l + 1), .int .u64 y'] 24)) (Y0).heap.size (.int .i64 ((h : Int) - l + 1)) (.int .u64 y') := Box.new _ _ _ _
    have := cells_new2 TB
    intro j u hj
    simpa using this j u hj
  case c2 => intro u hu; simp at hu; rcases hu with rfl | rfl <;> rfl
  case c3 => decide
  case c4 => decide
  case c5 => simp at hbase ⊢; omega
  intro v1 Y1 hown' hgrow _
  have hob := own_block (hown.alloc (.cells #[.int .i64 ((h : Int) - l + 1), .int .u64 y'] 24))
  replace A := (A.alloc (.cells #[.int .i64 ((h : Int) - l + 1), .int .u64 y'] 24)).grown hgrow (fun k hk => by have := hob k hk; omega)
  replace B := (B.alloc (.cells #[.int .i64 ((h : Int) - l + 1), .int .u64 y'] 24)).grown hgrow (fun k hk => by have := hob k hk; omega)
  replace P := (P.alloc (.cells #[.int .i64 ((h : Int) - l + 1), .int .u64 y'] 24)).grown hgrow (fun k hk => by have := hob k hk; omega)
  replace S := (S.alloc (.cells #[.int .i64 ((h : Int) - l + 1), .int .u64 y'] 24)).grown hgrow (fun k hk => by have := hob k hk; omega)
  replace hW := (hW.alloc hW.size (.cells #[.int .i64 ((h : Int) - l + 1), .int .u64 y'] 24)).grown hgrow (Nat.le_trans hW.size (by simp)) (fun k hk => by have := hob k hk; omega)
  replace hbase : base ≤ Y1.heap.size := by have := hgrow.size; simp at this hbase; omega
  clear hown hgrow hob
  have hown := hown'
  clear hown'
  clear B0 B1
  obtain ⟨A0, A1, _, _, _⟩ := id A
  go_wp2_with fail
  clear A0 A1
  refine Calls.mono (k4h _) ?_
  rintro e W5 ⟨rfl, h1⟩
  replace A := (A.later h1).alloc (.cells #[.int .i64 (l : Int), .int .u64 r] 24)
  replace B := (B.later h1).alloc (.cells #[.int .i64 (l : Int), .int .u64 r] 24)
  replace P := (P.later h1).alloc (.cells #[.int .i64 (l : Int), .int .u64 r] 24)
  replace S := (S.later h1).alloc (.cells #[.int .i64 (l : Int), .int .u64 r] 24)
  replace hW := (hW.trans (h1.mono hW.size)).alloc (hW.trans (h1.mono hW.size)).size (.cells #[.int .i64 (l : Int), .int .u64 r] 24)
  replace hown := (own_later hown h1).alloc (.cells #[.int .i64 (l : Int), .int .u64 r] 24)
  replace hbase : base ≤ (W5.alloc (.cells #[.int .i64 (l : Int), .int .u64 r] 24)).heap.size := by have h2 := h1.size; simp; omega
  clear h1
  have R := Box.new W5 (.int .i64 (l : Int)) (.int .u64 r) 24
  obtain ⟨R0, R1, _, _, _⟩ := id R
  go_wp2_with (first | (at_builtin; refine wpList_append_own _ rfl _ _ 34 rfl base 24 i0 (.agg #[.int .i64 0, .int .u64 0]) 2 16 Try.underlying34 hi0h hz0h hz1h hz2h rfl (by decide) _ _ _ rfl (hown.alloc _) _ 1 1 [.int .i64 (l : Int), .int .u64 r] rfl rfl ?c1 ?c2 ?c3 ?c4 ?c5 ?_))
  case c1 =>
    have TB : Box ((W5.alloc (.cells #[.int .i64 (l : Int), .int .u64 r] 24)).alloc (.cells #[.int .i64 (l : Int), .int .u64 r] 24)) (W5.alloc (.cells #[.int .i64 (l : Int), .int .u64 r] 24)).heap.size (.int .i64 (l : Int)) (.int .u64 r) := Box.new _ _ _ _
    have := cells_new2 TB
    intro j u hj
    simpa using this j u hj
  case c2 => intro u hu; simp at hu; rcases hu with rfl | rfl <;> rfl
  case c3 => decide
  case c4 => decide
  case c5 => simp at hbase ⊢; omega
  intro v2 Y2 hown' hgrow _
  have hob := own_block (hown.alloc (.cells #[.int .i64 (l : Int), .int .u64 r] 24))
  replace A := (A.alloc (.cells #[.int .i64 (l : Int), .int .u64 r] 24)).grown hgrow (fun k hk => by have := hob k hk; omega)
  replace B := (B.alloc (.cells #[.int .i64 (l : Int), .int .u64 r] 24)).grown hgrow (fun k hk => by have := hob k hk; omega)
  replace P := (P.alloc (.cells #[.int .i64 (l : Int), .int .u64 r] 24)).grown hgrow (fun k hk => by have := hob k hk; omega)
  replace S := (S.alloc (.cells #[.int .i64 (l : Int), .int .u64 r] 24)).grown hgrow (fun k hk => by have := hob k hk; omega)
  replace hW := (hW.alloc hW.size (.cells #[.int .i64 (l : Int), .int .u64 r] 24)).grown hgrow (Nat.le_trans hW.size (by simp)) (fun k hk => by have := hob k hk; omega)
  replace hbase : base ≤ Y2.heap.size := by have := hgrow.size; simp at this hbase; omega
  clear hown hgrow hob
  have hown := hown'
  clear hown'
  clear R0 R1
  go_wp2_with fail
  refine Calls.mono (k9h _ _ _ hown) ?_
  rintro e W6 ⟨rfl, h1⟩
  replace A := (A.later h1).alloc (.cells #[.int .i64 k, .int .u64 p] 24)
  replace B := (B.later h1).alloc (.cells #[.int .i64 k, .int .u64 p] 24)
  replace P := (P.later h1).alloc (.cells #[.int .i64 k, .int .u64 p] 24)
  replace S := (S.later h1).alloc (.cells #[.int .i64 k, .int .u64 p] 24)
  replace hW := (hW.trans (h1.mono hW.size)).alloc (hW.trans (h1.mono hW.size)).size (.cells #[.int .i64 k, .int .u64 p] 24)
  clear h1 hown hbase
  have C := Box.new W6 (.int .i64 k) (.int .u64 p) 24
  go_wp2_with fail
  refine Calls.mono (klh _) ?_
  rintro e W7 ⟨rfl, h1⟩
  replace A := A.later h1
  replace B := B.later h1
  replace P := P.later h1
  replace S := S.later h1
  replace C := C.later h1
  replace hW := hW.trans (h1.mono hW.size)
  clear h1
  obtain ⟨P0, P1, _, _, _⟩ := id P
  obtain ⟨S0, S1, _, _, _⟩ := id S
  obtain ⟨B0, B1, _, _, _⟩ := id B
  obtain ⟨C0, C1, _, _, _⟩ := id C
  go_wp2
  go_ret
  exact ⟨rfl, hW⟩

set_option maxHeartbeats 8000000 in
theorem law_slices00 (w x hi lo y : Nat) (W : World) (hw : w < 256) (hx : x < 18446744073709551616) (hhi : hi < 256) (hlo : lo < 256) (hy : y < 18446744073709551616)
    (c1 : ¬ hi % mw w + 1 < mw w) (c2 : ¬ 0 < lo % (hi % mw w + 1)) :
    Calls Try.prog 9 #[.int .u8 w, .int .u64 x, .int .u8 hi, .int .u8 lo, .int .u64 y] W fun e W' => e = .returned (.bool true) ∧ Below W.heap.size W W' := by
  have m1 := fun W => masked_any w x W hw hx
  have h0 := mw_pos w
  have h64 := mw_le w
  have lx := Nat.mod_lt x (Nat.two_pow_pos (mw w))
  generalize x % 2 ^ mw w = x' at *
  generalize mw w = k at *
  have hk := Nat.mod_lt hi h0
  have eh : (hi : Int) % (k : Int) = ((hi % k : Nat) : Int) := by rw [Int.natCast_emod]
  generalize hi % k = h at *
  have hl := Nat.mod_lt lo (show 0 < h + 1 by omega)
  have el : (lo : Int) % ((h : Int) + 1) = ((lo % (h + 1) : Nat) : Int) := by rw [Int.natCast_emod]; rfl
  have hl' : lo % (h + 1) ≤ h := by have := hl; omega
  clear hl
  generalize lo % (h + 1) = l at *
  have e1 : (h : Int) - l + 1 = ((h - l + 1 : Nat) : Int) := by omega
  have hm := and_mask (h - l + 1) y (by omega) (by omega)
  have hy' := Nat.mod_lt y (Nat.two_pow_pos (h - l + 1))
  rw [← e1] at hm
  have ha := u64_and_nat y (mask ((h : Int) - l + 1)) hy (mask_lt _)
  rw [hm] at ha
  generalize y % 2 ^ (h - l + 1) = y' at *
  clear hm
  have hr := slices_calls k x' h l y' h0 h64 lx hk hl' hy'
  have ly' : y' < 18446744073709551616 := lt64 (k := h - l + 1) (by omega) hy'
  simp only [SetC, SliceC] at hr
  obtain ⟨p, t, r, hp, k1, k2, k3, k4, k5, k6, k7, k8⟩ := hr
  clear e1 hy' hp lx
  clear k3
  clear k4
  have kc := k8 (by omega) (by omega)
  clear k5 k6 k7 k8
  have k9 := fun base v W hown => cat_own base v [((h : Int) - l + 1, y')] k p W hown (by simp) (by simp) (by simp; omega) kc
  clear kc
  have lk : (0 : Int) < (k : Int) := by omega
  have lk2 : (k : Int) ≤ 64 := by omega
  have lh : (h : Int) < (k : Int) := by omega
  have ll : (l : Int) ≤ (h : Int) := by omega
  have c1i : ¬ (h : Int) + 1 < (k : Int) := by omega
  have c2i : ¬ (0 : Int) < (l : Int) := by omega
  obtain ⟨i0, hi0, hz0, hz1, hz2⟩ := info_parts Try.infoBits
  have hi0h := Lib.hid hi0
  have hz0h := Lib.hid hz0
  have hz1h := Lib.hid hz1
  have hz2h := Lib.hid hz2
  clear hi0 hz0 hz1 hz2
  have kl : ∀ W, Calls Try.prog 15 #[] W fun e W' => e = .returned (.bool true) ∧ Below W.heap.size W W' := live_any
  have k1h := Lib.hid k1
  have k2h := Lib.hid k2
  have k9h := Lib.hid k9
  have m1h := Lib.hid m1
  have klh := Lib.hid kl
  clear k1 k2 k9 m1 kl
  go_enter Try.func9, Try.ntmps9
  go_wp2_with fail
  refine Calls.mono (m1h _) ?_
  rintro e W1 ⟨rfl, h1⟩
  have hW := h1
  clear h1
  replace hW := hW.alloc hW.size (.cells #[.int .i64 k, .int .u64 x'] 24)
  have A := Box.new W1 (.int .i64 k) (.int .u64 x') 24
  obtain ⟨A0, A1, _, _, _⟩ := id A
  go_wp2_with fail
  clear A0 A1
  refine Calls.mono (refMask_any _ _) ?_
  rintro e WM ⟨rfl, rfl⟩
  have B : Box ((W1.alloc (.cells #[.int .i64 k, .int .u64 x'] 24)).alloc (.cells #[.int .i64 ((h : Int) - l + 1), .int .u64 y'] 24)) (W1.heap.size + 1) (.int .i64 ((h : Int) - l + 1)) (.int .u64 y') := by simpa using Box.new (W1.alloc (.cells #[.int .i64 k, .int .u64 x'] 24)) (.int .i64 ((h : Int) - l + 1)) (.int .u64 y') 24
  replace A := A.alloc (.cells #[.int .i64 ((h : Int) - l + 1), .int .u64 y'] 24)
  replace hW := hW.alloc hW.size (.cells #[.int .i64 ((h : Int) - l + 1), .int .u64 y'] 24)
  obtain ⟨A0, A1, _, _, _⟩ := id A
  go_wp2_with fail
  clear A0 A1
  generalize (W1.alloc (.cells #[.int .i64 k, .int .u64 x'] 24)).alloc (.cells #[.int .i64 ((h : Int) - l + 1), .int .u64 y'] 24) = Z0 at *
  generalize W1.heap.size + 1 = nb' at *
  clear ha
  obtain ⟨B0, B1, _, _, _⟩ := id B
  go_wp2_with fail
  refine Calls.mono (k1h _) ?_
  rintro e W2 ⟨rfl, h1⟩
  clear B0 B1
  replace A := (A.later h1).alloc (.cells #[.int .i64 k, .int .u64 p] 24)
  replace B := (B.later h1).alloc (.cells #[.int .i64 k, .int .u64 p] 24)
  replace hW := hW.trans (h1.mono hW.size)
  clear h1
  replace hW := hW.alloc hW.size (.cells #[.int .i64 k, .int .u64 p] 24)
  have P := Box.new W2 (.int .i64 k) (.int .u64 p) 24
  obtain ⟨P0, P1, _, _, _⟩ := id P
  go_wp2_with fail
  refine Calls.mono (k2h _) ?_
  rintro e W3 ⟨rfl, h1⟩
  clear P0 P1
  replace A := (A.later h1).alloc (.cells #[.int .i64 ((h : Int) - l + 1), .int .u64 y'] 24)
  replace B := (B.later h1).alloc (.cells #[.int .i64 ((h : Int) - l + 1), .int .u64 y'] 24)
  replace P := (P.later h1).alloc (.cells #[.int .i64 ((h : Int) - l + 1), .int .u64 y'] 24)
  replace hW := hW.trans (h1.mono hW.size)
  clear h1
  replace hW := hW.alloc hW.size (.cells #[.int .i64 ((h : Int) - l + 1), .int .u64 y'] 24)
  have S := Box.new W3 (.int .i64 ((h : Int) - l + 1)) (.int .u64 y') 24
  obtain ⟨A0, A1, _, _, _⟩ := id A
  obtain ⟨B0, B1, _, _, _⟩ := id B
  have A2 := fun o => (A.alloc o).c0
  have A3 := fun o => (A.alloc o).c1
  have B2 := fun o => (B.alloc o).c0
  have B3 := fun o => (B.alloc o).c1
  go_upto_if 71 with fail
  clear A0 A1 B0 B1
  clear A2 A3 B2 B3
  generalize hZ1 : W3.alloc (.cells #[.int .i64 ((h : Int) - l + 1), .int .u64 y'] 24) = Z1 at *
  have hs1 : W3.heap.size + 1 = Z1.heap.size := by rw [← hZ1]; simp
  clear hZ1
  rw [hs1]
  clear hs1
  have hown : (Z1.alloc (.cells #[] 24)).ownsRow Z1.heap.size 24 2 (.slice (some ⟨Z1.heap.size, 0, none⟩) 0 0) 0 [] := World.ownsRow_made Z1 #[] 0 (Nat.le_refl _) (by decide) (by simp)
  have lA := A.lt
  have lB := B.lt
  have lP := P.lt
  have lS := S.lt
  have hbase : Z1.heap.size ≤ (Z1.alloc (.cells #[] 24)).heap.size := by simp
  have hsz := hW.size
  replace A := A.alloc (.cells #[] 24)
  replace B := B.alloc (.cells #[] 24)
  replace P := P.alloc (.cells #[] 24)
  replace S := S.alloc (.cells #[] 24)
  replace hW := hW.alloc hW.size (.cells #[] 24)
  generalize Z1.heap.size = base at hown hbase hsz ⊢ lA lB lP lS
  generalize Z1.alloc (.cells #[] 24) = Y0 at *
  obtain ⟨B0, B1, _, _, _⟩ := id B
  go_wp2_with (first | (at_builtin; refine wpList_append_own _ rfl _ _ 34 rfl base 24 i0 (.agg #[.int .i64 0, .int .u64 0]) 2 16 Try.underlying34 hi0h hz0h hz1h hz2h rfl (by decide) _ _ _ rfl (hown.alloc _) _ 1 1 [.int .i64 ((h : Int) - l + 1), .int .u64 y'] rfl rfl ?c1 ?c2 ?c3 ?c4 ?c5 ?_))
  case c1 =>
    have TB : Box ((Y0).alloc (.cells #[.int .i64 ((h : Int) - l + 1), .int .u64 y'] 24)) (Y0).heap.size (.int .i64 ((h : Int) - l + 1)) (.int .u64 y') := Box.new _ _ _ _
    have := cells_new2 TB
    intro j u hj
    simpa using this j u hj
  case c2 => intro u hu; simp at hu; rcases hu with rfl | rfl <;> rfl
  case c3 => decide
  case c4 => decide
  case c5 => simp at hbase ⊢; omega
  intro v1 Y1 hown' hgrow _
  have hob := own_block (hown.alloc (.cells #[.int .i64 ((h : Int) - l + 1), .int .u64 y'] 24))
  replace A := (A.alloc (.cells #[.int .i64 ((h : Int) - l + 1), .int .u64 y'] 24)).grown hgrow (fun k hk => by have := hob k hk; omega)
  replace B := (B.alloc (.cells #[.int .i64 ((h : Int) - l + 1), .int .u64 y'] 24)).grown hgrow (fun k hk => by have := hob k hk; omega)
  replace P := (P.alloc (.cells #[.int .i64 ((h : Int) - l + 1), .int .u64 y'] 24)).grown hgrow (fun k hk => by have := hob k hk; omega)
  replace S := (S.alloc (.cells #[.int .i64 ((h : Int) - l + 1), .int .u64 y'] 24)).grown hgrow (fun k hk => by have := hob k hk; omega)
  replace hW := (hW.alloc hW.size (.cells #[.int .i64 ((h : Int) - l + 1), .int .u64 y'] 24)).grown hgrow (Nat.le_trans hW.size (by simp)) (fun k hk => by have := hob k hk; omega)
  replace hbase : base ≤ Y1.heap.size := by have := hgrow.size; simp at this hbase; omega
  clear hown hgrow hob
  have hown := hown'
  clear hown'
  clear B0 B1
  obtain ⟨A0, A1, _, _, _⟩ := id A
  go_wp2_with fail
  clear A0 A1
  refine Calls.mono (k9h _ _ _ hown) ?_
  rintro e W6 ⟨rfl, h1⟩
  replace A := (A.later h1).alloc (.cells #[.int .i64 k, .int .u64 p] 24)
  replace B := (B.later h1).alloc (.cells #[.int .i64 k, .int .u64 p] 24)
  replace P := (P.later h1).alloc (.cells #[.int .i64 k, .int .u64 p] 24)
  replace S := (S.later h1).alloc (.cells #[.int .i64 k, .int .u64 p] 24)
  replace hW := (hW.trans (h1.mono hW.size)).alloc (hW.trans (h1.mono hW.size)).size (.cells #[.int .i64 k, .int .u64 p] 24)
  clear h1 hown hbase
  have C := Box.new W6 (.int .i64 k) (.int .u64 p) 24
  go_wp2_with fail
  refine Calls.mono (klh _) ?_
  rintro e W7 ⟨rfl, h1⟩
  replace A := A.later h1
  replace B := B.later h1
  replace P := P.later h1
  replace S := S.later h1
  replace C := C.later h1
  replace hW := hW.trans (h1.mono hW.size)
  clear h1
  obtain ⟨P0, P1, _, _, _⟩ := id P
  obtain ⟨S0, S1, _, _, _⟩ := id S
  obtain ⟨B0, B1, _, _, _⟩ := id B
  obtain ⟨C0, C1, _, _, _⟩ := id C
  go_wp2
  go_ret
  exact ⟨rfl, hW⟩

theorem law_slices (w x hi lo y : Nat) (W : World) (hw : w < 256) (hx : x < 18446744073709551616) (hhi : hi < 256) (hlo : lo < 256) (hy : y < 18446744073709551616) :
    Calls Try.prog 9 #[.int .u8 w, .int .u64 x, .int .u8 hi, .int .u8 lo, .int .u64 y] W fun e W' => e = .returned (.bool true) ∧ Below W.heap.size W W' := by
  by_cases c1 : hi % mw w + 1 < mw w
  · by_cases c2 : 0 < lo % (hi % mw w + 1)
    · exact law_slices11 w x hi lo y W hw hx hhi hlo hy c1 c2
    · exact law_slices10 w x hi lo y W hw hx hhi hlo hy c1 c2
  · by_cases c2 : 0 < lo % (hi % mw w + 1)
    · exact law_slices01 w x hi lo y W hw hx hhi hlo hy c1 c2
    · exact law_slices00 w x hi lo y W hw hx hhi hlo hy c1 c2

end Go.Proofs.Ytafhnkhcbfilaaa
