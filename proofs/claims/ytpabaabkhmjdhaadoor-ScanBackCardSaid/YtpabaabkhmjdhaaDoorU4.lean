/- The law's own example. -/
import Derived.Test.YtpabaabkhmjdhaaDoorU3
import Derived.Lib.SmallJoins
import Derived.Lib.SlBytesConst
namespace Go.Proofs.YtpabaabkhmjdhaaDoor
open Go.RowKit Go.Proofs.Scn Go.Flow Go.Sort
set_option linter.unusedVariables false
set_option linter.unusedSimpArgs false
set_option maxRecDepth 100000

def exText : List UInt8 := [97, 60, 61, 52, 39, 104, 70, 59]
def exToks : List Tok := [⟨1, [97], 0, 0, 0⟩, ⟨4, [60, 61], 0, 0, 1⟩, ⟨3, [], 4, 15, 3⟩, ⟨4, [59], 0, 0, 7⟩]
theorem ex_scan : scanW 0 exText = .ok exToks := by
  unfold exText
  rw [scanW_step 0 (t := ⟨1, [97], 0, 0, 0⟩) (n := 1) (by decide) (by decide) (by decide)]
  rw [show ([97, 60, 61, 52, 39, 104, 70, 59] : List UInt8).drop 1 = [60, 61, 52, 39, 104, 70, 59] from rfl]
  rw [scanW_step (0 + 1) (t := ⟨4, [60, 61], 0, 0, 0⟩) (n := 2) (by decide) (by decide) (by decide)]
  rw [show ([60, 61, 52, 39, 104, 70, 59] : List UInt8).drop 2 = [52, 39, 104, 70, 59] from rfl]
  rw [scanW_step (0 + 1 + 2) (t := ⟨3, [], 4, 15, 0⟩) (n := 4) (by decide) (by decide) (by decide)]
  rw [show ([52, 39, 104, 70, 59] : List UInt8).drop 4 = [59] from rfl]
  rw [scanW_step (0 + 1 + 2 + 4) (t := ⟨4, [59], 0, 0, 0⟩) (n := 1) (by decide) (by decide) (by decide)]
  rw [show ([59] : List UInt8).drop 1 = [] from rfl, scanW_nil]
  rfl
theorem ex_bad : scanW 0 [97, 32, 36] = .error (2, 20) := by
  rw [scanW_step 0 (t := ⟨1, [97], 0, 0, 0⟩) (n := 1) (by decide) (by decide) (by decide)]
  rw [show ([97, 32, 36] : List UInt8).drop 1 = [32, 36] from rfl]
  rw [scanW_blank (0 + 1) (by decide), scanW_bad (0 + 1 + 1) (e := 20) (by decide) (by decide) (by decide)]
  rfl
theorem ex_text : textL exToks = [97, 32, 60, 61, 32, 52, 39, 104, 102, 32, 59] := by
  have h4 : digL 10 4 = [52] := digL_lt (.inl (by decide))
  have h15 : digL 16 15 = [102] := digL_lt (.inl (by decide))
  simp [exToks, textL, oneT, sepT, h4, h15]
theorem ex_check : exToks.all checkT = true := by decide

theorem bytes_const (w : World) (l : List UInt8) (c : Nat) (fr : Nat × Nat) (t : TypeId) : Bytes (w.alloc (.cells (cellsB l).toArray t fr)) (.slice (some ⟨w.heap.size, 0, none⟩) l.length c) (bs l) :=
  .inr ⟨w.heap.size, 0, c, rfl, by simp, fun k hk => by
    have hk' : k < l.length := hk
    rw [Nat.zero_add, Joins.cell_alloc_mark_at w _ t fr w.heap.size k rfl]
    show (cellsB l).toArray[k]? = some (.int .u8 (l[k]).toNat)
    simp [cellsB, hk']⟩

theorem toks_const (w : World) (ts : List Tok) (c : Nat) (fr : Nat × Nat) (t : TypeId) : Toks (w.alloc (.cells (cellsTs ts).toArray t fr)) (.slice (some ⟨w.heap.size, 0, none⟩) ts.length c) ts :=
  .inr ⟨w.heap.size, 0, c, rfl, by simp, fun k hk => by
    have key : ∀ j, j < 5 → (w.alloc (.cells (cellsTs ts).toArray t fr)).cell? ⟨w.heap.size, 0 + k * 5 + j, none⟩ = (cellsT ts[k])[j]? := by
      intro j hj
      rw [Nat.zero_add, Joins.cell_alloc_mark_at w _ t fr w.heap.size _ rfl, ← cellsTs_at ts k j hk hj]
      simp
    exact ⟨key 0 (by omega), key 1 (by omega), key 2 (by omega), key 3 (by omega), key 4 (by omega)⟩⟩

set_option maxHeartbeats 8000000 in
theorem live_any (W : World) (hB : Base W) :
    Calls Tryd.prog 13 #[] W fun e W' => e = .returned (.bool true) ∧ Below W.heap.size W W' := by
  have ks1 := fun v W hb hB => scan_any v (bs exText) (by decide) W hb hB
  have ks2 := fun v W hb hB => scan_any v (bs [97, 32, 36]) (by decide) W hb hB
  rw [list_bs, ex_scan] at ks1
  rw [list_bs, ex_bad] at ks2
  have KS1 := Lib.hid ks1
  have KS2 := Lib.hid ks2
  have KE := Lib.hid (fun v1 v2 W h1 h2 => equal_any v1 v2 exToks exToks (by decide) W h1 h2)
  have kt := fun v W ht hB => text_any v exToks (by decide) W ht (by decide) hB
  have KT := Lib.hid kt
  have HB := Lib.hid hB
  clear ks1 ks2 kt hB
  go_enter Tryd.func13, Tryd.ntmps13
  have hcv := Lib.run_convert_bytes_const (P := Tryd.prog) W 22 5 (cellsB exText).toArray 8 8 byteSlice (by kernel_rfl)
  have hb := bytes_const W exText 8 (8, 9) 5
  have hW1 := (Below.refl W.heap.size W).alloc (Nat.le_refl _) (.cells (cellsB exText).toArray 5 (8, 9))
  change (convert 22 22 (.slice (some ⟨W.heap.size, 0, none⟩) 8 8)).run Tryd.prog (W.alloc (.cells #[.int .u8 97, .int .u8 60, .int .u8 61, .int .u8 52, .int .u8 39, .int .u8 104, .int .u8 70, .int .u8 59] 5)) = .ok (.slice (some ⟨W.heap.size, 0, none⟩) 8 8) (W.alloc (.cells (cellsB exText).toArray 5 (8, 9))) at hcv
  generalize W.alloc (.cells (cellsB exText).toArray 5 (8, 9)) = W1 at *
  have HBy := Lib.hid hb
  have HW1 := Lib.hid hW1
  clear hb hW1
  go_wp2_with fail
  refine (KS1.out _ _ HBy.out (HB.out.later HW1.out)).mono ?_
  rintro e W2 ⟨⟨v1, rfl, ho1⟩, hb2⟩
  have ht1 := ho1.toks
  have hW2 := HW1.out.trans (hb2.mono HW1.out.size)
  clear ho1 hb2 hcv HBy
  go_wp2_with fail
  have hw3 := toks_const W2 exToks 4 (0, 0) 32
  change Toks (W2.alloc (.cells #[.int .i64 1, .string ⟨#[97]⟩, .int .i64 0, .int .u64 0, .int .i64 0, .int .i64 4, .string ⟨#[60, 61]⟩, .int .i64 0, .int .u64 0, .int .i64 1, .int .i64 3, .string ⟨#[]⟩, .int .i64 4, .int .u64 15, .int .i64 3, .int .i64 4, .string ⟨#[59]⟩, .int .i64 0, .int .u64 0, .int .i64 7] 32)) (.slice (some ⟨W2.heap.size, 0, none⟩) 4 4) exToks at hw3
  have hb3 := (Below.refl W2.heap.size W2).alloc (Nat.le_refl _) (.cells #[.int .i64 1, .string ⟨#[97]⟩, .int .i64 0, .int .u64 0, .int .i64 0, .int .i64 4, .string ⟨#[60, 61]⟩, .int .i64 0, .int .u64 0, .int .i64 1, .int .i64 3, .string ⟨#[]⟩, .int .i64 4, .int .u64 15, .int .i64 3, .int .i64 4, .string ⟨#[59]⟩, .int .i64 0, .int .u64 0, .int .i64 7] 32)
  have hc3 : ∃ h0 : Unit, (W2.alloc (.cells #[.int .i64 1, .string ⟨#[97]⟩, .int .i64 0, .int .u64 0, .int .i64 0, .int .i64 4, .string ⟨#[60, 61]⟩, .int .i64 0, .int .u64 0, .int .i64 1, .int .i64 3, .string ⟨#[]⟩, .int .i64 4, .int .u64 15, .int .i64 3, .int .i64 4, .string ⟨#[59]⟩, .int .i64 0, .int .u64 0, .int .i64 7] 32)).cell? ⟨W2.heap.size, 0, none⟩ = some (.int .i64 1) ∧ (W2.alloc (.cells #[.int .i64 1, .string ⟨#[97]⟩, .int .i64 0, .int .u64 0, .int .i64 0, .int .i64 4, .string ⟨#[60, 61]⟩, .int .i64 0, .int .u64 0, .int .i64 1, .int .i64 3, .string ⟨#[]⟩, .int .i64 4, .int .u64 15, .int .i64 3, .int .i64 4, .string ⟨#[59]⟩, .int .i64 0, .int .u64 0, .int .i64 7] 32)).cell? ⟨W2.heap.size, 1, none⟩ = some (.string ⟨#[97]⟩) ∧ (W2.alloc (.cells #[.int .i64 1, .string ⟨#[97]⟩, .int .i64 0, .int .u64 0, .int .i64 0, .int .i64 4, .string ⟨#[60, 61]⟩, .int .i64 0, .int .u64 0, .int .i64 1, .int .i64 3, .string ⟨#[]⟩, .int .i64 4, .int .u64 15, .int .i64 3, .int .i64 4, .string ⟨#[59]⟩, .int .i64 0, .int .u64 0, .int .i64 7] 32)).cell? ⟨W2.heap.size, 2, none⟩ = some (.int .i64 0) ∧ (W2.alloc (.cells #[.int .i64 1, .string ⟨#[97]⟩, .int .i64 0, .int .u64 0, .int .i64 0, .int .i64 4, .string ⟨#[60, 61]⟩, .int .i64 0, .int .u64 0, .int .i64 1, .int .i64 3, .string ⟨#[]⟩, .int .i64 4, .int .u64 15, .int .i64 3, .int .i64 4, .string ⟨#[59]⟩, .int .i64 0, .int .u64 0, .int .i64 7] 32)).cell? ⟨W2.heap.size, 3, none⟩ = some (.int .u64 0) ∧ (W2.alloc (.cells #[.int .i64 1, .string ⟨#[97]⟩, .int .i64 0, .int .u64 0, .int .i64 0, .int .i64 4, .string ⟨#[60, 61]⟩, .int .i64 0, .int .u64 0, .int .i64 1, .int .i64 3, .string ⟨#[]⟩, .int .i64 4, .int .u64 15, .int .i64 3, .int .i64 4, .string ⟨#[59]⟩, .int .i64 0, .int .u64 0, .int .i64 7] 32)).cell? ⟨W2.heap.size, 4, none⟩ = some (.int .i64 0) := ⟨(), by simp [go_sem], by simp [go_sem], by simp [go_sem], by simp [go_sem], by simp [go_sem]⟩
  have hlt3 : W2.heap.size < (W2.alloc (.cells #[.int .i64 1, .string ⟨#[97]⟩, .int .i64 0, .int .u64 0, .int .i64 0, .int .i64 4, .string ⟨#[60, 61]⟩, .int .i64 0, .int .u64 0, .int .i64 1, .int .i64 3, .string ⟨#[]⟩, .int .i64 4, .int .u64 15, .int .i64 3, .int .i64 4, .string ⟨#[59]⟩, .int .i64 0, .int .u64 0, .int .i64 7] 32)).heap.size := by simp
  generalize W2.alloc (.cells #[.int .i64 1, .string ⟨#[97]⟩, .int .i64 0, .int .u64 0, .int .i64 0, .int .i64 4, .string ⟨#[60, 61]⟩, .int .i64 0, .int .u64 0, .int .i64 1, .int .i64 3, .string ⟨#[]⟩, .int .i64 4, .int .u64 15, .int .i64 3, .int .i64 4, .string ⟨#[59]⟩, .int .i64 0, .int .u64 0, .int .i64 7] 32) = W3 at *
  have ht3 := ht1.later hb3
  have hW3 := hW2.trans (hb3.mono hW2.size)
  clear hb3 ht1 hW2
  obtain ⟨_, a0, a1, a2, a3, a4⟩ := hc3
  refine (KE.out _ _ _ ht3 hw3).mono ?_
  rintro e W4 ⟨rfl, hb4⟩
  have hw4 := hw3.later hb4
  have hW4 := hW3.trans (hb4.mono hW3.size)
  replace a0 := (hb4.cell (p := ⟨W2.heap.size, 0, none⟩) hlt3).trans a0
  replace a1 := (hb4.cell (p := ⟨W2.heap.size, 1, none⟩) hlt3).trans a1
  replace a2 := (hb4.cell (p := ⟨W2.heap.size, 2, none⟩) hlt3).trans a2
  replace a3 := (hb4.cell (p := ⟨W2.heap.size, 3, none⟩) hlt3).trans a3
  replace a4 := (hb4.cell (p := ⟨W2.heap.size, 4, none⟩) hlt3).trans a4
  have hlt4 := Nat.lt_of_lt_of_le hlt3 hb4.size
  clear ht3 hw3 hb4 hW3 hlt3
  go_wp2_with fail
  refine (KT.out _ _ hw4 (HB.out.later hW4)).mono ?_
  rintro e W5 ⟨hres, hb5⟩
  rw [if_pos ex_check, if_pos (by rw [ex_text]; decide), ex_text] at hres
  obtain ⟨v5, rfl, ho5⟩ := hres
  have hy5 := ho5.bytes
  have hW5 := hW4.trans (hb5.mono hW4.size)
  replace a0 := (hb5.cell (p := ⟨W2.heap.size, 0, none⟩) hlt4).trans a0
  replace a1 := (hb5.cell (p := ⟨W2.heap.size, 1, none⟩) hlt4).trans a1
  replace a2 := (hb5.cell (p := ⟨W2.heap.size, 2, none⟩) hlt4).trans a2
  replace a3 := (hb5.cell (p := ⟨W2.heap.size, 3, none⟩) hlt4).trans a3
  replace a4 := (hb5.cell (p := ⟨W2.heap.size, 4, none⟩) hlt4).trans a4
  have hlt5 := Nat.lt_of_lt_of_le hlt4 hb5.size
  clear hw4 hb5 hW4 hlt4 ho5
  have hcv := Lib.run_convert_bytes_const (P := Tryd.prog) W5 22 5 (cellsB [97, 32, 36]).toArray 3 3 byteSlice (by kernel_rfl)
  have hb6 := bytes_const W5 [97, 32, 36] 3 (3, 4) 5
  have hb6' := (Below.refl W5.heap.size W5).alloc (Nat.le_refl _) (.cells (cellsB [97, 32, 36]).toArray 5 (3, 4))
  change (convert 22 22 (.slice (some ⟨W5.heap.size, 0, none⟩) 3 3)).run Tryd.prog (W5.alloc (.cells #[.int .u8 97, .int .u8 32, .int .u8 36] 5)) = .ok (.slice (some ⟨W5.heap.size, 0, none⟩) 3 3) (W5.alloc (.cells (cellsB [97, 32, 36]).toArray 5 (3, 4))) at hcv
  generalize W5.alloc (.cells (cellsB [97, 32, 36]).toArray 5 (3, 4)) = W6 at *
  have HBy6 := Lib.hid hb6
  have hy6 := hy5.later hb6'
  have hW6 := hW5.trans (hb6'.mono hW5.size)
  replace a0 := (hb6'.cell (p := ⟨W2.heap.size, 0, none⟩) hlt5).trans a0
  replace a1 := (hb6'.cell (p := ⟨W2.heap.size, 1, none⟩) hlt5).trans a1
  replace a2 := (hb6'.cell (p := ⟨W2.heap.size, 2, none⟩) hlt5).trans a2
  replace a3 := (hb6'.cell (p := ⟨W2.heap.size, 3, none⟩) hlt5).trans a3
  replace a4 := (hb6'.cell (p := ⟨W2.heap.size, 4, none⟩) hlt5).trans a4
  have hlt6 := Nat.lt_of_lt_of_le hlt5 hb6'.size
  clear hb6 hb6' hy5 hW5 hlt5
  go_wp2_with fail
  refine (KS2.out _ _ HBy6.out (HB.out.later hW6)).mono ?_
  rintro e W7 ⟨rfl, hb7⟩
  have hy7 := hy6.later hb7
  have hW7 := hW6.trans (hb7.mono hW6.size)
  replace a0 := (hb7.cell (p := ⟨W2.heap.size, 0, none⟩) hlt6).trans a0
  replace a1 := (hb7.cell (p := ⟨W2.heap.size, 1, none⟩) hlt6).trans a1
  replace a2 := (hb7.cell (p := ⟨W2.heap.size, 2, none⟩) hlt6).trans a2
  replace a3 := (hb7.cell (p := ⟨W2.heap.size, 3, none⟩) hlt6).trans a3
  replace a4 := (hb7.cell (p := ⟨W2.heap.size, 4, none⟩) hlt6).trans a4
  clear hb7 hy6 hW6 hlt6 hcv HBy6
  have hstr := str_run hy7
  have HB7 := HB.out.later hW7
  obtain ⟨mx, hmx⟩ := HB7.max
  have kw1 := word_any (bs [116, 105, 99, 107]) (by decide) W7 mx hmx
  have kw2 := word_any (bs [116, 111, 99, 107]) (by decide) W7 mx hmx
  rw [list_bs, show isWord [116, 105, 99, 107] = true from by decide] at kw1
  rw [list_bs, show isWord [116, 111, 99, 107] = false from by decide] at kw2
  have kc1 := fun W hB => check_any 1 0 0 (bs [97]) 0 (by decide) (by decide) W hB
  have kc2 := fun W hB => check_any 0 0 0 (bs []) 0 (by decide) (by decide) W hB
  rw [list_bs, show errB (checkT ⟨1, [97], 0, 0, 0⟩) = 0 from by decide] at kc1
  rw [list_bs, show errB (checkT ⟨0, [], 0, 0, 0⟩) = 1 from by decide] at kc2
  have KW1 := Lib.hid kw1
  have KW2 := Lib.hid kw2
  have KC1 := Lib.hid kc1
  have KC2 := Lib.hid kc2
  have HW7 := Lib.hid hW7
  have HB7' := Lib.hid HB7
  clear kw1 kw2 kc1 kc2 hW7 HB7 hmx hy7
  have hbs : (bs [97, 32, 60, 61, 32, 52, 39, 104, 102, 32, 59]).toList = [97, 32, 60, 61, 32, 52, 39, 104, 102, 32, 59] := by rw [toList_eq, list_bs]
  go_wp2_with fail
  refine KW1.out.mono ?_
  rintro e w' ⟨rfl, rfl⟩
  go_wp2_with fail
  refine KW2.out.mono ?_
  rintro e w' ⟨rfl, rfl⟩
  go_wp2_with fail
  refine (KC1.out _ HB7'.out).mono ?_
  rintro e W8 ⟨rfl, hb8⟩
  have HB8 := Lib.hid (HB7'.out.later hb8)
  have HW8 := Lib.hid (HW7.out.trans (hb8.mono HW7.out.size))
  clear hb8
  go_wp2_with fail
  refine (KC2.out _ HB8.out).mono ?_
  rintro e W9 ⟨rfl, hb9⟩
  have HW9 := Lib.hid (HW8.out.trans (hb9.mono HW8.out.size))
  clear hb9
  go_wp2
  go_ret
  exact ⟨rfl, HW9.out⟩

end Go.Proofs.YtpabaabkhmjdhaaDoor
