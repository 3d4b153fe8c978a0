/- The chapter's example holds. -/
import Derived.Test.YtephnfhjobkciaaGreatDoorQ2
import Derived.Test.YtephnfhjobkciaaGreatDoorQ9
import Derived.Test.YtephnfhjobkciaaGreatDoorQ7
import Derived.Test.YtephnfhjobkciaaGreatDoorQ5
import Derived.Test.YtephnfhjobkciaaGreatDoorQ11

namespace Go.Proofs.YtephnfhjobkciaaGreatDoor
open Go.RowKit Go.Proofs.Wav Go.Proofs.Scn Go.Flow Go.Sort Go.Shelf
set_option linter.unusedVariables false
set_option linter.unusedSimpArgs false
set_option maxRecDepth 100000

theorem ex_small : Small exW := ⟨by decide, by decide, by decide, fun s hs => by
  have : s ∈ exN := hs
  simp only [exN, List.mem_cons, List.not_mem_nil, or_false] at this
  rcases this with rfl | rfl <;> decide⟩
theorem ex_fits : Fits exW := ⟨fun c hc => by
  have : c ∈ ([⟨0, 0, 1⟩, ⟨0, 1, 0⟩, ⟨1, 1, 1⟩] : List Chg) := hc
  simp only [List.mem_cons, List.not_mem_nil, or_false] at this
  rcases this with rfl | rfl | rfl <;> decide, fun c hc => by
  have : c ∈ ([⟨0, 0, 1⟩, ⟨0, 1, 0⟩, ⟨1, 1, 1⟩] : List Chg) := hc
  simp only [List.mem_cons, List.not_mem_nil, or_false] at this
  rcases this with rfl | rfl | rfl <;> decide⟩
theorem ex_putE : putE exW = 0 := by
  unfold putE
  rw [ex_check, ex_put]
  decide
theorem ex_get : getP exB = some exW := (getP_iff _ _).2 ⟨ex_check, by rw [ex_put]; decide, ex_put⟩
theorem ex_rowsE : rowsE exW = 0 := by
  unfold rowsE
  rw [ex_check]
  decide
theorem ex_at1 : atE exW 2 1 = 0 ∧ atV exW 2 1 = 1 := by
  have h := atE_ok (x := exW) (t := 2) (g := 1) ex_check (by decide)
  exact ⟨h.1, h.2.trans ex_at⟩
theorem ex_at2 : atE exW 3 1 = 1 ∧ atV exW 3 1 = 0 := atE_arg (x := exW) (t := 3) (g := 1) ex_check (by decide)
theorem ex_none : checkW emptyW = 1 := by decide
/-- where the example's arguments lie -/
structure ExAt (W X : World) : Prop where
  n : Strs X (.slice (some ⟨W.heap.size, 0, none⟩) 2 2) exN
  w : Ints X (.slice (some ⟨W.heap.size + 1, 0, none⟩) 2 2) [2, 1]
  r : Rws X (.slice (some ⟨W.heap.size + 5, 0, none⟩) 3 3) exR
  b : Below W.heap.size W X
theorem slc_blk {X : World} {q n c : Nat} {cs : Array Value} {e : TypeId} {fr : Nat × Nat} {m : Nat} (h : X.heap[q]? = some (.cells cs e fr)) (hl : cs.toList.length = n * m) : Slc X m (.slice (some ⟨q, 0, none⟩) n c) n cs.toList :=
  ⟨hl, .inr ⟨q, 0, c, rfl, (Array.getElem?_eq_some_iff.1 h).1, fun j hj => by rw [Nat.zero_add, cell_of_row X q j cs e fr h]; simp⟩⟩

theorem exAt (W : World) : ExAt W ((((((W.alloc (.cells #[.string { data := #[97] }, .string { data := #[98] }] 9)).alloc (.cells #[.int .i64 2, .int .i64 1] 3)).alloc (.cells #[.int .u64 1, .int .u64 0] 33)).alloc (.cells #[.int .u64 1, .int .u64 1] 33)).alloc (.cells #[.int .u64 1, .int .u64 1] 33)).alloc (.cells #[.slice (some ⟨W.heap.size + 1 + 1, 0, none⟩) 2 2, .slice (some ⟨W.heap.size + 1 + 1 + 1, 0, none⟩) 2 2, .slice (some ⟨W.heap.size + 1 + 1 + 1 + 1, 0, none⟩) 2 2] 52)) := by
  obtain ⟨X1, h1⟩ : ∃ X, X = W.alloc (.cells #[.string { data := #[97] }, .string { data := #[98] }] 9) := ⟨_, rfl⟩
  obtain ⟨X2, h2⟩ : ∃ X, X = X1.alloc (.cells #[.int .i64 2, .int .i64 1] 3) := ⟨_, rfl⟩
  obtain ⟨X3, h3⟩ : ∃ X, X = X2.alloc (.cells #[.int .u64 1, .int .u64 0] 33) := ⟨_, rfl⟩
  obtain ⟨X4, h4⟩ : ∃ X, X = X3.alloc (.cells #[.int .u64 1, .int .u64 1] 33) := ⟨_, rfl⟩
  obtain ⟨X5, h5⟩ : ∃ X, X = X4.alloc (.cells #[.int .u64 1, .int .u64 1] 33) := ⟨_, rfl⟩
  obtain ⟨X6, h6⟩ : ∃ X, X = X5.alloc (.cells #[.slice (some ⟨W.heap.size + 1 + 1, 0, none⟩) 2 2, .slice (some ⟨W.heap.size + 1 + 1 + 1, 0, none⟩) 2 2, .slice (some ⟨W.heap.size + 1 + 1 + 1 + 1, 0, none⟩) 2 2] 52) := ⟨_, rfl⟩
  rw [← h1, ← h2, ← h3, ← h4, ← h5, ← h6]
  have s1 : X1.heap.size = W.heap.size + 1 := by rw [h1]; simp
  have s2 : X2.heap.size = W.heap.size + 1 + 1 := by rw [h2, World.size_alloc, s1]
  have s3 : X3.heap.size = W.heap.size + 1 + 1 + 1 := by rw [h3, World.size_alloc, s2]
  have s4 : X4.heap.size = W.heap.size + 1 + 1 + 1 + 1 := by rw [h4, World.size_alloc, s3]
  have s5 : X5.heap.size = W.heap.size + 1 + 1 + 1 + 1 + 1 := by rw [h5, World.size_alloc, s4]
  have b1 : Below W.heap.size W X1 := by rw [h1]; exact (Below.refl _ _).alloc (Nat.le_refl _) _
  have b2 : Below X1.heap.size X1 X2 := by rw [h2]; exact (Below.refl _ _).alloc (Nat.le_refl _) _
  have b3 : Below X2.heap.size X2 X3 := by rw [h3]; exact (Below.refl _ _).alloc (Nat.le_refl _) _
  have b4 : Below X3.heap.size X3 X4 := by rw [h4]; exact (Below.refl _ _).alloc (Nat.le_refl _) _
  have b5 : Below X4.heap.size X4 X5 := by rw [h5]; exact (Below.refl _ _).alloc (Nat.le_refl _) _
  have b6 : Below X5.heap.size X5 X6 := by rw [h6]; exact (Below.refl _ _).alloc (Nat.le_refl _) _
  have k1 : X1.heap[W.heap.size]? = some (.cells #[.string { data := #[97] }, .string { data := #[98] }] 9) := by rw [h1]; exact heap_alloc_new _ _
  have k2 : X2.heap[W.heap.size + 1]? = some (.cells #[.int .i64 2, .int .i64 1] 3) := by rw [h2, ← s1]; exact heap_alloc_new _ _
  have k3 : X3.heap[W.heap.size + 1 + 1]? = some (.cells #[.int .u64 1, .int .u64 0] 33) := by rw [h3, ← s2]; exact heap_alloc_new _ _
  have k4 : X4.heap[W.heap.size + 1 + 1 + 1]? = some (.cells #[.int .u64 1, .int .u64 1] 33) := by rw [h4, ← s3]; exact heap_alloc_new _ _
  have k5 : X5.heap[W.heap.size + 1 + 1 + 1 + 1]? = some (.cells #[.int .u64 1, .int .u64 1] 33) := by rw [h5, ← s4]; exact heap_alloc_new _ _
  have k6 : X6.heap[W.heap.size + 1 + 1 + 1 + 1 + 1]? = some (.cells #[.slice (some ⟨W.heap.size + 1 + 1, 0, none⟩) 2 2, .slice (some ⟨W.heap.size + 1 + 1 + 1, 0, none⟩) 2 2, .slice (some ⟨W.heap.size + 1 + 1 + 1 + 1, 0, none⟩) 2 2] 52) := by rw [h6, ← s5]; exact heap_alloc_new _ _
  have c5 := b6.block _ (show W.heap.size + 1 + 1 + 1 + 1 < X5.heap.size by omega)
  have c4 := (b6.block _ (show W.heap.size + 1 + 1 + 1 < X5.heap.size by omega)).trans (b5.block _ (show W.heap.size + 1 + 1 + 1 < X4.heap.size by omega))
  have c3 := ((b6.block _ (show W.heap.size + 1 + 1 < X5.heap.size by omega)).trans (b5.block _ (show W.heap.size + 1 + 1 < X4.heap.size by omega))).trans (b4.block _ (show W.heap.size + 1 + 1 < X3.heap.size by omega))
  have c2 := (((b6.block _ (show W.heap.size + 1 < X5.heap.size by omega)).trans (b5.block _ (show W.heap.size + 1 < X4.heap.size by omega))).trans (b4.block _ (show W.heap.size + 1 < X3.heap.size by omega))).trans (b3.block _ (show W.heap.size + 1 < X2.heap.size by omega))
  have c1 := ((((b6.block _ (show W.heap.size < X5.heap.size by omega)).trans (b5.block _ (show W.heap.size < X4.heap.size by omega))).trans (b4.block _ (show W.heap.size < X3.heap.size by omega))).trans (b3.block _ (show W.heap.size < X2.heap.size by omega))).trans (b2.block _ (show W.heap.size < X1.heap.size by omega))
  have hb : Below W.heap.size W X6 := ((((b1.trans (b2.mono (by omega))).trans (b3.mono (by omega))).trans (b4.mono (by omega))).trans (b5.mono (by omega))).trans (b6.mono (by omega))
  refine ⟨slc_blk (c1.trans k1) rfl, slc_blk (c2.trans k2) rfl, ⟨[.slice (some ⟨W.heap.size + 1 + 1, 0, none⟩) 2 2, .slice (some ⟨W.heap.size + 1 + 1 + 1, 0, none⟩) 2 2, .slice (some ⟨W.heap.size + 1 + 1 + 1 + 1, 0, none⟩) 2 2], rfl, slc_blk k6 rfl, fun k hk hk' => ?_⟩, hb⟩
  match k, hk with
  | 0, _ => exact slc_blk (c3.trans k3) rfl
  | 1, _ => exact slc_blk (c4.trans k4) rfl
  | 2, _ => exact slc_blk (c5.trans k5) rfl

set_option maxHeartbeats 8000000 in
theorem live_any (W : World) (hB : Base W) : Calls Tryz.prog 12 #[] W fun e W' => e = .returned (.bool true) ∧ Below W.heap.size W W' := by
  have HB := Lib.hid hB
  have HX := Lib.hid (exAt W)
  clear hB
  go_enter Tryz.func12, Tryz.ntmps12
  go_wp2_with fail
  generalize ((((((W.alloc (.cells #[.string { data := #[97] }, .string { data := #[98] }] 9)).alloc (.cells #[.int .i64 2, .int .i64 1] 3)).alloc (.cells #[.int .u64 1, .int .u64 0] 33)).alloc (.cells #[.int .u64 1, .int .u64 1] 33)).alloc (.cells #[.int .u64 1, .int .u64 1] 33)).alloc (.cells #[.slice (some ⟨W.heap.size + 1 + 1, 0, none⟩) 2 2, .slice (some ⟨W.heap.size + 1 + 1 + 1, 0, none⟩) 2 2, .slice (some ⟨W.heap.size + 1 + 1 + 1 + 1, 0, none⟩) 2 2] 52)) = X at *
  refine (make_any _ _ _ exN [2, 1] exR (by decide) (by decide) ex_small.s (by decide) (by decide) (by decide) X HX.out.n HX.out.w HX.out.r).mono ?_
  rintro e W2 ⟨⟨vn, vw, vc, he, hwav, hcap⟩, hb2⟩
  rw [ex_make] at he hwav hcap
  obtain ⟨pn, cn, hvn⟩ := Slc.form hwav.1
  obtain ⟨pw, cw, hvw⟩ := Slc.form hwav.2.1
  obtain ⟨pc, cc, hvc, hle⟩ := hcap
  replace hvn : vn = .slice pn 2 cn := hvn
  replace hvw : vw = .slice pw 2 cw := hvw
  replace hvc : vc = .slice pc 3 cc := hvc
  subst hvn hvw hvc
  replace he : e = .returned (.tuple #[.agg #[.slice pn 2 cn, .slice pw 2 cw, .slice pc 3 cc, .int .i64 2], .int .i64 0]) := he
  subst he
  have HLe := Lib.hid hle
  have HW2 := Lib.hid (HX.out.b.trans (hb2.mono HX.out.b.size))
  have HV2 := Lib.hid (show WavAt W2 (.slice pn 2 cn) (.slice pw 2 cw) (.slice pc 3 cc) exW from hwav)
  clear hwav hb2 hle
  have b1 := Box4.new W2 (.slice pn 2 cn) (.slice pw 2 cw) (.slice pc 3 cc) (.int .i64 2) 26
  have hbA := (Below.refl W2.heap.size W2).alloc (Nat.le_refl _) (.cells #[.slice pn 2 cn, .slice pw 2 cw, .slice pc 3 cc, .int .i64 2] 26)
  have HWA := Lib.hid (HW2.out.trans (hbA.mono HW2.out.size))
  have HVA := Lib.hid (HV2.out.later hbA)
  have HBX := Lib.hid b1
  obtain ⟨a0, a1, a2, a3, _, _, _, _, lta⟩ := b1
  clear hbA
  go_wp2_with fail
  generalize W2.alloc (.cells #[.slice pn 2 cn, .slice pw 2 cw, .slice pc 3 cc, .int .i64 2] 26) = WA at *
  refine (put_any _ _ _ exW ex_small ex_fits WA (HB.out.later HWA.out) HVA.out).mono ?_
  rintro e W3 ⟨⟨pv, rfl, hpv⟩, hb3⟩
  rw [if_pos ex_putE, ex_put] at hpv
  rw [ex_putE]
  have HW3 := Lib.hid (HWA.out.trans (hb3.mono HWA.out.size))
  have HV3 := Lib.hid (HVA.out.later hb3)
  have HB3 := Lib.hid (HBX.out.later hb3)
  have h41 : exB.length = 41 := by decide
  have hpv' := hpv.2
  rcases hpv' with ⟨_, h0⟩ | ⟨g, cap, cur, rfl, hgB, hcur, hncap, hrest⟩
  · rw [h41] at h0; cases h0
  rw [h41] at hncap
  have hbytes := hpv.bytes
  rw [h41] at hpv hbytes ⊢
  have HBy := Lib.hid hbytes
  have HCp := Lib.hid hncap
  clear hb3 hpv hbytes hrest hcur hgB a0 a1 a2 a3 lta hncap HWA HVA HBX
  go_wp2_with fail
  refine (get_any _ exB (by rw [h41]; omega) W3 (HB.out.later HW3.out) HBy.out).mono ?_
  rintro e W4 ⟨hg, hb4⟩
  rw [if_neg (by rw [h41]; omega), ex_get] at hg
  obtain ⟨vn5, vw5, vc5, rfl, hwav5, _, _, p5, c5, hvc5, hle5⟩ := hg
  obtain ⟨pn5, cn5, hvn5⟩ := Slc.form hwav5.1
  obtain ⟨pw5, cw5, hvw5⟩ := Slc.form hwav5.2.1
  replace hvn5 : vn5 = .slice pn5 2 cn5 := hvn5
  replace hvw5 : vw5 = .slice pw5 2 cw5 := hvw5
  replace hvc5 : vc5 = .slice p5 3 c5 := hvc5
  subst hvn5 hvw5 hvc5
  rw [show exW.last = 2 from rfl]
  have HLe5 := Lib.hid (show exW.chs.length ≤ c5 from hle5)
  have HC4 := Lib.hid hb4
  have hbA := (Below.refl W4.heap.size W4).alloc (Nat.le_refl _) (.cells #[.slice pn5 2 cn5, .slice pw5 2 cw5, .slice p5 3 c5, .int .i64 2] 26)
  have HVA := Lib.hid (WavAt.later (show WavAt W4 (.slice pn5 2 cn5) (.slice pw5 2 cw5) (.slice p5 3 c5) exW from hwav5) hbA)
  have HCA := Lib.hid (HC4.out.trans (hbA.mono HC4.out.size))
  have b5 := Box4.new W4 (.slice pn5 2 cn5) (.slice pw5 2 cw5) (.slice p5 3 c5) (.int .i64 2) 26
  obtain ⟨a0, a1, a2, a3, _, _, _, _, lta⟩ := b5
  clear hb4 hwav5 hle5 hbA
  go_wp2_with fail
  generalize W4.alloc (.cells #[.slice pn5 2 cn5, .slice pw5 2 cw5, .slice p5 3 c5, .int .i64 2] 26) = WC at *
  refine (rows_any (.slice pn5 2 cn5) (.slice pw5 2 cw5) p5 c5 exW ex_small ex_fits HLe5.out WC HVA.out).mono ?_
  rintro e W5 ⟨⟨pr, rfl, hpr⟩, hb5⟩
  rw [if_pos ex_rowsE] at hpr
  rw [ex_rowsE]
  have HR5 := Lib.hid (show Rws W5 pr exR by rw [← ex_rows]; exact hpr)
  obtain ⟨qr, cr, hqr⟩ := HR5.out.form
  replace hqr : pr = .slice qr 3 cr := hqr
  subst hqr
  have HC5 := Lib.hid (HCA.out.trans (hb5.mono HCA.out.size))
  clear hpr hb5 a0 a1 a2 a3 lta HVA HCA HC4
  obtain ⟨a0, a1, a2, a3, _, _, _, _, lta⟩ := HB3.out.later HC5.out
  go_wp2_with fail
  refine (at_any (.slice pn 2 cn) (.slice pw 2 cw) (.slice pc 3 cc) exW ex_small ex_fits 2 1 W5 (HV3.out.later HC5.out)).mono ?_
  rintro e W6 ⟨rfl, hb6⟩
  rw [ex_at1.1, ex_at1.2]
  have HC6 := Lib.hid (HC5.out.trans (hb6.mono HC5.out.size))
  have HR6 := Lib.hid (HR5.out.later hb6)
  clear hb6 a0 a1 a2 a3 lta HC5 HR5
  obtain ⟨a0, a1, a2, a3, _, _, _, _, lta⟩ := HB3.out.later HC6.out
  go_wp2_with fail
  refine (at_any (.slice pn 2 cn) (.slice pw 2 cw) (.slice pc 3 cc) exW ex_small ex_fits 3 1 W6 (HV3.out.later HC6.out)).mono ?_
  rintro e W7 ⟨rfl, hb7⟩
  rw [ex_at2.1, ex_at2.2]
  have HC7 := Lib.hid (HC6.out.trans (hb7.mono HC6.out.size))
  have HR7 := Lib.hid (HR6.out.later hb7)
  clear hb7 a0 a1 a2 a3 lta HC6 HR6
  have hcap1 : ¬ cap = 1 := by have := HCp.out; omega
  have hcap2 : (41 : Int) ≤ (cap : Int) := by have := HCp.out; omega
  have HTl := Lib.hid (show Bytes W7 (.slice (some ⟨g, 1, none⟩) 40 (cap - 1)) (bs exB.tail) from by
    rcases HBy.out.later HC7.out with ⟨h1, _⟩ | ⟨g', o', c', hv, h2, h3⟩
    · rw [size_bs, h41] at h1; cases h1
    · simp only [Value.slice.injEq, Option.some.injEq, Addr.mk.injEq] at hv
      obtain ⟨⟨rfl, rfl, _⟩, _, _⟩ := hv
      have := bytes_part (w := W7) (g := g) (o := 0) (c := cap - 1) (k := 41) (f := 1) (b := exB) h3 h2 (by rw [h41]; omega) (by omega)
      exact this)
  go_wp2_with fail
  refine (get_any _ exB.tail (by decide) W7 (HB.out.later (HW3.out.trans (HC7.out.mono HW3.out.size))) HTl.out).mono ?_
  rintro e W8 ⟨hg, hb8⟩
  rw [if_neg (by decide), ex_bad] at hg
  simp only at hg
  subst hg
  have HC8 := Lib.hid (HC7.out.trans (hb8.mono HC7.out.size))
  have HR8 := Lib.hid (HR7.out.later hb8)
  clear hb8 HC7 HR7 HTl hcap1 hcap2
  have hbA := (Below.refl W8.heap.size W8).alloc (Nat.le_refl _) (.cells #[.slice none 0 0, .slice none 0 0, .slice none 0 0, .int .i64 0] 26)
  have HC9 := Lib.hid (HC8.out.trans (hbA.mono HC8.out.size))
  have HR9 := Lib.hid (HR8.out.later hbA)
  clear hbA
  go_wp2_with fail
  generalize W8.alloc (.cells #[.slice none 0 0, .slice none 0 0, .slice none 0 0, .int .i64 0] 26) = W9 at *
  have hnil : ∀ m, Slc W9 m (.slice none 0 0) 0 [] := fun m => ⟨by simp, .inl ⟨rfl, _, _, rfl⟩⟩
  refine (make_any (.slice none 0 0) (.slice none 0 0) (.slice none 0 0) [] [] [] (by decide) (by decide) (fun _ h => by cases h) (by decide) (by decide) (fun _ h => by cases h) W9 (hnil 1) (hnil 1) ⟨[], rfl, hnil 1, fun k hk => by cases hk⟩).mono ?_
  rintro e WD ⟨⟨vnD, vwD, vcD, heD, hwavD, hcapD⟩, hbD⟩
  rw [show makeW [] [] [] = (1, zeroW) from rfl] at heD hwavD hcapD
  obtain ⟨pnD, cnD, hvnD⟩ := Slc.form hwavD.1
  obtain ⟨pwD, cwD, hvwD⟩ := Slc.form hwavD.2.1
  obtain ⟨pcD, ccD, hvcD, _⟩ := hcapD
  subst hvnD hvwD hvcD
  replace heD : e = .returned (.tuple #[.agg #[.slice pnD 0 cnD, .slice pwD 0 cwD, .slice pcD 0 ccD, .int .i64 0], .int .i64 1]) := heD
  subst heD
  have HCD := Lib.hid (HC9.out.trans (hbD.mono HC9.out.size))
  have HRD := Lib.hid (HR9.out.later hbD)
  have hbA := (Below.refl WD.heap.size WD).alloc (Nat.le_refl _) (.cells #[.slice pnD 0 cnD, .slice pwD 0 cwD, .slice pcD 0 ccD, .int .i64 0] 26)
  have HCE := Lib.hid (HCD.out.trans (hbA.mono HCD.out.size))
  have HRE := Lib.hid (HRD.out.later hbA)
  obtain ⟨a0, a1, a2, a3, _, _, _, _, lta⟩ := HB3.out.later HCE.out
  obtain ⟨br, or, rfl, hlr, hcr⟩ := Rws.at HRE.out (by decide)
  obtain ⟨q2, d2, x2, hu2⟩ := hcr 2 (by decide)
  obtain ⟨bk, ok, hpk, hlk, hck⟩ := Slc.at hu2 (by decide)
  have xv := hck 1 (by decide)
  replace xv : (WD.alloc (.cells #[.slice pnD 0 cnD, .slice pwD 0 cwD, .slice pcD 0 ccD, .int .i64 0] 26)).cell? ⟨bk, ok + 1, none⟩ = some (.int .u64 1) := xv
  replace x2 : (WD.alloc (.cells #[.slice pnD 0 cnD, .slice pwD 0 cwD, .slice pcD 0 ccD, .int .i64 0] 26)).cell? ⟨br, or + 2, none⟩ = some (.slice q2 2 d2) := x2
  subst hpk
  have hconv := str_run (HBy.out.later HCE.out)
  have heq : ((bs exB).toList == [118, 97, 114, 32, 50, 32, 97, 10, 118, 97, 114, 32, 49, 32, 98, 10, 35, 48, 10, 98, 48, 49, 32, 48, 10, 98, 48, 32, 49, 10, 35, 49, 10, 98, 49, 32, 49, 10, 35, 50, 10]) = true := by rw [toL]; decide
  clear hbA hbD hwavD hcr hck hlk hlr hu2 HC8 HR8 HC9 HR9 HRD hnil
  have HCk := Lib.hid (fun w h => check_any (.slice pn 2 cn) (.slice pw 2 cw) (.slice pc 3 cc) exW ex_small ex_fits w (HV3.out.later h))
  have hnl : ∀ w m, Slc w m (.slice none 0 0) 0 [] := fun w m => ⟨by simp, .inl ⟨rfl, _, _, rfl⟩⟩
  have hse : Small emptyW := ⟨by decide, by decide, by decide, fun _ h => by cases h⟩
  have hfe : Fits emptyW := ⟨(fun _ h => by cases h), (fun _ h => by cases h)⟩
  have HCk2 := Lib.hid (fun w => check_any (.slice none 0 0) (.slice none 0 0) (.slice none 0 0) emptyW hse hfe w ⟨hnl w 1, hnl w 1, hnl w 3⟩)
  clear hnl hse hfe
  go_wp2_with fail
  refine (HCk.out _ HCE.out).mono ?_
  rintro e WF ⟨rfl, hbF⟩
  rw [ex_check]
  have HCF := Lib.hid (HCE.out.trans (hbF.mono HCE.out.size))
  clear hbF
  go_wp2_with fail
  refine (HCk2.out _).mono ?_
  rintro e WG ⟨rfl, hbG⟩
  rw [ex_none]
  have HCG := Lib.hid (HCF.out.trans (hbG.mono HCF.out.size))
  clear hbG
  go_wp2
  go_ret
  exact ⟨rfl, HW3.out.trans (HCG.out.mono HW3.out.size)⟩
end Go.Proofs.YtephnfhjobkciaaGreatDoor
