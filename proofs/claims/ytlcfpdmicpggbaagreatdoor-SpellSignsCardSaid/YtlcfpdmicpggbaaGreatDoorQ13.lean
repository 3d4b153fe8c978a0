/- Texts of the seat, merged. -/
import Derived.Test.YtlcfpdmicpggbaaGreatDoorQ10
import Derived.Test.YtlcfpdmicpggbaaGreatDoorQ12
set_option linter.unusedVariables false
set_option linter.unusedSimpArgs false
set_option maxRecDepth 100000
set_option maxHeartbeats 16000000
namespace Go.Proofs.YtlcfpdmicpggbaaGreatDoor
open Go.RowKit Go.Proofs.Spl Go.Proofs.Scn Go.Shelf Go.Stage
theorem goodI_out (op : Int) (hop : op < 1 ∨ 11 ≤ op) (name fo : Ln) (vx vs vl ve vp vb : Value) (W : World) :
  Calls Tryz.prog 163 #[.agg #[.int .i64 op, .string (bs name), .string (bs fo), vx, vs, vl, ve, vp, vb]] W fun e W' => e = .returned (.bool false) ∧ Below W.heap.size W W' := by
 by_cases h1 : op < 1
 ·have hd : decide (op < 1) = true := by simpa using h1
  go_enter Tryz.func163, Tryz.ntmps163
  go_wp2
  go_ret
  exact ⟨rfl, (Below.refl _ _).alloc (Nat.le_refl _) _⟩
 ·have h2 : 11 ≤ op := by omega
  have hd : decide (op < 1) = false := by simpa using h1
  have hd2 : decide (11 ≤ op) = true := by simpa using h2
  go_enter Tryz.func163, Tryz.ntmps163
  go_wp2
  go_ret
  exact ⟨rfl, (Below.refl _ _).alloc (Nat.le_refl _) _⟩
structure Two (W V : World) (A B : List Value) : Prop where
 below : Below W.heap.size W V
 size : W.heap.size + 2 ≤ V.heap.size
 fst : V.heap[W.heap.size]? = some (.cells A.toArray 133 (0, 0))
 snd : V.heap[W.heap.size + 1]? = some (.cells B.toArray 215 (0, 0))
theorem Two.later {W V V' : World} {A B : List Value} (h : Two W V A B) (hb : Below V.heap.size V V') : Two W V' A B := by
 have hs := h.size
 have hb' := hb.size
 exact ⟨h.below.trans (hb.mono h.below.size), by omega, (hb.block _ (by omega)).trans h.fst, (hb.block _ (by omega)).trans h.snd⟩
theorem Two.new (W : World) (A B : List Value) : Two W ((W.alloc (.cells A.toArray 133)).alloc (.cells B.toArray 215)) A B := by
 refine ⟨((Below.refl _ _).alloc (Nat.le_refl _) _).alloc (by simp) _, by simp, (Below.heap_alloc _ _ _ (by simp)).trans (World.alloc_heap_new W _), ?_⟩
 have := World.alloc_heap_new (W.alloc (.cells A.toArray 133)) (.cells B.toArray 215)
 rwa [World.size_alloc] at this
theorem Two.cells {W V : World} {v0 v1 v2 v3 v4 v5 v6 v7 v8 u0 u1 u2 u3 u4 u5 u6 : Value} (h : Two W V [v0, v1, v2, v3, v4, v5, v6, v7, v8] [u0, u1, u2, u3, u4, u5, u6]) :
  (V.cell? ⟨W.heap.size, 0, none⟩ = some v0 ∧ V.cell? ⟨W.heap.size, 1, none⟩ = some v1 ∧ V.cell? ⟨W.heap.size, 2, none⟩ = some v2 ∧ V.cell? ⟨W.heap.size, 3, none⟩ = some v3 ∧ V.cell? ⟨W.heap.size, 4, none⟩ = some v4 ∧ V.cell? ⟨W.heap.size, 5, none⟩ = some v5 ∧ V.cell? ⟨W.heap.size, 6, none⟩ = some v6 ∧ V.cell? ⟨W.heap.size, 7, none⟩ = some v7 ∧ V.cell? ⟨W.heap.size, 8, none⟩ = some v8) ∧
  V.cell? ⟨W.heap.size + 1, 0, none⟩ = some u0 ∧ V.cell? ⟨W.heap.size + 1, 1, none⟩ = some u1 ∧ V.cell? ⟨W.heap.size + 1, 2, none⟩ = some u2 ∧ V.cell? ⟨W.heap.size + 1, 3, none⟩ = some u3 ∧ V.cell? ⟨W.heap.size + 1, 4, none⟩ = some u4 ∧ V.cell? ⟨W.heap.size + 1, 5, none⟩ = some u5 ∧ V.cell? ⟨W.heap.size + 1, 6, none⟩ = some u6 := by
 have a := h.fst
 have b := h.snd
 refine ⟨⟨?_, ?_, ?_, ?_, ?_, ?_, ?_, ?_, ?_⟩, ?_, ?_, ?_, ?_, ?_, ?_, ?_⟩ <;> simp [World.cell?, a, b]
abbrev RetB (f : FuncId) (args : Array Value) (W : World) (b : Bool) : Prop := Calls Tryz.prog f args W fun e W' => e = .returned (.bool b) ∧ Below W.heap.size W W'
theorem goodI_walk (k : Nat) (h1 : 1 ≤ k) (h2 : k ≤ 10) (name fo : Ln) (px ps pl pe pp pb : Option Addr) (m3 c3 m4 c4 m5 c5 m6 c6 m7 c7 m8 c8 : Nat) (W : World) (hB : BaseA W) (f1 f2 ft bx bs' bl be bp bb R : Bool)
  (hN : ∀ W9, Below W.heap.size W W9 → RetB 205 #[.string (bs name), .bool (sName k)] W9 f1)
  (hF : ∀ W9, Below W.heap.size W W9 → RetB 205 #[.string (bs fo), .bool (sOf k)] W9 f2)
  (hm78 : m7 + m8 ≤ 1000000000) (hq2 : k = 4 → sX k = 2) (hT : k = 4 → m3 = 2 → ∃ q off t0 t1 t2 t3 t4 t5, px = some ⟨q, off, none⟩ ∧ q < W.heap.size ∧ (W.cell? ⟨q, off, none⟩ = some (.int .i64 t0) ∧ W.cell? ⟨q, off + 1, none⟩ = some (.string t1) ∧ W.cell? ⟨q, off + 2, none⟩ = some (.int .i64 t2) ∧ W.cell? ⟨q, off + 3, none⟩ = some (.int .i64 t3) ∧ W.cell? ⟨q, off + 4, none⟩ = some (.int .u64 t4) ∧ W.cell? ⟨q, off + 5, none⟩ = some t5) ∧
   ∀ W9, Below W.heap.size W W9 → RetB 74 #[.agg #[.int .i64 t0, .string t1, .int .i64 t2, .int .i64 t3, .int .u64 t4, t5]] W9 ft)
  (hX : ∀ W9, Below W.heap.size W W9 → RetB 133 #[.slice px m3 c3, .func (.func 68) #[] #[]] W9 bx)
  (hS : ∀ W9, Below W.heap.size W W9 → RetB 182 #[.slice ps m4 c4, .func (.func 118) #[] #[]] W9 bs')
  (hL : ∀ W9, Below W.heap.size W W9 → RetB 162 #[.slice pl m5 c5, .func (.func 163) #[] #[]] W9 bl)
  (hE : ∀ W9, Below W.heap.size W W9 → RetB 162 #[.slice pe m6 c6, .func (.func 163) #[] #[]] W9 be)
  (hP : ∀ W9, Below W.heap.size W W9 → RetB 159 #[.slice pp m7 c7, .func (.func 160) #[] #[]] W9 bp)
  (hQ : ∀ W9, Below W.heap.size W W9 → RetB 159 #[.slice pb m8 c8, .func (.func 160) #[] #[]] W9 bb)
  (hR : R = (f1 && (f2 && (decide (m3 = sX k) && ((k != 4 || ft) && ((sS k || m4 == 0) && ((sL k || m5 == 0) && ((sEls k || m6 == 0) && ((sBind k || m7 + m8 == 0) && (bx && (bs' && (bl && (be && (bp && bb)))))))))))))) :
  RetB 163 #[.agg #[.int .i64 k, .string (bs name), .string (bs fo), .slice px m3 c3, .slice ps m4 c4, .slice pl m5 c5, .slice pe m6 c6, .slice pp m7 c7, .slice pb m8 c8]] W R := by
 have i1 : ¬ ((k : Int) < 1) := by omega
 have i2 : ¬ (11 ≤ (k : Int)) := by omega
 have i1d : decide ((k : Int) < 1) = false := by simpa using i1
 have i2d : decide (11 ≤ (k : Int)) = false := by simpa using i2
 have i3 : k < 11 := by omega
 have i4 : (k : Int) < 11 := by omega
 obtain ⟨z0, z1, z2, z3, z4, z5, z6⟩ := (hB.alloc (.cells #[.int .i64 k, .string (bs name), .string (bs fo), .slice px m3 c3, .slice ps m4 c4, .slice pl m5 c5, .slice pe m6 c6, .slice pp m7 c7, .slice pb m8 c8] 133)).shapes k i3
 have T1 := Lib.hid (Two.new W [.int .i64 k, .string (bs name), .string (bs fo), .slice px m3 c3, .slice ps m4 c4, .slice pl m5 c5, .slice pe m6 c6, .slice pp m7 c7, .slice pb m8 c8] [.bool (sName k), .bool (sOf k), .int .i64 (sX k : Nat), .bool (sS k), .bool (sL k), .bool (sEls k), .bool (sBind k)])
 generalize sName k = q0 at *
 generalize sOf k = q1 at *
 generalize sX k = q2 at *
 generalize sS k = q3 at *
 generalize sL k = q4 at *
 generalize sEls k = q5 at *
 generalize sBind k = q6 at *
 have HQ2 := Lib.hid hq2
 have HN := Lib.hid hN
 have HF := Lib.hid hF
 have HT := Lib.hid hT
 have HX := Lib.hid hX
 have HS := Lib.hid hS
 have HL := Lib.hid hL
 have HE := Lib.hid hE
 have HP := Lib.hid hP
 have HQ := Lib.hid hQ
 have HR := Lib.hid hR
 clear hq2 hN hF hT hX hS hL hE hP hQ hR hB
 obtain ⟨K, hK⟩ : ∃ K : Prop → World → Prop, K = fun r V => r ∧ Two W V [.int .i64 k, .string (bs name), .string (bs fo), .slice px m3 c3, .slice ps m4 c4, .slice pl m5 c5, .slice pe m6 c6, .slice pp m7 c7, .slice pb m8 c8] [.bool q0, .bool q1, .int .i64 (q2 : Nat), .bool q3, .bool q4, .bool q5, .bool q6] := ⟨_, rfl⟩
 have HK := Lib.hid (show ∀ r V, K r V ↔ r ∧ Two W V [.int .i64 k, .string (bs name), .string (bs fo), .slice px m3 c3, .slice ps m4 c4, .slice pl m5 c5, .slice pe m6 c6, .slice pp m7 c7, .slice pb m8 c8] [.bool q0, .bool q1, .int .i64 (q2 : Nat), .bool q3, .bool q4, .bool q5, .bool q6] from fun r V => by rw [hK])
 clear hK
 have hmw : wrap64 ((m7 : Int) + (m8 : Int)) = (m7 : Int) + (m8 : Int) := Go.IntWalk.wrap64_in _ (by omega)
 go_enter Tryz.func163, Tryz.ntmps163
 refine wp_pre4 (Mid 125 [(1, .pointer (some ⟨W.heap.size, 0, none⟩)), (3, .pointer (some ⟨W.heap.size + 1, 0, none⟩))] (K (R = ((q3 || m4 == 0) && ((q4 || m5 == 0) && ((q5 || m6 == 0) && ((q6 || m7 + m8 == 0) && (bx && (bs' && (bl && (be && (bp && bb)))))))))))) ?_ ?_
 ·by_cases hx : m3 = q2
  case neg =>
   have hxd : ¬ ((m3 : Int) = ((q2 : Nat) : Int)) := by omega
   have hxb : ((m3 : Int) != ((q2 : Nat) : Int)) = true := by simpa using hxd
   have HG := Lib.hid (show R = false by rw [HR.out, decide_eq_false hx]; simp)
   clear hx
   go_wp2_with (first
    | (go_at_call 205; refine (HN.out _ T1.out.below).mono ?_; rintro e W2 ⟨rfl, hb⟩; have T2 := Lib.hid (T1.out.later hb); obtain ⟨⟨k0, k1, k2, k3, k4, k5, k6, k7, k8⟩, l0, l1, l2, l3, l4, l5, l6⟩ := T2.out.cells; clear hb HN; cases f1)
    | (go_at_call 205; refine (HF.out _ T2.out.below).mono ?_; rintro e W3 ⟨rfl, hb⟩; have T3 := Lib.hid (T2.out.later hb); obtain ⟨⟨k0, k1, k2, k3, k4, k5, k6, k7, k8⟩, l0, l1, l2, l3, l4, l5, l6⟩ := T3.out.cells; clear hb HF; cases f2))
   all_goals (go_ret; exact ⟨ret_bool (by first | exact HG.out.symm | (rw [HR.out]; rfl)), by first | exact T3.out.below | exact T2.out.below⟩)
  case pos =>
  have hxd : ((m3 : Int) = ((q2 : Nat) : Int)) := by omega
  have hxb : ((m3 : Int) != ((q2 : Nat) : Int)) = false := by simpa using hxd
  have HG := Lib.hid (show R = (f1 && (f2 && ((k != 4 || ft) && ((q3 || m4 == 0) && ((q4 || m5 == 0) && ((q5 || m6 == 0) && ((q6 || m7 + m8 == 0) && (bx && (bs' && (bl && (be && (bp && bb))))))))))))  by rw [HR.out, decide_eq_true hx]; simp)
  have HX2 := Lib.hid hx
  clear hx
  by_cases h4 : k = 4
  case pos =>
   have j4 : (k : Int) = 4 := by omega
   have j4d : decide ((k : Int) = 4) = true := by simpa using j4
   have j4b : ((k : Int) == 4) = true := by simpa using j4
   obtain ⟨q, off, t0, t1, t2, t3, t4, t5, rfl, hq, ⟨x0, x1, x2, x3, x4, x5⟩, hTC⟩ := HT.out h4 (by rw [HX2.out]; exact HQ2.out h4)
   have HTC := Lib.hid hTC
   clear hTC HT
   have hq3 : 0 < q2 := by have := HQ2.out h4; omega
   have H4 := Lib.hid h4
   clear h4 j4
   go_wp2_with (first
    | (go_at_call 205; refine (HN.out _ T1.out.below).mono ?_; rintro e W2 ⟨rfl, hb⟩; have T2 := Lib.hid (T1.out.later hb); obtain ⟨⟨k0, k1, k2, k3, k4, k5, k6, k7, k8⟩, l0, l1, l2, l3, l4, l5, l6⟩ := T2.out.cells; clear hb HN; cases f1)
    | (go_at_call 205; refine (HF.out _ T2.out.below).mono ?_; rintro e W3 ⟨rfl, hb⟩; have T3 := Lib.hid (T2.out.later hb); obtain ⟨⟨k0, k1, k2, k3, k4, k5, k6, k7, k8⟩, l0, l1, l2, l3, l4, l5, l6⟩ := T3.out.cells; have w0 := (T3.out.below.cell (p := ⟨q, off, none⟩) hq).trans x0; have w1 := (T3.out.below.cell (p := ⟨q, off + 1, none⟩) hq).trans x1; have w2 := (T3.out.below.cell (p := ⟨q, off + 2, none⟩) hq).trans x2; have w3 := (T3.out.below.cell (p := ⟨q, off + 3, none⟩) hq).trans x3; have w4 := (T3.out.below.cell (p := ⟨q, off + 4, none⟩) hq).trans x4; have w5 := (T3.out.below.cell (p := ⟨q, off + 5, none⟩) hq).trans x5;clear hb HF; cases f2)
    | (go_at_call 74; refine (HTC.out _ T3.out.below).mono ?_; rintro e W4 ⟨rfl, hb⟩; have T4 := Lib.hid (T3.out.later hb); obtain ⟨⟨k0, k1, k2, k3, k4, k5, k6, k7, k8⟩, l0, l1, l2, l3, l4, l5, l6⟩ := T4.out.cells; clear hb HTC; cases ft))
   all_goals first
    | (exact ⟨rfl, rfl, by simp only [List.forall_mem_cons]; exact ⟨rfl, rfl, fun _ h => by cases h⟩, (HK.out _ _).2 ⟨by rw [HG.out]; simp, T4.out⟩⟩)
    | (go_ret; exact ⟨ret_bool (by rw [HG.out, H4.out]; simp), by first | exact T4.out.below | exact T3.out.below | exact T2.out.below⟩)
  case neg =>
   have j4 : ¬ (k : Int) = 4 := by omega
   have j4d : decide ((k : Int) = 4) = false := by simpa using j4
   have j4b : ((k : Int) == 4) = false := by simpa using j4
   go_wp2_with (first
    | (go_at_call 205; refine (HN.out _ T1.out.below).mono ?_; rintro e W2 ⟨rfl, hb⟩; have T2 := Lib.hid (T1.out.later hb); obtain ⟨⟨k0, k1, k2, k3, k4, k5, k6, k7, k8⟩, l0, l1, l2, l3, l4, l5, l6⟩ := T2.out.cells; clear hb HN; cases f1)
    | (go_at_call 205; refine (HF.out _ T2.out.below).mono ?_; rintro e W3 ⟨rfl, hb⟩; have T3 := Lib.hid (T2.out.later hb); obtain ⟨⟨k0, k1, k2, k3, k4, k5, k6, k7, k8⟩, l0, l1, l2, l3, l4, l5, l6⟩ := T3.out.cells; clear hb HF; cases f2))
   all_goals first
    | (exact ⟨rfl, rfl, by simp only [List.forall_mem_cons]; exact ⟨rfl, rfl, fun _ h => by cases h⟩, (HK.out _ _).2 ⟨by rw [HG.out]; simp [h4], T3.out⟩⟩)
    | (go_ret; exact ⟨ret_bool (by rw [HG.out]; simp), by first | exact T3.out.below | exact T2.out.below⟩)
 clear HN HF T1 z0 z1 z2 z3 z4 z5 z6 HT HQ2 HR
 rintro a w hM
 obtain ⟨f, hf, rfl, hK⟩ := hM.lit
 simp only [List.forall_mem_cons] at hf
 obtain ⟨e1, e3, -⟩ := hf
 simp only [litL, Nat.zero_add, Nat.reduceAdd, e1, e3]
 obtain ⟨hG, hT⟩ := (HK.out _ _).1 hK
 have T1 := Lib.hid hT
 have HG := Lib.hid hG
 obtain ⟨⟨k0, k1, k2, k3, k4, k5, k6, k7, k8⟩, l0, l1, l2, l3, l4, l5, l6⟩ := T1.out.cells
 clear hM hK e1 e3 hG hT
 refine wp_pre1 (Mid 125 [(1, .pointer (some ⟨W.heap.size, 0, none⟩))] (K (R = (bx && (bs' && (bl && (be && (bp && bb)))))))) ?_ ?_
 ·go_wp2_with fail
  all_goals clear k0 k1 k2 k3 k4 k5 k6 k7 k8 l0 l1 l2 l3 l4 l5 l6
  all_goals first
   | (exact ⟨rfl, rfl, by simp only [List.forall_mem_cons]; exact ⟨rfl, fun _ h => by cases h⟩, (HK.out _ _).2 ⟨by rw [HG.out, show (q3 || m4 == 0) = true by first | (simp [*]; done) | (simp [*]; omega), show (q4 || m5 == 0) = true by first | (simp [*]; done) | (simp [*]; omega), show (q5 || m6 == 0) = true by first | (simp [*]; done) | (simp [*]; omega), show (q6 || m7 + m8 == 0) = true by first | (simp [*]; done) | (simp [*]; omega)]; rfl, T1.out⟩⟩)
   | (go_ret; exact ⟨ret_bool (by rw [HG.out, eq_comm, ← Bool.not_eq_true]; intro hh; simp only [Bool.and_eq_true, Bool.or_eq_true, beq_iff_eq] at hh; obtain ⟨h3, h4, h5, h6, -⟩ := hh; rcases h3 with h3 | h3 <;> rcases h4 with h4 | h4 <;> rcases h5 with h5 | h5 <;> rcases h6 with h6 | h6 <;> first | contradiction | omega), T1.out.below⟩)
 ·clear HG k0 k1 k2 k3 k4 k5 k6 k7 k8 l0 l1 l2 l3 l4 l5 l6 T1
  rintro a w hM
  obtain ⟨f, hf, rfl, hK⟩ := hM.lit
  simp only [List.forall_mem_cons] at hf
  obtain ⟨e1, -⟩ := hf
  simp only [litL, Nat.zero_add, Nat.reduceAdd, e1]
  obtain ⟨hG, hT⟩ := (HK.out _ _).1 hK
  have T1 := Lib.hid hT
  have HG := Lib.hid hG
  obtain ⟨⟨k0, k1, k2, k3, k4, k5, k6, k7, k8⟩, l0, l1, l2, l3, l4, l5, l6⟩ := T1.out.cells
  clear hM hK e1 hG hT
  go_wp2_with (first
   | (go_at_call 133; refine (HX.out _ T1.out.below).mono ?_; rintro e W2 ⟨rfl, hb⟩; have T2 := Lib.hid (T1.out.later hb); obtain ⟨⟨k0, k1, k2, k3, k4, k5, k6, k7, k8⟩, l0, l1, l2, l3, l4, l5, l6⟩ := T2.out.cells; clear hb HX; cases bx)
   | (go_at_call 182; refine (HS.out _ T2.out.below).mono ?_; rintro e W3 ⟨rfl, hb⟩; have T3 := Lib.hid (T2.out.later hb); obtain ⟨⟨k0, k1, k2, k3, k4, k5, k6, k7, k8⟩, l0, l1, l2, l3, l4, l5, l6⟩ := T3.out.cells; clear hb HS; cases bs')
   | (go_at_call 162; refine (HL.out _ T3.out.below).mono ?_; rintro e W4 ⟨rfl, hb⟩; have T4 := Lib.hid (T3.out.later hb); obtain ⟨⟨k0, k1, k2, k3, k4, k5, k6, k7, k8⟩, l0, l1, l2, l3, l4, l5, l6⟩ := T4.out.cells; clear hb HL; cases bl)
   | (go_at_call 162; refine (HE.out _ T4.out.below).mono ?_; rintro e W5 ⟨rfl, hb⟩; have T5 := Lib.hid (T4.out.later hb); obtain ⟨⟨k0, k1, k2, k3, k4, k5, k6, k7, k8⟩, l0, l1, l2, l3, l4, l5, l6⟩ := T5.out.cells; clear hb HE; cases be)
   | (go_at_call 159; refine (HP.out _ T5.out.below).mono ?_; rintro e W6 ⟨rfl, hb⟩; have T6 := Lib.hid (T5.out.later hb); obtain ⟨⟨k0, k1, k2, k3, k4, k5, k6, k7, k8⟩, l0, l1, l2, l3, l4, l5, l6⟩ := T6.out.cells; clear hb HP; cases bp)
   | (go_at_call 159; refine (HQ.out _ T6.out.below).mono ?_; rintro e W7 ⟨rfl, hb⟩; have T7 := Lib.hid (T6.out.later hb); obtain ⟨⟨k0, k1, k2, k3, k4, k5, k6, k7, k8⟩, l0, l1, l2, l3, l4, l5, l6⟩ := T7.out.cells; clear hb HQ; cases bb))
  all_goals (go_ret; exact ⟨ret_bool (by rw [HG.out]; simp), by first | exact T7.out.below | exact T6.out.below | exact T5.out.below | exact T4.out.below | exact T3.out.below | exact T2.out.below⟩)
end Go.Proofs.YtlcfpdmicpggbaaGreatDoor
namespace Go.Proofs.YtlcfpdmicpggbaaGreatDoor
open Go.RowKit Go.Proofs.Spl Go.Proofs.Scn Go.Shelf
theorem item_law (k : Nat) (h1 : 1 ≤ k) (h2 : k ≤ 10) (name f : Ln) (x : List X) (s : List S) (l e : List It) (ps bb : List Bd) :
  okI (.mk k name f x s l e ps bb) = ((if sName k then isName name else name.isEmpty) && ((if sOf k then isName f else f.isEmpty) && (decide (x.length = sX k) && ((k != 4 || targetX x) && ((sS k || s.length == 0) && ((sL k || l.length == 0) && ((sEls k || e.length == 0) && ((sBind k || ps.length + bb.length == 0) && (x.all okX && (s.all okS && (l.all okI && (e.all okI && (ps.all okB && bb.all okB))))))))))))) := by
 have z : ∀ {α : Type} (l : List α), (l.length == 0) = l.isEmpty := fun l => by cases l <;> rfl
 have z2 : (ps.length + bb.length == 0) = (ps.isEmpty && bb.isEmpty) := by cases ps <;> cases bb <;> simp
 rw [okI_iff, z, z, z, z2, okSs_all]
 simp only [It.op, It.name, It.of, It.x, It.s, It.l, It.e, It.ps, It.bs]
 have hk : k = 1 ∨ k = 2 ∨ k = 3 ∨ k = 4 ∨ k = 5 ∨ k = 6 ∨ k = 7 ∨ k = 8 ∨ k = 9 ∨ k = 10 := by omega
 rcases hk with e | e | e | e | e | e | e | e | e | e <;> subst e <;> rw [Bool.eq_iff_iff] <;> simp [okIt, nameI, ofI, countI, sName, sOf, sX, sS, sL, sEls, sBind] <;> grind
theorem goodI_ok : ∀ t : It, smI t = true → sizeI t ≤ 65536 → GoodI t := by
 refine It.ind ?_
 intro t ihl ihe hsm hsz W cs hB hR
 obtain ⟨op, name, f, x, s, l, el, ps, bb⟩ := t
 obtain ⟨xs, ss, ls, es, vp, vb, rfl, hX, hS, hP, hQ, hL, hE⟩ := IR_iff.1 hR
 simp only [It.op, It.name, It.of, It.x, It.s, It.l, It.e, It.ps, It.bs] at ihl ihe hX hS hP hQ hL hE ⊢
 rw [sizeI_eq2] at hsz
 rw [smI_iff] at hsm
 simp only [It.op, It.name, It.of, It.x, It.s, It.l, It.e, It.ps, It.bs, Bool.and_eq_true, decide_eq_true_eq, List.all_eq_true] at hsm hsz
 obtain ⟨⟨⟨⟨⟨⟨⟨hn, hf⟩, sx⟩, sS⟩, sl⟩, se⟩, sp⟩, sb⟩ := hsm
 have lx := sumN_len sizeX one_sizeX x
 have lS := sumN_len sizeS one_sizeS s
 have ll := sumN_len sizeI one_sizeI l
 have le := sumN_len sizeI one_sizeI el
 have lp := sumN_len sizeB one_sB ps
 have lb := sumN_len sizeB one_sB bb
 have gX : ∀ y ∈ x, GoodX y := fun y hy => goodX_ok y (sx y hy) (by have := sumN_mem sizeX hy; omega)
 have gS : ∀ y ∈ s, GoodS y := fun y hy => goodS_ok y (sS y hy) (by have := sumN_mem sizeS hy; omega)
 have gL : ∀ y ∈ l, GoodI y := fun y hy => ihl y hy (sl y hy) (by have := sumN_mem sizeI hy; omega)
 have gE : ∀ y ∈ el, GoodI y := fun y hy => ihe y hy (se y hy) (by have := sumN_mem sizeI hy; omega)
 have gP : ∀ y ∈ ps, GoodB y := fun y hy => goodB_ok y (sp y hy) (by have := sumN_mem sizeB hy; omega)
 have gQ : ∀ y ∈ bb, GoodB y := fun y hy => goodB_ok y (sb y hy) (by have := sumN_mem sizeB hy; omega)
 have cX := fun (W9 : World) (h : Below W.heap.size W W9) => allX_any xs x (by omega) W9 (hB.later h) (XsR.later hX h) gX
 have cS := fun (W9 : World) (h : Below W.heap.size W W9) => allS_any ss s (by omega) W9 (hB.later h) (SsR.later hS h) gS
 have cL := fun (W9 : World) (h : Below W.heap.size W W9) => allI_any ls l (by omega) W9 (hB.later h) (IsR.later hL h) gL
 have cE := fun (W9 : World) (h : Below W.heap.size W W9) => allI_any es el (by omega) W9 (hB.later h) (IsR.later hE h) gE
 have cP := fun (W9 : World) (h : Below W.heap.size W W9) => allB_any vp ps (by omega) W9 (hB.later h) (BsR.later hP h) gP
 have cQ := fun (W9 : World) (h : Below W.heap.size W W9) => allB_any vb bb (by omega) W9 (hB.later h) (BsR.later hQ h) gQ
 obtain ⟨px, cx, rfl, hcx, hX2⟩ := hX
 obtain ⟨pS, cS', rfl, hcS, hS2⟩ := hS
 obtain ⟨pl, cl, rfl, _⟩ := hL
 obtain ⟨pe, ce, rfl, _⟩ := hE
 obtain ⟨pp, cp, rfl, _⟩ := hP
 obtain ⟨pb, cb, rfl, _⟩ := hQ
 by_cases ho : op < 1 ∨ 11 ≤ op
 ·have hno : okI (.mk op name f x s l el ps bb) = false := by
   have : okIt op name f x s l el ps bb = false := by
    unfold okIt
    rcases ho with h | h
    ·rw [decide_eq_false (show ¬ (1 : Int) ≤ op by omega)]; simp only [Bool.false_and]
    ·rw [decide_eq_false (show ¬ op ≤ (10 : Int) by omega)]; simp only [Bool.and_false, Bool.false_and]
   rw [okI_iff]
   simp only [It.op, It.name, It.of, It.x, It.s, It.l, It.e, It.ps, It.bs, this, Bool.false_and]
  rw [hno]
  exact goodI_out op ho name f _ _ _ _ _ _ W
 obtain ⟨k, rfl⟩ : ∃ k : Nat, op = k := ⟨op.toNat, by omega⟩
 have hT : k = 4 → x.length = 2 → ∃ q off t0 t1 t2 t3 t4 t5, px = some ⟨q, off, none⟩ ∧ q < W.heap.size ∧ (W.cell? ⟨q, off, none⟩ = some (.int .i64 t0) ∧ W.cell? ⟨q, off + 1, none⟩ = some (.string t1) ∧ W.cell? ⟨q, off + 2, none⟩ = some (.int .i64 t2) ∧ W.cell? ⟨q, off + 3, none⟩ = some (.int .i64 t3) ∧ W.cell? ⟨q, off + 4, none⟩ = some (.int .u64 t4) ∧ W.cell? ⟨q, off + 5, none⟩ = some t5) ∧
   ∀ W9, Below W.heap.size W W9 → RetB 74 #[.agg #[.int .i64 t0, .string t1, .int .i64 t2, .int .i64 t3, .int .u64 t4, t5]] W9 (targetX x) := by
  intro _ hx2
  have hX : XsR W (.slice px x.length cx) x := ⟨px, cx, rfl, hcx, hX2⟩
  match x, hx2, hX with
  | [a, b], _, hX =>
   obtain ⟨q, off, lv, rfl, hq, hc⟩ := els2X hX
   exact ⟨q, off, _, _, _, _, _, _, rfl, hq, hc, fun W9 _ => target_any a.op [] a.name a.n a.w a.v lv W9⟩
 exact goodI_walk k (by omega) (by omega) name f px pS pl pe pp pb x.length cx s.length cS' l.length cl el.length ce ps.length cp bb.length cb W hB _ _ _ _ _ _ _ _ _ _
  (fun W9 h => afits_any name (sName k) (of_decide_eq_true hn) W9 (hB.later h).base) (fun W9 h => afits_any f (sOf k) (of_decide_eq_true hf) W9 (hB.later h).base) (by omega) (fun h => by rw [h]; rfl) hT cX cS cL cE cP cQ (item_law k (by omega) (by omega) name f x s l el ps bb)
theorem goodM_ok (m : Md) (hsm : smM m = true) (hsz : sizeM m ≤ 65536) : GoodM m := by
 intro W cs hB hR
 obtain ⟨vp, vt, vi, rfl, hP, hT, hL⟩ := hR
 unfold smM at hsm
 unfold sizeM at hsz
 rw [sizeIs_sum] at hsz
 simp only [Bool.and_eq_true, decide_eq_true_eq, List.all_eq_true] at hsm
 obtain ⟨⟨⟨hn, sp⟩, st⟩, sl⟩ := hsm
 have ll := sumN_len sizeI one_sizeI m.l
 have lp := sumN_len sizeB one_sB m.ps
 have lt := sumN_len sizeP one_sP m.pts
 have HN := Lib.hid (fun (W9 : World) (h : Below W.heap.size W W9) => aname_any m.name hn W9 (hB.later h).base)
 have HP := Lib.hid (fun (W9 : World) (h : Below W.heap.size W W9) => allB_any vp m.ps (by omega) W9 (hB.later h) (BsR.later hP h) (fun y hy => goodB_ok y (sp y hy) (by have := sumN_mem sizeB hy; omega)))
 have HT := Lib.hid (fun (W9 : World) (h : Below W.heap.size W W9) => allP_any vt m.pts (by omega) W9 (hB.later h) (PsR.later hT h) (fun y hy => goodP_ok y (st y hy) (by have := sumN_mem sizeP hy; omega)))
 have HL := Lib.hid (fun (W9 : World) (h : Below W.heap.size W W9) => allI_any vi m.l (by omega) W9 (hB.later h) (IsR.later hL h) (fun y hy => goodI_ok y (sl y hy) (by have := sumN_mem sizeI hy; omega)))
 have HR := Lib.hid (show okM m = (isName m.name && m.ps.all okB && m.pts.all okP && m.l.all okI) by unfold okM; rw [okIs_all])
 obtain ⟨pp, cp, rfl, _⟩ := hP
 obtain ⟨pt, ct, rfl, _⟩ := hT
 obtain ⟨pl, cl, rfl, _⟩ := hL
 clear hB ll lp lt sl st sp hn hsz
 generalize okM m = r at *
 generalize isName m.name = r0 at *
 generalize m.ps.all okB = r1 at *
 generalize m.pts.all okP = r2 at *
 generalize m.l.all okI = r3 at *
 go_enter Tryz.func88, Tryz.ntmps88
 go_wp2_with (first
  | (go_at_call 158; refine (HN.out _ ((Below.refl _ _).alloc (Nat.le_refl _) _)).mono ?_; rintro e W2 ⟨rfl, hb⟩; have hc := (hb.block W.heap.size (by simp)).trans (World.alloc_heap_new W _); obtain ⟨k0, k1, k2, k3⟩ := cells4 hc; have C2 := Lib.hid (((Below.refl _ _).alloc (Nat.le_refl _) _).trans (hb.mono (by simp))); have D2 := Lib.hid hc; have E2 := Lib.hid (Nat.lt_of_lt_of_le (show W.heap.size < (W.alloc _).heap.size by simp) hb.size); clear hc hb HN; cases r0)
  | (go_at_call 159; refine (HP.out _ C2.out).mono ?_; rintro e W3 ⟨rfl, hb⟩; have hc := (hb.block W.heap.size E2.out).trans D2.out; obtain ⟨k0, k1, k2, k3⟩ := cells4 hc; have C3 := Lib.hid (C2.out.trans (hb.mono C2.out.size)); have D3 := Lib.hid hc; have E3 := Lib.hid (Nat.lt_of_lt_of_le E2.out hb.size); clear hc hb HP; cases r1)
  | (go_at_call 161; refine (HT.out _ C3.out).mono ?_; rintro e W4 ⟨rfl, hb⟩; have hc := (hb.block W.heap.size E3.out).trans D3.out; obtain ⟨k0, k1, k2, k3⟩ := cells4 hc; have C4 := Lib.hid (C3.out.trans (hb.mono C3.out.size)); clear hc hb HT; cases r2)
  | (go_at_call 162; refine (HL.out _ C4.out).mono ?_; rintro e W5 ⟨rfl, hb⟩; have C5 := Lib.hid (C4.out.trans (hb.mono C4.out.size)); clear hb HL))
 all_goals (go_ret; exact ⟨ret_bool (by rw [HR.out]; simp), by first | exact C5.out | exact C4.out | exact C3.out | exact C2.out⟩)
end Go.Proofs.YtlcfpdmicpggbaaGreatDoor
namespace Go.Proofs.YtlcfpdmicpggbaaGreatDoor
open Go.RowKit Go.Proofs.Spl Go.Proofs.Scn Go.Shelf
abbrev RetE (f : FuncId) (args : Array Value) (W : World) (n : Int) : Prop := Calls Tryz.prog f args W fun e W' => e = .returned (.int .i64 n) ∧ Below W.heap.size W W'
theorem cells6 {W : World} {b : Nat} {v0 v1 v2 v3 v4 v5 : Value} {T : TypeId} (h : W.heap[b]? = some (.cells #[v0, v1, v2, v3, v4, v5] T (0, 0))) : W.cell? ⟨b, 0, none⟩ = some v0 ∧ W.cell? ⟨b, 1, none⟩ = some v1 ∧ W.cell? ⟨b, 2, none⟩ = some v2 ∧ W.cell? ⟨b, 3, none⟩ = some v3 ∧ W.cell? ⟨b, 4, none⟩ = some v4 ∧ W.cell? ⟨b, 5, none⟩ = some v5 :=
 ⟨(cell_of_row _ _ _ _ _ _ h).trans rfl, (cell_of_row _ _ _ _ _ _ h).trans rfl, (cell_of_row _ _ _ _ _ _ h).trans rfl, (cell_of_row _ _ _ _ _ _ h).trans rfl, (cell_of_row _ _ _ _ _ _ h).trans rfl, (cell_of_row _ _ _ _ _ _ h).trans rfl⟩
theorem atold_any (a d : Nat) (ok : Bool) (g : FuncId) (p : Option Addr) (W : World) (eg : ∀ args w, (callFunc g args).run Tryz.prog w = .ok (.enter g args) w) (hG : ∀ W9, Below W.heap.size W W9 → RetB g #[.pointer p] W9 ok) (ha : a ≤ 1000000000) (hd : d ≤ 1000000000) :
  RetE 65 #[.agg #[.int .i64 a, .int .i64 d], .func (.func g) #[] #[.pointer p]] W (told a d ok) := by
 have HG := Lib.hid hG
 have HR := Lib.hid (show told a d ok = if 65536 < a ∨ 64 < d then 2 else if ok then 0 else 1 from rfl)
 generalize told a d ok = r at *
 clear hG
 cases ok
 all_goals
  go_enter Tryz.func65, Tryz.ntmps65
  go_wp2_with (refine (HG.out _ ((Below.refl _ _).alloc (Nat.le_refl _) _)).mono ?_; rintro e W2 ⟨rfl, hb⟩; have C2 := Lib.hid (((Below.refl _ _).alloc (Nat.le_refl _) _).trans (hb.mono (by simp))); clear hb)
  all_goals (go_ret; refine ⟨?_, by first | exact C2.out | exact (Below.refl _ _).alloc (Nat.le_refl _) _⟩; rw [HR.out]; first | (rw [if_pos (by omega)]; rfl) | (rw [if_neg (by omega)]; rfl))
theorem checkX1_any (x : X) (cs : List Value) (b : Nat) (W : World) (hB : BaseA W) (hR : XR W x cs) (hb : W.heap[b]? = some (.cells cs.toArray 28 (0, 0))) (h1 : smX x = true) (h2 : sizeX x ≤ 65536) : RetB 67 #[.pointer (some ⟨b, 0, none⟩)] W (okX x) := by
 have HG := Lib.hid (goodX_ok x h1 h2 W cs hB hR)
 obtain ⟨hv, ls, rfl, hL⟩ := XR_iff.1 hR
 obtain ⟨p, c, rfl, _⟩ := hL
 obtain ⟨k0, k1, k2, k3, k4, k5⟩ := cells6 hb
 clear hb hR hB
 go_enter Tryz.func67, Tryz.ntmps67
 go_wp2_with (go_at_call 68; refine HG.out.mono ?_; rintro e W2 ⟨rfl, hb⟩; have C2 := Lib.hid hb; clear hb)
 go_ret
 exact ⟨rfl, C2.out⟩
theorem checkX_any (x : X) (cs : List Value) (W : World) (hB : BaseA W) (hR : XR W x cs) (h1 : smX x = true) (h2 : sizeX x ≤ 65536) : RetE 28 #[.agg cs.toArray] W (checkX x) := by
 have hd := deepX_le x
 have HM := Lib.hid (fun (W9 : World) (h : Below W.heap.size W W9) => measX_ok x (by omega) W9 cs (XR.later h _ _ hR))
 have HC := Lib.hid (fun (W9 : World) (h : Below W.heap.size W W9) (hb : W9.heap[W.heap.size]? = some (.cells cs.toArray 28 (0, 0))) (hl : W.heap.size < W9.heap.size) => atold_any (sizeX x) (deepX x) (okX x) 67 (some ⟨W.heap.size, 0, none⟩) W9 (enters_of Tryz.func67 (by kernel_rfl) rfl) (fun W8 h8 => checkX1_any x cs W.heap.size W8 ((hB.later h).later h8) (XR.later h8 _ _ (XR.later h _ _ hR)) ((h8.block _ hl).trans hb) h1 h2) (by omega) (by omega))
 obtain ⟨hv, ls, rfl, hL⟩ := XR_iff.1 hR
 obtain ⟨p, c, rfl, _⟩ := hL
 clear hR hB hd
 go_enter Tryz.func28, Tryz.ntmps28
 go_wp2_with (first
  | (go_at_call 66; refine (HM.out _ ((Below.refl _ _).alloc (Nat.le_refl _) _)).mono ?_; rintro e W2 ⟨rfl, hb⟩; have D2 := Lib.hid ((hb.block W.heap.size (by simp)).trans (World.alloc_heap_new W _)); have C2 := Lib.hid (((Below.refl _ _).alloc (Nat.le_refl _) _).trans (hb.mono (by simp))); have E2 := Lib.hid (Nat.lt_of_lt_of_le (show W.heap.size < (W.alloc _).heap.size by simp) hb.size); clear hb HM)
  | (go_at_call 65; refine (HC.out _ C2.out D2.out E2.out).mono ?_; rintro e W3 ⟨rfl, hb⟩; have C3 := Lib.hid (C2.out.trans (hb.mono C2.out.size)); clear hb))
 go_ret
 exact ⟨rfl, C3.out⟩
theorem checkS1_any (x : S) (cs : List Value) (b : Nat) (W : World) (hB : BaseA W) (hR : SR W x cs) (hb : W.heap[b]? = some (.cells cs.toArray 31 (0, 0))) (h1 : smS x = true) (h2 : sizeS x ≤ 65536) : RetB 117 #[.pointer (some ⟨b, 0, none⟩)] W (okS x) := by
 have HG := Lib.hid (goodS_ok x h1 h2 W cs hB hR)
 obtain ⟨xs, ls, rfl, hX, hL⟩ := SR_iff.1 hR
 obtain ⟨p, c, rfl, _⟩ := hL
 obtain ⟨p', c', rfl, _⟩ := hX
 obtain ⟨k0, k1, k2, k3⟩ := cells4 hb
 clear hb hR hB
 go_enter Tryz.func117, Tryz.ntmps117
 go_wp2_with (go_at_call 118; refine HG.out.mono ?_; rintro e W2 ⟨rfl, hb⟩; have C2 := Lib.hid hb; clear hb)
 go_ret
 exact ⟨rfl, C2.out⟩
theorem checkS_any (x : S) (cs : List Value) (W : World) (hB : BaseA W) (hR : SR W x cs) (h1 : smS x = true) (h2 : sizeS x ≤ 65536) : RetE 59 #[.agg cs.toArray] W (checkS x) := by
 have hd := deepS_le x
 have HM := Lib.hid (fun (W9 : World) (h : Below W.heap.size W W9) => measS_ok x (by omega) W9 cs (SR.later h _ _ hR))
 have HC := Lib.hid (fun (W9 : World) (h : Below W.heap.size W W9) (hb : W9.heap[W.heap.size]? = some (.cells cs.toArray 31 (0, 0))) (hl : W.heap.size < W9.heap.size) => atold_any (sizeS x) (deepS x) (okS x) 117 (some ⟨W.heap.size, 0, none⟩) W9 (enters_of Tryz.func117 (by kernel_rfl) rfl) (fun W8 h8 => checkS1_any x cs W.heap.size W8 ((hB.later h).later h8) (SR.later h8 _ _ (SR.later h _ _ hR)) ((h8.block _ hl).trans hb) h1 h2) (by omega) (by omega))
 obtain ⟨xs, ls, rfl, hX, hL⟩ := SR_iff.1 hR
 obtain ⟨p, c, rfl, _⟩ := hL
 obtain ⟨p', c', rfl, _⟩ := hX
 clear hR hB hd
 go_enter Tryz.func59, Tryz.ntmps59
 go_wp2_with (first
  | (go_at_call 116; refine (HM.out _ ((Below.refl _ _).alloc (Nat.le_refl _) _)).mono ?_; rintro e W2 ⟨rfl, hb⟩; have D2 := Lib.hid ((hb.block W.heap.size (by simp)).trans (World.alloc_heap_new W _)); have C2 := Lib.hid (((Below.refl _ _).alloc (Nat.le_refl _) _).trans (hb.mono (by simp))); have E2 := Lib.hid (Nat.lt_of_lt_of_le (show W.heap.size < (W.alloc _).heap.size by simp) hb.size); clear hb HM)
  | (go_at_call 65; refine (HC.out _ C2.out D2.out E2.out).mono ?_; rintro e W3 ⟨rfl, hb⟩; have C3 := Lib.hid (C2.out.trans (hb.mono C2.out.size)); clear hb))
 go_ret
 exact ⟨rfl, C3.out⟩
theorem check1_any (f : List Md) (p : Option Addr) (c : Nat) (b : Nat) (W : World) (hB : BaseA W) (hR : MsR W (.slice p f.length c) f) (hb : W.heap[b]? = some (.cells #[.slice p f.length c] 24 (0, 0))) (h1 : f.all smM = true) (h2 : sumN sizeM f ≤ 65536) : RetB 86 #[.pointer (some ⟨b, 0, none⟩)] W (f.all okM) := by
 have hl := sumN_len sizeM (fun m => by unfold sizeM; omega) f
 rw [List.all_eq_true] at h1
 have HG := Lib.hid (allM_any _ f (by omega) W hB hR (fun y hy => goodM_ok y (h1 y hy) (by have := sumN_mem sizeM hy; omega)))
 have k0 : W.cell? ⟨b, 0, none⟩ = some (.slice p f.length c) := (cell_of_row _ _ _ _ _ _ hb).trans rfl
 clear hb hR hB hl
 go_enter Tryz.func86, Tryz.ntmps86
 go_wp2_with (go_at_call 87; refine HG.out.mono ?_; rintro e W2 ⟨rfl, hb⟩; have C2 := Lib.hid hb; clear hb)
 go_ret
 exact ⟨rfl, C2.out⟩
theorem checkF_any (f : List Md) (p : Option Addr) (c : Nat) (W : World) (hB : BaseA W) (hR : MsR W (.slice p f.length c) f) (h1 : f.all smM = true) (h2 : sumN sizeM f ≤ 65536) : RetE 45 #[.agg #[.slice p f.length c]] W (checkF f) := by
 have hone : ∀ m : Md, 1 ≤ sizeM m := fun m => by unfold sizeM; omega
 have hl := sumN_len sizeM hone f
 have hd := maxN_le_sumN (l := f) (fun y _ => deepM_le y)
 have HM := Lib.hid (fun (W9 : World) (h : Below W.heap.size W W9) => sumM_any _ f (by omega) hone W9 (MsR.later hR h) (fun y hy => measM_ok y (by have := sumN_mem sizeM hy; omega)))
 have HC := Lib.hid (fun (W9 : World) (h : Below W.heap.size W W9) (hb : W9.heap[W.heap.size]? = some (.cells #[.slice p f.length c] 24 (0, 0))) (hl : W.heap.size < W9.heap.size) => atold_any (sumN sizeM f) (maxN deepM f) (f.all okM) 86 (some ⟨W.heap.size, 0, none⟩) W9 (enters_of Tryz.func86 (by kernel_rfl) rfl) (fun W8 h8 => check1_any f p c W.heap.size W8 ((hB.later h).later h8) (MsR.later (MsR.later hR h) h8) ((h8.block _ hl).trans hb) h1 h2) (by omega) (by omega))
 have HR := Lib.hid (show checkF f = if 64 < f.length then 2 else told (sumN sizeM f) (maxN deepM f) (f.all okM) from rfl)
 generalize checkF f = r at *
 clear hR hB hd h1 h2
 by_cases h64 : 64 < f.length
 ·have hg : (64 : Int) < (f.length : Int) := by omega
  go_enter Tryz.func45, Tryz.ntmps45
  go_wp2
  go_ret
  exact ⟨by rw [HR.out, if_pos h64]; rfl, (Below.refl _ _).alloc (Nat.le_refl _) _⟩
 ·have hg : ¬ (64 : Int) < (f.length : Int) := by omega
  go_enter Tryz.func45, Tryz.ntmps45
  go_wp2_with (first
   | (go_at_call 84; refine (HM.out _ ((Below.refl _ _).alloc (Nat.le_refl _) _)).mono ?_; rintro e W2 ⟨rfl, hb⟩; have D2 := Lib.hid ((hb.block W.heap.size (by simp)).trans (World.alloc_heap_new W _)); have C2 := Lib.hid (((Below.refl _ _).alloc (Nat.le_refl _) _).trans (hb.mono (by simp))); have E2 := Lib.hid (Nat.lt_of_lt_of_le (show W.heap.size < (W.alloc _).heap.size by simp) hb.size); clear hb HM)
   | (go_at_call 65; refine (HC.out _ C2.out D2.out E2.out).mono ?_; rintro e W3 ⟨rfl, hb⟩; have C3 := Lib.hid (C2.out.trans (hb.mono C2.out.size)); clear hb))
  go_ret
  exact ⟨by rw [HR.out, if_neg h64]; rfl, C3.out⟩
end Go.Proofs.YtlcfpdmicpggbaaGreatDoor
namespace Go.Proofs.YtlcfpdmicpggbaaGreatDoor
open Go.RowKit Go.Proofs.Spl Go.Proofs.Scn Go.Shelf Go.Grow
theorem block_any (put : Ln) (v : Value) (l : List S) (hl : l.length ≤ 1000000) (W : World) (lo : Nat) (hlo : lo ≤ W.heap.size) (hR : SsR W v l) (hE : ∀ y ∈ l, StmtOK put y) : Calls Tryz.prog 122 #[.agg #[.string (bs put)], v] W (MkPost lo W (blockT put l)) := by
 have HX := Lib.hid hR
 have HE := Lib.hid hE
 obtain ⟨p, cap, rfl, _⟩ := hR
 clear hE
 have HI := Lib.hid (fun (W9 : World) (f : Value) (h1 : lo ≤ W9.heap.size) (h2 : Seq lo W9 f (l.map (stmtT put)).flatten) => in_any 123 125 f _ W9 lo h1 h2)
 have B1 := Lib.hid ((Below.refl W.heap.size W).alloc (Nat.le_refl _) (.cells #[.string (bs put)] 91))
 go_enter Tryz.func122, Tryz.ntmps122
 go_wp2_with (first
  | (go_at_call 119; refine (eachS_any put _ l hl _ lo (Nat.le_trans hlo B1.out.size) (SsR.later HX.out B1.out) HE.out).mono ?_; rintro e W4 ⟨f, rfl, h1, h2⟩; have B4 := Lib.hid (B1.out.trans (h2.mono B1.out.size)); have S4 := Lib.hid h1; clear h1 h2)
  | (go_at_call 95; refine (HI.out _ _ (Nat.le_trans hlo B4.out.size) S4.out).mono ?_; rintro e W6 ⟨f, rfl, h1, h2⟩; have B6 := Lib.hid (B4.out.trans (h2.mono B4.out.size)); have S6 := Lib.hid h1; clear h1 h2))
 go_ret
 refine ⟨_, rfl, ?_, B6.out⟩
 have ht : blockT put l = inT 123 125 (l.map (stmtT put)).flatten := by simp [blockT, cubT, stmtsT_map]
 rw [ht]
 exact S6.out
theorem arm_some (put name : Ln) (op : Int) (x : List X) (l : List S) (hx : x ≠ []) (hxl : x.length ≤ 1000000) (hll : l.length ≤ 1000000) (hE : ∀ y ∈ x, ExprOK y) (hS : ∀ y ∈ l, StmtOK put y) (px pl : Option Addr) (cx cl : Nat) (W : World) (lo : Nat) (hlo : lo ≤ W.heap.size)
  (hXs0 : XsR W (.slice px x.length cx) x) (hSs0 : SsR W (.slice pl l.length cl) l) :
  Calls Tryz.prog 120 #[.agg #[.string (bs put)], .agg #[.int .i64 op, .string (bs name), .slice px x.length cx, .slice pl l.length cl]] W (MkPost lo W (List.flatten [listT x, [sgT [58]], blockT put l])) := by
 have hd : decide (0 < (x.length : Int)) = true := by
  have := List.length_pos_iff.2 hx
  simp; omega
 have hdn : decide (0 < x.length) = true := by simpa using List.length_pos_iff.2 hx
 clear hx
 go_enter Tryz.func120, Tryz.ntmps120
 go_wp2_with fail
 obtain ⟨hbx0, hbx1, hls, hW1⟩ := two_boxes W (.cells #[.string (bs put)] 91) (.cells #[.int .i64 op, .string (bs name), .slice px x.length cx, .slice pl l.length cl] 31)
 generalize (W.alloc (.cells #[.string (bs put)] 91)).alloc (.cells #[.int .i64 op, .string (bs name), .slice px x.length cx, .slice pl l.length cl] 31) = W1 at *
 have hlo1 : lo ≤ W1.heap.size := by omega
 have hbl0 : W.heap.size < W1.heap.size := by omega
 have y0_0 : W1.cell? ⟨W.heap.size, 0, none⟩ = some (.string (bs put)) := by simp [World.cell?, hbx0]
 have hbl1 : W.heap.size + 1 < W1.heap.size := by omega
 have y1_0 : W1.cell? ⟨W.heap.size + 1, 0, none⟩ = some (.int .i64 op) := by simp [World.cell?, hbx1]
 have y1_1 : W1.cell? ⟨W.heap.size + 1, 1, none⟩ = some (.string (bs name)) := by simp [World.cell?, hbx1]
 have y1_2 : W1.cell? ⟨W.heap.size + 1, 2, none⟩ = some (.slice px x.length cx) := by simp [World.cell?, hbx1]
 have y1_3 : W1.cell? ⟨W.heap.size + 1, 3, none⟩ = some (.slice pl l.length cl) := by simp [World.cell?, hbx1]
 clear hls hbx0 hbx1
 have hXs := XsR.later hXs0 hW1
 have hSs := SsR.later hSs0 hW1
 refine region_grow Grw (spcAt lo [.is (.pointer (some ⟨W.heap.size + 1, 2, none⟩)), .is (.slice px x.length cx), .seq (listT (x)), .seq ([sgT [58]]), .is (.agg #[.string (bs put)]), .is (.pointer (some ⟨W.heap.size + 1, 3, none⟩)), .is (.slice pl l.length cl), .seq (blockT (put) (l)), .seqs [listT (x), [sgT [58]], blockT (put) (l)], .seq (List.flatten [listT (x), [sgT [58]], blockT (put) (l)]), .seq (List.flatten [listT (x), [sgT [58]], blockT (put) (l)])])
  (by kernel_rfl) rfl (by kernel_rfl) (by kernel_rfl) (grw_drawn _) grw_trans (spcAt_grw lo _) ?hops ?hfin
 case hops =>
  refine ⟨?o0, ?o1, ?o2, ?o3, ?o4, ?o5, ?o6, ?o7, ?o8, ?o9, ?o10, trivial⟩
  all_goals (intro ev W' hG hr hD; have hc := hr.const; have hf := hr.func)
  case o0 =>
   have e3 : ev (.tmp 3) = .pointer (some ⟨W.heap.size + 1, 0, none⟩) := hr.tmp 3 (by kernel_rfl)
   exact ok_val (v := .pointer (some ⟨W.heap.size + 1, 2, none⟩)) (by simp [execOp, go_sem, e3]) ⟨Below.refl _ _, rfl⟩
  case o1 =>
   have e9 : ev (.tmp 9) = .pointer (some ⟨W.heap.size + 1, 2, none⟩) := hD 0 9 (by kernel_rfl)
   have m0 := (hG.cell (p := ⟨W.heap.size + 1, 2, none⟩) hbl1).trans y1_2
   exact ok_val (v := .slice px x.length cx) (by simp [execOp, go_sem, e9, m0]) ⟨Below.refl _ _, rfl⟩
  case o2 =>
   have e10 : ev (.tmp 10) = .slice px x.length cx := hD 1 10 (by kernel_rfl)
   refine ok_call (f := 108) (args := #[.slice px x.length cx]) (by simp [execOp, go_sem, hc, hf, e10]) ?_
   have hlo' := Nat.le_trans hlo1 hG.size
   refine (list_any _ (x) hxl W' lo hlo' (XsR.later hXs hG) hE).mono ?_
   rintro e W2 ⟨f, rfl, h1, h2⟩
   refine ⟨f, rfl, h2, ?_⟩
   show Seq lo W2 f (listT (x))
   exact h1
  case o3 =>
   refine ok_call (f := 90) (args := #[.string { data := #[58] }]) (by simp [execOp, go_sem, hc, hf]) ?_
   have hlo' := Nat.le_trans hlo1 hG.size
   refine (ssign_any [58] W' lo hlo').mono ?_
   rintro e W2 ⟨f, rfl, h1, h2⟩
   refine ⟨f, rfl, h2, ?_⟩
   show Seq lo W2 f ([sgT [58]])
   exact h1
  case o4 =>
   have e2 : ev (.tmp 2) = .pointer (some ⟨W.heap.size, 0, none⟩) := hr.tmp 2 (by kernel_rfl)
   have m0 := (hG.cell (p := ⟨W.heap.size, 0, none⟩) hbl0).trans y0_0
   exact ok_val (v := .agg #[.string (bs put)]) (by simp [execOp, go_sem, e2, m0]) ⟨Below.refl _ _, rfl⟩
  case o5 =>
   have e3 : ev (.tmp 3) = .pointer (some ⟨W.heap.size + 1, 0, none⟩) := hr.tmp 3 (by kernel_rfl)
   exact ok_val (v := .pointer (some ⟨W.heap.size + 1, 3, none⟩)) (by simp [execOp, go_sem, e3]) ⟨Below.refl _ _, rfl⟩
  case o6 =>
   have e14 : ev (.tmp 14) = .pointer (some ⟨W.heap.size + 1, 3, none⟩) := hD 5 14 (by kernel_rfl)
   have m0 := (hG.cell (p := ⟨W.heap.size + 1, 3, none⟩) hbl1).trans y1_3
   exact ok_val (v := .slice pl l.length cl) (by simp [execOp, go_sem, e14, m0]) ⟨Below.refl _ _, rfl⟩
  case o7 =>
   have e13 : ev (.tmp 13) = .agg #[.string (bs put)] := hD 4 13 (by kernel_rfl)
   have e15 : ev (.tmp 15) = .slice pl l.length cl := hD 6 15 (by kernel_rfl)
   refine ok_call (f := 122) (args := #[.agg #[.string (bs put)], .slice pl l.length cl]) (by simp [execOp, go_sem, hc, hf, e13, e15]) ?_
   have hlo' := Nat.le_trans hlo1 hG.size
   refine (block_any (put) _ (l) hll W' lo hlo' (SsR.later hSs hG) hS).mono ?_
   rintro e W2 ⟨f, rfl, h1, h2⟩
   refine ⟨f, rfl, h2, ?_⟩
   show Seq lo W2 f (blockT (put) (l))
   exact h1
  case o8 =>
   obtain ⟨g11, l11, e11, s11⟩ := seq_form (show Seq lo W' (ev (.tmp 11)) (listT (x)) from hD 2 11 (by kernel_rfl))
   obtain ⟨g12, l12, e12, s12⟩ := seq_form (show Seq lo W' (ev (.tmp 12)) ([sgT [58]]) from hD 3 12 (by kernel_rfl))
   obtain ⟨g16, l16, e16, s16⟩ := seq_form (show Seq lo W' (ev (.tmp 16)) (blockT (put) (l)) from hD 7 16 (by kernel_rfl))
   have hn := seqs_new (lo := lo) (W := W') (fs := [.func (.func g11) #[] l11, .func (.func g12) #[] l12, .func (.func g16) #[] l16]) (ls := [listT (x), [sgT [58]], blockT (put) (l)]) ⟨s11, s12, s16, trivial⟩ (Nat.le_trans hlo1 hG.size)
   exact ok_new (v := .slice (some ⟨W'.heap.size, 0, none⟩) 3 3) (W' := W'.alloc (.cells #[.func (.func g11) #[] l11, .func (.func g12) #[] l12, .func (.func g16) #[] l16] 79)) (by simp [execOp, go_sem, e11, e12, e16]) ⟨hn.2, hn.1⟩
  case o9 =>
   have s17 : Seqs lo W' (ev (.tmp 17)) [listT (x), [sgT [58]], blockT (put) (l)] := hD 8 17 (by kernel_rfl)
   refine ok_call (f := 91) (args := #[ev (.tmp 17)]) (by simp [execOp, go_sem, hc, hf]) ?_
   have hlo' := Nat.le_trans hlo1 hG.size
   refine (row_any _ _ (by simp) W' lo hlo' s17).mono ?_
   rintro e W2 ⟨f, rfl, h1, h2⟩
   refine ⟨f, rfl, h2, ?_⟩
   show Seq lo W2 f (List.flatten [listT (x), [sgT [58]], blockT (put) (l)])
   exact h1
  case o10 =>
   have s18 : Seq lo W' (ev (.tmp 18)) (List.flatten [listT (x), [sgT [58]], blockT (put) (l)]) := hD 9 18 (by kernel_rfl)
   exact ok_val (v := ev (.tmp 18)) (by simp [execOp, go_sem]) ⟨Below.refl _ _, s18⟩
 case hfin =>
  intro zz W' hG hzz
  have h9 : Seq lo W' (zz 10) (List.flatten [listT (x), [sgT [58]], blockT (put) (l)]) := hzz 10 (by simp)
  simp only [putAll, Act.put, List.setIfInBounds_toArray, List.set_cons_zero, List.set_cons_succ]
  go_wp2_with fail
  go_ret
  refine ⟨_, rfl, ?_, hW1.trans (Below.mono hG (by omega))⟩
  exact h9
theorem arm_none (put name : Ln) (op : Int) (l : List S) (hl : l ≠ []) (hll : l.length ≤ 1000000) (hS : ∀ y ∈ l, StmtOK put y) (px pl : Option Addr) (cx cl : Nat) (W : World) (lo : Nat) (hlo : lo ≤ W.heap.size) (hSs0 : SsR W (.slice pl l.length cl) l) :
  Calls Tryz.prog 120 #[.agg #[.string (bs put)], .agg #[.int .i64 op, .string (bs name), .slice px 0 cx, .slice pl l.length cl]] W (MkPost lo W (List.flatten [[wdT elseW], [sgT [58]], blockT put l])) := by
 have hd : ((l.length : Int) == 0) = false := by
  have := List.length_pos_iff.2 hl
  simp; omega
 have hdn : (l.length == 0) = false := by simpa using hl
 have hdm : decide ((l.length : Int) = 0) = false := by simpa using hl
 clear hl
 go_enter Tryz.func120, Tryz.ntmps120
 go_wp2_with fail
 obtain ⟨hbx0, hbx1, hls, hW1⟩ := two_boxes W (.cells #[.string (bs put)] 91) (.cells #[.int .i64 op, .string (bs name), .slice px 0 cx, .slice pl l.length cl] 31)
 generalize (W.alloc (.cells #[.string (bs put)] 91)).alloc (.cells #[.int .i64 op, .string (bs name), .slice px 0 cx, .slice pl l.length cl] 31) = W1 at *
 have hlo1 : lo ≤ W1.heap.size := by omega
 have hbl0 : W.heap.size < W1.heap.size := by omega
 have y0_0 : W1.cell? ⟨W.heap.size, 0, none⟩ = some (.string (bs put)) := by simp [World.cell?, hbx0]
 have hbl1 : W.heap.size + 1 < W1.heap.size := by omega
 have y1_0 : W1.cell? ⟨W.heap.size + 1, 0, none⟩ = some (.int .i64 op) := by simp [World.cell?, hbx1]
 have y1_1 : W1.cell? ⟨W.heap.size + 1, 1, none⟩ = some (.string (bs name)) := by simp [World.cell?, hbx1]
 have y1_2 : W1.cell? ⟨W.heap.size + 1, 2, none⟩ = some (.slice px 0 cx) := by simp [World.cell?, hbx1]
 have y1_3 : W1.cell? ⟨W.heap.size + 1, 3, none⟩ = some (.slice pl l.length cl) := by simp [World.cell?, hbx1]
 clear hls hbx0 hbx1
 have hSs := SsR.later hSs0 hW1
 refine region_grow Grw (spcAt lo [.seq ([wdT [101, 108, 115, 101]]), .seq ([sgT [58]]), .is (.agg #[.string (bs put)]), .is (.pointer (some ⟨W.heap.size + 1, 3, none⟩)), .is (.slice pl l.length cl), .seq (blockT (put) (l)), .seqs [[wdT [101, 108, 115, 101]], [sgT [58]], blockT (put) (l)], .seq (List.flatten [[wdT [101, 108, 115, 101]], [sgT [58]], blockT (put) (l)]), .seq (List.flatten [[wdT [101, 108, 115, 101]], [sgT [58]], blockT (put) (l)])])
  (by kernel_rfl) rfl (by kernel_rfl) (by kernel_rfl) (grw_drawn _) grw_trans (spcAt_grw lo _) ?hops ?hfin
 case hops =>
  refine ⟨?o0, ?o1, ?o2, ?o3, ?o4, ?o5, ?o6, ?o7, ?o8, trivial⟩
  all_goals (intro ev W' hG hr hD; have hc := hr.const; have hf := hr.func)
  case o0 =>
   refine ok_call (f := 92) (args := #[.string { data := #[101, 108, 115, 101] }]) (by simp [execOp, go_sem, hc, hf]) ?_
   have hlo' := Nat.le_trans hlo1 hG.size
   refine (sword_any [101, 108, 115, 101] W' lo hlo').mono ?_
   rintro e W2 ⟨f, rfl, h1, h2⟩
   refine ⟨f, rfl, h2, ?_⟩
   show Seq lo W2 f ([wdT [101, 108, 115, 101]])
   exact h1
  case o1 =>
   refine ok_call (f := 90) (args := #[.string { data := #[58] }]) (by simp [execOp, go_sem, hc, hf]) ?_
   have hlo' := Nat.le_trans hlo1 hG.size
   refine (ssign_any [58] W' lo hlo').mono ?_
   rintro e W2 ⟨f, rfl, h1, h2⟩
   refine ⟨f, rfl, h2, ?_⟩
   show Seq lo W2 f ([sgT [58]])
   exact h1
  case o2 =>
   have e2 : ev (.tmp 2) = .pointer (some ⟨W.heap.size, 0, none⟩) := hr.tmp 2 (by kernel_rfl)
   have m0 := (hG.cell (p := ⟨W.heap.size, 0, none⟩) hbl0).trans y0_0
   exact ok_val (v := .agg #[.string (bs put)]) (by simp [execOp, go_sem, e2, m0]) ⟨Below.refl _ _, rfl⟩
  case o3 =>
   have e3 : ev (.tmp 3) = .pointer (some ⟨W.heap.size + 1, 0, none⟩) := hr.tmp 3 (by kernel_rfl)
   exact ok_val (v := .pointer (some ⟨W.heap.size + 1, 3, none⟩)) (by simp [execOp, go_sem, e3]) ⟨Below.refl _ _, rfl⟩
  case o4 =>
   have e27 : ev (.tmp 27) = .pointer (some ⟨W.heap.size + 1, 3, none⟩) := hD 3 27 (by kernel_rfl)
   have m0 := (hG.cell (p := ⟨W.heap.size + 1, 3, none⟩) hbl1).trans y1_3
   exact ok_val (v := .slice pl l.length cl) (by simp [execOp, go_sem, e27, m0]) ⟨Below.refl _ _, rfl⟩
  case o5 =>
   have e26 : ev (.tmp 26) = .agg #[.string (bs put)] := hD 2 26 (by kernel_rfl)
   have e28 : ev (.tmp 28) = .slice pl l.length cl := hD 4 28 (by kernel_rfl)
   refine ok_call (f := 122) (args := #[.agg #[.string (bs put)], .slice pl l.length cl]) (by simp [execOp, go_sem, hc, hf, e26, e28]) ?_
   have hlo' := Nat.le_trans hlo1 hG.size
   refine (block_any (put) _ (l) hll W' lo hlo' (SsR.later hSs hG) hS).mono ?_
   rintro e W2 ⟨f, rfl, h1, h2⟩
   refine ⟨f, rfl, h2, ?_⟩
   show Seq lo W2 f (blockT (put) (l))
   exact h1
  case o6 =>
   obtain ⟨g24, l24, e24, s24⟩ := seq_form (show Seq lo W' (ev (.tmp 24)) ([wdT [101, 108, 115, 101]]) from hD 0 24 (by kernel_rfl))
   obtain ⟨g25, l25, e25, s25⟩ := seq_form (show Seq lo W' (ev (.tmp 25)) ([sgT [58]]) from hD 1 25 (by kernel_rfl))
   obtain ⟨g29, l29, e29, s29⟩ := seq_form (show Seq lo W' (ev (.tmp 29)) (blockT (put) (l)) from hD 5 29 (by kernel_rfl))
   have hn := seqs_new (lo := lo) (W := W') (fs := [.func (.func g24) #[] l24, .func (.func g25) #[] l25, .func (.func g29) #[] l29]) (ls := [[wdT [101, 108, 115, 101]], [sgT [58]], blockT (put) (l)]) ⟨s24, s25, s29, trivial⟩ (Nat.le_trans hlo1 hG.size)
   exact ok_new (v := .slice (some ⟨W'.heap.size, 0, none⟩) 3 3) (W' := W'.alloc (.cells #[.func (.func g24) #[] l24, .func (.func g25) #[] l25, .func (.func g29) #[] l29] 79)) (by simp [execOp, go_sem, e24, e25, e29]) ⟨hn.2, hn.1⟩
  case o7 =>
   have s30 : Seqs lo W' (ev (.tmp 30)) [[wdT [101, 108, 115, 101]], [sgT [58]], blockT (put) (l)] := hD 6 30 (by kernel_rfl)
   refine ok_call (f := 91) (args := #[ev (.tmp 30)]) (by simp [execOp, go_sem, hc, hf]) ?_
   have hlo' := Nat.le_trans hlo1 hG.size
   refine (row_any _ _ (by simp) W' lo hlo' s30).mono ?_
   rintro e W2 ⟨f, rfl, h1, h2⟩
   refine ⟨f, rfl, h2, ?_⟩
   show Seq lo W2 f (List.flatten [[wdT [101, 108, 115, 101]], [sgT [58]], blockT (put) (l)])
   exact h1
  case o8 =>
   have s31 : Seq lo W' (ev (.tmp 31)) (List.flatten [[wdT [101, 108, 115, 101]], [sgT [58]], blockT (put) (l)]) := hD 7 31 (by kernel_rfl)
   exact ok_val (v := ev (.tmp 31)) (by simp [execOp, go_sem]) ⟨Below.refl _ _, s31⟩
 case hfin =>
  intro zz W' hG hzz
  have h9 : Seq lo W' (zz 8) (List.flatten [[wdT [101, 108, 115, 101]], [sgT [58]], blockT (put) (l)]) := hzz 8 (by simp)
  simp only [putAll, Act.put, List.setIfInBounds_toArray, List.set_cons_zero, List.set_cons_succ]
  go_wp2_with fail
  go_ret
  refine ⟨_, rfl, ?_, hW1.trans (Below.mono hG (by omega))⟩
  exact h9
theorem arm_void (put name : Ln) (op : Int) (px pl : Option Addr) (cx cl : Nat) (W : World) (lo : Nat) (hlo : lo ≤ W.heap.size) :
  Calls Tryz.prog 120 #[.agg #[.string (bs put)], .agg #[.int .i64 op, .string (bs name), .slice px 0 cx, .slice pl 0 cl]] W (MkPost lo W []) := by
 have B2 := Lib.hid (two_boxes W (.cells #[.string (bs put)] 91) (.cells #[.int .i64 op, .string (bs name), .slice px 0 cx, .slice pl 0 cl] 31)).2.2.2
 go_enter Tryz.func120, Tryz.ntmps120
 go_wp2_with (go_at_call 91; refine (row_any _ [] (by simp) _ lo (Nat.le_trans hlo B2.out.size) ⟨none, 0, rfl, .inl rfl⟩).mono ?_; rintro e W5 ⟨f, rfl, h1, h2⟩; have H1 := Lib.hid h1; have H2 := Lib.hid h2; clear h1 h2)
 go_ret
 exact ⟨_, rfl, H1.out, B2.out.trans (H2.out.mono B2.out.size)⟩
end Go.Proofs.YtlcfpdmicpggbaaGreatDoor
namespace Go.Proofs.YtlcfpdmicpggbaaGreatDoor
open Go.RowKit Go.Proofs.Spl Go.Proofs.Scn Go.Shelf Go.Grow
theorem stmt_assign (put : Ln) (hput : put ≠ []) (name : Ln) (x : List X) (hxl : x.length ≤ 1000000) (hE : ∀ y ∈ x, ExprOK y) (px pl : Option Addr) (k cx cl : Nat) (W : World) (lo : Nat) (hlo : lo ≤ W.heap.size) (hXs0 : XsR W (.slice px x.length cx) x) :
  Calls Tryz.prog 60 #[.agg #[.string (bs put)], .agg #[.int .i64 1, .string (bs name), .slice px x.length cx, .slice pl k cl]] W (MkPost lo W (List.flatten [sepS put (x.map exprT), [sgT [59]]])) := by
 have HX := Lib.hid hXs0
 have HE := Lib.hid hE
 clear hE hXs0
 have HP := Lib.hid hput
 clear hput
 have HRW := Lib.hid (fun (W9 : World) (v : Value) (h1 : lo ≤ W9.heap.size) (h2 : Seqs lo W9 v [sepS put (x.map exprT), [sgT [59]]]) => row_any v _ (by simp) W9 lo h1 h2)
 have B1 := Lib.hid (two_boxes W (.cells #[.string (bs put)] 91) (.cells #[.int .i64 1, .string (bs name), .slice px x.length cx, .slice pl k cl] 31)).2.2.2
 go_enter Tryz.func60, Tryz.ntmps60
 go_wp2_with (first
  | (go_at_call 105; refine (eachX_any put HP.out _ x hxl _ lo (Nat.le_trans hlo B1.out.size) (XsR.later HX.out B1.out) HE.out).mono ?_; rintro e W4 ⟨f, rfl, h1, h2⟩; obtain ⟨g4, l4, rfl, h3⟩ := seq_form h1; clear h1; have B4 := Lib.hid (B1.out.trans (h2.mono B1.out.size)); have S4 := Lib.hid h3; clear h2 h3)
  | (go_at_call 90; refine (ssign_any [59] _ lo (Nat.le_trans hlo B4.out.size)).mono ?_; rintro e W3 ⟨f, rfl, h1, h2⟩; obtain ⟨g3, l3, rfl, h3⟩ := seq_form h1; clear h1; have B3 := Lib.hid (B4.out.trans (h2.mono B4.out.size)); have hn := seqs_new (lo := lo) (W := W3) (fs := [.func (.func g4) #[] l4, .func (.func g3) #[] l3]) (ls := [sepS put (x.map exprT), [sgT [59]]]) ⟨S4.out.later (Nat.le_refl _) (KeptL.of_below h2), h3, trivial⟩ (Nat.le_trans hlo B3.out.size); have HN := Lib.hid hn; clear h2 h3 hn)
  | (go_at_call 91; refine (HRW.out _ _ (Nat.le_trans hlo (Nat.le_trans B3.out.size HN.out.2.size)) HN.out.1).mono ?_; rintro e W5 ⟨f, rfl, h1, h2⟩; have B5 := Lib.hid ((B3.out.trans (HN.out.2.mono B3.out.size)).trans (h2.mono (Nat.le_trans B3.out.size HN.out.2.size))); have S5 := Lib.hid h1; clear h1 h2))
 go_ret
 exact ⟨_, rfl, S5.out, B5.out⟩
theorem stmt_block (put : Ln) (name : Ln) (l : List S) (hll : l.length ≤ 1000000) (hS : ∀ y ∈ l, StmtOK put y) (px pl : Option Addr) (k cx cl : Nat) (W : World) (lo : Nat) (hlo : lo ≤ W.heap.size) (hSs0 : SsR W (.slice pl l.length cl) l) :
  Calls Tryz.prog 60 #[.agg #[.string (bs put)], .agg #[.int .i64 5, .string (bs name), .slice px k cx, .slice pl l.length cl]] W (MkPost lo W (blockT put l)) := by
 have HX := Lib.hid hSs0
 have HE := Lib.hid hS
 clear hS hSs0
 have B1 := Lib.hid (two_boxes W (.cells #[.string (bs put)] 91) (.cells #[.int .i64 5, .string (bs name), .slice px k cx, .slice pl l.length cl] 31)).2.2.2
 go_enter Tryz.func60, Tryz.ntmps60
 go_wp2_with (go_at_call 122; refine (block_any put _ l hll _ lo (Nat.le_trans hlo B1.out.size) (SsR.later HX.out B1.out) HE.out).mono ?_; rintro e W4 ⟨f, rfl, h1, h2⟩; have B4 := Lib.hid (B1.out.trans (h2.mono B1.out.size)); have S4 := Lib.hid h1; clear h1 h2)
 go_ret
 exact ⟨_, rfl, S4.out, B4.out⟩
theorem stmt_for (put name : Ln) (x : List X) (l : List S) (hxl : x.length ≤ 1000000) (hll : l.length ≤ 1000000) (hE : ∀ y ∈ x, ExprOK y) (hS : ∀ y ∈ l, StmtOK put y) (px pl : Option Addr) (cx cl : Nat) (W : World) (lo : Nat) (hlo : lo ≤ W.heap.size)
  (hXs0 : XsR W (.slice px x.length cx) x) (hSs0 : SsR W (.slice pl l.length cl) l) :
  Calls Tryz.prog 60 #[.agg #[.string (bs put)], .agg #[.int .i64 6, .string (bs name), .slice px x.length cx, .slice pl l.length cl]] W (MkPost lo W (List.flatten [[wdT forW], spanT name x, blockT put l])) := by
 go_enter Tryz.func60, Tryz.ntmps60
 go_wp2_with fail
 obtain ⟨hbx0, hbx1, hls, hW1⟩ := two_boxes W (.cells #[.string (bs put)] 91) (.cells #[.int .i64 6, .string (bs name), .slice px x.length cx, .slice pl l.length cl] 31)
 generalize (W.alloc (.cells #[.string (bs put)] 91)).alloc (.cells #[.int .i64 6, .string (bs name), .slice px x.length cx, .slice pl l.length cl] 31) = W1 at *
 have hlo1 : lo ≤ W1.heap.size := by omega
 have hbl0 : W.heap.size < W1.heap.size := by omega
 have y0_0 : W1.cell? ⟨W.heap.size, 0, none⟩ = some (.string (bs put)) := by simp [World.cell?, hbx0]
 have hbl1 : W.heap.size + 1 < W1.heap.size := by omega
 have y1_0 : W1.cell? ⟨W.heap.size + 1, 0, none⟩ = some (.int .i64 6) := by simp [World.cell?, hbx1]
 have y1_1 : W1.cell? ⟨W.heap.size + 1, 1, none⟩ = some (.string (bs name)) := by simp [World.cell?, hbx1]
 have y1_2 : W1.cell? ⟨W.heap.size + 1, 2, none⟩ = some (.slice px x.length cx) := by simp [World.cell?, hbx1]
 have y1_3 : W1.cell? ⟨W.heap.size + 1, 3, none⟩ = some (.slice pl l.length cl) := by simp [World.cell?, hbx1]
 clear hls hbx0 hbx1
 have hXs := XsR.later hXs0 hW1
 have hSs := SsR.later hSs0 hW1
 refine region_grow Grw (spcAt lo [.seq ([wdT [102, 111, 114]]), .is (.pointer (some ⟨W.heap.size + 1, 1, none⟩)), .is (.string (bs name)), .is (.pointer (some ⟨W.heap.size + 1, 2, none⟩)), .is (.slice px x.length cx), .seq (spanT (name) (x)), .is (.agg #[.string (bs put)]), .is (.pointer (some ⟨W.heap.size + 1, 3, none⟩)), .is (.slice pl l.length cl), .seq (blockT (put) (l)), .seqs [[wdT [102, 111, 114]], spanT (name) (x), blockT (put) (l)], .seq (List.flatten [[wdT [102, 111, 114]], spanT (name) (x), blockT (put) (l)]), .seq (List.flatten [[wdT [102, 111, 114]], spanT (name) (x), blockT (put) (l)])])
  (by kernel_rfl) rfl (by kernel_rfl) (by kernel_rfl) (grw_drawn _) grw_trans (spcAt_grw lo _) ?hops ?hfin
 case hops =>
  refine ⟨?o0, ?o1, ?o2, ?o3, ?o4, ?o5, ?o6, ?o7, ?o8, ?o9, ?o10, ?o11, ?o12, trivial⟩
  all_goals (intro ev W' hG hr hD; have hc := hr.const; have hf := hr.func)
  case o0 =>
   refine ok_call (f := 92) (args := #[.string { data := #[102, 111, 114] }]) (by simp [execOp, go_sem, hc, hf]) ?_
   have hlo' := Nat.le_trans hlo1 hG.size
   refine (sword_any [102, 111, 114] W' lo hlo').mono ?_
   rintro e W2 ⟨f, rfl, h1, h2⟩
   refine ⟨f, rfl, h2, ?_⟩
   show Seq lo W2 f ([wdT [102, 111, 114]])
   exact h1
  case o1 =>
   have e3 : ev (.tmp 3) = .pointer (some ⟨W.heap.size + 1, 0, none⟩) := hr.tmp 3 (by kernel_rfl)
   exact ok_val (v := .pointer (some ⟨W.heap.size + 1, 1, none⟩)) (by simp [execOp, go_sem, e3]) ⟨Below.refl _ _, rfl⟩
  case o2 =>
   have e77 : ev (.tmp 77) = .pointer (some ⟨W.heap.size + 1, 1, none⟩) := hD 1 77 (by kernel_rfl)
   have m0 := (hG.cell (p := ⟨W.heap.size + 1, 1, none⟩) hbl1).trans y1_1
   exact ok_val (v := .string (bs name)) (by simp [execOp, go_sem, e77, m0]) ⟨Below.refl _ _, rfl⟩
  case o3 =>
   have e3 : ev (.tmp 3) = .pointer (some ⟨W.heap.size + 1, 0, none⟩) := hr.tmp 3 (by kernel_rfl)
   exact ok_val (v := .pointer (some ⟨W.heap.size + 1, 2, none⟩)) (by simp [execOp, go_sem, e3]) ⟨Below.refl _ _, rfl⟩
  case o4 =>
   have e79 : ev (.tmp 79) = .pointer (some ⟨W.heap.size + 1, 2, none⟩) := hD 3 79 (by kernel_rfl)
   have m0 := (hG.cell (p := ⟨W.heap.size + 1, 2, none⟩) hbl1).trans y1_2
   exact ok_val (v := .slice px x.length cx) (by simp [execOp, go_sem, e79, m0]) ⟨Below.refl _ _, rfl⟩
  case o5 =>
   have e78 : ev (.tmp 78) = .string (bs name) := hD 2 78 (by kernel_rfl)
   have e80 : ev (.tmp 80) = .slice px x.length cx := hD 4 80 (by kernel_rfl)
   refine ok_call (f := 121) (args := #[.string (bs name), .slice px x.length cx]) (by simp [execOp, go_sem, hc, hf, e78, e80]) ?_
   have hlo' := Nat.le_trans hlo1 hG.size
   refine (span_any (name) _ (x) hxl W' lo hlo' (XsR.later hXs hG) hE).mono ?_
   rintro e W2 ⟨f, rfl, h1, h2⟩
   refine ⟨f, rfl, h2, ?_⟩
   show Seq lo W2 f (spanT (name) (x))
   exact h1
  case o6 =>
   have e2 : ev (.tmp 2) = .pointer (some ⟨W.heap.size, 0, none⟩) := hr.tmp 2 (by kernel_rfl)
   have m0 := (hG.cell (p := ⟨W.heap.size, 0, none⟩) hbl0).trans y0_0
   exact ok_val (v := .agg #[.string (bs put)]) (by simp [execOp, go_sem, e2, m0]) ⟨Below.refl _ _, rfl⟩
  case o7 =>
   have e3 : ev (.tmp 3) = .pointer (some ⟨W.heap.size + 1, 0, none⟩) := hr.tmp 3 (by kernel_rfl)
   exact ok_val (v := .pointer (some ⟨W.heap.size + 1, 3, none⟩)) (by simp [execOp, go_sem, e3]) ⟨Below.refl _ _, rfl⟩
  case o8 =>
   have e83 : ev (.tmp 83) = .pointer (some ⟨W.heap.size + 1, 3, none⟩) := hD 7 83 (by kernel_rfl)
   have m0 := (hG.cell (p := ⟨W.heap.size + 1, 3, none⟩) hbl1).trans y1_3
   exact ok_val (v := .slice pl l.length cl) (by simp [execOp, go_sem, e83, m0]) ⟨Below.refl _ _, rfl⟩
  case o9 =>
   have e82 : ev (.tmp 82) = .agg #[.string (bs put)] := hD 6 82 (by kernel_rfl)
   have e84 : ev (.tmp 84) = .slice pl l.length cl := hD 8 84 (by kernel_rfl)
   refine ok_call (f := 122) (args := #[.agg #[.string (bs put)], .slice pl l.length cl]) (by simp [execOp, go_sem, hc, hf, e82, e84]) ?_
   have hlo' := Nat.le_trans hlo1 hG.size
   refine (block_any (put) _ (l) hll W' lo hlo' (SsR.later hSs hG) hS).mono ?_
   rintro e W2 ⟨f, rfl, h1, h2⟩
   refine ⟨f, rfl, h2, ?_⟩
   show Seq lo W2 f (blockT (put) (l))
   exact h1
  case o10 =>
   obtain ⟨g76, l76, e76, s76⟩ := seq_form (show Seq lo W' (ev (.tmp 76)) ([wdT [102, 111, 114]]) from hD 0 76 (by kernel_rfl))
   obtain ⟨g81, l81, e81, s81⟩ := seq_form (show Seq lo W' (ev (.tmp 81)) (spanT (name) (x)) from hD 5 81 (by kernel_rfl))
   obtain ⟨g85, l85, e85, s85⟩ := seq_form (show Seq lo W' (ev (.tmp 85)) (blockT (put) (l)) from hD 9 85 (by kernel_rfl))
   have hn := seqs_new (lo := lo) (W := W') (fs := [.func (.func g76) #[] l76, .func (.func g81) #[] l81, .func (.func g85) #[] l85]) (ls := [[wdT [102, 111, 114]], spanT (name) (x), blockT (put) (l)]) ⟨s76, s81, s85, trivial⟩ (Nat.le_trans hlo1 hG.size)
   exact ok_new (v := .slice (some ⟨W'.heap.size, 0, none⟩) 3 3) (W' := W'.alloc (.cells #[.func (.func g76) #[] l76, .func (.func g81) #[] l81, .func (.func g85) #[] l85] 79)) (by simp [execOp, go_sem, e76, e81, e85]) ⟨hn.2, hn.1⟩
  case o11 =>
   have s86 : Seqs lo W' (ev (.tmp 86)) [[wdT [102, 111, 114]], spanT (name) (x), blockT (put) (l)] := hD 10 86 (by kernel_rfl)
   refine ok_call (f := 91) (args := #[ev (.tmp 86)]) (by simp [execOp, go_sem, hc, hf]) ?_
   have hlo' := Nat.le_trans hlo1 hG.size
   refine (row_any _ _ (by simp) W' lo hlo' s86).mono ?_
   rintro e W2 ⟨f, rfl, h1, h2⟩
   refine ⟨f, rfl, h2, ?_⟩
   show Seq lo W2 f (List.flatten [[wdT [102, 111, 114]], spanT (name) (x), blockT (put) (l)])
   exact h1
  case o12 =>
   have s87 : Seq lo W' (ev (.tmp 87)) (List.flatten [[wdT [102, 111, 114]], spanT (name) (x), blockT (put) (l)]) := hD 11 87 (by kernel_rfl)
   exact ok_val (v := ev (.tmp 87)) (by simp [execOp, go_sem]) ⟨Below.refl _ _, s87⟩
 case hfin =>
  intro zz W' hG hzz
  have h9 : Seq lo W' (zz 12) (List.flatten [[wdT [102, 111, 114]], spanT (name) (x), blockT (put) (l)]) := hzz 12 (by simp)
  simp only [putAll, Act.put, List.setIfInBounds_toArray, List.set_cons_zero, List.set_cons_succ]
  go_wp2_with fail
  go_ret
  refine ⟨_, rfl, ?_, hW1.trans (Below.mono hG (by omega))⟩
  exact h9
theorem stmt_case (W : World) (put name : Ln) (xa : X) (l : List S) (hll : l.length ≤ 1000000) (iha : ExprOK xa) (hS : ∀ y ∈ l, ArmOK put y) (q off : Nat) (hq0 : q < W.heap.size) (pl : Option Addr) (cx cl : Nat) (lo : Nat) (hlo : lo ≤ W.heap.size)
  (za : XAt W q off xa) (hSs0 : SsR W (.slice pl l.length cl) l) :
  Calls Tryz.prog 60 #[.agg #[.string (bs put)], .agg #[.int .i64 3, .string (bs name), .slice (some ⟨q, off, none⟩) 1 cx, .slice pl l.length cl]] W (MkPost lo W (List.flatten [[wdT caseW], inT 40 41 (exprT xa), inT 123 125 (l.map (stmtT put)).flatten])) := by
 go_enter Tryz.func60, Tryz.ntmps60
 go_wp2_with fail
 obtain ⟨hbx0, hbx1, hls, hW1⟩ := two_boxes W (.cells #[.string (bs put)] 91) (.cells #[.int .i64 3, .string (bs name), .slice (some ⟨q, off, none⟩) 1 cx, .slice pl l.length cl] 31)
 generalize (W.alloc (.cells #[.string (bs put)] 91)).alloc (.cells #[.int .i64 3, .string (bs name), .slice (some ⟨q, off, none⟩) 1 cx, .slice pl l.length cl] 31) = W1 at *
 have hlo1 : lo ≤ W1.heap.size := by omega
 have hbl0 : W.heap.size < W1.heap.size := by omega
 have y0_0 : W1.cell? ⟨W.heap.size, 0, none⟩ = some (.string (bs put)) := by simp [World.cell?, hbx0]
 have hbl1 : W.heap.size + 1 < W1.heap.size := by omega
 have y1_0 : W1.cell? ⟨W.heap.size + 1, 0, none⟩ = some (.int .i64 3) := by simp [World.cell?, hbx1]
 have y1_1 : W1.cell? ⟨W.heap.size + 1, 1, none⟩ = some (.string (bs name)) := by simp [World.cell?, hbx1]
 have y1_2 : W1.cell? ⟨W.heap.size + 1, 2, none⟩ = some (.slice (some ⟨q, off, none⟩) 1 cx) := by simp [World.cell?, hbx1]
 have y1_3 : W1.cell? ⟨W.heap.size + 1, 3, none⟩ = some (.slice pl l.length cl) := by simp [World.cell?, hbx1]
 clear hls hbx0 hbx1
 have hSs := SsR.later hSs0 hW1
 have hq1 : q < W1.heap.size := Nat.lt_of_lt_of_le hq0 hW1.size
 obtain ⟨pa, ca, a0, a1, a2, a3, a4, a5, Xa⟩ := XAt.later za hq0 hW1
 refine region_grow Grw (spcAt lo [.seq ([wdT [99, 97, 115, 101]]), .is (.pointer (some ⟨W.heap.size + 1, 2, none⟩)), .is (.slice (some ⟨q, off, none⟩) 1 cx), .is (.pointer (some ⟨q, off, none⟩)), .is (.agg #[.int .i64 xa.op, .string (bs xa.name), .int .i64 xa.n, .int .i64 xa.w, .int .u64 xa.v, .slice pa xa.l.length ca]), .seq (exprT (xa)), .seq (inT 40 41 (exprT (xa))), .is (.pointer (some ⟨W.heap.size + 1, 3, none⟩)), .is (.slice pl l.length cl), .is (.agg #[.string (bs put)]), .is (.func (.func 120) #[.agg #[.string (bs put)]] #[]), .seq (((l).map (stmtT (put))).flatten), .seq (inT 123 125 (((l).map (stmtT (put))).flatten)), .seqs [[wdT [99, 97, 115, 101]], inT 40 41 (exprT (xa)), inT 123 125 (((l).map (stmtT (put))).flatten)], .seq (List.flatten [[wdT [99, 97, 115, 101]], inT 40 41 (exprT (xa)), inT 123 125 (((l).map (stmtT (put))).flatten)]), .seq (List.flatten [[wdT [99, 97, 115, 101]], inT 40 41 (exprT (xa)), inT 123 125 (((l).map (stmtT (put))).flatten)])])
  (by kernel_rfl) rfl (by kernel_rfl) (by kernel_rfl) (grw_drawn _) grw_trans (spcAt_grw lo _) ?hops ?hfin
 case hops =>
  refine ⟨?o0, ?o1, ?o2, ?o3, ?o4, ?o5, ?o6, ?o7, ?o8, ?o9, ?o10, ?o11, ?o12, ?o13, ?o14, ?o15, trivial⟩
  all_goals (intro ev W' hG hr hD; have hc := hr.const; have hf := hr.func)
  case o0 =>
   refine ok_call (f := 92) (args := #[.string { data := #[99, 97, 115, 101] }]) (by simp [execOp, go_sem, hc, hf]) ?_
   have hlo' := Nat.le_trans hlo1 hG.size
   refine (sword_any [99, 97, 115, 101] W' lo hlo').mono ?_
   rintro e W2 ⟨f, rfl, h1, h2⟩
   refine ⟨f, rfl, h2, ?_⟩
   show Seq lo W2 f ([wdT [99, 97, 115, 101]])
   exact h1
  case o1 =>
   have e3 : ev (.tmp 3) = .pointer (some ⟨W.heap.size + 1, 0, none⟩) := hr.tmp 3 (by kernel_rfl)
   exact ok_val (v := .pointer (some ⟨W.heap.size + 1, 2, none⟩)) (by simp [execOp, go_sem, e3]) ⟨Below.refl _ _, rfl⟩
  case o2 =>
   have e60 : ev (.tmp 60) = .pointer (some ⟨W.heap.size + 1, 2, none⟩) := hD 1 60 (by kernel_rfl)
   have m0 := (hG.cell (p := ⟨W.heap.size + 1, 2, none⟩) hbl1).trans y1_2
   exact ok_val (v := .slice (some ⟨q, off, none⟩) 1 cx) (by simp [execOp, go_sem, e60, m0]) ⟨Below.refl _ _, rfl⟩
  case o3 =>
   have e61 : ev (.tmp 61) = .slice (some ⟨q, off, none⟩) 1 cx := hD 2 61 (by kernel_rfl)
   exact ok_val (v := .pointer (some ⟨q, off, none⟩)) (by simp [execOp, go_sem, e61, hc]) ⟨Below.refl _ _, rfl⟩
  case o4 =>
   have e62 : ev (.tmp 62) = .pointer (some ⟨q, off, none⟩) := hD 3 62 (by kernel_rfl)
   have m0 := (hG.cell (p := ⟨q, off, none⟩) hq1).trans a0
   have m1 := (hG.cell (p := ⟨q, off + 1, none⟩) hq1).trans a1
   have m2 := (hG.cell (p := ⟨q, off + 2, none⟩) hq1).trans a2
   have m3 := (hG.cell (p := ⟨q, off + 3, none⟩) hq1).trans a3
   have m4 := (hG.cell (p := ⟨q, off + 4, none⟩) hq1).trans a4
   have m5 := (hG.cell (p := ⟨q, off + 5, none⟩) hq1).trans a5
   exact ok_val (v := .agg #[.int .i64 xa.op, .string (bs xa.name), .int .i64 xa.n, .int .i64 xa.w, .int .u64 xa.v, .slice pa xa.l.length ca]) (by simp [execOp, go_sem, e62, m0, m1, m2, m3, m4, m5]) ⟨Below.refl _ _, rfl⟩
  case o5 =>
   have e63 : ev (.tmp 63) = .agg #[.int .i64 xa.op, .string (bs xa.name), .int .i64 xa.n, .int .i64 xa.w, .int .u64 xa.v, .slice pa xa.l.length ca] := hD 4 63 (by kernel_rfl)
   refine ok_call (f := 56) (args := #[.agg #[.int .i64 xa.op, .string (bs xa.name), .int .i64 xa.n, .int .i64 xa.w, .int .u64 xa.v, .slice pa xa.l.length ca]]) (by simp [execOp, go_sem, hc, hf, e63]) ?_
   have hlo' := Nat.le_trans hlo1 hG.size
   refine (iha W' lo _ hlo' (XR.later hG _ _ Xa)).mono ?_
   rintro e W2 ⟨f, rfl, h1, h2⟩
   refine ⟨f, rfl, h2, ?_⟩
   show Seq lo W2 f (exprT (xa))
   exact h1
  case o6 =>
   have s64 : Seq lo W' (ev (.tmp 64)) (exprT (xa)) := hD 5 64 (by kernel_rfl)
   refine ok_call (f := 95) (args := #[.string { data := #[40, 41] }, ev (.tmp 64)]) (by simp [execOp, go_sem, hc, hf]) ?_
   have hlo' := Nat.le_trans hlo1 hG.size
   refine (in_any 40 41 _ _ W' lo hlo' s64).mono ?_
   rintro e W2 ⟨f, rfl, h1, h2⟩
   refine ⟨f, rfl, h2, ?_⟩
   show Seq lo W2 f (inT 40 41 (exprT (xa)))
   exact h1
  case o7 =>
   have e3 : ev (.tmp 3) = .pointer (some ⟨W.heap.size + 1, 0, none⟩) := hr.tmp 3 (by kernel_rfl)
   exact ok_val (v := .pointer (some ⟨W.heap.size + 1, 3, none⟩)) (by simp [execOp, go_sem, e3]) ⟨Below.refl _ _, rfl⟩
  case o8 =>
   have e66 : ev (.tmp 66) = .pointer (some ⟨W.heap.size + 1, 3, none⟩) := hD 7 66 (by kernel_rfl)
   have m0 := (hG.cell (p := ⟨W.heap.size + 1, 3, none⟩) hbl1).trans y1_3
   exact ok_val (v := .slice pl l.length cl) (by simp [execOp, go_sem, e66, m0]) ⟨Below.refl _ _, rfl⟩
  case o9 =>
   have e2 : ev (.tmp 2) = .pointer (some ⟨W.heap.size, 0, none⟩) := hr.tmp 2 (by kernel_rfl)
   have m0 := (hG.cell (p := ⟨W.heap.size, 0, none⟩) hbl0).trans y0_0
   exact ok_val (v := .agg #[.string (bs put)]) (by simp [execOp, go_sem, e2, m0]) ⟨Below.refl _ _, rfl⟩
  case o10 =>
   have e68 : ev (.tmp 68) = .agg #[.string (bs put)] := hD 9 68 (by kernel_rfl)
   exact ok_val (v := .func (.func 120) #[.agg #[.string (bs put)]] #[]) (by simp [execOp, go_sem, hc, e68]; try rfl) ⟨Below.refl _ _, rfl⟩
  case o11 =>
   have e67 : ev (.tmp 67) = .slice pl l.length cl := hD 8 67 (by kernel_rfl)
   have e69 : ev (.tmp 69) = .func (.func 120) #[.agg #[.string (bs put)]] #[] := hD 10 69 (by kernel_rfl)
   refine ok_call (f := 119) (args := #[.slice pl l.length cl, .string { data := #[] }, .func (.func 120) #[.agg #[.string (bs put)]] #[]]) (by simp [execOp, go_sem, hc, hf, e67, e69]) ?_
   have hlo' := Nat.le_trans hlo1 hG.size
   refine (eachA_any (put) _ (l) hll W' lo hlo' (SsR.later hSs hG) hS).mono ?_
   rintro e W2 ⟨f, rfl, h1, h2⟩
   refine ⟨f, rfl, h2, ?_⟩
   show Seq lo W2 f (((l).map (stmtT (put))).flatten)
   exact h1
  case o12 =>
   have s70 : Seq lo W' (ev (.tmp 70)) (((l).map (stmtT (put))).flatten) := hD 11 70 (by kernel_rfl)
   refine ok_call (f := 95) (args := #[.string { data := #[123, 125] }, ev (.tmp 70)]) (by simp [execOp, go_sem, hc, hf]) ?_
   have hlo' := Nat.le_trans hlo1 hG.size
   refine (in_any 123 125 _ _ W' lo hlo' s70).mono ?_
   rintro e W2 ⟨f, rfl, h1, h2⟩
   refine ⟨f, rfl, h2, ?_⟩
   show Seq lo W2 f (inT 123 125 (((l).map (stmtT (put))).flatten))
   exact h1
  case o13 =>
   obtain ⟨g59, l59, e59, s59⟩ := seq_form (show Seq lo W' (ev (.tmp 59)) ([wdT [99, 97, 115, 101]]) from hD 0 59 (by kernel_rfl))
   obtain ⟨g65, l65, e65, s65⟩ := seq_form (show Seq lo W' (ev (.tmp 65)) (inT 40 41 (exprT (xa))) from hD 6 65 (by kernel_rfl))
   obtain ⟨g71, l71, e71, s71⟩ := seq_form (show Seq lo W' (ev (.tmp 71)) (inT 123 125 (((l).map (stmtT (put))).flatten)) from hD 12 71 (by kernel_rfl))
   have hn := seqs_new (lo := lo) (W := W') (fs := [.func (.func g59) #[] l59, .func (.func g65) #[] l65, .func (.func g71) #[] l71]) (ls := [[wdT [99, 97, 115, 101]], inT 40 41 (exprT (xa)), inT 123 125 (((l).map (stmtT (put))).flatten)]) ⟨s59, s65, s71, trivial⟩ (Nat.le_trans hlo1 hG.size)
   exact ok_new (v := .slice (some ⟨W'.heap.size, 0, none⟩) 3 3) (W' := W'.alloc (.cells #[.func (.func g59) #[] l59, .func (.func g65) #[] l65, .func (.func g71) #[] l71] 79)) (by simp [execOp, go_sem, e59, e65, e71]) ⟨hn.2, hn.1⟩
  case o14 =>
   have s72 : Seqs lo W' (ev (.tmp 72)) [[wdT [99, 97, 115, 101]], inT 40 41 (exprT (xa)), inT 123 125 (((l).map (stmtT (put))).flatten)] := hD 13 72 (by kernel_rfl)
   refine ok_call (f := 91) (args := #[ev (.tmp 72)]) (by simp [execOp, go_sem, hc, hf]) ?_
   have hlo' := Nat.le_trans hlo1 hG.size
   refine (row_any _ _ (by simp) W' lo hlo' s72).mono ?_
   rintro e W2 ⟨f, rfl, h1, h2⟩
   refine ⟨f, rfl, h2, ?_⟩
   show Seq lo W2 f (List.flatten [[wdT [99, 97, 115, 101]], inT 40 41 (exprT (xa)), inT 123 125 (((l).map (stmtT (put))).flatten)])
   exact h1
  case o15 =>
   have s73 : Seq lo W' (ev (.tmp 73)) (List.flatten [[wdT [99, 97, 115, 101]], inT 40 41 (exprT (xa)), inT 123 125 (((l).map (stmtT (put))).flatten)]) := hD 14 73 (by kernel_rfl)
   exact ok_val (v := ev (.tmp 73)) (by simp [execOp, go_sem]) ⟨Below.refl _ _, s73⟩
 case hfin =>
  intro zz W' hG hzz
  have h9 : Seq lo W' (zz 15) (List.flatten [[wdT [99, 97, 115, 101]], inT 40 41 (exprT (xa)), inT 123 125 (((l).map (stmtT (put))).flatten)]) := hzz 15 (by simp)
  simp only [putAll, Act.put, List.setIfInBounds_toArray, List.set_cons_zero, List.set_cons_succ]
  go_wp2_with fail
  go_ret
  refine ⟨_, rfl, ?_, hW1.trans (Below.mono hG (by omega))⟩
  exact h9
end Go.Proofs.YtlcfpdmicpggbaaGreatDoor
namespace Go.Proofs.YtlcfpdmicpggbaaGreatDoor
open Go.RowKit Go.Proofs.Spl Go.Proofs.Scn Go.Shelf Go.GrowQ
theorem grow_below {a b : World} (h : Grw a b) (row : Option Nat) : a.grownBy b row := by
 obtain ⟨h1, h2, h3, h4, h5⟩ := h
 exact ⟨h1, h2, h3, h4, fun k hk _ => h5 k hk⟩
theorem grow_two {a b c : World} {row : Option Nat} (h : a.grownBy b row) (k : b.grownBy c row) : a.grownBy c row := by
 obtain ⟨h1, h2, h3, h4, h5⟩ := h
 obtain ⟨k1, k2, k3, k4, k5⟩ := k
 exact ⟨k1.trans h1, k2.trans h2, k3.trans h3, Nat.le_trans h4 k4, fun j hj hn => (k5 j (Nat.lt_of_lt_of_le hj h4) hn).trans (h5 j hj hn)⟩
def appSp (W0 : World) (lo p : Nat) (l : List Spc) (ls : List (List Tok)) (i : Nat) (W : World) (v : Value) : Prop := if i < p then (l.getD i .any).ok lo W v else ∃ fs, (∃ q c, v = .slice q fs.length c) ∧ EachS W0 v fs ls W
def appG (row : Option Nat) (p i : Nat) (a b : World) : Prop := if i = p then a.grownBy b row else Grw a b
def appH (row : Option Nat) (f : Bool) (a b : World) : Prop := if f then a.grownBy b row else Grw a b
theorem app_tr (row : Option Nat) (p i : Nat) (a b c : World) (h : appH row (decide (p < i)) a b) (k : appG row p i b c) : appH row (decide (p ≤ i)) a c := by
 unfold appH appG at *
 rcases Nat.lt_trichotomy i p with h1 | h1 | h1
 ·rw [if_neg (by simp; omega)] at h ⊢
  rw [if_neg (by omega)] at k
  exact grw_trans _ _ _ h k
 ·subst h1
  rw [if_neg (by simp)] at h
  rw [if_pos rfl] at k
  rw [if_pos (by simp)]
  exact grow_two (grow_below h _) k
 ·rw [if_pos (by simp; omega)] at h
  rw [if_neg (by omega)] at k
  rw [if_pos (by simp; omega)]
  exact grow_two h (grow_below k _)
theorem app_mono (W0 : World) (row : Option Nat) (lo p : Nat) (hrow : ∀ r, row = some r → r < lo) (l : List Spc) (ls : List (List Tok)) (i j : Nat) (W W' : World) (v : Value) (hij : i ≠ j) (hn : ¬ (p ≤ j ∧ i < j)) (hg : appG row p i W W') (h : appSp W0 lo p l ls j W v) : appSp W0 lo p l ls j W' v := by
 unfold appSp appG at *
 by_cases hj : j < p
 ·rw [if_pos hj] at h ⊢
  refine Spc.kept _ ?_ h
  by_cases hi : i = p
  ·rw [if_pos hi] at hg
   exact KeptL.of_grown hg hrow
  ·rw [if_neg hi] at hg
   exact KeptL.of_below hg
 ·rw [if_neg hj] at h ⊢
  rw [if_neg (by omega)] at hg
  obtain ⟨fs, h1, h2⟩ := h
  exact ⟨fs, h1, h2.later hg⟩
theorem allL_of {n lo : Nat} {V : World} {q : Option Nat} (hn : n ≤ lo) (hq : ∀ r, q = some r → r < lo ∨ V.heap.size ≤ r) {V' : World} (hb : KeptL lo V V') : ∀ {fs : List Value} {ls : List (List Tok)}, AllSeq lo V fs ls → AllL n V' q fs ls
 | [], [], _ => trivial
 | [], _ :: _, h => h.elim
 | _ :: _, [], h => h.elim
 | f :: fs, t :: ts, h => ⟨⟨lo, V, h.1, hb, hn, hq⟩, allL_of hn hq hb h.2⟩
theorem each_new {W V : World} (hb : Below W.heap.size W V) {fs : List Value} {ls : List (List Tok)} (hl : fs.length ≤ 1000000) (h : AllSeq W.heap.size V fs ls) :
  EachS W (.slice (some ⟨V.heap.size, 0, none⟩) fs.length fs.length) fs ls (V.alloc (.cells fs.toArray 79)) := by
 have ha : Below V.heap.size V (V.alloc (.cells fs.toArray 79)) := (Below.refl _ _).alloc (Nat.le_refl _) _
 refine ⟨⟨by first | rfl | simp | (unfold maxLen; omega), .inr ⟨V.heap.size, fs.length, fs.toArray, rfl, hb.size, World.alloc_heap_new V _, by first | rfl | simp | (unfold maxLen; omega), by first | rfl | simp | (unfold maxLen; omega), by first | rfl | simp | (unfold maxLen; omega), by first | rfl | simp | (unfold maxLen; omega)⟩⟩, ?_, hb.trans (ha.mono hb.size)⟩
 exact allL_of (Nat.le_refl _) (fun r hr => by cases hr; exact .inr (Nat.le_refl _)) (KeptL.of_below ha) h
theorem AllL.app {n : Nat} {V : World} {q : Option Nat} : ∀ {fs gs : List Value} {ls ms : List (List Tok)}, AllL n V q fs ls → AllL n V q gs ms → AllL n V q (fs ++ gs) (ls ++ ms)
 | [], _, [], _, _, h => h
 | [], _, _ :: _, _, h, _ => h.elim
 | _ :: _, _, [], _, h, _ => h.elim
 | f :: fs, gs, t :: ts, ms, h, k => ⟨h.1, AllL.app h.2 k⟩
theorem allSeq_one {lo : Nat} {W : World} : ∀ {fs : List Value} {ls : List (List Tok)}, AllSeq lo W fs ls → ∀ u ∈ fs, u.oneCell' = true
 | [], _, _, u, hu => by simp at hu
 | f :: fs, [], h, _, _ => h.elim
 | f :: fs, t :: ts, h, u, hu => by
  rcases List.mem_cons.1 hu with rfl | hu
  ·obtain ⟨g, lb, rfl, _⟩ := h.1
   rfl
  ·exact allSeq_one h.2 u hu
theorem app_step {W0 W' : World} {out : Value} {fs : List Value} {ls : List (List Tok)} (hE : EachS W0 out fs ls W') {lo b : Nat} {gs : List Value} {ms : List (List Tok)} (hlo : W0.heap.size ≤ lo) (hrow : ∀ r, out.ownBlock = some r → r < lo) (hblk : W'.heap[b]? = some (.cells gs.toArray 79 (0, 0)))
  (hgs : AllSeq lo W' gs ms) (hpos : 0 < gs.length) (hlen : fs.length + gs.length ≤ 1000000) (ty : TypeId) (c : Nat) :
  ∃ g cap w', (Builtin.append_ #[121, 121] ty #[out, .slice (some ⟨b, 0, none⟩) gs.length c]).run Tryz.prog W' = .ok (.slice (some ⟨g, 0, none⟩) (fs.length + gs.length) cap) w' ∧
   W'.grownBy w' out.ownBlock ∧ EachS W0 (.slice (some ⟨g, 0, none⟩) (fs.length + gs.length) cap) (fs ++ gs) (ls ++ ms) w' := by
 obtain ⟨i0, hi, hz0, hz1, hz2⟩ := info_parts fnInfo
 obtain ⟨g, cap, w', hrun, h1, h2, h3, h4⟩ := run_append_lies (P := Tryz.prog) W' 121 ty W0.heap.size 79 i0 Value.nilFunc 1 8 fnSlice hi hz0 hz1 hz2 rfl (by decide) out fs.length fs hE.own ⟨b, 0, none⟩ gs.length c gs (by omega)
  (fun j u hu => World.news_of_block hblk j u (by simpa using hu)) (allSeq_one hgs) hpos (by unfold maxLen; omega) (by omega) hE.bel.size _ rfl
 refine ⟨g, cap, w', hrun, h2, ⟨by rw [List.length_append]; exact h1, ?_, hE.bel.grown h2 hE.bel.size (fun k hk => (hE.lt k hk).1)⟩⟩
 have hq : ∀ r, (Value.slice (some ⟨g, 0, none⟩) (fs.length + gs.length) cap).ownBlock = some r → out.ownBlock = some r ∨ W'.heap.size ≤ r := by
  intro r hr
  cases hr
  rcases h3 with h3 | h3
  ·exact .inl h3
  ·exact .inr (Nat.le_of_eq h3.symm)
 refine (hE.lies.map fun f ts hl => hl.grown h2 hq).app ?_
 refine AllL.map (fun f ts hl => hl.grown h2 hq) (allL_of hlo (fun r hr => .inl (hrow r hr)) (KeptL.refl _ _) hgs)
end Go.Proofs.YtlcfpdmicpggbaaGreatDoor
