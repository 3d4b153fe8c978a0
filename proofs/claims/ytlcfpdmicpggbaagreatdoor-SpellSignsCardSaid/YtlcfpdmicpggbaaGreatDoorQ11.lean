/- Texts of the seat, merged. -/
import Derived.Deep.QuietTactic
import Derived.Test.YtlcfpdmicpggbaaGreatDoorQ5
import Derived.Test.YtlcfpdmicpggbaaGreatDoorQ7
import Derived.WalkSmall
set_option linter.unusedVariables false
set_option linter.unusedSimpArgs false
set_option maxRecDepth 100000
set_option maxHeartbeats 16000000
namespace Go.Proofs.Spl
open Go.Proofs.Scn
theorem sumN_cons {α : Type} (f : α → Nat) (a : α) (l : List α) : sumN f (a :: l) = f a + sumN f l := rfl
theorem sumN_map {α β : Type} (g : α → β) (f : β → Nat) : ∀ l : List α, sumN f (l.map g) = sumN (fun x => f (g x)) l
 | [] => rfl
 | a :: l => by rw [List.map_cons, sumN_cons, sumN_map g f l]; rfl
theorem sumN_le {α : Type} {f g : α → Nat} : ∀ {l : List α}, (∀ x ∈ l, f x ≤ g x) → sumN f l ≤ sumN g l
 | [], _ => Nat.le_refl _
 | a :: l, h => by
  have h1 := h a (by simp)
  have h2 := sumN_le (l := l) (fun x hx => h x (by simp [hx]))
  rw [sumN_cons, sumN_cons]; omega
theorem sumN_mul {α : Type} (f : α → Nat) (k : Nat) : ∀ l : List α, sumN (fun x => k * f x) l = k * sumN f l
 | [] => rfl
 | a :: l => by rw [sumN_cons, sumN_cons, sumN_mul f k l, Nat.mul_add]
theorem sep_len (s : Ln) : ∀ l : List (List Tok), (sepS s l).length ≤ sumN (fun t => t.length + 1) l
 | [] => Nat.le_refl _
 | [a] => by rw [sumN_cons]; simp only [sepS]; omega
 | a :: b :: r => by
  have := sep_len s (b :: r)
  rw [sumN_cons]
  simp only [sepS, List.length_append, List.length_cons]
  omega
theorem flat_len : ∀ l : List (List Tok), l.flatten.length = sumN List.length l
 | [] => rfl
 | a :: l => by rw [List.flatten_cons, List.length_append, flat_len l]; rfl
theorem in_len (o c : UInt8) (l : List Tok) : (inT o c l).length = l.length + 2 := by simp [inT]
theorem par_len (l : List Tok) : (parT l).length = l.length + 2 := in_len _ _ l
theorem bra_len (l : List Tok) : (braT l).length = l.length + 2 := in_len _ _ l
theorem cub_len (l : List Tok) : (cubT l).length = l.length + 2 := in_len _ _ l
theorem part_len (k : Nat × List Tok) (n : Nat) : (partT k n).length ≤ k.2.length + 2 := by
 unfold partT
 split
 ·rw [par_len]; exact Nat.le_refl _
 ·omega
theorem node_len (op : Int) (name : Ln) (n w : Int) (v : Nat) (ks : List (Nat × List Tok)) : (nodeT op name n w v ks).length ≤ 5 + sumN (fun k => k.2.length + 3) ks := by
 have hsep : ∀ s, (sepS s (ks.map Prod.snd)).length ≤ sumN (fun k => k.2.length + 3) ks := fun s => by
  refine Nat.le_trans (sep_len s _) ?_
  rw [sumN_map]
  exact sumN_le fun k _ => by omega
 have h58 := hsep [58]
 have h44 := hsep [44]
 unfold nodeT
 split
 ·simp only [List.length_cons, List.length_nil]; omega
 split
 ·simp only [List.length_cons, List.length_nil]; omega
 split
 ·simp only [List.length_cons, bra_len]; omega
 split
 ·split
  ·rename_i a
   have := part_len a 11
   simp only [List.length_cons, sumN_cons]; omega
  ·simp
 split
 ·split
  ·rename_i a b
   have h1 := part_len a (twoR n)
   have h2 := part_len b (twoR n + 1)
   simp only [List.length_cons, List.length_append, sumN_cons]; omega
  ·simp
 split
 ·split
  ·rename_i a b c
   have h1 := part_len a 1
   simp only [List.length_cons, List.length_append, sumN_cons]; omega
  ·simp
 split
 ·rw [cub_len]; omega
 split
 ·split
  ·rename_i a b
   simp only [cub_len, List.length_append, sumN_cons]; omega
  ·simp
 ·simp only [List.length_cons, par_len]; omega
theorem expr_len : ∀ x : X, (exprT x).length + 3 ≤ 8 * sizeX x := by
 refine X.ind ?_
 intro x ih
 rw [exprT_eq, sizeX_eq, sizeXs_sum]
 have h := node_len x.op x.name x.n x.w x.v (x.l.map fun y => (rankX y, exprT y))
 rw [sumN_map] at h
 have h : _ ≤ 5 + sumN (fun y => (exprT y).length + 3) x.l := h
 have h2 := sumN_le (l := x.l) (f := fun y => (exprT y).length + 3) (g := fun y => 8 * sizeX y) ih
 rw [sumN_mul] at h2
 omega
theorem exprs_len (s : Ln) (l : List X) : (sepS s (l.map exprT)).length ≤ 8 * sumN sizeX l := by
 refine Nat.le_trans (sep_len s _) ?_
 rw [sumN_map, ← sumN_mul]
 exact sumN_le fun x _ => by have := expr_len x; omega
theorem st_len (put : Ln) (op : Int) (name : Ln) (x : List X) (l : List S) (ts : List (List Tok)) : (stT put op name x l ts).length ≤ 8 + 8 * sumN sizeX x + sumN List.length ts := by
 have h1 := exprs_len put x
 have h2 := exprs_len [44] x
 have h3 := exprs_len [46, 46] x
 have h4 := flat_len ts
 unfold stT
 split
 ·simp only [List.length_append, List.length_cons, List.length_nil]; omega
 split
 ·split
  ·simp only [List.length_cons, List.length_append, par_len, listT, sumN_cons]
   split <;> simp only [List.length_cons, List.length_nil] <;> omega
  ·simp
 split
 ·simp only [List.length_cons, List.length_append, par_len, cub_len, listT]; omega
 split
 ·split
  ·simp only [List.length_cons, List.length_append, cub_len, listT]; omega
  ·split
   ·simp
   ·simp only [List.length_cons, cub_len]; omega
 split
 ·simp only [List.length_cons, List.length_append, cub_len, spanT, par_len]; omega
 ·rw [cub_len]; omega
theorem stmt_len (put : Ln) : ∀ s : S, (stmtT put s).length ≤ 8 * sizeS s := by
 refine S.ind ?_
 intro s ih
 rw [stmtT_eq, sizeS_eq, sizeXs_sum, sizeSs_sum]
 have h := st_len put s.op s.name s.x s.l (s.l.map (stmtT put))
 rw [sumN_map] at h
 have h2 := sumN_le (l := s.l) (f := fun y => (stmtT put y).length) (g := fun y => 8 * sizeS y) ih
 rw [sumN_mul] at h2
 omega
theorem block_len (put : Ln) (l : List S) : (blockT put l).length ≤ 8 * sumN sizeS l + 2 := by
 unfold blockT
 rw [cub_len, stmtsT_map, flat_len, sumN_map, ← sumN_mul]
 have := sumN_le (l := l) (f := fun y => (stmtT put y).length) (g := fun y => 8 * sizeS y) (fun y _ => stmt_len put y)
 omega
theorem binds_len (l : List Bd) : (bindsT l).length ≤ 8 * sumN sizeB l + 2 := by
 unfold bindsT
 rw [par_len]
 have h := sep_len [44] (l.map bindT)
 rw [sumN_map] at h
 have h2 := sumN_le (l := l) (f := fun b => (bindT b).length + 1) (g := fun b => 8 * sizeB b) (fun b _ => by
  have := expr_len b.x
  simp only [bindT, List.length_cons, sizeB]; omega)
 rw [sumN_mul] at h2
 omega
theorem params_len (l : List Bd) : (paramsT l).length ≤ 8 * sumN sizeB l + 3 := by
 unfold paramsT
 split
 ·simp
 ·have := binds_len l
  simp only [List.length_cons]; omega
theorem it_len (op : Int) (name f : Ln) (x : List X) (s : List S) (e : List It) (ps bs : List Bd) (tl te : List (List Tok)) : (itT op name f x s e ps bs tl te).length ≤ 16 + 8 * sumN sizeX x + 8 * sumN sizeS s + 8 * sumN sizeB ps + 8 * sumN sizeB bs + sumN List.length tl + sumN List.length te := by
 have h1 := exprs_len [61] x
 have h2 := exprs_len [44] x
 have h3 := exprs_len [46, 46] x
 have h4 := flat_len tl
 have h5 := flat_len te
 have h6 := block_len [61] s
 have h7 := block_len [60, 61] s
 have h8 := params_len ps
 have h9 := binds_len bs
 unfold itT
 repeat' split
 all_goals simp only [List.length_cons, List.length_append, List.length_nil, par_len, cub_len, listT, spanT]
 all_goals omega
theorem item_len : ∀ t : It, (itemT t).length ≤ 16 * sizeI t := by
 refine It.ind ?_
 intro t ihl ihe
 obtain ⟨op, name, f, x, s, l, e, ps, bb⟩ := t
 rw [itemT_eq, sizeI, sizeXs_sum, sizeSs_sum, sizeIs_sum, sizeIs_sum]
 simp only [It.op, It.name, It.of, It.x, It.s, It.l, It.e, It.ps, It.bs] at ihl ihe ⊢
 have h := it_len op name f x s e ps bb (l.map itemT) (e.map itemT)
 rw [sumN_map, sumN_map] at h
 have h2 := sumN_le (l := l) (f := fun y => (itemT y).length) (g := fun y => 16 * sizeI y) ihl
 have h3 := sumN_le (l := e) (f := fun y => (itemT y).length) (g := fun y => 16 * sizeI y) ihe
 rw [sumN_mul] at h2 h3
 omega
theorem module_len (m : Md) : (moduleT m).length ≤ 16 * sizeM m := by
 obtain ⟨n, ps, pts, l⟩ := m
 unfold moduleT sizeM
 rw [itemsT_map, sizeIs_sum]
 have h8 := params_len ps
 have h5 := flat_len (l.map itemT)
 rw [sumN_map] at h5
 have h2 := sumN_le (l := l) (f := fun y => (itemT y).length) (g := fun y => 16 * sizeI y) (fun y _ => item_len y)
 have h := sep_len [44] (pts.map portT)
 rw [sumN_map] at h
 have h3 := sumN_le (l := pts) (f := fun b => (portT b).length + 1) (g := fun b => 16 * sizeP b) (fun b _ => by
  have := expr_len b.w
  simp only [portT, List.length_cons, sizeP]; omega)
 rw [sumN_mul] at h2 h3
 simp only [List.length_cons, List.length_append, par_len, cub_len]
 omega
theorem file_len (f : List Md) : (fileT f).length ≤ 16 * sumN sizeM f := by
 unfold fileT
 rw [flat_len, sumN_map, ← sumN_mul]
 exact sumN_le fun m _ => module_len m
end Go.Proofs.Spl
namespace Go.Proofs.YtlcfpdmicpggbaaGreatDoor
open Go.RowKit Go.Proofs.Spl Go.Proofs.Scn Go.Shelf
theorem good_out (op : Int) (name : Ln) (n w : Int) (v : Nat) (vl : Value) (hop : op < 1 ∨ 11 ≤ op) (W : World) :
  Calls Tryz.prog 132 #[.agg #[.int .i64 op, .string (bs name), .int .i64 n, .int .i64 w, .int .u64 v, vl]] W fun e W' => e = .returned (.bool false) ∧ Below W.heap.size W W' := by
 by_cases h1 : op < 1
 ·have hd : decide (op < 1) = true := by simpa using h1
  go_enter Tryz.func132, Tryz.ntmps132
  go_wp2
  go_ret
  exact ⟨rfl, (Below.refl _ _).alloc (Nat.le_refl _) _⟩
 ·have h2 : 11 ≤ op := by omega
  have hd : decide (op < 1) = false := by simpa using h1
  have hd2 : decide (11 ≤ op) = true := by simpa using h2
  go_enter Tryz.func132, Tryz.ntmps132
  go_wp2
  go_ret
  exact ⟨rfl, (Below.refl _ _).alloc (Nat.le_refl _) _⟩
theorem good_min (k : Nat) (h1 : 1 ≤ k) (h2 : k ≤ 10) (name : Ln) (n w : Int) (v : Nat) (p : Option Addr) (m c : Nat) (hm : m < kMin k) (W : World) (hB : BaseA W) :
  Calls Tryz.prog 132 #[.agg #[.int .i64 k, .string (bs name), .int .i64 n, .int .i64 w, .int .u64 v, .slice p m c]] W fun e W' => e = .returned (.bool false) ∧ Below W.heap.size W W' := by
 have hk1 : ¬ ((k : Int) < 1) := by omega
 have hk2 : ¬ (11 ≤ (k : Int)) := by omega
 have hd : decide ((k : Int) < 1) = false := by simpa using hk1
 have hd2 : decide (11 ≤ (k : Int)) = false := by simpa using hk2
 have hk3 : k < 11 := by omega
 have hk4 : (k : Int) < 11 := by omega
 have hm2 : (m : Int) < (kMin k : Int) := by omega
 obtain ⟨c0, c1, c2, c3, c4⟩ := (hB.alloc (.cells #[.int .i64 k, .string (bs name), .int .i64 n, .int .i64 w, .int .u64 v, .slice p m c] 28)).kinds k hk3
 generalize kMin k = q1 at *
 generalize kMax k = q2 at *
 generalize kLo k = q3 at *
 generalize kHi k = q4 at *
 generalize kNamed k = q0 at *
 clear hB
 go_enter Tryz.func132, Tryz.ntmps132
 go_wp2
 go_ret
 exact ⟨rfl, ((Below.refl _ _).alloc (Nat.le_refl _) _).alloc (by simp) _⟩
theorem good_max (k : Nat) (h1 : 1 ≤ k) (h2 : k ≤ 10) (name : Ln) (n w : Int) (v : Nat) (p : Option Addr) (m c : Nat) (hm : kMin k ≤ m) (hn : kMax k < m) (W : World) (hB : BaseA W) :
  Calls Tryz.prog 132 #[.agg #[.int .i64 k, .string (bs name), .int .i64 n, .int .i64 w, .int .u64 v, .slice p m c]] W fun e W' => e = .returned (.bool false) ∧ Below W.heap.size W W' := by
 have hk1 : ¬ ((k : Int) < 1) := by omega
 have hk2 : ¬ (11 ≤ (k : Int)) := by omega
 have hd : decide ((k : Int) < 1) = false := by simpa using hk1
 have hd2 : decide (11 ≤ (k : Int)) = false := by simpa using hk2
 have hk3 : k < 11 := by omega
 have hk4 : (k : Int) < 11 := by omega
 have hm2 : ¬ ((m : Int) < (kMin k : Int)) := by omega
 have hm3 : (kMax k : Int) < (m : Int) := by omega
 obtain ⟨c0, c1, c2, c3, c4⟩ := (hB.alloc (.cells #[.int .i64 k, .string (bs name), .int .i64 n, .int .i64 w, .int .u64 v, .slice p m c] 28)).kinds k hk3
 generalize kMin k = q1 at *
 generalize kMax k = q2 at *
 generalize kLo k = q3 at *
 generalize kHi k = q4 at *
 generalize kNamed k = q0 at *
 clear hB
 go_enter Tryz.func132, Tryz.ntmps132
 go_wp2
 go_ret
 exact ⟨rfl, ((Below.refl _ _).alloc (Nat.le_refl _) _).alloc (by simp) _⟩
theorem good_lo (k : Nat) (h1 : 1 ≤ k) (h2 : k ≤ 10) (name : Ln) (n w : Int) (v : Nat) (p : Option Addr) (m c : Nat) (hm : kMin k ≤ m) (hm0 : m ≤ kMax k) (hn : n < kLo k) (W : World) (hB : BaseA W) :
  Calls Tryz.prog 132 #[.agg #[.int .i64 k, .string (bs name), .int .i64 n, .int .i64 w, .int .u64 v, .slice p m c]] W fun e W' => e = .returned (.bool false) ∧ Below W.heap.size W W' := by
 have hk1 : ¬ ((k : Int) < 1) := by omega
 have hk2 : ¬ (11 ≤ (k : Int)) := by omega
 have hd : decide ((k : Int) < 1) = false := by simpa using hk1
 have hd2 : decide (11 ≤ (k : Int)) = false := by simpa using hk2
 have hk3 : k < 11 := by omega
 have hk4 : (k : Int) < 11 := by omega
 have hm2 : ¬ ((m : Int) < (kMin k : Int)) := by omega
 have hm3 : ¬ ((kMax k : Int) < (m : Int)) := by omega
 have hm4 : n < kLo k := hn
 obtain ⟨c0, c1, c2, c3, c4⟩ := (hB.alloc (.cells #[.int .i64 k, .string (bs name), .int .i64 n, .int .i64 w, .int .u64 v, .slice p m c] 28)).kinds k hk3
 generalize kMin k = q1 at *
 generalize kMax k = q2 at *
 generalize kLo k = q3 at *
 generalize kHi k = q4 at *
 generalize kNamed k = q0 at *
 clear hB
 go_enter Tryz.func132, Tryz.ntmps132
 go_wp2
 go_ret
 exact ⟨rfl, ((Below.refl _ _).alloc (Nat.le_refl _) _).alloc (by simp) _⟩
theorem good_hi (k : Nat) (h1 : 1 ≤ k) (h2 : k ≤ 10) (name : Ln) (n w : Int) (v : Nat) (p : Option Addr) (m c : Nat) (hm : kMin k ≤ m) (hm0 : m ≤ kMax k) (hn0 : kLo k ≤ n) (hn : kHi k < n) (W : World) (hB : BaseA W) :
  Calls Tryz.prog 132 #[.agg #[.int .i64 k, .string (bs name), .int .i64 n, .int .i64 w, .int .u64 v, .slice p m c]] W fun e W' => e = .returned (.bool false) ∧ Below W.heap.size W W' := by
 have hk1 : ¬ ((k : Int) < 1) := by omega
 have hk2 : ¬ (11 ≤ (k : Int)) := by omega
 have hd : decide ((k : Int) < 1) = false := by simpa using hk1
 have hd2 : decide (11 ≤ (k : Int)) = false := by simpa using hk2
 have hk3 : k < 11 := by omega
 have hk4 : (k : Int) < 11 := by omega
 have hm2 : ¬ ((m : Int) < (kMin k : Int)) := by omega
 have hm3 : ¬ ((kMax k : Int) < (m : Int)) := by omega
 have hm4 : ¬ (n < kLo k) := by omega
 have hm5 : kHi k < n := hn
 obtain ⟨c0, c1, c2, c3, c4⟩ := (hB.alloc (.cells #[.int .i64 k, .string (bs name), .int .i64 n, .int .i64 w, .int .u64 v, .slice p m c] 28)).kinds k hk3
 generalize kMin k = q1 at *
 generalize kMax k = q2 at *
 generalize kLo k = q3 at *
 generalize kHi k = q4 at *
 generalize kNamed k = q0 at *
 clear hB
 go_enter Tryz.func132, Tryz.ntmps132
 go_wp2
 go_ret
 exact ⟨rfl, ((Below.refl _ _).alloc (Nat.le_refl _) _).alloc (by simp) _⟩
theorem good_w (k : Nat) (h1 : 1 ≤ k) (h2 : k ≤ 10) (name : Ln) (n w : Int) (v : Nat) (p : Option Addr) (m c : Nat) (hm : kMin k ≤ m) (hm0 : m ≤ kMax k) (hn0 : kLo k ≤ n) (hn1 : n ≤ kHi k) (hk : k ≠ 1) (hw : w ≠ 0) (W : World) (hB : BaseA W) :
  Calls Tryz.prog 132 #[.agg #[.int .i64 k, .string (bs name), .int .i64 n, .int .i64 w, .int .u64 v, .slice p m c]] W fun e W' => e = .returned (.bool false) ∧ Below W.heap.size W W' := by
 have hk1 : ¬ ((k : Int) < 1) := by omega
 have hk2 : ¬ (11 ≤ (k : Int)) := by omega
 have hd : decide ((k : Int) < 1) = false := by simpa using hk1
 have hd2 : decide (11 ≤ (k : Int)) = false := by simpa using hk2
 have hk3 : k < 11 := by omega
 have hk4 : (k : Int) < 11 := by omega
 have hm2 : ¬ ((m : Int) < (kMin k : Int)) := by omega
 have hm3 : ¬ ((kMax k : Int) < (m : Int)) := by omega
 have hm4 : ¬ (n < kLo k) := by omega
 have hm5 : ¬ (kHi k < n) := by omega
 have hk5 : ¬ ((k : Int) = 1) := by omega
 have hk6 : decide ((k : Int) = 1) = false := by simpa using hk5
 have hw2 : decide (w = 0) = false := by simpa using hw
 obtain ⟨c0, c1, c2, c3, c4⟩ := (hB.alloc (.cells #[.int .i64 k, .string (bs name), .int .i64 n, .int .i64 w, .int .u64 v, .slice p m c] 28)).kinds k hk3
 generalize kMin k = q1 at *
 generalize kMax k = q2 at *
 generalize kLo k = q3 at *
 generalize kHi k = q4 at *
 generalize kNamed k = q0 at *
 clear hB
 go_enter Tryz.func132, Tryz.ntmps132
 go_wp2
 go_ret
 exact ⟨rfl, ((Below.refl _ _).alloc (Nat.le_refl _) _).alloc (by simp) _⟩
theorem good_v (k : Nat) (h1 : 1 ≤ k) (h2 : k ≤ 10) (name : Ln) (n  : Int) (v : Nat) (p : Option Addr) (m c : Nat) (hm : kMin k ≤ m) (hm0 : m ≤ kMax k) (hn0 : kLo k ≤ n) (hn1 : n ≤ kHi k) (hk : k ≠ 1) (hv : v ≠ 0) (W : World) (hB : BaseA W) :
  Calls Tryz.prog 132 #[.agg #[.int .i64 k, .string (bs name), .int .i64 n, .int .i64 0, .int .u64 v, .slice p m c]] W fun e W' => e = .returned (.bool false) ∧ Below W.heap.size W W' := by
 have hk1 : ¬ ((k : Int) < 1) := by omega
 have hk2 : ¬ (11 ≤ (k : Int)) := by omega
 have hd : decide ((k : Int) < 1) = false := by simpa using hk1
 have hd2 : decide (11 ≤ (k : Int)) = false := by simpa using hk2
 have hk3 : k < 11 := by omega
 have hk4 : (k : Int) < 11 := by omega
 have hm2 : ¬ ((m : Int) < (kMin k : Int)) := by omega
 have hm3 : ¬ ((kMax k : Int) < (m : Int)) := by omega
 have hm4 : ¬ (n < kLo k) := by omega
 have hm5 : ¬ (kHi k < n) := by omega
 have hk5 : ¬ ((k : Int) = 1) := by omega
 have hk6 : decide ((k : Int) = 1) = false := by simpa using hk5
 have hv2 : decide ((v : Int) = 0) = false := by simpa using hv
 have hv3 : ¬ ((v : Int) = 0) := by omega
 obtain ⟨c0, c1, c2, c3, c4⟩ := (hB.alloc (.cells #[.int .i64 k, .string (bs name), .int .i64 n, .int .i64 0, .int .u64 v, .slice p m c] 28)).kinds k hk3
 generalize kMin k = q1 at *
 generalize kMax k = q2 at *
 generalize kLo k = q3 at *
 generalize kHi k = q4 at *
 generalize kNamed k = q0 at *
 clear hB
 go_enter Tryz.func132, Tryz.ntmps132
 go_wp2
 go_ret
 exact ⟨rfl, ((Below.refl _ _).alloc (Nat.le_refl _) _).alloc (by simp) _⟩
theorem good_named (k : Nat) (h1 : 1 ≤ k) (h2 : k ≤ 10) (name : Ln) (n  : Int) (p : Option Addr) (m c : Nat) (hm : kMin k ≤ m) (hm0 : m ≤ kMax k) (hn0 : kLo k ≤ n) (hn1 : n ≤ kHi k) (hk : k ≠ 1) (hnm : kNamed k = true) (hs : name.length ≤ 140737488355328) (W : World) (hB : BaseA W) :
  Calls Tryz.prog 132 #[.agg #[.int .i64 k, .string (bs name), .int .i64 n, .int .i64 0, .int .u64 0, .slice p m c]] W fun e W' => e = .returned (.bool (isName name)) ∧ Below W.heap.size W W' := by
 have hk1 : ¬ ((k : Int) < 1) := by omega
 have hk2 : ¬ (11 ≤ (k : Int)) := by omega
 have hd : decide ((k : Int) < 1) = false := by simpa using hk1
 have hd2 : decide (11 ≤ (k : Int)) = false := by simpa using hk2
 have hk3 : k < 11 := by omega
 have hk4 : (k : Int) < 11 := by omega
 have hm2 : ¬ ((m : Int) < (kMin k : Int)) := by omega
 have hm3 : ¬ ((kMax k : Int) < (m : Int)) := by omega
 have hm4 : ¬ (n < kLo k) := by omega
 have hm5 : ¬ (kHi k < n) := by omega
 have hk5 : ¬ ((k : Int) = 1) := by omega
 have hk6 : decide ((k : Int) = 1) = false := by simpa using hk5
 have HN := Lib.hid (aname_any name hs ((W.alloc (.cells #[.int .i64 k, .string (bs name), .int .i64 n, .int .i64 0, .int .u64 0, .slice p m c] 28)).alloc (.cells #[.bool true, .int .i64 (kMin k : Nat), .int .i64 (kMax k : Nat), .int .i64 (kLo k), .int .i64 (kHi k)] 202)) ((hB.alloc _).alloc _).base)
 have HC := Lib.hid (show ((W.alloc (.cells #[.int .i64 k, .string (bs name), .int .i64 n, .int .i64 0, .int .u64 0, .slice p m c] 28)).alloc (.cells #[.bool true, .int .i64 (kMin k : Nat), .int .i64 (kMax k : Nat), .int .i64 (kLo k), .int .i64 (kHi k)] 202)).cell? ⟨W.heap.size + 1, 0, none⟩ = some (.bool true) from by have := World.alloc_heap_new (W.alloc (.cells #[.int .i64 k, .string (bs name), .int .i64 n, .int .i64 0, .int .u64 0, .slice p m c] 28)) (.cells #[.bool true, .int .i64 (kMin k : Nat), .int .i64 (kMax k : Nat), .int .i64 (kLo k), .int .i64 (kHi k)] 202); rw [World.size_alloc] at this; exact (cell_of_row _ _ _ _ _ _ this).trans rfl)
 obtain ⟨c0, c1, c2, c3, c4⟩ := (hB.alloc (.cells #[.int .i64 k, .string (bs name), .int .i64 n, .int .i64 0, .int .u64 0, .slice p m c] 28)).kinds k hk3
 rw [hnm] at c0
 generalize kMin k = q1 at *
 generalize kMax k = q2 at *
 generalize kLo k = q3 at *
 generalize kHi k = q4 at *
 generalize kNamed k = q0 at *
 clear hB
 go_enter Tryz.func132, Tryz.ntmps132
 cases hin : isName name with
 | true =>
  rw [hin] at HN
  go_wp2_with (go_at_call 158; refine HN.out.mono ?_; rintro e W3 ⟨rfl, hb⟩; have hcb := (hb.cell (p := ⟨W.heap.size + 1, 0, none⟩) (by simp)).trans HC.out; have HB := Lib.hid hb; clear hb)
  go_ret
  exact ⟨rfl, (((Below.refl _ _).alloc (Nat.le_refl _) _).alloc (by simp) _).trans (HB.out.mono (by simp; omega))⟩
 | false =>
  rw [hin] at HN
  go_wp2_with (go_at_call 158; refine HN.out.mono ?_; rintro e W3 ⟨rfl, hb⟩; have hcb := (hb.cell (p := ⟨W.heap.size + 1, 0, none⟩) (by simp)).trans HC.out; have HB := Lib.hid hb; clear hb)
  go_ret
  exact ⟨rfl, (((Below.refl _ _).alloc (Nat.le_refl _) _).alloc (by simp) _).trans (HB.out.mono (by simp; omega))⟩
theorem good_bare (k : Nat) (h1 : 1 ≤ k) (h2 : k ≤ 10) (n  : Int) (p : Option Addr) (m c : Nat) (hm : kMin k ≤ m) (hm0 : m ≤ kMax k) (hn0 : kLo k ≤ n) (hn1 : n ≤ kHi k) (hk : k ≠ 1) (hnm : kNamed k = false) (W : World) (hB : BaseA W) :
  Calls Tryz.prog 132 #[.agg #[.int .i64 k, .string (bs []), .int .i64 n, .int .i64 0, .int .u64 0, .slice p m c]] W fun e W' => e = .returned (.bool true) ∧ Below W.heap.size W W' := by
 have hk1 : ¬ ((k : Int) < 1) := by omega
 have hk2 : ¬ (11 ≤ (k : Int)) := by omega
 have hd : decide ((k : Int) < 1) = false := by simpa using hk1
 have hd2 : decide (11 ≤ (k : Int)) = false := by simpa using hk2
 have hk3 : k < 11 := by omega
 have hk4 : (k : Int) < 11 := by omega
 have hm2 : ¬ ((m : Int) < (kMin k : Int)) := by omega
 have hm3 : ¬ ((kMax k : Int) < (m : Int)) := by omega
 have hm4 : ¬ (n < kLo k) := by omega
 have hm5 : ¬ (kHi k < n) := by omega
 have hk5 : ¬ ((k : Int) = 1) := by omega
 have hk6 : decide ((k : Int) = 1) = false := by simpa using hk5
 have hse : (bs []).toList.isEmpty = true := by rw [Lib.toList_data, list_bs]; rfl
 obtain ⟨c0, c1, c2, c3, c4⟩ := (hB.alloc (.cells #[.int .i64 k, .string (bs []), .int .i64 n, .int .i64 0, .int .u64 0, .slice p m c] 28)).kinds k hk3
 rw [hnm] at c0
 generalize kMin k = q1 at *
 generalize kMax k = q2 at *
 generalize kLo k = q3 at *
 generalize kHi k = q4 at *
 generalize kNamed k = q0 at *
 clear hB
 go_enter Tryz.func132, Tryz.ntmps132
 go_wp2
 go_ret
 exact ⟨rfl, ((Below.refl _ _).alloc (Nat.le_refl _) _).alloc (by simp) _⟩
theorem good_barex (k : Nat) (h1 : 1 ≤ k) (h2 : k ≤ 10) (name : Ln) (n  : Int) (p : Option Addr) (m c : Nat) (hm : kMin k ≤ m) (hm0 : m ≤ kMax k) (hn0 : kLo k ≤ n) (hn1 : n ≤ kHi k) (hk : k ≠ 1) (hnm : kNamed k = false) (hs : name ≠ []) (W : World) (hB : BaseA W) :
  Calls Tryz.prog 132 #[.agg #[.int .i64 k, .string (bs name), .int .i64 n, .int .i64 0, .int .u64 0, .slice p m c]] W fun e W' => e = .returned (.bool false) ∧ Below W.heap.size W W' := by
 have hk1 : ¬ ((k : Int) < 1) := by omega
 have hk2 : ¬ (11 ≤ (k : Int)) := by omega
 have hd : decide ((k : Int) < 1) = false := by simpa using hk1
 have hd2 : decide (11 ≤ (k : Int)) = false := by simpa using hk2
 have hk3 : k < 11 := by omega
 have hk4 : (k : Int) < 11 := by omega
 have hm2 : ¬ ((m : Int) < (kMin k : Int)) := by omega
 have hm3 : ¬ ((kMax k : Int) < (m : Int)) := by omega
 have hm4 : ¬ (n < kLo k) := by omega
 have hm5 : ¬ (kHi k < n) := by omega
 have hk5 : ¬ ((k : Int) = 1) := by omega
 have hk6 : decide ((k : Int) = 1) = false := by simpa using hk5
 have hse : (bs name).toList.isEmpty = false := by rw [Lib.toList_data, list_bs]; simpa using hs
 obtain ⟨c0, c1, c2, c3, c4⟩ := (hB.alloc (.cells #[.int .i64 k, .string (bs name), .int .i64 n, .int .i64 0, .int .u64 0, .slice p m c] 28)).kinds k hk3
 rw [hnm] at c0
 generalize kMin k = q1 at *
 generalize kMax k = q2 at *
 generalize kLo k = q3 at *
 generalize kHi k = q4 at *
 generalize kNamed k = q0 at *
 clear hB
 go_enter Tryz.func132, Tryz.ntmps132
 go_wp2
 go_ret
 exact ⟨rfl, ((Below.refl _ _).alloc (Nat.le_refl _) _).alloc (by simp) _⟩
theorem good_num_name (name : Ln) ( w : Int) (v : Nat) (p : Option Addr) (c : Nat) (hs : name ≠ []) (W : World) (hB : BaseA W) :
  Calls Tryz.prog 132 #[.agg #[.int .i64 1, .string (bs name), .int .i64 0, .int .i64 w, .int .u64 v, .slice p 0 c]] W fun e W' => e = .returned (.bool false) ∧ Below W.heap.size W W' := by
 have hse : (bs name).toList.isEmpty = false := by rw [Lib.toList_data, list_bs]; simpa using hs
 obtain ⟨c0, c1, c2, c3, c4⟩ := (hB.alloc (.cells #[.int .i64 1, .string (bs name), .int .i64 0, .int .i64 w, .int .u64 v, .slice p 0 c] 28)).kinds 1 (by decide)
 simp only [show kNamed 1 = false from rfl, show kMin 1 = 0 from rfl, show kMax 1 = 0 from rfl, show kLo 1 = 0 from rfl, show kHi 1 = 0 from rfl, Nat.one_mul] at c0 c1 c2 c3 c4
 clear hB
 go_enter Tryz.func132, Tryz.ntmps132
 go_wp2_with fail
 go_quiet (fail)
 go_wp2
 go_ret
 exact ⟨rfl, below_drewN (((Below.refl _ _).alloc (Nat.le_refl _) _).alloc (by simp) _) _⟩
theorem good_num_neg ( w : Int) (v : Nat) (p : Option Addr) (c : Nat) (hw : w < 0) (W : World) (hB : BaseA W) :
  Calls Tryz.prog 132 #[.agg #[.int .i64 1, .string (bs []), .int .i64 0, .int .i64 w, .int .u64 v, .slice p 0 c]] W fun e W' => e = .returned (.bool false) ∧ Below W.heap.size W W' := by
 have hw2 : ¬ (0 ≤ w) := by omega
 have hw3 : decide (0 ≤ w) = false := by simpa using hw2
 have hse : (bs []).toList.isEmpty = true := by rw [Lib.toList_data, list_bs]; rfl
 obtain ⟨c0, c1, c2, c3, c4⟩ := (hB.alloc (.cells #[.int .i64 1, .string (bs []), .int .i64 0, .int .i64 w, .int .u64 v, .slice p 0 c] 28)).kinds 1 (by decide)
 simp only [show kNamed 1 = false from rfl, show kMin 1 = 0 from rfl, show kMax 1 = 0 from rfl, show kLo 1 = 0 from rfl, show kHi 1 = 0 from rfl, Nat.one_mul] at c0 c1 c2 c3 c4
 clear hB
 go_enter Tryz.func132, Tryz.ntmps132
 go_wp2_with fail
 go_quiet (fail)
 go_wp2
 go_ret
 exact ⟨rfl, below_drewN (((Below.refl _ _).alloc (Nat.le_refl _) _).alloc (by simp) _) _⟩
theorem good_num_big ( w : Int) (v : Nat) (p : Option Addr) (c : Nat) (hw0 : 0 ≤ w) (hw : 64 < w) (W : World) (hB : BaseA W) :
  Calls Tryz.prog 132 #[.agg #[.int .i64 1, .string (bs []), .int .i64 0, .int .i64 w, .int .u64 v, .slice p 0 c]] W fun e W' => e = .returned (.bool false) ∧ Below W.heap.size W W' := by
 have hw2 : ¬ (w ≤ 64) := by omega
 have hw3 : decide (w ≤ 64) = false := by simpa using hw2
 have hse : (bs []).toList.isEmpty = true := by rw [Lib.toList_data, list_bs]; rfl
 obtain ⟨c0, c1, c2, c3, c4⟩ := (hB.alloc (.cells #[.int .i64 1, .string (bs []), .int .i64 0, .int .i64 w, .int .u64 v, .slice p 0 c] 28)).kinds 1 (by decide)
 simp only [show kNamed 1 = false from rfl, show kMin 1 = 0 from rfl, show kMax 1 = 0 from rfl, show kLo 1 = 0 from rfl, show kHi 1 = 0 from rfl, Nat.one_mul] at c0 c1 c2 c3 c4
 clear hB
 go_enter Tryz.func132, Tryz.ntmps132
 go_wp2_with fail
 go_quiet (fail)
 go_wp2
 go_ret
 exact ⟨rfl, below_drewN (((Below.refl _ _).alloc (Nat.le_refl _) _).alloc (by simp) _) _⟩
theorem good_num_zero (v : Nat) (p : Option Addr) (c : Nat)  (W : World) (hB : BaseA W) :
  Calls Tryz.prog 132 #[.agg #[.int .i64 1, .string (bs []), .int .i64 0, .int .i64 0, .int .u64 v, .slice p 0 c]] W fun e W' => e = .returned (.bool true) ∧ Below W.heap.size W W' := by
 have hse : (bs []).toList.isEmpty = true := by rw [Lib.toList_data, list_bs]; rfl
 obtain ⟨c0, c1, c2, c3, c4⟩ := (hB.alloc (.cells #[.int .i64 1, .string (bs []), .int .i64 0, .int .i64 0, .int .u64 v, .slice p 0 c] 28)).kinds 1 (by decide)
 simp only [show kNamed 1 = false from rfl, show kMin 1 = 0 from rfl, show kMax 1 = 0 from rfl, show kLo 1 = 0 from rfl, show kHi 1 = 0 from rfl, Nat.one_mul] at c0 c1 c2 c3 c4
 clear hB
 go_enter Tryz.func132, Tryz.ntmps132
 go_wp2_with fail
 go_quiet (fail)
 go_wp2
 go_ret
 exact ⟨rfl, below_drewN (((Below.refl _ _).alloc (Nat.le_refl _) _).alloc (by simp) _) _⟩
theorem good_num_all (v : Nat) (p : Option Addr) (c : Nat)  (W : World) (hB : BaseA W) :
  Calls Tryz.prog 132 #[.agg #[.int .i64 1, .string (bs []), .int .i64 0, .int .i64 64, .int .u64 v, .slice p 0 c]] W fun e W' => e = .returned (.bool true) ∧ Below W.heap.size W W' := by
 have hse : (bs []).toList.isEmpty = true := by rw [Lib.toList_data, list_bs]; rfl
 obtain ⟨c0, c1, c2, c3, c4⟩ := (hB.alloc (.cells #[.int .i64 1, .string (bs []), .int .i64 0, .int .i64 64, .int .u64 v, .slice p 0 c] 28)).kinds 1 (by decide)
 simp only [show kNamed 1 = false from rfl, show kMin 1 = 0 from rfl, show kMax 1 = 0 from rfl, show kLo 1 = 0 from rfl, show kHi 1 = 0 from rfl, Nat.one_mul] at c0 c1 c2 c3 c4
 clear hB
 go_enter Tryz.func132, Tryz.ntmps132
 go_wp2_with fail
 go_quiet (fail)
 go_wp2
 go_ret
 exact ⟨rfl, below_drewN (((Below.refl _ _).alloc (Nat.le_refl _) _).alloc (by simp) _) _⟩
theorem good_num_mid (v : Nat) (p : Option Addr) (c : Nat) (d : Nat) (hd0 : 0 < d) (hd1 : d < 64) (W : World) (hB : BaseA W) :
  Calls Tryz.prog 132 #[.agg #[.int .i64 1, .string (bs []), .int .i64 0, .int .i64 (d : Nat), .int .u64 v, .slice p 0 c]] W fun e W' => e = .returned (.bool (decide (v < 2 ^ d))) ∧ Below W.heap.size W W' := by
 have hw1 : (0 : Int) ≤ (d : Int) := by omega
 have hw2 : (d : Int) ≤ 64 := by omega
 have hw3 : ¬ ((d : Int) = 0) := by omega
 have hw4 : ¬ ((d : Int) = 64) := by omega
 have hw5 : ((d : Int) == 0) = false := by simp; omega
 have hw6 : ((d : Int) == 64) = false := by simp; omega
 have hw7 : decide ((d : Int) = 0) = false := by simp; omega
 have hw8 : decide ((d : Int) = 64) = false := by simp; omega
 have hsh : (1 : Int) * 2 ^ d = ((2 ^ d : Nat) : Int) := by simp
 have hse : (bs []).toList.isEmpty = true := by rw [Lib.toList_data, list_bs]; rfl
 obtain ⟨c0, c1, c2, c3, c4⟩ := (hB.alloc (.cells #[.int .i64 1, .string (bs []), .int .i64 0, .int .i64 (d : Nat), .int .u64 v, .slice p 0 c] 28)).kinds 1 (by decide)
 simp only [show kNamed 1 = false from rfl, show kMin 1 = 0 from rfl, show kMax 1 = 0 from rfl, show kLo 1 = 0 from rfl, show kHi 1 = 0 from rfl, Nat.one_mul] at c0 c1 c2 c3 c4
 clear hB
 go_enter Tryz.func132, Tryz.ntmps132
 go_wp2_with fail
 go_quiet (fail)
 go_wp2
 go_ret
 refine ⟨?_, below_drewN (((Below.refl _ _).alloc (Nat.le_refl _) _).alloc (by simp) _) _⟩
 have hpow : (2 ^ d : Nat) < 2 ^ 64 := Nat.pow_lt_pow_right (by decide) hd1
 have hcast : ((2 : Int) ^ d) = ((2 ^ d : Nat) : Int) := by simp
 have hwr : IntKind.u64.wrap ((2 : Int) ^ d) = ((2 ^ d : Nat) : Int) := by
  have h2 : ∀ z : Nat, z < 18446744073709551616 → IntKind.u64.wrap (z : Int) = (z : Int) := fun z hz => Go.IntWalk.u64_in _ (by omega)
  rw [hcast]
  exact h2 _ hpow
 simp only [Array.getD_eq_getD_getElem?]
 simp [hwr]
 rw [hcast]
 exact Int.ofNat_lt
end Go.Proofs.YtlcfpdmicpggbaaGreatDoor
namespace Go.Proofs.YtlcfpdmicpggbaaGreatDoor
open Go.RowKit Go.Proofs.Spl Go.Proofs.Scn Go.Shelf
theorem good_ok (op : Int) (name : Ln) (n w : Int) (v : Nat) (p : Option Addr) (m c : Nat) (hm : m ≤ 65536) (hs : name.length ≤ 140737488355328) (hv : v < two64) (W : World) (hB : BaseA W) :
  Calls Tryz.prog 132 #[.agg #[.int .i64 op, .string (bs name), .int .i64 n, .int .i64 w, .int .u64 v, .slice p m c]] W fun e W' => e = .returned (.bool (okNode op name n w v m)) ∧ Below W.heap.size W W' := by
 by_cases hop : op < 1 ∨ 11 ≤ op
 ·have h : okNode op name n w v m = false := by
   have : partsO op m = false := by
    unfold partsO
    rw [if_neg (by omega), if_neg (by omega), if_neg (by omega), if_neg (by omega), if_neg (by omega)]
   simp [okNode, this]
  rw [h]
  exact good_out op name n w v _ hop W
 obtain ⟨k, rfl⟩ : ∃ k : Nat, op = k := ⟨op.toNat, by omega⟩
 have h1 : 1 ≤ k := by omega
 have h2 : k ≤ 10 := by omega
 rw [kind_law k h1 h2 name n w v m hm]
 by_cases c1 : kMin k ≤ m
 case neg =>
  rw [decide_eq_false c1]
  simp only [Bool.false_and]
  exact good_min k h1 h2 name n w v p m c (by omega) W hB
 by_cases c2 : m ≤ kMax k
 case neg =>
  rw [decide_eq_false c2]
  simp only [Bool.false_and, Bool.and_false]
  exact good_max k h1 h2 name n w v p m c c1 (by omega) W hB
 by_cases c3 : kLo k ≤ n
 case neg =>
  rw [decide_eq_false c3]
  simp only [Bool.false_and, Bool.and_false]
  exact good_lo k h1 h2 name n w v p m c c1 c2 (by omega) W hB
 by_cases c4 : n ≤ kHi k
 case neg =>
  rw [decide_eq_false c4]
  simp only [Bool.false_and, Bool.and_false]
  exact good_hi k h1 h2 name n w v p m c c1 c2 c3 (by omega) W hB
 rw [decide_eq_true c1, decide_eq_true c2, decide_eq_true c3, decide_eq_true c4]
 simp only [Bool.true_and]
 by_cases hk : k = 1
 ·subst hk
  have hm0 : m = 0 := by simpa [kMax, kMin] using c2
  have hn0 : n = 0 := by
   have a : kLo 1 = 0 := rfl
   have b : kHi 1 = 0 := rfl
   omega
  subst hm0
  subst hn0
  have hnm : kNamed 1 = false := rfl
  rw [hnm]
  simp only [Bool.false_eq_true, if_false]
  by_cases hname : name = []
  case neg =>
   have : name.isEmpty = false := by simpa using hname
   rw [this, Bool.and_false]
   exact good_num_name name w v p c hname W hB
  subst hname
  simp only [List.isEmpty_nil, Bool.and_true]
  have hV : valueO ((1 : Nat) : Int) w v = (decide (0 ≤ w) && decide (w ≤ 64) && (w == 0 || w == 64 || decide (v < 2 ^ w.toNat)) && decide (v < two64)) := rfl
  rw [hV, decide_eq_true hv, Bool.and_true]
  by_cases w0 : 0 ≤ w
  case neg =>
   rw [decide_eq_false w0]
   simp only [Bool.false_and]
   exact good_num_neg w v p c (by omega) W hB
  by_cases w1 : w ≤ 64
  case neg =>
   rw [decide_eq_false w1]
   simp only [Bool.false_and, Bool.and_false]
   exact good_num_big w v p c w0 (by omega) W hB
  rw [decide_eq_true w0, decide_eq_true w1]
  simp only [Bool.true_and]
  by_cases w2 : w = 0
  ·subst w2
   exact good_num_zero v p c W hB
  by_cases w3 : w = 64
  ·subst w3
   exact good_num_all v p c W hB
  obtain ⟨d, rfl⟩ : ∃ d : Nat, w = d := ⟨w.toNat, by omega⟩
  have e1 : ((d : Int) == 0) = false := by simpa using w2
  have e2 : ((d : Int) == 64) = false := by simpa using w3
  rw [e1, e2, Int.toNat_natCast]
  simp only [Bool.false_or]
  exact good_num_mid v p c d (by omega) (by omega) W hB
 ·have hV : valueO (k : Int) w v = (w == 0 && v == 0) := by
   unfold valueO
   rw [if_neg (by omega)]
  rw [hV]
  by_cases w0 : w = 0
  case neg =>
   have : (w == 0) = false := by simpa using w0
   rw [this]
   simp only [Bool.false_and]
   exact good_w k h1 h2 name n w v p m c c1 c2 c3 c4 hk w0 W hB
  subst w0
  by_cases v0 : v = 0
  case neg =>
   have : (v == 0) = false := by simpa using v0
   rw [this]
   simp only [Bool.false_and, Bool.and_false]
   exact good_v k h1 h2 name n v p m c c1 c2 c3 c4 hk v0 W hB
  subst v0
  simp only [beq_self_eq_true, Bool.true_and]
  cases hnm : kNamed k with
  | true =>
   simp only [if_true]
   exact good_named k h1 h2 name n p m c c1 c2 c3 c4 hk hnm hs W hB
  | false =>
   simp only [Bool.false_eq_true, if_false]
   by_cases hname : name = []
   ·subst hname
    exact good_bare k h1 h2 n p m c c1 c2 c3 c4 hk hnm W hB
   ·have : name.isEmpty = false := by simpa using hname
    rw [this]
    exact good_barex k h1 h2 name n p m c c1 c2 c3 c4 hk hnm hname W hB
mutual
def smX : X → Bool
 | .mk _ name _ _ _ l => decide (name.length ≤ 140737488355328) && smXs l
def smXs : List X → Bool
 | [] => true
 | x :: l => smX x && smXs l
end
theorem smXs_all (l : List X) : smXs l = l.all smX := by
 induction l with
 | nil => rw [smXs]; rfl
 | cons x l ih => rw [smXs, ih]; rfl
theorem smX_iff (x : X) : smX x = (decide (x.name.length ≤ 140737488355328) && x.l.all smX) := by
 cases x; rw [smX, smXs_all]; rfl
mutual
def smS : S → Bool
 | .mk _ name x l => decide (name.length ≤ 140737488355328) && x.all smX && smSs l
def smSs : List S → Bool
 | [] => true
 | x :: l => smS x && smSs l
end
theorem smSs_all (l : List S) : smSs l = l.all smS := by
 induction l with
 | nil => rw [smSs]; rfl
 | cons x l ih => rw [smSs, ih]; rfl
theorem smS_iff (x : S) : smS x = (decide (x.name.length ≤ 140737488355328) && x.x.all smX && x.l.all smS) := by
 cases x; rw [smS, smSs_all]; rfl
def smB (b : Bd) : Bool := decide (b.name.length ≤ 140737488355328) && smX b.x
def smP (b : Pt) : Bool := decide (b.name.length ≤ 140737488355328) && smX b.w
mutual
def smI : It → Bool
 | .mk _ name f x s l e ps bb => decide (name.length ≤ 140737488355328) && decide (f.length ≤ 140737488355328) && x.all smX && s.all smS && smIs l && smIs e && ps.all smB && bb.all smB
def smIs : List It → Bool
 | [] => true
 | x :: l => smI x && smIs l
end
theorem smIs_all (l : List It) : smIs l = l.all smI := by
 induction l with
 | nil => rw [smIs]; rfl
 | cons x l ih => rw [smIs, ih]; rfl
theorem smI_iff (x : It) : smI x = (decide (x.name.length ≤ 140737488355328) && decide (x.of.length ≤ 140737488355328) && x.x.all smX && x.s.all smS && x.l.all smI && x.e.all smI && x.ps.all smB && x.bs.all smB) := by
 cases x; rw [smI, smIs_all, smIs_all]; rfl
def smM (m : Md) : Bool := decide (m.name.length ≤ 140737488355328) && m.ps.all smB && m.pts.all smP && m.l.all smI
theorem goodX_ok : ∀ x : X, smX x = true → sizeX x ≤ 65536 → GoodX x := by
 refine X.ind ?_
 intro x ih hsm hsz W cs hB hR
 have hR0 := hR
 obtain ⟨hv, ls, rfl, hL⟩ := XR_iff.1 hR
 rw [smX_iff, Bool.and_eq_true, List.all_eq_true] at hsm
 have hsz' := hsz
 rw [sizeX_eq, sizeXs_sum] at hsz'
 have hlen : x.l.length ≤ 65536 := by have := sumN_len sizeX one_sizeX x.l; omega
 have hL0 := hL
 obtain ⟨p, c, rfl, _⟩ := hL
 have hG := Lib.hid (good_ok x.op x.name x.n x.w x.v p x.l.length c hlen (of_decide_eq_true hsm.1) hv)
 have hA := Lib.hid (fun (W9 : World) (h : Below W.heap.size W W9) => allX_any _ x.l (by omega) W9 (hB.later h) (XsR.later hL0 h) (fun y hy => ih y hy (hsm.2 y hy) (by have := sumN_mem sizeX hy; omega)))
 have hB0 := Lib.hid hB
 have ho : okX x = (okNode x.op x.name x.n x.w x.v x.l.length && x.l.all okX) := okX_iff x
 have B1 := Lib.hid ((Below.refl W.heap.size W).alloc (Nat.le_refl _) (.cells #[.int .i64 x.op, .string (bs x.name), .int .i64 x.n, .int .i64 x.w, .int .u64 x.v, .slice p x.l.length c] 28))
 have HO := Lib.hid ho
 have hcell := World.alloc_heap_new W (.cells #[.int .i64 x.op, .string (bs x.name), .int .i64 x.n, .int .i64 x.w, .int .u64 x.v, .slice p x.l.length c] 28)
 have HC := Lib.hid (show (W.alloc (.cells #[.int .i64 x.op, .string (bs x.name), .int .i64 x.n, .int .i64 x.w, .int .u64 x.v, .slice p x.l.length c] 28)).cell? ⟨W.heap.size, 5, none⟩ = some (.slice p x.l.length c) from (cell_of_row _ _ _ _ _ _ hcell).trans rfl)
 clear hcell ho hR0 hR hB ih hsm hsz hsz' hL0 hlen
 cases hok : okNode x.op x.name x.n x.w x.v x.l.length with
 | false =>
  rw [hok] at hG HO
  go_enter Tryz.func68, Tryz.ntmps68
  go_wp2_with (go_at_call 132; refine (hG.out _ (hB0.out.alloc _)).mono ?_; rintro e W3 ⟨rfl, hb⟩; have B3 := Lib.hid (B1.out.trans (hb.mono B1.out.size)); clear hb)
  go_ret
  exact ⟨by rw [HO.out]; rfl, B3.out⟩
 | true =>
  rw [hok] at hG HO
  go_enter Tryz.func68, Tryz.ntmps68
  go_wp2_with (first
   | (go_at_call 132; refine (hG.out _ (hB0.out.alloc _)).mono ?_; rintro e W3 ⟨rfl, hb⟩; have hc5 := (hb.cell (p := ⟨W.heap.size, 5, none⟩) (by simp)).trans HC.out; have B3 := Lib.hid (B1.out.trans (hb.mono B1.out.size)); clear hb)
   | (go_at_call 133; refine (hA.out _ B3.out).mono ?_; rintro e W4 ⟨rfl, hb⟩; have B4 := Lib.hid (B3.out.trans (hb.mono B3.out.size)); clear hb))
  go_ret
  exact ⟨by rw [HO.out]; rfl, B4.out⟩
end Go.Proofs.YtlcfpdmicpggbaaGreatDoor
