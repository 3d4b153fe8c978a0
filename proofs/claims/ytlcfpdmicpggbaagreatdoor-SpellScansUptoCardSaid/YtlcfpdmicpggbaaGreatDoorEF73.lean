/- Texts of the seat, merged. -/
import Derived.Test.YtlcfpdmicpggbaaGreatDoorB7
import Derived.Test.YtlcfpdmicpggbaaGreatDoorEF72
set_option linter.unusedVariables false
set_option linter.unusedSimpArgs false
set_option maxRecDepth 100000
set_option maxHeartbeats 16000000
namespace Go.Proofs.YtlcfpdmicpggbaaGreatDoor
open Go.RowKit Go.Proofs.Scn Go.Flow Go.Sort
theorem Box5.of_block {w : World} {m : Nat} {a b c d e : Value} {t : TypeId} (h : w.heap[m]? = some (.cells #[a, b, c, d, e] t)) : Box5 w m a b c d e :=
 ⟨by simp [World.cell?, h], by simp [World.cell?, h], by simp [World.cell?, h], by simp [World.cell?, h], by simp [World.cell?, h], by simp [World.frozen?, h], by simp [World.frozen?, h], by simp [World.frozen?, h], by simp [World.frozen?, h], by simp [World.frozen?, h], (Array.getElem?_eq_some_iff.1 h).1⟩
theorem store5 (e : Operand → Value) (x d : Tmp) {W : World} {m : Nat} {a0 b0 c0 d0 e0 : Value} {k w p : Int} {s : ByteArray} {v : Int} {pos : String} {af : Array Edge} {ty : TypeId} (hO : W.heap[m]? = some (.cells #[a0, b0, c0, d0, e0] 55)) (h1 : e (.tmp d) = .pointer (some ⟨m, 0, none⟩)) (h2 : e (.tmp x) = .agg #[.int .i64 k, .string s, .int .i64 w, .int .u64 v, .int .i64 p]) :
  ∃ W', (execOp e { dst := none, op := .store 55 (.tmp d) (.tmp x), type := ty, pos := pos, after := af, guard := none }).run Tryz.prog W = .ok .skip W' ∧ W'.heap[m]? = some (.cells #[.int .i64 k, .string s, .int .i64 w, .int .u64 v, .int .i64 p] 55) ∧ ∀ B, B ≤ m → B ≤ W.heap.size → Below B W W' := by
 obtain ⟨t0, t1, t2, t3, t4, tf0, tf1, tf2, tf3, tf4, tl⟩ := Box5.of_block hO
 refine ⟨((((W.setCell ⟨m, 0, none⟩ (.int .i64 k)).setCell ⟨m, 1, none⟩ (.string s)).setCell ⟨m, 2, none⟩ (.int .i64 w)).setCell ⟨m, 3, none⟩ (.int .u64 v)).setCell ⟨m, 4, none⟩ (.int .i64 p), by go_simp, by simp [World.setCell, Array.getElem?_modify, hO], fun B h _ => (((((Below.refl _ _).setCell h _).setCell h _).setCell h _).setCell h _).setCell h _⟩
theorem dig_facts (s : ByteArray) : ∃ N, N = headN isDigit s.data.toList ∧ N ≤ s.size ∧ (∀ k (h : k < s.size), k < N → isDigit s[k] = true) ∧ (∀ h : N < s.size, isDigit s[N] = false) := head_facts isDigit s
theorem block_alloc (w : World) (o : Obj) : (w.alloc o).heap[w.heap.size]? = some o := by simp [World.alloc, -World.alloc_eq]
theorem figures_wide (s : ByteArray) (hs : s.size ≤ 140737488351232) (N : Nat) (hle : N < s.size) (h1 : ∀ k (h : k < s.size), k < N → isDigit s[k] = true) (h2 : isDigit s[N] = false) (h39 : s[N] = 39) (a w p n er : Int) (S : ByteArray) (v : Nat) (W : World)
  (kw : ∀ W, Calls Tryz.prog 220 #[.string (s.extract 0 N), .string (s.extract N s.size)] W fun e W' => e = .returned (.tuple #[.agg #[.int .i64 a, .string S, .int .i64 w, .int .u64 v, .int .i64 p], .int .i64 n, .int .i64 er]) ∧ Below W.heap.size W W') :
  Calls Tryz.prog 204 #[.string s] W fun e W' => e = .returned (.tuple #[.agg #[.int .i64 a, .string S, .int .i64 w, .int .u64 v, .int .i64 p], .int .i64 n, .int .i64 er]) ∧ Below W.heap.size W W' := by
 have q39 : ((s[N].toNat : Int) == 39) = true := by rw [h39]; rfl
 have kd0 := digit_any s[N]
 rw [h2] at kd0
 have KD0 := Lib.hid kd0
 have H1 := Lib.hid h1
 have KW := Lib.hid kw
 clear h1 h2 h39 kd0 kw
 have hW : Below W.heap.size W (W.alloc (.cells #[.int .i64 0, .string ⟨#[]⟩, .int .i64 0, .int .u64 0, .int .i64 0] 55)) := (Below.refl _ _).alloc (Nat.le_refl _) _
 have hO := block_alloc W (.cells #[.int .i64 0, .string ⟨#[]⟩, .int .i64 0, .int .u64 0, .int .i64 0] 55)
 go_enter Tryz.func204, Tryz.ntmps204
 go_wp2
 generalize W.alloc (.cells #[.int .i64 0, .string ⟨#[]⟩, .int .i64 0, .int .u64 0, .int .i64 0] 55) = X at *
 have HO := Lib.hid hO
 have HW := Lib.hid hW
 clear hO hW
 go_loop [3] (fun i => ∃ k : Nat, k ≤ N ∧ i = .int .i64 k) (fun i => s.size - (intOf i).toNat)
 case atStart => exact ⟨0, Nat.zero_le _, rfl⟩
 case round =>
  obtain ⟨k, hk, rfl⟩ := hrel
  by_cases hlt : k < N
  ·have hks : k < s.size := by omega
   have kd := digit_any s[k]
   rw [H1.out k hks hlt] at kd
   have KD := Lib.hid kd
   clear kd
   go_wp2_with (go_at_call 192; refine (KD.out _).mono ?_; rintro e w' ⟨rfl, rfl⟩)
   go_round
   case rel => exact ⟨k + 1, by omega, by go_num⟩
   case measure => simp [intOf]; omega
  ·obtain rfl : k = N := by omega
   go_wp2_with (go_at_call 192; refine (KD0.out _).mono ?_; rintro e w' ⟨rfl, rfl⟩)
   refine wp_region_store (aF := ?aF) [false, false, false, false, false, false, false, false, false, false, true, false, false] 10 2 38 W.heap.size W.heap.size (.cells #[.int .i64 0, .string ⟨#[]⟩, .int .i64 0, .int .u64 0, .int .i64 0] 55) (.cells #[.int .i64 a, .string S, .int .i64 w, .int .u64 v, .int .i64 p] 55) (.agg #[.int .i64 a, .string S, .int .i64 w, .int .u64 v, .int .i64 p]) (by kernel_rfl) (by kernel_rfl) (by kernel_rfl) (by kernel_rfl) (by kernel_rfl) (by kernel_rfl) rfl (by decide) (by decide) 7 (by kernel_rfl) rfl rfl (by kernel_rfl) rfl ⟨_, rfl, rfl, rfl, fun e W m hO h1 h2 => store5 e 38 2 hO h1 h2⟩ HO.out (Nat.le_refl _) ?hw ?hV ?ht
   case hw =>
    intro Z hz
    simp only [strike]
    have qw := fun d os => Calls.regrown_of (KW.out (grow (redrawn Z d) os))
    repeat (go_big_quiet_step (with_reducible exact qw _ _))
    refine wpQuiet_nil ?_
    exact rfl
   case hV => rfl
   case ht =>
    intro Z hz hO
    obtain ⟨c0, c1, c2, c3, c4, f0, f1, f2, f3, f4, lt⟩ := Box5.of_block hO
    have HZ := Lib.hid (HW.out.trans hz)
    clear hz hO
    go_wp2
    refine bodyPost_ret (v := .tuple #[.agg #[.int .i64 a, .string S, .int .i64 w, .int .u64 v, .int .i64 p], .int .i64 n, .int .i64 er]) ?_ rfl ⟨rfl, HZ.out⟩
    simp [results, Tryz.results204, go_sem, c0, c1, c2, c3, c4, f0, f1, f2, f3, f4]
theorem figures_letter (s : ByteArray) (hs : s.size ≤ 140737488351232) (N : Nat) (hle : N < s.size) (h2 : isDigit s[N] = false) (h1 : ∀ k (h : k < s.size), k < N → isDigit s[k] = true) (h39 : s[N] ≠ 39) (kl : ∀ W, Calls Tryz.prog 203 #[.int .u8 s[N].toNat] W fun e W' => e = .returned (.bool true) ∧ W = W') (W : World) :
  Calls Tryz.prog 204 #[.string s] W fun e W' => e = .returned (.tuple #[.agg #[.int .i64 0, .string ⟨#[]⟩, .int .i64 0, .int .u64 0, .int .i64 0], .int .i64 0, .int .i64 21]) ∧ Below W.heap.size W W' := by
 have kd0 := digit_any s[N]
 rw [h2] at kd0
 have KD0 := Lib.hid kd0
 clear kd0 h2
 have q39 : ((s[N].toNat : Int) == 39) = false := nat_ne 39 rfl h39
 clear h39
 have KL := Lib.hid kl
 clear kl
 have H1 := Lib.hid h1
 clear h1
 have hW : Below W.heap.size W (W.alloc (.cells #[.int .i64 0, .string ⟨#[]⟩, .int .i64 0, .int .u64 0, .int .i64 0] 55)) := (Below.refl _ _).alloc (Nat.le_refl _) _
 have hO := block_alloc W (.cells #[.int .i64 0, .string ⟨#[]⟩, .int .i64 0, .int .u64 0, .int .i64 0] 55)
 go_enter Tryz.func204, Tryz.ntmps204
 go_wp2
 generalize W.alloc (.cells #[.int .i64 0, .string ⟨#[]⟩, .int .i64 0, .int .u64 0, .int .i64 0] 55) = X at *
 have HO := Lib.hid hO
 have HW := Lib.hid hW
 clear hO hW
 go_loop [3] (fun i => ∃ k : Nat, k ≤ N ∧ i = .int .i64 k) (fun i => s.size - (intOf i).toNat)
 case atStart => exact ⟨0, Nat.zero_le _, rfl⟩
 case round =>
  obtain ⟨k, hk, rfl⟩ := hrel
  by_cases hlt : k < N
  ·have hks : k < s.size := by omega
   have kd := digit_any s[k]
   rw [H1.out k hks hlt] at kd
   have KD := Lib.hid kd
   clear kd
   go_wp2_with (go_at_call 192; refine (KD.out _).mono ?_; rintro e w' ⟨rfl, rfl⟩)
   go_round
   case rel => exact ⟨k + 1, by omega, by go_num⟩
   case measure => simp [intOf]; omega
  ·obtain rfl : k = N := by omega
   obtain ⟨c0, c1, c2, c3, c4, f0, f1, f2, f3, f4, lt⟩ := Box5.of_block HO.out
   go_wp2_with (first | (go_at_call 192; refine (KD0.out _).mono ?_; rintro e w' ⟨rfl, rfl⟩) | (go_at_call 203; refine (KL.out _).mono ?_; rintro e w' ⟨rfl, rfl⟩))
   refine bodyPost_ret (v := .tuple #[.agg #[.int .i64 0, .string ⟨#[]⟩, .int .i64 0, .int .u64 0, .int .i64 0], .int .i64 0, .int .i64 21]) ?_ rfl ⟨rfl, (((((HW.out.setCell (Nat.le_refl _) _).setCell (Nat.le_refl _) _).setCell (Nat.le_refl _) _).setCell (Nat.le_refl _) _).setCell (Nat.le_refl _) _)⟩
   simp [results, Tryz.results204, go_sem, c0, c1, c2, c3, c4, f0, f1, f2, f3, f4]
theorem figures_in_true (s : ByteArray) (hs : s.size ≤ 140737488351232) (N : Nat) (hle : N < s.size) (h2 : isDigit s[N] = false) (h1 : ∀ k (h : k < s.size), k < N → isDigit s[k] = true) (h39 : s[N] ≠ 39) (kl : ∀ W, Calls Tryz.prog 203 #[.int .u8 s[N].toNat] W fun e W' => e = .returned (.bool false) ∧ W = W') (v : Nat) (kn : ∀ W, Calls Tryz.prog 221 #[.string (s.extract 0 N), .int .u64 10] W fun e W' => e = .returned (.tuple #[.int .u64 v, .bool true, .int .i64 0]) ∧ Below W.heap.size W W') (W : World) :
  Calls Tryz.prog 204 #[.string s] W fun e W' => e = .returned (.tuple #[.agg #[.int .i64 3, .string ⟨#[]⟩, .int .i64 0, .int .u64 v, .int .i64 0], .int .i64 N, .int .i64 0]) ∧ Below W.heap.size W W' := by
 have kd0 := digit_any s[N]
 rw [h2] at kd0
 have KD0 := Lib.hid kd0
 clear kd0 h2
 have q39 : ((s[N].toNat : Int) == 39) = false := nat_ne 39 rfl h39
 clear h39
 have KL := Lib.hid kl
 clear kl
 have KN := Lib.hid kn
 clear kn
 have H1 := Lib.hid h1
 clear h1
 have hW : Below W.heap.size W (W.alloc (.cells #[.int .i64 0, .string ⟨#[]⟩, .int .i64 0, .int .u64 0, .int .i64 0] 55)) := (Below.refl _ _).alloc (Nat.le_refl _) _
 have hO := block_alloc W (.cells #[.int .i64 0, .string ⟨#[]⟩, .int .i64 0, .int .u64 0, .int .i64 0] 55)
 go_enter Tryz.func204, Tryz.ntmps204
 go_wp2
 generalize W.alloc (.cells #[.int .i64 0, .string ⟨#[]⟩, .int .i64 0, .int .u64 0, .int .i64 0] 55) = X at *
 have HO := Lib.hid hO
 have HW := Lib.hid hW
 clear hO hW
 go_loop [3] (fun i => ∃ k : Nat, k ≤ N ∧ i = .int .i64 k) (fun i => s.size - (intOf i).toNat)
 case atStart => exact ⟨0, Nat.zero_le _, rfl⟩
 case round =>
  obtain ⟨k, hk, rfl⟩ := hrel
  by_cases hlt : k < N
  ·have hks : k < s.size := by omega
   have kd := digit_any s[k]
   rw [H1.out k hks hlt] at kd
   have KD := Lib.hid kd
   clear kd
   go_wp2_with (go_at_call 192; refine (KD.out _).mono ?_; rintro e w' ⟨rfl, rfl⟩)
   go_round
   case rel => exact ⟨k + 1, by omega, by go_num⟩
   case measure => simp [intOf]; omega
  ·obtain rfl : k = N := by omega
   go_wp2_with fail
   refine (KD0.out _).mono ?_
   rintro e w' ⟨rfl, rfl⟩
   go_wp2_with fail
   refine (KL.out _).mono ?_
   rintro e w' ⟨rfl, rfl⟩
   have B5 := Box5.of_block HO.out
   go_wp2_with fail
   refine (KN.out _).mono ?_
   rintro e W1 ⟨rfl, hb1⟩
   replace B5 := B5.later hb1
   have HV := Lib.hid (HW.out.trans (hb1.mono HW.out.size))
   clear hb1
   obtain ⟨c0, c1, c2, c3, c4, f0, f1, f2, f3, f4, lt⟩ := B5
   go_wp2
   refine bodyPost_ret (v := .tuple #[.agg #[.int .i64 3, .string ⟨#[]⟩, .int .i64 0, .int .u64 v, .int .i64 0], .int .i64 k, .int .i64 0]) ?_ rfl ⟨rfl, (((((HV.out.setCell (Nat.le_refl _) _).setCell (Nat.le_refl _) _).setCell (Nat.le_refl _) _).setCell (Nat.le_refl _) _).setCell (Nat.le_refl _) _)⟩
   simp [results, Tryz.results204, go_sem, c0, c1, c2, c3, c4, f0, f1, f2, f3, f4]
theorem figures_end_true (s : ByteArray) (hs : s.size ≤ 140737488351232) (N : Nat) (hle : N = s.size) (h1 : ∀ k (h : k < s.size), k < N → isDigit s[k] = true) (v : Nat) (kn : ∀ W, Calls Tryz.prog 221 #[.string s, .int .u64 10] W fun e W' => e = .returned (.tuple #[.int .u64 v, .bool true, .int .i64 0]) ∧ Below W.heap.size W W') (W : World) :
  Calls Tryz.prog 204 #[.string s] W fun e W' => e = .returned (.tuple #[.agg #[.int .i64 3, .string ⟨#[]⟩, .int .i64 0, .int .u64 v, .int .i64 0], .int .i64 s.size, .int .i64 0]) ∧ Below W.heap.size W W' := by
 subst hle
 have KN := Lib.hid kn
 clear kn
 have H1 := Lib.hid h1
 clear h1
 have hW : Below W.heap.size W (W.alloc (.cells #[.int .i64 0, .string ⟨#[]⟩, .int .i64 0, .int .u64 0, .int .i64 0] 55)) := (Below.refl _ _).alloc (Nat.le_refl _) _
 have hO := block_alloc W (.cells #[.int .i64 0, .string ⟨#[]⟩, .int .i64 0, .int .u64 0, .int .i64 0] 55)
 go_enter Tryz.func204, Tryz.ntmps204
 go_wp2
 generalize W.alloc (.cells #[.int .i64 0, .string ⟨#[]⟩, .int .i64 0, .int .u64 0, .int .i64 0] 55) = X at *
 have HO := Lib.hid hO
 have HW := Lib.hid hW
 clear hO hW
 go_loop [3] (fun i => ∃ k : Nat, k ≤ s.size ∧ i = .int .i64 k) (fun i => s.size - (intOf i).toNat)
 case atStart => exact ⟨0, Nat.zero_le _, rfl⟩
 case round =>
  obtain ⟨k, hk, rfl⟩ := hrel
  by_cases hlt : k < s.size
  ·have hks : k < s.size := by omega
   have kd := digit_any s[k]
   rw [H1.out k hks hlt] at kd
   have KD := Lib.hid kd
   clear kd
   go_wp2_with (go_at_call 192; refine (KD.out _).mono ?_; rintro e w' ⟨rfl, rfl⟩)
   go_round
   case rel => exact ⟨k + 1, by omega, by go_num⟩
   case measure => simp [intOf]; omega
  ·obtain rfl : k = s.size := by omega
   have B5 := Box5.of_block HO.out
   go_wp2_with fail
   refine (KN.out _).mono ?_
   rintro e W1 ⟨rfl, hb1⟩
   replace B5 := B5.later hb1
   have HV := Lib.hid (HW.out.trans (hb1.mono HW.out.size))
   clear hb1
   obtain ⟨c0, c1, c2, c3, c4, f0, f1, f2, f3, f4, lt⟩ := B5
   go_wp2
   refine bodyPost_ret (v := .tuple #[.agg #[.int .i64 3, .string ⟨#[]⟩, .int .i64 0, .int .u64 v, .int .i64 0], .int .i64 s.size, .int .i64 0]) ?_ rfl ⟨rfl, (((((HV.out.setCell (Nat.le_refl _) _).setCell (Nat.le_refl _) _).setCell (Nat.le_refl _) _).setCell (Nat.le_refl _) _).setCell (Nat.le_refl _) _)⟩
   simp [results, Tryz.results204, go_sem, c0, c1, c2, c3, c4, f0, f1, f2, f3, f4]
theorem figures_in_false (s : ByteArray) (hs : s.size ≤ 140737488351232) (N : Nat) (hle : N < s.size) (h2 : isDigit s[N] = false) (h1 : ∀ k (h : k < s.size), k < N → isDigit s[k] = true) (h39 : s[N] ≠ 39) (kl : ∀ W, Calls Tryz.prog 203 #[.int .u8 s[N].toNat] W fun e W' => e = .returned (.bool false) ∧ W = W') (v : Nat) (kn : ∀ W, Calls Tryz.prog 221 #[.string (s.extract 0 N), .int .u64 10] W fun e W' => e = .returned (.tuple #[.int .u64 v, .bool false, .int .i64 0]) ∧ Below W.heap.size W W') (W : World) :
  Calls Tryz.prog 204 #[.string s] W fun e W' => e = .returned (.tuple #[.agg #[.int .i64 0, .string ⟨#[]⟩, .int .i64 0, .int .u64 0, .int .i64 0], .int .i64 0, .int .i64 22]) ∧ Below W.heap.size W W' := by
 have kd0 := digit_any s[N]
 rw [h2] at kd0
 have KD0 := Lib.hid kd0
 clear kd0 h2
 have q39 : ((s[N].toNat : Int) == 39) = false := nat_ne 39 rfl h39
 clear h39
 have KL := Lib.hid kl
 clear kl
 have KN := Lib.hid kn
 clear kn
 have H1 := Lib.hid h1
 clear h1
 have hW : Below W.heap.size W (W.alloc (.cells #[.int .i64 0, .string ⟨#[]⟩, .int .i64 0, .int .u64 0, .int .i64 0] 55)) := (Below.refl _ _).alloc (Nat.le_refl _) _
 have hO := block_alloc W (.cells #[.int .i64 0, .string ⟨#[]⟩, .int .i64 0, .int .u64 0, .int .i64 0] 55)
 go_enter Tryz.func204, Tryz.ntmps204
 go_wp2
 generalize W.alloc (.cells #[.int .i64 0, .string ⟨#[]⟩, .int .i64 0, .int .u64 0, .int .i64 0] 55) = X at *
 have HO := Lib.hid hO
 have HW := Lib.hid hW
 clear hO hW
 go_loop [3] (fun i => ∃ k : Nat, k ≤ N ∧ i = .int .i64 k) (fun i => s.size - (intOf i).toNat)
 case atStart => exact ⟨0, Nat.zero_le _, rfl⟩
 case round =>
  obtain ⟨k, hk, rfl⟩ := hrel
  by_cases hlt : k < N
  ·have hks : k < s.size := by omega
   have kd := digit_any s[k]
   rw [H1.out k hks hlt] at kd
   have KD := Lib.hid kd
   clear kd
   go_wp2_with (go_at_call 192; refine (KD.out _).mono ?_; rintro e w' ⟨rfl, rfl⟩)
   go_round
   case rel => exact ⟨k + 1, by omega, by go_num⟩
   case measure => simp [intOf]; omega
  ·obtain rfl : k = N := by omega
   go_wp2_with fail
   refine (KD0.out _).mono ?_
   rintro e w' ⟨rfl, rfl⟩
   go_wp2_with fail
   refine (KL.out _).mono ?_
   rintro e w' ⟨rfl, rfl⟩
   have B5 := Box5.of_block HO.out
   go_wp2_with fail
   refine (KN.out _).mono ?_
   rintro e W1 ⟨rfl, hb1⟩
   replace B5 := B5.later hb1
   have HV := Lib.hid (HW.out.trans (hb1.mono HW.out.size))
   clear hb1
   obtain ⟨c0, c1, c2, c3, c4, f0, f1, f2, f3, f4, lt⟩ := B5
   go_wp2
   refine bodyPost_ret (v := .tuple #[.agg #[.int .i64 0, .string ⟨#[]⟩, .int .i64 0, .int .u64 0, .int .i64 0], .int .i64 0, .int .i64 22]) ?_ rfl ⟨rfl, (((((HV.out.setCell (Nat.le_refl _) _).setCell (Nat.le_refl _) _).setCell (Nat.le_refl _) _).setCell (Nat.le_refl _) _).setCell (Nat.le_refl _) _)⟩
   simp [results, Tryz.results204, go_sem, c0, c1, c2, c3, c4, f0, f1, f2, f3, f4]
theorem figures_end_false (s : ByteArray) (hs : s.size ≤ 140737488351232) (N : Nat) (hle : N = s.size) (h1 : ∀ k (h : k < s.size), k < N → isDigit s[k] = true) (v : Nat) (kn : ∀ W, Calls Tryz.prog 221 #[.string s, .int .u64 10] W fun e W' => e = .returned (.tuple #[.int .u64 v, .bool false, .int .i64 0]) ∧ Below W.heap.size W W') (W : World) :
  Calls Tryz.prog 204 #[.string s] W fun e W' => e = .returned (.tuple #[.agg #[.int .i64 0, .string ⟨#[]⟩, .int .i64 0, .int .u64 0, .int .i64 0], .int .i64 0, .int .i64 22]) ∧ Below W.heap.size W W' := by
 subst hle
 have KN := Lib.hid kn
 clear kn
 have H1 := Lib.hid h1
 clear h1
 have hW : Below W.heap.size W (W.alloc (.cells #[.int .i64 0, .string ⟨#[]⟩, .int .i64 0, .int .u64 0, .int .i64 0] 55)) := (Below.refl _ _).alloc (Nat.le_refl _) _
 have hO := block_alloc W (.cells #[.int .i64 0, .string ⟨#[]⟩, .int .i64 0, .int .u64 0, .int .i64 0] 55)
 go_enter Tryz.func204, Tryz.ntmps204
 go_wp2
 generalize W.alloc (.cells #[.int .i64 0, .string ⟨#[]⟩, .int .i64 0, .int .u64 0, .int .i64 0] 55) = X at *
 have HO := Lib.hid hO
 have HW := Lib.hid hW
 clear hO hW
 go_loop [3] (fun i => ∃ k : Nat, k ≤ s.size ∧ i = .int .i64 k) (fun i => s.size - (intOf i).toNat)
 case atStart => exact ⟨0, Nat.zero_le _, rfl⟩
 case round =>
  obtain ⟨k, hk, rfl⟩ := hrel
  by_cases hlt : k < s.size
  ·have hks : k < s.size := by omega
   have kd := digit_any s[k]
   rw [H1.out k hks hlt] at kd
   have KD := Lib.hid kd
   clear kd
   go_wp2_with (go_at_call 192; refine (KD.out _).mono ?_; rintro e w' ⟨rfl, rfl⟩)
   go_round
   case rel => exact ⟨k + 1, by omega, by go_num⟩
   case measure => simp [intOf]; omega
  ·obtain rfl : k = s.size := by omega
   have B5 := Box5.of_block HO.out
   go_wp2_with fail
   refine (KN.out _).mono ?_
   rintro e W1 ⟨rfl, hb1⟩
   replace B5 := B5.later hb1
   have HV := Lib.hid (HW.out.trans (hb1.mono HW.out.size))
   clear hb1
   obtain ⟨c0, c1, c2, c3, c4, f0, f1, f2, f3, f4, lt⟩ := B5
   go_wp2
   refine bodyPost_ret (v := .tuple #[.agg #[.int .i64 0, .string ⟨#[]⟩, .int .i64 0, .int .u64 0, .int .i64 0], .int .i64 0, .int .i64 22]) ?_ rfl ⟨rfl, (((((HV.out.setCell (Nat.le_refl _) _).setCell (Nat.le_refl _) _).setCell (Nat.le_refl _) _).setCell (Nat.le_refl _) _).setCell (Nat.le_refl _) _)⟩
   simp [results, Tryz.results204, go_sem, c0, c1, c2, c3, c4, f0, f1, f2, f3, f4]
theorem all_dig {l : List UInt8} (h : l.all isDigit = true) : allFig 10 l = true := fig_all l h
theorem figures_any (s : ByteArray) (hs : s.size ≤ 140737488351232) (h0 : 0 < headN isDigit s.data.toList) (W : World) :
  Calls Tryz.prog 204 #[.string s] W fun e W' => e = gotEnd (figL s.data.toList) ∧ Below W.heap.size W W' := by
 obtain ⟨N, hN, hle, h1, h2⟩ := dig_facts s
 rw [← hN] at h0
 have ht : (s.extract 0 N).data.toList = s.data.toList.takeWhile isDigit := by rw [extract_bs, list_bs, List.drop_zero, hN, take_headN]
 have hd : (s.extract N s.size).data.toList = s.data.toList.dropWhile isDigit := by
  rw [extract_bs, list_bs, List.take_of_length_le (show s.data.toList.length ≤ s.size from Nat.le_refl _), hN, drop_headN]
 have hall := all_takeWhile (p := isDigit) s.data.toList
 have hlen : (s.data.toList.takeWhile isDigit).length = N := by rw [hN]; rfl
 have hne : (s.data.toList.takeWhile isDigit).isEmpty = false := by
  cases h : s.data.toList.takeWhile isDigit with
  | nil => rw [h] at hlen; simp at hlen; omega
  | cons => rfl
 have hfig := all_dig hall
 have hn : ∀ x : ByteArray, x.data.toList = s.data.toList.takeWhile isDigit → ∀ W, Calls Tryz.prog 221 #[.string x, .int .u64 10] W fun e W' => e = .returned (.tuple #[.int .u64 (cutV 10 (s.data.toList.takeWhile isDigit) : Nat), .bool (smallV 10 (s.data.toList.takeWhile isDigit)), .int .i64 0]) ∧ Below W.heap.size W W' := fun x hx W => by
  have hxs : x.size ≤ 140737488351232 := by rw [size_list, hx, hlen]; omega
  have := number_all x 10 hxs (by omega) (by omega) W
  rw [hx] at this
  unfold numA numB numE at this
  rw [hfig, hne] at this
  exact this
 have plain : ∀ n : Int, (N : Int) = n → (smallV 10 (s.data.toList.takeWhile isDigit) = true → gotEnd (plainL (s.data.toList.takeWhile isDigit)) = .returned (.tuple #[.agg #[.int .i64 3, .string ⟨#[]⟩, .int .i64 0, .int .u64 (cutV 10 (s.data.toList.takeWhile isDigit) : Nat), .int .i64 0], .int .i64 n, .int .i64 0])) ∧
   (smallV 10 (s.data.toList.takeWhile isDigit) = false → gotEnd (plainL (s.data.toList.takeWhile isDigit)) = .returned (.tuple #[.agg #[.int .i64 0, .string ⟨#[]⟩, .int .i64 0, .int .u64 0, .int .i64 0], .int .i64 0, .int .i64 22])) := by
  intro n hnn
  constructor
  ·intro hsm
   have hlt : numV 10 (s.data.toList.takeWhile isDigit) < two64 := by simpa [smallV] using hsm
   exact gotEnd_tok (by unfold plainL; rw [if_pos hlt]) rfl rfl rfl (cut_small hsm).symm rfl (by rw [hlen]; exact hnn)
  ·intro hsm
   have hlt : ¬ numV 10 (s.data.toList.takeWhile isDigit) < two64 := by simpa [smallV] using hsm
   exact gotEnd_bad (by unfold plainL; rw [if_neg hlt])
 by_cases hlt : N < s.size
 ·have hg := h2 hlt
  have hcons : s.data.toList.dropWhile isDigit = s[N] :: s.data.toList.drop (N + 1) := by
   rw [← drop_headN, ← hN, List.drop_eq_getElem_cons (show N < s.data.toList.length from hlt)]
   rfl
  by_cases h39 : s[N] = 39
  ·have hf : figL s.data.toList = wideL (s.data.toList.takeWhile isDigit) (s.data.toList.drop (N + 1)) := by
    unfold figL
    rw [hcons]
    simp only [h39, if_true]
   rw [hf]
   have kw := fun W => wide_any (s.extract 0 N) (s.extract N s.size) (s.data.toList.drop (N + 1)) (by rw [ht]; exact hfig) (by rw [ht]; exact hne) (by rw [hd, hcons, h39]) (by rw [size_list, hd, hcons]; simp; have : s.data.toList.length = s.size := rfl; omega) (by rw [size_list, ht, hlen]; omega) W
   rw [ht] at kw
   cases hw : wideL (s.data.toList.takeWhile isDigit) (s.data.toList.drop (N + 1)) with
   | tok t n =>
    rw [hw] at kw
    exact figures_wide s hs N hlt h1 hg h39 _ _ _ _ _ _ _ W kw
   | bad er =>
    rw [hw] at kw
    exact figures_wide s hs N hlt h1 hg h39 _ _ _ _ _ _ _ W kw
  ·have hf : figL s.data.toList = if isLetter s[N] then .bad 21 else plainL (s.data.toList.takeWhile isDigit) := by
    unfold figL
    rw [hcons]
    simp only [if_neg h39]
   rw [hf]
   have kl := fun W => letter_any s[N] W
   cases hl : isLetter s[N]
   ·rw [hl] at kl
    have kn := hn (s.extract 0 N) ht
    cases hsm : smallV 10 (s.data.toList.takeWhile isDigit)
    ·rw [hsm] at kn
     simp only [Bool.false_eq_true, if_false]
     rw [(plain _ rfl).2 hsm]
     exact figures_in_false s hs N hlt hg h1 h39 kl _ kn W
    ·rw [hsm] at kn
     simp only [Bool.false_eq_true, if_false]
     rw [(plain _ rfl).1 hsm]
     exact figures_in_true s hs N hlt hg h1 h39 kl _ kn W
   ·rw [hl] at kl
    simp only [if_true]
    rw [gotEnd_bad rfl]
    exact figures_letter s hs N hlt hg h1 h39 kl W
 ·have hNs : N = s.size := by omega
  have hdn : s.data.toList.dropWhile isDigit = [] := by
   rw [← drop_headN, ← hN]
   exact List.drop_of_length_le (show s.data.toList.length ≤ N by have : s.data.toList.length = s.size := rfl; omega)
  have hf : figL s.data.toList = plainL (s.data.toList.takeWhile isDigit) := by
   unfold figL
   rw [hdn]
  rw [hf]
  have hts : s.data.toList = s.data.toList.takeWhile isDigit := by
   have h := List.takeWhile_append_dropWhile (p := isDigit) (l := s.data.toList)
   rw [hdn, List.append_nil] at h
   exact h.symm
  have kn := hn s hts
  cases hsm : smallV 10 (s.data.toList.takeWhile isDigit)
  ·rw [hsm] at kn
   rw [(plain _ rfl).2 hsm]
   exact figures_end_false s hs N hNs h1 _ kn W
  ·rw [hsm] at kn
   rw [(plain (s.size : Int) (by rw [hNs])).1 hsm]
   exact figures_end_true s hs N hNs h1 _ kn W
end Go.Proofs.YtlcfpdmicpggbaaGreatDoor
namespace Go.Proofs.YtlcfpdmicpggbaaGreatDoor
open Go.RowKit Go.Proofs.Scn Go.Flow Go.Sort
def TokPost (g : Got) (e : Ending) : Prop := match g with
 | .tok t n => e = .returned (.tuple #[tokVal t, .int .i64 n, .int .i64 0])
 | .bad er => er ≠ 0 ∧ ∃ (k : Int) (S : ByteArray) (w : Int) (v : Nat) (p : Int), e = .returned (.tuple #[.agg #[.int .i64 k, .string S, .int .i64 w, .int .u64 v, .int .i64 p], .int .i64 0, .int .i64 er])
theorem token_word (s : ByteArray) (h0 : 0 < s.size) (S : ByteArray) (wd : Bool) (W : World)
  (kl : ∀ W, Calls Tryz.prog 203 #[.int .u8 s[0].toNat] W fun e W' => e = .returned (.bool true) ∧ W = W')
  (kr : ∀ W, Calls Tryz.prog 193 #[.string s] W fun e W' => e = .returned (.string S) ∧ W = W')
  (kw : ∀ o, Calls Tryz.prog 135 #[.string S] (W.alloc o) fun e W' => e = .returned (.bool wd) ∧ W.alloc o = W') (long : Bool) (hlong : long = true → (64 : Int) < (S.size : Int)) (hshort : long = false → (S.size : Int) ≤ 64) :
  Calls Tryz.prog 149 #[.string s] W fun e W' => e = .returned (.tuple #[.agg #[.int .i64 (if wd then 2 else 1), .string S, .int .i64 0, .int .u64 0, .int .i64 0], .int .i64 (if long then 0 else S.size), .int .i64 (if long then 2 else 0)]) ∧ Below W.heap.size W W' := by
 have KL := Lib.hid kl
 have KR := Lib.hid kr
 have KW := Lib.hid kw
 clear kl kr kw
 cases long
 ·replace hshort := hshort rfl
  clear hlong
  cases wd
  all_goals
   go_enter Tryz.func149, Tryz.ntmps149
   go_wp2
   go_step3
   go_wp2_with fail
   refine (KL.out _).mono ?_
   rintro e w' ⟨rfl, rfl⟩
   go_wp2_with fail
   refine (KR.out _).mono ?_
   rintro e w' ⟨rfl, rfl⟩
   go_wp2_with fail
   refine (KW.out _).mono ?_
   rintro e w' ⟨rfl, rfl⟩
   go_wp2
   rw [Exit.noGoto_ret]
   refine bodyPost_ret (v := .tuple #[.agg #[.int .i64 _, .string S, .int .i64 0, .int .u64 0, .int .i64 0], .int .i64 S.size, .int .i64 0]) ?_ rfl ⟨rfl, ?_⟩
   ·simp [results, Tryz.results149, go_sem]
   ·exact (Below.refl _ _).alloc (Nat.le_refl _) _
 ·replace hlong := hlong rfl
  clear hshort
  cases wd
  all_goals
   go_enter Tryz.func149, Tryz.ntmps149
   go_wp2
   go_step3
   go_wp2_with fail
   refine (KL.out _).mono ?_
   rintro e w' ⟨rfl, rfl⟩
   go_wp2_with fail
   refine (KR.out _).mono ?_
   rintro e w' ⟨rfl, rfl⟩
   go_wp2_with fail
   refine (KW.out _).mono ?_
   rintro e w' ⟨rfl, rfl⟩
   go_wp2
   rw [Exit.noGoto_ret]
   refine bodyPost_ret (v := .tuple #[.agg #[.int .i64 _, .string S, .int .i64 0, .int .u64 0, .int .i64 0], .int .i64 0, .int .i64 2]) ?_ rfl ⟨rfl, ?_⟩
   ·simp [results, Tryz.results149, go_sem]
   ·exact (Below.refl _ _).alloc (Nat.le_refl _) _
theorem token_fig (s : ByteArray) (h0 : 0 < s.size) (a w p n er : Int) (S : ByteArray) (v : Nat) (W : World)
  (kl : ∀ W, Calls Tryz.prog 203 #[.int .u8 s[0].toNat] W fun e W' => e = .returned (.bool false) ∧ W = W')
  (kd : ∀ W, Calls Tryz.prog 192 #[.int .u8 s[0].toNat] W fun e W' => e = .returned (.bool true) ∧ W = W')
  (kf : ∀ W, Calls Tryz.prog 204 #[.string s] W fun e W' => e = .returned (.tuple #[.agg #[.int .i64 a, .string S, .int .i64 w, .int .u64 v, .int .i64 p], .int .i64 n, .int .i64 er]) ∧ Below W.heap.size W W') :
  Calls Tryz.prog 149 #[.string s] W fun e W' => e = .returned (.tuple #[.agg #[.int .i64 a, .string S, .int .i64 w, .int .u64 v, .int .i64 p], .int .i64 n, .int .i64 er]) ∧ Below W.heap.size W W' := by
 have KL := Lib.hid kl
 have KD := Lib.hid kd
 have KF := Lib.hid kf
 clear kl kd kf
 have B := Box5.new W (.int .i64 0) (.string ⟨#[]⟩) (.int .i64 0) (.int .u64 0) (.int .i64 0) 55
 have hW : Below W.heap.size W (W.alloc (.cells #[.int .i64 0, .string ⟨#[]⟩, .int .i64 0, .int .u64 0, .int .i64 0] 55)) := (Below.refl _ _).alloc (Nat.le_refl _) _
 have HB := Lib.hid B
 have HW := Lib.hid hW
 clear B hW
 go_enter Tryz.func149, Tryz.ntmps149
 go_wp2
 go_step3
 go_wp2_with fail
 refine (KL.out _).mono ?_
 rintro e w' ⟨rfl, rfl⟩
 go_wp2_with fail
 refine (KD.out _).mono ?_
 rintro e w' ⟨rfl, rfl⟩
 go_wp2_with fail
 refine (KF.out _).mono ?_
 rintro e W1 ⟨rfl, hb1⟩
 have HV := Lib.hid (HW.out.trans (hb1.mono HW.out.size))
 obtain ⟨c0, c1, c2, c3, c4, f0, f1, f2, f3, f4, lt⟩ := HB.out.later hb1
 clear hb1
 go_wp2
 rw [Exit.noGoto_ret]
 refine bodyPost_ret (v := .tuple #[.agg #[.int .i64 a, .string S, .int .i64 w, .int .u64 v, .int .i64 p], .int .i64 n, .int .i64 er]) ?_ rfl ⟨rfl, (((((HV.out.setCell (Nat.le_refl _) _).setCell (Nat.le_refl _) _).setCell (Nat.le_refl _) _).setCell (Nat.le_refl _) _).setCell (Nat.le_refl _) _)⟩
 simp [results, Tryz.results149, go_sem, c0, c1, c2, c3, c4, f0, f1, f2, f3, f4]
theorem token_s1_yes (s : ByteArray) (h0 : 0 < s.size) (h1 : s.size = 1) (W : World) (kl : ∀ W, Calls Tryz.prog 203 #[.int .u8 s[0].toNat] W fun e W' => e = .returned (.bool false) ∧ W = W') (kd : ∀ W, Calls Tryz.prog 192 #[.int .u8 s[0].toNat] W fun e W' => e = .returned (.bool false) ∧ W = W') (k1 : ∀ o, Calls Tryz.prog 136 #[.string (s.extract 0 1)] (W.alloc o) fun e W' => e = .returned (.bool true) ∧ W.alloc o = W') :
  Calls Tryz.prog 149 #[.string s] W fun e W' => e = .returned (.tuple #[.agg #[.int .i64 4, .string (s.extract 0 1), .int .i64 0, .int .u64 0, .int .i64 0], .int .i64 1, .int .i64 0]) ∧ Below W.heap.size W W' := by
 have KL := Lib.hid kl
 have KD := Lib.hid kd
 clear kl kd
 have hmin : min (2 : Int) (s.size : Int) = 1 := by omega
 have hs1 : (1 : Int) ≤ (s.size : Int) := by omega
 clear h1
 have K1 := Lib.hid k1
 clear k1
 go_enter Tryz.func149, Tryz.ntmps149
 go_wp2
 go_step3
 go_wp2_with fail
 refine (KL.out _).mono ?_
 rintro e w' ⟨rfl, rfl⟩
 go_wp2_with fail
 refine (KD.out _).mono ?_
 rintro e w' ⟨rfl, rfl⟩
 go_wp2_with fail
 go_step3
 go_wp2_with fail
 refine wp_loop_rounds 1 ?_
 rw [rounds_succ]
 go_wp2_with fail
 refine (K1.out _).mono ?_
 rintro e w' ⟨rfl, rfl⟩
 go_wp2
 rw [Exit.noGoto_ret]
 refine bodyPost_ret (v := .tuple #[.agg #[.int .i64 4, .string (s.extract 0 1), .int .i64 0, .int .u64 0, .int .i64 0], .int .i64 1, .int .i64 0]) ?_ rfl ⟨rfl, ?_⟩
 ·simp [results, Tryz.results149, go_sem]
 ·exact (Below.refl _ _).alloc (Nat.le_refl _) _
theorem token_s1_no (s : ByteArray) (h0 : 0 < s.size) (h1 : s.size = 1) (W : World) (kl : ∀ W, Calls Tryz.prog 203 #[.int .u8 s[0].toNat] W fun e W' => e = .returned (.bool false) ∧ W = W') (kd : ∀ W, Calls Tryz.prog 192 #[.int .u8 s[0].toNat] W fun e W' => e = .returned (.bool false) ∧ W = W') (k1 : ∀ o, Calls Tryz.prog 136 #[.string (s.extract 0 1)] (W.alloc o) fun e W' => e = .returned (.bool false) ∧ W.alloc o = W') :
  Calls Tryz.prog 149 #[.string s] W fun e W' => e = .returned (.tuple #[.agg #[.int .i64 0, .string ⟨#[]⟩, .int .i64 0, .int .u64 0, .int .i64 0], .int .i64 0, .int .i64 20]) ∧ Below W.heap.size W W' := by
 have KL := Lib.hid kl
 have KD := Lib.hid kd
 clear kl kd
 have hmin : min (2 : Int) (s.size : Int) = 1 := by omega
 have hs1 : (1 : Int) ≤ (s.size : Int) := by omega
 clear h1
 have K1 := Lib.hid k1
 clear k1
 go_enter Tryz.func149, Tryz.ntmps149
 go_wp2
 go_step3
 go_wp2_with fail
 refine (KL.out _).mono ?_
 rintro e w' ⟨rfl, rfl⟩
 go_wp2_with fail
 refine (KD.out _).mono ?_
 rintro e w' ⟨rfl, rfl⟩
 go_wp2_with fail
 go_step3
 go_wp2_with fail
 refine wp_loop_rounds 2 ?_
 rw [rounds_succ]
 go_wp2_with fail
 refine (K1.out _).mono ?_
 rintro e w' ⟨rfl, rfl⟩
 go_wp2_with fail
 rw [rounds_succ]
 go_wp2_with fail
 go_wp2
 rw [Exit.noGoto_ret]
 refine bodyPost_ret (v := .tuple #[.agg #[.int .i64 0, .string ⟨#[]⟩, .int .i64 0, .int .u64 0, .int .i64 0], .int .i64 0, .int .i64 20]) ?_ rfl ⟨rfl, ?_⟩
 ·simp [results, Tryz.results149, go_sem]
 ·exact (Below.refl _ _).alloc (Nat.le_refl _) _
theorem token_s2_two (s : ByteArray) (h0 : 0 < s.size) (h1 : 2 ≤ s.size) (W : World) (kl : ∀ W, Calls Tryz.prog 203 #[.int .u8 s[0].toNat] W fun e W' => e = .returned (.bool false) ∧ W = W') (kd : ∀ W, Calls Tryz.prog 192 #[.int .u8 s[0].toNat] W fun e W' => e = .returned (.bool false) ∧ W = W') (k2 : ∀ o, Calls Tryz.prog 136 #[.string (s.extract 0 2)] (W.alloc o) fun e W' => e = .returned (.bool true) ∧ W.alloc o = W') :
  Calls Tryz.prog 149 #[.string s] W fun e W' => e = .returned (.tuple #[.agg #[.int .i64 4, .string (s.extract 0 2), .int .i64 0, .int .u64 0, .int .i64 0], .int .i64 2, .int .i64 0]) ∧ Below W.heap.size W W' := by
 have KL := Lib.hid kl
 have KD := Lib.hid kd
 clear kl kd
 have hmin : min (2 : Int) (s.size : Int) = 2 := by omega
 have hs1 : (2 : Int) ≤ (s.size : Int) := by omega
 have K2 := Lib.hid k2
 clear k2
 go_enter Tryz.func149, Tryz.ntmps149
 go_wp2
 go_step3
 go_wp2_with fail
 refine (KL.out _).mono ?_
 rintro e w' ⟨rfl, rfl⟩
 go_wp2_with fail
 refine (KD.out _).mono ?_
 rintro e w' ⟨rfl, rfl⟩
 go_wp2_with fail
 go_step3
 go_wp2_with fail
 refine wp_loop_rounds 1 ?_
 rw [rounds_succ]
 go_wp2_with fail
 refine (K2.out _).mono ?_
 rintro e w' ⟨rfl, rfl⟩
 go_wp2
 rw [Exit.noGoto_ret]
 refine bodyPost_ret (v := .tuple #[.agg #[.int .i64 4, .string (s.extract 0 2), .int .i64 0, .int .u64 0, .int .i64 0], .int .i64 2, .int .i64 0]) ?_ rfl ⟨rfl, ?_⟩
 ·simp [results, Tryz.results149, go_sem]
 ·exact (Below.refl _ _).alloc (Nat.le_refl _) _
theorem token_s2_one (s : ByteArray) (h0 : 0 < s.size) (h1 : 2 ≤ s.size) (W : World) (kl : ∀ W, Calls Tryz.prog 203 #[.int .u8 s[0].toNat] W fun e W' => e = .returned (.bool false) ∧ W = W') (kd : ∀ W, Calls Tryz.prog 192 #[.int .u8 s[0].toNat] W fun e W' => e = .returned (.bool false) ∧ W = W') (k2 : ∀ o, Calls Tryz.prog 136 #[.string (s.extract 0 2)] (W.alloc o) fun e W' => e = .returned (.bool false) ∧ W.alloc o = W') (k1 : ∀ o, Calls Tryz.prog 136 #[.string (s.extract 0 1)] (W.alloc o) fun e W' => e = .returned (.bool true) ∧ W.alloc o = W') :
  Calls Tryz.prog 149 #[.string s] W fun e W' => e = .returned (.tuple #[.agg #[.int .i64 4, .string (s.extract 0 1), .int .i64 0, .int .u64 0, .int .i64 0], .int .i64 1, .int .i64 0]) ∧ Below W.heap.size W W' := by
 have KL := Lib.hid kl
 have KD := Lib.hid kd
 clear kl kd
 have hmin : min (2 : Int) (s.size : Int) = 2 := by omega
 have hs1 : (2 : Int) ≤ (s.size : Int) := by omega
 have K1 := Lib.hid k1
 clear k1
 have K2 := Lib.hid k2
 clear k2
 go_enter Tryz.func149, Tryz.ntmps149
 go_wp2
 go_step3
 go_wp2_with fail
 refine (KL.out _).mono ?_
 rintro e w' ⟨rfl, rfl⟩
 go_wp2_with fail
 refine (KD.out _).mono ?_
 rintro e w' ⟨rfl, rfl⟩
 go_wp2_with fail
 go_step3
 go_wp2_with fail
 refine wp_loop_rounds 2 ?_
 rw [rounds_succ]
 go_wp2_with fail
 refine (K2.out _).mono ?_
 rintro e w' ⟨rfl, rfl⟩
 go_wp2_with fail
 rw [rounds_succ]
 go_wp2_with fail
 refine (K1.out _).mono ?_
 rintro e w' ⟨rfl, rfl⟩
 go_wp2
 rw [Exit.noGoto_ret]
 refine bodyPost_ret (v := .tuple #[.agg #[.int .i64 4, .string (s.extract 0 1), .int .i64 0, .int .u64 0, .int .i64 0], .int .i64 1, .int .i64 0]) ?_ rfl ⟨rfl, ?_⟩
 ·simp [results, Tryz.results149, go_sem]
 ·exact (Below.refl _ _).alloc (Nat.le_refl _) _
theorem token_s2_no (s : ByteArray) (h0 : 0 < s.size) (h1 : 2 ≤ s.size) (W : World) (kl : ∀ W, Calls Tryz.prog 203 #[.int .u8 s[0].toNat] W fun e W' => e = .returned (.bool false) ∧ W = W') (kd : ∀ W, Calls Tryz.prog 192 #[.int .u8 s[0].toNat] W fun e W' => e = .returned (.bool false) ∧ W = W') (k2 : ∀ o, Calls Tryz.prog 136 #[.string (s.extract 0 2)] (W.alloc o) fun e W' => e = .returned (.bool false) ∧ W.alloc o = W') (k1 : ∀ o, Calls Tryz.prog 136 #[.string (s.extract 0 1)] (W.alloc o) fun e W' => e = .returned (.bool false) ∧ W.alloc o = W') :
  Calls Tryz.prog 149 #[.string s] W fun e W' => e = .returned (.tuple #[.agg #[.int .i64 0, .string ⟨#[]⟩, .int .i64 0, .int .u64 0, .int .i64 0], .int .i64 0, .int .i64 20]) ∧ Below W.heap.size W W' := by
 have KL := Lib.hid kl
 have KD := Lib.hid kd
 clear kl kd
 have hmin : min (2 : Int) (s.size : Int) = 2 := by omega
 have hs1 : (2 : Int) ≤ (s.size : Int) := by omega
 have K1 := Lib.hid k1
 clear k1
 have K2 := Lib.hid k2
 clear k2
 go_enter Tryz.func149, Tryz.ntmps149
 go_wp2
 go_step3
 go_wp2_with fail
 refine (KL.out _).mono ?_
 rintro e w' ⟨rfl, rfl⟩
 go_wp2_with fail
 refine (KD.out _).mono ?_
 rintro e w' ⟨rfl, rfl⟩
 go_wp2_with fail
 go_step3
 go_wp2_with fail
 refine wp_loop_rounds 3 ?_
 rw [rounds_succ]
 go_wp2_with fail
 refine (K2.out _).mono ?_
 rintro e w' ⟨rfl, rfl⟩
 go_wp2_with fail
 rw [rounds_succ]
 go_wp2_with fail
 refine (K1.out _).mono ?_
 rintro e w' ⟨rfl, rfl⟩
 go_wp2_with fail
 rw [rounds_succ]
 go_wp2_with fail
 go_wp2
 rw [Exit.noGoto_ret]
 refine bodyPost_ret (v := .tuple #[.agg #[.int .i64 0, .string ⟨#[]⟩, .int .i64 0, .int .u64 0, .int .i64 0], .int .i64 0, .int .i64 20]) ?_ rfl ⟨rfl, ?_⟩
 ·simp [results, Tryz.results149, go_sem]
 ·exact (Below.refl _ _).alloc (Nat.le_refl _) _
theorem figL_bad {l : List UInt8} {er : Int} (hf : figL l = .bad er) : er ≠ 0 := by
 have hp : ∀ {d}, plainL d = .bad er → er ≠ 0 := fun {d} h => by
  unfold plainL at h
  split at h <;> cases h
  decide
 unfold figL at hf
 split at hf
 ·exact hp hf
 ·split at hf
  ·unfold wideL at hf
   split at hf
   ·cases hf; decide
   ·split at hf
    ·cases hf; decide
    ·split at hf
     ·cases hf; decide
     ·split at hf <;> cases hf
      decide
  ·split at hf
   ·cases hf; decide
   ·exact hp hf
theorem takeWhile_pos {p : UInt8 → Bool} {c : UInt8} {r : List UInt8} (h : p c = true) : 0 < ((c :: r).takeWhile p).length := by
 rw [List.takeWhile_cons, if_pos h]; simp
theorem token_any (s : ByteArray) (hs : s.size ≤ 140737488351232) (h0 : 0 < s.size) (W : World) (hB : Base W) :
  Calls Tryz.prog 149 #[.string s] W fun e W' => TokPost (tokL s.data.toList) e ∧ Below W.heap.size W W' := by
 obtain ⟨c, r, hcr⟩ : ∃ c r, s.data.toList = c :: r := by
  cases h : s.data.toList with
  | nil => have : s.data.toList.length = s.size := rfl
           rw [h] at this; simp at this; omega
  | cons c r => exact ⟨c, r, rfl⟩
 obtain ⟨_, hg⟩ := head_get s c r hcr
 have kl := fun W => letter_any s[0] W
 have kd := fun W => digit_any s[0] W
 rw [hg] at kl kd
 have hlen : s.data.toList.length = s.size := rfl
 cases hl : isLetter c
 ·rw [hl] at kl
  cases hd : isDigit c
  ·rw [hd] at kd
   have t1 : (s.extract 0 1).data.toList = s.data.toList.take 1 := by rw [extract_bs, list_bs, List.drop_zero]
   have t2 : (s.extract 0 2).data.toList = s.data.toList.take 2 := by rw [extract_bs, list_bs, List.drop_zero]
   have k1 : ∀ o, Calls Tryz.prog 136 #[.string (s.extract 0 1)] (W.alloc o) fun e W' => e = .returned (.bool (isSign (s.data.toList.take 1))) ∧ W.alloc o = W' := fun o => by
    obtain ⟨m, hm⟩ := (hB.alloc o).max
    have := sign_any (s.extract 0 1) (by rw [size_list, t1]; simp; omega) _ m hm
    rwa [t1] at this
   have k2 : ∀ o, Calls Tryz.prog 136 #[.string (s.extract 0 2)] (W.alloc o) fun e W' => e = .returned (.bool (isSign (s.data.toList.take 2))) ∧ W.alloc o = W' := fun o => by
    obtain ⟨m, hm⟩ := (hB.alloc o).max
    have := sign_any (s.extract 0 2) (by rw [size_list, t2]; simp; omega) _ m hm
    rwa [t2] at this
   have hb1 : bs (s.data.toList.take 1) = s.extract 0 1 := by rw [← t1]; rfl
   have hb2 : bs (s.data.toList.take 2) = s.extract 0 2 := by rw [← t2]; rfl
   have hT : tokL s.data.toList = if 2 ≤ s.data.toList.length ∧ isSign (s.data.toList.take 2) = true then .tok ⟨4, s.data.toList.take 2, 0, 0, 0⟩ 2 else if isSign (s.data.toList.take 1) then .tok ⟨4, s.data.toList.take 1, 0, 0, 0⟩ 1 else .bad 20 := by
    rw [hcr, tokL, if_neg (by simp [hl]), if_neg (by simp [hd])]
   rw [hT, hlen]
   rw [← hg] at kl kd
   by_cases h1 : s.size = 1
   ·rw [if_neg (by omega)]
    cases h : isSign (s.data.toList.take 1)
    ·rw [h] at k1
     exact (token_s1_no s h0 h1 W kl kd k1).mono fun e W' h => ⟨⟨by decide, _, _, _, _, _, h.1⟩, h.2⟩
    ·rw [h] at k1
     exact (token_s1_yes s h0 h1 W kl kd k1).mono fun e W' h => ⟨by rw [h.1, ← hb1]; rfl, h.2⟩
   ·have h2 : 2 ≤ s.size := by omega
    cases hh : isSign (s.data.toList.take 2)
    ·rw [hh] at k2
     rw [if_neg (by simp)]
     cases h : isSign (s.data.toList.take 1)
     ·rw [h] at k1
      exact (token_s2_no s h0 h2 W kl kd k2 k1).mono fun e W' h => ⟨⟨by decide, _, _, _, _, _, h.1⟩, h.2⟩
     ·rw [h] at k1
      exact (token_s2_one s h0 h2 W kl kd k2 k1).mono fun e W' h => ⟨by rw [h.1, ← hb1]; rfl, h.2⟩
    ·rw [hh] at k2
     rw [if_pos ⟨h2, rfl⟩]
     exact (token_s2_two s h0 h2 W kl kd k2).mono fun e W' h => ⟨by rw [h.1, ← hb2]; rfl, h.2⟩
  ·rw [hd] at kd
   rw [← hg] at kl kd
   have hN : 0 < headN isDigit s.data.toList := by rw [hcr]; exact takeWhile_pos hd
   have hT : tokL s.data.toList = figL s.data.toList := by rw [hcr, tokL, if_neg (by simp [hl]), if_pos hd]
   rw [hT]
   have kf := fun W => figures_any s hs hN W
   cases hf : figL s.data.toList with
   | tok t n =>
    rw [hf] at kf
    exact (token_fig s h0 _ _ _ _ _ _ _ W kl kd kf).mono fun e W' h => ⟨h.1, h.2⟩
   | bad er =>
    rw [hf] at kf
    have her : er ≠ 0 := figL_bad hf
    exact (token_fig s h0 _ _ _ _ _ _ _ W kl kd kf).mono fun e W' h => ⟨⟨her, _, _, _, _, _, h.1⟩, h.2⟩
 ·rw [hl] at kl
  rw [← hg] at kl
  have hT : tokL s.data.toList = if 64 < (runL s.data.toList).length then .bad 2 else .tok ⟨if isWord (runL s.data.toList) then 2 else 1, runL s.data.toList, 0, 0, 0⟩ (runL s.data.toList).length := by
   rw [hcr, tokL, if_pos hl]
  rw [hT]
  have kr := fun W => run_any s (by omega) W
  have hrl : (runL s.data.toList).length ≤ 140737488351232 := by
   have := takeWhile_le (p := isPart) s.data.toList
   unfold runL; omega
  have kw : ∀ o, Calls Tryz.prog 135 #[.string (bs (runL s.data.toList))] (W.alloc o) fun e W' => e = .returned (.bool (isWord (runL s.data.toList))) ∧ W.alloc o = W' := fun o => by
   obtain ⟨m, hm⟩ := (hB.alloc o).max
   exact word_any (bs (runL s.data.toList)) (by rw [size_bs]; omega) _ m hm
  by_cases h64 : 64 < (runL s.data.toList).length
  ·rw [if_pos h64]
   refine (token_word s h0 _ _ W kl kr kw true (fun _ => by rw [size_bs]; omega) (fun h => by cases h)).mono fun e W' h => ⟨⟨by decide, _, _, _, 0, _, h.1⟩, h.2⟩
  ·rw [if_neg h64]
   refine (token_word s h0 _ _ W kl kr kw false (fun h => by cases h) (fun _ => by rw [size_bs]; omega)).mono fun e W' h => ⟨?_, h.2⟩
   rw [h.1]
   rfl
end Go.Proofs.YtlcfpdmicpggbaaGreatDoor
namespace Go.Proofs.YtlcfpdmicpggbaaGreatDoor
open Go.RowKit Go.Proofs.Scn Go.Flow Go.Sort
theorem Box3.of_block {w : World} {m : Nat} {a b c : Value} {t : TypeId} (h : w.heap[m]? = some (.cells #[a, b, c] t)) : Box3 w m a b c :=
 ⟨by simp [World.cell?, h], by simp [World.cell?, h], by simp [World.cell?, h], by simp [World.frozen?, h], by simp [World.frozen?, h], by simp [World.frozen?, h], (Array.getElem?_eq_some_iff.1 h).1⟩
theorem Box7.of_block {w : World} {m : Nat} {a b c d e f g : Value} {t : TypeId} (h : w.heap[m]? = some (.cells #[a, b, c, d, e, f, g] t)) : Box7 w m a b c d e f g :=
 ⟨by simp [World.cell?, h], by simp [World.cell?, h], by simp [World.cell?, h], by simp [World.cell?, h], by simp [World.cell?, h], by simp [World.cell?, h], by simp [World.cell?, h], by simp [World.frozen?, h], by simp [World.frozen?, h], by simp [World.frozen?, h], by simp [World.frozen?, h], by simp [World.frozen?, h], by simp [World.frozen?, h], by simp [World.frozen?, h], (Array.getElem?_eq_some_iff.1 h).1⟩
end Go.Proofs.YtlcfpdmicpggbaaGreatDoor
namespace Go.Proofs.YtlcfpdmicpggbaaGreatDoor
open Go.RowKit Go.Proofs.Scn Go.Flow Go.Sort
def noteN (l : List UInt8) : Nat := match l with
 | 47 :: 47 :: r => 2 + headN (· != 10) r
 | _ => 0
end Go.Proofs.YtlcfpdmicpggbaaGreatDoor
namespace Go.Proofs.YtlcfpdmicpggbaaGreatDoor
open Go.RowKit Go.Proofs.Scn Go.Flow Go.Sort
def ScanPost (W : World) (r : Except (Nat × Int) (List Tok)) (e : Ending) (W' : World) : Prop :=
 (match r with
  | .ok ts => ∃ v, e = .returned (.tuple #[v, .int .i64 0, .int .i64 0]) ∧ OwnT W.heap.size W' v ts
  | .error (k, er) => e = .returned (.tuple #[.slice none 0 0, .int .i64 (k : Nat), .int .i64 er])) ∧ Below W.heap.size W W'
theorem noteN_le (l : List UInt8) : noteN l ≤ l.length := by
 unfold noteN
 split
 ·rename_i r
  have := headN_le (· != 10) r
  simp; omega
 ·omega
theorem scanW_noteN (i : Nat) {l : List UInt8} (h : 0 < noteN l) : scanW i l = scanW (i + noteN l) (l.drop (noteN l)) := by
 unfold noteN at h ⊢
 split
 ·rename_i r
  rw [scanW_note i (r := 47 :: r) rfl, List.takeWhile_cons, List.dropWhile_cons]
  simp only [show ((47 : UInt8) != 10) = true from rfl, if_true, List.length_cons]
  rw [show i + 1 + ((r.takeWhile (· != 10)).length + 1) = i + (2 + headN (· != 10) r) from by unfold headN; omega]
  rw [show (47 :: 47 :: r).drop (2 + headN (· != 10) r) = r.drop (headN (· != 10) r) from by rw [Nat.add_comm]; rfl, drop_headN]
 ·rename_i hno
  simp at h
theorem noteN_zero {c : UInt8} {r : List UInt8} (h : noteN (c :: r) = 0) : ¬ (c = 47 ∧ r.head? = some 47) := by
 rintro ⟨rfl, hr⟩
 cases r with
 | nil => simp at hr
 | cons d r =>
  simp at hr
  subst hr
  simp [noteN] at h
def ahead (ts : List Tok) : Except (Nat × Int) (List Tok) → Except (Nat × Int) (List Tok)
 | .ok us => .ok (ts ++ us)
 | .error e => .error e
theorem ahead_nil (r : Except (Nat × Int) (List Tok)) : ahead [] r = r := by cases r <;> rfl
theorem ahead_ahead (a b : List Tok) (r : Except (Nat × Int) (List Tok)) : ahead a (ahead b r) = ahead (a ++ b) r := by cases r <;> simp [ahead]
theorem scanW_step (i : Nat) {c : UInt8} {r : List UInt8} {t : Tok} {n : Nat} (h1 : isBlank c = false) (h2 : ¬ (c = 47 ∧ r.head? = some 47)) (h : tokL (c :: r) = .tok t n) :
  scanW i (c :: r) = ahead [{ t with p := i }] (scanW (i + n) ((c :: r).drop n)) := by
 rw [scanW_tok i h1 h2 h]
 obtain ⟨m, rfl⟩ : ∃ m, n = m + 1 := ⟨n - 1, by have := (tok_is h).pos; omega⟩
 rw [show (c :: r).drop (m + 1) = r.drop m from rfl, Nat.add_sub_cancel]
 cases scanW (i + (m + 1)) (r.drop m) <;> rfl
end Go.Proofs.YtlcfpdmicpggbaaGreatDoor
namespace Go.Proofs.YtlcfpdmicpggbaaGreatDoor
open Go.RowKit Go.Proofs.Scn Go.Flow Go.Sort
theorem cellsTs_snoc (ts : List Tok) (t : Tok) : cellsTs (ts ++ [t]) = cellsTs ts ++ cellsT t := by simp [cellsTs]
theorem tokInfo : (Tryz.prog.info? 55).map (fun i => (i.zero, i.size, i.bytes)) = some (some (.agg #[.int .i64 0, .string ⟨#[]⟩, .int .i64 0, .int .u64 0, .int .i64 0]), 5, 48) := by kernel_rfl
theorem tokSlice : Tryz.prog.underlying 36 = some (.slice 55) := by kernel_rfl
theorem grow_tok {W W2 w3 : World} {o b : Obj} {ts : List Tok} {t : Tok} {q : Option Addr} {cp : Nat} {v' : Value} (HO2 : OwnT W.heap.size W2 (.slice q ts.length cp) ts) (hB3 : Below W.heap.size W (W2.alloc o))
  (hown : w3.ownsRow W.heap.size 55 5 v' (ts.length + 1) (cellsTs ts ++ cellsT t)) (hgr : ((W2.alloc o).alloc b).grownBy w3 (Value.slice q ts.length cp).ownBlock) :
  OwnT W.heap.size w3 v' (ts ++ [t]) ∧ Below W.heap.size W w3 ∧ (∀ j, w3.cell? ⟨W2.heap.size, j, none⟩ = (W2.alloc o).cell? ⟨W2.heap.size, j, none⟩) ∧ ∃ g3 cap3, v' = .slice (some ⟨g3, 0, none⟩) (ts.length + 1) cap3 := by
 have hne : some W2.heap.size ≠ (Value.slice q ts.length cp).ownBlock := fun he => Nat.lt_irrefl _ (World.ownsRow.lt HO2 _ he.symm).2
 have hs : W.heap.size ≤ (W2.alloc o).heap.size := hB3.size
 refine ⟨?_, ?_, fun j => ?_, ?_⟩
 ·unfold OwnT
  rw [List.length_append, cellsTs_snoc]
  exact hown
 ·exact Below.grown (hB3.alloc hs b) hgr (by simp at hs ⊢; omega) fun k hk => (World.ownsRow.lt HO2 k hk).1
 ·rw [hgr.cell_far ⟨W2.heap.size, j, none⟩ (by simp; omega) hne]
  exact World.cell?_of_block (heap_alloc_old (W2.alloc o) b (by simp))
 ·rcases hown.2 with ⟨_, h⟩ | ⟨g3, cap3, _, h, _⟩
  ·omega
  ·exact ⟨g3, cap3, h⟩
end Go.Proofs.YtlcfpdmicpggbaaGreatDoor
namespace Go.Proofs.YtlcfpdmicpggbaaGreatDoor
open Go.RowKit Go.Proofs.Scn Go.Flow Go.Sort
theorem jump_weaken {P : Program} {l : Nat} {J : Act → World → Prop} {R : Act → World → Prop} {Q : Exit → Act → World → Prop} {b : Code} {a : Act} {w : World} (h : b.wp P (Exit.jump l (fun a' w' => J a' w' ∧ R a' w') Q) a w) : b.wp P (Exit.jump l J Q) a w :=
 wp_mono h fun e a' w' he => by
  cases e with
  | goto l' => exact ⟨he.1, he.2.1⟩
  | _ => exact he
theorem wp_scope_label {P : Program} {c b : Code} {Q : Exit → Act → World → Prop} {a : Act} {w : World} (l : Nat) (J : Act → World → Prop) (μ : Act → World → Nat) (hf : findLabel c l = some (.seq .skip b))
  (pass : ∀ a w, J a w → b.wp P (Exit.jump l (fun a' w' => J a' w' ∧ μ a' w' < μ a w) Q) a w)
  (first : (∀ a w, J a w → b.wp P (Exit.jump l J Q) a w) → c.wp P (Exit.jump l J Q) a w) : (Code.scope c).wp P Q a w :=
 wp_scope_jumps l J μ hf (first fun a w h => jump_weaken (pass a w h)) fun a w h => wp_seq (wp_skip (pass a w h))
theorem cut_nl (l : List UInt8) : (Lib.cut l [10]).1 = l.takeWhile (· != 10) := by
 have key : ∀ l : List UInt8, (Lib.indexByte l 10 = -1 ∧ l.takeWhile (· != 10) = l) ∨ (0 ≤ Lib.indexByte l 10 ∧ l.take (Lib.indexByte l 10).toNat = l.takeWhile (· != 10)) := by
  intro l
  induction l with
  | nil => exact .inl ⟨rfl, rfl⟩
  | cons b l ih =>
   rw [Lib.indexByte, List.takeWhile_cons]
   by_cases hb : b = 10
   ·subst hb
    exact .inr ⟨by simp, by simp⟩
   ·have h1 : (b == 10) = false := by simpa using hb
    have h2 : (b != 10) = true := by simpa using hb
    rw [h1, h2]
    simp only [Bool.false_eq_true, if_false, if_true]
    rcases ih with ⟨hi, ht⟩ | ⟨hi, ht⟩
    ·left
     rw [hi, ht]
     exact ⟨rfl, rfl⟩
    ·right
     have h3 : (Lib.indexByte l 10 == -1) = false := by
      rw [beq_eq_false_iff_ne]; omega
     rw [h3]
     simp only [Bool.false_eq_true, if_false]
     refine ⟨by omega, ?_⟩
     rw [show (Lib.indexByte l 10 + 1).toNat = (Lib.indexByte l 10).toNat + 1 from by omega, List.take_succ_cons, ht]
 unfold Lib.cut
 rw [Lib.index_one]
 rcases key l with ⟨hi, ht⟩ | ⟨hi, ht⟩
 ·rw [hi, ht]; rfl
 ·rw [if_pos hi]; exact ht
theorem scanW_blanks (l : List UInt8) : ∀ i, scanW i l = scanW (i + headN isBlank l) (l.dropWhile isBlank) := by
 induction l with
 | nil => intro i; rfl
 | cons c r ih =>
  intro i
  cases h : isBlank c
  ·simp [headN, List.takeWhile_cons, List.dropWhile_cons, h]
  ·rw [scanW_blank i h, ih (i + 1)]
   simp only [headN, List.takeWhile_cons, List.dropWhile_cons, h, if_true, List.length_cons]
   congr 1
   omega
theorem trim_blank (l : List UInt8) : Lib.trimLeftS l [32, 9, 10, 13] = l.dropWhile isBlank := by
 unfold Lib.trimLeftS
 congr 1
 funext c
 exact forall_u8 (P := fun c => [32, 9, 10, 13].contains c = isBlank c) (by decide) c
theorem prefix_note (l : List UInt8) : Lib.hasPrefix l [47, 47] = decide (0 < noteN l) := by
 unfold Lib.hasPrefix noteN
 split
 ·rename_i r
  have : 0 < 2 + headN (· != 10) r := by omega
  simp [List.isPrefixOf, this]
 ·rename_i hno
  match l, hno with
  | [], _ => rfl
  | [c], _ => simp [List.isPrefixOf]
  | c :: d :: r, hno =>
   by_cases hc : c = 47
   ·by_cases hd : d = 47
    ·exact (hno r (by rw [hc, hd])).elim
    ·have : ((47 : UInt8) == d) = false := by rw [beq_eq_false_iff_ne]; exact fun e => hd e.symm
     simp [List.isPrefixOf, this]
   ·have : ((47 : UInt8) == c) = false := by rw [beq_eq_false_iff_ne]; exact fun e => hc e.symm
    simp [List.isPrefixOf, this]
theorem note_line {l : List UInt8} (h : 0 < noteN l) : (l.takeWhile (· != 10)).length = noteN l := by
 unfold noteN at h ⊢
 split
 ·rename_i r
  simp only [List.takeWhile_cons, show ((47 : UInt8) != 10) = true from rfl, if_true, List.length_cons]
  unfold headN
  omega
 ·rename_i hno
  simp at h
def At (W : World) (s : ByteArray) (pa : Option Addr) (l c : Nat) (res : Except (Nat × Int) (List Tok)) (a : Act) (w : World) : Prop :=
 ∃ (k : Nat) (ts : List Tok) (q : Option Addr) (cp : Nat) (u8 u9 u10 u11 u12 u13 u14 u17 u20 u21 u22 u23 u24 u25 u26 u27 u28 u29 u30 u31 u32 u33 u34 u35 u36 u37 u38 u39 u40 u41 u42 u43 u44 u45 u46 u47 u48 u49 u50 u51 u52 u53 u54 u55 u56 u57 u58 u59 u60 u61 u62 : Value), a = { tmps := #[.slice pa l c, undef, .slice none 0 0, .int .i64 0, .int .i64 0, .string s, .slice q ts.length cp, .int .i64 k, u8, u9, u10, u11, u12, u13, u14, .slice pa l c, .int .i64 l, u17, .slice pa l c, .string s, u20, u21, u22, u23, u24, u25, u26, u27, u28, u29, u30, u31, u32, u33, u34, u35, u36, u37, u38, u39, u40, u41, u42, u43, u44, u45, u46, u47, u48, u49, u50, u51, u52, u53, u54, u55, u56, u57, u58, u59, u60, u61, u62], defers := [] } ∧ k ≤ s.size ∧ ts.length ≤ k ∧ Hid (OwnT W.heap.size w (.slice q ts.length cp) ts) ∧ Hid (Below W.heap.size W w) ∧ Hid (ahead ts (scanW k (s.data.toList.drop k)) = res)
theorem scan_any (v : Value) (s : ByteArray) (h : s.size ≤ 65536) (W : World) (hB : Bytes W v s) (hBase : Base W) :
  Calls Tryz.prog 77 #[v] W (ScanPost W (scanW 0 s.data.toList)) := by
 have hconv := str_run hB
 obtain ⟨pa, l, c, rfl, hl⟩ : ∃ p l c, v = .slice p l c ∧ l = s.size := by
  rcases hB with ⟨h0, p, cap, rfl⟩ | ⟨b, off, cap, rfl, _⟩
  ·exact ⟨_, _, _, rfl, h0.symm⟩
  ·exact ⟨_, _, _, rfl, rfl⟩
 clear hB
 have hh : ¬ (65536 : Int) < (l : Int) := by omega
 clear hl
 have hlen : s.data.toList.length = s.size := rfl
 have hstart : ahead [] (scanW 0 (s.data.toList.drop 0)) = scanW 0 s.data.toList := by rw [ahead_nil]; rfl
 have HS := Lib.hid hstart
 have HL := Lib.hid hlen
 have HBase := Lib.hid hBase
 clear hstart hlen hBase
 obtain ⟨i0, hi, hz0, hz1, hz2⟩ := info_parts tokInfo
 generalize scanW 0 s.data.toList = res at *
 have hdef : ∀ e W', (ScanPost W res e W' ↔ ScanPost W res e W') := fun _ _ => Iff.rfl
 generalize hP : ScanPost W res = P at hdef ⊢
 have HP := Lib.hid hP
 clear hdef hP
 go_enter Tryz.func77, Tryz.ntmps77
 go_wp2
 refine wp_scope_label 0 (At W s pa l c res) (fun a _ => s.size - (intOf (a.tmps.getD 7 undef)).toNat) rfl ?pass ?first
 case first =>
  intro hrest
  go_wp2
  rename_i hK
  exact wp_label (hK _ _ (hrest _ _ ⟨0, [], none, 0, _, _, _, _, _, _, _, _, _, _, _, _, _, _, _, _, _, _, _, _, _, _, _, _, _, _, _, _, _, _, _, _, _, _, _, _, _, _, _, _, _, _, _, _, _, _, _, _, _, _, _, rfl, Nat.zero_le _, Nat.le_refl _, Lib.hid (OwnT.nil _ _), Lib.hid (Below.refl _ _), HS⟩))
 case pass =>
  clear hconv hh HS
  rintro a wr ⟨k, ts, q, cp, u8, u9, u10, u11, u12, u13, u14, u17, u20, u21, u22, u23, u24, u25, u26, u27, u28, u29, u30, u31, u32, u33, u34, u35, u36, u37, u38, u39, u40, u41, u42, u43, u44, u45, u46, u47, u48, u49, u50, u51, u52, u53, u54, u55, u56, u57, u58, u59, u60, u61, u62, rfl, hk, htk, HO, HB, HA⟩
  have hdl : (s.data.toList.drop k).length = s.size - k := by rw [List.length_drop, HL.out]
  have hex : (s.extract k s.size).data.toList = s.data.toList.drop k := by rw [extract_bs, list_bs, List.take_of_length_le (Nat.le_of_eq HL.out)]
  have kt := Any.strings_TrimLeft_laid Tryz.lays161 (by kernel_rfl) (s.extract k s.size) ⟨#[32, 9, 10, 13]⟩ wr (by decide) (ascii_of_all (by decide))
  rw [hex, show (ByteArray.mk #[32, 9, 10, 13]).data.toList = [32, 9, 10, 13] from rfl, trim_blank] at kt
  change Calls Tryz.prog 146 #[.string (s.extract k s.size), .string ⟨#[32, 9, 10, 13]⟩] wr (fun e w' => e = .returned (.string (bs ((s.data.toList.drop k).dropWhile isBlank))) ∧ Below wr.heap.size wr w') at kt
  have hA2 := HA.out
  rw [scanW_blanks] at hA2
  have hN := headN_le isBlank (s.data.toList.drop k)
  rw [hdl] at hN
  have hdd : (s.data.toList.drop k).dropWhile isBlank = s.data.toList.drop (k + headN isBlank (s.data.toList.drop k)) := by rw [← drop_headN, List.drop_drop]
  have hbh : ∀ c r, (s.data.toList.drop k).dropWhile isBlank = c :: r → isBlank c = false := fun c r e => dropWhile_head e
  rw [hdd] at kt hA2 hbh
  generalize headN isBlank (s.data.toList.drop k) = nb at *
  generalize hj : k + nb = j at *
  have hRl : (s.data.toList.drop j).length = s.size - j := by rw [List.length_drop, HL.out]
  have hRj : ∀ n, (s.data.toList.drop j).drop n = s.data.toList.drop (j + n) := fun n => by rw [List.drop_drop]
  generalize hR : bs (s.data.toList.drop j) = R at *
  have hRs : R.data.toList = s.data.toList.drop j := by rw [← hR, list_bs]
  have hsz : R.size = s.size - j := by rw [size_list, hRs, hRl]
  have hsub0 : (s.size : Int) - (R.size : Int) = (j : Int) := by omega
  have HSZ := Lib.hid hsz
  have hsub := hsub0
  clear hsub0
  have hksz : (k : Int) ≤ (s.size : Int) := by omega
  have KT := Lib.hid kt
  clear kt hdl hex hdd
  have kp := fun w => Tryz.strings_HasPrefix R ⟨#[47, 47]⟩ w
  rw [hRs, show (ByteArray.mk #[47, 47]).data.toList = [47, 47] from rfl, prefix_note] at kp
  by_cases hnote : 0 < noteN (s.data.toList.drop j)
  ·have hres : ahead ts (scanW (j + noteN (s.data.toList.drop j)) (s.data.toList.drop (j + noteN (s.data.toList.drop j)))) = res := by
    rw [scanW_noteN j hnote, hRj] at hA2
    exact hA2
   have hline := note_line hnote
   have hnl := noteN_le (s.data.toList.drop j)
   rw [hRl] at hnl
   have kc := fun w (hm : ∃ m : Int, w.cell? ⟨2, 0, none⟩ = some (.int .i64 m)) => Tryz.strings_Cut R ⟨#[10]⟩ _ w (by omega) hm.choose_spec
   rw [hRs, show (ByteArray.mk #[10]).data.toList = [10] from rfl, cut_nl] at kc
   rw [decide_eq_true hnote] at kp
   have hts : (⟨((s.data.toList.drop j).takeWhile (· != 10)).toArray⟩ : ByteArray).size = noteN (s.data.toList.drop j) := hline
   generalize (⟨((s.data.toList.drop j).takeWhile (· != 10)).toArray⟩ : ByteArray) = L at *
   generalize noteN (s.data.toList.drop j) = n at *
   have hsum : (j : Int) + (L.size : Int) = ((j + n : Nat) : Int) := by omega
   have HR := Lib.hid hres
   have KP := Lib.hid kp
   have KC := Lib.hid kc
   have hRle : R.size ≤ s.size := by omega
   clear kp kc hline hres hA2 hRj hR hRs hRl hbh hsz hts
   go_wp2_with fail
   refine (KT.out).mono ?_
   rintro e W2 ⟨rfl, hb2⟩
   have hO2 := HO.out.later hb2
   have hB2 := HB.out.trans (hb2.mono HB.out.size)
   clear hb2
   go_wp2_with fail
   refine (KP.out _).mono ?_
   rintro e w' ⟨rfl, rfl⟩
   go_wp2_with fail
   refine (KC.out _ (HBase.out.later hB2).max).mono ?_
   rintro e W3 ⟨rfl, m, rfl⟩
   have HO3 := Lib.hid (hO2.later (below_drewN (Below.refl _ _) m))
   have HB3 := Lib.hid (below_drewN hB2 m)
   clear hO2 hB2
   go_wp2
   go_step3
   exact ⟨rfl, ⟨j + n, ts, q, cp, _, _, _, _, _, _, _, _, _, _, _, _, _, _, _, _, _, _, _, _, _, _, _, _, _, _, _, _, _, _, _, _, _, _, _, _, _, _, _, _, _, _, _, _, _, _, _, _, _, _, _, rfl, by omega, by omega, HO3, HB3, HR⟩, by simp [intOf]; omega⟩
  have hn0 : noteN (s.data.toList.drop j) = 0 := by omega
  rw [decide_eq_false hnote] at kp
  have KP := Lib.hid kp
  clear kp hnote
  by_cases hjs : j < s.size
  ·have hcons : s.data.toList.drop j = s[j] :: s.data.toList.drop (j + 1) := by
    rw [List.drop_eq_getElem_cons (show j < s.data.toList.length from hjs)]
    rfl
   have hbl : isBlank s[j] = false := hbh _ _ hcons
   have hnt : ¬ (s[j] = 47 ∧ (s.data.toList.drop (j + 1)).head? = some 47) := by
    rw [hcons] at hn0
    exact noteN_zero hn0
   have hne : R.toList.isEmpty = false := by
    rw [toList_eq, hRs, hcons]; rfl
   have kk := fun w (hB : Base w) => token_any R (by omega) (by omega) w hB
   rw [hRs] at kk
   cases ht : tokL (s.data.toList.drop j) with
   | bad er =>
    have hres : Except.error (j, er) = res := by
     rw [hcons, scanW_bad j hbl hnt (by rw [← hcons]; exact ht)] at hA2
     exact hA2
    rw [ht] at kk
    have HR := Lib.hid hres
    have KK := Lib.hid kk
    have hRle : R.size ≤ s.size := by omega
    clear kk hres hA2 hRj hR hRs hRl hbh hsz hcons ht hn0
    go_wp2_with fail
    refine (KT.out).mono ?_
    rintro e W2 ⟨rfl, hb2⟩
    have hB2 := HB.out.trans (hb2.mono HB.out.size)
    clear hb2
    go_wp2_with fail
    refine (KP.out _).mono ?_
    rintro e w' ⟨rfl, rfl⟩
    go_wp2_with fail
    refine (KK.out _ (HBase.out.later hB2)).mono ?_
    rintro e W3 ⟨⟨her, tk, tS, tw, tv, tp, rfl⟩, hb3⟩
    have HB3 := Lib.hid (hB2.trans (hb3.mono hB2.size))
    clear hb3 hB2
    go_wp2
    simp only [Exit.jump]
    go_ret3
    rw [← HP.out, ← HR.out]
    exact ⟨rfl, HB3.out.alloc HB3.out.size _⟩
   | tok t n =>
    have hnp := (tok_is ht).pos
    have hnl2 := (tok_is ht).le
    rw [hRl] at hnl2
    have hres : ahead (ts ++ [{ t with p := j }]) (scanW (j + n) (s.data.toList.drop (j + n))) = res := by
     rw [hcons, scanW_step j hbl hnt (by rw [← hcons]; exact ht), ahead_ahead, ← hcons, hRj] at hA2
     exact hA2
    rw [ht] at kk
    have HR := Lib.hid hres
    have KK := Lib.hid kk
    have hRle : R.size ≤ s.size := by omega
    clear kk hres hA2 hRj hR hRs hRl hbh hsz hcons ht hn0
    go_wp2_with fail
    refine (KT.out).mono ?_
    rintro e W2 ⟨rfl, hb2⟩
    have hO2 := HO.out.later hb2
    have hB2 := HB.out.trans (hb2.mono HB.out.size)
    clear hb2
    go_wp2_with fail
    refine (KP.out _).mono ?_
    rintro e w' ⟨rfl, rfl⟩
    go_wp2_with fail
    refine (KK.out _ (HBase.out.later hB2)).mono ?_
    rintro e W3 ⟨rfl, hb3⟩
    have HO3 := hO2.later hb3
    have HB3 := Lib.hid ((hB2.trans (hb3.mono hB2.size)).alloc (hB2.trans (hb3.mono hB2.size)).size (.cells #[.int .i64 t.k, .string (bs t.s), .int .i64 t.w, .int .u64 t.v, .int .i64 j] 55))
    clear hb3 hB2 hO2
    simp only [tokVal]
    go_wp2_with (at_builtin; refine wpList_append_own _ rfl _ _ 36 rfl W.heap.size 55 i0 (.agg #[.int .i64 0, .string ⟨#[]⟩, .int .i64 0, .int .u64 0, .int .i64 0]) 5 48 tokSlice hi hz0 hz1 hz2 rfl (by decide) _ _ _ rfl ((HO3.alloc _).alloc _) ⟨W3.heap.size + 1, 0, none⟩ 1 1 (cellsT { t with p := j }) rfl rfl (news5 _ _ _ _) (by simp [cellsT, Value.oneCell']) (by unfold maxLen; omega) (by omega) (by have := HB3.out.size; simp at this ⊢; omega) ?_; intro v' w3 hown' hgrow3 hnil3; clear hnil3; have HX := Lib.hid (grow_tok HO3 HB3.out hown' hgrow3); obtain ⟨g3, cap3, rfl⟩ := HX.out.2.2.2; clear hown' hgrow3)
    go_step3
    exact ⟨rfl, ⟨j + n, ts ++ [{ t with p := j }], some ⟨g3, 0, none⟩, cap3, _, _, _, _, _, _, _, _, _, _, _, _, _, _, _, _, _, _, _, _, _, _, _, _, _, _, _, _, _, _, _, _, _, _, _, _, _, _, _, _, _, _, _, _, _, _, _, _, _, _, _, by rw [List.length_append]; rfl, by omega, by simp; omega, Lib.hid (by rw [List.length_append]; exact HX.out.1), Lib.hid HX.out.2.1, HR⟩, by simp [intOf]; omega⟩
  ·have hend : Except.ok ts = res := by
    rw [List.drop_of_length_le (by rw [HL.out]; omega), scanW_nil] at hA2
    simpa [ahead] using hA2
   have hne : R.toList.isEmpty = true := by
    rw [toList_eq, hRs, List.drop_of_length_le (by rw [HL.out]; omega)]; rfl
   have HE := Lib.hid hend
   have hRle : R.size ≤ s.size := by omega
   clear hend hA2 hRj hR hRs hRl hbh hsz hn0
   go_wp2_with fail
   refine (KT.out).mono ?_
   rintro e W2 ⟨rfl, hb2⟩
   have HO2 := Lib.hid (HO.out.later hb2)
   have HB2 := Lib.hid (HB.out.trans (hb2.mono HB.out.size))
   clear hb2
   go_wp2_with fail
   refine (KP.out _).mono ?_
   rintro e w' ⟨rfl, rfl⟩
   go_wp2
   simp only [Exit.jump]
   go_ret3
   rw [← HP.out, ← HE.out]
   exact ⟨⟨_, rfl, HO2.out⟩, HB2.out⟩
end Go.Proofs.YtlcfpdmicpggbaaGreatDoor
namespace Go.Proofs.Scn
theorem tok_head {c : UInt8} {r : List UInt8} {t : Tok} {n : Nat} (h : tokL (c :: r) = .tok t n) : isBlank c = false ∧ c ≠ 47 := by
 rw [tokL] at h
 split at h
 ·rename_i hc; exact ⟨(letter_not hc).2.1, (letter_not hc).2.2.1⟩
 ·split at h
  ·rename_i hc; exact ⟨(digit_not hc).2.1, (digit_not hc).2.2.1⟩
  ·split at h
   ·rename_i h2
    have := sign_mem h2.2
    match r, h2.1 with
    | d :: r, _ => simpa using And.intro this.2.2.1 this.2.2.2.1
   ·split at h
    ·rename_i h2
     have := sign_mem h2
     simpa using And.intro this.2.2.1 this.2.2.2.1
    ·exact absurd h (by simp)
def at0 (t : Tok) : Tok := { t with p := 0 }
theorem scanW_one (i : Nat) {l : List UInt8} {t : Tok} {n : Nat} (h : tokL l = .tok t n) :
  scanW i l = match scanW (i + n) (l.drop n) with | .ok ts => .ok ({ t with p := i } :: ts) | .error x => .error x := by
 have hi := tok_is h
 match l, h, hi with
 | [], h, _ => exact absurd h (by simp [tokL])
 | c :: r, h, hi =>
  obtain ⟨h1, h2⟩ := tok_head h
  obtain ⟨m, rfl⟩ : ∃ m, n = m + 1 := ⟨n - 1, by have := hi.pos; omega⟩
  rw [scanW_tok i h1 (fun hh => h2 hh.1) h]
  rfl
theorem scan_text : ∀ (ts : List Tok) (i : Nat), (∀ t ∈ ts, checkT t = true ∧ t.v < two64) → ∃ us, scanW i (textL ts) = .ok us ∧ us.map at0 = ts.map at0 := by
 intro ts
 induction ts with
 | nil => intro i _; exact ⟨[], by rw [textL, scanW_nil], rfl⟩
 | cons t l ih =>
  intro i h
  have ht := h t (by simp)
  match l, ih, h with
  | [], ih, h =>
   have := tok_one (r := []) ht.1 ht.2 (.inl rfl)
   rw [List.append_nil] at this
   rw [textL, scanW_one i this, List.drop_length, scanW_nil]
   exact ⟨_, rfl, rfl⟩
  | u :: l, ih, h =>
   obtain ⟨us, h1, h2⟩ := ih (i + (oneT t).length + 1) (fun x hx => h x (by simp at hx ⊢; exact .inr hx))
   have hs : sepT t = 32 ∨ sepT t = 10 := by unfold sepT; split <;> simp
   have := tok_one (r := sepT t :: textL (u :: l)) ht.1 ht.2 (.inr ⟨_, _, rfl, hs⟩)
   rw [textL, scanW_one i this, List.drop_left, scanW_blank _ (by rcases hs with hs | hs <;> rw [hs] <;> decide), h1]
   exact ⟨_, rfl, by simp [h2, at0]⟩
end Go.Proofs.Scn
namespace Go.Proofs.Spl
open Go.Proofs.Scn
def Itm.tok (i : Itm) : List Tok := if i.b then parT (exprT i.x) else exprT i.x
end Go.Proofs.Spl
