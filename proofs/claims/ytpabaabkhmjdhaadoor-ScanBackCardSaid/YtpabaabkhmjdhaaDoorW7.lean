/- Figures, and what a text begins with: scan. -/
import Derived.Test.YtpabaabkhmjdhaaDoorW6
import Derived.Test.YtpabaabkhmjdhaaDoorR7
namespace Go.Proofs.YtpabaabkhmjdhaaDoor
open Go.RowKit Go.Proofs.Scn Go.Flow Go.Sort
set_option linter.unusedVariables false
set_option linter.unusedSimpArgs false
set_option maxRecDepth 100000

theorem Box5.of_block {w : World} {m : Nat} {a b c d e : Value} {t : TypeId} (h : w.heap[m]? = some (.cells #[a, b, c, d, e] t)) : Box5 w m a b c d e :=
  ⟨by simp [World.cell?, h], by simp [World.cell?, h], by simp [World.cell?, h], by simp [World.cell?, h], by simp [World.cell?, h], by simp [World.frozen?, h], by simp [World.frozen?, h], by simp [World.frozen?, h], by simp [World.frozen?, h], by simp [World.frozen?, h], (Array.getElem?_eq_some_iff.1 h).1⟩

theorem store5 (e : Operand → Value) (x d : Tmp) {W : World} {m : Nat} {a0 b0 c0 d0 e0 : Value} {k w p : Int} {s : ByteArray} {v : Int} {pos : String} {af : Array Edge} {ty : TypeId} (hO : W.heap[m]? = some (.cells #[a0, b0, c0, d0, e0] 32)) (h1 : e (.tmp d) = .pointer (some ⟨m, 0, none⟩)) (h2 : e (.tmp x) = .agg #[.int .i64 k, .string s, .int .i64 w, .int .u64 v, .int .i64 p]) :
    ∃ W', (execOp e { dst := none, op := .store 32 (.tmp d) (.tmp x), type := ty, pos := pos, after := af, guard := none }).run Tryd.prog W = .ok .skip W' ∧ W'.heap[m]? = some (.cells #[.int .i64 k, .string s, .int .i64 w, .int .u64 v, .int .i64 p] 32) ∧ ∀ B, B ≤ m → B ≤ W.heap.size → Below B W W' := by
  obtain ⟨t0, t1, t2, t3, t4, tf0, tf1, tf2, tf3, tf4, tl⟩ := Box5.of_block hO
  refine ⟨((((W.setCell ⟨m, 0, none⟩ (.int .i64 k)).setCell ⟨m, 1, none⟩ (.string s)).setCell ⟨m, 2, none⟩ (.int .i64 w)).setCell ⟨m, 3, none⟩ (.int .u64 v)).setCell ⟨m, 4, none⟩ (.int .i64 p), by go_simp, by simp [World.setCell, Array.getElem?_modify, hO], fun B h _ => (((((Below.refl _ _).setCell h _).setCell h _).setCell h _).setCell h _).setCell h _⟩

theorem dig_facts (s : ByteArray) : ∃ N, N = headN isDigit s.data.toList ∧ N ≤ s.size ∧ (∀ k (h : k < s.size), k < N → isDigit s[k] = true) ∧ (∀ h : N < s.size, isDigit s[N] = false) := head_facts isDigit s

theorem block_alloc (w : World) (o : Obj) : (w.alloc o).heap[w.heap.size]? = some o := by simp [World.alloc, -World.alloc_eq]

set_option maxHeartbeats 4000000 in
theorem figures_wide (s : ByteArray) (hs : s.size ≤ 140737488351232) (N : Nat) (hle : N < s.size) (h1 : ∀ k (h : k < s.size), k < N → isDigit s[k] = true) (h2 : isDigit s[N] = false) (h39 : s[N] = 39) (a w p n er : Int) (S : ByteArray) (v : Nat) (W : World)
    (kw : ∀ W, Calls Tryd.prog 66 #[.string (s.extract 0 N), .string (s.extract N s.size)] W fun e W' => e = .returned (.tuple #[.agg #[.int .i64 a, .string S, .int .i64 w, .int .u64 v, .int .i64 p], .int .i64 n, .int .i64 er]) ∧ Below W.heap.size W W') :
    Calls Tryd.prog 52 #[.string s] W fun e W' => e = .returned (.tuple #[.agg #[.int .i64 a, .string S, .int .i64 w, .int .u64 v, .int .i64 p], .int .i64 n, .int .i64 er]) ∧ Below W.heap.size W W' := by
  have q39 : ((s[N].toNat : Int) == 39) = true := by rw [h39]; rfl
  have kd0 := digit_any s[N]
  rw [h2] at kd0
  have KD0 := Lib.hid kd0
  have H1 := Lib.hid h1
  have KW := Lib.hid kw
  clear h1 h2 h39 kd0 kw
  have hW : Below W.heap.size W (W.alloc (.cells #[.int .i64 0, .string ⟨#[]⟩, .int .i64 0, .int .u64 0, .int .i64 0] 32)) := (Below.refl _ _).alloc (Nat.le_refl _) _
  have hO := block_alloc W (.cells #[.int .i64 0, .string ⟨#[]⟩, .int .i64 0, .int .u64 0, .int .i64 0] 32)
  go_enter Tryd.func52, Tryd.ntmps52
  go_wp2
  generalize W.alloc (.cells #[.int .i64 0, .string ⟨#[]⟩, .int .i64 0, .int .u64 0, .int .i64 0] 32) = X at *
  have HO := Lib.hid hO
  have HW := Lib.hid hW
  clear hO hW
  go_loop [3] (fun i => ∃ k : Nat, k ≤ N ∧ i = .int .i64 k) (fun i => s.size - (intOf i).toNat)
  case atStart => exact ⟨0, Nat.zero_le _, rfl⟩
  case round =>
    obtain ⟨k, hk, rfl⟩ := hrel
    by_cases hlt : k < N
    · have hks : k < s.size := by omega
      have kd := digit_any s[k]
      rw [H1.out k hks hlt] at kd
      have KD := Lib.hid kd
      clear kd
      go_wp2_with (go_at_call 51; refine (KD.out _).mono ?_; rintro e w' ⟨rfl, rfl⟩)
      go_round
      case rel => exact ⟨k + 1, by omega, by go_num⟩
      case measure => simp [intOf]; omega
    · obtain rfl : k = N := by omega
      go_wp2_with (go_at_call 51; refine (KD0.out _).mono ?_; rintro e w' ⟨rfl, rfl⟩)
      refine wp_region_store (aF := ?aF) [false, false, false, false, false, false, false, false, false, false, true, false, false] 10 2 38 W.heap.size W.heap.size (.cells #[.int .i64 0, .string ⟨#[]⟩, .int .i64 0, .int .u64 0, .int .i64 0] 32) (.cells #[.int .i64 a, .string S, .int .i64 w, .int .u64 v, .int .i64 p] 32) (.agg #[.int .i64 a, .string S, .int .i64 w, .int .u64 v, .int .i64 p]) (by kernel_rfl) (by kernel_rfl) (by kernel_rfl) (by kernel_rfl) (by kernel_rfl) (by kernel_rfl) rfl (by decide) (by decide) 7 (by kernel_rfl) rfl rfl (by kernel_rfl) rfl ⟨_, rfl, rfl, rfl, fun e W m hO h1 h2 => store5 e 38 2 hO h1 h2⟩ HO.out (Nat.le_refl _) ?hw ?hV ?ht
      case hw =>
        intro Z hz
        simp only [strike]
        have qw := fun d os => Calls.regrown_of (KW.out (grow (redrawn Z d) os))
        repeat (go_big_quiet_step (with_reducible exact qw _ _))
        refine wpQuiet_nil ?_
        exact rfl
      case hV => rfl
      case ht =>
        intro Z hz hO
        obtain ⟨c0, c1, c2, c3, c4, f0, f1, f2, f3, f4, lt⟩ := Box5.of_block hO
        have HZ := Lib.hid (HW.out.trans hz)
        clear hz hO
        go_wp2
        refine bodyPost_ret (v := .tuple #[.agg #[.int .i64 a, .string S, .int .i64 w, .int .u64 v, .int .i64 p], .int .i64 n, .int .i64 er]) ?_ rfl ⟨rfl, HZ.out⟩
        simp [results, Tryd.results52, go_sem, c0, c1, c2, c3, c4, f0, f1, f2, f3, f4]
/-! the loop over the digits: what stands behind them -/
set_option maxHeartbeats 4000000 in
theorem figures_letter (s : ByteArray) (hs : s.size ≤ 140737488351232) (N : Nat) (hle : N < s.size) (h2 : isDigit s[N] = false) (h1 : ∀ k (h : k < s.size), k < N → isDigit s[k] = true) (h39 : s[N] ≠ 39) (kl : ∀ W, Calls Tryd.prog 49 #[.int .u8 s[N].toNat] W fun e W' => e = .returned (.bool true) ∧ W = W') (W : World) :
    Calls Tryd.prog 52 #[.string s] W fun e W' => e = .returned (.tuple #[.agg #[.int .i64 0, .string ⟨#[]⟩, .int .i64 0, .int .u64 0, .int .i64 0], .int .i64 0, .int .i64 21]) ∧ Below W.heap.size W W' := by
  have kd0 := digit_any s[N]
  rw [h2] at kd0
  have KD0 := Lib.hid kd0
  clear kd0 h2
  have q39 : ((s[N].toNat : Int) == 39) = false := nat_ne 39 rfl h39
  clear h39
  have KL := Lib.hid kl
  clear kl
  have H1 := Lib.hid h1
  clear h1
  have hW : Below W.heap.size W (W.alloc (.cells #[.int .i64 0, .string ⟨#[]⟩, .int .i64 0, .int .u64 0, .int .i64 0] 32)) := (Below.refl _ _).alloc (Nat.le_refl _) _
  have hO := block_alloc W (.cells #[.int .i64 0, .string ⟨#[]⟩, .int .i64 0, .int .u64 0, .int .i64 0] 32)
  go_enter Tryd.func52, Tryd.ntmps52
  go_wp2
  generalize W.alloc (.cells #[.int .i64 0, .string ⟨#[]⟩, .int .i64 0, .int .u64 0, .int .i64 0] 32) = X at *
  have HO := Lib.hid hO
  have HW := Lib.hid hW
  clear hO hW
  go_loop [3] (fun i => ∃ k : Nat, k ≤ N ∧ i = .int .i64 k) (fun i => s.size - (intOf i).toNat)
  case atStart => exact ⟨0, Nat.zero_le _, rfl⟩
  case round =>
    obtain ⟨k, hk, rfl⟩ := hrel
    by_cases hlt : k < N
    · have hks : k < s.size := by omega
      have kd := digit_any s[k]
      rw [H1.out k hks hlt] at kd
      have KD := Lib.hid kd
      clear kd
      go_wp2_with (go_at_call 51; refine (KD.out _).mono ?_; rintro e w' ⟨rfl, rfl⟩)
      go_round
      case rel => exact ⟨k + 1, by omega, by go_num⟩
      case measure => simp [intOf]; omega
    · obtain rfl : k = N := by omega
      obtain ⟨c0, c1, c2, c3, c4, f0, f1, f2, f3, f4, lt⟩ := Box5.of_block HO.out
      go_wp2_with (first | (go_at_call 51; refine (KD0.out _).mono ?_; rintro e w' ⟨rfl, rfl⟩) | (go_at_call 49; refine (KL.out _).mono ?_; rintro e w' ⟨rfl, rfl⟩))
      refine bodyPost_ret (v := .tuple #[.agg #[.int .i64 0, .string ⟨#[]⟩, .int .i64 0, .int .u64 0, .int .i64 0], .int .i64 0, .int .i64 21]) ?_ rfl ⟨rfl, (((((HW.out.setCell (Nat.le_refl _) _).setCell (Nat.le_refl _) _).setCell (Nat.le_refl _) _).setCell (Nat.le_refl _) _).setCell (Nat.le_refl _) _)⟩
      simp [results, Tryd.results52, go_sem, c0, c1, c2, c3, c4, f0, f1, f2, f3, f4]

set_option maxHeartbeats 4000000 in
theorem figures_in_true (s : ByteArray) (hs : s.size ≤ 140737488351232) (N : Nat) (hle : N < s.size) (h2 : isDigit s[N] = false) (h1 : ∀ k (h : k < s.size), k < N → isDigit s[k] = true) (h39 : s[N] ≠ 39) (kl : ∀ W, Calls Tryd.prog 49 #[.int .u8 s[N].toNat] W fun e W' => e = .returned (.bool false) ∧ W = W') (v : Nat) (kn : ∀ W, Calls Tryd.prog 67 #[.string (s.extract 0 N), .int .u64 10] W fun e W' => e = .returned (.tuple #[.int .u64 v, .bool true, .int .i64 0]) ∧ Below W.heap.size W W') (W : World) :
    Calls Tryd.prog 52 #[.string s] W fun e W' => e = .returned (.tuple #[.agg #[.int .i64 3, .string ⟨#[]⟩, .int .i64 0, .int .u64 v, .int .i64 0], .int .i64 N, .int .i64 0]) ∧ Below W.heap.size W W' := by
  have kd0 := digit_any s[N]
  rw [h2] at kd0
  have KD0 := Lib.hid kd0
  clear kd0 h2
  have q39 : ((s[N].toNat : Int) == 39) = false := nat_ne 39 rfl h39
  clear h39
  have KL := Lib.hid kl
  clear kl
  have KN := Lib.hid kn
  clear kn
  have H1 := Lib.hid h1
  clear h1
  have hW : Below W.heap.size W (W.alloc (.cells #[.int .i64 0, .string ⟨#[]⟩, .int .i64 0, .int .u64 0, .int .i64 0] 32)) := (Below.refl _ _).alloc (Nat.le_refl _) _
  have hO := block_alloc W (.cells #[.int .i64 0, .string ⟨#[]⟩, .int .i64 0, .int .u64 0, .int .i64 0] 32)
  go_enter Tryd.func52, Tryd.ntmps52
  go_wp2
  generalize W.alloc (.cells #[.int .i64 0, .string ⟨#[]⟩, .int .i64 0, .int .u64 0, .int .i64 0] 32) = X at *
  have HO := Lib.hid hO
  have HW := Lib.hid hW
  clear hO hW
  go_loop [3] (fun i => ∃ k : Nat, k ≤ N ∧ i = .int .i64 k) (fun i => s.size - (intOf i).toNat)
  case atStart => exact ⟨0, Nat.zero_le _, rfl⟩
  case round =>
    obtain ⟨k, hk, rfl⟩ := hrel
    by_cases hlt : k < N
    · have hks : k < s.size := by omega
      have kd := digit_any s[k]
      rw [H1.out k hks hlt] at kd
      have KD := Lib.hid kd
      clear kd
      go_wp2_with (go_at_call 51; refine (KD.out _).mono ?_; rintro e w' ⟨rfl, rfl⟩)
      go_round
      case rel => exact ⟨k + 1, by omega, by go_num⟩
      case measure => simp [intOf]; omega
    · obtain rfl : k = N := by omega
      go_wp2_with fail
      refine (KD0.out _).mono ?_
      rintro e w' ⟨rfl, rfl⟩
      go_wp2_with fail
      refine (KL.out _).mono ?_
      rintro e w' ⟨rfl, rfl⟩
      have B5 := Box5.of_block HO.out
      go_wp2_with fail
      refine (KN.out _).mono ?_
      rintro e W1 ⟨rfl, hb1⟩
      replace B5 := B5.later hb1
      have HV := Lib.hid (HW.out.trans (hb1.mono HW.out.size))
      clear hb1
      obtain ⟨c0, c1, c2, c3, c4, f0, f1, f2, f3, f4, lt⟩ := B5
      go_wp2
      refine bodyPost_ret (v := .tuple #[.agg #[.int .i64 3, .string ⟨#[]⟩, .int .i64 0, .int .u64 v, .int .i64 0], .int .i64 k, .int .i64 0]) ?_ rfl ⟨rfl, (((((HV.out.setCell (Nat.le_refl _) _).setCell (Nat.le_refl _) _).setCell (Nat.le_refl _) _).setCell (Nat.le_refl _) _).setCell (Nat.le_refl _) _)⟩
      simp [results, Tryd.results52, go_sem, c0, c1, c2, c3, c4, f0, f1, f2, f3, f4]

set_option maxHeartbeats 4000000 in
theorem figures_end_true (s : ByteArray) (hs : s.size ≤ 140737488351232) (N : Nat) (hle : N = s.size) (h1 : ∀ k (h : k < s.size), k < N → isDigit s[k] = true) (v : Nat) (kn : ∀ W, Calls Tryd.prog 67 #[.string s, .int .u64 10] W fun e W' => e = .returned (.tuple #[.int .u64 v, .bool true, .int .i64 0]) ∧ Below W.heap.size W W') (W : World) :
    Calls Tryd.prog 52 #[.string s] W fun e W' => e = .returned (.tuple #[.agg #[.int .i64 3, .string ⟨#[]⟩, .int .i64 0, .int .u64 v, .int .i64 0], .int .i64 s.size, .int .i64 0]) ∧ Below W.heap.size W W' := by
  subst hle
  have KN := Lib.hid kn
  clear kn
  have H1 := Lib.hid h1
  clear h1
  have hW : Below W.heap.size W (W.alloc (.cells #[.int .i64 0, .string ⟨#[]⟩, .int .i64 0, .int .u64 0, .int .i64 0] 32)) := (Below.refl _ _).alloc (Nat.le_refl _) _
  have hO := block_alloc W (.cells #[.int .i64 0, .string ⟨#[]⟩, .int .i64 0, .int .u64 0, .int .i64 0] 32)
  go_enter Tryd.func52, Tryd.ntmps52
  go_wp2
  generalize W.alloc (.cells #[.int .i64 0, .string ⟨#[]⟩, .int .i64 0, .int .u64 0, .int .i64 0] 32) = X at *
  have HO := Lib.hid hO
  have HW := Lib.hid hW
  clear hO hW
  go_loop [3] (fun i => ∃ k : Nat, k ≤ s.size ∧ i = .int .i64 k) (fun i => s.size - (intOf i).toNat)
  case atStart => exact ⟨0, Nat.zero_le _, rfl⟩
  case round =>
    obtain ⟨k, hk, rfl⟩ := hrel
    by_cases hlt : k < s.size
    · have hks : k < s.size := by omega
      have kd := digit_any s[k]
      rw [H1.out k hks hlt] at kd
      have KD := Lib.hid kd
      clear kd
      go_wp2_with (go_at_call 51; refine (KD.out _).mono ?_; rintro e w' ⟨rfl, rfl⟩)
      go_round
      case rel => exact ⟨k + 1, by omega, by go_num⟩
      case measure => simp [intOf]; omega
    · obtain rfl : k = s.size := by omega
      have B5 := Box5.of_block HO.out
      go_wp2_with fail
      refine (KN.out _).mono ?_
      rintro e W1 ⟨rfl, hb1⟩
      replace B5 := B5.later hb1
      have HV := Lib.hid (HW.out.trans (hb1.mono HW.out.size))
      clear hb1
      obtain ⟨c0, c1, c2, c3, c4, f0, f1, f2, f3, f4, lt⟩ := B5
      go_wp2
      refine bodyPost_ret (v := .tuple #[.agg #[.int .i64 3, .string ⟨#[]⟩, .int .i64 0, .int .u64 v, .int .i64 0], .int .i64 s.size, .int .i64 0]) ?_ rfl ⟨rfl, (((((HV.out.setCell (Nat.le_refl _) _).setCell (Nat.le_refl _) _).setCell (Nat.le_refl _) _).setCell (Nat.le_refl _) _).setCell (Nat.le_refl _) _)⟩
      simp [results, Tryd.results52, go_sem, c0, c1, c2, c3, c4, f0, f1, f2, f3, f4]

set_option maxHeartbeats 4000000 in
theorem figures_in_false (s : ByteArray) (hs : s.size ≤ 140737488351232) (N : Nat) (hle : N < s.size) (h2 : isDigit s[N] = false) (h1 : ∀ k (h : k < s.size), k < N → isDigit s[k] = true) (h39 : s[N] ≠ 39) (kl : ∀ W, Calls Tryd.prog 49 #[.int .u8 s[N].toNat] W fun e W' => e = .returned (.bool false) ∧ W = W') (v : Nat) (kn : ∀ W, Calls Tryd.prog 67 #[.string (s.extract 0 N), .int .u64 10] W fun e W' => e = .returned (.tuple #[.int .u64 v, .bool false, .int .i64 0]) ∧ Below W.heap.size W W') (W : World) :
    Calls Tryd.prog 52 #[.string s] W fun e W' => e = .returned (.tuple #[.agg #[.int .i64 0, .string ⟨#[]⟩, .int .i64 0, .int .u64 0, .int .i64 0], .int .i64 0, .int .i64 22]) ∧ Below W.heap.size W W' := by
  have kd0 := digit_any s[N]
  rw [h2] at kd0
  have KD0 := Lib.hid kd0
  clear kd0 h2
  have q39 : ((s[N].toNat : Int) == 39) = false := nat_ne 39 rfl h39
  clear h39
  have KL := Lib.hid kl
  clear kl
  have KN := Lib.hid kn
  clear kn
  have H1 := Lib.hid h1
  clear h1
  have hW : Below W.heap.size W (W.alloc (.cells #[.int .i64 0, .string ⟨#[]⟩, .int .i64 0, .int .u64 0, .int .i64 0] 32)) := (Below.refl _ _).alloc (Nat.le_refl _) _
  have hO := block_alloc W (.cells #[.int .i64 0, .string ⟨#[]⟩, .int .i64 0, .int .u64 0, .int .i64 0] 32)
  go_enter Tryd.func52, Tryd.ntmps52
  go_wp2
  generalize W.alloc (.cells #[.int .i64 0, .string ⟨#[]⟩, .int .i64 0, .int .u64 0, .int .i64 0] 32) = X at *
  have HO := Lib.hid hO
  have HW := Lib.hid hW
  clear hO hW
  go_loop [3] (fun i => ∃ k : Nat, k ≤ N ∧ i = .int .i64 k) (fun i => s.size - (intOf i).toNat)
  case atStart => exact ⟨0, Nat.zero_le _, rfl⟩
  case round =>
    obtain ⟨k, hk, rfl⟩ := hrel
    by_cases hlt : k < N
    · have hks : k < s.size := by omega
      have kd := digit_any s[k]
      rw [H1.out k hks hlt] at kd
      have KD := Lib.hid kd
      clear kd
      go_wp2_with (go_at_call 51; refine (KD.out _).mono ?_; rintro e w' ⟨rfl, rfl⟩)
      go_round
      case rel => exact ⟨k + 1, by omega, by go_num⟩
      case measure => simp [intOf]; omega
    · obtain rfl : k = N := by omega
      go_wp2_with fail
      refine (KD0.out _).mono ?_
      rintro e w' ⟨rfl, rfl⟩
      go_wp2_with fail
      refine (KL.out _).mono ?_
      rintro e w' ⟨rfl, rfl⟩
      have B5 := Box5.of_block HO.out
      go_wp2_with fail
      refine (KN.out _).mono ?_
      rintro e W1 ⟨rfl, hb1⟩
      replace B5 := B5.later hb1
      have HV := Lib.hid (HW.out.trans (hb1.mono HW.out.size))
      clear hb1
      obtain ⟨c0, c1, c2, c3, c4, f0, f1, f2, f3, f4, lt⟩ := B5
      go_wp2
      refine bodyPost_ret (v := .tuple #[.agg #[.int .i64 0, .string ⟨#[]⟩, .int .i64 0, .int .u64 0, .int .i64 0], .int .i64 0, .int .i64 22]) ?_ rfl ⟨rfl, (((((HV.out.setCell (Nat.le_refl _) _).setCell (Nat.le_refl _) _).setCell (Nat.le_refl _) _).setCell (Nat.le_refl _) _).setCell (Nat.le_refl _) _)⟩
      simp [results, Tryd.results52, go_sem, c0, c1, c2, c3, c4, f0, f1, f2, f3, f4]

set_option maxHeartbeats 4000000 in
theorem figures_end_false (s : ByteArray) (hs : s.size ≤ 140737488351232) (N : Nat) (hle : N = s.size) (h1 : ∀ k (h : k < s.size), k < N → isDigit s[k] = true) (v : Nat) (kn : ∀ W, Calls Tryd.prog 67 #[.string s, .int .u64 10] W fun e W' => e = .returned (.tuple #[.int .u64 v, .bool false, .int .i64 0]) ∧ Below W.heap.size W W') (W : World) :
    Calls Tryd.prog 52 #[.string s] W fun e W' => e = .returned (.tuple #[.agg #[.int .i64 0, .string ⟨#[]⟩, .int .i64 0, .int .u64 0, .int .i64 0], .int .i64 0, .int .i64 22]) ∧ Below W.heap.size W W' := by
  subst hle
  have KN := Lib.hid kn
  clear kn
  have H1 := Lib.hid h1
  clear h1
  have hW : Below W.heap.size W (W.alloc (.cells #[.int .i64 0, .string ⟨#[]⟩, .int .i64 0, .int .u64 0, .int .i64 0] 32)) := (Below.refl _ _).alloc (Nat.le_refl _) _
  have hO := block_alloc W (.cells #[.int .i64 0, .string ⟨#[]⟩, .int .i64 0, .int .u64 0, .int .i64 0] 32)
  go_enter Tryd.func52, Tryd.ntmps52
  go_wp2
  generalize W.alloc (.cells #[.int .i64 0, .string ⟨#[]⟩, .int .i64 0, .int .u64 0, .int .i64 0] 32) = X at *
  have HO := Lib.hid hO
  have HW := Lib.hid hW
  clear hO hW
  go_loop [3] (fun i => ∃ k : Nat, k ≤ s.size ∧ i = .int .i64 k) (fun i => s.size - (intOf i).toNat)
  case atStart => exact ⟨0, Nat.zero_le _, rfl⟩
  case round =>
    obtain ⟨k, hk, rfl⟩ := hrel
    by_cases hlt : k < s.size
    · have hks : k < s.size := by omega
      have kd := digit_any s[k]
      rw [H1.out k hks hlt] at kd
      have KD := Lib.hid kd
      clear kd
      go_wp2_with (go_at_call 51; refine (KD.out _).mono ?_; rintro e w' ⟨rfl, rfl⟩)
      go_round
      case rel => exact ⟨k + 1, by omega, by go_num⟩
      case measure => simp [intOf]; omega
    · obtain rfl : k = s.size := by omega
      have B5 := Box5.of_block HO.out
      go_wp2_with fail
      refine (KN.out _).mono ?_
      rintro e W1 ⟨rfl, hb1⟩
      replace B5 := B5.later hb1
      have HV := Lib.hid (HW.out.trans (hb1.mono HW.out.size))
      clear hb1
      obtain ⟨c0, c1, c2, c3, c4, f0, f1, f2, f3, f4, lt⟩ := B5
      go_wp2
      refine bodyPost_ret (v := .tuple #[.agg #[.int .i64 0, .string ⟨#[]⟩, .int .i64 0, .int .u64 0, .int .i64 0], .int .i64 0, .int .i64 22]) ?_ rfl ⟨rfl, (((((HV.out.setCell (Nat.le_refl _) _).setCell (Nat.le_refl _) _).setCell (Nat.le_refl _) _).setCell (Nat.le_refl _) _).setCell (Nat.le_refl _) _)⟩
      simp [results, Tryd.results52, go_sem, c0, c1, c2, c3, c4, f0, f1, f2, f3, f4]


theorem all_dig {l : List UInt8} (h : l.all isDigit = true) : allFig 10 l = true := fig_all l h

theorem figures_any (s : ByteArray) (hs : s.size ≤ 140737488351232) (h0 : 0 < headN isDigit s.data.toList) (W : World) :
    Calls Tryd.prog 52 #[.string s] W fun e W' => e = gotEnd (figL s.data.toList) ∧ Below W.heap.size W W' := by
  obtain ⟨N, hN, hle, h1, h2⟩ := dig_facts s
  rw [← hN] at h0
  have ht : (s.extract 0 N).data.toList = s.data.toList.takeWhile isDigit := by rw [extract_bs, list_bs, List.drop_zero, hN, take_headN]
  have hd : (s.extract N s.size).data.toList = s.data.toList.dropWhile isDigit := by
    rw [extract_bs, list_bs, List.take_of_length_le (show s.data.toList.length ≤ s.size from Nat.le_refl _), hN, drop_headN]
  have hall := all_takeWhile (p := isDigit) s.data.toList
  have hlen : (s.data.toList.takeWhile isDigit).length = N := by rw [hN]; rfl
  have hne : (s.data.toList.takeWhile isDigit).isEmpty = false := by
    cases h : s.data.toList.takeWhile isDigit with
    | nil => rw [h] at hlen; simp at hlen; omega
    | cons => rfl
  have hfig := all_dig hall
  have hn : ∀ x : ByteArray, x.data.toList = s.data.toList.takeWhile isDigit → ∀ W, Calls Tryd.prog 67 #[.string x, .int .u64 10] W fun e W' => e = .returned (.tuple #[.int .u64 (cutV 10 (s.data.toList.takeWhile isDigit) : Nat), .bool (smallV 10 (s.data.toList.takeWhile isDigit)), .int .i64 0]) ∧ Below W.heap.size W W' := fun x hx W => by
    have hxs : x.size ≤ 140737488351232 := by rw [size_list, hx, hlen]; omega
    have := number_all x 10 hxs (by omega) (by omega) W
    rw [hx] at this
    unfold numA numB numE at this
    rw [hfig, hne] at this
    exact this
  have plain : ∀ n : Int, (N : Int) = n → (smallV 10 (s.data.toList.takeWhile isDigit) = true → gotEnd (plainL (s.data.toList.takeWhile isDigit)) = .returned (.tuple #[.agg #[.int .i64 3, .string ⟨#[]⟩, .int .i64 0, .int .u64 (cutV 10 (s.data.toList.takeWhile isDigit) : Nat), .int .i64 0], .int .i64 n, .int .i64 0])) ∧
      (smallV 10 (s.data.toList.takeWhile isDigit) = false → gotEnd (plainL (s.data.toList.takeWhile isDigit)) = .returned (.tuple #[.agg #[.int .i64 0, .string ⟨#[]⟩, .int .i64 0, .int .u64 0, .int .i64 0], .int .i64 0, .int .i64 22])) := by
    intro n hnn
    constructor
    · intro hsm
      have hlt : numV 10 (s.data.toList.takeWhile isDigit) < two64 := by simpa [smallV] using hsm
      exact gotEnd_tok (by unfold plainL; rw [if_pos hlt]) rfl rfl rfl (cut_small hsm).symm rfl (by rw [hlen]; exact hnn)
    · intro hsm
      have hlt : ¬ numV 10 (s.data.toList.takeWhile isDigit) < two64 := by simpa [smallV] using hsm
      exact gotEnd_bad (by unfold plainL; rw [if_neg hlt])
  by_cases hlt : N < s.size
  · have hg := h2 hlt
    have hcons : s.data.toList.dropWhile isDigit = s[N] :: s.data.toList.drop (N + 1) := by
      rw [← drop_headN, ← hN, List.drop_eq_getElem_cons (show N < s.data.toList.length from hlt)]
      rfl
    by_cases h39 : s[N] = 39
    · have hf : figL s.data.toList = wideL (s.data.toList.takeWhile isDigit) (s.data.toList.drop (N + 1)) := by
        unfold figL
        rw [hcons]
        simp only [h39, if_true]
      rw [hf]
      have kw := fun W => wide_any (s.extract 0 N) (s.extract N s.size) (s.data.toList.drop (N + 1)) (by rw [ht]; exact hfig) (by rw [ht]; exact hne) (by rw [hd, hcons, h39]) (by rw [size_list, hd, hcons]; simp; have : s.data.toList.length = s.size := rfl; omega) (by rw [size_list, ht, hlen]; omega) W
      rw [ht] at kw
      cases hw : wideL (s.data.toList.takeWhile isDigit) (s.data.toList.drop (N + 1)) with
      | tok t n =>
        rw [hw] at kw
        exact figures_wide s hs N hlt h1 hg h39 _ _ _ _ _ _ _ W kw
      | bad er =>
        rw [hw] at kw
        exact figures_wide s hs N hlt h1 hg h39 _ _ _ _ _ _ _ W kw
    · have hf : figL s.data.toList = if isLetter s[N] then .bad 21 else plainL (s.data.toList.takeWhile isDigit) := by
        unfold figL
        rw [hcons]
        simp only [if_neg h39]
      rw [hf]
      have kl := fun W => letter_any s[N] W
      cases hl : isLetter s[N]
      · rw [hl] at kl
        have kn := hn (s.extract 0 N) ht
        cases hsm : smallV 10 (s.data.toList.takeWhile isDigit)
        · rw [hsm] at kn
          simp only [Bool.false_eq_true, if_false]
          rw [(plain _ rfl).2 hsm]
          exact figures_in_false s hs N hlt hg h1 h39 kl _ kn W
        · rw [hsm] at kn
          simp only [Bool.false_eq_true, if_false]
          rw [(plain _ rfl).1 hsm]
          exact figures_in_true s hs N hlt hg h1 h39 kl _ kn W
      · rw [hl] at kl
        simp only [if_true]
        rw [gotEnd_bad rfl]
        exact figures_letter s hs N hlt hg h1 h39 kl W
  · have hNs : N = s.size := by omega
    have hdn : s.data.toList.dropWhile isDigit = [] := by
      rw [← drop_headN, ← hN]
      exact List.drop_of_length_le (show s.data.toList.length ≤ N by have : s.data.toList.length = s.size := rfl; omega)
    have hf : figL s.data.toList = plainL (s.data.toList.takeWhile isDigit) := by
      unfold figL
      rw [hdn]
    rw [hf]
    have hts : s.data.toList = s.data.toList.takeWhile isDigit := by
      have h := List.takeWhile_append_dropWhile (p := isDigit) (l := s.data.toList)
      rw [hdn, List.append_nil] at h
      exact h.symm
    have kn := hn s hts
    cases hsm : smallV 10 (s.data.toList.takeWhile isDigit)
    · rw [hsm] at kn
      rw [(plain _ rfl).2 hsm]
      exact figures_end_false s hs N hNs h1 _ kn W
    · rw [hsm] at kn
      rw [(plain (s.size : Int) (by rw [hNs])).1 hsm]
      exact figures_end_true s hs N hNs h1 _ kn W

end Go.Proofs.YtpabaabkhmjdhaaDoor
