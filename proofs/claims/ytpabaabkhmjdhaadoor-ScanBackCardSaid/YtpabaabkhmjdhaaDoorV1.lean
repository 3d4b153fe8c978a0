/- The reference's number with a width. -/
import Derived.Test.YtpabaabkhmjdhaaDoorW9
namespace Go.Proofs.YtpabaabkhmjdhaaDoor
open Go.RowKit Go.Proofs.Scn Go.Flow Go.Sort
set_option linter.unusedVariables false
set_option linter.unusedSimpArgs false
set_option maxRecDepth 100000

theorem store3 (e : Operand → Value) (x d : Tmp) {W : World} {m : Nat} {a0 b0 c0 : Value} {a b : Bool} {v : Int} {pos : String} {af : Array Edge} {ty : TypeId} (hO : W.heap[m]? = some (.cells #[a0, b0, c0] 77)) (h1 : e (.tmp d) = .pointer (some ⟨m, 0, none⟩)) (h2 : e (.tmp x) = .agg #[.bool a, .bool b, .int .u64 v]) :
    ∃ W', (execOp e { dst := none, op := .store 77 (.tmp d) (.tmp x), type := ty, pos := pos, after := af, guard := none }).run Tryd.prog W = .ok .skip W' ∧ W'.heap[m]? = some (.cells #[.bool a, .bool b, .int .u64 v] 77) ∧ ∀ B, B ≤ m → B ≤ W.heap.size → Below B W W' := by
  obtain ⟨t0, t1, t2, tf0, tf1, tf2, tl⟩ := Box3.of_block hO
  refine ⟨((W.setCell ⟨m, 0, none⟩ (.bool a)).setCell ⟨m, 1, none⟩ (.bool b)).setCell ⟨m, 2, none⟩ (.int .u64 v), by go_simp, by simp [World.setCell, Array.getElem?_modify, hO], fun B h _ => (((Below.refl _ _).setCell h _).setCell h _).setCell h _⟩


/-! the reference's wide, by what is wrong -/

set_option maxHeartbeats 4000000 in
theorem refWide_end (s : ByteArray) (i n k : Nat) (hk : i + n + 1 = k) (hs : s.size ≤ 140737488351232) (hin : i + n ≤ s.size) (hks : s.size ≤ k) (W : World) :
    Calls Tryd.prog 69 #[.string s, .int .i64 i, .int .i64 n] W fun e W' => e = .returned (.agg #[.int .i64 0, .string ⟨#[]⟩, .int .i64 0, .int .u64 0, .int .i64 0, .int .i64 0, .int .i64 21]) ∧ Below W.heap.size W W' := by
  have hki : (i : Int) + (n : Int) + 1 = (k : Int) := by omega
  clear hk
  go_enter Tryd.func69, Tryd.ntmps69
  go_wp2
  refine bodyPost_ret (v := .agg #[.int .i64 0, .string ⟨#[]⟩, .int .i64 0, .int .u64 0, .int .i64 0, .int .i64 0, .int .i64 21]) ?_ rfl ⟨rfl, (Below.refl _ _).alloc (Nat.le_refl _) _⟩
  simp [results, Tryd.results69, go_sem]

set_option maxHeartbeats 4000000 in
theorem refWide_base (s : ByteArray) (i n k : Nat) (hk : i + n + 1 = k) (hs : s.size ≤ 140737488351232) (hks : k < s.size) (kb : ∀ W, Calls Tryd.prog 83 #[.int .u8 s[k].toNat] W fun e W' => e = .returned (.int .u64 0) ∧ W = W') (W : World) :
    Calls Tryd.prog 69 #[.string s, .int .i64 i, .int .i64 n] W fun e W' => e = .returned (.agg #[.int .i64 0, .string ⟨#[]⟩, .int .i64 0, .int .u64 0, .int .i64 0, .int .i64 0, .int .i64 21]) ∧ Below W.heap.size W W' := by
  have hki : (i : Int) + (n : Int) + 1 = (k : Int) := by omega
  have KB := Lib.hid kb
  clear hk kb
  go_enter Tryd.func69, Tryd.ntmps69
  go_wp2_with fail
  refine (KB.out _).mono ?_
  rintro e w' ⟨rfl, rfl⟩
  go_wp2
  refine bodyPost_ret (v := .agg #[.int .i64 0, .string ⟨#[]⟩, .int .i64 0, .int .u64 0, .int .i64 0, .int .i64 0, .int .i64 21]) ?_ rfl ⟨rfl, (Below.refl _ _).alloc (Nat.le_refl _) _⟩
  simp [results, Tryd.results69, go_sem]

set_option maxHeartbeats 4000000 in
theorem refWide_ok (s : ByteArray) (i n k b m v : Nat) (hk : i + n + 1 = k) (hs : s.size ≤ 140737488351232) (f : Bool) (hks : k < s.size) (hb : b ≠ 0) (hm : k + 1 + m ≤ s.size) (kb : ∀ W, Calls Tryd.prog 83 #[.int .u8 s[k].toNat] W fun e W' => e = .returned (.int .u64 b) ∧ W = W') (kr : ∀ W, Calls Tryd.prog 54 #[.string s, .int .i64 ((k : Int) + 1)] W fun e W' => e = .returned (.int .i64 m) ∧ W = W') (kv : ∀ W, Calls Tryd.prog 70 #[.string (s.extract (k + 1) (k + 1 + m)), .int .u64 b] W fun e W' => e = .returned (.agg #[.bool false, .bool f, .int .u64 v]) ∧ Below W.heap.size W W') (W : World) :
    Calls Tryd.prog 69 #[.string s, .int .i64 i, .int .i64 n] W fun e W' => e = .returned (.agg #[.int .i64 0, .string ⟨#[]⟩, .int .i64 0, .int .u64 0, .int .i64 0, .int .i64 0, .int .i64 21]) ∧ Below W.heap.size W W' := by
  have hki : (i : Int) + (n : Int) + 1 = (k : Int) := by omega
  have hb0 : ((b : Int) == 0) = false := by rw [beq_eq_false_iff_ne]; omega
  have kb' := fun W => (kb W).mono fun e W' h => (⟨h.1, h.2 ▸ Below.refl W.heap.size W⟩ : e = .returned (.int .u64 b) ∧ Below W.heap.size W W')
  have KB := Lib.hid kb
  have KB' := Lib.hid kb'
  have KR := Lib.hid kr
  have KV := Lib.hid kv
  clear kb kb' kr kv hk hb
  have R := Box7.new W (.int .i64 0) (.string ⟨#[]⟩) (.int .i64 0) (.int .u64 0) (.int .i64 0) (.int .i64 0) (.int .i64 0) 52
  have hW : Below W.heap.size W (W.alloc (.cells #[.int .i64 0, .string ⟨#[]⟩, .int .i64 0, .int .u64 0, .int .i64 0, .int .i64 0, .int .i64 0] 52)) := (Below.refl _ _).alloc (Nat.le_refl _) _
  go_enter Tryd.func69, Tryd.ntmps69
  go_wp2_with fail
  refine (KB.out _).mono ?_
  rintro e w' ⟨rfl, rfl⟩
  go_wp2_with fail
  refine (KR.out _).mono ?_
  rintro e w' ⟨rfl, rfl⟩
  go_wp2_with fail
  generalize W.alloc (.cells #[.int .i64 0, .string ⟨#[]⟩, .int .i64 0, .int .u64 0, .int .i64 0, .int .i64 0, .int .i64 0] 52) = X at *
  have s1 : IntKind.i64.wrap ((k : Int) + 1) = (k : Int) + 1 := IntWalk.i64_in _ (by omega)
  have s2 : IntKind.i64.wrap ((k : Int) + 1 + (m : Int)) = (k : Int) + 1 + (m : Int) := IntWalk.i64_in _ (by omega)
  have s3 : ((k : Int) + 1).toNat = k + 1 := by omega
  have s4 : ((k : Int) + 1 + (m : Int)).toNat = k + 1 + m := by omega
  have s5 : (0 : Int) ≤ (k : Int) + 1 := by omega
  have s6 : (0 : Int) ≤ (k : Int) + 1 + (m : Int) := by omega
  refine wp_region_box (aF := ?aF) [false, false, false, false, false, false, false, false, false, false, false, false, false, true, true] 13 14 9 43 (.cells #[.bool false, .bool false, .int .u64 0] 77) (.cells #[.bool false, .bool f, .int .u64 v] 77) (.agg #[.bool false, .bool f, .int .u64 v]) (by kernel_rfl) (by kernel_rfl) (by kernel_rfl) (by kernel_rfl) (by kernel_rfl) (by kernel_rfl) rfl (by decide) (by decide) (by decide) ⟨_, rfl, rfl, rfl, fun _ _ => by kernel_rfl⟩ 12 (by kernel_rfl) (by kernel_rfl) rfl rfl ⟨_, rfl, rfl, rfl, fun e W m hO h1 h2 => store3 e 43 9 hO h1 h2⟩ ?hw ?hV ?ht
  case hw =>
    intro Z hz
    simp only [strike]
    have qb := fun d os => Calls.regrown_of (KB'.out (grow (redrawn Z d) os))
    have qv := fun d os => Calls.regrown_of (KV.out (grow (redrawn Z d) os))
    repeat (go_big_quiet_step (first | with_reducible exact qb _ _ | with_reducible exact qv _ _))
    refine wpQuiet_nil ?_
    exact rfl
  case hV => rfl
  case ht =>
  intro Y m1 hz hm1 hO
  simp only [Act.put, List.setIfInBounds_toArray, List.set_cons_zero, List.set_cons_succ]
  have N1 := Box3.of_block hO
  replace R := R.later hz
  replace hW := hW.trans (hz.mono hW.size)
  clear hz hO s1 s2 s3 s4 s5 s6
  obtain ⟨c0, c1, c2, c3, c4, c5, c6, gc0, gc1, gc2, gc3, gc4, gc5, gc6, lc⟩ := R
  obtain ⟨n0, n1, n2, gn0, gn1, gn2, ln⟩ := N1
  have HW := Lib.hid hW
  clear hW
  go_wp2
  refine bodyPost_ret (v := .agg #[.int .i64 0, .string ⟨#[]⟩, .int .i64 0, .int .u64 0, .int .i64 0, .int .i64 0, .int .i64 21]) ?_ rfl ⟨rfl, (((((((HW.out.setCell (Nat.le_refl _) _).setCell (Nat.le_refl _) _).setCell (Nat.le_refl _) _).setCell (Nat.le_refl _) _).setCell (Nat.le_refl _) _).setCell (Nat.le_refl _) _).setCell (Nat.le_refl _) _)⟩
  simp [results, Tryd.results69, go_sem, c0, c1, c2, c3, c4, c5, c6, gc0, gc1, gc2, gc3, gc4, gc5, gc6]

set_option maxHeartbeats 4000000 in
theorem refWide_few (s : ByteArray) (i n k b m v w : Nat) (hk : i + n + 1 = k) (hs : s.size ≤ 140737488351232) (f oo : Bool) (hks : k < s.size) (hb : b ≠ 0) (hm : k + 1 + m ≤ s.size) (hin : i + n ≤ s.size) (kb : ∀ W, Calls Tryd.prog 83 #[.int .u8 s[k].toNat] W fun e W' => e = .returned (.int .u64 b) ∧ W = W') (kr : ∀ W, Calls Tryd.prog 54 #[.string s, .int .i64 ((k : Int) + 1)] W fun e W' => e = .returned (.int .i64 m) ∧ W = W') (kv : ∀ W, Calls Tryd.prog 70 #[.string (s.extract (k + 1) (k + 1 + m)), .int .u64 b] W fun e W' => e = .returned (.agg #[.bool true, .bool f, .int .u64 v]) ∧ Below W.heap.size W W') (kd : ∀ W, Calls Tryd.prog 70 #[.string (s.extract i (i + n)), .int .u64 10] W fun e W' => e = .returned (.agg #[.bool oo, .bool false, .int .u64 w]) ∧ Below W.heap.size W W') (W : World) :
    Calls Tryd.prog 69 #[.string s, .int .i64 i, .int .i64 n] W fun e W' => e = .returned (.agg #[.int .i64 0, .string ⟨#[]⟩, .int .i64 0, .int .u64 0, .int .i64 0, .int .i64 0, .int .i64 22]) ∧ Below W.heap.size W W' := by
  have hki : (i : Int) + (n : Int) + 1 = (k : Int) := by omega
  have hb0 : ((b : Int) == 0) = false := by rw [beq_eq_false_iff_ne]; omega
  have kb' := fun W => (kb W).mono fun e W' h => (⟨h.1, h.2 ▸ Below.refl W.heap.size W⟩ : e = .returned (.int .u64 b) ∧ Below W.heap.size W W')
  have KB := Lib.hid kb
  have KB' := Lib.hid kb'
  have KR := Lib.hid kr
  have KV := Lib.hid kv
  clear kb kb' kr kv hk hb
  have R := Box7.new W (.int .i64 0) (.string ⟨#[]⟩) (.int .i64 0) (.int .u64 0) (.int .i64 0) (.int .i64 0) (.int .i64 0) 52
  have hW : Below W.heap.size W (W.alloc (.cells #[.int .i64 0, .string ⟨#[]⟩, .int .i64 0, .int .u64 0, .int .i64 0, .int .i64 0, .int .i64 0] 52)) := (Below.refl _ _).alloc (Nat.le_refl _) _
  go_enter Tryd.func69, Tryd.ntmps69
  go_wp2_with fail
  refine (KB.out _).mono ?_
  rintro e w' ⟨rfl, rfl⟩
  go_wp2_with fail
  refine (KR.out _).mono ?_
  rintro e w' ⟨rfl, rfl⟩
  go_wp2_with fail
  generalize W.alloc (.cells #[.int .i64 0, .string ⟨#[]⟩, .int .i64 0, .int .u64 0, .int .i64 0, .int .i64 0, .int .i64 0] 52) = X at *
  have s1 : IntKind.i64.wrap ((k : Int) + 1) = (k : Int) + 1 := IntWalk.i64_in _ (by omega)
  have s2 : IntKind.i64.wrap ((k : Int) + 1 + (m : Int)) = (k : Int) + 1 + (m : Int) := IntWalk.i64_in _ (by omega)
  have s3 : ((k : Int) + 1).toNat = k + 1 := by omega
  have s4 : ((k : Int) + 1 + (m : Int)).toNat = k + 1 + m := by omega
  have s5 : (0 : Int) ≤ (k : Int) + 1 := by omega
  have s6 : (0 : Int) ≤ (k : Int) + 1 + (m : Int) := by omega
  refine wp_region_box (aF := ?aF) [false, false, false, false, false, false, false, false, false, false, false, false, false, true, true] 13 14 9 43 (.cells #[.bool false, .bool false, .int .u64 0] 77) (.cells #[.bool true, .bool f, .int .u64 v] 77) (.agg #[.bool true, .bool f, .int .u64 v]) (by kernel_rfl) (by kernel_rfl) (by kernel_rfl) (by kernel_rfl) (by kernel_rfl) (by kernel_rfl) rfl (by decide) (by decide) (by decide) ⟨_, rfl, rfl, rfl, fun _ _ => by kernel_rfl⟩ 12 (by kernel_rfl) (by kernel_rfl) rfl rfl ⟨_, rfl, rfl, rfl, fun e W m hO h1 h2 => store3 e 43 9 hO h1 h2⟩ ?hw ?hV ?ht
  case hw =>
    intro Z hz
    simp only [strike]
    have qb := fun d os => Calls.regrown_of (KB'.out (grow (redrawn Z d) os))
    have qv := fun d os => Calls.regrown_of (KV.out (grow (redrawn Z d) os))
    repeat (go_big_quiet_step (first | with_reducible exact qb _ _ | with_reducible exact qv _ _))
    refine wpQuiet_nil ?_
    exact rfl
  case hV => rfl
  case ht =>
  intro Y m1 hz hm1 hO
  simp only [Act.put, List.setIfInBounds_toArray, List.set_cons_zero, List.set_cons_succ]
  have N1 := Box3.of_block hO
  replace R := R.later hz
  replace hW := hW.trans (hz.mono hW.size)
  clear hz hO s1 s2 s3 s4 s5 s6
  have KD := Lib.hid kd
  clear kd
  obtain ⟨x0, x1, x2, _, _, _, _⟩ := id N1
  have t1 : ((i : Int) + (n : Int)).toNat = i + n := by omega
  go_wp2_with fail
  refine (KD.out _).mono ?_
  rintro e W2 ⟨rfl, hb2⟩
  clear x0 x1 x2 t1
  have N2 := Box3.new W2 (.bool oo) (.bool false) (.int .u64 w) 77
  have hal : Below W2.heap.size W2 (W2.alloc (.cells #[.bool oo, .bool false, .int .u64 w] 77)) := (Below.refl _ _).alloc (Nat.le_refl _) _
  replace R := (R.later hb2).later hal
  replace N1 := (N1.later hb2).later hal
  replace hW := (hW.trans (hb2.mono hW.size)).trans (hal.mono (hW.trans (hb2.mono hW.size)).size)
  clear hb2 hal
  obtain ⟨c0, c1, c2, c3, c4, c5, c6, gc0, gc1, gc2, gc3, gc4, gc5, gc6, lc⟩ := R
  obtain ⟨n0, n1, n2, gn0, gn1, gn2, ln⟩ := N1
  obtain ⟨d0, d1, d2, gd0, gd1, gd2, ld⟩ := N2
  have HW := Lib.hid hW
  clear hW
  go_wp2
  refine bodyPost_ret (v := .agg #[.int .i64 0, .string ⟨#[]⟩, .int .i64 0, .int .u64 0, .int .i64 0, .int .i64 0, .int .i64 22]) ?_ rfl ⟨rfl, (((((((HW.out.setCell (Nat.le_refl _) _).setCell (Nat.le_refl _) _).setCell (Nat.le_refl _) _).setCell (Nat.le_refl _) _).setCell (Nat.le_refl _) _).setCell (Nat.le_refl _) _).setCell (Nat.le_refl _) _)⟩
  simp [results, Tryd.results69, go_sem, c0, c1, c2, c3, c4, c5, c6, gc0, gc1, gc2, gc3, gc4, gc5, gc6]

set_option maxHeartbeats 4000000 in
theorem refWide_w0 (s : ByteArray) (i n k b m v w : Nat) (hk : i + n + 1 = k) (hs : s.size ≤ 140737488351232) (f oo : Bool) (hks : k < s.size) (hb : b ≠ 0) (hm : k + 1 + m ≤ s.size) (hin : i + n ≤ s.size) (kb : ∀ W, Calls Tryd.prog 83 #[.int .u8 s[k].toNat] W fun e W' => e = .returned (.int .u64 b) ∧ W = W') (kr : ∀ W, Calls Tryd.prog 54 #[.string s, .int .i64 ((k : Int) + 1)] W fun e W' => e = .returned (.int .i64 m) ∧ W = W') (kv : ∀ W, Calls Tryd.prog 70 #[.string (s.extract (k + 1) (k + 1 + m)), .int .u64 b] W fun e W' => e = .returned (.agg #[.bool true, .bool f, .int .u64 v]) ∧ Below W.heap.size W W') (kd : ∀ W, Calls Tryd.prog 70 #[.string (s.extract i (i + n)), .int .u64 10] W fun e W' => e = .returned (.agg #[.bool oo, .bool true, .int .u64 w]) ∧ Below W.heap.size W W') (hw : w < 1) (W : World) :
    Calls Tryd.prog 69 #[.string s, .int .i64 i, .int .i64 n] W fun e W' => e = .returned (.agg #[.int .i64 0, .string ⟨#[]⟩, .int .i64 0, .int .u64 0, .int .i64 0, .int .i64 0, .int .i64 22]) ∧ Below W.heap.size W W' := by
  have hwi : (w : Int) < 1 := by omega
  clear hw
  have hki : (i : Int) + (n : Int) + 1 = (k : Int) := by omega
  have hb0 : ((b : Int) == 0) = false := by rw [beq_eq_false_iff_ne]; omega
  have kb' := fun W => (kb W).mono fun e W' h => (⟨h.1, h.2 ▸ Below.refl W.heap.size W⟩ : e = .returned (.int .u64 b) ∧ Below W.heap.size W W')
  have KB := Lib.hid kb
  have KB' := Lib.hid kb'
  have KR := Lib.hid kr
  have KV := Lib.hid kv
  clear kb kb' kr kv hk hb
  have R := Box7.new W (.int .i64 0) (.string ⟨#[]⟩) (.int .i64 0) (.int .u64 0) (.int .i64 0) (.int .i64 0) (.int .i64 0) 52
  have hW : Below W.heap.size W (W.alloc (.cells #[.int .i64 0, .string ⟨#[]⟩, .int .i64 0, .int .u64 0, .int .i64 0, .int .i64 0, .int .i64 0] 52)) := (Below.refl _ _).alloc (Nat.le_refl _) _
  go_enter Tryd.func69, Tryd.ntmps69
  go_wp2_with fail
  refine (KB.out _).mono ?_
  rintro e w' ⟨rfl, rfl⟩
  go_wp2_with fail
  refine (KR.out _).mono ?_
  rintro e w' ⟨rfl, rfl⟩
  go_wp2_with fail
  generalize W.alloc (.cells #[.int .i64 0, .string ⟨#[]⟩, .int .i64 0, .int .u64 0, .int .i64 0, .int .i64 0, .int .i64 0] 52) = X at *
  have s1 : IntKind.i64.wrap ((k : Int) + 1) = (k : Int) + 1 := IntWalk.i64_in _ (by omega)
  have s2 : IntKind.i64.wrap ((k : Int) + 1 + (m : Int)) = (k : Int) + 1 + (m : Int) := IntWalk.i64_in _ (by omega)
  have s3 : ((k : Int) + 1).toNat = k + 1 := by omega
  have s4 : ((k : Int) + 1 + (m : Int)).toNat = k + 1 + m := by omega
  have s5 : (0 : Int) ≤ (k : Int) + 1 := by omega
  have s6 : (0 : Int) ≤ (k : Int) + 1 + (m : Int) := by omega
  refine wp_region_box (aF := ?aF) [false, false, false, false, false, false, false, false, false, false, false, false, false, true, true] 13 14 9 43 (.cells #[.bool false, .bool false, .int .u64 0] 77) (.cells #[.bool true, .bool f, .int .u64 v] 77) (.agg #[.bool true, .bool f, .int .u64 v]) (by kernel_rfl) (by kernel_rfl) (by kernel_rfl) (by kernel_rfl) (by kernel_rfl) (by kernel_rfl) rfl (by decide) (by decide) (by decide) ⟨_, rfl, rfl, rfl, fun _ _ => by kernel_rfl⟩ 12 (by kernel_rfl) (by kernel_rfl) rfl rfl ⟨_, rfl, rfl, rfl, fun e W m hO h1 h2 => store3 e 43 9 hO h1 h2⟩ ?hw ?hV ?ht
  case hw =>
    intro Z hz
    simp only [strike]
    have qb := fun d os => Calls.regrown_of (KB'.out (grow (redrawn Z d) os))
    have qv := fun d os => Calls.regrown_of (KV.out (grow (redrawn Z d) os))
    repeat (go_big_quiet_step (first | with_reducible exact qb _ _ | with_reducible exact qv _ _))
    refine wpQuiet_nil ?_
    exact rfl
  case hV => rfl
  case ht =>
  intro Y m1 hz hm1 hO
  simp only [Act.put, List.setIfInBounds_toArray, List.set_cons_zero, List.set_cons_succ]
  have N1 := Box3.of_block hO
  replace R := R.later hz
  replace hW := hW.trans (hz.mono hW.size)
  clear hz hO s1 s2 s3 s4 s5 s6
  have KD := Lib.hid kd
  clear kd
  obtain ⟨x0, x1, x2, _, _, _, _⟩ := id N1
  have t1 : ((i : Int) + (n : Int)).toNat = i + n := by omega
  go_wp2_with fail
  refine (KD.out _).mono ?_
  rintro e W2 ⟨rfl, hb2⟩
  clear x0 x1 x2 t1
  have N2 := Box3.new W2 (.bool oo) (.bool true) (.int .u64 w) 77
  have hal : Below W2.heap.size W2 (W2.alloc (.cells #[.bool oo, .bool true, .int .u64 w] 77)) := (Below.refl _ _).alloc (Nat.le_refl _) _
  replace R := (R.later hb2).later hal
  replace N1 := (N1.later hb2).later hal
  replace hW := (hW.trans (hb2.mono hW.size)).trans (hal.mono (hW.trans (hb2.mono hW.size)).size)
  clear hb2 hal
  obtain ⟨c0, c1, c2, c3, c4, c5, c6, gc0, gc1, gc2, gc3, gc4, gc5, gc6, lc⟩ := R
  obtain ⟨n0, n1, n2, gn0, gn1, gn2, ln⟩ := N1
  obtain ⟨d0, d1, d2, gd0, gd1, gd2, ld⟩ := N2
  have HW := Lib.hid hW
  clear hW
  go_wp2
  refine bodyPost_ret (v := .agg #[.int .i64 0, .string ⟨#[]⟩, .int .i64 0, .int .u64 0, .int .i64 0, .int .i64 0, .int .i64 22]) ?_ rfl ⟨rfl, (((((((HW.out.setCell (Nat.le_refl _) _).setCell (Nat.le_refl _) _).setCell (Nat.le_refl _) _).setCell (Nat.le_refl _) _).setCell (Nat.le_refl _) _).setCell (Nat.le_refl _) _).setCell (Nat.le_refl _) _)⟩
  simp [results, Tryd.results69, go_sem, c0, c1, c2, c3, c4, c5, c6, gc0, gc1, gc2, gc3, gc4, gc5, gc6]

set_option maxHeartbeats 4000000 in
theorem refWide_w64 (s : ByteArray) (i n k b m v w : Nat) (hk : i + n + 1 = k) (hs : s.size ≤ 140737488351232) (f oo : Bool) (hks : k < s.size) (hb : b ≠ 0) (hm : k + 1 + m ≤ s.size) (hin : i + n ≤ s.size) (kb : ∀ W, Calls Tryd.prog 83 #[.int .u8 s[k].toNat] W fun e W' => e = .returned (.int .u64 b) ∧ W = W') (kr : ∀ W, Calls Tryd.prog 54 #[.string s, .int .i64 ((k : Int) + 1)] W fun e W' => e = .returned (.int .i64 m) ∧ W = W') (kv : ∀ W, Calls Tryd.prog 70 #[.string (s.extract (k + 1) (k + 1 + m)), .int .u64 b] W fun e W' => e = .returned (.agg #[.bool true, .bool f, .int .u64 v]) ∧ Below W.heap.size W W') (kd : ∀ W, Calls Tryd.prog 70 #[.string (s.extract i (i + n)), .int .u64 10] W fun e W' => e = .returned (.agg #[.bool oo, .bool true, .int .u64 w]) ∧ Below W.heap.size W W') (hw : 64 < w) (W : World) :
    Calls Tryd.prog 69 #[.string s, .int .i64 i, .int .i64 n] W fun e W' => e = .returned (.agg #[.int .i64 0, .string ⟨#[]⟩, .int .i64 0, .int .u64 0, .int .i64 0, .int .i64 0, .int .i64 22]) ∧ Below W.heap.size W W' := by
  have hwi : (64 : Int) < (w : Int) := by omega
  have hwj : ¬ (w : Int) < 1 := by omega
  clear hw
  have hki : (i : Int) + (n : Int) + 1 = (k : Int) := by omega
  have hb0 : ((b : Int) == 0) = false := by rw [beq_eq_false_iff_ne]; omega
  have kb' := fun W => (kb W).mono fun e W' h => (⟨h.1, h.2 ▸ Below.refl W.heap.size W⟩ : e = .returned (.int .u64 b) ∧ Below W.heap.size W W')
  have KB := Lib.hid kb
  have KB' := Lib.hid kb'
  have KR := Lib.hid kr
  have KV := Lib.hid kv
  clear kb kb' kr kv hk hb
  have R := Box7.new W (.int .i64 0) (.string ⟨#[]⟩) (.int .i64 0) (.int .u64 0) (.int .i64 0) (.int .i64 0) (.int .i64 0) 52
  have hW : Below W.heap.size W (W.alloc (.cells #[.int .i64 0, .string ⟨#[]⟩, .int .i64 0, .int .u64 0, .int .i64 0, .int .i64 0, .int .i64 0] 52)) := (Below.refl _ _).alloc (Nat.le_refl _) _
  go_enter Tryd.func69, Tryd.ntmps69
  go_wp2_with fail
  refine (KB.out _).mono ?_
  rintro e w' ⟨rfl, rfl⟩
  go_wp2_with fail
  refine (KR.out _).mono ?_
  rintro e w' ⟨rfl, rfl⟩
  go_wp2_with fail
  generalize W.alloc (.cells #[.int .i64 0, .string ⟨#[]⟩, .int .i64 0, .int .u64 0, .int .i64 0, .int .i64 0, .int .i64 0] 52) = X at *
  have s1 : IntKind.i64.wrap ((k : Int) + 1) = (k : Int) + 1 := IntWalk.i64_in _ (by omega)
  have s2 : IntKind.i64.wrap ((k : Int) + 1 + (m : Int)) = (k : Int) + 1 + (m : Int) := IntWalk.i64_in _ (by omega)
  have s3 : ((k : Int) + 1).toNat = k + 1 := by omega
  have s4 : ((k : Int) + 1 + (m : Int)).toNat = k + 1 + m := by omega
  have s5 : (0 : Int) ≤ (k : Int) + 1 := by omega
  have s6 : (0 : Int) ≤ (k : Int) + 1 + (m : Int) := by omega
  refine wp_region_box (aF := ?aF) [false, false, false, false, false, false, false, false, false, false, false, false, false, true, true] 13 14 9 43 (.cells #[.bool false, .bool false, .int .u64 0] 77) (.cells #[.bool true, .bool f, .int .u64 v] 77) (.agg #[.bool true, .bool f, .int .u64 v]) (by kernel_rfl) (by kernel_rfl) (by kernel_rfl) (by kernel_rfl) (by kernel_rfl) (by kernel_rfl) rfl (by decide) (by decide) (by decide) ⟨_, rfl, rfl, rfl, fun _ _ => by kernel_rfl⟩ 12 (by kernel_rfl) (by kernel_rfl) rfl rfl ⟨_, rfl, rfl, rfl, fun e W m hO h1 h2 => store3 e 43 9 hO h1 h2⟩ ?hw ?hV ?ht
  case hw =>
    intro Z hz
    simp only [strike]
    have qb := fun d os => Calls.regrown_of (KB'.out (grow (redrawn Z d) os))
    have qv := fun d os => Calls.regrown_of (KV.out (grow (redrawn Z d) os))
    repeat (go_big_quiet_step (first | with_reducible exact qb _ _ | with_reducible exact qv _ _))
    refine wpQuiet_nil ?_
    exact rfl
  case hV => rfl
  case ht =>
  intro Y m1 hz hm1 hO
  simp only [Act.put, List.setIfInBounds_toArray, List.set_cons_zero, List.set_cons_succ]
  have N1 := Box3.of_block hO
  replace R := R.later hz
  replace hW := hW.trans (hz.mono hW.size)
  clear hz hO s1 s2 s3 s4 s5 s6
  have KD := Lib.hid kd
  clear kd
  obtain ⟨x0, x1, x2, _, _, _, _⟩ := id N1
  have t1 : ((i : Int) + (n : Int)).toNat = i + n := by omega
  go_wp2_with fail
  refine (KD.out _).mono ?_
  rintro e W2 ⟨rfl, hb2⟩
  clear x0 x1 x2 t1
  have N2 := Box3.new W2 (.bool oo) (.bool true) (.int .u64 w) 77
  have hal : Below W2.heap.size W2 (W2.alloc (.cells #[.bool oo, .bool true, .int .u64 w] 77)) := (Below.refl _ _).alloc (Nat.le_refl _) _
  replace R := (R.later hb2).later hal
  replace N1 := (N1.later hb2).later hal
  replace hW := (hW.trans (hb2.mono hW.size)).trans (hal.mono (hW.trans (hb2.mono hW.size)).size)
  clear hb2 hal
  obtain ⟨c0, c1, c2, c3, c4, c5, c6, gc0, gc1, gc2, gc3, gc4, gc5, gc6, lc⟩ := R
  obtain ⟨n0, n1, n2, gn0, gn1, gn2, ln⟩ := N1
  obtain ⟨d0, d1, d2, gd0, gd1, gd2, ld⟩ := N2
  have HW := Lib.hid hW
  clear hW
  go_wp2
  refine bodyPost_ret (v := .agg #[.int .i64 0, .string ⟨#[]⟩, .int .i64 0, .int .u64 0, .int .i64 0, .int .i64 0, .int .i64 22]) ?_ rfl ⟨rfl, (((((((HW.out.setCell (Nat.le_refl _) _).setCell (Nat.le_refl _) _).setCell (Nat.le_refl _) _).setCell (Nat.le_refl _) _).setCell (Nat.le_refl _) _).setCell (Nat.le_refl _) _).setCell (Nat.le_refl _) _)⟩
  simp [results, Tryd.results69, go_sem, c0, c1, c2, c3, c4, c5, c6, gc0, gc1, gc2, gc3, gc4, gc5, gc6]

set_option maxHeartbeats 4000000 in
theorem refWide_sm (s : ByteArray) (i n k b m v w : Nat) (hk : i + n + 1 = k) (hs : s.size ≤ 140737488351232) (oo : Bool) (hks : k < s.size) (hb : b ≠ 0) (hm : k + 1 + m ≤ s.size) (hin : i + n ≤ s.size) (kb : ∀ W, Calls Tryd.prog 83 #[.int .u8 s[k].toNat] W fun e W' => e = .returned (.int .u64 b) ∧ W = W') (kr : ∀ W, Calls Tryd.prog 54 #[.string s, .int .i64 ((k : Int) + 1)] W fun e W' => e = .returned (.int .i64 m) ∧ W = W') (kv : ∀ W, Calls Tryd.prog 70 #[.string (s.extract (k + 1) (k + 1 + m)), .int .u64 b] W fun e W' => e = .returned (.agg #[.bool true, .bool false, .int .u64 v]) ∧ Below W.heap.size W W') (kd : ∀ W, Calls Tryd.prog 70 #[.string (s.extract i (i + n)), .int .u64 10] W fun e W' => e = .returned (.agg #[.bool oo, .bool true, .int .u64 w]) ∧ Below W.heap.size W W') (hw : w ≤ 64) (hw1 : 1 ≤ w) (W : World) :
    Calls Tryd.prog 69 #[.string s, .int .i64 i, .int .i64 n] W fun e W' => e = .returned (.agg #[.int .i64 0, .string ⟨#[]⟩, .int .i64 0, .int .u64 0, .int .i64 0, .int .i64 0, .int .i64 22]) ∧ Below W.heap.size W W' := by
  have hwi : (w : Int) ≤ 64 := by omega
  have hwj : (1 : Int) ≤ (w : Int) := by omega
  clear hw hw1
  have hki : (i : Int) + (n : Int) + 1 = (k : Int) := by omega
  have hb0 : ((b : Int) == 0) = false := by rw [beq_eq_false_iff_ne]; omega
  have kb' := fun W => (kb W).mono fun e W' h => (⟨h.1, h.2 ▸ Below.refl W.heap.size W⟩ : e = .returned (.int .u64 b) ∧ Below W.heap.size W W')
  have KB := Lib.hid kb
  have KB' := Lib.hid kb'
  have KR := Lib.hid kr
  have KV := Lib.hid kv
  clear kb kb' kr kv hk hb
  have R := Box7.new W (.int .i64 0) (.string ⟨#[]⟩) (.int .i64 0) (.int .u64 0) (.int .i64 0) (.int .i64 0) (.int .i64 0) 52
  have hW : Below W.heap.size W (W.alloc (.cells #[.int .i64 0, .string ⟨#[]⟩, .int .i64 0, .int .u64 0, .int .i64 0, .int .i64 0, .int .i64 0] 52)) := (Below.refl _ _).alloc (Nat.le_refl _) _
  go_enter Tryd.func69, Tryd.ntmps69
  go_wp2_with fail
  refine (KB.out _).mono ?_
  rintro e w' ⟨rfl, rfl⟩
  go_wp2_with fail
  refine (KR.out _).mono ?_
  rintro e w' ⟨rfl, rfl⟩
  go_wp2_with fail
  generalize W.alloc (.cells #[.int .i64 0, .string ⟨#[]⟩, .int .i64 0, .int .u64 0, .int .i64 0, .int .i64 0, .int .i64 0] 52) = X at *
  have s1 : IntKind.i64.wrap ((k : Int) + 1) = (k : Int) + 1 := IntWalk.i64_in _ (by omega)
  have s2 : IntKind.i64.wrap ((k : Int) + 1 + (m : Int)) = (k : Int) + 1 + (m : Int) := IntWalk.i64_in _ (by omega)
  have s3 : ((k : Int) + 1).toNat = k + 1 := by omega
  have s4 : ((k : Int) + 1 + (m : Int)).toNat = k + 1 + m := by omega
  have s5 : (0 : Int) ≤ (k : Int) + 1 := by omega
  have s6 : (0 : Int) ≤ (k : Int) + 1 + (m : Int) := by omega
  refine wp_region_box (aF := ?aF) [false, false, false, false, false, false, false, false, false, false, false, false, false, true, true] 13 14 9 43 (.cells #[.bool false, .bool false, .int .u64 0] 77) (.cells #[.bool true, .bool false, .int .u64 v] 77) (.agg #[.bool true, .bool false, .int .u64 v]) (by kernel_rfl) (by kernel_rfl) (by kernel_rfl) (by kernel_rfl) (by kernel_rfl) (by kernel_rfl) rfl (by decide) (by decide) (by decide) ⟨_, rfl, rfl, rfl, fun _ _ => by kernel_rfl⟩ 12 (by kernel_rfl) (by kernel_rfl) rfl rfl ⟨_, rfl, rfl, rfl, fun e W m hO h1 h2 => store3 e 43 9 hO h1 h2⟩ ?hw ?hV ?ht
  case hw =>
    intro Z hz
    simp only [strike]
    have qb := fun d os => Calls.regrown_of (KB'.out (grow (redrawn Z d) os))
    have qv := fun d os => Calls.regrown_of (KV.out (grow (redrawn Z d) os))
    repeat (go_big_quiet_step (first | with_reducible exact qb _ _ | with_reducible exact qv _ _))
    refine wpQuiet_nil ?_
    exact rfl
  case hV => rfl
  case ht =>
  intro Y m1 hz hm1 hO
  simp only [Act.put, List.setIfInBounds_toArray, List.set_cons_zero, List.set_cons_succ]
  have N1 := Box3.of_block hO
  replace R := R.later hz
  replace hW := hW.trans (hz.mono hW.size)
  clear hz hO s1 s2 s3 s4 s5 s6
  have KD := Lib.hid kd
  clear kd
  obtain ⟨x0, x1, x2, _, _, _, _⟩ := id N1
  have t1 : ((i : Int) + (n : Int)).toNat = i + n := by omega
  go_wp2_with fail
  refine (KD.out _).mono ?_
  rintro e W2 ⟨rfl, hb2⟩
  clear x0 x1 x2 t1
  have N2 := Box3.new W2 (.bool oo) (.bool true) (.int .u64 w) 77
  have hal : Below W2.heap.size W2 (W2.alloc (.cells #[.bool oo, .bool true, .int .u64 w] 77)) := (Below.refl _ _).alloc (Nat.le_refl _) _
  replace R := (R.later hb2).later hal
  replace N1 := (N1.later hb2).later hal
  replace hW := (hW.trans (hb2.mono hW.size)).trans (hal.mono (hW.trans (hb2.mono hW.size)).size)
  clear hb2 hal
  obtain ⟨c0, c1, c2, c3, c4, c5, c6, gc0, gc1, gc2, gc3, gc4, gc5, gc6, lc⟩ := R
  obtain ⟨n0, n1, n2, gn0, gn1, gn2, ln⟩ := N1
  obtain ⟨d0, d1, d2, gd0, gd1, gd2, ld⟩ := N2
  have HW := Lib.hid hW
  clear hW
  go_wp2
  refine bodyPost_ret (v := .agg #[.int .i64 0, .string ⟨#[]⟩, .int .i64 0, .int .u64 0, .int .i64 0, .int .i64 0, .int .i64 22]) ?_ rfl ⟨rfl, (((((((HW.out.setCell (Nat.le_refl _) _).setCell (Nat.le_refl _) _).setCell (Nat.le_refl _) _).setCell (Nat.le_refl _) _).setCell (Nat.le_refl _) _).setCell (Nat.le_refl _) _).setCell (Nat.le_refl _) _)⟩
  simp [results, Tryd.results69, go_sem, c0, c1, c2, c3, c4, c5, c6, gc0, gc1, gc2, gc3, gc4, gc5, gc6]

set_option maxHeartbeats 4000000 in
theorem refWide_nf (s : ByteArray) (i n k b m v w : Nat) (hk : i + n + 1 = k) (hs : s.size ≤ 140737488351232) (oo : Bool) (hks : k < s.size) (hb : b ≠ 0) (hm : k + 1 + m ≤ s.size) (hin : i + n ≤ s.size) (kb : ∀ W, Calls Tryd.prog 83 #[.int .u8 s[k].toNat] W fun e W' => e = .returned (.int .u64 b) ∧ W = W') (kr : ∀ W, Calls Tryd.prog 54 #[.string s, .int .i64 ((k : Int) + 1)] W fun e W' => e = .returned (.int .i64 m) ∧ W = W') (kv : ∀ W, Calls Tryd.prog 70 #[.string (s.extract (k + 1) (k + 1 + m)), .int .u64 b] W fun e W' => e = .returned (.agg #[.bool true, .bool true, .int .u64 v]) ∧ Below W.heap.size W W') (kd : ∀ W, Calls Tryd.prog 70 #[.string (s.extract i (i + n)), .int .u64 10] W fun e W' => e = .returned (.agg #[.bool oo, .bool true, .int .u64 w]) ∧ Below W.heap.size W W') (kf : ∀ W, Calls Tryd.prog 38 #[.int .i64 w, .int .u64 v] W fun e W' => e = .returned (.bool false) ∧ W = W') (hw : w ≤ 64) (hw1 : 1 ≤ w) (W : World) :
    Calls Tryd.prog 69 #[.string s, .int .i64 i, .int .i64 n] W fun e W' => e = .returned (.agg #[.int .i64 0, .string ⟨#[]⟩, .int .i64 0, .int .u64 0, .int .i64 0, .int .i64 0, .int .i64 22]) ∧ Below W.heap.size W W' := by
  have hwi : (w : Int) ≤ 64 := by omega
  have hwj : (1 : Int) ≤ (w : Int) := by omega
  clear hw hw1
  have hwr : IntKind.i64.wrap (w : Int) = (w : Int) := IntWalk.i64_in _ (by omega)
  have hki : (i : Int) + (n : Int) + 1 = (k : Int) := by omega
  have hb0 : ((b : Int) == 0) = false := by rw [beq_eq_false_iff_ne]; omega
  have kb' := fun W => (kb W).mono fun e W' h => (⟨h.1, h.2 ▸ Below.refl W.heap.size W⟩ : e = .returned (.int .u64 b) ∧ Below W.heap.size W W')
  have KB := Lib.hid kb
  have KB' := Lib.hid kb'
  have KR := Lib.hid kr
  have KV := Lib.hid kv
  clear kb kb' kr kv hk hb
  have R := Box7.new W (.int .i64 0) (.string ⟨#[]⟩) (.int .i64 0) (.int .u64 0) (.int .i64 0) (.int .i64 0) (.int .i64 0) 52
  have hW : Below W.heap.size W (W.alloc (.cells #[.int .i64 0, .string ⟨#[]⟩, .int .i64 0, .int .u64 0, .int .i64 0, .int .i64 0, .int .i64 0] 52)) := (Below.refl _ _).alloc (Nat.le_refl _) _
  go_enter Tryd.func69, Tryd.ntmps69
  go_wp2_with fail
  refine (KB.out _).mono ?_
  rintro e w' ⟨rfl, rfl⟩
  go_wp2_with fail
  refine (KR.out _).mono ?_
  rintro e w' ⟨rfl, rfl⟩
  go_wp2_with fail
  generalize W.alloc (.cells #[.int .i64 0, .string ⟨#[]⟩, .int .i64 0, .int .u64 0, .int .i64 0, .int .i64 0, .int .i64 0] 52) = X at *
  have s1 : IntKind.i64.wrap ((k : Int) + 1) = (k : Int) + 1 := IntWalk.i64_in _ (by omega)
  have s2 : IntKind.i64.wrap ((k : Int) + 1 + (m : Int)) = (k : Int) + 1 + (m : Int) := IntWalk.i64_in _ (by omega)
  have s3 : ((k : Int) + 1).toNat = k + 1 := by omega
  have s4 : ((k : Int) + 1 + (m : Int)).toNat = k + 1 + m := by omega
  have s5 : (0 : Int) ≤ (k : Int) + 1 := by omega
  have s6 : (0 : Int) ≤ (k : Int) + 1 + (m : Int) := by omega
  refine wp_region_box (aF := ?aF) [false, false, false, false, false, false, false, false, false, false, false, false, false, true, true] 13 14 9 43 (.cells #[.bool false, .bool false, .int .u64 0] 77) (.cells #[.bool true, .bool true, .int .u64 v] 77) (.agg #[.bool true, .bool true, .int .u64 v]) (by kernel_rfl) (by kernel_rfl) (by kernel_rfl) (by kernel_rfl) (by kernel_rfl) (by kernel_rfl) rfl (by decide) (by decide) (by decide) ⟨_, rfl, rfl, rfl, fun _ _ => by kernel_rfl⟩ 12 (by kernel_rfl) (by kernel_rfl) rfl rfl ⟨_, rfl, rfl, rfl, fun e W m hO h1 h2 => store3 e 43 9 hO h1 h2⟩ ?hw ?hV ?ht
  case hw =>
    intro Z hz
    simp only [strike]
    have qb := fun d os => Calls.regrown_of (KB'.out (grow (redrawn Z d) os))
    have qv := fun d os => Calls.regrown_of (KV.out (grow (redrawn Z d) os))
    repeat (go_big_quiet_step (first | with_reducible exact qb _ _ | with_reducible exact qv _ _))
    refine wpQuiet_nil ?_
    exact rfl
  case hV => rfl
  case ht =>
  intro Y m1 hz hm1 hO
  simp only [Act.put, List.setIfInBounds_toArray, List.set_cons_zero, List.set_cons_succ]
  have N1 := Box3.of_block hO
  replace R := R.later hz
  replace hW := hW.trans (hz.mono hW.size)
  clear hz hO s1 s2 s3 s4 s5 s6
  have KD := Lib.hid kd
  clear kd
  obtain ⟨x0, x1, x2, _, _, _, _⟩ := id N1
  have t1 : ((i : Int) + (n : Int)).toNat = i + n := by omega
  go_wp2_with fail
  refine (KD.out _).mono ?_
  rintro e W2 ⟨rfl, hb2⟩
  clear x0 x1 x2 t1
  have N2 := Box3.new W2 (.bool oo) (.bool true) (.int .u64 w) 77
  have hal : Below W2.heap.size W2 (W2.alloc (.cells #[.bool oo, .bool true, .int .u64 w] 77)) := (Below.refl _ _).alloc (Nat.le_refl _) _
  replace R := (R.later hb2).later hal
  replace N1 := (N1.later hb2).later hal
  replace hW := (hW.trans (hb2.mono hW.size)).trans (hal.mono (hW.trans (hb2.mono hW.size)).size)
  clear hb2 hal
  obtain ⟨c0, c1, c2, c3, c4, c5, c6, gc0, gc1, gc2, gc3, gc4, gc5, gc6, lc⟩ := R
  obtain ⟨n0, n1, n2, gn0, gn1, gn2, ln⟩ := N1
  obtain ⟨d0, d1, d2, gd0, gd1, gd2, ld⟩ := N2
  have HW := Lib.hid hW
  clear hW
  have KF := Lib.hid kf
  clear kf
  go_wp2_with fail
  refine (KF.out _).mono ?_
  rintro e w' ⟨rfl, rfl⟩
  go_wp2
  refine bodyPost_ret (v := .agg #[.int .i64 0, .string ⟨#[]⟩, .int .i64 0, .int .u64 0, .int .i64 0, .int .i64 0, .int .i64 22]) ?_ rfl ⟨rfl, (((((((HW.out.setCell (Nat.le_refl _) _).setCell (Nat.le_refl _) _).setCell (Nat.le_refl _) _).setCell (Nat.le_refl _) _).setCell (Nat.le_refl _) _).setCell (Nat.le_refl _) _).setCell (Nat.le_refl _) _)⟩
  simp [results, Tryd.results69, go_sem, c0, c1, c2, c3, c4, c5, c6, gc0, gc1, gc2, gc3, gc4, gc5, gc6]

set_option maxHeartbeats 4000000 in
theorem refWide_tok (s : ByteArray) (i n k b m v w : Nat) (hk : i + n + 1 = k) (hs : s.size ≤ 140737488351232) (oo : Bool) (hks : k < s.size) (hb : b ≠ 0) (hm : k + 1 + m ≤ s.size) (hin : i + n ≤ s.size) (kb : ∀ W, Calls Tryd.prog 83 #[.int .u8 s[k].toNat] W fun e W' => e = .returned (.int .u64 b) ∧ W = W') (kr : ∀ W, Calls Tryd.prog 54 #[.string s, .int .i64 ((k : Int) + 1)] W fun e W' => e = .returned (.int .i64 m) ∧ W = W') (kv : ∀ W, Calls Tryd.prog 70 #[.string (s.extract (k + 1) (k + 1 + m)), .int .u64 b] W fun e W' => e = .returned (.agg #[.bool true, .bool true, .int .u64 v]) ∧ Below W.heap.size W W') (kd : ∀ W, Calls Tryd.prog 70 #[.string (s.extract i (i + n)), .int .u64 10] W fun e W' => e = .returned (.agg #[.bool oo, .bool true, .int .u64 w]) ∧ Below W.heap.size W W') (kf : ∀ W, Calls Tryd.prog 38 #[.int .i64 w, .int .u64 v] W fun e W' => e = .returned (.bool true) ∧ W = W') (hw : w ≤ 64) (hw1 : 1 ≤ w) (W : World) :
    Calls Tryd.prog 69 #[.string s, .int .i64 i, .int .i64 n] W fun e W' => e = .returned (.agg #[.int .i64 3, .string ⟨#[]⟩, .int .i64 w, .int .u64 v, .int .i64 i, .int .i64 ((k : Int) + 1 + (m : Int) - (i : Int)), .int .i64 0]) ∧ Below W.heap.size W W' := by
  have hwi : (w : Int) ≤ 64 := by omega
  have hwj : (1 : Int) ≤ (w : Int) := by omega
  clear hw hw1
  have hwr : IntKind.i64.wrap (w : Int) = (w : Int) := IntWalk.i64_in _ (by omega)
  have hki : (i : Int) + (n : Int) + 1 = (k : Int) := by omega
  have hb0 : ((b : Int) == 0) = false := by rw [beq_eq_false_iff_ne]; omega
  have kb' := fun W => (kb W).mono fun e W' h => (⟨h.1, h.2 ▸ Below.refl W.heap.size W⟩ : e = .returned (.int .u64 b) ∧ Below W.heap.size W W')
  have KB := Lib.hid kb
  have KB' := Lib.hid kb'
  have KR := Lib.hid kr
  have KV := Lib.hid kv
  clear kb kb' kr kv hk hb
  have R := Box7.new W (.int .i64 0) (.string ⟨#[]⟩) (.int .i64 0) (.int .u64 0) (.int .i64 0) (.int .i64 0) (.int .i64 0) 52
  have hW : Below W.heap.size W (W.alloc (.cells #[.int .i64 0, .string ⟨#[]⟩, .int .i64 0, .int .u64 0, .int .i64 0, .int .i64 0, .int .i64 0] 52)) := (Below.refl _ _).alloc (Nat.le_refl _) _
  go_enter Tryd.func69, Tryd.ntmps69
  go_wp2_with fail
  refine (KB.out _).mono ?_
  rintro e w' ⟨rfl, rfl⟩
  go_wp2_with fail
  refine (KR.out _).mono ?_
  rintro e w' ⟨rfl, rfl⟩
  go_wp2_with fail
  generalize W.alloc (.cells #[.int .i64 0, .string ⟨#[]⟩, .int .i64 0, .int .u64 0, .int .i64 0, .int .i64 0, .int .i64 0] 52) = X at *
  have s1 : IntKind.i64.wrap ((k : Int) + 1) = (k : Int) + 1 := IntWalk.i64_in _ (by omega)
  have s2 : IntKind.i64.wrap ((k : Int) + 1 + (m : Int)) = (k : Int) + 1 + (m : Int) := IntWalk.i64_in _ (by omega)
  have s3 : ((k : Int) + 1).toNat = k + 1 := by omega
  have s4 : ((k : Int) + 1 + (m : Int)).toNat = k + 1 + m := by omega
  have s5 : (0 : Int) ≤ (k : Int) + 1 := by omega
  have s6 : (0 : Int) ≤ (k : Int) + 1 + (m : Int) := by omega
  refine wp_region_box (aF := ?aF) [false, false, false, false, false, false, false, false, false, false, false, false, false, true, true] 13 14 9 43 (.cells #[.bool false, .bool false, .int .u64 0] 77) (.cells #[.bool true, .bool true, .int .u64 v] 77) (.agg #[.bool true, .bool true, .int .u64 v]) (by kernel_rfl) (by kernel_rfl) (by kernel_rfl) (by kernel_rfl) (by kernel_rfl) (by kernel_rfl) rfl (by decide) (by decide) (by decide) ⟨_, rfl, rfl, rfl, fun _ _ => by kernel_rfl⟩ 12 (by kernel_rfl) (by kernel_rfl) rfl rfl ⟨_, rfl, rfl, rfl, fun e W m hO h1 h2 => store3 e 43 9 hO h1 h2⟩ ?hw ?hV ?ht
  case hw =>
    intro Z hz
    simp only [strike]
    have qb := fun d os => Calls.regrown_of (KB'.out (grow (redrawn Z d) os))
    have qv := fun d os => Calls.regrown_of (KV.out (grow (redrawn Z d) os))
    repeat (go_big_quiet_step (first | with_reducible exact qb _ _ | with_reducible exact qv _ _))
    refine wpQuiet_nil ?_
    exact rfl
  case hV => rfl
  case ht =>
  intro Y m1 hz hm1 hO
  simp only [Act.put, List.setIfInBounds_toArray, List.set_cons_zero, List.set_cons_succ]
  have N1 := Box3.of_block hO
  replace R := R.later hz
  replace hW := hW.trans (hz.mono hW.size)
  clear hz hO s1 s2 s3 s4 s5 s6
  have KD := Lib.hid kd
  clear kd
  obtain ⟨x0, x1, x2, _, _, _, _⟩ := id N1
  have t1 : ((i : Int) + (n : Int)).toNat = i + n := by omega
  go_wp2_with fail
  refine (KD.out _).mono ?_
  rintro e W2 ⟨rfl, hb2⟩
  clear x0 x1 x2 t1
  have N2 := Box3.new W2 (.bool oo) (.bool true) (.int .u64 w) 77
  have hal : Below W2.heap.size W2 (W2.alloc (.cells #[.bool oo, .bool true, .int .u64 w] 77)) := (Below.refl _ _).alloc (Nat.le_refl _) _
  replace R := (R.later hb2).later hal
  replace N1 := (N1.later hb2).later hal
  replace hW := (hW.trans (hb2.mono hW.size)).trans (hal.mono (hW.trans (hb2.mono hW.size)).size)
  clear hb2 hal
  obtain ⟨c0, c1, c2, c3, c4, c5, c6, gc0, gc1, gc2, gc3, gc4, gc5, gc6, lc⟩ := R
  obtain ⟨n0, n1, n2, gn0, gn1, gn2, ln⟩ := N1
  obtain ⟨d0, d1, d2, gd0, gd1, gd2, ld⟩ := N2
  have HW := Lib.hid hW
  clear hW
  have KF := Lib.hid kf
  clear kf
  go_wp2_with fail
  refine (KF.out _).mono ?_
  rintro e w' ⟨rfl, rfl⟩
  go_wp2
  refine bodyPost_ret (v := .agg #[.int .i64 3, .string ⟨#[]⟩, .int .i64 w, .int .u64 v, .int .i64 i, .int .i64 ((k : Int) + 1 + (m : Int) - (i : Int)), .int .i64 0]) ?_ rfl ⟨rfl, (((((((HW.out.setCell (Nat.le_refl _) _).setCell (Nat.le_refl _) _).setCell (Nat.le_refl _) _).setCell (Nat.le_refl _) _).setCell (Nat.le_refl _) _).setCell (Nat.le_refl _) _).setCell (Nat.le_refl _) _)⟩
  simp [results, Tryd.results69, go_sem, c0, c1, c2, c3, c4, c5, c6, gc0, gc1, gc2, gc3, gc4, gc5, gc6]

end Go.Proofs.YtpabaabkhmjdhaaDoor
