/- How a token is written. -/
import Derived.Test.YtpabaabkhmjdhaaDoorU1
import Derived.Test.YtpabaabkhmjdhaaDoorR4
import Derived.Lib.QuietBelow
namespace Go.Proofs.YtpabaabkhmjdhaaDoor
open Go.RowKit Go.Proofs.Scn Go.Flow Go.Sort
set_option linter.unusedVariables false
set_option linter.unusedSimpArgs false
set_option maxRecDepth 100000

set_option maxHeartbeats 1000000 in
theorem written_text (k w p : Int) (S : ByteArray) (v : Nat) (hk : ¬ k = 3) (W : World) :
    Calls Tryd.prog 41 #[.agg #[.int .i64 k, .string S, .int .i64 w, .int .u64 v, .int .i64 p]] W fun e W' => e = .returned (.string S) ∧ Below W.heap.size W W' := by
  go_enter Tryd.func41, Tryd.ntmps41
  go_wp2
  go_ret
  exact ⟨rfl, (Below.refl _ _).alloc (Nat.le_refl _) _⟩

set_option maxHeartbeats 1000000 in
theorem written_plain (p : Int) (S : ByteArray) (v : Nat) (hv : v < 18446744073709551616) (W : World) (hB : Base W) :
    Calls Tryd.prog 41 #[.agg #[.int .i64 3, .string S, .int .i64 0, .int .u64 v, .int .i64 p]] W fun e W' => e = .returned (.string (bs (digL 10 v))) ∧ Below W.heap.size W W' := by
  have kd := fun W hB => fmtd_any v hv W hB
  have KD := Lib.hid kd
  have HB := Lib.hid hB
  have HW := Lib.hid ((Below.refl W.heap.size W).alloc (Nat.le_refl _) (.cells #[.int .i64 3, .string S, .int .i64 0, .int .u64 v, .int .i64 p] 32))
  clear kd hB
  go_enter Tryd.func41, Tryd.ntmps41
  go_wp2_with fail
  refine (KD.out _ (HB.out.alloc _)).mono ?_
  rintro e w' ⟨rfl, hb⟩
  have HV := Lib.hid (HW.out.trans (hb.mono HW.out.size))
  clear hb
  go_wp2
  go_ret
  exact ⟨rfl, HV.out⟩

set_option maxHeartbeats 2000000 in
theorem written_wide (p : Int) (S : ByteArray) (w v : Nat) (hw : 1 ≤ w) (hw2 : w ≤ 64) (hv : v < 18446744073709551616) (W : World) (hB : Base W) :
    Calls Tryd.prog 41 #[.agg #[.int .i64 3, .string S, .int .i64 w, .int .u64 v, .int .i64 p]] W fun e W' => e = .returned (.string (bs (digL 10 w ++ [39, 104] ++ digL 16 v))) ∧ Below W.heap.size W W' := by
  have B5 := Box5.new W (.int .i64 3) (.string S) (.int .i64 w) (.int .u64 v) (.int .i64 p) 32
  have hW := (Below.refl W.heap.size W).alloc (Nat.le_refl _) (.cells #[.int .i64 3, .string S, .int .i64 w, .int .u64 v, .int .i64 p] 32)
  have hBX := hB.alloc (.cells #[.int .i64 3, .string S, .int .i64 w, .int .u64 v, .int .i64 p] 32)
  have hw0 : ¬ (w : Int) = 0 := by omega
  have HBX := Lib.hid hBX
  have HW := Lib.hid hW
  have HB5 := Lib.hid B5
  have hl1 := digL_len 10 (by omega) 20 w (by omega) (by omega)
  have hl2 := digL_len 16 (by omega) 16 v (by omega) (by omega)
  have HL1 := Lib.hid hl1
  have HL2 := Lib.hid hl2
  clear hB B5 hW hBX hl1 hl2
  go_enter Tryd.func41, Tryd.ntmps41
  go_wp2_with fail
  generalize hX : W.alloc (.cells #[.int .i64 3, .string S, .int .i64 w, .int .u64 v, .int .i64 p] 32) = X at *
  have hm : W.heap.size < X.heap.size := by rw [← hX]; simp
  clear hX
  have b2 := cell_regrown HB5.out.c2
  have b3 := cell_regrown HB5.out.c3
  have ci := fun d os => Calls.regrown_of ((Tryd.strconv_Itoa_small w (by omega) (grow (redrawn X d) os)).mono fun e W' h => (⟨h.1, h.2 ▸ Below.refl _ _⟩ : e = .returned (.string (bs (Lib.decDigits w))) ∧ Below (grow (redrawn X d) os).heap.size (grow (redrawn X d) os) W'))
  have cf := fun d os => Calls.regrown_of (fmt16_any v hv (grow (redrawn X d) os) (HBX.out.later (below_regrown X d os)))
  rw [dec_dig] at ci
  have hA : (bs (digL 10 w)).size ≤ 20 := HL1.out
  have hF : (bs (digL 16 v)).size ≤ 16 := HL2.out
  have hE : bs (digL 10 w ++ [39, 104] ++ digL 16 v) = bs (digL 10 w) ++ ⟨#[39, 104]⟩ ++ bs (digL 16 v) := by
    apply ByteArray.ext
    simp [bs]
  have hS : (bs (digL 10 w) ++ (⟨#[39, 104]⟩ : ByteArray)).size = (bs (digL 10 w)).size + 2 := by rw [ByteArray.size_append]; rfl
  have HE := Lib.hid hE
  generalize bs (digL 10 w) = A at *
  generalize bs (digL 16 v) = F at *
  clear hE
  refine wp_region_quiet_fast (by kernel_rfl) (by kernel_rfl) (by kernel_rfl) ?_
  try simp only [List.append_eq, List.cons_append, List.nil_append]
  repeat (go_big_quiet_step (first | with_reducible exact ci _ _ | with_reducible exact cf _ _))
  refine wpQuiet_nil ?_
  intro _ hw'
  obtain ⟨⟨dq, osq⟩, hw''⟩ := hw'
  subst hw''
  go_wp2
  go_ret
  exact ⟨by rw [HE.out]; rfl, HW.out.trans ((below_regrown X dq osq).mono HW.out.size)⟩

theorem written_any (t : Tok) (ht : checkT t = true) (hv : t.v < two64) (W : World) (hB : Base W) :
    Calls Tryd.prog 41 #[.agg #[.int .i64 t.k, .string (bs t.s), .int .i64 t.w, .int .u64 t.v, .int .i64 t.p]] W fun e W' => e = .returned (.string (bs (oneT t))) ∧ Below W.heap.size W W' := by
  obtain ⟨k, s, w, v, p⟩ := t
  have hv' : v < 18446744073709551616 := hv
  unfold oneT
  simp only
  by_cases hk : k = 3
  · subst hk
    simp only [ne_eq, not_true_eq_false, if_false]
    by_cases hw : w = 0
    · subst hw
      simp only [if_true]
      exact written_plain p (bs s) v hv' W hB
    · rw [if_neg hw]
      have hf : fitsV w v = true := by
        simp [checkT, hw] at ht
        exact ht.2.2
      simp only [fitsV, Bool.and_eq_true, decide_eq_true_eq] at hf
      obtain ⟨n, rfl⟩ : ∃ n : Nat, w = n := ⟨w.toNat, by omega⟩
      exact written_wide p (bs s) n v (by omega) (by omega) hv' W hB
  · rw [if_pos hk]
    exact written_text k w p (bs s) v hk W

end Go.Proofs.YtpabaabkhmjdhaaDoor
