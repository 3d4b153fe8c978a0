/- Numbers: scan and its reference. -/
import Derived.Test.YtpabaabkhmjdhaaDoorW4
import Derived.Test.YtpabaabkhmjdhaaDoorP4
import Derived.Lib.ConvBytes
namespace Go.Proofs.YtpabaabkhmjdhaaDoor
open Go.RowKit Go.Proofs.Scn
set_option linter.unusedVariables false
set_option linter.unusedSimpArgs false
set_option maxRecDepth 100000

theorem two64_lt (n : Nat) : n % two64 < two64 := Nat.mod_lt _ (by decide)

theorem add_run (x y : Nat) (w : World) : (callFunc 82 #[.int .u64 x, .int .u64 y, .int .u64 0]).run Tryd.prog w =
    .ok (.value (.tuple #[.int .u64 (((x + y + 0) % two64 : Nat) : Int), .int .u64 (((x + y + 0) / two64 : Nat) : Int)])) w :=
  Any7.bits_Add64 Tryd.lays7n25 x y 0 (by omega) w

/-- a number's parts, or that it is none -/
def NumPost (b : Nat) (l : List UInt8) (e : Ending) : Prop :=
  e = if allFig b l then .returned (.tuple #[.int .u64 (cutV b l : Nat), .bool (smallV b l), .int .i64 (if l.isEmpty then 21 else 0)]) else .returned (.tuple #[.int .u64 0, .bool false, .int .i64 21])

theorem conv_run (s : ByteArray) (w : World) : (convert 9 22 (.string s)).run Tryd.prog w = .ok (.slice (some ⟨w.heap.size, 0, none⟩) s.size (grownCap w s.size 0 5)) (Lib.bytesWorld w 5 s) :=
  Lib.run_convert_string_bytes (P := Tryd.prog) (u := .string) w 9 22 5 s (by kernel_rfl) (by kernel_rfl) (by kernel_rfl)

set_option maxHeartbeats 1000000 in
theorem number_empty (b : Nat) (W : World) :
    Calls Tryd.prog 67 #[.string ⟨#[]⟩, .int .u64 b] W fun e W' => NumPost b [] e ∧ Below W.heap.size W W' := by
  have hconv := conv_run ⟨#[]⟩
  have hbel := Lib.hid (Joins.below_bytesWorld W.heap.size W 5 ⟨#[]⟩ (Nat.le_refl _))
  go_enter Tryd.func67, Tryd.ntmps67
  go_wp2
  refine wp_loop_rounds 1 ?_
  rw [rounds_succ]
  go_wp2
  go_ret3
  exact ⟨rfl, hbel.out⟩

set_option maxHeartbeats 4000000 in
theorem number_any (s : ByteArray) (b : Nat) (hs : s.size ≤ 140737488351232) (h0 : 0 < s.size) (hb : 2 ≤ b) (hb2 : b ≤ 16) (W : World) :
    Calls Tryd.prog 67 #[.string s, .int .u64 b] W fun e W' => NumPost b s.data.toList e ∧ Below W.heap.size W W' := by
  have hconv := conv_run s
  have hbel := Lib.hid (Joins.below_bytesWorld W.heap.size W 5 s (Nat.le_refl _))
  have hcell0 : ∀ k, (h : k < s.size) → (Lib.bytesWorld W 5 s).cell? ⟨W.heap.size, k, none⟩ = some (.int .u8 (s[k].toNat)) := fun k h => by
    rw [Lib.bytesWorld_cell W 5 s k h]
    have : s.data.toList.getD k 0 = s[k] := by
      have h' : k < s.data.toList.length := h
      simp [List.getD_eq_getElem?_getD, List.getElem?_eq_getElem h']
      rfl
    rw [this]
  have hcell := Lib.hid hcell0
  have hne : s.toList.isEmpty = false := by
    rw [toList_eq]
    cases h : s.data.toList with
    | nil => have : s.data.toList.length = 0 := by rw [h]; rfl
             have h2 : s.data.toList.length = s.size := rfl
             omega
    | cons => rfl
  have hne1 : s.data.toList.isEmpty = false := by rw [← toList_eq]; exact hne
  have hne2 : ¬ s.toList = [] := by intro h; rw [h] at hne; cases hne
  have HE := Lib.hid hne1
  have hlen : s.data.toList.length = s.size := rfl
  have HL := Lib.hid hlen
  clear hcell0 hne1 hlen
  go_enter Tryd.func67, Tryd.ntmps67
  go_wp2
  clear hconv
  generalize Lib.bytesWorld W 5 s = X at *
  go_loop [4, 5, 6, 17] (fun v sm e i => ∃ k : Nat, k ≤ s.size ∧ i = .int .i64 k ∧ e = .int .i64 0 ∧ v = .int .u64 (cutV b (s.data.toList.take k) : Nat) ∧ sm = .bool (smallV b (s.data.toList.take k)) ∧ Hid (allFig b (s.data.toList.take k) = true)) (fun _ _ _ i => s.size - (intOf i).toNat)
  case atStart => exact ⟨0, Nat.zero_le _, rfl, rfl, rfl, rfl, Lib.hid rfl⟩
  case round =>
    obtain ⟨k, hk, rfl, rfl, rfl, rfl, hfig⟩ := hrel
    by_cases hlt : k < s.size
    · have hc := hcell.out k hlt
      have kf := figure_any s[k] X
      have hkl : k < s.data.toList.length := hlt
      have hsk : s.data.toList[k] = s[k] := rfl
      by_cases hfb : figV s[k] < b
      · have hstep := num_step (cutV b (s.data.toList.take k)) b (figV s[k]) (two64_lt _) hb2 hfb (smallV b (s.data.toList.take k)) (numV b (s.data.toList.take k)) rfl rfl (by omega)
        have hns := num_snoc b s.data.toList k hkl
        have hfs := fig_snoc b s.data.toList k hkl
        rw [hsk] at hns hfs
        have hnext : allFig b (s.data.toList.take (k + 1)) = true := by rw [hfs, hfig.out, decide_eq_true hfb]; rfl
        have hv : (cutV b (s.data.toList.take k) * b % two64 + figV s[k] + 0) % two64 = cutV b (s.data.toList.take (k + 1)) := by rw [hstep.1, ← hns]; rfl
        have hsm : (smallV b (s.data.toList.take k) && (cutV b (s.data.toList.take k) * b / two64 == 0) && ((cutV b (s.data.toList.take k) * b % two64 + figV s[k] + 0) / two64 == 0)) = smallV b (s.data.toList.take (k + 1)) := by rw [hstep.2, ← hns]; rfl
        have kmul : Calls Tryd.prog 81 #[.int .u64 (cutV b (s.data.toList.take k) : Nat), .int .u64 b] X fun e W' => e = .returned (.tuple #[.int .u64 ((cutV b (s.data.toList.take k) * b / two64 : Nat) : Int), .int .u64 ((cutV b (s.data.toList.take k) * b % two64 : Nat) : Int)]) ∧ W' = X :=
          Tryd.bits_Mul64 _ _ (two64_lt _) (by omega) X
        have kadd := add_run (cutV b (s.data.toList.take k) * b % two64) (figV s[k])
        have N := Lib.hid hnext
        clear hstep hns hfs hnext hsk
        generalize cutV b (s.data.toList.take k) * b / two64 = hi at *
        generalize cutV b (s.data.toList.take k) * b % two64 = lo at *
        generalize hsum : (lo + figV s[k] + 0) % two64 = sum at *
        generalize (lo + figV s[k] + 0) / two64 = car at *
        have V := Lib.hid hv
        have SM := Lib.hid hsm
        have KF := Lib.hid kf
        have KM := Lib.hid kmul
        have hnf : ((figV s[k] : Nat) : Int) < (b : Int) := by omega
        generalize smallV b (s.data.toList.take k) = sm at *
        generalize figV s[k] = d at *
        generalize cutV b (s.data.toList.take k) = v at *
        clear hv hsm kf kmul hsum hfb
        cases sm
        · go_wp2_with (first | (go_at_call 80; refine KF.out.mono ?_; rintro e w' ⟨rfl, rfl⟩) | (go_at_call 81; refine KM.out.mono ?_; rintro e w' ⟨rfl, rfl⟩))
          exact ⟨⟨k + 1, by omega, by go_num, rfl, by rw [V.out], by rw [← SM.out]; simp, N⟩, by simp [intOf]; omega⟩
        · by_cases h1 : hi = 0
          · by_cases h2 : car = 0
            · subst h1 h2
              go_wp2_with (first | (go_at_call 80; refine KF.out.mono ?_; rintro e w' ⟨rfl, rfl⟩) | (go_at_call 81; refine KM.out.mono ?_; rintro e w' ⟨rfl, rfl⟩))
              exact ⟨⟨k + 1, by omega, by go_num, rfl, by rw [V.out], by rw [← SM.out]; simp, N⟩, by simp [intOf]; omega⟩
            · subst h1
              have q2 : ((car : Int) == 0) = false := by rw [beq_eq_false_iff_ne]; omega
              have Q2 := Lib.hid h2
              clear h2
              go_wp2_with (first | (go_at_call 80; refine KF.out.mono ?_; rintro e w' ⟨rfl, rfl⟩) | (go_at_call 81; refine KM.out.mono ?_; rintro e w' ⟨rfl, rfl⟩))
              exact ⟨⟨k + 1, by omega, by go_num, rfl, by rw [V.out], by rw [← SM.out]; simp [Q2.out], N⟩, by simp [intOf]; omega⟩
          · have q1 : ((hi : Int) == 0) = false := by rw [beq_eq_false_iff_ne]; omega
            have Q1 := Lib.hid h1
            clear h1
            go_wp2_with (first | (go_at_call 80; refine KF.out.mono ?_; rintro e w' ⟨rfl, rfl⟩) | (go_at_call 81; refine KM.out.mono ?_; rintro e w' ⟨rfl, rfl⟩))
            exact ⟨⟨k + 1, by omega, by go_num, rfl, by rw [V.out], by rw [← SM.out]; simp [Q1.out], N⟩, by simp [intOf]; omega⟩
      · have hno := Lib.hid (allFig_not (b := b) hkl (by rw [hsk]; exact hfb))
        have hnf : (b : Int) ≤ ((figV s[k] : Nat) : Int) := by omega
        have KF := Lib.hid kf
        clear kf hfb hsk
        generalize figV s[k] = d at *
        go_wp2_with (go_at_call 80; refine KF.out.mono ?_; rintro e w' ⟨rfl, rfl⟩)
        go_ret3
        exact ⟨by unfold NumPost; rw [hno.out]; rfl, hbel.out⟩
    · obtain rfl : k = s.size := by omega
      have e : s.data.toList.take s.size = s.data.toList := List.take_of_length_le (by rw [HL.out]; exact Nat.le_refl _)
      have hf := hfig.out
      rw [e] at hf
      rw [e]
      have F := Lib.hid hf
      clear hf e hfig
      go_wp2
      go_ret3
      exact ⟨by unfold NumPost; rw [F.out, HE.out]; rfl, hbel.out⟩
end Go.Proofs.YtpabaabkhmjdhaaDoor
