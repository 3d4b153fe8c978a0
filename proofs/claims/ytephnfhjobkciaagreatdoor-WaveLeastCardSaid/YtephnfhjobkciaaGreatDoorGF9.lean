/-
  For every input the law WaveLeast returns true and its arguments read as before. No condition.
-/
import Derived.Test.YtephnfhjobkciaaGreatDoorGFW
import Derived.Test.YtephnfhjobkciaaGreatDoorGZ6

namespace Go.Proofs.YtephnfhjobkciaaGreatDoor
open Go.ChangeShapes Go.WideShapes Go.ChangeAt Go.RowKit Go.Proofs.Scn Go.Proofs.Wav Go.Shelf
set_option linter.unusedVariables false
set_option linter.unusedSimpArgs false
set_option maxRecDepth 100000

theorem waveLeast_plain : (Rows.waveLeastRow.laid.all fun x => x.2.handleName?.isNone) = true := by kernel_rfl
/-- a world in which all that is listed is laid meets the condition -/
theorem waveLeast_door (os : Os) (args : Array Value) : laidMetH Tryz.prog Rows.waveLeastRow.laid ((World.laidAll Tryz.prog os Rows.waveLeastRow.laid).forCall (fun _ _ => 0) ⟨#[], args, []⟩).memory := by
  rw [MakeChecks.laidMetH_plain _ _ _ waveLeast_plain]
  exact laidMet_laidAll args (by kernel_rfl) (by kernel_rfl)

theorem waveLeast_lifted (os : Os) (started : os.Started) (H : Type) (enc : TypeId × Value → H) :
    ReturnsInHanded {} Tryz.checked os 10 .any (fun w args => (Rows.waveLeastSpec.pre enc Tryz.prog Tryz.f10 [] false w args ∧ laidMetH Tryz.prog Rows.waveLeastRow.laid w) ∧ sizedMet enc Tryz.prog Tryz.f10 (OpenSpec.ofChange Rows.waveLeastSpec) false w args)
      (Rows.waveLeastSpec.post enc Tryz.prog Tryz.f10 false true false false) := by
  refine handed_laid (C := Tryz.checked) (X := fun w => laidMetH Tryz.prog Rows.waveLeastRow.laid w) (fun _ _ hh h => h.of_heap hh) own_knob started (by kernel_rfl) Tryz.func10
    (ChangeSpec.witness_shaped (enc := enc) (C := Tryz.checked) (os := os) (X := fun w _ => laidMetH Tryz.prog Rows.waveLeastRow.laid w) false (World.laidAll Tryz.prog os Rows.waveLeastRow.laid) #[.slice none 0 0, .slice none 0 0, .slice none 0 0] 8 (World.laidAll_os _ _ _) (World.shaped_of_ZipB (by kernel_rfl) (by kernel_rfl)) (by kernel_rfl) (by kernel_rfl) (by kernel_rfl) (waveLeast_door os _)) ?_
  intro W base args ds gs before hval0 hW hsz hL hsh
  have hval : ∀ (j : Nat) t v, Tryz.f10.params[j]? = some t → args[j]? = some v → Value.okWide Tryz.prog W .any base t v := hval0
  have hW' := hW
  obtain ⟨p, q, hA0, hV, rfl, hfz, hnd⟩ := hW
  have hA : DataW.TrodAll enc Tryz.prog W 0 (fun _ => true) true Tryz.f10.params.toList args.toList ds p := hA0
  rw [Tryz.params10] at hA hval
  obtain ⟨v0, vs0, d0, ds0, p0, q0, hargs, rfl, rfl, h0, r0⟩ := trodAll_cons hA
  obtain ⟨v1, vs1, d1, ds1, p1, q1, rfl, rfl, rfl, h1, r1⟩ := trodAll_cons r0
  obtain ⟨v2, vs2, d2, ds2, p2, q2, rfl, rfl, rfl, h2, r2⟩ := trodAll_cons r1
  obtain ⟨rfl, rfl, rfl⟩ := trodAll_nil r2
  obtain rfl : args = #[v0, v1, v2] := by cases args; simp_all
  obtain ⟨rfl, rfl⟩ := trodVars_none hV
  have k'0 := h0
  have lt0 : ∀ x ∈ p0, x.block < W.heap.size := by obtain ⟨m, hm⟩ := k'0; exact DataW.trod_lt m _ _ _ hm
  obtain ⟨n0, t0⟩ := slice_arg strsSlice (hval 0 22 v0 rfl rfl) h0
  obtain ⟨s0, y0, c0⟩ := strs_cells t0
  have k'1 := h1
  have lt1 : ∀ x ∈ p1, x.block < W.heap.size := by obtain ⟨m, hm⟩ := k'1; exact DataW.trod_lt m _ _ _ hm
  obtain ⟨n1, t1⟩ := slice_arg intsSlice (hval 1 23 v1 rfl rfl) h1
  obtain ⟨s1, y1, c1⟩ := ints_cells t1
  have k'2 := h2
  have lt2 : ∀ x ∈ p2, x.block < W.heap.size := by obtain ⟨m, hm⟩ := k'2; exact DataW.trod_lt m _ _ _ hm
  obtain ⟨n2, t2⟩ := slice_arg (show Tryz.prog.underlying 38 = some (.slice 52) by kernel_rfl) (hval 2 38 v2 rfl rfl) h2
  obtain ⟨s2, y2, g2, c2⟩ := rows_cells t2
  rw [MakeChecks.laidMetH_plain _ _ _ waveLeast_plain] at hL
  have hB : Base W := base_of hL (by simp [Rows.waveLeastRow]) (by simp [Rows.waveLeastRow]) (by simp [Rows.waveLeastRow]) (by simp [Rows.waveLeastRow]) hsh
  clear hA0 hval0
  refine (wleast_any v0 v1 v2 s0 s1 s2 W y0 y1 y2 g2 hB).mono fun e W' ⟨he, bel⟩ => ?_
  subst he
  exact ⟨_, rfl, _, _, _, [], _, [], hW', trodAll_mk1 (shut_bool (show Tryz.prog.underlying 4 = some .bool by kernel_rfl) _), (trodAll_cons_mk (Below.trod laid_out (by kernel_rfl) (of_decide_eq_true (by kernel_rfl)) k'0 bel lt0) (trodAll_cons_mk (Below.trod laid_out (by kernel_rfl) (of_decide_eq_true (by kernel_rfl)) k'1 bel lt1) (trodAll_cons_mk (Below.trod laid_out (by kernel_rfl) (of_decide_eq_true (by kernel_rfl)) k'2 bel lt2) trodAll_mk0))), rfl, bel.frame _, fun h => by cases h⟩

theorem waveLeast_over : Rows.WaveLeastSaid :=
  OpenClaim.holds_of_wide 10 Tryz.f10 rfl rfl rfl rfl rfl rfl rfl ⟨rfl, rfl, rfl, rfl, rfl⟩ rfl rfl rfl rfl rfl (by kernel_rfl) Tryz.func10 (by kernel_rfl)
    (of_decide_eq_true (by kernel_rfl)) (by unfold Func.isWrapper; first | (rw [if_pos (by decide +kernel)]; kernel_rfl) | (rw [if_neg (by decide +kernel)]; exact ⟨rfl, rfl⟩))
    (fun os started H enc _ => waveLeast_lifted os started H enc)

theorem waveLeast_holds : Rows.WaveLeastCardSaid :=
  Claim7.holds_tied_plain_at .later [] [.data, .data, .data, .data, .sentinel, .sentinel, .sentinel, .pinned] true (true, "918acf095409da7f7b1b1aaee4d3170bb03572345ec4439b361e051d3ccc5656") true
    waveLeast_over (fun _ h => by cases h) (by kernel_rfl) (fun _ h => by cases h) waveLeast_row_tie rfl ⟨rfl, rfl⟩ (by kernel_rfl) rfl
    (fun f fn hf hfn => by
      obtain rfl : f = 10 := Option.some.inj ((show Tryz.prog.funcNamed "filigree/filigreelaw16.WaveLeast" = some 10 by kernel_rfl).symm.trans hf) |>.symm
      obtain rfl : fn = Tryz.f10 := (Option.some.inj (Tryz.func10.symm.trans hfn)).symm
      exact ⟨by kernel_rfl, fun j t ht => by
        rw [Tryz.params10] at ht
        have h3 : t = 22 ∨ t = 23 ∨ t = 38 := by
          rcases j with _ | j
          · simp at ht; simp [← ht]
          rcases j with _ | j
          · simp at ht; simp [← ht]
          rcases j with _ | j
          · simp at ht; simp [← ht]
          simp at ht
        rcases h3 with rfl | rfl | rfl <;> exact (show Tryz.prog.wantsStandIn _ = false by kernel_rfl)⟩)
    (by kernel_rfl)
#print axioms waveLeast_holds

end Go.Proofs.YtephnfhjobkciaaGreatDoor
