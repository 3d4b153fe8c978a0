/-
  For every input the law ScanRight returns true and its arguments read as before. No condition.
-/
import Derived.Test.YtpabaabkhmjdhaaDoorFD
import Derived.Test.YtpabaabkhmjdhaaDoorT3
namespace Go.Proofs.YtpabaabkhmjdhaaDoor
open Go.ChangeShapes Go.WideShapes Go.ChangeAt Go.RowKit Go.Proofs.Scn
set_option linter.unusedVariables false
set_option linter.unusedSimpArgs false
set_option maxRecDepth 100000

theorem scanRight_plain : (Rows.scanRightRow.laid.all fun x => x.2.handleName?.isNone) = true := by kernel_rfl
/-- a world in which all that is listed is laid meets the condition -/
theorem scanRight_door (os : Os) (args : Array Value) : laidMetH Tryd.prog Rows.scanRightRow.laid ((World.laidAll Tryd.prog os Rows.scanRightRow.laid).forCall (fun _ _ => 0) ⟨#[], args, []⟩).memory := by
  rw [MakeChecks.laidMetH_plain _ _ _ scanRight_plain]
  exact laidMet_laidAll args (by kernel_rfl) (by kernel_rfl)

theorem scanRight_lifted (os : Os) (started : os.Started) (H : Type) (enc : TypeId × Value → H) :
    ReturnsInHanded {} Tryd.checked os 8 .any (fun w args => (Rows.scanRightSpec.pre enc Tryd.prog Tryd.f8 [] false w args ∧ laidMetH Tryd.prog Rows.scanRightRow.laid w) ∧ sizedMet enc Tryd.prog Tryd.f8 (OpenSpec.ofChange Rows.scanRightSpec) false w args)
      (Rows.scanRightSpec.post enc Tryd.prog Tryd.f8 false true false false) := by
  refine handed_laid (C := Tryd.checked) (X := fun w => laidMetH Tryd.prog Rows.scanRightRow.laid w) (fun _ _ hh h => h.of_heap hh) own_knob started (by kernel_rfl) Tryd.func8
    (ChangeSpec.witness_shaped (enc := enc) (C := Tryd.checked) (os := os) (X := fun w _ => laidMetH Tryd.prog Rows.scanRightRow.laid w) false (World.laidAll Tryd.prog os Rows.scanRightRow.laid) #[.slice none 0 0] 8 (World.laidAll_os _ _ _) (World.shaped_of_ZipB (by kernel_rfl) (by kernel_rfl)) (by kernel_rfl) (by kernel_rfl) (by kernel_rfl) (scanRight_door os _)) ?_
  intro W base args ds gs before hval0 hW hsz hL hsh
  have hval : ∀ (j : Nat) t v, Tryd.f8.params[j]? = some t → args[j]? = some v → Value.okWide Tryd.prog W .any base t v := hval0
  have hW' := hW
  obtain ⟨p, q, hA0, hV, rfl, hfz, hnd⟩ := hW
  have hA : DataW.TrodAll enc Tryd.prog W 0 (fun _ => true) true Tryd.f8.params.toList args.toList ds p := hA0
  rw [Tryd.params8] at hA hval
  obtain ⟨v0, vs0, d0, ds0, p0, q0, hargs, rfl, rfl, h0, r0⟩ := trodAll_cons hA
  obtain ⟨rfl, rfl, rfl⟩ := trodAll_nil r0
  obtain rfl : args = #[v0] := by cases args; simp_all
  obtain ⟨rfl, rfl⟩ := trodVars_none hV
  have k'0 := h0
  have lt0 : ∀ x ∈ p0, x.block < W.heap.size := by obtain ⟨m, hm⟩ := k'0; exact DataW.trod_lt m _ _ _ hm
  obtain ⟨s0, y0, e0⟩ := bytes_arg (hval 0 22 v0 rfl rfl) h0
  have x0 := bytes_cap (hval 0 22 v0 rfl rfl) h0
  have z0 : s0.size ≤ 140737488355328 := by
    rcases e0 with ⟨_, h⟩ | ⟨es, sp, rfl, h⟩
    · omega
    · have h1 := sized_slice hsz (j := 0) (t := 22) (by rw [Tryd.params8]; rfl) rfl byteSlice
      rw [show Tryd.checked.prog.bytesOf 5 = 1 from by kernel_rfl] at h1
      have h2 := reachBytes_lt
      omega
  rw [MakeChecks.laidMetH_plain _ _ _ scanRight_plain] at hL
  have hB : Base W := base_of hL (by simp [Rows.scanRightRow]) (by simp [Rows.scanRightRow]) hsh
  clear hA0 hval0
  refine (right_any v0 s0 z0 W y0 x0 hB).mono fun e W' ⟨he, bel⟩ => ?_
  subst he
  exact ⟨_, rfl, _, _, _, [], _, [], hW', trodAll_mk1 (shut_bool (show Tryd.prog.underlying 4 = some .bool by kernel_rfl) _), (trodAll_cons_mk (Below.trod laid_out (by kernel_rfl) (of_decide_eq_true (by kernel_rfl)) k'0 bel lt0) trodAll_mk0), rfl, bel.frame _, fun h => by cases h⟩

theorem scanRight_over : Rows.ScanRightSaid :=
  OpenClaim.holds_of_wide 8 Tryd.f8 rfl rfl rfl rfl rfl rfl rfl ⟨rfl, rfl, rfl, rfl, rfl⟩ rfl rfl rfl rfl rfl (by kernel_rfl) Tryd.func8 (by kernel_rfl)
    (of_decide_eq_true (by kernel_rfl)) (by unfold Func.isWrapper; first | (rw [if_pos (by decide +kernel)]; kernel_rfl) | (rw [if_neg (by decide +kernel)]; exact ⟨rfl, rfl⟩))
    (fun os started H enc _ => scanRight_lifted os started H enc)

theorem scanRight_holds : Rows.ScanRightCardSaid :=
  Claim7.holds_tied_plain_at .later [] [.data, .data, .data, .data, .pinned] true (true, "a6561bb8b4103c5a82c7457e9f51e02e791f545291172f69be17643dfd942eb7") false
    scanRight_over (fun _ h => by cases h) (by kernel_rfl) (fun _ h => by cases h) scanRight_row_tie rfl ⟨rfl, rfl⟩ (by kernel_rfl) rfl
    (fun f fn hf hfn => by
      obtain rfl : f = 8 := Option.some.inj ((show Tryd.prog.funcNamed "filigree/filigreelaw02.ScanRight" = some 8 by kernel_rfl).symm.trans hf) |>.symm
      obtain rfl : fn = Tryd.f8 := (Option.some.inj (Tryd.func8.symm.trans hfn)).symm
      exact ⟨by kernel_rfl, fun j t ht => by
        rw [Tryd.params8] at ht
        have h3 : t = 22 := by
          rcases j with _ | j
          · simp at ht; simp [← ht]
          simp at ht
        rcases h3 with rfl <;> exact (show Tryd.prog.wantsStandIn _ = false by kernel_rfl)⟩)
    (by kernel_rfl)
#print axioms scanRight_holds

end Go.Proofs.YtpabaabkhmjdhaaDoor
