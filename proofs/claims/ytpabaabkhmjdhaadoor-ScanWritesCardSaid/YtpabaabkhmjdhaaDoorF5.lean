/-
  For every input the law ScanWrites returns true and its arguments read as before. No condition.
-/
import Derived.Test.YtpabaabkhmjdhaaDoorFE
import Derived.Test.YtpabaabkhmjdhaaDoorT9
namespace Go.Proofs.YtpabaabkhmjdhaaDoor
open Go.ChangeShapes Go.WideShapes Go.ChangeAt Go.RowKit Go.Proofs.Scn
set_option linter.unusedVariables false
set_option linter.unusedSimpArgs false
set_option maxRecDepth 100000

theorem scanWrites_plain : (Rows.scanWritesRow.laid.all fun x => x.2.handleName?.isNone) = true := by kernel_rfl
/-- a world in which all that is listed is laid meets the condition -/
theorem scanWrites_door (os : Os) (args : Array Value) : laidMetH Tryd.prog Rows.scanWritesRow.laid ((World.laidAll Tryd.prog os Rows.scanWritesRow.laid).forCall (fun _ _ => 0) ⟨#[], args, []⟩).memory := by
  rw [MakeChecks.laidMetH_plain _ _ _ scanWrites_plain]
  exact laidMet_laidAll args (by kernel_rfl) (by kernel_rfl)

theorem scanWrites_lifted (os : Os) (started : os.Started) (H : Type) (enc : TypeId × Value → H) :
    ReturnsInHanded {} Tryd.checked os 5 .any (fun w args => (Rows.scanWritesSpec.pre enc Tryd.prog Tryd.f5 [] false w args ∧ laidMetH Tryd.prog Rows.scanWritesRow.laid w) ∧ sizedMet enc Tryd.prog Tryd.f5 (OpenSpec.ofChange Rows.scanWritesSpec) false w args)
      (Rows.scanWritesSpec.post enc Tryd.prog Tryd.f5 false true false false) := by
  refine handed_laid (C := Tryd.checked) (X := fun w => laidMetH Tryd.prog Rows.scanWritesRow.laid w) (fun _ _ hh h => h.of_heap hh) own_knob started (by kernel_rfl) Tryd.func5
    (ChangeSpec.witness_shaped (enc := enc) (C := Tryd.checked) (os := os) (X := fun w _ => laidMetH Tryd.prog Rows.scanWritesRow.laid w) false (World.laidAll Tryd.prog os Rows.scanWritesRow.laid) #[.slice none 0 0] 8 (World.laidAll_os _ _ _) (World.shaped_of_ZipB (by kernel_rfl) (by kernel_rfl)) (by kernel_rfl) (by kernel_rfl) (by kernel_rfl) (scanWrites_door os _)) ?_
  intro W base args ds gs before hval0 hW hsz hL hsh
  have hval : ∀ (j : Nat) t v, Tryd.f5.params[j]? = some t → args[j]? = some v → Value.okWide Tryd.prog W .any base t v := hval0
  have hW' := hW
  obtain ⟨p, q, hA0, hV, rfl, hfz, hnd⟩ := hW
  have hA : DataW.TrodAll enc Tryd.prog W 0 (fun _ => true) true Tryd.f5.params.toList args.toList ds p := hA0
  rw [Tryd.params5] at hA hval
  obtain ⟨v0, vs0, d0, ds0, p0, q0, hargs, rfl, rfl, h0, r0⟩ := trodAll_cons hA
  obtain ⟨rfl, rfl, rfl⟩ := trodAll_nil r0
  obtain rfl : args = #[v0] := by cases args; simp_all
  obtain ⟨rfl, rfl⟩ := trodVars_none hV
  have k'0 := h0
  have lt0 : ∀ x ∈ p0, x.block < W.heap.size := by obtain ⟨m, hm⟩ := k'0; exact DataW.trod_lt m _ _ _ hm
  obtain ⟨ts0, y0, n0, e0⟩ := toks_arg (hval 0 24 v0 rfl rfl) h0
  have h47 := reachBytes_lt
  have z0 : ts0.length ≤ 140737488351232 := by
    rcases e0 with rfl | ⟨es, sp, rfl, hlen, _⟩
    · simp
    · have h1 := sized_slice hsz (j := 0) (t := 24) (by rw [Tryd.params5]; rfl) rfl tokSlice
      rw [show Tryd.checked.prog.bytesOf 32 = 48 from by kernel_rfl] at h1
      omega
  have w0 : ∀ t ∈ ts0, t.v < two64 ∧ t.s.length ≤ 140737488355328 := by
    intro t ht
    refine ⟨n0 t ht, ?_⟩
    rcases e0 with rfl | ⟨es, sp, rfl, hlen, hx⟩
    · cases ht
    · obtain ⟨x, hm, parts, hp, h1⟩ := hx t ht
      have h2 := sized_toks hsz (j := 0) (by rw [Tryd.params5]; rfl) rfl hm hp h1
      omega
  rw [MakeChecks.laidMetH_plain _ _ _ scanWrites_plain] at hL
  have hB : Base W := base_of hL (by simp [Rows.scanWritesRow]) (by simp [Rows.scanWritesRow]) hsh
  clear hA0 hval0
  refine (writes_any v0 ts0 W y0 z0 w0 hB).mono fun e W' ⟨he, bel⟩ => ?_
  subst he
  exact ⟨_, rfl, _, _, _, [], _, [], hW', trodAll_mk1 (shut_bool (show Tryd.prog.underlying 4 = some .bool by kernel_rfl) _), (trodAll_cons_mk (Below.trod laid_out (by kernel_rfl) (of_decide_eq_true (by kernel_rfl)) k'0 bel lt0) trodAll_mk0), rfl, bel.frame _, fun h => by cases h⟩

theorem scanWrites_over : Rows.ScanWritesSaid :=
  OpenClaim.holds_of_wide 5 Tryd.f5 rfl rfl rfl rfl rfl rfl rfl ⟨rfl, rfl, rfl, rfl, rfl⟩ rfl rfl rfl rfl rfl (by kernel_rfl) Tryd.func5 (by kernel_rfl)
    (of_decide_eq_true (by kernel_rfl)) (by unfold Func.isWrapper; first | (rw [if_pos (by decide +kernel)]; kernel_rfl) | (rw [if_neg (by decide +kernel)]; exact ⟨rfl, rfl⟩))
    (fun os started H enc _ => scanWrites_lifted os started H enc)

theorem scanWrites_holds : Rows.ScanWritesCardSaid :=
  Claim7.holds_tied_plain_at .later [] [.data, .data, .data, .data, .pinned] true (true, "a6561bb8b4103c5a82c7457e9f51e02e791f545291172f69be17643dfd942eb7") false
    scanWrites_over (fun _ h => by cases h) (by kernel_rfl) (fun _ h => by cases h) scanWrites_row_tie rfl ⟨rfl, rfl⟩ (by kernel_rfl) rfl
    (fun f fn hf hfn => by
      obtain rfl : f = 5 := Option.some.inj ((show Tryd.prog.funcNamed "filigree/filigreelaw02.ScanWrites" = some 5 by kernel_rfl).symm.trans hf) |>.symm
      obtain rfl : fn = Tryd.f5 := (Option.some.inj (Tryd.func5.symm.trans hfn)).symm
      exact ⟨by kernel_rfl, fun j t ht => by
        rw [Tryd.params5] at ht
        have h3 : t = 24 := by
          rcases j with _ | j
          · simp at ht; simp [← ht]
          simp at ht
        rcases h3 with rfl <;> exact (show Tryd.prog.wantsStandIn _ = false by kernel_rfl)⟩)
    (by kernel_rfl)
#print axioms scanWrites_holds

end Go.Proofs.YtpabaabkhmjdhaaDoor
