/-
  For every input the law ScanBack returns true and its arguments read as before. No condition.
-/
import Derived.Test.YtpabaabkhmjdhaaDoorFE
import Derived.Test.YtpabaabkhmjdhaaDoorT9
namespace Go.Proofs.YtpabaabkhmjdhaaDoor
open Go.ChangeShapes Go.WideShapes Go.ChangeAt Go.RowKit Go.Proofs.Scn
set_option linter.unusedVariables false
set_option linter.unusedSimpArgs false
set_option maxRecDepth 100000

theorem scanBack_plain : (Rows.scanBackRow.laid.all fun x => x.2.handleName?.isNone) = true := by kernel_rfl
/-- a world in which all that is listed is laid meets the condition -/
theorem scanBack_door (os : Os) (args : Array Value) : laidMetH Tryd.prog Rows.scanBackRow.laid ((World.laidAll Tryd.prog os Rows.scanBackRow.laid).forCall (fun _ _ => 0) ⟨#[], args, []⟩).memory := by
  rw [MakeChecks.laidMetH_plain _ _ _ scanBack_plain]
  exact laidMet_laidAll args (by kernel_rfl) (by kernel_rfl)

theorem scanBack_lifted (os : Os) (started : os.Started) (H : Type) (enc : TypeId × Value → H) :
    ReturnsInHanded {} Tryd.checked os 6 .any (fun w args => (Rows.scanBackSpec.pre enc Tryd.prog Tryd.f6 [] false w args ∧ laidMetH Tryd.prog Rows.scanBackRow.laid w) ∧ sizedMet enc Tryd.prog Tryd.f6 (OpenSpec.ofChange Rows.scanBackSpec) false w args)
      (Rows.scanBackSpec.post enc Tryd.prog Tryd.f6 false true false false) := by
  refine handed_laid (C := Tryd.checked) (X := fun w => laidMetH Tryd.prog Rows.scanBackRow.laid w) (fun _ _ hh h => h.of_heap hh) own_knob started (by kernel_rfl) Tryd.func6
    (ChangeSpec.witness_shaped (enc := enc) (C := Tryd.checked) (os := os) (X := fun w _ => laidMetH Tryd.prog Rows.scanBackRow.laid w) false (World.laidAll Tryd.prog os Rows.scanBackRow.laid) #[.slice none 0 0] 8 (World.laidAll_os _ _ _) (World.shaped_of_ZipB (by kernel_rfl) (by kernel_rfl)) (by kernel_rfl) (by kernel_rfl) (by kernel_rfl) (scanBack_door os _)) ?_
  intro W base args ds gs before hval0 hW hsz hL hsh
  have hval : ∀ (j : Nat) t v, Tryd.f6.params[j]? = some t → args[j]? = some v → Value.okWide Tryd.prog W .any base t v := hval0
  have hW' := hW
  obtain ⟨p, q, hA0, hV, rfl, hfz, hnd⟩ := hW
  have hA : DataW.TrodAll enc Tryd.prog W 0 (fun _ => true) true Tryd.f6.params.toList args.toList ds p := hA0
  rw [Tryd.params6] at hA hval
  obtain ⟨v0, vs0, d0, ds0, p0, q0, hargs, rfl, rfl, h0, r0⟩ := trodAll_cons hA
  obtain ⟨rfl, rfl, rfl⟩ := trodAll_nil r0
  obtain rfl : args = #[v0] := by cases args; simp_all
  obtain ⟨rfl, rfl⟩ := trodVars_none hV
  have k'0 := h0
  have lt0 : ∀ x ∈ p0, x.block < W.heap.size := by obtain ⟨m, hm⟩ := k'0; exact DataW.trod_lt m _ _ _ hm
  obtain ⟨ts0, y0, n0, e0⟩ := toks_arg (hval 0 24 v0 rfl rfl) h0
  have h47 := reachBytes_lt
  have z0 : ts0.length ≤ 140737488351232 := by
    rcases e0 with rfl | ⟨es, sp, rfl, hlen, _⟩
    · simp
    · have h1 := sized_slice hsz (j := 0) (t := 24) (by rw [Tryd.params6]; rfl) rfl tokSlice
      rw [show Tryd.checked.prog.bytesOf 32 = 48 from by kernel_rfl] at h1
      omega
  have w0 : ∀ t ∈ ts0, t.v < two64 ∧ t.s.length ≤ 140737488355328 := by
    intro t ht
    refine ⟨n0 t ht, ?_⟩
    rcases e0 with rfl | ⟨es, sp, rfl, hlen, hx⟩
    · cases ht
    · obtain ⟨x, hm, parts, hp, h1⟩ := hx t ht
      have h2 := sized_toks hsz (j := 0) (by rw [Tryd.params6]; rfl) rfl hm hp h1
      omega
  rw [MakeChecks.laidMetH_plain _ _ _ scanBack_plain] at hL
  have hB : Base W := base_of hL (by simp [Rows.scanBackRow]) (by simp [Rows.scanBackRow]) hsh
  clear hA0 hval0
  refine (back_any v0 ts0 W y0 z0 w0 hB).mono fun e W' ⟨he, bel⟩ => ?_
  subst he
  exact ⟨_, rfl, _, _, _, [], _, [], hW', trodAll_mk1 (shut_bool (show Tryd.prog.underlying 4 = some .bool by kernel_rfl) _), (trodAll_cons_mk (Below.trod laid_out (by kernel_rfl) (of_decide_eq_true (by kernel_rfl)) k'0 bel lt0) trodAll_mk0), rfl, bel.frame _, fun h => by cases h⟩

theorem scanBack_over : Rows.ScanBackSaid :=
  OpenClaim.holds_of_wide 6 Tryd.f6 rfl rfl rfl rfl rfl rfl rfl ⟨rfl, rfl, rfl, rfl, rfl⟩ rfl rfl rfl rfl rfl (by kernel_rfl) Tryd.func6 (by kernel_rfl)
    (of_decide_eq_true (by kernel_rfl)) (by unfold Func.isWrapper; first | (rw [if_pos (by decide +kernel)]; kernel_rfl) | (rw [if_neg (by decide +kernel)]; exact ⟨rfl, rfl⟩))
    (fun os started H enc _ => scanBack_lifted os started H enc)

theorem scanBack_holds : Rows.ScanBackCardSaid :=
  Claim7.holds_tied_plain_at .later [] [.data, .data, .data, .data, .pinned] true (true, "a6561bb8b4103c5a82c7457e9f51e02e791f545291172f69be17643dfd942eb7") false
    scanBack_over (fun _ h => by cases h) (by kernel_rfl) (fun _ h => by cases h) scanBack_row_tie rfl ⟨rfl, rfl⟩ (by kernel_rfl) rfl
    (fun f fn hf hfn => by
      obtain rfl : f = 6 := Option.some.inj ((show Tryd.prog.funcNamed "filigree/filigreelaw02.ScanBack" = some 6 by kernel_rfl).symm.trans hf) |>.symm
      obtain rfl : fn = Tryd.f6 := (Option.some.inj (Tryd.func6.symm.trans hfn)).symm
      exact ⟨by kernel_rfl, fun j t ht => by
        rw [Tryd.params6] at ht
        have h3 : t = 24 := by
          rcases j with _ | j
          · simp at ht; simp [← ht]
          simp at ht
        rcases h3 with rfl <;> exact (show Tryd.prog.wantsStandIn _ = false by kernel_rfl)⟩)
    (by kernel_rfl)
#print axioms scanBack_holds

end Go.Proofs.YtpabaabkhmjdhaaDoor
