/-
  For every input of bulk at most 1048576 the law SpellNames returns true and its arguments read as before. Condition: the statement's own bound.
-/
import Derived.Test.YtlcfpdmicpggbaaGreatDoorEF52
import Derived.Test.YtlcfpdmicpggbaaGreatDoorEF54
namespace Go.Proofs.YtlcfpdmicpggbaaGreatDoor
open Go.ChangeShapes Go.WideShapes Go.ChangeAt Go.RowKit Go.Proofs.Spl Go.Proofs.Scn Go.Shelf
set_option linter.unusedVariables false
set_option linter.unusedSimpArgs false
set_option maxRecDepth 100000

theorem spellNames_plain : (Rows.spellNamesUptoRow.laid.all fun x => x.2.handleName?.isNone) = true := by kernel_rfl
/-- a world in which all that is listed is laid meets the condition -/
theorem spellNames_door (os : Os) (args : Array Value) : laidMetH Tryz.prog Rows.spellNamesUptoRow.laid ((World.laidAll Tryz.prog os Rows.spellNamesUptoRow.laid).forCall (fun _ _ => 0) ⟨#[], args, []⟩).memory := by
  rw [MakeChecks.laidMetH_plain _ _ _ spellNames_plain]
  exact laidMet_laidAll args (by kernel_rfl) (by kernel_rfl)
theorem spellNames_reads (os : Os) {H : Type} (enc : TypeId × Value → H) : ∃ places, DataW.whole enc Tryz.prog ((World.laidAll Tryz.prog os Rows.spellNamesUptoRow.laid).forCall (fun _ _ => 0) ⟨#[], #[.agg #[.int .i64 0, .string ⟨#[]⟩, .int .i64 0, .int .i64 0, .int .u64 0, .slice none 0 0]], []⟩).memory Tryz.f10.params.toList Rows.spellNamesSpec.vars false #[(.agg #[.int .i64 0, .string ⟨#[]⟩, .int .i64 0, .int .i64 0, .int .u64 0, .slice none 0 0] : Value)].toList 8 = some ([.agg [.lit (.int .i64 0), .lit (.string []), .lit (.int .i64 0), .lit (.int .i64 0), .lit (.int .u64 0), .nil]], [], places) :=
  ⟨[], by kernel_rfl⟩
theorem spellNames_contract (H : Type) (enc : TypeId × Value → H) (W : World) (base : Nat) (args : Array Value) (ds gs : List (DataW H)) (before : List MemPlace)
    (hval0 : ∀ (j : Nat) t v, Tryz.f10.params[j]? = some t → args[j]? = some v → Value.okWide Tryz.prog W .any base t v)
    (hW : DataW.Whole enc Tryz.prog Tryz.f10.params.toList Rows.spellNamesSpec.vars false W args.toList ds gs before) (hk : Rows.uptoSmall H (ds ++ gs) = true) (hsz : (DataW.weightsEach Tryz.prog (Tryz.f10.params.toList ++ Rows.spellNamesSpec.plain.varTypes Tryz.prog) (ds ++ gs)).all (· ≤ reachBytes) = true) (hL : laidMetH Tryz.prog Rows.spellNamesUptoRow.laid W) (hsh : W.ShapedOpen Tryz.prog) :
    Calls Tryz.prog 10 args W fun e W' => ∃ v, e = .returned v ∧ Rows.spellNamesSpec.post enc Tryz.prog Tryz.f10 false true false false W args v W' := by
  have hval : ∀ (j : Nat) t v, Tryz.f10.params[j]? = some t → args[j]? = some v → Value.okWide Tryz.prog W .any base t v := hval0
  have hW' := hW
  obtain ⟨p, q, hA0, hV, rfl, hfz, hnd⟩ := hW
  have hA : DataW.TrodAll enc Tryz.prog W 0 (fun _ => true) true Tryz.f10.params.toList args.toList ds p := hA0
  rw [Tryz.params10] at hA hval
  obtain ⟨v0, vs0, d0, ds0, p0, u0, hargs, rfl, rfl, h0, r0⟩ := trodAll_cons hA
  obtain ⟨rfl, rfl, rfl⟩ := trodAll_nil r0
  obtain rfl : args = #[v0] := by cases args; simp_all
  obtain ⟨rfl, rfl⟩ := trodVars_none hV
  have hbulk : Rows.uptoBulkAll ([d0] ++ []) ≤ 1048576 := of_decide_eq_true hk
  simp only [List.append_nil, Rows.uptoBulkAll] at hbulk
  have k'0 := h0
  have lt0 : ∀ x ∈ p0, x.block < W.heap.size := by obtain ⟨m, hm⟩ := k'0; exact DataW.trod_lt m _ _ _ hm
  obtain ⟨c0, t0, rfl, y0, g0, m0⟩ := x_arg (hval 0 28 v0 rfl rfl) h0
  rw [MakeChecks.laidMetH_plain _ _ _ spellNames_plain] at hL
  have hB : BaseA W := baseA_of hL (by simp [Rows.spellNamesUptoRow]) (by simp [Rows.spellNamesUptoRow]) (by simp [Rows.spellNamesUptoRow]) (by simp [Rows.spellNamesUptoRow]) hsh
  clear hA0 hval0
  refine (names_any t0 c0 W hB y0 (by omega) (m0 (by omega))).mono fun e W' ⟨he, bel⟩ => ?_
  subst he
  exact ⟨_, rfl, _, _, _, [], _, [], hW', trodAll_mk1 (shut_bool (show Tryz.prog.underlying 4 = some .bool by kernel_rfl) _), (trodAll_cons_mk (Below.trod laid_out (by kernel_rfl) (of_decide_eq_true (by kernel_rfl)) k'0 bel lt0) trodAll_mk0), rfl, bel.frame _, fun h => by cases h⟩

theorem spellNames_lifted (os : Os) (started : os.Started) (H : Type) (enc : TypeId × Value → H) (F : Stop.Interp) :
    ReturnsInHanded {} Tryz.checked os 10 .any ((Rows.OpenSpec.upto Rows.spellNamesSpec).preRow enc Tryz.prog Tryz.f10 Rows.spellNamesUptoRow.domain false Rows.spellNamesUptoRow.laid) (((Rows.OpenSpec.upto Rows.spellNamesSpec).at F).post enc Tryz.prog Tryz.f10 false true false false) := by
  obtain ⟨places, hx⟩ := spellNames_reads os enc
  refine returnsInHanded_of_row (C := Tryz.checked) (s := (Rows.OpenSpec.upto Rows.spellNamesSpec)) own_knob started (by kernel_rfl) Tryz.func10
    (witness_all (enc := enc) (C := Tryz.checked) (World.laidAll Tryz.prog os Rows.spellNamesUptoRow.laid) #[.agg #[.int .i64 0, .string ⟨#[]⟩, .int .i64 0, .int .i64 0, .int .u64 0, .slice none 0 0]] (World.laidAll_os _ _ _) (World.shaped_of_ZipB (by kernel_rfl) (by kernel_rfl)) (by kernel_rfl)
      (OpenSpec.preRow_of_cond 8 hx (by kernel_rfl) (fun k hk => by cases hk; kernel_rfl) (by kernel_rfl) (spellNames_door os _))) ?_
  intro W base args ds gs before hval hW _ hc hz hL hsh _
  exact spellNames_contract H enc W base args ds gs before hval hW (hc _ rfl) hz hL hsh

theorem spellNames_over : Rows.SpellNamesUptoSaid :=
  OpenClaim.holds_of_cond 10 Tryz.f10 rfl rfl rfl rfl rfl rfl rfl ⟨rfl, rfl, rfl, rfl, rfl⟩ rfl rfl rfl rfl rfl (by kernel_rfl) Tryz.func10 (by kernel_rfl)
    (of_decide_eq_true (by kernel_rfl)) (by unfold Func.isWrapper; first | (rw [if_pos (by decide +kernel)]; kernel_rfl) | (rw [if_neg (by decide +kernel)]; exact ⟨rfl, rfl⟩))
    (fun os started H enc _ F => by rw [OpenClaim.pre_eq_preRow]; exact spellNames_lifted os started H enc F)

theorem spellNames_holds : Rows.SpellNamesUptoCardSaid :=
  Claim7.holds_tied_plain_at .later [] _ _ _ _ spellNames_over (fun _ h => by cases h) (by kernel_rfl) (fun _ h => by cases h) spellNamesUpto_row_tie rfl ⟨rfl, rfl⟩ (by kernel_rfl) rfl
    (fun f fn hf hfn => by
      obtain rfl : f = 10 := Option.some.inj ((show Tryz.prog.funcNamed "filigree/filigreelaw04.SpellNames" = some 10 by kernel_rfl).symm.trans hf) |>.symm
      obtain rfl : fn = Tryz.f10 := (Option.some.inj (Tryz.func10.symm.trans hfn)).symm
      exact ⟨by kernel_rfl, fun j t ht => by
        rw [Tryz.params10] at ht
        have h3 : t = 28 := by
          rcases j with _ | j
          · simp at ht; simp [← ht]
          simp at ht
        rcases h3 with rfl <;> exact (show Tryz.prog.wantsStandIn _ = false by kernel_rfl)⟩)
    (by kernel_rfl)
#print axioms spellNames_holds

end Go.Proofs.YtlcfpdmicpggbaaGreatDoor
