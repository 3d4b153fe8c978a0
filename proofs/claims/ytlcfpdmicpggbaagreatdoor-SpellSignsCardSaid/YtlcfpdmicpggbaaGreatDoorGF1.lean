/-
  For every input the law SpellSigns returns true and its arguments read as before. No condition.
-/
import Derived.Test.YtlcfpdmicpggbaaGreatDoorEF12
import Derived.Test.YtlcfpdmicpggbaaGreatDoorEF13
namespace Go.Proofs.YtlcfpdmicpggbaaGreatDoor
open Go.ChangeShapes Go.WideShapes Go.ChangeAt Go.RowKit Go.Proofs.Spl Go.Proofs.Scn Go.Shelf
set_option linter.unusedVariables false
set_option linter.unusedSimpArgs false
set_option maxRecDepth 100000

theorem spellSigns_plain : (Rows.spellSignsRow.laid.all fun x => x.2.handleName?.isNone) = true := by kernel_rfl
/-- a world in which all that is listed is laid meets the condition -/
theorem spellSigns_door (os : Os) (args : Array Value) : laidMetH Tryz.prog Rows.spellSignsRow.laid ((World.laidAll Tryz.prog os Rows.spellSignsRow.laid).forCall (fun _ _ => 0) ⟨#[], args, []⟩).memory := by
  rw [MakeChecks.laidMetH_plain _ _ _ spellSigns_plain]
  exact laidMet_laidAll args (by kernel_rfl) (by kernel_rfl)
theorem spellSigns_reads (os : Os) {H : Type} (enc : TypeId × Value → H) : ∃ places, DataW.whole enc Tryz.prog ((World.laidAll Tryz.prog os Rows.spellSignsRow.laid).forCall (fun _ _ => 0) ⟨#[], #[.int .u8 0, .int .u8 0, .string ⟨#[]⟩, .string ⟨#[]⟩, .string ⟨#[]⟩], []⟩).memory Tryz.f7.params.toList Rows.spellSignsSpec.vars false #[(.int .u8 0 : Value), (.int .u8 0 : Value), (.string ⟨#[]⟩ : Value), (.string ⟨#[]⟩ : Value), (.string ⟨#[]⟩ : Value)].toList 8 = some ([.lit (.int .u8 0), .lit (.int .u8 0), .lit (.string []), .lit (.string []), .lit (.string [])], [], places) :=
  ⟨[], by kernel_rfl⟩
theorem spellSigns_contract (H : Type) (enc : TypeId × Value → H) (W : World) (base : Nat) (args : Array Value) (ds gs : List (DataW H)) (before : List MemPlace)
    (hval0 : ∀ (j : Nat) t v, Tryz.f7.params[j]? = some t → args[j]? = some v → Value.okWide Tryz.prog W .any base t v)
    (hW : DataW.Whole enc Tryz.prog Tryz.f7.params.toList Rows.spellSignsSpec.vars false W args.toList ds gs before) (hsz : (DataW.weightsEach Tryz.prog (Tryz.f7.params.toList ++ Rows.spellSignsSpec.plain.varTypes Tryz.prog) (ds ++ gs)).all (· ≤ reachBytes) = true) (hL : laidMetH Tryz.prog Rows.spellSignsRow.laid W) (hsh : W.ShapedOpen Tryz.prog) :
    Calls Tryz.prog 7 args W fun e W' => ∃ v, e = .returned v ∧ Rows.spellSignsSpec.post enc Tryz.prog Tryz.f7 false true false false W args v W' := by
  have hval : ∀ (j : Nat) t v, Tryz.f7.params[j]? = some t → args[j]? = some v → Value.okWide Tryz.prog W .any base t v := hval0
  have hW' := hW
  obtain ⟨p, q, hA0, hV, rfl, hfz, hnd⟩ := hW
  have hA : DataW.TrodAll enc Tryz.prog W 0 (fun _ => true) true Tryz.f7.params.toList args.toList ds p := hA0
  rw [Tryz.params7] at hA hval
  obtain ⟨v0, vs0, d0, ds0, p0, u0, hargs, rfl, rfl, h0, r0⟩ := trodAll_cons hA
  obtain ⟨v1, vs1, d1, ds1, p1, u1, rfl, rfl, rfl, h1, r1⟩ := trodAll_cons r0
  obtain ⟨v2, vs2, d2, ds2, p2, u2, rfl, rfl, rfl, h2, r2⟩ := trodAll_cons r1
  obtain ⟨v3, vs3, d3, ds3, p3, u3, rfl, rfl, rfl, h3, r3⟩ := trodAll_cons r2
  obtain ⟨v4, vs4, d4, ds4, p4, u4, rfl, rfl, rfl, h4, r4⟩ := trodAll_cons r3
  obtain ⟨rfl, rfl, rfl⟩ := trodAll_nil r4
  obtain rfl : args = #[v0, v1, v2, v3, v4] := by cases args; simp_all
  obtain ⟨rfl, rfl⟩ := trodVars_none hV
  have k'0 := h0
  have lt0 : ∀ x ∈ p0, x.block < W.heap.size := by obtain ⟨m, hm⟩ := k'0; exact DataW.trod_lt m _ _ _ hm
  obtain ⟨a0', rfl⟩ := okWide_int (show Tryz.prog.underlying 5 = some (.int .u8) by kernel_rfl) (hval 0 5 v0 rfl rfl)
  obtain ⟨a0, rfl, l0⟩ : ∃ a0 : Nat, a0' = a0 ∧ a0 < 256 := by
    obtain ⟨fuel, hf⟩ := h0
    obtain ⟨a, e, _, wf⟩ := DataW.trod_int (show Tryz.prog.underlying 5 = some (.int .u8) by kernel_rfl) hf
    have e' : a = a0' := by simpa [Value.cells] using e.symm
    subst e'
    simp [Lit.wf, IntKind.min, IntKind.max, IntKind.signed, IntKind.bits] at wf
    exact ⟨a.toNat, by omega, by omega⟩
  have k'1 := h1
  have lt1 : ∀ x ∈ p1, x.block < W.heap.size := by obtain ⟨m, hm⟩ := k'1; exact DataW.trod_lt m _ _ _ hm
  obtain ⟨a1', rfl⟩ := okWide_int (show Tryz.prog.underlying 5 = some (.int .u8) by kernel_rfl) (hval 1 5 v1 rfl rfl)
  obtain ⟨a1, rfl, l1⟩ : ∃ a1 : Nat, a1' = a1 ∧ a1 < 256 := by
    obtain ⟨fuel, hf⟩ := h1
    obtain ⟨a, e, _, wf⟩ := DataW.trod_int (show Tryz.prog.underlying 5 = some (.int .u8) by kernel_rfl) hf
    have e' : a = a1' := by simpa [Value.cells] using e.symm
    subst e'
    simp [Lit.wf, IntKind.min, IntKind.max, IntKind.signed, IntKind.bits] at wf
    exact ⟨a.toNat, by omega, by omega⟩
  have k'2 := h2
  have lt2 : ∀ x ∈ p2, x.block < W.heap.size := by obtain ⟨m, hm⟩ := k'2; exact DataW.trod_lt m _ _ _ hm
  obtain ⟨s2, rfl⟩ := okWide_string (show Tryz.prog.underlying 9 = some .string by kernel_rfl) (hval 2 9 v2 rfl rfl)
  have z2 : s2.data.toList.length ≤ 140737488355328 := by
    obtain ⟨fuel, hf⟩ := h2
    obtain ⟨a, e, hx, hm⟩ := DataW.trod_string (show Tryz.prog.underlying 9 = some .string by kernel_rfl) hf
    have e' : a = s2 := by simpa [Value.cells] using e.symm
    subst e'
    simp only [Prod.mk.injEq] at hx
    have h1 := sized_string hsz (j := 2) (t := 9) (bytes := a.data.toList) (by rw [Tryz.params7]; rfl) (by rw [hx.1]; rfl)
    have h2 := reachBytes_lt
    omega
  have k'3 := h3
  have lt3 : ∀ x ∈ p3, x.block < W.heap.size := by obtain ⟨m, hm⟩ := k'3; exact DataW.trod_lt m _ _ _ hm
  obtain ⟨s3, rfl⟩ := okWide_string (show Tryz.prog.underlying 9 = some .string by kernel_rfl) (hval 3 9 v3 rfl rfl)
  have z3 : s3.data.toList.length ≤ 140737488355328 := by
    obtain ⟨fuel, hf⟩ := h3
    obtain ⟨a, e, hx, hm⟩ := DataW.trod_string (show Tryz.prog.underlying 9 = some .string by kernel_rfl) hf
    have e' : a = s3 := by simpa [Value.cells] using e.symm
    subst e'
    simp only [Prod.mk.injEq] at hx
    have h1 := sized_string hsz (j := 3) (t := 9) (bytes := a.data.toList) (by rw [Tryz.params7]; rfl) (by rw [hx.1]; rfl)
    have h2 := reachBytes_lt
    omega
  have k'4 := h4
  have lt4 : ∀ x ∈ p4, x.block < W.heap.size := by obtain ⟨m, hm⟩ := k'4; exact DataW.trod_lt m _ _ _ hm
  obtain ⟨s4, rfl⟩ := okWide_string (show Tryz.prog.underlying 9 = some .string by kernel_rfl) (hval 4 9 v4 rfl rfl)
  have z4 : s4.data.toList.length ≤ 140737488355328 := by
    obtain ⟨fuel, hf⟩ := h4
    obtain ⟨a, e, hx, hm⟩ := DataW.trod_string (show Tryz.prog.underlying 9 = some .string by kernel_rfl) hf
    have e' : a = s4 := by simpa [Value.cells] using e.symm
    subst e'
    simp only [Prod.mk.injEq] at hx
    have h1 := sized_string hsz (j := 4) (t := 9) (bytes := a.data.toList) (by rw [Tryz.params7]; rfl) (by rw [hx.1]; rfl)
    have h2 := reachBytes_lt
    omega
  rw [MakeChecks.laidMetH_plain _ _ _ spellSigns_plain] at hL
  have hB : BaseA W := baseA_of hL (by simp [Rows.spellSignsRow]) (by simp [Rows.spellSignsRow]) (by simp [Rows.spellSignsRow]) (by simp [Rows.spellSignsRow]) hsh
  clear hA0 hval0
  refine (signs_any a0 a1 l0 l1 s2.data.toList s3.data.toList s4.data.toList z2 z3 z4 W hB).mono fun e W' ⟨he, bel⟩ => ?_
  subst he
  exact ⟨_, rfl, _, _, _, [], _, [], hW', trodAll_mk1 (shut_bool (show Tryz.prog.underlying 4 = some .bool by kernel_rfl) _), (trodAll_cons_mk (Below.trod laid_out (by kernel_rfl) (of_decide_eq_true (by kernel_rfl)) k'0 bel lt0) (trodAll_cons_mk (Below.trod laid_out (by kernel_rfl) (of_decide_eq_true (by kernel_rfl)) k'1 bel lt1) (trodAll_cons_mk (Below.trod laid_out (by kernel_rfl) (of_decide_eq_true (by kernel_rfl)) k'2 bel lt2) (trodAll_cons_mk (Below.trod laid_out (by kernel_rfl) (of_decide_eq_true (by kernel_rfl)) k'3 bel lt3) (trodAll_cons_mk (Below.trod laid_out (by kernel_rfl) (of_decide_eq_true (by kernel_rfl)) k'4 bel lt4) trodAll_mk0))))), rfl, bel.frame _, fun h => by cases h⟩

theorem spellSigns_lifted (os : Os) (started : os.Started) (H : Type) (enc : TypeId × Value → H) (F : Stop.Interp) :
    ReturnsInHanded {} Tryz.checked os 7 .any ((OpenSpec.ofChange Rows.spellSignsSpec).preRow enc Tryz.prog Tryz.f7 Rows.spellSignsRow.domain false Rows.spellSignsRow.laid) (((OpenSpec.ofChange Rows.spellSignsSpec).at F).post enc Tryz.prog Tryz.f7 false true false false) := by
  obtain ⟨places, hx⟩ := spellSigns_reads os enc
  refine returnsInHanded_of_row (C := Tryz.checked) (s := (OpenSpec.ofChange Rows.spellSignsSpec)) own_knob started (by kernel_rfl) Tryz.func7
    (witness_all (enc := enc) (C := Tryz.checked) (World.laidAll Tryz.prog os Rows.spellSignsRow.laid) #[.int .u8 0, .int .u8 0, .string ⟨#[]⟩, .string ⟨#[]⟩, .string ⟨#[]⟩] (World.laidAll_os _ _ _) (World.shaped_of_ZipB (by kernel_rfl) (by kernel_rfl)) (by kernel_rfl)
      (OpenSpec.preRow_of_cond 8 hx (by kernel_rfl) (fun k hk => by cases hk) (by kernel_rfl) (spellSigns_door os _))) ?_
  intro W base args ds gs before hval hW _ hc hz hL hsh _
  exact spellSigns_contract H enc W base args ds gs before hval hW hz hL hsh

theorem spellSigns_over : Rows.SpellSignsSaid :=
  OpenClaim.holds_of_cond 7 Tryz.f7 rfl rfl rfl rfl rfl rfl rfl ⟨rfl, rfl, rfl, rfl, rfl⟩ rfl rfl rfl rfl rfl (by kernel_rfl) Tryz.func7 (by kernel_rfl)
    (of_decide_eq_true (by kernel_rfl)) (by unfold Func.isWrapper; first | (rw [if_pos (by decide +kernel)]; kernel_rfl) | (rw [if_neg (by decide +kernel)]; exact ⟨rfl, rfl⟩))
    (fun os started H enc _ F => by rw [OpenClaim.pre_eq_preRow]; exact spellSigns_lifted os started H enc F)

theorem spellSigns_holds : Rows.SpellSignsCardSaid :=
  Claim7.holds_tied_plain_at .later [] _ _ _ _ spellSigns_over (fun _ h => by cases h) (by kernel_rfl) (fun _ h => by cases h) spellSigns_row_tie rfl ⟨rfl, rfl⟩ (by kernel_rfl) rfl
    (fun f fn hf hfn => by
      obtain rfl : f = 7 := Option.some.inj ((show Tryz.prog.funcNamed "filigree/filigreelaw04.SpellSigns" = some 7 by kernel_rfl).symm.trans hf) |>.symm
      obtain rfl : fn = Tryz.f7 := (Option.some.inj (Tryz.func7.symm.trans hfn)).symm
      exact ⟨by kernel_rfl, fun j t ht => by
        rw [Tryz.params7] at ht
        have h3 : t = 5 ∨ t = 5 ∨ t = 9 ∨ t = 9 ∨ t = 9 := by
          rcases j with _ | j
          · simp at ht; simp [← ht]
          rcases j with _ | j
          · simp at ht; simp [← ht]
          rcases j with _ | j
          · simp at ht; simp [← ht]
          rcases j with _ | j
          · simp at ht; simp [← ht]
          rcases j with _ | j
          · simp at ht; simp [← ht]
          simp at ht
        rcases h3 with rfl | rfl | rfl | rfl | rfl <;> exact (show Tryz.prog.wantsStandIn _ = false by kernel_rfl)⟩)
    (by kernel_rfl)
#print axioms spellSigns_holds

end Go.Proofs.YtlcfpdmicpggbaaGreatDoor
