/-
  For every input the law ScanTells returns true and its argument reads as before. No condition.
-/
import Derived.Test.YtpabaabkhmjdhaaDoorRows
import Derived.Test.YtpabaabkhmjdhaaDoorTie
import Derived.Test.YtpabaabkhmjdhaaDoorCards
import Derived.WalkKit
import Derived.ProofKit
import Derived.OpenShut
import Derived.ShutString
import Derived.ChangeOld
import Derived.Below
import Derived.Carry
import Derived.Lib.SmallJoins
import Derived.Lib.LaidU8
import Derived.LaidMore
import Derived.Lay
import Derived.Shelf.Vars
import Derived.HandedShaped
import Derived.SevenTiedAt
import Derived.Stop.Joined
import Derived.Test.YtpabaabkhmjdhaaDoorU5
namespace Go.Proofs.YtpabaabkhmjdhaaDoor
open Go.ChangeShapes Go.WideShapes Go.ChangeAt Go.RowKit Go.Proofs.Scn
set_option linter.unusedVariables false
set_option linter.unusedSimpArgs false
set_option maxRecDepth 100000

/-- the wrap with both: what is laid, and the world's shape -/
theorem handed_laid {H : Type} {enc : TypeId × Value → H} {C : Checked} {os : Os} {f : FuncId} {fn : Func} {s : ChangeSpec} {apart fresh handsOn again : Bool} {X : World → Prop}
    (hX : ∀ (w w' : World), w.heap = w'.heap → X w → X w')
    (own : ownKnob C.prog.godebug = none) (started : os.Started) (noInit : C.prog.inits.idxOf? f = none) (hfn : C.prog.funcs[f]? = some fn)
    (witness : ∃ (w : World) (tape : Tape) (i : Input), w.os = os ∧ (w.forCall tape i).Shaped C.prog ∧ i.vars = [] ∧ Input.okWide C.prog (w.forCall tape i) .any w.heap.size f i ∧
      ((s.pre enc C.prog fn [] apart (w.forCall tape i).memory i.args ∧ X (w.forCall tape i).memory) ∧ sizedMet enc C.prog fn (OpenSpec.ofChange s) apart (w.forCall tape i).memory i.args) ∧ Assume.holds {} C.prog (lone (Frame.enter C.prog f i.args .normal) [] (w.forCall tape i)))
    (contract : ∀ (W : World) (base : Nat) (args : Array Value) (ds gs : List (DataW H)) (before : List MemPlace),
      (∀ (j : Nat) t v, fn.params[j]? = some t → args[j]? = some v → Value.okWide C.prog W .any base t v) →
      DataW.Whole enc C.prog fn.params.toList s.vars apart W args.toList ds gs before →
      (DataW.weightsEach C.prog (fn.params.toList ++ s.plain.varTypes C.prog) (ds ++ gs)).all (· ≤ reachBytes) = true → X W → W.ShapedOpen C.prog →
      Calls C.prog f args W fun e W' => ∃ v, e = .returned v ∧ s.post enc C.prog fn apart fresh handsOn again W args v W') :
    ReturnsInHanded {} C os f .any (fun w args => (s.pre enc C.prog fn [] apart w args ∧ X w) ∧ sizedMet enc C.prog fn (OpenSpec.ofChange s) apart w args) (s.post enc C.prog fn apart fresh handsOn again) := by
  refine returnsInHanded_of_calls own started noInit witness ?_
  intro w tape i _ hsh _ hok hpre hholds
  obtain ⟨_, _, _, fn', hfn', _, _, _, _, hval⟩ := hok
  have e : fn' = fn := Option.some.inj (hfn'.symm.trans hfn)
  subst e
  obtain ⟨⟨⟨ds, gs, before, hw, hc⟩, hx⟩, hz⟩ := hpre
  have hw' := DataW.Whole.of_heap (w' := w.forCall tape i) (by rfl) hw
  refine (contract (w.forCall tape i) w.heap.size i.args ds gs before hval hw' (hz.weights hw) (hX _ _ (by rfl) hx) hsh).mono fun e W' ⟨v, he, hp⟩ => ?_
  subst he
  exact ChangeSpec.post_blind hp

theorem own_knob : ownKnob Tryd.prog.godebug = none := by kernel_rfl
theorem laid_out : laidOutB Tryd.prog = true := by kernel_rfl
theorem laid_plain : (Rows.scanTellsRow.laid.all fun x => x.2.handleName?.isNone) = true := by kernel_rfl

theorem tab64 : (Rows.laid_math_bits_deBruijn64tab : DataW Unit) = Lib.tabData .u8 (Lib.deBruijn64tab.map fun n : Nat => (n : Int)) := by rfl
theorem tab10 : (Rows.laid_internal_strconv_uint64pow10 : DataW Unit) = Lib.tabData .u64 Lib.pow10Tab := by rfl

theorem base_of {W : World} {L : List (String × DataW Unit)} (h : laidMet Tryd.prog L W) (h64 : ("math/bits.deBruijn64tab", Rows.laid_math_bits_deBruijn64tab) ∈ L) (h10 : ("internal/strconv.uint64pow10", Rows.laid_internal_strconv_uint64pow10) ∈ L) (hsh : W.ShapedOpen Tryd.prog) : Base W := by
  refine ⟨?_, ?_, ?_⟩
  · exact cell_of_shapedOpen_int (t := 3) (zero := #[.int .i64 0]) hsh (of_decide_eq_true (by kernel_rfl)) (by kernel_rfl) rfl (by kernel_rfl) (by kernel_rfl) (by kernel_rfl)
  · obtain ⟨g, t, cs, fuel, p, hg, ht, hv, hd⟩ := Lib.laidMet.reads h h10
    rw [tab10] at hd
    obtain rfl := Option.some.inj ((show Tryd.prog.globalNamed "internal/strconv.uint64pow10" = some 3 by kernel_rfl).symm.trans hg)
    obtain rfl := Option.some.inj ((show (Tryd.prog.globals[3]?).map (·.type) = some 100 by kernel_rfl).symm.trans ht)
    unfold Lib.TabIs
    rw [hv, ← Lib.cells_of_tab (n := 20) (e := 30) (by kernel_rfl) (by kernel_rfl) (by kernel_rfl) (by kernel_rfl) hd]
  · obtain ⟨g, t, cs, fuel, p, hg, ht, hv, hd⟩ := Lib.laidMet.reads h h64
    rw [tab64] at hd
    obtain rfl := Option.some.inj ((show Tryd.prog.globalNamed "math/bits.deBruijn64tab" = some 5 by kernel_rfl).symm.trans hg)
    obtain rfl := Option.some.inj ((show (Tryd.prog.globals[5]?).map (·.type) = some 106 by kernel_rfl).symm.trans ht)
    have htab : Lib.TabIs Tryd.prog W "math/bits.deBruijn64tab" .u8 (Lib.deBruijn64tab.map fun n : Nat => (n : Int)) := by
      unfold Lib.TabIs
      rw [hv, ← Lib.cells_of_tab (n := 64) (e := 5) (by kernel_rfl) (by kernel_rfl) (by kernel_rfl) (by kernel_rfl) hd]
    intro j hj
    have := htab.cell hg j (by simpa using hj)
    rw [this]
    simp [List.getD_eq_getElem?_getD, List.getElem?_eq_getElem hj]

/-- an argument that is a slice of bytes -/
theorem bytes_arg {H : Type} {enc : TypeId × Value → H} {W : World} {b0 : Nat} {v : Value} {d : DataW H} {p : List MemPlace} (hv : Value.okWide Tryd.prog W .any b0 22 v) (h : DataW.Trod enc Tryd.prog W 0 (fun _ => true) true 22 v d p) :
    ∃ s : ByteArray, Bytes W v s ∧ ((d = .nil ∧ s.size = 0) ∨ ∃ es sp, d = .slice es sp ∧ es.length = s.size) := by
  obtain ⟨a, len, cap, rfl⟩ := okWide_slice byteSlice hv
  have hlt : ∀ x ∈ p, x.block < W.heap.size := by obtain ⟨m, hm⟩ := h; exact DataW.trod_lt m _ _ _ hm
  obtain ⟨fuel, hf⟩ := h
  rcases open_ints byteSlice (show Tryd.prog.underlying 5 = some (.int .u8) by kernel_rfl) (by kernel_rfl) hf with ⟨hcs, hx⟩ | ⟨x, l, c, zs, hcs, _, hl, hm, hz, hx, hcell, hwf⟩
  · simp [Value.cells] at hcs
    obtain ⟨rfl, rfl, rfl⟩ := hcs
    simp only [Prod.mk.injEq] at hx
    exact ⟨⟨#[]⟩, .inl ⟨rfl, none, 0, rfl⟩, .inl ⟨hx.1, rfl⟩⟩
  · simp [Value.cells] at hcs
    obtain ⟨rfl, rfl, rfl⟩ := hcs
    simp only [Prod.mk.injEq] at hx
    simp only [if_true] at hz
    have hsz : ((zs.take len).map fun n => UInt8.ofNat n.toNat).length = len := by simp; omega
    refine ⟨bs ((zs.take len).map fun n => UInt8.ofNat n.toNat), ?_, .inr ⟨_, _, hx.1, ?_⟩⟩
    · by_cases h0 : len = 0
      · exact .inl ⟨by rw [size_bs, hsz, h0], some x, cap, by rw [h0]⟩
      · obtain ⟨b, off, spot⟩ := x
        have hsp : spot = none := by
          have := World.cell?_spot (hcell 0 (by omega))
          simpa [Addr.add] using this
        subst hsp
        refine .inr ⟨b, off, cap, by rw [size_bs, hsz], World.block_lt_of_cell? _ _ (hcell 0 (by omega)), fun k hk => ?_⟩
        have hk' : k < len := by rw [size_bs, hsz] at hk; exact hk
        have h1 := hcell k (by omega)
        rw [add_plain] at h1
        rw [h1]
        have hw := hwf (zs.getD k 0) (by rw [List.getD_eq_getElem?_getD, List.getElem?_eq_getElem (by omega)]; exact List.getElem_mem _)
        have hb : (bs ((zs.take len).map fun n => UInt8.ofNat n.toNat))[k] = UInt8.ofNat (zs.getD k 0).toNat := by
          rw [getElem_list]
          simp [bs, List.getD_eq_getElem?_getD, List.getElem?_eq_getElem (show k < zs.length by omega)]
        rw [hb]
        simp [Lit.wf, IntKind.min, IntKind.max, IntKind.signed, IntKind.bits] at hw
        have h2 : (UInt8.ofNat (zs.getD k 0).toNat).toNat = (zs.getD k 0).toNat := by
          rw [UInt8.toNat_ofNat']
          rw [List.getD_eq_getElem?_getD]
          omega
        rw [h2]
        rw [List.getD_eq_getElem?_getD]
        congr 2
        omega
    · rw [size_bs, hsz]
      simp [lits]
      omega

/-- a world in which all that is listed is laid meets the condition -/
theorem door_tells (os : Os) (args : Array Value) : laidMetH Tryd.prog Rows.scanTellsRow.laid ((World.laidAll Tryd.prog os Rows.scanTellsRow.laid).forCall (fun _ _ => 0) ⟨#[], args, []⟩).memory := by
  rw [MakeChecks.laidMetH_plain _ _ _ laid_plain]
  exact laidMet_laidAll args (by kernel_rfl) (by kernel_rfl)

theorem scanTells_lifted (os : Os) (started : os.Started) (H : Type) (enc : TypeId × Value → H) :
    ReturnsInHanded {} Tryd.checked os 3 .any (fun w args => (Rows.scanTellsSpec.pre enc Tryd.prog Tryd.f3 [] false w args ∧ laidMetH Tryd.prog Rows.scanTellsRow.laid w) ∧ sizedMet enc Tryd.prog Tryd.f3 (OpenSpec.ofChange Rows.scanTellsSpec) false w args)
      (Rows.scanTellsSpec.post enc Tryd.prog Tryd.f3 false true false false) := by
  refine handed_laid (C := Tryd.checked) (X := fun w => laidMetH Tryd.prog Rows.scanTellsRow.laid w) (fun _ _ hh h => h.of_heap hh) own_knob started (by kernel_rfl) Tryd.func3
    (ChangeSpec.witness_shaped (enc := enc) (C := Tryd.checked) (os := os) (X := fun w _ => laidMetH Tryd.prog Rows.scanTellsRow.laid w) false (World.laidAll Tryd.prog os Rows.scanTellsRow.laid) #[.slice none 0 0] 8 (World.laidAll_os _ _ _) (World.shaped_of_ZipB (by kernel_rfl) (by kernel_rfl)) (by kernel_rfl) (by kernel_rfl) (by kernel_rfl) (door_tells os _)) ?_
  intro W base args ds gs before hval0 hW hsz hL hsh
  have hval : ∀ (j : Nat) t v, Tryd.f3.params[j]? = some t → args[j]? = some v → Value.okWide Tryd.prog W .any base t v := hval0
  have hW' := hW
  obtain ⟨p, q, hA0, hV, rfl, hfz, hnd⟩ := hW
  have hA : DataW.TrodAll enc Tryd.prog W 0 (fun _ => true) true Tryd.f3.params.toList args.toList ds p := hA0
  rw [Tryd.params3] at hA hval
  obtain ⟨v0, d0, rfl, rfl, h0⟩ := trodAll_one hA
  obtain ⟨rfl, rfl⟩ := trodVars_none hV
  have lt0 : ∀ x ∈ p, x.block < W.heap.size := by obtain ⟨m, hm⟩ := h0; exact DataW.trod_lt m _ _ _ hm
  obtain ⟨s, hby, hd⟩ := bytes_arg (hval 0 22 v0 rfl rfl) h0
  have hs : s.size ≤ 140737488355328 := by
    rcases hd with ⟨_, h⟩ | ⟨es, sp, rfl, h⟩
    · omega
    · have h1 := sized_slice hsz (j := 0) (t := 22) (by rw [Tryd.params3]; rfl) rfl byteSlice
      rw [show Tryd.checked.prog.bytesOf 5 = 1 from by kernel_rfl] at h1
      have h2 := reachBytes_lt
      omega
  rw [MakeChecks.laidMetH_plain _ _ _ laid_plain] at hL
  have hB : Base W := base_of hL (by simp [Rows.scanTellsRow]) (by simp [Rows.scanTellsRow]) hsh
  clear hA0 hval0
  refine (tells_any v0 s hs W hby hB).mono fun e W' ⟨he, bel⟩ => ?_
  subst he
  exact ⟨_, rfl, _, _, _, [], _, [], hW', trodAll_mk1 (shut_bool (show Tryd.prog.underlying 4 = some .bool by kernel_rfl) _), trodAll_mk1 (Below.trod laid_out (by kernel_rfl) (of_decide_eq_true (by kernel_rfl)) h0 bel lt0), rfl, bel.frame _, fun h => by cases h⟩

theorem scanTells_over : Rows.ScanTellsSaid :=
  OpenClaim.holds_of_wide 3 Tryd.f3 rfl rfl rfl rfl rfl rfl rfl ⟨rfl, rfl, rfl, rfl, rfl⟩ rfl rfl rfl rfl rfl (by kernel_rfl) Tryd.func3 (by kernel_rfl)
    (of_decide_eq_true (by kernel_rfl)) (by unfold Func.isWrapper; first | (rw [if_pos (by decide +kernel)]; kernel_rfl) | (rw [if_neg (by decide +kernel)]; exact ⟨rfl, rfl⟩))
    (fun os started H enc _ => scanTells_lifted os started H enc)

theorem scanTells_holds : Rows.ScanTellsCardSaid :=
  Claim7.holds_tied_plain_at .later [] [.data, .data, .data, .data, .pinned] true (true, "a6561bb8b4103c5a82c7457e9f51e02e791f545291172f69be17643dfd942eb7") false
    scanTells_over (fun _ h => by cases h) (by kernel_rfl) (fun _ h => by cases h) scanTells_row_tie rfl ⟨rfl, rfl⟩ (by kernel_rfl) rfl
    (fun f fn hf hfn => by
      obtain rfl : f = 3 := Option.some.inj ((show Tryd.prog.funcNamed "filigree/filigreelaw02.ScanTells" = some 3 by kernel_rfl).symm.trans hf) |>.symm
      obtain rfl : fn = Tryd.f3 := (Option.some.inj (Tryd.func3.symm.trans hfn)).symm
      exact ⟨by kernel_rfl, fun j t ht => by
        rw [Tryd.params3] at ht
        have h3 : t = 22 := by
          rcases j with _ | j
          · simpa using ht.symm
          · simp at ht
        subst h3
        exact (show Tryd.prog.wantsStandIn 22 = false by kernel_rfl)⟩)
    (by kernel_rfl)
#print axioms scanTells_holds

end Go.Proofs.YtpabaabkhmjdhaaDoor
