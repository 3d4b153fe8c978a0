/-
  What the frames of the Scan laws share: the wrap with what is laid and the world's shape; what the condition gives; arguments.
-/
import Derived.Test.YtpabaabkhmjdhaaDoorRows
import Derived.Test.YtpabaabkhmjdhaaDoorTie
import Derived.Test.YtpabaabkhmjdhaaDoorCards
import Derived.WalkKit
import Derived.ProofKit
import Derived.OpenShut
import Derived.ShutString
import Derived.ChangeOld
import Derived.Below
import Derived.Carry
import Derived.Lib.SmallJoins
import Derived.Lib.LaidU8
import Derived.LaidMore
import Derived.Lay
import Derived.Shelf.Vars
import Derived.HandedShaped
import Derived.SevenTiedAt
import Derived.Stop.Joined
import Derived.Test.YtpabaabkhmjdhaaDoorU3
namespace Go.Proofs.YtpabaabkhmjdhaaDoor
open Go.ChangeShapes Go.WideShapes Go.ChangeAt Go.RowKit Go.Proofs.Scn
set_option linter.unusedVariables false
set_option linter.unusedSimpArgs false
set_option maxRecDepth 100000

/-- the wrap with both: what is laid, and the world's shape -/
theorem handed_laid {H : Type} {enc : TypeId × Value → H} {C : Checked} {os : Os} {f : FuncId} {fn : Func} {s : ChangeSpec} {apart fresh handsOn again : Bool} {X : World → Prop}
    (hX : ∀ (w w' : World), w.heap = w'.heap → X w → X w')
    (own : ownKnob C.prog.godebug = none) (started : os.Started) (noInit : C.prog.inits.idxOf? f = none) (hfn : C.prog.funcs[f]? = some fn)
    (witness : ∃ (w : World) (tape : Tape) (i : Input), w.os = os ∧ (w.forCall tape i).Shaped C.prog ∧ i.vars = [] ∧ Input.okWide C.prog (w.forCall tape i) .any w.heap.size f i ∧
      ((s.pre enc C.prog fn [] apart (w.forCall tape i).memory i.args ∧ X (w.forCall tape i).memory) ∧ sizedMet enc C.prog fn (OpenSpec.ofChange s) apart (w.forCall tape i).memory i.args) ∧ Assume.holds {} C.prog (lone (Frame.enter C.prog f i.args .normal) [] (w.forCall tape i)))
    (contract : ∀ (W : World) (base : Nat) (args : Array Value) (ds gs : List (DataW H)) (before : List MemPlace),
      (∀ (j : Nat) t v, fn.params[j]? = some t → args[j]? = some v → Value.okWide C.prog W .any base t v) →
      DataW.Whole enc C.prog fn.params.toList s.vars apart W args.toList ds gs before →
      (DataW.weightsEach C.prog (fn.params.toList ++ s.plain.varTypes C.prog) (ds ++ gs)).all (· ≤ reachBytes) = true → X W → W.ShapedOpen C.prog →
      Calls C.prog f args W fun e W' => ∃ v, e = .returned v ∧ s.post enc C.prog fn apart fresh handsOn again W args v W') :
    ReturnsInHanded {} C os f .any (fun w args => (s.pre enc C.prog fn [] apart w args ∧ X w) ∧ sizedMet enc C.prog fn (OpenSpec.ofChange s) apart w args) (s.post enc C.prog fn apart fresh handsOn again) := by
  refine returnsInHanded_of_calls own started noInit witness ?_
  intro w tape i _ hsh _ hok hpre hholds
  obtain ⟨_, _, _, fn', hfn', _, _, _, _, hval⟩ := hok
  have e : fn' = fn := Option.some.inj (hfn'.symm.trans hfn)
  subst e
  obtain ⟨⟨⟨ds, gs, before, hw, hc⟩, hx⟩, hz⟩ := hpre
  have hw' := DataW.Whole.of_heap (w' := w.forCall tape i) (by rfl) hw
  refine (contract (w.forCall tape i) w.heap.size i.args ds gs before hval hw' (hz.weights hw) (hX _ _ (by rfl) hx) hsh).mono fun e W' ⟨v, he, hp⟩ => ?_
  subst he
  exact ChangeSpec.post_blind hp

theorem own_knob : ownKnob Tryd.prog.godebug = none := by kernel_rfl
theorem laid_out : laidOutB Tryd.prog = true := by kernel_rfl
theorem laid_plain : (Rows.scanTellsRow.laid.all fun x => x.2.handleName?.isNone) = true := by kernel_rfl

theorem tab64 : (Rows.laid_math_bits_deBruijn64tab : DataW Unit) = Lib.tabData .u8 (Lib.deBruijn64tab.map fun n : Nat => (n : Int)) := by rfl
theorem tab10 : (Rows.laid_internal_strconv_uint64pow10 : DataW Unit) = Lib.tabData .u64 Lib.pow10Tab := by rfl

theorem base_of {W : World} {L : List (String × DataW Unit)} (h : laidMet Tryd.prog L W) (h64 : ("math/bits.deBruijn64tab", Rows.laid_math_bits_deBruijn64tab) ∈ L) (h10 : ("internal/strconv.uint64pow10", Rows.laid_internal_strconv_uint64pow10) ∈ L) (hsh : W.ShapedOpen Tryd.prog) : Base W := by
  refine ⟨?_, ?_, ?_⟩
  · exact cell_of_shapedOpen_int (t := 3) (zero := #[.int .i64 0]) hsh (of_decide_eq_true (by kernel_rfl)) (by kernel_rfl) rfl (by kernel_rfl) (by kernel_rfl) (by kernel_rfl)
  · obtain ⟨g, t, cs, fuel, p, hg, ht, hv, hd⟩ := Lib.laidMet.reads h h10
    rw [tab10] at hd
    obtain rfl := Option.some.inj ((show Tryd.prog.globalNamed "internal/strconv.uint64pow10" = some 3 by kernel_rfl).symm.trans hg)
    obtain rfl := Option.some.inj ((show (Tryd.prog.globals[3]?).map (·.type) = some 100 by kernel_rfl).symm.trans ht)
    unfold Lib.TabIs
    rw [hv, ← Lib.cells_of_tab (n := 20) (e := 30) (by kernel_rfl) (by kernel_rfl) (by kernel_rfl) (by kernel_rfl) hd]
  · obtain ⟨g, t, cs, fuel, p, hg, ht, hv, hd⟩ := Lib.laidMet.reads h h64
    rw [tab64] at hd
    obtain rfl := Option.some.inj ((show Tryd.prog.globalNamed "math/bits.deBruijn64tab" = some 5 by kernel_rfl).symm.trans hg)
    obtain rfl := Option.some.inj ((show (Tryd.prog.globals[5]?).map (·.type) = some 106 by kernel_rfl).symm.trans ht)
    have htab : Lib.TabIs Tryd.prog W "math/bits.deBruijn64tab" .u8 (Lib.deBruijn64tab.map fun n : Nat => (n : Int)) := by
      unfold Lib.TabIs
      rw [hv, ← Lib.cells_of_tab (n := 64) (e := 5) (by kernel_rfl) (by kernel_rfl) (by kernel_rfl) (by kernel_rfl) hd]
    intro j hj
    have := htab.cell hg j (by simpa using hj)
    rw [this]
    simp [List.getD_eq_getElem?_getD, List.getElem?_eq_getElem hj]

/-- an argument that is a slice of bytes -/
theorem bytes_arg {H : Type} {enc : TypeId × Value → H} {W : World} {b0 : Nat} {v : Value} {d : DataW H} {p : List MemPlace} (hv : Value.okWide Tryd.prog W .any b0 22 v) (h : DataW.Trod enc Tryd.prog W 0 (fun _ => true) true 22 v d p) :
    ∃ s : ByteArray, Bytes W v s ∧ ((d = .nil ∧ s.size = 0) ∨ ∃ es sp, d = .slice es sp ∧ es.length = s.size) := by
  obtain ⟨a, len, cap, rfl⟩ := okWide_slice byteSlice hv
  have hlt : ∀ x ∈ p, x.block < W.heap.size := by obtain ⟨m, hm⟩ := h; exact DataW.trod_lt m _ _ _ hm
  obtain ⟨fuel, hf⟩ := h
  rcases open_ints byteSlice (show Tryd.prog.underlying 5 = some (.int .u8) by kernel_rfl) (by kernel_rfl) hf with ⟨hcs, hx⟩ | ⟨x, l, c, zs, hcs, _, hl, hm, hz, hx, hcell, hwf⟩
  · simp [Value.cells] at hcs
    obtain ⟨rfl, rfl, rfl⟩ := hcs
    simp only [Prod.mk.injEq] at hx
    exact ⟨⟨#[]⟩, .inl ⟨rfl, none, 0, rfl⟩, .inl ⟨hx.1, rfl⟩⟩
  · simp [Value.cells] at hcs
    obtain ⟨rfl, rfl, rfl⟩ := hcs
    simp only [Prod.mk.injEq] at hx
    simp only [if_true] at hz
    have hsz : ((zs.take len).map fun n => UInt8.ofNat n.toNat).length = len := by simp; omega
    refine ⟨bs ((zs.take len).map fun n => UInt8.ofNat n.toNat), ?_, .inr ⟨_, _, hx.1, ?_⟩⟩
    · by_cases h0 : len = 0
      · exact .inl ⟨by rw [size_bs, hsz, h0], some x, cap, by rw [h0]⟩
      · obtain ⟨b, off, spot⟩ := x
        have hsp : spot = none := by
          have := World.cell?_spot (hcell 0 (by omega))
          simpa [Addr.add] using this
        subst hsp
        refine .inr ⟨b, off, cap, by rw [size_bs, hsz], World.block_lt_of_cell? _ _ (hcell 0 (by omega)), fun k hk => ?_⟩
        have hk' : k < len := by rw [size_bs, hsz] at hk; exact hk
        have h1 := hcell k (by omega)
        rw [add_plain] at h1
        rw [h1]
        have hw := hwf (zs.getD k 0) (by rw [List.getD_eq_getElem?_getD, List.getElem?_eq_getElem (by omega)]; exact List.getElem_mem _)
        have hb : (bs ((zs.take len).map fun n => UInt8.ofNat n.toNat))[k] = UInt8.ofNat (zs.getD k 0).toNat := by
          rw [getElem_list]
          simp [bs, List.getD_eq_getElem?_getD, List.getElem?_eq_getElem (show k < zs.length by omega)]
        rw [hb]
        simp [Lit.wf, IntKind.min, IntKind.max, IntKind.signed, IntKind.bits] at hw
        have h2 : (UInt8.ofNat (zs.getD k 0).toNat).toNat = (zs.getD k 0).toNat := by
          rw [UInt8.toNat_ofNat']
          rw [List.getD_eq_getElem?_getD]
          omega
        rw [h2]
        rw [List.getD_eq_getElem?_getD]
        congr 2
        omega
    · rw [size_bs, hsz]
      simp [lits]
      omega

/-- an argument that is a token -/
theorem tok_arg {H : Type} {enc : TypeId × Value → H} {W : World} {b0 : Nat} {v : Value} {d : DataW H} {p : List MemPlace} (hv : Value.okWide Tryd.prog W .any b0 32 v) (h : DataW.Trod enc Tryd.prog W 0 (fun _ => true) true 32 v d p) :
    ∃ (k w q : Int) (S : ByteArray) (n : Nat), v = .agg #[.int .i64 k, .string S, .int .i64 w, .int .u64 n, .int .i64 q] ∧ n < 18446744073709551616 := by
  obtain ⟨cs, rfl, hsz⟩ := okWide_struct Tryd.underlying32 hv
  obtain ⟨fuel, hf⟩ := h
  obtain ⟨xs, n, _, hx, _, hlen, hg⟩ := DataW.trod_struct Tryd.underlying32 hf
  have g0 := hg 0 _ rfl
  have g1 := hg 1 _ rfl
  have g2 := hg 2 _ rfl
  have g3 := hg 3 _ rfl
  have g4 := hg 4 _ rfl
  have e5 : Tryd.prog.cellsOf 32 = 5 := by kernel_rfl
  have k3 : Tryd.prog.cellsOf 3 = 1 := by kernel_rfl
  have k9 : Tryd.prog.cellsOf 9 = 1 := by kernel_rfl
  have k30 : Tryd.prog.cellsOf 30 = 1 := by kernel_rfl
  have k26 : ∀ m (h : m < 5), ∃ y, xs[m]? = some y := fun m h => ⟨xs[m]'(by rw [hlen]; exact h), List.getElem?_eq_getElem _⟩
  obtain ⟨y0, hy0⟩ := k26 0 (by omega)
  obtain ⟨y1, hy1⟩ := k26 1 (by omega)
  obtain ⟨y2, hy2⟩ := k26 2 (by omega)
  obtain ⟨y3, hy3⟩ := k26 3 (by omega)
  obtain ⟨y4, hy4⟩ := k26 4 (by omega)
  rw [e5] at hsz
  obtain ⟨l⟩ := cs
  match l, hsz with
  | [c0, c1, c2, c3, c4], _ =>
    change DataW.trod enc Tryd.prog W 0 (fun _ => true) true n 3 ([c0, c1, c2, c3, c4].take (Tryd.prog.cellsOf 3)) = xs[0]? at g0
    change DataW.trod enc Tryd.prog W 0 (fun _ => true) true n 9 ([c1, c2, c3, c4].take (Tryd.prog.cellsOf 9)) = xs[1]? at g1
    change DataW.trod enc Tryd.prog W 0 (fun _ => true) true n 3 ([c2, c3, c4].take (Tryd.prog.cellsOf 3)) = xs[2]? at g2
    change DataW.trod enc Tryd.prog W 0 (fun _ => true) true n 30 ([c3, c4].take (Tryd.prog.cellsOf 30)) = xs[3]? at g3
    change DataW.trod enc Tryd.prog W 0 (fun _ => true) true n 3 ([c4].take (Tryd.prog.cellsOf 3)) = xs[4]? at g4
    rw [k3, hy0] at g0
    rw [k9, hy1] at g1
    rw [k3, hy2] at g2
    rw [k30, hy3] at g3
    rw [k3, hy4] at g4
    obtain ⟨a0, e0, _, _⟩ := DataW.trod_int (show Tryd.prog.underlying 3 = some (.int .i64) by kernel_rfl) g0
    obtain ⟨a1, e1, _, _⟩ := DataW.trod_string (show Tryd.prog.underlying 9 = some .string by kernel_rfl) g1
    obtain ⟨a2, e2, _, _⟩ := DataW.trod_int (show Tryd.prog.underlying 3 = some (.int .i64) by kernel_rfl) g2
    obtain ⟨a3, e3, _, w3⟩ := DataW.trod_int (show Tryd.prog.underlying 30 = some (.int .u64) by kernel_rfl) g3
    obtain ⟨a4, e4, _, _⟩ := DataW.trod_int (show Tryd.prog.underlying 3 = some (.int .i64) by kernel_rfl) g4
    obtain rfl : c0 = .int .i64 a0 := by simpa using e0
    obtain rfl : c1 = .string a1 := by simpa using e1
    obtain rfl : c2 = .int .i64 a2 := by simpa using e2
    obtain rfl : c3 = .int .u64 a3 := by simpa using e3
    obtain rfl : c4 = .int .i64 a4 := by simpa using e4
    simp [Lit.wf, IntKind.min, IntKind.max, IntKind.signed, IntKind.bits] at w3
    obtain ⟨m, rfl⟩ : ∃ m : Nat, a3 = m := ⟨a3.toNat, by omega⟩
    exact ⟨a0, a2, a4, a1, m, rfl, by omega⟩

end Go.Proofs.YtpabaabkhmjdhaaDoor
