/-
  What the frames of the Wave laws share: the wrap with what is laid and the world's shape; what the condition gives; arguments.
-/
import Derived.Test.YtephnfhjobkciaaGreatDoorRows
import Derived.Test.YtephnfhjobkciaaGreatDoorTie
import Derived.Test.YtephnfhjobkciaaGreatDoorCards
import Derived.WalkKit
import Derived.ProofKit
import Derived.OpenShut
import Derived.ShutString
import Derived.ChangeOld
import Derived.Below
import Derived.Carry
import Derived.Lib.SmallJoins
import Derived.Lib.LaidU8
import Derived.LaidMore
import Derived.LaidLaws
import Derived.Lay
import Derived.Shelf.Vars
import Derived.HandedShaped
import Derived.SevenTiedAt
import Derived.Stop.Joined
import Derived.Deep.Slices
import Derived.Test.YtephnfhjobkciaaGreatDoorQ5
import Derived.Test.YtephnfhjobkciaaGreatDoorQ6

namespace Go.Proofs.YtephnfhjobkciaaGreatDoor
open Go.ChangeShapes Go.WideShapes Go.ChangeAt Go.RowKit Go.Proofs.Scn Go.Proofs.Wav Go.Shelf
set_option linter.unusedVariables false
set_option linter.unusedSimpArgs false
set_option maxRecDepth 100000

/-- the wrap with both: what is laid, and the world's shape -/
theorem handed_laid {H : Type} {enc : TypeId × Value → H} {C : Checked} {os : Os} {f : FuncId} {fn : Func} {s : ChangeSpec} {apart fresh handsOn again : Bool} {X : World → Prop}
    (hX : ∀ (w w' : World), w.heap = w'.heap → X w → X w')
    (own : ownKnob C.prog.godebug = none) (started : os.Started) (noInit : C.prog.inits.idxOf? f = none) (hfn : C.prog.funcs[f]? = some fn)
    (witness : ∃ (w : World) (tape : Tape) (i : Input), w.os = os ∧ (w.forCall tape i).Shaped C.prog ∧ i.vars = [] ∧ Input.okWide C.prog (w.forCall tape i) .any w.heap.size f i ∧
      ((s.pre enc C.prog fn [] apart (w.forCall tape i).memory i.args ∧ X (w.forCall tape i).memory) ∧ sizedMet enc C.prog fn (OpenSpec.ofChange s) apart (w.forCall tape i).memory i.args) ∧ Assume.holds {} C.prog (lone (Frame.enter C.prog f i.args .normal) [] (w.forCall tape i)))
    (contract : ∀ (W : World) (base : Nat) (args : Array Value) (ds gs : List (DataW H)) (before : List MemPlace),
      (∀ (j : Nat) t v, fn.params[j]? = some t → args[j]? = some v → Value.okWide C.prog W .any base t v) →
      DataW.Whole enc C.prog fn.params.toList s.vars apart W args.toList ds gs before →
      (DataW.weightsEach C.prog (fn.params.toList ++ s.plain.varTypes C.prog) (ds ++ gs)).all (· ≤ reachBytes) = true → X W → W.ShapedOpen C.prog →
      Calls C.prog f args W fun e W' => ∃ v, e = .returned v ∧ s.post enc C.prog fn apart fresh handsOn again W args v W') :
    ReturnsInHanded {} C os f .any (fun w args => (s.pre enc C.prog fn [] apart w args ∧ X w) ∧ sizedMet enc C.prog fn (OpenSpec.ofChange s) apart w args) (s.post enc C.prog fn apart fresh handsOn again) := by
  refine returnsInHanded_of_calls own started noInit witness ?_
  intro w tape i _ hsh _ hok hpre hholds
  obtain ⟨_, _, _, fn', hfn', _, _, _, _, hval⟩ := hok
  have e : fn' = fn := Option.some.inj (hfn'.symm.trans hfn)
  subst e
  obtain ⟨⟨⟨ds, gs, before, hw, hc⟩, hx⟩, hz⟩ := hpre
  have hw' := DataW.Whole.of_heap (w' := w.forCall tape i) (by rfl) hw
  refine (contract (w.forCall tape i) w.heap.size i.args ds gs before hval hw' (hz.weights hw) (hX _ _ (by rfl) hx) hsh).mono fun e W' ⟨v, he, hp⟩ => ?_
  subst he
  exact ChangeSpec.post_blind hp

theorem own_knob : ownKnob Tryz.prog.godebug = none := by kernel_rfl
theorem laid_out : laidOutB Tryz.prog = true := by kernel_rfl

theorem tab64 : (Rows.laid_math_bits_deBruijn64tab : DataW Unit) = Lib.tabData .u8 (Lib.deBruijn64tab.map fun n : Nat => (n : Int)) := by rfl
theorem tab10 : (Rows.laid_internal_strconv_uint64pow10 : DataW Unit) = Lib.tabData .u64 Lib.pow10Tab := by rfl
theorem var_cell {W : World} {n : String} {g : Nat} {cs : Array Value} {v : Value} (hg : Tryz.prog.globalNamed n = some g) (hv : W.var? Tryz.prog n = some cs) (hc : cs.toList = [v]) : W.cell? ⟨g, 0, none⟩ = some v := by
  unfold World.var? at hv
  rw [hg] at hv
  simp only [Option.bind_some] at hv
  split at hv
  · rename_i cs' e fr h
    simp only [Option.some.injEq] at hv
    subst hv
    rw [cell_of_row W g 0 _ e fr h, ← Array.getElem?_toList, hc]
    rfl
  · cases hv

theorem base_of {W : World} {L : List (String × DataW Unit)} (h : laidMet Tryz.prog L W) (h64 : ("math/bits.deBruijn64tab", Rows.laid_math_bits_deBruijn64tab) ∈ L) (h10 : ("internal/strconv.uint64pow10", Rows.laid_internal_strconv_uint64pow10) ∈ L)
    (hs : ("strconv.ErrSyntax", Rows.laid_strconv_ErrSyntax) ∈ L) (hr : ("strconv.ErrRange", Rows.laid_strconv_ErrRange) ∈ L) (hsh : W.ShapedOpen Tryz.prog) : Base W := by
  refine ⟨?_, ?_, ?_, ?_, ?_⟩
  · exact cell_of_shapedOpen_int (t := 3) (zero := #[.int .i64 0]) hsh (of_decide_eq_true (by kernel_rfl)) (by kernel_rfl) rfl (by kernel_rfl) (by kernel_rfl) (by kernel_rfl)
  · obtain ⟨g, t, cs, fuel, p, hg, ht, hv, hd⟩ := Lib.laidMet.reads h h10
    rw [tab10] at hd
    obtain rfl := Option.some.inj ((show Tryz.prog.globalNamed "internal/strconv.uint64pow10" = some 1 by kernel_rfl).symm.trans hg)
    obtain rfl := Option.some.inj ((show (Tryz.prog.globals[1]?).map (·.type) = some 147 by kernel_rfl).symm.trans ht)
    unfold Lib.TabIs
    rw [hv, ← Lib.cells_of_tab (n := 20) (e := 33) (by kernel_rfl) (by kernel_rfl) (by kernel_rfl) (by kernel_rfl) hd]
  · obtain ⟨g, t, cs, fuel, p, hg, ht, hv, hd⟩ := Lib.laidMet.reads h h64
    rw [tab64] at hd
    obtain rfl := Option.some.inj ((show Tryz.prog.globalNamed "math/bits.deBruijn64tab" = some 6 by kernel_rfl).symm.trans hg)
    obtain rfl := Option.some.inj ((show (Tryz.prog.globals[6]?).map (·.type) = some 170 by kernel_rfl).symm.trans ht)
    have htab : Lib.TabIs Tryz.prog W "math/bits.deBruijn64tab" .u8 (Lib.deBruijn64tab.map fun n : Nat => (n : Int)) := by
      unfold Lib.TabIs
      rw [hv, ← Lib.cells_of_tab (n := 64) (e := 5) (by kernel_rfl) (by kernel_rfl) (by kernel_rfl) (by kernel_rfl) hd]
    intro j hj
    have := htab.cell hg j (by simpa using hj)
    rw [this]
    simp [List.getD_eq_getElem?_getD, List.getElem?_eq_getElem hj]
  · obtain ⟨g, t, cs, fuel, p, hg, ht, hv, hd⟩ := Lib.laidMet.reads h hs
    obtain rfl := Option.some.inj ((show Tryz.prog.globalNamed "strconv.ErrSyntax" = some 2 by kernel_rfl).symm.trans hg)
    obtain rfl := Option.some.inj ((show (Tryz.prog.globals[2]?).map (·.type) = some 59 by kernel_rfl).symm.trans ht)
    obtain ⟨_, u, v, hc, _, _⟩ := iface_of_trod Tryz.underlying59 hd
    exact ⟨u, v, var_cell hg hv hc⟩
  · obtain ⟨g, t, cs, fuel, p, hg, ht, hv, hd⟩ := Lib.laidMet.reads h hr
    obtain rfl := Option.some.inj ((show Tryz.prog.globalNamed "strconv.ErrRange" = some 3 by kernel_rfl).symm.trans hg)
    obtain rfl := Option.some.inj ((show (Tryz.prog.globals[3]?).map (·.type) = some 59 by kernel_rfl).symm.trans ht)
    obtain ⟨_, u, v, hc, _, _⟩ := iface_of_trod Tryz.underlying59 hd
    exact ⟨u, v, var_cell hg hv hc⟩

/-- the cells of a slice -/
theorem slice_cells {H : Type} {enc : TypeId × Value → H} {W : World} {n : Nat} {t e : TypeId} {m : Nat} {c0 : Value} {y : DataW H × List MemPlace} (ht : Tryz.prog.underlying t = some (.slice e)) (he : Tryz.prog.cellsOf e = m) (hm0 : 0 < m)
    (hf : DataW.trod enc Tryz.prog W 0 (fun _ => true) true n t [c0] = some y) {Q : List Value → Prop} (hQ : ∀ n' cs y', DataW.trod enc Tryz.prog W 0 (fun _ => true) true n' e cs = some y' → Q cs) :
    ∃ q len cap, c0 = .slice q len cap ∧ len ≤ cap ∧ (len = 0 ∨ ∃ b off, q = some ⟨b, off, none⟩ ∧ b < W.heap.size ∧ ∀ i, i < len → ∃ cs, cs.length = m ∧ Q cs ∧ ∀ j, j < m → W.cell? ⟨b, off + i * m + j, none⟩ = cs[j]?) := by
  rcases Deep.open_slice ht hf with ⟨hcs, _⟩ | ⟨x, l, c, k, n', D, Pl, hcs, _, hl, hk, hkk, hx, hcell⟩
  · simp at hcs
    exact ⟨_, _, _, hcs, Nat.le_refl _, .inl rfl⟩
  · simp at hcs
    subst hcs
    simp only [if_true] at hkk
    refine ⟨_, l, c, rfl, hl, ?_⟩
    by_cases h0 : l = 0
    · exact .inl h0
    right
    have each : ∀ i, i < l → ∃ cs, cs.length = m ∧ Q cs ∧ ∀ j, j < m → W.cell? ((x.add (i * m)).add j) = cs[j]? := by
      intro i hi
      obtain ⟨cs', h1, h2⟩ := hcell i (by omega)
      rw [he] at h1
      obtain ⟨_, hlen, hc⟩ := World.cells?_some h1
      exact ⟨cs', hlen, hQ _ _ _ h2, hc⟩
    obtain ⟨b, off, spot⟩ := x
    have hsp : spot = none := by
      obtain ⟨cs, h1, _, h3⟩ := each 0 (by omega)
      have h4 := h3 0 hm0
      rw [List.getElem?_eq_getElem (by omega)] at h4
      have := World.cell?_spot h4
      simpa [Addr.add] using this
    subst hsp
    have each' : ∀ i, i < l → ∃ cs, cs.length = m ∧ Q cs ∧ ∀ j, j < m → W.cell? ⟨b, off + i * m + j, none⟩ = cs[j]? := by
      intro i hi
      obtain ⟨cs, h1, h2, h3⟩ := each i hi
      refine ⟨cs, h1, h2, fun j hj => ?_⟩
      have := h3 j hj
      rw [add_plain, add_plain] at this
      exact this
    refine ⟨b, off, rfl, ?_, each'⟩
    obtain ⟨cs, h1, _, h3⟩ := each' 0 (by omega)
    have h4 := h3 0 hm0
    rw [List.getElem?_eq_getElem (by omega)] at h4
    exact World.block_lt_of_cell? _ _ h4
/-- a slice of elements of one cell -/
theorem slc_one {α : Type} [Inhabited α] {W : World} {c0 : Value} {f : α → Value} {P : α → Prop} {q : Option Addr} {len cap : Nat} (h0 : c0 = .slice q len cap) (hle : len ≤ cap)
    (h : len = 0 ∨ ∃ b off, q = some ⟨b, off, none⟩ ∧ b < W.heap.size ∧ ∀ i, i < len → ∃ cs, cs.length = 1 ∧ (∃ a, cs = [f a] ∧ P a) ∧ ∀ j, j < 1 → W.cell? ⟨b, off + i * 1 + j, none⟩ = cs[j]?) :
    ∃ l : List α, Slc W 1 c0 l.length (l.map f) ∧ (∀ a ∈ l, P a) ∧ Capd c0 l.length := by
  subst h0
  rcases h with rfl | ⟨b, off, rfl, hlt, hc⟩
  · exact ⟨[], ⟨rfl, .inl ⟨rfl, q, cap, rfl⟩⟩, fun _ h => (by cases h), q, cap, rfl, Nat.zero_le _⟩
  · have each : ∀ i, i < len → ∃ a, W.cell? ⟨b, off + i, none⟩ = some (f a) ∧ P a := by
      intro i hi
      obtain ⟨cs, _, ⟨a, rfl, ha⟩, h3⟩ := hc i hi
      have := h3 0 (by omega)
      rw [Nat.mul_one, Nat.add_zero] at this
      exact ⟨a, this, ha⟩
    obtain ⟨T, hT⟩ := Deep.choose_lt each
    refine ⟨(List.range len).map T, ⟨by simp, .inr ⟨b, off, cap, by simp, hlt, fun j hj => ?_⟩⟩, fun a ha => ?_, some ⟨b, off, none⟩, cap, by simp, by simpa using hle⟩
    · have hj' : j < len := by simpa using hj
      rw [(hT j hj').1]
      simp [hj']
    · obtain ⟨i, hi, rfl⟩ := List.mem_map.1 ha
      exact (hT i (List.mem_range.1 hi)).2
/-- a slice of changes -/
theorem slc_chg {W : World} {c0 : Value} {P : Chg → Prop} {q : Option Addr} {len cap : Nat} (h0 : c0 = .slice q len cap) (hle : len ≤ cap)
    (h : len = 0 ∨ ∃ b off, q = some ⟨b, off, none⟩ ∧ b < W.heap.size ∧ ∀ i, i < len → ∃ cs, cs.length = 3 ∧ (∃ a, cs = chgV a ∧ P a) ∧ ∀ j, j < 3 → W.cell? ⟨b, off + i * 3 + j, none⟩ = cs[j]?) :
    ∃ l : List Chg, Chgs W c0 l ∧ (∀ a ∈ l, P a) ∧ Capd c0 l.length := by
  subst h0
  rcases h with rfl | ⟨b, off, rfl, hlt, hc⟩
  · exact ⟨[], ⟨rfl, .inl ⟨rfl, q, cap, rfl⟩⟩, fun _ h => (by cases h), q, cap, rfl, Nat.zero_le _⟩
  · have each : ∀ i, i < len → ∃ a, (∀ j, j < 3 → W.cell? ⟨b, off + i * 3 + j, none⟩ = (chgV a)[j]?) ∧ P a := by
      intro i hi
      obtain ⟨cs, _, ⟨a, rfl, ha⟩, h3⟩ := hc i hi
      exact ⟨a, h3, ha⟩
    obtain ⟨T, hT⟩ := Deep.choose_lt each
    refine ⟨(List.range len).map T, ⟨by rw [chgsV_length], .inr ⟨b, off, cap, by simp, hlt, fun j hj => ?_⟩⟩, fun a ha => ?_, some ⟨b, off, none⟩, cap, by simp, by simpa using hle⟩
    · have hl : ((List.range len).map T).length = len := by simp
      rw [hl] at hj
      have hk : j / 3 < len := by omega
      have hr : j % 3 < 3 := Nat.mod_lt _ (by omega)
      have e : j = j / 3 * 3 + j % 3 := by omega
      have h1 := chgsV_at ((List.range len).map T) (j / 3) (j % 3) (by rw [hl]; exact hk) hr
      rw [← e] at h1
      rw [h1]
      have h2 := (hT (j / 3) hk).1 (j % 3) hr
      rw [Nat.add_assoc, ← e] at h2
      rw [h2]
      simp
    · obtain ⟨i, hi, rfl⟩ := List.mem_map.1 ha
      exact (hT i (List.mem_range.1 hi)).2
section
variable {H : Type} {enc : TypeId × Value → H} {W : World}
theorem str_el (n : Nat) (cs : List Value) (y : DataW H × List MemPlace) (h : DataW.trod enc Tryz.prog W 0 (fun _ => true) true n 9 cs = some y) : ∃ a : Ln, cs = [strV a] ∧ True := by
  obtain ⟨a, e, _, _⟩ := DataW.trod_string (show Tryz.prog.underlying 9 = some .string by kernel_rfl) h
  exact ⟨a.data.toList, e, trivial⟩
theorem int_el (n : Nat) (cs : List Value) (y : DataW H × List MemPlace) (h : DataW.trod enc Tryz.prog W 0 (fun _ => true) true n 3 cs = some y) : ∃ a : Int, cs = [intV a] ∧ (-9223372036854775808 ≤ a ∧ a ≤ 9223372036854775807) := by
  obtain ⟨a, e, _, wf⟩ := DataW.trod_int (show Tryz.prog.underlying 3 = some (.int .i64) by kernel_rfl) h
  simp [Lit.wf, IntKind.min, IntKind.max, IntKind.signed, IntKind.bits] at wf
  exact ⟨a, e, by omega, by omega⟩
theorem u64_el (n : Nat) (cs : List Value) (y : DataW H × List MemPlace) (h : DataW.trod enc Tryz.prog W 0 (fun _ => true) true n 33 cs = some y) : ∃ a : Nat, cs = [u64V a] ∧ a < 18446744073709551616 := by
  obtain ⟨a, e, _, wf⟩ := DataW.trod_int (show Tryz.prog.underlying 33 = some (.int .u64) by kernel_rfl) h
  simp [Lit.wf, IntKind.min, IntKind.max, IntKind.signed, IntKind.bits] at wf
  obtain ⟨m, rfl⟩ : ∃ m : Nat, a = m := ⟨a.toNat, by omega⟩
  exact ⟨m, e, by omega⟩
theorem chg_el (n : Nat) (cs : List Value) (y : DataW H × List MemPlace) (h : DataW.trod enc Tryz.prog W 0 (fun _ => true) true n 50 cs = some y) : ∃ c : Chg, cs = chgV c ∧ (-9223372036854775808 ≤ c.g ∧ c.g ≤ 9223372036854775807) ∧ c.v < 18446744073709551616 := by
  obtain ⟨xs, n', _, hx, hsz, hlen, hg⟩ := DataW.trod_struct Tryz.underlying50 h
  have g0 := hg 0 _ rfl
  have g1 := hg 1 _ rfl
  have g2 := hg 2 _ rfl
  have e3 : Tryz.prog.cellsOf 50 = 3 := by kernel_rfl
  have k3 : Tryz.prog.cellsOf 3 = 1 := by kernel_rfl
  have k30 : Tryz.prog.cellsOf 33 = 1 := by kernel_rfl
  have k26 : ∀ m (h : m < 3), ∃ y, xs[m]? = some y := fun m h => ⟨xs[m]'(by rw [hlen]; exact h), List.getElem?_eq_getElem _⟩
  obtain ⟨y0, hy0⟩ := k26 0 (by omega)
  obtain ⟨y1, hy1⟩ := k26 1 (by omega)
  obtain ⟨y2, hy2⟩ := k26 2 (by omega)
  rw [e3] at hsz
  match cs, hsz with
  | [c0, c1, c2], _ =>
    change DataW.trod enc Tryz.prog W 0 (fun _ => true) true n' 3 ([c0, c1, c2].take (Tryz.prog.cellsOf 3)) = xs[0]? at g0
    change DataW.trod enc Tryz.prog W 0 (fun _ => true) true n' 3 ([c1, c2].take (Tryz.prog.cellsOf 3)) = xs[1]? at g1
    change DataW.trod enc Tryz.prog W 0 (fun _ => true) true n' 33 ([c2].take (Tryz.prog.cellsOf 33)) = xs[2]? at g2
    rw [k3, hy0] at g0
    rw [k3, hy1] at g1
    rw [k30, hy2] at g2
    obtain ⟨a0, e0, _⟩ := int_el _ _ _ g0
    obtain ⟨a1, e1, w1⟩ := int_el _ _ _ g1
    obtain ⟨a2, e2, w2⟩ := u64_el _ _ _ g2
    obtain rfl : c0 = intV a0 := by simpa using e0
    obtain rfl : c1 = intV a1 := by simpa using e1
    obtain rfl : c2 = u64V a2 := by simpa using e2
    exact ⟨⟨a0, a1, a2⟩, rfl, w1, w2⟩
theorem strs_cells {n : Nat} {c0 : Value} {y : DataW H × List MemPlace} (h : DataW.trod enc Tryz.prog W 0 (fun _ => true) true n 22 [c0] = some y) : ∃ l : List Ln, Strs W c0 l ∧ Capd c0 l.length := by
  obtain ⟨q, len, cap, h0, hle, hc⟩ := slice_cells strsSlice (show Tryz.prog.cellsOf 9 = 1 by kernel_rfl) (by omega) h str_el
  obtain ⟨l, h1, _, h2⟩ := slc_one h0 hle hc
  exact ⟨l, h1, h2⟩
theorem ints_cells {n : Nat} {c0 : Value} {y : DataW H × List MemPlace} (h : DataW.trod enc Tryz.prog W 0 (fun _ => true) true n 23 [c0] = some y) : ∃ l : List Int, Ints W c0 l ∧ Capd c0 l.length := by
  obtain ⟨q, len, cap, h0, hle, hc⟩ := slice_cells intsSlice (show Tryz.prog.cellsOf 3 = 1 by kernel_rfl) (by omega) h int_el
  obtain ⟨l, h1, _, h2⟩ := slc_one h0 hle hc
  exact ⟨l, h1, h2⟩
theorem u64s_cells {n : Nat} {c0 : Value} {y : DataW H × List MemPlace} (h : DataW.trod enc Tryz.prog W 0 (fun _ => true) true n 52 [c0] = some y) : ∃ l : List Nat, U64s W c0 l ∧ ∀ x ∈ l, x < 18446744073709551616 := by
  obtain ⟨q, len, cap, h0, hle, hc⟩ := slice_cells u64sSlice (show Tryz.prog.cellsOf 33 = 1 by kernel_rfl) (by omega) h u64_el
  obtain ⟨l, h1, h2, _⟩ := slc_one h0 hle hc
  exact ⟨l, h1, h2⟩
theorem chgs_cells {n : Nat} {c0 : Value} {y : DataW H × List MemPlace} (h : DataW.trod enc Tryz.prog W 0 (fun _ => true) true n 24 [c0] = some y) : ∃ l : List Chg, Chgs W c0 l ∧ (∀ c ∈ l, (-9223372036854775808 ≤ c.g ∧ c.g ≤ 9223372036854775807) ∧ c.v < 18446744073709551616) ∧ Capd c0 l.length := by
  obtain ⟨q, len, cap, h0, hle, hc⟩ := slice_cells chgsSlice (show Tryz.prog.cellsOf 50 = 3 by kernel_rfl) (by omega) h chg_el
  exact slc_chg h0 hle hc
theorem row_el (n : Nat) (cs : List Value) (y : DataW H × List MemPlace) (h : DataW.trod enc Tryz.prog W 0 (fun _ => true) true n 52 cs = some y) : ∃ a : Value, cs = [a] ∧ ∃ r : List Nat, U64s W a r ∧ ∀ x ∈ r, x < 18446744073709551616 := by
  have hl : ∃ c0, cs = [c0] := by
    rcases Deep.open_slice u64sSlice h with ⟨hcs, _⟩ | ⟨x, l, c, k, n', D, Pl, hcs, _⟩
    · exact ⟨_, hcs⟩
    · exact ⟨_, hcs⟩
  obtain ⟨c0, rfl⟩ := hl
  obtain ⟨l, h1, h2⟩ := u64s_cells h
  exact ⟨c0, rfl, l, h1, h2⟩
theorem rows_cells {n : Nat} {c0 : Value} {y : DataW H × List MemPlace} (h : DataW.trod enc Tryz.prog W 0 (fun _ => true) true n 38 [c0] = some y) : ∃ rows : List (List Nat), Rws W c0 rows ∧ (∀ r ∈ rows, ∀ x ∈ r, x < 18446744073709551616) ∧ Capd c0 rows.length := by
  obtain ⟨q, len, cap, h0, hle, hc⟩ := slice_cells (show Tryz.prog.underlying 38 = some (.slice 52) by kernel_rfl) (show Tryz.prog.cellsOf 52 = 1 by kernel_rfl) (by omega) h row_el
  obtain ⟨vs, h1, h2, h3⟩ := slc_one (f := fun v : Value => v) h0 hle hc
  rw [List.map_id'] at h1
  have each : ∀ i, i < vs.length → ∃ r : List Nat, (∀ (hi : i < vs.length), U64s W vs[i] r) ∧ ∀ x ∈ r, x < 18446744073709551616 := by
    intro i hi
    obtain ⟨r, hr1, hr2⟩ := h2 vs[i] (List.getElem_mem hi)
    exact ⟨r, fun _ => hr1, hr2⟩
  obtain ⟨T, hT⟩ := Deep.choose_lt each
  refine ⟨(List.range vs.length).map T, ⟨vs, by simp, by simpa using h1, fun k hk hk' => ?_⟩, fun r hr => ?_, by simpa using h3⟩
  · have := (hT k hk').1 hk'
    simpa using this
  · obtain ⟨i, hi, rfl⟩ := List.mem_map.1 hr
    exact (hT i (List.mem_range.1 hi)).2
/-- an argument that is a wave -/
theorem wave_arg {b0 : Nat} {v : Value} {d : DataW H} {p : List MemPlace} (hv : Value.okWide Tryz.prog W .any b0 26 v) (h : DataW.Trod enc Tryz.prog W 0 (fun _ => true) true 26 v d p) :
    ∃ (vn vw vc : Value) (x : Wv), v = .agg #[vn, vw, vc, .int .i64 x.last] ∧ WavAt W vn vw vc x ∧ Fits x ∧ Capd vc x.chs.length := by
  obtain ⟨cs, rfl, hsz⟩ := okWide_struct Tryz.underlying26 hv
  obtain ⟨fuel, hf⟩ := h
  obtain ⟨xs, n, _, hx, _, hlen, hg⟩ := DataW.trod_struct Tryz.underlying26 hf
  have g0 := hg 0 _ rfl
  have g1 := hg 1 _ rfl
  have g2 := hg 2 _ rfl
  have g3 := hg 3 _ rfl
  have e4 : Tryz.prog.cellsOf 26 = 4 := by kernel_rfl
  have k0 : Tryz.prog.cellsOf 22 = 1 := by kernel_rfl
  have k1 : Tryz.prog.cellsOf 23 = 1 := by kernel_rfl
  have k2 : Tryz.prog.cellsOf 24 = 1 := by kernel_rfl
  have k3 : Tryz.prog.cellsOf 3 = 1 := by kernel_rfl
  have k26 : ∀ m (h : m < 4), ∃ y, xs[m]? = some y := fun m h => ⟨xs[m]'(by rw [hlen]; exact h), List.getElem?_eq_getElem _⟩
  obtain ⟨y0, hy0⟩ := k26 0 (by omega)
  obtain ⟨y1, hy1⟩ := k26 1 (by omega)
  obtain ⟨y2, hy2⟩ := k26 2 (by omega)
  obtain ⟨y3, hy3⟩ := k26 3 (by omega)
  rw [e4] at hsz
  obtain ⟨l⟩ := cs
  match l, hsz with
  | [c0, c1, c2, c3], _ =>
    change DataW.trod enc Tryz.prog W 0 (fun _ => true) true n 22 ([c0, c1, c2, c3].take (Tryz.prog.cellsOf 22)) = xs[0]? at g0
    change DataW.trod enc Tryz.prog W 0 (fun _ => true) true n 23 ([c1, c2, c3].take (Tryz.prog.cellsOf 23)) = xs[1]? at g1
    change DataW.trod enc Tryz.prog W 0 (fun _ => true) true n 24 ([c2, c3].take (Tryz.prog.cellsOf 24)) = xs[2]? at g2
    change DataW.trod enc Tryz.prog W 0 (fun _ => true) true n 3 ([c3].take (Tryz.prog.cellsOf 3)) = xs[3]? at g3
    rw [k0, hy0] at g0
    rw [k1, hy1] at g1
    rw [k2, hy2] at g2
    rw [k3, hy3] at g3
    obtain ⟨ns, hn, _⟩ := strs_cells g0
    obtain ⟨ws, hw, _⟩ := ints_cells g1
    obtain ⟨ch, hc, hcf, hcap⟩ := chgs_cells g2
    obtain ⟨a3, e3, _⟩ := int_el _ _ _ g3
    obtain rfl : c3 = intV a3 := by simpa using e3
    exact ⟨c0, c1, c2, ⟨ns, ws, ch, a3⟩, rfl, ⟨hn, hw, hc⟩, ⟨fun c hc => (hcf c hc).1, fun c hc => (hcf c hc).2⟩, hcap⟩
/-- arguments that are slices -/
theorem slice_arg {b0 : Nat} {t e : TypeId} {v : Value} {d : DataW H} {p : List MemPlace} (ht : Tryz.prog.underlying t = some (.slice e)) (hv : Value.okWide Tryz.prog W .any b0 t v) (h : DataW.Trod enc Tryz.prog W 0 (fun _ => true) true t v d p) :
    ∃ n, DataW.trod enc Tryz.prog W 0 (fun _ => true) true n t [v] = some (d, p) := by
  obtain ⟨a, len, cap, rfl⟩ := okWide_slice ht hv
  obtain ⟨fuel, hf⟩ := h
  exact ⟨fuel, hf⟩
end
theorem u8_el {H : Type} {enc : TypeId × Value → H} {W : World} (n : Nat) (cs : List Value) (y : DataW H × List MemPlace) (h : DataW.trod enc Tryz.prog W 0 (fun _ => true) true n 5 cs = some y) : ∃ a : UInt8, cs = [.int .u8 a.toNat] ∧ True := by
  obtain ⟨a, e, _, wf⟩ := DataW.trod_int (show Tryz.prog.underlying 5 = some (.int .u8) by kernel_rfl) h
  simp [Lit.wf, IntKind.min, IntKind.max, IntKind.signed, IntKind.bits] at wf
  refine ⟨UInt8.ofNat a.toNat, ?_, trivial⟩
  rw [e]
  have : (UInt8.ofNat a.toNat).toNat = a.toNat := by rw [UInt8.toNat_ofNat']; omega
  rw [this]
  congr 2
  omega
theorem bytes_cells {H : Type} {enc : TypeId × Value → H} {W : World} {n : Nat} {c0 : Value} {y : DataW H × List MemPlace} (h : DataW.trod enc Tryz.prog W 0 (fun _ => true) true n 29 [c0] = some y) : ∃ b : Ln, Bytes W c0 (bs b) ∧ Capd c0 b.length := by
  obtain ⟨q, len, cap, h0, hle, hc⟩ := slice_cells byteSlice (show Tryz.prog.cellsOf 5 = 1 by kernel_rfl) (by omega) h u8_el
  obtain ⟨l, h1, _, h2⟩ := slc_one (f := fun a : UInt8 => Value.int .u8 a.toNat) h0 hle hc
  refine ⟨l, ?_, h2⟩
  rcases h1.2 with ⟨h3, p, c, rfl⟩ | ⟨b, off, c, rfl, hlt, h4⟩
  · exact .inl ⟨by rw [size_bs, h3], p, c, rfl⟩
  · refine .inr ⟨b, off, c, rfl, hlt, fun k hk => ?_⟩
    have hk' : k < l.length := hk
    rw [h4 k (by omega)]
    simp only [List.getElem?_map, List.getElem?_eq_getElem hk', Option.map_some]
    rfl
end Go.Proofs.YtephnfhjobkciaaGreatDoor
