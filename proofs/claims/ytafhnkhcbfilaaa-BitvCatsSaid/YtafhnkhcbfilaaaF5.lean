/-
  For every input the law BitvCats returns true and its arguments read as before: any values one behind the other are what the reference answers. No condition.
-/
import Derived.Test.YtafhnkhcbfilaaaRows
import Derived.WalkKit
import Derived.ProofKit
import Derived.OpenShut
import Derived.ShutString
import Derived.ChangeOld
import Derived.Below
import Derived.Carry
import Derived.Lib.SmallJoins
import Derived.Deep.SlicePairs
import Derived.Test.YtafhnkhcbfilaaaD3
namespace Go.Proofs.Ytafhnkhcbfilaaa
open Go.ChangeShapes Go.WideShapes Go.ChangeAt Go.RowKit
set_option linter.unusedVariables false
set_option linter.unusedSimpArgs false

theorem bitvCats_own : ownKnob Try.prog.godebug = none := by kernel_rfl
theorem bitvCats_laidOut : laidOutB Try.prog = true := by kernel_rfl

theorem bitvCats_u64 {a : Int} (h : (Lit.int .u64 a).wf = true) : ∃ n : Nat, a = n ∧ n < 18446744073709551616 := by
  simp [Lit.wf, IntKind.min, IntKind.max, IntKind.signed, IntKind.bits] at h
  exact ⟨a.toNat, by omega, by omega⟩
theorem bitvCats_u8 {a : Int} (h : (Lit.int .u8 a).wf = true) : ∃ n : Nat, a = n ∧ n < 256 := by
  simp [Lit.wf, IntKind.min, IntKind.max, IntKind.signed, IntKind.bits] at h
  exact ⟨a.toNat, by omega, by omega⟩

theorem bitvCats_bits {H : Type} {enc : TypeId × Value → H} {W : World} {b0 : Nat} {v : Value} {d : DataW H} {p : List MemPlace} (hv : Value.okWide Try.prog W .any b0 24 v) (h : DataW.Trod enc Try.prog W 0 (fun _ => true) true 24 v d p) :
    ∃ (w : Int) (n : Nat), v = .agg #[.int .i64 w, .int .u64 n] ∧ n < 18446744073709551616 := by
  obtain ⟨v0, v1, y0, y1, m, rfl, _, _, h0, h1⟩ := Joins.open_agg2 Try.underlying24 (by kernel_rfl) (by kernel_rfl) hv h
  obtain ⟨a, e0, _, _⟩ := DataW.trod_int Try.underlying3 h0
  obtain ⟨c, e1, _, wc⟩ := DataW.trod_int Try.underlying22 h1
  obtain rfl : v0 = .int .i64 a := by simpa using e0
  obtain rfl : v1 = .int .u64 c := by simpa using e1
  obtain ⟨n, rfl, hn⟩ := bitvCats_u64 wc
  exact ⟨a, n, rfl, hn⟩

theorem bitvCats_slice {H : Type} {enc : TypeId × Value → H} {W : World} {b0 : Nat} {v : Value} {d : DataW H} {p : List MemPlace} (hv : Value.okWide Try.prog W .any b0 34 v) (h : DataW.Trod enc Try.prog W 0 (fun _ => true) true 34 v d p) :
    SliceIn W v := by
  obtain ⟨a, len, cap, rfl⟩ := okWide_slice Try.underlying34 hv
  have hp := h
  obtain ⟨fuel, hf⟩ := h
  rcases Go.Deep.open_slice_pairs Try.underlying34 Try.underlying24 (by kernel_rfl) rfl rfl (by kernel_rfl) (by kernel_rfl) hf with ⟨hcs, _⟩ | ⟨x, l, c, m, n, V0, V1, D0, D1, P0, P1, hcs, _, hl, hm, hmm, hx, hcell⟩
  · simp [Value.cells] at hcs
    obtain ⟨rfl, rfl, rfl⟩ := hcs
    exact .inl rfl
  · simp [Value.cells] at hcs
    obtain ⟨rfl, rfl, rfl⟩ := hcs
    right
    simp only [if_true] at hmm
    subst hmm
    have key : ∀ i, i < m → ∃ (w : Int) (n : Nat), W.cell? (x.add (i * 2)) = some (.int .i64 w) ∧ W.cell? (x.add (i * 2 + 1)) = some (.int .u64 n) ∧ n < 18446744073709551616 := by
      intro i hi
      obtain ⟨c0, c1, t0, t1⟩ := hcell i hi
      obtain ⟨a, e0, _, _⟩ := DataW.trod_int Try.underlying3 t0
      obtain ⟨c, e1, _, wc⟩ := DataW.trod_int Try.underlying22 t1
      obtain ⟨n, rfl, hn⟩ := bitvCats_u64 wc
      have e0' : V0 i = .int .i64 a := by simpa using e0
      have e1' : V1 i = .int .u64 n := by simpa using e1
      exact ⟨a, n, by rw [c0, e0'], by rw [c1, e1'], hn⟩
    exact ⟨x, _, _, rfl, hl, hm, key⟩

set_option maxRecDepth 100000 in
theorem bitvCats_lifted (os : Os) (started : os.Started) (H : Type) (enc : TypeId × Value → H) :
    ReturnsInHanded {} Try.checked os 5 .any (Rows.bitvCatsSpec.pre6 enc Try.prog Try.f5 Rows.bitvCatsRow.domain false) (Rows.bitvCatsSpec.post enc Try.prog Try.f5 false true false false) := by
  refine returnsInHanded_of_change (C := Try.checked) bitvCats_own started (by kernel_rfl) Try.func5
    (ChangeSpec.witness6 (enc := enc) (C := Try.checked) false ⟨#[], #[.slice none 0 0], []⟩ 8 (by kernel_rfl) (by kernel_rfl) (by kernel_rfl) (by kernel_rfl)) ?_
  intro W base args ds gs before hval0 hW hcnd _
  have hval : ∀ (j : Nat) t v, Try.f5.params[j]? = some t → args[j]? = some v → Value.okWide Try.prog W .any base t v := hval0
  have hW' := hW
  obtain ⟨p, q, hA0, hV, rfl, hfz, hnd⟩ := hW
  have hA : DataW.TrodAll enc Try.prog W 0 (fun _ => true) true Try.f5.params.toList args.toList ds p := hA0
  rw [Try.params5] at hA hval
  obtain ⟨v0, vs0, d0, ds0, p0, q0, hargs, rfl, rfl, h0, r0⟩ := trodAll_cons hA
  obtain ⟨rfl, rfl, rfl⟩ := trodAll_nil r0
  obtain rfl : args = #[v0] := by cases args; simp_all
  obtain ⟨rfl, rfl⟩ := trodVars_none hV
  have k0 := h0
  have lt0 : ∀ x ∈ p0, x.block < W.heap.size := by obtain ⟨m, hm⟩ := k0; exact DataW.trod_lt m _ _ _ hm
  have s0 := bitvCats_slice (hval 0 34 v0 rfl rfl) h0
  clear hA0 hval0
  refine (law_cats v0 W s0).mono fun e W' ⟨he, bel⟩ => ?_
  subst he
  exact ⟨_, rfl, _, _, _, [], _, [], hW', trodAll_mk1 (shut_bool Try.underlying4 _), (trodAll_cons_mk (Below.trod bitvCats_laidOut (by kernel_rfl) (of_decide_eq_true (by kernel_rfl)) k0 bel lt0) trodAll_mk0), rfl, bel.frame _, fun h => by cases h⟩

theorem bitvCats_over : Rows.bitvCatsRow.holds Try.pinned (OpenSpec.ofChange Rows.bitvCatsSpec) :=
  OpenClaim.holds_of_wide 5 Try.f5 rfl rfl rfl rfl rfl rfl rfl ⟨rfl, rfl, rfl, rfl, rfl⟩ rfl rfl rfl rfl rfl (by kernel_rfl) Try.func5 (by kernel_rfl)
    (of_decide_eq_true (by kernel_rfl)) (by unfold Func.isWrapper; first | (rw [if_pos (by decide +kernel)]; kernel_rfl) | (rw [if_neg (by decide +kernel)]; exact ⟨rfl, rfl⟩))
    (fun os started H enc _ => bitvCats_lifted os started H enc)

theorem bitvCats_holds : Rows.BitvCatsSaid := bitvCats_over
#print axioms bitvCats_holds
end Go.Proofs.Ytafhnkhcbfilaaa
