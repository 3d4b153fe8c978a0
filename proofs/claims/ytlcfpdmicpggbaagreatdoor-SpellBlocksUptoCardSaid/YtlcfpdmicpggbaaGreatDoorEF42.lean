/- Texts of the seat, merged. -/
import Derived.Test.YtlcfpdmicpggbaaGreatDoorEF41
import Derived.Test.YtlcfpdmicpggbaaGreatDoorQ17
set_option linter.unusedVariables false
set_option linter.unusedSimpArgs false
set_option maxRecDepth 100000
set_option maxHeartbeats 16000000
namespace Go.Proofs.YtlcfpdmicpggbaaGreatDoor
open Go.ChangeShapes Go.WideShapes Go.ChangeAt Go.RowKit Go.Proofs.Spl Go.Proofs.Scn Go.Shelf
theorem own_knob : ownKnob Tryz.prog.godebug = none := by kernel_rfl
theorem laid_out : laidOutB Tryz.prog = true := by kernel_rfl
section
variable {H : Type} {enc : TypeId × Value → H} {W : World}
theorem build {α : Type} (sz : α → Nat) (sm : α → Bool) : ∀ (es : List (DataW H × List MemPlace)) (P : Nat → α → Prop),
  (∀ i (h : i < es.length), ∃ x, P i x ∧ sz x ≤ Rows.uptoBulk es[i].1 ∧ (Rows.uptoBulk es[i].1 ≤ 1048576 → sm x = true)) →
  ∃ l : List α, l.length = es.length ∧ (∀ i (h : i < l.length), P i l[i]) ∧ sumN sz l ≤ Rows.uptoBulkAll (es.map (·.1)) ∧ (Rows.uptoBulkAll (es.map (·.1)) ≤ 1048576 → l.all sm = true)
 | [], P, _ => ⟨[], rfl, fun i h => absurd h (by simp), Nat.zero_le _, fun _ => rfl⟩
 | e :: es, P, h => by
  obtain ⟨x, h1, h2, h3⟩ := h 0 (by simp)
  obtain ⟨l, k0, k1, k2, k3⟩ := build sz sm es (fun i => P (i + 1)) (fun i hi => h (i + 1) (by simpa using hi))
  have e1 : sumN sz (x :: l) = sz x + sumN sz l := rfl
  have e2 : Rows.uptoBulkAll ((e :: es).map (·.1)) = Rows.uptoBulk e.1 + Rows.uptoBulkAll (es.map (·.1)) := rfl
  simp only [List.getElem_cons_zero] at h2 h3
  refine ⟨x :: l, by simp [k0], fun i hi => ?_, by rw [e1, e2]; omega, fun hb => ?_⟩
  ·cases i with
   | zero => exact h1
   | succ i => exact k1 i (by simpa using hi)
  ·rw [e2] at hb
   rw [List.all_cons, h3 (by omega), k3 (by omega)]
   rfl
theorem els_read {α : Type} {R : α → List Value → Prop} {sz : α → Nat} {sm : α → Bool} {t e : TypeId} {m n : Nat} {cs : List Value} {y : DataW H × List MemPlace} (ht : Tryz.prog.underlying t = some (.slice e)) (he : Tryz.prog.cellsOf e = m) (hm : 0 < m)
  (hf : DataW.trod enc Tryz.prog W 0 (fun _ => true) true n t cs = some y) (hQ : ∀ n' cs y', n' < n → DataW.trod enc Tryz.prog W 0 (fun _ => true) true n' e cs = some y' → Reads R sz sm cs y'.1) :
  ∃ p cap l, cs = [.slice p l.length cap] ∧ Els W m R (.slice p l.length cap) l ∧ sumN sz l + 1 ≤ Rows.uptoBulk y.1 ∧ (Rows.uptoBulk y.1 ≤ 1048576 → l.all sm = true) := by
 rcases DataW.trod_slice ht hf with ⟨rfl, rfl⟩ | ⟨a, len, cap, elems, rest, n', rfl, rfl, rfl, _, hle, _, hlen, hel, _, _⟩
 ·exact ⟨none, 0, [], rfl, ⟨_, _, rfl, Nat.le_refl _, .inl rfl⟩, by simp [sumN, Rows.uptoBulk], fun _ => rfl⟩
 have each : ∀ i (h : i < elems.length), ∃ x, (fun i x => ∃ cs', R x cs' ∧ cs'.length = m ∧ ∀ j, j < m → W.cell? ((a.add (i * m)).add j) = cs'[j]?) i x ∧ sz x ≤ Rows.uptoBulk elems[i].1 ∧ (Rows.uptoBulk elems[i].1 ≤ 1048576 → sm x = true) := by
  intro i hi
  have h1 := hel i (by omega)
  rw [List.getElem?_eq_getElem hi] at h1
  obtain ⟨cs', h2, h3⟩ := Option.bind_eq_some_iff.1 h1
  rw [he] at h2
  obtain ⟨_, hl, hc⟩ := World.cells?_some h2
  obtain ⟨x, k1, k2, k3⟩ := hQ n' cs' _ (Nat.lt_succ_self _) h3
  exact ⟨x, ⟨cs', k1, hl, hc⟩, k2, k3⟩
 obtain ⟨l, k0, k1, k2, k3⟩ := build sz sm elems _ each
 have hb : Rows.uptoBulk (DataW.slice (elems.map (·.1)) (rest.map (·.1))) = Rows.uptoBulkAll (elems.map (·.1)) + Rows.uptoBulkAll (rest.map (·.1)) + 1 := by rw [Rows.uptoBulk]
 obtain rfl : len = l.length := by omega
 refine ⟨some a, cap, l, rfl, ⟨_, _, rfl, hle, ?_⟩, by rw [hb]; omega, fun h => k3 (by rw [hb] at h; omega)⟩
 by_cases h0 : l = []
 ·exact .inl h0
 right
 have hpos : 0 < l.length := List.length_pos_iff.2 h0
 obtain ⟨b, off, spot⟩ := a
 have hsp : spot = none := by
  obtain ⟨cs, _, h1, h3⟩ := k1 0 hpos
  have h4 := h3 0 hm
  rw [List.getElem?_eq_getElem (by omega)] at h4
  have := World.cell?_spot h4
  simpa [Addr.add] using this
 subst hsp
 have each' : ∀ i (h : i < l.length), ∃ cs, R l[i] cs ∧ cs.length = m ∧ ∀ j, j < m → W.cell? ⟨b, off + i * m + j, none⟩ = cs[j]? := by
  intro i hi
  obtain ⟨cs, h1, h2, h3⟩ := k1 i hi
  refine ⟨cs, h1, h2, fun j hj => ?_⟩
  have := h3 j hj
  rw [add_plain, add_plain] at this
  exact this
 refine ⟨b, off, rfl, ?_, fun k hk => ?_⟩
 ·obtain ⟨cs, _, h1, h3⟩ := each' 0 hpos
  have h4 := h3 0 hm
  rw [List.getElem?_eq_getElem (by omega)] at h4
  exact World.block_lt_of_cell? _ _ h4
 ·obtain ⟨cs, h1, _, h3⟩ := each' k hk
  exact ⟨cs, h1, h3⟩
theorem int_read {n : Nat} {cs : List Value} {y : DataW H × List MemPlace} (h : DataW.trod enc Tryz.prog W 0 (fun _ => true) true n 3 cs = some y) : ∃ a : Int, cs = [.int .i64 a] := by
 obtain ⟨a, e, _, _⟩ := DataW.trod_int (show Tryz.prog.underlying 3 = some (.int .i64) by kernel_rfl) h
 exact ⟨a, e⟩
theorem u64_read {n : Nat} {cs : List Value} {y : DataW H × List MemPlace} (h : DataW.trod enc Tryz.prog W 0 (fun _ => true) true n 25 cs = some y) : ∃ a : Nat, cs = [.int .u64 a] ∧ a < two64 := by
 obtain ⟨a, e, _, wf⟩ := DataW.trod_int (show Tryz.prog.underlying 25 = some (.int .u64) by kernel_rfl) h
 simp [Lit.wf, IntKind.min, IntKind.max, IntKind.signed, IntKind.bits] at wf
 refine ⟨a.toNat, by rw [e, show ((a.toNat : Nat) : Int) = a by omega], ?_⟩
 unfold two64
 omega
theorem str_read {n : Nat} {cs : List Value} {y : DataW H × List MemPlace} (h : DataW.trod enc Tryz.prog W 0 (fun _ => true) true n 9 cs = some y) : ∃ a : Ln, cs = [.string (bs a)] ∧ a.length + 1 ≤ Rows.uptoBulk y.1 := by
 obtain ⟨a, e, hy, _⟩ := DataW.trod_string (show Tryz.prog.underlying 9 = some .string by kernel_rfl) h
 exact ⟨a.data.toList, e, by rw [hy]; simp [Rows.uptoBulk]⟩
end
end Go.Proofs.YtlcfpdmicpggbaaGreatDoor
namespace Go.Proofs.YtlcfpdmicpggbaaGreatDoor
open Go.ChangeShapes Go.WideShapes Go.ChangeAt Go.RowKit Go.Proofs.Spl Go.Proofs.Scn Go.Shelf
section
variable {H : Type} {enc : TypeId × Value → H} {W : World}
theorem tlen4 {α : Type} {l : List α} (h : l.length = 4) : ∃ a0 a1 a2 a3, l = [a0, a1, a2, a3] := by
 match l, h with
 | [a0, a1, a2, a3], _ => exact ⟨a0, a1, a2, a3, rfl⟩
theorem tlen5 {α : Type} {l : List α} (h : l.length = 5) : ∃ a0 a1 a2 a3 a4, l = [a0, a1, a2, a3, a4] := by
 match l, h with
 | [a0, a1, a2, a3, a4], _ => exact ⟨a0, a1, a2, a3, a4, rfl⟩
theorem tlen6 {α : Type} {l : List α} (h : l.length = 6) : ∃ a0 a1 a2 a3 a4 a5, l = [a0, a1, a2, a3, a4, a5] := by
 match l, h with
 | [a0, a1, a2, a3, a4, a5], _ => exact ⟨a0, a1, a2, a3, a4, a5, rfl⟩
theorem tlen7 {α : Type} {l : List α} (h : l.length = 7) : ∃ a0 a1 a2 a3 a4 a5 a6, l = [a0, a1, a2, a3, a4, a5, a6] := by
 match l, h with
 | [a0, a1, a2, a3, a4, a5, a6], _ => exact ⟨a0, a1, a2, a3, a4, a5, a6, rfl⟩
theorem x_read : ∀ (n : Nat) (cs : List Value) (y : DataW H × List MemPlace), DataW.trod enc Tryz.prog W 0 (fun _ => true) true n 28 cs = some y → Reads (XR W) sizeX smX cs y.1 := by
 intro n
 induction n using Nat.strongRecOn with
 | _ n ih =>
  intro cs y hf
  obtain ⟨xs, n', rfl, rfl, hcl, hlen, hg⟩ := DataW.trod_struct Tryz.underlying28 hf
  rw [show Tryz.prog.cellsOf 28 = 6 by kernel_rfl] at hcl
  obtain ⟨c0, c1, c2, c3, c4, c5, rfl⟩ := tlen6 hcl
  obtain ⟨y0, y1, y2, y3, y4, y5, rfl⟩ := tlen6 hlen
  have g0 := hg 0 _ rfl
  change DataW.trod enc Tryz.prog W 0 (fun _ => true) true n' 3 (List.take (Tryz.prog.cellsOf 3) [c0, c1, c2, c3, c4, c5]) = some y0 at g0
  rw [show Tryz.prog.cellsOf 3 = 1 by kernel_rfl] at g0
  replace g0 : DataW.trod enc Tryz.prog W 0 (fun _ => true) true n' 3 [c0] = some y0 := g0
  obtain ⟨a0, e0⟩ := int_read g0
  simp only [List.cons.injEq, and_true] at e0
  subst e0
  have g1 := hg 1 _ rfl
  change DataW.trod enc Tryz.prog W 0 (fun _ => true) true n' 9 (List.take (Tryz.prog.cellsOf 9) [c1, c2, c3, c4, c5]) = some y1 at g1
  rw [show Tryz.prog.cellsOf 9 = 1 by kernel_rfl] at g1
  replace g1 : DataW.trod enc Tryz.prog W 0 (fun _ => true) true n' 9 [c1] = some y1 := g1
  obtain ⟨a1, e1, b1⟩ := str_read g1
  simp only [List.cons.injEq, and_true] at e1
  subst e1
  have g2 := hg 2 _ rfl
  change DataW.trod enc Tryz.prog W 0 (fun _ => true) true n' 3 (List.take (Tryz.prog.cellsOf 3) [c2, c3, c4, c5]) = some y2 at g2
  rw [show Tryz.prog.cellsOf 3 = 1 by kernel_rfl] at g2
  replace g2 : DataW.trod enc Tryz.prog W 0 (fun _ => true) true n' 3 [c2] = some y2 := g2
  obtain ⟨a2, e2⟩ := int_read g2
  simp only [List.cons.injEq, and_true] at e2
  subst e2
  have g3 := hg 3 _ rfl
  change DataW.trod enc Tryz.prog W 0 (fun _ => true) true n' 3 (List.take (Tryz.prog.cellsOf 3) [c3, c4, c5]) = some y3 at g3
  rw [show Tryz.prog.cellsOf 3 = 1 by kernel_rfl] at g3
  replace g3 : DataW.trod enc Tryz.prog W 0 (fun _ => true) true n' 3 [c3] = some y3 := g3
  obtain ⟨a3, e3⟩ := int_read g3
  simp only [List.cons.injEq, and_true] at e3
  subst e3
  have g4 := hg 4 _ rfl
  change DataW.trod enc Tryz.prog W 0 (fun _ => true) true n' 25 (List.take (Tryz.prog.cellsOf 25) [c4, c5]) = some y4 at g4
  rw [show Tryz.prog.cellsOf 25 = 1 by kernel_rfl] at g4
  replace g4 : DataW.trod enc Tryz.prog W 0 (fun _ => true) true n' 25 [c4] = some y4 := g4
  obtain ⟨a4, e4, v4⟩ := u64_read g4
  simp only [List.cons.injEq, and_true] at e4
  subst e4
  have g5 := hg 5 _ rfl
  change DataW.trod enc Tryz.prog W 0 (fun _ => true) true n' 26 (List.take (Tryz.prog.cellsOf 26) [c5]) = some y5 at g5
  rw [show Tryz.prog.cellsOf 26 = 1 by kernel_rfl] at g5
  replace g5 : DataW.trod enc Tryz.prog W 0 (fun _ => true) true n' 26 [c5] = some y5 := g5
  obtain ⟨p5, k5, a5, e5, r5, b5, s5⟩ := els_read (m := 6) Tryz.underlying26 (by kernel_rfl) (by decide) g5 (fun n2 cs y hn h => ih n2 (by omega) cs y h)
  simp only [List.cons.injEq, and_true] at e5
  subst e5
  have hbulk : Rows.uptoBulk (DataW.agg ([y0, y1, y2, y3, y4, y5].map (·.1))) = Rows.uptoBulk y0.1 + Rows.uptoBulk y1.1 + Rows.uptoBulk y2.1 + Rows.uptoBulk y3.1 + Rows.uptoBulk y4.1 + Rows.uptoBulk y5.1 + 1 := by simp only [List.map_cons, List.map_nil, Rows.uptoBulk, Rows.uptoBulkAll]; omega
  refine ⟨.mk a0 a1 a2 a3 a4 a5, XR_iff.2 ⟨v4, _, rfl, r5⟩, ?_, fun h => ?_⟩
  ·rw [sizeX, sizeXs_sum, hbulk]; omega
  ·rw [hbulk] at h; rw [smX_iff]; simp only [X.name, X.l, s5 (by omega), Bool.and_true]; exact decide_eq_true (show a1.length ≤ 140737488355328 by omega)
theorem s_read : ∀ (n : Nat) (cs : List Value) (y : DataW H × List MemPlace), DataW.trod enc Tryz.prog W 0 (fun _ => true) true n 31 cs = some y → Reads (SR W) sizeS smS cs y.1 := by
 intro n
 induction n using Nat.strongRecOn with
 | _ n ih =>
  intro cs y hf
  obtain ⟨xs, n', rfl, rfl, hcl, hlen, hg⟩ := DataW.trod_struct Tryz.underlying31 hf
  rw [show Tryz.prog.cellsOf 31 = 4 by kernel_rfl] at hcl
  obtain ⟨c0, c1, c2, c3, rfl⟩ := tlen4 hcl
  obtain ⟨y0, y1, y2, y3, rfl⟩ := tlen4 hlen
  have g0 := hg 0 _ rfl
  change DataW.trod enc Tryz.prog W 0 (fun _ => true) true n' 3 (List.take (Tryz.prog.cellsOf 3) [c0, c1, c2, c3]) = some y0 at g0
  rw [show Tryz.prog.cellsOf 3 = 1 by kernel_rfl] at g0
  replace g0 : DataW.trod enc Tryz.prog W 0 (fun _ => true) true n' 3 [c0] = some y0 := g0
  obtain ⟨a0, e0⟩ := int_read g0
  simp only [List.cons.injEq, and_true] at e0
  subst e0
  have g1 := hg 1 _ rfl
  change DataW.trod enc Tryz.prog W 0 (fun _ => true) true n' 9 (List.take (Tryz.prog.cellsOf 9) [c1, c2, c3]) = some y1 at g1
  rw [show Tryz.prog.cellsOf 9 = 1 by kernel_rfl] at g1
  replace g1 : DataW.trod enc Tryz.prog W 0 (fun _ => true) true n' 9 [c1] = some y1 := g1
  obtain ⟨a1, e1, b1⟩ := str_read g1
  simp only [List.cons.injEq, and_true] at e1
  subst e1
  have g2 := hg 2 _ rfl
  change DataW.trod enc Tryz.prog W 0 (fun _ => true) true n' 26 (List.take (Tryz.prog.cellsOf 26) [c2, c3]) = some y2 at g2
  rw [show Tryz.prog.cellsOf 26 = 1 by kernel_rfl] at g2
  replace g2 : DataW.trod enc Tryz.prog W 0 (fun _ => true) true n' 26 [c2] = some y2 := g2
  obtain ⟨p2, k2, a2, e2, r2, b2, s2⟩ := els_read (m := 6) Tryz.underlying26 (by kernel_rfl) (by decide) g2 (fun n2 cs y _ h => x_read n2 cs y h)
  simp only [List.cons.injEq, and_true] at e2
  subst e2
  have g3 := hg 3 _ rfl
  change DataW.trod enc Tryz.prog W 0 (fun _ => true) true n' 29 (List.take (Tryz.prog.cellsOf 29) [c3]) = some y3 at g3
  rw [show Tryz.prog.cellsOf 29 = 1 by kernel_rfl] at g3
  replace g3 : DataW.trod enc Tryz.prog W 0 (fun _ => true) true n' 29 [c3] = some y3 := g3
  obtain ⟨p3, k3, a3, e3, r3, b3, s3⟩ := els_read (m := 4) Tryz.underlying29 (by kernel_rfl) (by decide) g3 (fun n2 cs y hn h => ih n2 (by omega) cs y h)
  simp only [List.cons.injEq, and_true] at e3
  subst e3
  have hbulk : Rows.uptoBulk (DataW.agg ([y0, y1, y2, y3].map (·.1))) = Rows.uptoBulk y0.1 + Rows.uptoBulk y1.1 + Rows.uptoBulk y2.1 + Rows.uptoBulk y3.1 + 1 := by simp only [List.map_cons, List.map_nil, Rows.uptoBulk, Rows.uptoBulkAll]; omega
  refine ⟨.mk a0 a1 a2 a3, SR_iff.2 ⟨_, _, rfl, r2, r3⟩, ?_, fun h => ?_⟩
  ·rw [sizeS, sizeXs_sum, sizeSs_sum, hbulk]; omega
  ·rw [hbulk] at h; rw [smS_iff]; simp only [S.name, S.x, S.l, s2 (by omega), s3 (by omega), Bool.and_true]; exact decide_eq_true (show a1.length ≤ 140737488355328 by omega)
theorem x_arg {b0 : Nat} {v : Value} {d : DataW H} {p : List MemPlace} (hv : Value.okWide Tryz.prog W .any b0 28 v) (h : DataW.Trod enc Tryz.prog W 0 (fun _ => true) true 28 v d p) :
  ∃ cs a, v = .agg (List.toArray cs) ∧ XR W a cs ∧ sizeX a ≤ Rows.uptoBulk d ∧ (Rows.uptoBulk d ≤ 1048576 → smX a = true) := by
 obtain ⟨cs, rfl, _⟩ := okWide_struct Tryz.underlying28 hv
 obtain ⟨fuel, hf⟩ := h
 obtain ⟨a, h1, h2, h3⟩ := x_read _ _ _ hf
 exact ⟨cs.toList, a, rfl, h1, h2, h3⟩
theorem ss_arg {b0 : Nat} {v : Value} {d : DataW H} {p : List MemPlace} (hv : Value.okWide Tryz.prog W .any b0 29 v) (h : DataW.Trod enc Tryz.prog W 0 (fun _ => true) true 29 v d p) :
  ∃ q cap a, v = .slice q a.length cap ∧ SsR W (.slice q a.length cap) a ∧ sumN sizeS a ≤ Rows.uptoBulk d ∧ (Rows.uptoBulk d ≤ 1048576 → a.all smS = true) := by
 obtain ⟨a0, len, cap, rfl⟩ := okWide_slice Tryz.underlying29 hv
 obtain ⟨fuel, hf⟩ := h
 obtain ⟨q, k, a, e, r, b, s⟩ := els_read (m := 4) (cs := [.slice a0 len cap]) Tryz.underlying29 (by kernel_rfl) (by decide) hf (fun n2 cs y _ h => s_read n2 cs y h)
 simp only [List.cons.injEq, and_true] at e
 rw [e]
 exact ⟨q, k, a, rfl, r, by dsimp only at b; omega, s⟩
end
end Go.Proofs.YtlcfpdmicpggbaaGreatDoor
namespace Go.Proofs.YtlcfpdmicpggbaaGreatDoor
open Go.ChangeShapes Go.WideShapes Go.ChangeAt Go.RowKit Go.Proofs.Spl Go.Proofs.Scn Go.Shelf
theorem tab64 : (Rows.laid_math_bits_deBruijn64tab : DataW Unit) = Lib.tabData .u8 (Lib.deBruijn64tab.map fun n : Nat => (n : Int)) := by rfl
theorem tab10 : (Rows.laid_internal_strconv_uint64pow10 : DataW Unit) = Lib.tabData .u64 Lib.pow10Tab := by rfl
theorem base_of {W : World} {L : List (String × DataW Unit)} (h : laidMet Tryz.prog L W) (h64 : ("math/bits.deBruijn64tab", Rows.laid_math_bits_deBruijn64tab) ∈ L) (h10 : ("internal/strconv.uint64pow10", Rows.laid_internal_strconv_uint64pow10) ∈ L) (hsh : W.ShapedOpen Tryz.prog) : Base W := by
 refine ⟨?_, ?_, ?_⟩
 ·exact cell_of_shapedOpen_int (t := 3) (zero := #[.int .i64 0]) hsh (of_decide_eq_true (by kernel_rfl)) (by kernel_rfl) rfl (by kernel_rfl) (by kernel_rfl) (by kernel_rfl)
 ·obtain ⟨g, t, cs, fuel, p, hg, ht, hv, hd⟩ := Lib.laidMet.reads h h10
  rw [tab10] at hd
  obtain rfl := Option.some.inj ((show Tryz.prog.globalNamed "internal/strconv.uint64pow10" = some 5 by kernel_rfl).symm.trans hg)
  obtain rfl := Option.some.inj ((show (Tryz.prog.globals[5]?).map (·.type) = some 250 by kernel_rfl).symm.trans ht)
  unfold Lib.TabIs
  rw [hv, ← Lib.cells_of_tab (n := 20) (e := 25) (by kernel_rfl) (by kernel_rfl) (by kernel_rfl) (by kernel_rfl) hd]
 ·obtain ⟨g, t, cs, fuel, p, hg, ht, hv, hd⟩ := Lib.laidMet.reads h h64
  rw [tab64] at hd
  obtain rfl := Option.some.inj ((show Tryz.prog.globalNamed "math/bits.deBruijn64tab" = some 7 by kernel_rfl).symm.trans hg)
  obtain rfl := Option.some.inj ((show (Tryz.prog.globals[7]?).map (·.type) = some 255 by kernel_rfl).symm.trans ht)
  have htab : Lib.TabIs Tryz.prog W "math/bits.deBruijn64tab" .u8 (Lib.deBruijn64tab.map fun n : Nat => (n : Int)) := by
   unfold Lib.TabIs
   rw [hv, ← Lib.cells_of_tab (n := 64) (e := 5) (by kernel_rfl) (by kernel_rfl) (by kernel_rfl) (by kernel_rfl) hd]
  intro j hj
  have := htab.cell hg j (by simpa using hj)
  rw [this]
  simp [List.getD_eq_getElem?_getD, List.getElem?_eq_getElem hj]
theorem var_cells {W : World} {n : String} {g : Nat} {cs : Array Value} (hg : Tryz.prog.globalNamed n = some g) (hv : W.var? Tryz.prog n = some cs) (j : Nat) : W.cell? ⟨g, j, none⟩ = cs.toList[j]? := by
 unfold World.var? at hv
 rw [hg] at hv
 simp only [Option.bind_some] at hv
 split at hv
 ·rename_i cs' e fr h
  simp only [Option.some.injEq] at hv
  subst hv
  rw [cell_of_row W g j _ e fr h, ← Array.getElem?_toList]
 ·cases hv
section
variable {H : Type} {enc : TypeId × Value → H} {W : World} {base : Nat} {sp : Nat → Bool} {held : Bool}
theorem arr_row {t e n m fuel : Nat} {cs : List Value} {ds : List (DataW H)} {p : List MemPlace} (ht : Tryz.prog.underlying t = some (.array n e)) (he : Tryz.prog.cellsOf e = m) (hf : DataW.trod enc Tryz.prog W base sp held fuel t cs = some (.agg ds, p)) (k : Nat) (hk : k < n) (d : DataW H) (hd : ds[k]? = some d) :
  ∃ n' q, DataW.trod enc Tryz.prog W base sp held n' e ((cs.drop (k * m)).take m) = some (d, q) := by
 obtain ⟨xs, n', _, hx, _, hlen, hg⟩ := DataW.trod_array ht hf
 rw [he] at hg
 have h1 := hg k hk
 simp only [Prod.mk.injEq, DataW.agg.injEq] at hx
 have h2 : xs[k]? = some xs[k] := List.getElem?_eq_getElem (by omega)
 rw [hx.1, List.getElem?_map, h2] at hd
 simp only [Option.map_some, Option.some.injEq] at hd
 refine ⟨n', (xs[k]'(by omega)).2, ?_⟩
 rw [h1, h2, ← hd]
theorem lit_bool {n : Nat} {cs : List Value} {b : Bool} {y : DataW H × List MemPlace} (h : DataW.trod enc Tryz.prog W base sp held n 4 cs = some y) (hy : y.1 = .lit (.bool b)) : cs = [.bool b] := by
 obtain ⟨c, e, rfl⟩ := DataW.trod_bool (show Tryz.prog.underlying 4 = some .bool by kernel_rfl) h
 simp only [DataW.lit.injEq, Lit.bool.injEq] at hy
 rw [e, hy]
theorem lit_int {n : Nat} {cs : List Value} {b : Int} {y : DataW H × List MemPlace} (h : DataW.trod enc Tryz.prog W base sp held n 3 cs = some y) (hy : y.1 = .lit (.int .i64 b)) : cs = [.int .i64 b] := by
 obtain ⟨c, e, rfl, _⟩ := DataW.trod_int (show Tryz.prog.underlying 3 = some (.int .i64) by kernel_rfl) h
 simp only [DataW.lit.injEq, Lit.int.injEq] at hy
 rw [e, hy.2]
theorem at_row {cs l : List Value} {k m j : Nat} (h : (cs.drop (k * m)).take m = l) (hj : j < m) : cs[k * m + j]? = l[j]? := by
 rw [← h, List.getElem?_take, if_pos hj, List.getElem?_drop]
end
theorem kinds_row {H : Type} {enc : TypeId × Value → H} {W : World} {base : Nat} {sp : Nat → Bool} {held : Bool} {fuel : Nat} {cs : List Value} {p : List MemPlace} (hf : DataW.trod enc Tryz.prog W base sp held fuel 203 cs = some (Rows.laid_filigree_ast_kinds, p)) (k : Nat) (hk : k < 11) :
  (cs.drop (k * 5)).take 5 = [.bool (kNamed k), .int .i64 ((kMin k : Nat) : Int), .int .i64 ((kMax k : Nat) : Int), .int .i64 (kLo k), .int .i64 (kHi k)] := by
 have hd : ∀ k, k < 11 → (match (Rows.laid_filigree_ast_kinds : DataW H) with | .agg l => l[k]? | _ => none) = some (.agg [.lit (.bool (kNamed k)), .lit (.int .i64 ((kMin k : Nat) : Int)), .lit (.int .i64 ((kMax k : Nat) : Int)), .lit (.int .i64 (kLo k)), .lit (.int .i64 (kHi k))]) := by
  intro k hk
  have h : k = 0 ∨ k = 1 ∨ k = 2 ∨ k = 3 ∨ k = 4 ∨ k = 5 ∨ k = 6 ∨ k = 7 ∨ k = 8 ∨ k = 9 ∨ k = 10 := by omega
  rcases h with h | h | h | h | h | h | h | h | h | h | h <;> subst h <;> rfl
 obtain ⟨n', q, hr⟩ := arr_row (m := 5) (show Tryz.prog.underlying 203 = some (.array 11 202) by kernel_rfl) (by kernel_rfl) hf k hk _ (hd k hk)
 generalize (cs.drop (k * 5)).take 5 = r at *
 obtain ⟨xs, n2, _, hx, hcl, hlen, hg⟩ := DataW.trod_struct Tryz.underlying202 hr
 rw [show Tryz.prog.cellsOf 202 = 5 by kernel_rfl] at hcl
 obtain ⟨c0, c1, c2, c3, c4, rfl⟩ := tlen5 hcl
 obtain ⟨y0, y1, y2, y3, y4, rfl⟩ := tlen5 hlen
 simp only [Prod.mk.injEq, DataW.agg.injEq, List.map_cons, List.map_nil, List.cons.injEq, and_true] at hx
 obtain ⟨⟨e0, e1, e2, e3, e4⟩, _⟩ := hx
 have g0 := hg 0 _ rfl
 change DataW.trod enc Tryz.prog W base sp held n2 4 (List.take (Tryz.prog.cellsOf 4) [c0, c1, c2, c3, c4]) = some y0 at g0
 rw [show Tryz.prog.cellsOf 4 = 1 by kernel_rfl] at g0
 replace g0 : DataW.trod enc Tryz.prog W base sp held n2 4 [c0] = some y0 := g0
 have z0 := lit_bool g0 e0.symm
 simp only [List.cons.injEq, and_true] at z0
 subst z0
 have g1 := hg 1 _ rfl
 change DataW.trod enc Tryz.prog W base sp held n2 3 (List.take (Tryz.prog.cellsOf 3) [c1, c2, c3, c4]) = some y1 at g1
 rw [show Tryz.prog.cellsOf 3 = 1 by kernel_rfl] at g1
 replace g1 : DataW.trod enc Tryz.prog W base sp held n2 3 [c1] = some y1 := g1
 have z1 := lit_int g1 e1.symm
 simp only [List.cons.injEq, and_true] at z1
 subst z1
 have g2 := hg 2 _ rfl
 change DataW.trod enc Tryz.prog W base sp held n2 3 (List.take (Tryz.prog.cellsOf 3) [c2, c3, c4]) = some y2 at g2
 rw [show Tryz.prog.cellsOf 3 = 1 by kernel_rfl] at g2
 replace g2 : DataW.trod enc Tryz.prog W base sp held n2 3 [c2] = some y2 := g2
 have z2 := lit_int g2 e2.symm
 simp only [List.cons.injEq, and_true] at z2
 subst z2
 have g3 := hg 3 _ rfl
 change DataW.trod enc Tryz.prog W base sp held n2 3 (List.take (Tryz.prog.cellsOf 3) [c3, c4]) = some y3 at g3
 rw [show Tryz.prog.cellsOf 3 = 1 by kernel_rfl] at g3
 replace g3 : DataW.trod enc Tryz.prog W base sp held n2 3 [c3] = some y3 := g3
 have z3 := lit_int g3 e3.symm
 simp only [List.cons.injEq, and_true] at z3
 subst z3
 have g4 := hg 4 _ rfl
 change DataW.trod enc Tryz.prog W base sp held n2 3 (List.take (Tryz.prog.cellsOf 3) [c4]) = some y4 at g4
 rw [show Tryz.prog.cellsOf 3 = 1 by kernel_rfl] at g4
 replace g4 : DataW.trod enc Tryz.prog W base sp held n2 3 [c4] = some y4 := g4
 have z4 := lit_int g4 e4.symm
 simp only [List.cons.injEq, and_true] at z4
 subst z4
 rfl
theorem shapes_row {H : Type} {enc : TypeId × Value → H} {W : World} {base : Nat} {sp : Nat → Bool} {held : Bool} {fuel : Nat} {cs : List Value} {p : List MemPlace} (hf : DataW.trod enc Tryz.prog W base sp held fuel 216 cs = some (Rows.laid_filigree_ast_shapes, p)) (k : Nat) (hk : k < 11) :
  (cs.drop (k * 7)).take 7 = [.bool (sName k), .bool (sOf k), .int .i64 ((sX k : Nat) : Int), .bool (sS k), .bool (sL k), .bool (sEls k), .bool (sBind k)] := by
 have hd : ∀ k, k < 11 → (match (Rows.laid_filigree_ast_shapes : DataW H) with | .agg l => l[k]? | _ => none) = some (.agg [.lit (.bool (sName k)), .lit (.bool (sOf k)), .lit (.int .i64 ((sX k : Nat) : Int)), .lit (.bool (sS k)), .lit (.bool (sL k)), .lit (.bool (sEls k)), .lit (.bool (sBind k))]) := by
  intro k hk
  have h : k = 0 ∨ k = 1 ∨ k = 2 ∨ k = 3 ∨ k = 4 ∨ k = 5 ∨ k = 6 ∨ k = 7 ∨ k = 8 ∨ k = 9 ∨ k = 10 := by omega
  rcases h with h | h | h | h | h | h | h | h | h | h | h <;> subst h <;> rfl
 obtain ⟨n', q, hr⟩ := arr_row (m := 7) (show Tryz.prog.underlying 216 = some (.array 11 215) by kernel_rfl) (by kernel_rfl) hf k hk _ (hd k hk)
 generalize (cs.drop (k * 7)).take 7 = r at *
 obtain ⟨xs, n2, _, hx, hcl, hlen, hg⟩ := DataW.trod_struct Tryz.underlying215 hr
 rw [show Tryz.prog.cellsOf 215 = 7 by kernel_rfl] at hcl
 obtain ⟨c0, c1, c2, c3, c4, c5, c6, rfl⟩ := tlen7 hcl
 obtain ⟨y0, y1, y2, y3, y4, y5, y6, rfl⟩ := tlen7 hlen
 simp only [Prod.mk.injEq, DataW.agg.injEq, List.map_cons, List.map_nil, List.cons.injEq, and_true] at hx
 obtain ⟨⟨e0, e1, e2, e3, e4, e5, e6⟩, _⟩ := hx
 have g0 := hg 0 _ rfl
 change DataW.trod enc Tryz.prog W base sp held n2 4 (List.take (Tryz.prog.cellsOf 4) [c0, c1, c2, c3, c4, c5, c6]) = some y0 at g0
 rw [show Tryz.prog.cellsOf 4 = 1 by kernel_rfl] at g0
 replace g0 : DataW.trod enc Tryz.prog W base sp held n2 4 [c0] = some y0 := g0
 have z0 := lit_bool g0 e0.symm
 simp only [List.cons.injEq, and_true] at z0
 subst z0
 have g1 := hg 1 _ rfl
 change DataW.trod enc Tryz.prog W base sp held n2 4 (List.take (Tryz.prog.cellsOf 4) [c1, c2, c3, c4, c5, c6]) = some y1 at g1
 rw [show Tryz.prog.cellsOf 4 = 1 by kernel_rfl] at g1
 replace g1 : DataW.trod enc Tryz.prog W base sp held n2 4 [c1] = some y1 := g1
 have z1 := lit_bool g1 e1.symm
 simp only [List.cons.injEq, and_true] at z1
 subst z1
 have g2 := hg 2 _ rfl
 change DataW.trod enc Tryz.prog W base sp held n2 3 (List.take (Tryz.prog.cellsOf 3) [c2, c3, c4, c5, c6]) = some y2 at g2
 rw [show Tryz.prog.cellsOf 3 = 1 by kernel_rfl] at g2
 replace g2 : DataW.trod enc Tryz.prog W base sp held n2 3 [c2] = some y2 := g2
 have z2 := lit_int g2 e2.symm
 simp only [List.cons.injEq, and_true] at z2
 subst z2
 have g3 := hg 3 _ rfl
 change DataW.trod enc Tryz.prog W base sp held n2 4 (List.take (Tryz.prog.cellsOf 4) [c3, c4, c5, c6]) = some y3 at g3
 rw [show Tryz.prog.cellsOf 4 = 1 by kernel_rfl] at g3
 replace g3 : DataW.trod enc Tryz.prog W base sp held n2 4 [c3] = some y3 := g3
 have z3 := lit_bool g3 e3.symm
 simp only [List.cons.injEq, and_true] at z3
 subst z3
 have g4 := hg 4 _ rfl
 change DataW.trod enc Tryz.prog W base sp held n2 4 (List.take (Tryz.prog.cellsOf 4) [c4, c5, c6]) = some y4 at g4
 rw [show Tryz.prog.cellsOf 4 = 1 by kernel_rfl] at g4
 replace g4 : DataW.trod enc Tryz.prog W base sp held n2 4 [c4] = some y4 := g4
 have z4 := lit_bool g4 e4.symm
 simp only [List.cons.injEq, and_true] at z4
 subst z4
 have g5 := hg 5 _ rfl
 change DataW.trod enc Tryz.prog W base sp held n2 4 (List.take (Tryz.prog.cellsOf 4) [c5, c6]) = some y5 at g5
 rw [show Tryz.prog.cellsOf 4 = 1 by kernel_rfl] at g5
 replace g5 : DataW.trod enc Tryz.prog W base sp held n2 4 [c5] = some y5 := g5
 have z5 := lit_bool g5 e5.symm
 simp only [List.cons.injEq, and_true] at z5
 subst z5
 have g6 := hg 6 _ rfl
 change DataW.trod enc Tryz.prog W base sp held n2 4 (List.take (Tryz.prog.cellsOf 4) [c6]) = some y6 at g6
 rw [show Tryz.prog.cellsOf 4 = 1 by kernel_rfl] at g6
 replace g6 : DataW.trod enc Tryz.prog W base sp held n2 4 [c6] = some y6 := g6
 have z6 := lit_bool g6 e6.symm
 simp only [List.cons.injEq, and_true] at z6
 subst z6
 rfl
theorem baseA_of {W : World} {L : List (String × DataW Unit)} (h : laidMet Tryz.prog L W) (h64 : ("math/bits.deBruijn64tab", Rows.laid_math_bits_deBruijn64tab) ∈ L) (h10 : ("internal/strconv.uint64pow10", Rows.laid_internal_strconv_uint64pow10) ∈ L)
  (hk : ("filigree/ast.kinds", Rows.laid_filigree_ast_kinds) ∈ L) (hs : ("filigree/ast.shapes", Rows.laid_filigree_ast_shapes) ∈ L) (hsh : W.ShapedOpen Tryz.prog) : BaseA W := by
 refine ⟨base_of h h64 h10 hsh, fun k hlt => ?_, fun k hlt => ?_⟩
 ·obtain ⟨g, t, cs, fuel, p, hg, ht, hv, hd⟩ := Lib.laidMet.reads h hk
  obtain rfl := Option.some.inj ((show Tryz.prog.globalNamed "filigree/ast.kinds" = some 0 by kernel_rfl).symm.trans hg)
  obtain rfl := Option.some.inj ((show (Tryz.prog.globals[0]?).map (·.type) = some 203 by kernel_rfl).symm.trans ht)
  have hr := kinds_row hd k hlt
  have hc := fun j (hj : j < 5) => (var_cells hg hv (k * 5 + j)).trans (at_row hr hj)
  exact ⟨hc 0 (by omega), hc 1 (by omega), hc 2 (by omega), hc 3 (by omega), hc 4 (by omega)⟩
 ·obtain ⟨g, t, cs, fuel, p, hg, ht, hv, hd⟩ := Lib.laidMet.reads h hs
  obtain rfl := Option.some.inj ((show Tryz.prog.globalNamed "filigree/ast.shapes" = some 1 by kernel_rfl).symm.trans hg)
  obtain rfl := Option.some.inj ((show (Tryz.prog.globals[1]?).map (·.type) = some 216 by kernel_rfl).symm.trans ht)
  have hr := shapes_row hd k hlt
  have hc := fun j (hj : j < 7) => (var_cells hg hv (k * 7 + j)).trans (at_row hr hj)
  exact ⟨hc 0 (by omega), hc 1 (by omega), hc 2 (by omega), hc 3 (by omega), hc 4 (by omega), hc 5 (by omega), hc 6 (by omega)⟩
end Go.Proofs.YtlcfpdmicpggbaaGreatDoor
