/- What the frames of the Scan laws share, more: the form of a slice of bytes; a slice of tokens. -/
import Derived.Test.YtpabaabkhmjdhaaDoorFD
import Derived.Deep.Slices
namespace Go.Proofs.YtpabaabkhmjdhaaDoor
open Go.ChangeShapes Go.WideShapes Go.ChangeAt Go.RowKit Go.Proofs.Scn
set_option linter.unusedVariables false
set_option linter.unusedSimpArgs false
set_option maxRecDepth 100000

theorem bytes_form {H : Type} {enc : TypeId × Value → H} {W : World} {b0 : Nat} {v : Value} {d : DataW H} {p : List MemPlace} (hv : Value.okWide Tryd.prog W .any b0 22 v) (h : DataW.Trod enc Tryd.prog W 0 (fun _ => true) true 22 v d p) :
    v = .slice none 0 0 ∨ ∃ ad l c, v = .slice (some ad) l c := by
  obtain ⟨a, len, cap, rfl⟩ := okWide_slice byteSlice hv
  obtain ⟨fuel, hf⟩ := h
  rcases open_ints byteSlice (show Tryd.prog.underlying 5 = some (.int .u8) by kernel_rfl) (by kernel_rfl) hf with ⟨hcs, hx⟩ | ⟨x, l, c, zs, hcs, _, hl, hm, hz, hx, hcell, hwf⟩
  · simp [Value.cells] at hcs
    obtain ⟨rfl, rfl, rfl⟩ := hcs
    exact .inl rfl
  · simp [Value.cells] at hcs
    obtain ⟨rfl, rfl, rfl⟩ := hcs
    exact .inr ⟨_, _, _, rfl⟩

/-- the five cells of a token -/
theorem tok_cells {H : Type} {enc : TypeId × Value → H} {W : World} {n : Nat} {cs : List Value} {y : DataW H × List MemPlace} (hf : DataW.trod enc Tryd.prog W 0 (fun _ => true) true n 32 cs = some y) :
    ∃ t : Scn.Tok, cs = cellsT t ∧ t.v < two64 ∧ ∃ parts, y.1 = .agg parts ∧ parts[1]? = some (.lit (.string t.s)) := by
  obtain ⟨xs, n, _, hx, hsz, hlen, hg⟩ := DataW.trod_struct Tryd.underlying32 hf
  have g0 := hg 0 _ rfl
  have g1 := hg 1 _ rfl
  have g2 := hg 2 _ rfl
  have g3 := hg 3 _ rfl
  have g4 := hg 4 _ rfl
  have e5 : Tryd.prog.cellsOf 32 = 5 := by kernel_rfl
  have k3 : Tryd.prog.cellsOf 3 = 1 := by kernel_rfl
  have k9 : Tryd.prog.cellsOf 9 = 1 := by kernel_rfl
  have k30 : Tryd.prog.cellsOf 30 = 1 := by kernel_rfl
  have k26 : ∀ m (h : m < 5), ∃ y, xs[m]? = some y := fun m h => ⟨xs[m]'(by rw [hlen]; exact h), List.getElem?_eq_getElem _⟩
  obtain ⟨y0, hy0⟩ := k26 0 (by omega)
  obtain ⟨y1, hy1⟩ := k26 1 (by omega)
  obtain ⟨y2, hy2⟩ := k26 2 (by omega)
  obtain ⟨y3, hy3⟩ := k26 3 (by omega)
  obtain ⟨y4, hy4⟩ := k26 4 (by omega)
  rw [e5] at hsz
  match cs, hsz with
  | [c0, c1, c2, c3, c4], _ =>
    change DataW.trod enc Tryd.prog W 0 (fun _ => true) true n 3 ([c0, c1, c2, c3, c4].take (Tryd.prog.cellsOf 3)) = xs[0]? at g0
    change DataW.trod enc Tryd.prog W 0 (fun _ => true) true n 9 ([c1, c2, c3, c4].take (Tryd.prog.cellsOf 9)) = xs[1]? at g1
    change DataW.trod enc Tryd.prog W 0 (fun _ => true) true n 3 ([c2, c3, c4].take (Tryd.prog.cellsOf 3)) = xs[2]? at g2
    change DataW.trod enc Tryd.prog W 0 (fun _ => true) true n 30 ([c3, c4].take (Tryd.prog.cellsOf 30)) = xs[3]? at g3
    change DataW.trod enc Tryd.prog W 0 (fun _ => true) true n 3 ([c4].take (Tryd.prog.cellsOf 3)) = xs[4]? at g4
    rw [k3, hy0] at g0
    rw [k9, hy1] at g1
    rw [k3, hy2] at g2
    rw [k30, hy3] at g3
    rw [k3, hy4] at g4
    obtain ⟨a0, e0, _, _⟩ := DataW.trod_int (show Tryd.prog.underlying 3 = some (.int .i64) by kernel_rfl) g0
    obtain ⟨a1, e1, z1, sz⟩ := DataW.trod_string (show Tryd.prog.underlying 9 = some .string by kernel_rfl) g1
    obtain ⟨a2, e2, _, _⟩ := DataW.trod_int (show Tryd.prog.underlying 3 = some (.int .i64) by kernel_rfl) g2
    obtain ⟨a3, e3, _, w3⟩ := DataW.trod_int (show Tryd.prog.underlying 30 = some (.int .u64) by kernel_rfl) g3
    obtain ⟨a4, e4, _, _⟩ := DataW.trod_int (show Tryd.prog.underlying 3 = some (.int .i64) by kernel_rfl) g4
    obtain rfl : c0 = .int .i64 a0 := by simpa using e0
    obtain rfl : c1 = .string a1 := by simpa using e1
    obtain rfl : c2 = .int .i64 a2 := by simpa using e2
    obtain rfl : c3 = .int .u64 a3 := by simpa using e3
    obtain rfl : c4 = .int .i64 a4 := by simpa using e4
    simp [Lit.wf, IntKind.min, IntKind.max, IntKind.signed, IntKind.bits] at w3
    obtain ⟨m, rfl⟩ : ∃ m : Nat, a3 = m := ⟨a3.toNat, by omega⟩
    exact ⟨⟨a0, a1.data.toList, a2, m, a4⟩, rfl, by show m < 18446744073709551616; omega, xs.map (·.1), by rw [hx], by rw [List.getElem?_map, hy1, z1]; rfl⟩

theorem weightsAll_mem {H : Type} {P : Program} {e : TypeId} {d : DataW H} {n : Nat} (hn : n ∈ d.weights P e) : ∀ {l : List (DataW H)}, d ∈ l → n ∈ DataW.weightsAll P e l
  | [], h => by cases h
  | x :: l, h => by
    simp only [DataW.weightsAll, List.mem_append]
    rcases List.mem_cons.1 h with rfl | h
    · exact .inl hn
    · exact .inr (weightsAll_mem hn h)
/-- a string of a token of a slice of tokens is no longer than what is reached -/
theorem sized_toks {H : Type} {tys : List TypeId} {ds : List (DataW H)} (h : (DataW.weightsEach Tryd.prog tys ds).all (· ≤ reachBytes) = true) {j : Nat} {elems spare : List (DataW H)} (ht : tys[j]? = some 24) (hd : ds[j]? = some (.slice elems spare))
    {d : DataW H} {parts : List (DataW H)} {bytes : List UInt8} (hm : d ∈ elems) (hp : d = .agg parts) (h1 : parts[1]? = some (.lit (.string bytes))) : bytes.length ≤ reachBytes := by
  have hb : bytes.length ∈ d.weights Tryd.prog 32 := by
    subst hp
    simp only [DataW.weights, Tryd.underlying32]
    exact DataW.weights_mem_each (j := 1) rfl h1 _ (by simp [DataW.weights])
  have := List.all_eq_true.1 h _ (DataW.weights_mem_each ht hd bytes.length (by
    simp only [DataW.weights, tokSlice, List.mem_cons, List.mem_append]
    exact .inr (.inl (weightsAll_mem hb hm))))
  simpa using this

/-- an argument that is a slice of tokens -/
theorem toks_arg {H : Type} {enc : TypeId × Value → H} {W : World} {b0 : Nat} {v : Value} {d : DataW H} {p : List MemPlace} (hv : Value.okWide Tryd.prog W .any b0 24 v) (h : DataW.Trod enc Tryd.prog W 0 (fun _ => true) true 24 v d p) :
    ∃ ts : List Scn.Tok, Toks W v ts ∧ (∀ t ∈ ts, t.v < two64) ∧ (ts = [] ∨ ∃ elems spare, d = .slice elems spare ∧ elems.length = ts.length ∧ ∀ t ∈ ts, ∃ x ∈ elems, ∃ parts, x = .agg parts ∧ parts[1]? = some (.lit (.string t.s))) := by
  obtain ⟨a, len, cap, rfl⟩ := okWide_slice tokSlice hv
  obtain ⟨fuel, hf⟩ := h
  rcases Deep.open_slice tokSlice hf with ⟨hcs, _⟩ | ⟨x, l, c, m, n, D, Pl, hcs, _, hl, hm, hmm, hx, hcell⟩
  · simp [Value.cells] at hcs
    obtain ⟨rfl, rfl, rfl⟩ := hcs
    exact ⟨[], .inl ⟨rfl, none, 0, rfl⟩, fun _ h => (by cases h), .inl rfl⟩
  · simp [Value.cells] at hcs
    obtain ⟨rfl, rfl, rfl⟩ := hcs
    have e5 : Tryd.prog.cellsOf 32 = 5 := by kernel_rfl
    simp only [if_true] at hmm
    have each : ∀ i, i < len → ∃ t : Scn.Tok, (∀ j u, (cellsT t)[j]? = some u → W.cell? ((x.add (i * 5)).add j) = some u) ∧ t.v < two64 ∧ ∃ parts, D i = .agg parts ∧ parts[1]? = some (.lit (.string t.s)) := by
      intro i hi
      obtain ⟨cs', h1, h2⟩ := hcell i (by omega)
      rw [e5] at h1
      obtain ⟨t, rfl, h3, h4⟩ := tok_cells h2
      obtain ⟨_, hlen, hc⟩ := World.cells?_some h1
      refine ⟨t, fun j u hu => ?_, h3, h4⟩
      have hj : j < 5 := by
        rcases Nat.lt_or_ge j 5 with h | h
        · exact h
        · rw [List.getElem?_eq_none (by simpa [cellsT] using h)] at hu; cases hu
      rw [hc j hj, hu]
    obtain ⟨T, hT⟩ := Deep.choose_lt each
    refine ⟨(List.range len).map T, ?_, ?_, .inr ⟨(List.range len).map D, _, (congrArg Prod.fst hx), by simp, ?_⟩⟩
    · by_cases h0 : len = 0
      · subst h0
        exact .inl ⟨rfl, some x, cap, rfl⟩
      · obtain ⟨b, off, spot⟩ := x
        have hsp : spot = none := by
          have := World.cell?_spot ((hT 0 (by omega)).1 0 _ rfl)
          simpa [Addr.add] using this
        subst hsp
        have key : ∀ k, k < len → ∀ j u, (cellsT (T k))[j]? = some u → W.cell? ⟨b, off + k * 5 + j, none⟩ = some u := by
          intro k hk j u hu
          have := (hT k hk).1 j u hu
          rw [add_plain, add_plain] at this
          exact this
        refine .inr ⟨b, off, cap, by simp, World.block_lt_of_cell? _ _ (key 0 (by omega) 0 _ rfl), fun k hk => ?_⟩
        have hk' : k < len := by simpa using hk
        rw [List.getElem_map, List.getElem_range]
        exact ⟨key k hk' 0 _ rfl, key k hk' 1 _ rfl, key k hk' 2 _ rfl, key k hk' 3 _ rfl, key k hk' 4 _ rfl⟩
    · intro t ht
      rw [List.mem_map] at ht
      obtain ⟨i, hi, rfl⟩ := ht
      exact (hT i (List.mem_range.1 hi)).2.1
    · intro t ht
      rw [List.mem_map] at ht
      obtain ⟨i, hi, rfl⟩ := ht
      exact ⟨D i, List.mem_map.2 ⟨i, hi, rfl⟩, (hT i (List.mem_range.1 hi)).2.2⟩

end Go.Proofs.YtpabaabkhmjdhaaDoor
