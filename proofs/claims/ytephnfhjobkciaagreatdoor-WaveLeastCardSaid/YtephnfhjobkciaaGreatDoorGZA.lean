/- What the laws' walks share: few is small, what Put and Rows hand back. -/
import Derived.Test.YtephnfhjobkciaaGreatDoorGZ0
import Derived.Test.YtephnfhjobkciaaGreatDoorQ2
import Derived.Test.YtephnfhjobkciaaGreatDoorQ3
import Derived.Test.YtephnfhjobkciaaGreatDoorQ10

namespace Go.Proofs.YtephnfhjobkciaaGreatDoor
open Go.RowKit Go.Proofs.Wav Go.Proofs.Scn Go.Flow Go.Sort Go.Shelf Go.Cal
set_option linter.unusedVariables false
set_option linter.unusedSimpArgs false
set_option maxRecDepth 100000

theorem few_small {x : Wv} (h : Few x) : Small x := ⟨by have := h.1; omega, by have := h.2.1; omega, by have := h.2.2.1; omega, fun s hs => by have := h.2.2.2 s hs; omega⟩
theorem zero_wav (w : World) : WavAt w (.slice none 0 0) (.slice none 0 0) (.slice none 0 0) zeroW := ⟨⟨rfl, .inl ⟨rfl, _, _, rfl⟩⟩, ⟨rfl, .inl ⟨rfl, _, _, rfl⟩⟩, ⟨rfl, .inl ⟨rfl, _, _, rfl⟩⟩⟩
/-- what Put hands back, as bytes -/
def putL (x : Wv) : Ln := if putE x = 0 then putW x else []
theorem put_bytes {x : Wv} {W W' : World} {v : Value} (h : if putE x = 0 then OwnB W.heap.size W' v (putW x) else v = .slice none 0 0) : Bytes W' v (bs (putL x)) := by
  unfold putL
  split at h
  · rename_i e
    rw [if_pos e]; exact h.bytes
  · rename_i e
    rw [if_neg e, h]
    exact .inl ⟨rfl, _, _, rfl⟩
/-- what Rows hands back -/
def rowsL (x : Wv) : List (List Nat) := if rowsE x = 0 then rowsOf x.names.length x.chs (x.last.toNat + 1) else []
theorem rows_nil (w : World) : Rws w (.slice none 0 0) [] := ⟨[], rfl, ⟨rfl, .inl ⟨rfl, _, _, rfl⟩⟩, fun k h => absurd h (by simp)⟩
theorem rows_rws {x : Wv} {W' : World} {v : Value} (h : if rowsE x = 0 then Rws W' v (rowsOf x.names.length x.chs (x.last.toNat + 1)) else v = .slice none 0 0) : Rws W' v (rowsL x) := by
  unfold rowsL
  split at h
  · rename_i e
    rw [if_pos e]; exact h
  · rename_i e
    rw [if_neg e, h]
    exact rows_nil _
theorem rowsE_last {x : Wv} (h : rowsE x = 0) : checkW x = 0 ∧ x.last ≤ 65536 := by
  by_cases hc : checkW x = 0
  · by_cases h2 : 65536 < x.last ∨ 65536 < (x.last + 1) * x.names.length
    · rw [rowsE_long hc h2] at h; exact absurd h (by decide)
    · exact ⟨hc, by omega⟩
  · rw [rowsE_bad hc] at h; exact absurd h hc
theorem rowsL_len (x : Wv) : (rowsL x).length ≤ 100000 := by
  unfold rowsL
  split
  · rename_i e
    have := (rowsE_last e).2
    simp only [rowsOf, List.length_map, List.length_range]
    omega
  · simp
theorem rowsL_row {x : Wv} (hs : Small x) : ∀ r ∈ rowsL x, r.length ≤ 100000 := by
  have := hs.n
  intro r hr
  unfold rowsL at hr
  split at hr
  · simp only [rowsOf, List.mem_map, List.mem_range] at hr
    obtain ⟨t, _, rfl⟩ := hr
    simpa using this
  · simp at hr

theorem rowC_bound (t : Nat) (was : Option (List Nat)) (r : List Nat) : ∀ k, (rowC t was r k).length ≤ k
  | 0 => by rw [rowC_zero]; exact Nat.le_refl _
  | k + 1 => by
    have := rowC_bound t was r k
    rw [rowC_succ, List.length_append]
    split
    · simp only [List.length_nil]; omega
    · simp only [List.length_cons, List.length_nil]; omega
theorem chsOf_bound {rows : List (List Nat)} {n : Nat} (hn : ∀ k, k < rows.length → (rows.getD k []).length = n) : ∀ k, k ≤ rows.length → (chsOf rows k).length ≤ k * n
  | 0, _ => by simp [chsOf]
  | k + 1, h => by
    have h1 := chsOf_bound hn k (by omega)
    have h2 := rowC_bound k (Go.Proofs.Wav.ahead rows k) (rows.getD k []) (rows.getD k []).length
    rw [hn k (by omega)] at h2
    rw [chsOf, List.length_append, hn k (by omega), Nat.succ_mul]
    omega
theorem few_fits {ns : List Ln} {ws : List Int} {rows : List (List Nat)} (h : Few ⟨ns, ws, [], 0⟩) (hr : rows.length ≤ 50) :
    ns.length ≤ 100000 ∧ ws.length ≤ 100000 ∧ (∀ s ∈ ns, s.length ≤ 100000) ∧ rows.length ≤ 100000 ∧ rows.length * ns.length ≤ 100000 := by
  have h1 : ns.length ≤ 20 := h.1
  have h2 : ws.length ≤ 20 := h.2.1
  have h3 : rows.length * ns.length ≤ 50 * 20 := Nat.mul_le_mul hr h1
  exact ⟨by omega, by omega, fun s hs => by have := h.2.2.2 s hs; omega, by omega, by omega⟩
theorem make_small (ns : List Ln) (ws : List Int) (rows : List (List Nat)) (h1 : ns.length ≤ 100000) (h2 : ws.length ≤ 100000) (hst : ∀ s ∈ ns, s.length ≤ 100000) (h3 : rows.length * ns.length ≤ 100000) : Small (makeW ns ws rows).2 := by
  have hz : Small zeroW := ⟨by decide, by decide, by decide, fun s hs => by simp [zeroW] at hs⟩
  unfold makeW
  split
  · rename_i hfu
    split
    · have := chsOf_bound (Go.Proofs.Wav.full_get hfu).2 rows.length (Nat.le_refl _)
      exact ⟨h1, h2, by show (chsOf rows rows.length).length ≤ 100000; omega, hst⟩
    · exact hz
  · exact hz
theorem make_fits (ns : List Ln) (ws : List Int) (rows : List (List Nat)) (h1 : ns.length ≤ 100000) (hv : ∀ r ∈ rows, ∀ x ∈ r, x < 18446744073709551616) : Fits (makeW ns ws rows).2 := by
  have hz : Fits zeroW := ⟨fun c hc => by simp [zeroW] at hc, fun c hc => by simp [zeroW] at hc⟩
  unfold makeW
  split
  · rename_i hfu
    split
    · have key : ∀ c ∈ chsOf rows rows.length, (0 ≤ c.g ∧ c.g ≤ 100000) ∧ c.v < 18446744073709551616 := by
        intro c hc
        obtain ⟨t, s, e1, e2, ht, hs, e3, _⟩ := mem_made (Go.Proofs.Wav.full_get hfu).2 hc
        refine ⟨⟨by omega, by omega⟩, ?_⟩
        have hl := (Go.Proofs.Wav.full_get hfu).2 t ht
        have e0 : rows.getD t [] = rows[t] := by rw [List.getD_eq_getElem?_getD, List.getElem?_eq_getElem ht, Option.getD_some]
        rw [e0] at hl e3
        rw [List.getD_eq_getElem?_getD, List.getElem?_eq_getElem (by omega)] at e3
        simp only [Option.getD_some] at e3
        rw [← e3]
        exact hv _ (List.getElem_mem ht) _ (List.getElem_mem _)
      exact ⟨fun c hc => by have := (key c hc).1; omega, fun c hc => (key c hc).2⟩
    · exact hz
  · exact hz
end Go.Proofs.YtephnfhjobkciaaGreatDoor
