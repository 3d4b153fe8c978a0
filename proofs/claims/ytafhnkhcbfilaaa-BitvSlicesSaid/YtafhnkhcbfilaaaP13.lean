/- Rows of values that a call makes itself; bitv.Cat at such a row. -/
import Derived.Test.YtafhnkhcbfilaaaP12
namespace Go.Proofs.Ytafhnkhcbfilaaa
open Go.RowKit
set_option linter.unusedVariables false
set_option linter.unusedSimpArgs false

theorem Try.infoBits : (Try.prog.info? 24).map (fun i => (i.zero, i.size, i.bytes)) = some (some (.agg #[.int .i64 0, .int .u64 0]), 2, 16) := by kernel_rfl

def bitCells : List (Int × Nat) → List Value
  | [] => []
  | x :: l => .int .i64 x.1 :: .int .u64 x.2 :: bitCells l

theorem bitCells_at : ∀ (L : List (Int × Nat)) (i : Nat) (x : Int × Nat), L[i]? = some x → (bitCells L)[i * 2]? = some (.int .i64 x.1) ∧ (bitCells L)[i * 2 + 1]? = some (.int .u64 x.2)
  | [], i, x, h => by simp at h
  | y :: l, 0, x, h => by simp at h; subst h; exact ⟨rfl, rfl⟩
  | y :: l, i + 1, x, h => by
    have := bitCells_at l i x (by simpa using h)
    rw [Nat.add_mul]
    exact this

theorem own_later {w w' : World} {base e size n : Nat} {v : Value} {xs : List Value} (h : w.ownsRow base e size v n xs) (hb : Below w.heap.size w w') : w'.ownsRow base e size v n xs := by
  refine ⟨h.1, ?_⟩
  rcases h.2 with hn | ⟨g, cap, cur, rfl, hbg, hgg, rest⟩
  · exact .inl hn
  · refine .inr ⟨g, cap, cur, rfl, hbg, ?_, rest⟩
    rw [hb.block g (Array.getElem?_eq_some_iff.1 hgg).1]
    exact hgg

theorem Box.grown {w w' : World} {n : Nat} {a b : Value} {row : Option Nat} (h : Box w n a b) (hg : w.grownBy w' row) (hr : ∀ k, row = some k → n < k) : Box w' n a b := by
  have hk : w'.heap[n]? = w.heap[n]? := hg.block n h.lt (fun e => by have := hr n e.symm; omega)
  exact ⟨(World.cell?_of_block (w := w) hk).trans h.c0, (World.cell?_of_block (w := w) hk).trans h.c1, (World.frozen?_of_block (w := w) hk).trans h.f0, (World.frozen?_of_block (w := w) hk).trans h.f1, Nat.lt_of_lt_of_le h.lt hg.size⟩

theorem cells_new2 {w : World} {n : Nat} {a b : Value} (h : Box w n a b) : ∀ (j : Nat) (u : Value), [a, b][j]? = some u → w.cell? ((⟨n, 0, none⟩ : Addr).add j) = some u
  | 0, u, hj => by simp at hj; subst hj; simpa [Addr.add] using h.c0
  | 1, u, hj => by simp at hj; subst hj; simpa [Addr.add] using h.c1
  | j + 2, u, hj => by simp at hj

theorem cat_own (base : Nat) (v : Value) (L : List (Int × Nat)) (k p : Nat) (W : World) (hown : W.ownsRow base 24 2 v L.length (bitCells L)) (h0 : 0 < L.length) (hlen : L.length ≤ 1000) (hL : ∀ x ∈ L, x.2 < 18446744073709551616) (hc : CatOk L k p) :
    Calls Try.prog 22 #[v] W fun x W' => x = Tup k p 0 ∧ Below W.heap.size W W' := by
  obtain ⟨hE, hw, hv, hall⟩ := hc
  have hown' := hown
  rcases hown.2 with ⟨_, hn⟩ | ⟨g, cap, cur, rfl, hb, hg, _, _, _, _⟩
  · omega
  · have hlt : g < W.heap.size := (Array.getElem?_eq_some_iff.1 hg).1
    have hB : BitsAt W g 0 L := fun i x hx => by
      obtain ⟨c0, c1⟩ := bitCells_at L i x hx
      have hi : i < L.length := (List.getElem?_eq_some_iff.1 hx).1
      have a0 := hown'.cellAt (i * 2) (by omega)
      have a1 := hown'.cellAt (i * 2 + 1) (by omega)
      exact ⟨by rw [Nat.zero_add, a0, c0], by rw [Nat.zero_add, a1, c1], hL x (List.mem_of_getElem? hx)⟩
    refine (cat_yes g 0 cap L W hB hlt hlen h0 hall).mono fun e W' r => ?_
    obtain ⟨r1, r2⟩ := r
    rw [hE, if_pos rfl, if_pos rfl, hw, hv] at r1
    exact ⟨r1, r2⟩

end Go.Proofs.Ytafhnkhcbfilaaa
