/- Bytes that are made of a string; bytes that are put behind others. -/
import Derived.Test.YtpabaabkhmjdhaaDoorU5
import Derived.Laws.AppendOwnNone
namespace Go.Proofs.YtpabaabkhmjdhaaDoor
open Go.RowKit Go.Proofs.Scn Go.Flow Go.Sort
set_option linter.unusedVariables false
set_option linter.unusedSimpArgs false
set_option maxRecDepth 100000

theorem conv_bytes (w : World) (s : ByteArray) (c : Nat) : Bytes (Lib.bytesWorld w 5 s) (.slice (some ⟨w.heap.size, 0, none⟩) s.size c) s := by
  refine .inr ⟨w.heap.size, 0, c, rfl, by rw [Lib.bytesWorld_size]; omega, fun k hk => ?_⟩
  rw [Nat.zero_add, Lib.bytesWorld_cell w 5 s k hk]
  have : s.data.toList.getD k 0 = s[k] := by
    have h' : k < s.data.toList.length := hk
    simp [List.getD_eq_getElem?_getD, List.getElem?_eq_getElem h']
    rfl
  rw [this]

/-- bytes that stand somewhere, or nil -/
def Src (w : World) (v : Value) (l : List UInt8) : Prop :=
  (v = .slice none 0 0 ∧ l = []) ∨ ∃ ad c, v = .slice (some ad) l.length c ∧ ∀ j u, (cellsB l)[j]? = some u → w.cell? (ad.add j) = some u
theorem cellsB_one (l : List UInt8) : ∀ u ∈ cellsB l, u.oneCell' = true := by
  intro u hu
  simp only [cellsB, List.mem_map] at hu
  obtain ⟨c, _, rfl⟩ := hu
  rfl
theorem Src.of_bytes {w : World} {v : Value} {s : ByteArray} (h : Bytes w v s) (hv : v = .slice none 0 0 ∨ ∃ ad l c, v = .slice (some ad) l c) : Src w v s.data.toList := by
  rcases h with ⟨h0, p, cap, rfl⟩ | ⟨b, off, cap, rfl, hlt, hc⟩
  · have hl : s.data.toList = [] := List.eq_nil_of_length_eq_zero h0
    rcases hv with hv | ⟨ad, l, c, hv⟩
    · exact .inl ⟨hv, hl⟩
    · refine .inr ⟨ad, c, by rw [hv, hl]; simp at hv ⊢; omega, fun j u hu => ?_⟩
      rw [hl] at hu
      simp [cellsB] at hu
  · refine .inr ⟨⟨b, off, none⟩, cap, rfl, fun j u hu => ?_⟩
    have hj : j < s.size := by
      rcases Nat.lt_or_ge j s.size with h | h
      · exact h
      · rw [List.getElem?_eq_none (by rw [cellsB_length]; exact h)] at hu; cases hu
    have : (⟨b, off, none⟩ : Addr).add j = ⟨b, off + j, none⟩ := by simp [Addr.add]
    rw [this, hc j hj]
    have hj' : j < s.data.toList.length := hj
    rw [cellsB, List.getElem?_map, List.getElem?_eq_getElem hj'] at hu
    exact hu
theorem Src.later {w w' : World} {v : Value} {s : ByteArray} (h : Bytes w v s) (hv : v = .slice none 0 0 ∨ ∃ ad l c, v = .slice (some ad) l c) (hb : Below w.heap.size w w') : Src w' v s.data.toList := Src.of_bytes (h.later hb) hv

/-- append(L, s...) -/
theorem wpList_append_src {w : World} {ops : Array Oper} {rest : List Oper} {o : Oper} {a : Act} {Q : Exit → Act → World → Prop} (hgd : o.guard = none) (s x : Operand)
    (ho : o.op = .call { callee := .builtin .append, args := #[s, x], argTypes := #[22, 22] })
    (base : Nat) (v : Value) (L l : List UInt8) (hs : a.eval s = v) (hown : OwnB base w v L) (y : Value) (hx : a.eval x = y) (hsrc : Src w y l)
    (h63 : L.length + l.length ≤ 140737488355328) (hbase : base ≤ w.heap.size)
    (h : ∀ v' w', OwnB base w' v' (L ++ l) → w.grownBy w' v.ownBlock → wpList Tryd.prog ops Q rest (a.put o.dst v') w') : wpList Tryd.prog ops Q (o :: rest) a w := by
  obtain ⟨i0, hi, hz0, hz1, hz2⟩ := info_parts byteInfo
  rcases hsrc with ⟨rfl, rfl⟩ | ⟨ad, c, rfl, hc⟩
  · refine wpList_append_own_none hgd s x 22 ho base 5 i0 1 byteSlice hi v L.length (cellsB L) hs hown hx ?_
    refine h v w (by rw [List.append_nil]; exact hown) ?_
    exact ⟨rfl, rfl, rfl, Nat.le_refl _, fun k _ _ => rfl⟩
  · refine wpList_append_own w hgd s x 22 ho base 5 i0 (.int .u8 0) 1 1 byteSlice hi hz0 hz1 hz2 rfl (by decide) v L.length (cellsB L) hs hown ad l.length c (cellsB l) hx (by rw [cellsB_length]; omega) hc (cellsB_one l) (by unfold maxLen; omega) (by omega) hbase ?_
    intro v' w' h1 h2 _
    refine h v' w' ?_ h2
    unfold OwnB
    rw [List.length_append, show cellsB (L ++ l) = cellsB L ++ cellsB l from List.map_append]
    exact h1

end Go.Proofs.YtpabaabkhmjdhaaDoor
