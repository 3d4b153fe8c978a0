/- What the frames of the Scan laws share, more: the form of a slice of bytes; a slice of tokens. -/
import Derived.Test.YtpabaabkhmjdhaaDoorFD
namespace Go.Proofs.YtpabaabkhmjdhaaDoor
open Go.ChangeShapes Go.WideShapes Go.ChangeAt Go.RowKit Go.Proofs.Scn
set_option linter.unusedVariables false
set_option linter.unusedSimpArgs false
set_option maxRecDepth 100000

theorem bytes_form {H : Type} {enc : TypeId × Value → H} {W : World} {b0 : Nat} {v : Value} {d : DataW H} {p : List MemPlace} (hv : Value.okWide Tryd.prog W .any b0 22 v) (h : DataW.Trod enc Tryd.prog W 0 (fun _ => true) true 22 v d p) :
    v = .slice none 0 0 ∨ ∃ ad l c, v = .slice (some ad) l c := by
  obtain ⟨a, len, cap, rfl⟩ := okWide_slice byteSlice hv
  obtain ⟨fuel, hf⟩ := h
  rcases open_ints byteSlice (show Tryd.prog.underlying 5 = some (.int .u8) by kernel_rfl) (by kernel_rfl) hf with ⟨hcs, hx⟩ | ⟨x, l, c, zs, hcs, _, hl, hm, hz, hx, hcell, hwf⟩
  · simp [Value.cells] at hcs
    obtain ⟨rfl, rfl, rfl⟩ := hcs
    exact .inl rfl
  · simp [Value.cells] at hcs
    obtain ⟨rfl, rfl, rfl⟩ := hcs
    exact .inr ⟨_, _, _, rfl⟩

end Go.Proofs.YtpabaabkhmjdhaaDoor
