/- What the frames of the Scan laws share, more: a slice is no longer than it can hold. -/
import Derived.Test.YtpabaabkhmjdhaaDoorFC
namespace Go.Proofs.YtpabaabkhmjdhaaDoor
open Go.ChangeShapes Go.WideShapes Go.ChangeAt Go.RowKit Go.Proofs.Scn
set_option linter.unusedVariables false
set_option linter.unusedSimpArgs false
set_option maxRecDepth 100000

theorem bytes_cap {H : Type} {enc : TypeId × Value → H} {W : World} {b0 : Nat} {v : Value} {d : DataW H} {p : List MemPlace} (hv : Value.okWide Tryd.prog W .any b0 22 v) (h : DataW.Trod enc Tryd.prog W 0 (fun _ => true) true 22 v d p) :
    ∀ q l c, v = .slice q l c → l ≤ c := by
  obtain ⟨a, len, cap, rfl⟩ := okWide_slice byteSlice hv
  obtain ⟨fuel, hf⟩ := h
  rcases open_ints byteSlice (show Tryd.prog.underlying 5 = some (.int .u8) by kernel_rfl) (by kernel_rfl) hf with ⟨hcs, hx⟩ | ⟨x, l, c, zs, hcs, _, hl, hm, hz, hx, hcell, hwf⟩
  · simp [Value.cells] at hcs
    obtain ⟨rfl, rfl, rfl⟩ := hcs
    rintro q l c h
    simp only [Value.slice.injEq] at h
    omega
  · simp [Value.cells] at hcs
    obtain ⟨rfl, rfl, rfl⟩ := hcs
    rintro q l c h
    simp only [Value.slice.injEq] at h
    omega

end Go.Proofs.YtpabaabkhmjdhaaDoor
