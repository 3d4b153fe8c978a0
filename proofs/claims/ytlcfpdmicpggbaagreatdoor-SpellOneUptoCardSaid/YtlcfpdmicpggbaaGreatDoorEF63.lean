/- Texts of the seat, merged. -/
import Derived.Test.YtlcfpdmicpggbaaGreatDoorB15
import Derived.Test.YtlcfpdmicpggbaaGreatDoorEF61
set_option linter.unusedVariables false
set_option linter.unusedSimpArgs false
set_option maxRecDepth 100000
set_option maxHeartbeats 16000000
namespace Go.Proofs.YtlcfpdmicpggbaaGreatDoor
open Go.RowKit Go.Proofs.Spl Go.Proofs.Scn Go.Shelf
def strsC (l : List Ln) : List Value := l.map fun s => .string (bs s)
def OwnS (B : Nat) (w : World) (v : Value) (l : List Ln) : Prop := w.ownsRow B 9 1 v l.length (strsC l)
theorem OwnS.nil (B : Nat) (w : World) : OwnS B w (.slice none 0 0) [] := World.ownsRow_nil w B _ 1
theorem OwnS.later {B : Nat} {w w' : World} {v : Value} {l : List Ln} (h : OwnS B w v l) (hb : Below w.heap.size w w') : OwnS B w' v l := by
 refine ⟨h.1, ?_⟩
 rcases h.2 with h0 | ⟨g, cap, cur, hv, hB, hg, h1⟩
 ·exact .inl h0
 ·exact .inr ⟨g, cap, cur, hv, hB, (hb.block g (Array.getElem?_eq_some_iff.1 hg).1).trans hg, h1⟩
end Go.Proofs.YtlcfpdmicpggbaaGreatDoor
namespace Go.Proofs.YtlcfpdmicpggbaaGreatDoor
open Go.RowKit Go.Proofs.Spl Go.Proofs.Scn Go.Shelf
theorem fewB_le {n d : Nat} (h : fewB n d = true) : n ≤ 2000 := by
 unfold fewB at h
 simp only [Bool.and_eq_true, decide_eq_true_eq] at h
 exact h.1
end Go.Proofs.YtlcfpdmicpggbaaGreatDoor
