/-
  No cell of these rows narrows 'for every input' (looked for: loops, veiled, ifaces, maps, wideKeys, modest, calm, conditions, laid).
  DERIVED. THE GIVEN ROWS OF THIS SEAT. 10 by the template 'for every input the law returns true; each argument reads behind the call as it read before'; 0 by the template 'total and deterministic' (their statements: YtafhnkhcbfilaaaTotals.lean).
  GIVEN WITH THE SEED: the statements are not yours to turn. If you find one false, say at which input.
  Laid BY PROGRAM, IN A SANDBOX (cutbox-rows.mjs): the forced cells as the released guide's own fill.sh prints them over the translation af594bd55381cfad… (all of the seat's roots in one cut). By AI agents, Wed Nov 11 2026. No macro, syntax, notation, axiom, sorry.
-/
import Derived.Test.YtafhnkhcbfilaaaChecked
import GoSem.Claim
import GoSem.ClaimJoined
import GoSem.ClaimMapViews
import Derived.JoinedTies
import Derived.KernelRfl
namespace Go.Proofs.Ytafhnkhcbfilaaa
/- THE CELL 'sum', in the pinned program and in every row, IS THE sha256 OF THE DUMP (.gsa) THAT YtafhnkhcbfilaaaProg.lean LOADS. Nothing in Lean hashes anything: it is a label: what it is worth is what the hold of that sum in a sandbox is worth. -/
noncomputable def Try.pinned : Pinned := { name := "ytafhnkhcbfilaaa", sum := "af594bd55381cfad9f77117dd75a59b24a33516e62eb8d5607db6427789f6dcd", checked := Try.checked }
namespace Rows
def none {H : Type} : Left H := { results := [], args := [] }

/-- 'filigreelaw01.BitvTells': WHATEVER THE INPUT: true; the input reads as it did. -/
def bitvTellsSpec : ChangeSpec := { name := "bitvTells", fn := fun _ => fun
  | [d1, d2, d3] => { results := [.lit (.bool true)], args := [d1, d2, d3] }
  | _ => none }
def bitvTellsRow : OpenClaim := { program := "ytafhnkhcbfilaaa", sum := "af594bd55381cfad9f77117dd75a59b24a33516e62eb8d5607db6427789f6dcd", func := "filigree/filigreelaw01.BitvTells", spec := "bitvTells", unfollowed := true, recurses := true, apart := false }
def BitvTellsSaid : Prop := bitvTellsRow.holds Try.pinned (OpenSpec.ofChange bitvTellsSpec)

/-- ITS FALSE NEIGHBOUR: 'it returns false'. Refute it at one input. -/
def bitvTellsWrong : ChangeSpec := { name := "bitvTells", fn := fun _ => fun
  | [d1, d2, d3] => { results := [.lit (.bool false)], args := [d1, d2, d3] }
  | _ => none }
def BitvTellsWrongFalsely : Prop := bitvTellsRow.holds Try.pinned (OpenSpec.ofChange bitvTellsWrong)

/-- 'filigreelaw01.BitvPairs': WHATEVER THE INPUT: true; the input reads as it did. -/
def bitvPairsSpec : ChangeSpec := { name := "bitvPairs", fn := fun _ => fun
  | [d1, d2, d3] => { results := [.lit (.bool true)], args := [d1, d2, d3] }
  | _ => none }
def bitvPairsRow : OpenClaim := { program := "ytafhnkhcbfilaaa", sum := "af594bd55381cfad9f77117dd75a59b24a33516e62eb8d5607db6427789f6dcd", func := "filigree/filigreelaw01.BitvPairs", spec := "bitvPairs", unfollowed := true, recurses := true, apart := false }
def BitvPairsSaid : Prop := bitvPairsRow.holds Try.pinned (OpenSpec.ofChange bitvPairsSpec)

/-- ITS FALSE NEIGHBOUR: 'it returns false'. Refute it at one input. -/
def bitvPairsWrong : ChangeSpec := { name := "bitvPairs", fn := fun _ => fun
  | [d1, d2, d3] => { results := [.lit (.bool false)], args := [d1, d2, d3] }
  | _ => none }
def BitvPairsWrongFalsely : Prop := bitvPairsRow.holds Try.pinned (OpenSpec.ofChange bitvPairsWrong)

/-- 'filigreelaw01.BitvCats': WHATEVER THE INPUT: true; the input reads as it did. -/
def bitvCatsSpec : ChangeSpec := { name := "bitvCats", fn := fun _ => fun
  | [d] => { results := [.lit (.bool true)], args := [d] }
  | _ => none }
def bitvCatsRow : OpenClaim := { program := "ytafhnkhcbfilaaa", sum := "af594bd55381cfad9f77117dd75a59b24a33516e62eb8d5607db6427789f6dcd", func := "filigree/filigreelaw01.BitvCats", spec := "bitvCats", unfollowed := true, recurses := true, apart := false }
def BitvCatsSaid : Prop := bitvCatsRow.holds Try.pinned (OpenSpec.ofChange bitvCatsSpec)

/-- ITS FALSE NEIGHBOUR: 'it returns false'. Refute it at one input. -/
def bitvCatsWrong : ChangeSpec := { name := "bitvCats", fn := fun _ => fun
  | [d] => { results := [.lit (.bool false)], args := [d] }
  | _ => none }
def BitvCatsWrongFalsely : Prop := bitvCatsRow.holds Try.pinned (OpenSpec.ofChange bitvCatsWrong)

/-- 'filigreelaw01.BitvRing': WHATEVER THE INPUT: true; the input reads as it did. -/
def bitvRingSpec : ChangeSpec := { name := "bitvRing", fn := fun _ => fun
  | [d1, d2, d3, d4] => { results := [.lit (.bool true)], args := [d1, d2, d3, d4] }
  | _ => none }
def bitvRingRow : OpenClaim := { program := "ytafhnkhcbfilaaa", sum := "af594bd55381cfad9f77117dd75a59b24a33516e62eb8d5607db6427789f6dcd", func := "filigree/filigreelaw01.BitvRing", spec := "bitvRing", unfollowed := true, recurses := true, apart := false }
def BitvRingSaid : Prop := bitvRingRow.holds Try.pinned (OpenSpec.ofChange bitvRingSpec)

/-- ITS FALSE NEIGHBOUR: 'it returns false'. Refute it at one input. -/
def bitvRingWrong : ChangeSpec := { name := "bitvRing", fn := fun _ => fun
  | [d1, d2, d3, d4] => { results := [.lit (.bool false)], args := [d1, d2, d3, d4] }
  | _ => none }
def BitvRingWrongFalsely : Prop := bitvRingRow.holds Try.pinned (OpenSpec.ofChange bitvRingWrong)

/-- 'filigreelaw01.BitvSets': WHATEVER THE INPUT: true; the input reads as it did. -/
def bitvSetsSpec : ChangeSpec := { name := "bitvSets", fn := fun _ => fun
  | [d1, d2, d3] => { results := [.lit (.bool true)], args := [d1, d2, d3] }
  | _ => none }
def bitvSetsRow : OpenClaim := { program := "ytafhnkhcbfilaaa", sum := "af594bd55381cfad9f77117dd75a59b24a33516e62eb8d5607db6427789f6dcd", func := "filigree/filigreelaw01.BitvSets", spec := "bitvSets", unfollowed := true, recurses := true, apart := false }
def BitvSetsSaid : Prop := bitvSetsRow.holds Try.pinned (OpenSpec.ofChange bitvSetsSpec)

/-- ITS FALSE NEIGHBOUR: 'it returns false'. Refute it at one input. -/
def bitvSetsWrong : ChangeSpec := { name := "bitvSets", fn := fun _ => fun
  | [d1, d2, d3] => { results := [.lit (.bool false)], args := [d1, d2, d3] }
  | _ => none }
def BitvSetsWrongFalsely : Prop := bitvSetsRow.holds Try.pinned (OpenSpec.ofChange bitvSetsWrong)

/-- 'filigreelaw01.BitvOrders': WHATEVER THE INPUT: true; the input reads as it did. -/
def bitvOrdersSpec : ChangeSpec := { name := "bitvOrders", fn := fun _ => fun
  | [d1, d2, d3] => { results := [.lit (.bool true)], args := [d1, d2, d3] }
  | _ => none }
def bitvOrdersRow : OpenClaim := { program := "ytafhnkhcbfilaaa", sum := "af594bd55381cfad9f77117dd75a59b24a33516e62eb8d5607db6427789f6dcd", func := "filigree/filigreelaw01.BitvOrders", spec := "bitvOrders", unfollowed := true, recurses := true, apart := false }
def BitvOrdersSaid : Prop := bitvOrdersRow.holds Try.pinned (OpenSpec.ofChange bitvOrdersSpec)

/-- ITS FALSE NEIGHBOUR: 'it returns false'. Refute it at one input. -/
def bitvOrdersWrong : ChangeSpec := { name := "bitvOrders", fn := fun _ => fun
  | [d1, d2, d3] => { results := [.lit (.bool false)], args := [d1, d2, d3] }
  | _ => none }
def BitvOrdersWrongFalsely : Prop := bitvOrdersRow.holds Try.pinned (OpenSpec.ofChange bitvOrdersWrong)

/-- 'filigreelaw01.BitvSlices': WHATEVER THE INPUT: true; the input reads as it did. -/
def bitvSlicesSpec : ChangeSpec := { name := "bitvSlices", fn := fun _ => fun
  | [d1, d2, d3, d4, d5] => { results := [.lit (.bool true)], args := [d1, d2, d3, d4, d5] }
  | _ => none }
def bitvSlicesRow : OpenClaim := { program := "ytafhnkhcbfilaaa", sum := "af594bd55381cfad9f77117dd75a59b24a33516e62eb8d5607db6427789f6dcd", func := "filigree/filigreelaw01.BitvSlices", spec := "bitvSlices", unfollowed := true, recurses := true, apart := false }
def BitvSlicesSaid : Prop := bitvSlicesRow.holds Try.pinned (OpenSpec.ofChange bitvSlicesSpec)

/-- ITS FALSE NEIGHBOUR: 'it returns false'. Refute it at one input. -/
def bitvSlicesWrong : ChangeSpec := { name := "bitvSlices", fn := fun _ => fun
  | [d1, d2, d3, d4, d5] => { results := [.lit (.bool false)], args := [d1, d2, d3, d4, d5] }
  | _ => none }
def BitvSlicesWrongFalsely : Prop := bitvSlicesRow.holds Try.pinned (OpenSpec.ofChange bitvSlicesWrong)

/-- 'filigreelaw01.BitvShifts': WHATEVER THE INPUT: true; the input reads as it did. -/
def bitvShiftsSpec : ChangeSpec := { name := "bitvShifts", fn := fun _ => fun
  | [d1, d2, d3, d4] => { results := [.lit (.bool true)], args := [d1, d2, d3, d4] }
  | _ => none }
def bitvShiftsRow : OpenClaim := { program := "ytafhnkhcbfilaaa", sum := "af594bd55381cfad9f77117dd75a59b24a33516e62eb8d5607db6427789f6dcd", func := "filigree/filigreelaw01.BitvShifts", spec := "bitvShifts", unfollowed := true, recurses := true, apart := false }
def BitvShiftsSaid : Prop := bitvShiftsRow.holds Try.pinned (OpenSpec.ofChange bitvShiftsSpec)

/-- ITS FALSE NEIGHBOUR: 'it returns false'. Refute it at one input. -/
def bitvShiftsWrong : ChangeSpec := { name := "bitvShifts", fn := fun _ => fun
  | [d1, d2, d3, d4] => { results := [.lit (.bool false)], args := [d1, d2, d3, d4] }
  | _ => none }
def BitvShiftsWrongFalsely : Prop := bitvShiftsRow.holds Try.pinned (OpenSpec.ofChange bitvShiftsWrong)

/-- 'filigreelaw01.BitvWidths': WHATEVER THE INPUT: true; the input reads as it did. -/
def bitvWidthsSpec : ChangeSpec := { name := "bitvWidths", fn := fun _ => fun
  | [d1, d2, d3, d4] => { results := [.lit (.bool true)], args := [d1, d2, d3, d4] }
  | _ => none }
def bitvWidthsRow : OpenClaim := { program := "ytafhnkhcbfilaaa", sum := "af594bd55381cfad9f77117dd75a59b24a33516e62eb8d5607db6427789f6dcd", func := "filigree/filigreelaw01.BitvWidths", spec := "bitvWidths", unfollowed := true, recurses := true, apart := false }
def BitvWidthsSaid : Prop := bitvWidthsRow.holds Try.pinned (OpenSpec.ofChange bitvWidthsSpec)

/-- ITS FALSE NEIGHBOUR: 'it returns false'. Refute it at one input. -/
def bitvWidthsWrong : ChangeSpec := { name := "bitvWidths", fn := fun _ => fun
  | [d1, d2, d3, d4] => { results := [.lit (.bool false)], args := [d1, d2, d3, d4] }
  | _ => none }
def BitvWidthsWrongFalsely : Prop := bitvWidthsRow.holds Try.pinned (OpenSpec.ofChange bitvWidthsWrong)

/-- 'filigreelaw01.BitvMay': WHATEVER THE INPUT: true; the input reads as it did. -/
def bitvMaySpec : ChangeSpec := { name := "bitvMay", fn := fun _ => fun
  | [d1, d2, d3, d4, d5] => { results := [.lit (.bool true)], args := [d1, d2, d3, d4, d5] }
  | _ => none }
def bitvMayRow : OpenClaim := { program := "ytafhnkhcbfilaaa", sum := "af594bd55381cfad9f77117dd75a59b24a33516e62eb8d5607db6427789f6dcd", func := "filigree/filigreelaw01.BitvMay", spec := "bitvMay", unfollowed := true, recurses := true, apart := false }
def BitvMaySaid : Prop := bitvMayRow.holds Try.pinned (OpenSpec.ofChange bitvMaySpec)

/-- ITS FALSE NEIGHBOUR: 'it returns false'. Refute it at one input. -/
def bitvMayWrong : ChangeSpec := { name := "bitvMay", fn := fun _ => fun
  | [d1, d2, d3, d4, d5] => { results := [.lit (.bool false)], args := [d1, d2, d3, d4, d5] }
  | _ => none }
def BitvMayWrongFalsely : Prop := bitvMayRow.holds Try.pinned (OpenSpec.ofChange bitvMayWrong)

/- THE SECOND FORM. 'bulk': how many values and letters a reading holds, each counted each time it is reached (what is shared counts as often as it is met; a slice's spare places count too). A statement '..UptoSaid' is the law's where the arguments, and the package variables that the reading takes, are together of bulk at most 1048576: NARROWER than '..Said'. Prove '..Said' where nothing that the law and all that it calls make is longer than what came in: it says more and counts as full. Else prove '..UptoSaid'. A law counts once. -/
mutual
def uptoBulk {H : Type} : DataW H → Nat
  | .lit (.string bytes) => bytes.length + 1
  | .lit _ => 1
  | .nil => 1
  | .ptr d => uptoBulk d + 1
  | .slice elems spare => uptoBulkAll elems + uptoBulkAll spare + 1
  | .agg parts => uptoBulkAll parts + 1
  | .iface _ d => uptoBulk d + 1
  | .map entries => uptoBulkEntries entries + 1
  | .held _ => 1
def uptoBulkAll {H : Type} : List (DataW H) → Nat
  | [] => 0
  | d :: r => uptoBulk d + uptoBulkAll r
def uptoBulkEntries {H : Type} : List (Lit × DataW H) → Nat
  | [] => 0
  | x :: r => uptoBulkEntry x + uptoBulkEntries r
def uptoBulkEntry {H : Type} : Lit × DataW H → Nat
  | (.string bytes, d) => bytes.length + uptoBulk d + 1
  | (_, d) => uptoBulk d + 1
 end
def uptoSmall : (H : Type) → List (DataW H) → Bool := fun _ ds => decide (uptoBulkAll ds ≤ 1048576)
def OpenSpec.upto (s : _root_.Go.ChangeSpec) : _root_.Go.OpenSpec := { _root_.Go.OpenSpec.ofChange s with cond := some uptoSmall }

/-- 'filigreelaw01.BitvTells', WHERE WHAT IT READS IS OF BULK AT MOST 1048576: true; the input reads as it did. -/
def bitvTellsUptoRow : OpenClaim := { program := "ytafhnkhcbfilaaa", sum := "af594bd55381cfad9f77117dd75a59b24a33516e62eb8d5607db6427789f6dcd", func := "filigree/filigreelaw01.BitvTells", spec := "bitvTells", unfollowed := true, recurses := true, apart := false, narrowed := true }
def BitvTellsUptoSaid : Prop := bitvTellsUptoRow.holds Try.pinned (OpenSpec.upto bitvTellsSpec)

/-- 'filigreelaw01.BitvPairs', WHERE WHAT IT READS IS OF BULK AT MOST 1048576: true; the input reads as it did. -/
def bitvPairsUptoRow : OpenClaim := { program := "ytafhnkhcbfilaaa", sum := "af594bd55381cfad9f77117dd75a59b24a33516e62eb8d5607db6427789f6dcd", func := "filigree/filigreelaw01.BitvPairs", spec := "bitvPairs", unfollowed := true, recurses := true, apart := false, narrowed := true }
def BitvPairsUptoSaid : Prop := bitvPairsUptoRow.holds Try.pinned (OpenSpec.upto bitvPairsSpec)

/-- 'filigreelaw01.BitvCats', WHERE WHAT IT READS IS OF BULK AT MOST 1048576: true; the input reads as it did. -/
def bitvCatsUptoRow : OpenClaim := { program := "ytafhnkhcbfilaaa", sum := "af594bd55381cfad9f77117dd75a59b24a33516e62eb8d5607db6427789f6dcd", func := "filigree/filigreelaw01.BitvCats", spec := "bitvCats", unfollowed := true, recurses := true, apart := false, narrowed := true }
def BitvCatsUptoSaid : Prop := bitvCatsUptoRow.holds Try.pinned (OpenSpec.upto bitvCatsSpec)

/-- 'filigreelaw01.BitvRing', WHERE WHAT IT READS IS OF BULK AT MOST 1048576: true; the input reads as it did. -/
def bitvRingUptoRow : OpenClaim := { program := "ytafhnkhcbfilaaa", sum := "af594bd55381cfad9f77117dd75a59b24a33516e62eb8d5607db6427789f6dcd", func := "filigree/filigreelaw01.BitvRing", spec := "bitvRing", unfollowed := true, recurses := true, apart := false, narrowed := true }
def BitvRingUptoSaid : Prop := bitvRingUptoRow.holds Try.pinned (OpenSpec.upto bitvRingSpec)

/-- 'filigreelaw01.BitvSets', WHERE WHAT IT READS IS OF BULK AT MOST 1048576: true; the input reads as it did. -/
def bitvSetsUptoRow : OpenClaim := { program := "ytafhnkhcbfilaaa", sum := "af594bd55381cfad9f77117dd75a59b24a33516e62eb8d5607db6427789f6dcd", func := "filigree/filigreelaw01.BitvSets", spec := "bitvSets", unfollowed := true, recurses := true, apart := false, narrowed := true }
def BitvSetsUptoSaid : Prop := bitvSetsUptoRow.holds Try.pinned (OpenSpec.upto bitvSetsSpec)

/-- 'filigreelaw01.BitvOrders', WHERE WHAT IT READS IS OF BULK AT MOST 1048576: true; the input reads as it did. -/
def bitvOrdersUptoRow : OpenClaim := { program := "ytafhnkhcbfilaaa", sum := "af594bd55381cfad9f77117dd75a59b24a33516e62eb8d5607db6427789f6dcd", func := "filigree/filigreelaw01.BitvOrders", spec := "bitvOrders", unfollowed := true, recurses := true, apart := false, narrowed := true }
def BitvOrdersUptoSaid : Prop := bitvOrdersUptoRow.holds Try.pinned (OpenSpec.upto bitvOrdersSpec)

/-- 'filigreelaw01.BitvSlices', WHERE WHAT IT READS IS OF BULK AT MOST 1048576: true; the input reads as it did. -/
def bitvSlicesUptoRow : OpenClaim := { program := "ytafhnkhcbfilaaa", sum := "af594bd55381cfad9f77117dd75a59b24a33516e62eb8d5607db6427789f6dcd", func := "filigree/filigreelaw01.BitvSlices", spec := "bitvSlices", unfollowed := true, recurses := true, apart := false, narrowed := true }
def BitvSlicesUptoSaid : Prop := bitvSlicesUptoRow.holds Try.pinned (OpenSpec.upto bitvSlicesSpec)

/-- 'filigreelaw01.BitvShifts', WHERE WHAT IT READS IS OF BULK AT MOST 1048576: true; the input reads as it did. -/
def bitvShiftsUptoRow : OpenClaim := { program := "ytafhnkhcbfilaaa", sum := "af594bd55381cfad9f77117dd75a59b24a33516e62eb8d5607db6427789f6dcd", func := "filigree/filigreelaw01.BitvShifts", spec := "bitvShifts", unfollowed := true, recurses := true, apart := false, narrowed := true }
def BitvShiftsUptoSaid : Prop := bitvShiftsUptoRow.holds Try.pinned (OpenSpec.upto bitvShiftsSpec)

/-- 'filigreelaw01.BitvWidths', WHERE WHAT IT READS IS OF BULK AT MOST 1048576: true; the input reads as it did. -/
def bitvWidthsUptoRow : OpenClaim := { program := "ytafhnkhcbfilaaa", sum := "af594bd55381cfad9f77117dd75a59b24a33516e62eb8d5607db6427789f6dcd", func := "filigree/filigreelaw01.BitvWidths", spec := "bitvWidths", unfollowed := true, recurses := true, apart := false, narrowed := true }
def BitvWidthsUptoSaid : Prop := bitvWidthsUptoRow.holds Try.pinned (OpenSpec.upto bitvWidthsSpec)

/-- 'filigreelaw01.BitvMay', WHERE WHAT IT READS IS OF BULK AT MOST 1048576: true; the input reads as it did. -/
def bitvMayUptoRow : OpenClaim := { program := "ytafhnkhcbfilaaa", sum := "af594bd55381cfad9f77117dd75a59b24a33516e62eb8d5607db6427789f6dcd", func := "filigree/filigreelaw01.BitvMay", spec := "bitvMay", unfollowed := true, recurses := true, apart := false, narrowed := true }
def BitvMayUptoSaid : Prop := bitvMayUptoRow.holds Try.pinned (OpenSpec.upto bitvMaySpec)

end Rows
end Go.Proofs.Ytafhnkhcbfilaaa
