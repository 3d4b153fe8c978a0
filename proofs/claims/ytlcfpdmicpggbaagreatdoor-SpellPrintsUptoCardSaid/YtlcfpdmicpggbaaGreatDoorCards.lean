/-
  DERIVED. GIVEN WITH THE SEED: THE CARDS: each row of YtlcfpdmicpggbaaGreatDoorRows.lean that lists a variable, with what it lists TIED to the program's text (the seventh form; the later family's looks); each row that meets fmt, with fmt's text TOLD by the authors' own Lean function (tested against real Go, not proved from fmt's source: count such statements apart). THE CARD IS WHAT COUNTS. Prove the row's statement (the work); the ties are given (YtlcfpdmicpggbaaGreatDoorTie.lean); close each card by the builder's one call (the guide's Derived/Test/ToyasCard.lean, 'card_holds'). Laid BY PROGRAM, IN A SANDBOX (cutbox-door.mjs). By AI agents, Wed Nov 11 2026. No macro, syntax, notation, axiom, sorry.
-/
import Derived.Test.YtlcfpdmicpggbaaGreatDoorRows
import GoSem.ClaimSeven
namespace Go.Proofs.YtlcfpdmicpggbaaGreatDoor
namespace Rows

/-- THE TIED CARD OF 'filigreelaw04.SpellTells'. -/
def spellTellsCard : Claim7 := { stood := { row := spellTellsRow, standIns := [], harness := (true, "fd076f365d0dc0e8597c236043c5d3508e46ace2c7afe82482a46aa3a1348a48"), looks := false }, kinds := [], alts := [], laidByText := true, laidKinds := [.data, .data, .data, .data, .data], laidTests := true, laidLooks := .later }
def SpellTellsCardSaid : Prop := Claim7.holds Tryz.pinned (.plain (OpenSpec.ofChange spellTellsSpec)) spellTellsCard

/-- THE TIED CARD OF 'filigreelaw04.SpellPrints'. -/
def spellPrintsCard : Claim7 := { stood := { row := spellPrintsRow, standIns := [], harness := (true, "fd076f365d0dc0e8597c236043c5d3508e46ace2c7afe82482a46aa3a1348a48"), looks := false }, kinds := [], alts := [], laidByText := true, laidKinds := [.data, .data, .data, .data, .data], laidTests := true, laidLooks := .later }
def SpellPrintsCardSaid : Prop := Claim7.holds Tryz.pinned (.plain (OpenSpec.ofChange spellPrintsSpec)) spellPrintsCard

/-- THE TIED CARD OF 'filigreelaw04.SpellModules'. -/
def spellModulesCard : Claim7 := { stood := { row := spellModulesRow, standIns := [], harness := (true, "fd076f365d0dc0e8597c236043c5d3508e46ace2c7afe82482a46aa3a1348a48"), looks := false }, kinds := [], alts := [], laidByText := true, laidKinds := [.data, .data, .data, .data, .data], laidTests := true, laidLooks := .later }
def SpellModulesCardSaid : Prop := Claim7.holds Tryz.pinned (.plain (OpenSpec.ofChange spellModulesSpec)) spellModulesCard

/-- THE TIED CARD OF 'filigreelaw04.SpellBlocks'. -/
def spellBlocksCard : Claim7 := { stood := { row := spellBlocksRow, standIns := [], harness := (true, "fd076f365d0dc0e8597c236043c5d3508e46ace2c7afe82482a46aa3a1348a48"), looks := false }, kinds := [], alts := [], laidByText := true, laidKinds := [.data, .data, .data, .data, .data], laidTests := true, laidLooks := .later }
def SpellBlocksCardSaid : Prop := Claim7.holds Tryz.pinned (.plain (OpenSpec.ofChange spellBlocksSpec)) spellBlocksCard

/-- THE TIED CARD OF 'filigreelaw04.SpellSigns'. -/
def spellSignsCard : Claim7 := { stood := { row := spellSignsRow, standIns := [], harness := (true, "fd076f365d0dc0e8597c236043c5d3508e46ace2c7afe82482a46aa3a1348a48"), looks := false }, kinds := [], alts := [], laidByText := true, laidKinds := [.data, .data, .data, .data, .data], laidTests := true, laidLooks := .later }
def SpellSignsCardSaid : Prop := Claim7.holds Tryz.pinned (.plain (OpenSpec.ofChange spellSignsSpec)) spellSignsCard

/-- THE TIED CARD OF 'filigreelaw04.SpellMay'. -/
def spellMayCard : Claim7 := { stood := { row := spellMayRow, standIns := [], harness := (true, "fd076f365d0dc0e8597c236043c5d3508e46ace2c7afe82482a46aa3a1348a48"), looks := false }, kinds := [], alts := [], laidByText := true, laidKinds := [.data, .data, .data, .data, .data], laidTests := true, laidLooks := .later }
def SpellMayCardSaid : Prop := Claim7.holds Tryz.pinned (.plain (OpenSpec.ofChange spellMaySpec)) spellMayCard

/-- THE TIED CARD OF 'filigreelaw04.SpellOne'. -/
def spellOneCard : Claim7 := { stood := { row := spellOneRow, standIns := [], harness := (true, "fd076f365d0dc0e8597c236043c5d3508e46ace2c7afe82482a46aa3a1348a48"), looks := false }, kinds := [], alts := [], laidByText := true, laidKinds := [.data, .data, .data, .data, .data], laidTests := true, laidLooks := .later }
def SpellOneCardSaid : Prop := Claim7.holds Tryz.pinned (.plain (OpenSpec.ofChange spellOneSpec)) spellOneCard

/-- THE TIED CARD OF 'filigreelaw04.SpellNames'. -/
def spellNamesCard : Claim7 := { stood := { row := spellNamesRow, standIns := [], harness := (true, "fd076f365d0dc0e8597c236043c5d3508e46ace2c7afe82482a46aa3a1348a48"), looks := false }, kinds := [], alts := [], laidByText := true, laidKinds := [.data, .data, .data, .data, .data], laidTests := true, laidLooks := .later }
def SpellNamesCardSaid : Prop := Claim7.holds Tryz.pinned (.plain (OpenSpec.ofChange spellNamesSpec)) spellNamesCard

/-- THE TIED CARD OF 'filigreelaw04.SpellScans'. -/
def spellScansCard : Claim7 := { stood := { row := spellScansRow, standIns := [], harness := (true, "fd076f365d0dc0e8597c236043c5d3508e46ace2c7afe82482a46aa3a1348a48"), looks := false }, kinds := [], alts := [], laidByText := true, laidKinds := [.data, .data, .data, .data, .data, .data, .pinned], laidTests := true, laidLooks := .later }
def SpellScansCardSaid : Prop := Claim7.holds Tryz.pinned (.plain (OpenSpec.ofChange spellScansSpec)) spellScansCard

/-- THE SECOND FORM's CARD OF 'filigreelaw04.SpellTells'. -/
def spellTellsUptoCard : Claim7 := { stood := { row := spellTellsUptoRow, standIns := [], harness := (true, "fd076f365d0dc0e8597c236043c5d3508e46ace2c7afe82482a46aa3a1348a48"), looks := false }, kinds := [], alts := [], laidByText := true, laidKinds := [.data, .data, .data, .data, .data], laidTests := true, laidLooks := .later }
def SpellTellsUptoCardSaid : Prop := Claim7.holds Tryz.pinned (.plain (OpenSpec.upto spellTellsSpec)) spellTellsUptoCard

/-- THE SECOND FORM's CARD OF 'filigreelaw04.SpellPrints'. -/
def spellPrintsUptoCard : Claim7 := { stood := { row := spellPrintsUptoRow, standIns := [], harness := (true, "fd076f365d0dc0e8597c236043c5d3508e46ace2c7afe82482a46aa3a1348a48"), looks := false }, kinds := [], alts := [], laidByText := true, laidKinds := [.data, .data, .data, .data, .data], laidTests := true, laidLooks := .later }
def SpellPrintsUptoCardSaid : Prop := Claim7.holds Tryz.pinned (.plain (OpenSpec.upto spellPrintsSpec)) spellPrintsUptoCard

/-- THE SECOND FORM's CARD OF 'filigreelaw04.SpellModules'. -/
def spellModulesUptoCard : Claim7 := { stood := { row := spellModulesUptoRow, standIns := [], harness := (true, "fd076f365d0dc0e8597c236043c5d3508e46ace2c7afe82482a46aa3a1348a48"), looks := false }, kinds := [], alts := [], laidByText := true, laidKinds := [.data, .data, .data, .data, .data], laidTests := true, laidLooks := .later }
def SpellModulesUptoCardSaid : Prop := Claim7.holds Tryz.pinned (.plain (OpenSpec.upto spellModulesSpec)) spellModulesUptoCard

/-- THE SECOND FORM's CARD OF 'filigreelaw04.SpellBlocks'. -/
def spellBlocksUptoCard : Claim7 := { stood := { row := spellBlocksUptoRow, standIns := [], harness := (true, "fd076f365d0dc0e8597c236043c5d3508e46ace2c7afe82482a46aa3a1348a48"), looks := false }, kinds := [], alts := [], laidByText := true, laidKinds := [.data, .data, .data, .data, .data], laidTests := true, laidLooks := .later }
def SpellBlocksUptoCardSaid : Prop := Claim7.holds Tryz.pinned (.plain (OpenSpec.upto spellBlocksSpec)) spellBlocksUptoCard

/-- THE SECOND FORM's CARD OF 'filigreelaw04.SpellSigns'. -/
def spellSignsUptoCard : Claim7 := { stood := { row := spellSignsUptoRow, standIns := [], harness := (true, "fd076f365d0dc0e8597c236043c5d3508e46ace2c7afe82482a46aa3a1348a48"), looks := false }, kinds := [], alts := [], laidByText := true, laidKinds := [.data, .data, .data, .data, .data], laidTests := true, laidLooks := .later }
def SpellSignsUptoCardSaid : Prop := Claim7.holds Tryz.pinned (.plain (OpenSpec.upto spellSignsSpec)) spellSignsUptoCard

/-- THE SECOND FORM's CARD OF 'filigreelaw04.SpellMay'. -/
def spellMayUptoCard : Claim7 := { stood := { row := spellMayUptoRow, standIns := [], harness := (true, "fd076f365d0dc0e8597c236043c5d3508e46ace2c7afe82482a46aa3a1348a48"), looks := false }, kinds := [], alts := [], laidByText := true, laidKinds := [.data, .data, .data, .data, .data], laidTests := true, laidLooks := .later }
def SpellMayUptoCardSaid : Prop := Claim7.holds Tryz.pinned (.plain (OpenSpec.upto spellMaySpec)) spellMayUptoCard

/-- THE SECOND FORM's CARD OF 'filigreelaw04.SpellOne'. -/
def spellOneUptoCard : Claim7 := { stood := { row := spellOneUptoRow, standIns := [], harness := (true, "fd076f365d0dc0e8597c236043c5d3508e46ace2c7afe82482a46aa3a1348a48"), looks := false }, kinds := [], alts := [], laidByText := true, laidKinds := [.data, .data, .data, .data, .data], laidTests := true, laidLooks := .later }
def SpellOneUptoCardSaid : Prop := Claim7.holds Tryz.pinned (.plain (OpenSpec.upto spellOneSpec)) spellOneUptoCard

/-- THE SECOND FORM's CARD OF 'filigreelaw04.SpellNames'. -/
def spellNamesUptoCard : Claim7 := { stood := { row := spellNamesUptoRow, standIns := [], harness := (true, "fd076f365d0dc0e8597c236043c5d3508e46ace2c7afe82482a46aa3a1348a48"), looks := false }, kinds := [], alts := [], laidByText := true, laidKinds := [.data, .data, .data, .data, .data], laidTests := true, laidLooks := .later }
def SpellNamesUptoCardSaid : Prop := Claim7.holds Tryz.pinned (.plain (OpenSpec.upto spellNamesSpec)) spellNamesUptoCard

/-- THE SECOND FORM's CARD OF 'filigreelaw04.SpellScans'. -/
def spellScansUptoCard : Claim7 := { stood := { row := spellScansUptoRow, standIns := [], harness := (true, "fd076f365d0dc0e8597c236043c5d3508e46ace2c7afe82482a46aa3a1348a48"), looks := false }, kinds := [], alts := [], laidByText := true, laidKinds := [.data, .data, .data, .data, .data, .data, .pinned], laidTests := true, laidLooks := .later }
def SpellScansUptoCardSaid : Prop := Claim7.holds Tryz.pinned (.plain (OpenSpec.upto spellScansSpec)) spellScansUptoCard
end Rows
end Go.Proofs.YtlcfpdmicpggbaaGreatDoor
