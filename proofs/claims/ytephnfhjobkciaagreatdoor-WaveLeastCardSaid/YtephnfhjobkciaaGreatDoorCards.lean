/-
  DERIVED. GIVEN WITH THE SEED: THE CARDS: each row of YtephnfhjobkciaaGreatDoorRows.lean that lists a variable, with what it lists TIED to the program's text (the seventh form; the later family's looks); each row that meets fmt, with fmt's text TOLD by the authors' own Lean function (tested against real Go, not proved from fmt's source: count such statements apart). THE CARD IS WHAT COUNTS. Prove the row's statement (the work); the ties are given (YtephnfhjobkciaaGreatDoorTie.lean); close each card by the builder's one call (the guide's Derived/Test/ToyasCard.lean, 'card_holds'). Laid BY PROGRAM, IN A SANDBOX (cutbox-door.mjs). By AI agents, Wed Nov 11 2026. No macro, syntax, notation, axiom, sorry.
-/
import Derived.Test.YtephnfhjobkciaaGreatDoorRows
import GoSem.ClaimSeven
namespace Go.Proofs.YtephnfhjobkciaaGreatDoor
namespace Rows

/-- THE TIED CARD OF 'filigreelaw16.WaveTells'. -/
def waveTellsCard : Claim7 := { stood := { row := waveTellsRow, standIns := [], harness := (true, "918acf095409da7f7b1b1aaee4d3170bb03572345ec4439b361e051d3ccc5656"), looks := true }, kinds := [], alts := [], laidByText := true, laidKinds := [.data, .data, .data, .data, .sentinel, .sentinel, .sentinel, .pinned], laidTests := true, laidLooks := .later }
def WaveTellsCardSaid : Prop := Claim7.holds Tryz.pinned (.plain (OpenSpec.ofChange waveTellsSpec)) waveTellsCard

/-- THE TIED CARD OF 'filigreelaw16.WaveMakes'. -/
def waveMakesCard : Claim7 := { stood := { row := waveMakesRow, standIns := [], harness := (true, "918acf095409da7f7b1b1aaee4d3170bb03572345ec4439b361e051d3ccc5656"), looks := true }, kinds := [], alts := [], laidByText := true, laidKinds := [.data, .data, .data, .data, .sentinel, .sentinel, .sentinel, .pinned], laidTests := true, laidLooks := .later }
def WaveMakesCardSaid : Prop := Claim7.holds Tryz.pinned (.plain (OpenSpec.ofChange waveMakesSpec)) waveMakesCard

/-- THE TIED CARD OF 'filigreelaw16.WaveRows'. -/
def waveRowsCard : Claim7 := { stood := { row := waveRowsRow, standIns := [], harness := (true, "918acf095409da7f7b1b1aaee4d3170bb03572345ec4439b361e051d3ccc5656"), looks := true }, kinds := [], alts := [], laidByText := true, laidKinds := [.data, .data, .data, .data, .sentinel, .sentinel, .sentinel, .pinned], laidTests := true, laidLooks := .later }
def WaveRowsCardSaid : Prop := Claim7.holds Tryz.pinned (.plain (OpenSpec.ofChange waveRowsSpec)) waveRowsCard

/-- THE TIED CARD OF 'filigreelaw16.WaveGets'. -/
def waveGetsCard : Claim7 := { stood := { row := waveGetsRow, standIns := [], harness := (true, "918acf095409da7f7b1b1aaee4d3170bb03572345ec4439b361e051d3ccc5656"), looks := true }, kinds := [], alts := [], laidByText := true, laidKinds := [.data, .data, .data, .data, .sentinel, .sentinel, .sentinel, .pinned], laidTests := true, laidLooks := .later }
def WaveGetsCardSaid : Prop := Claim7.holds Tryz.pinned (.plain (OpenSpec.ofChange waveGetsSpec)) waveGetsCard

/-- THE TIED CARD OF 'filigreelaw16.WaveBack'. -/
def waveBackCard : Claim7 := { stood := { row := waveBackRow, standIns := [], harness := (true, "918acf095409da7f7b1b1aaee4d3170bb03572345ec4439b361e051d3ccc5656"), looks := true }, kinds := [], alts := [], laidByText := true, laidKinds := [.data, .data, .data, .data, .sentinel, .sentinel, .sentinel, .pinned], laidTests := true, laidLooks := .later }
def WaveBackCardSaid : Prop := Claim7.holds Tryz.pinned (.plain (OpenSpec.ofChange waveBackSpec)) waveBackCard

/-- THE TIED CARD OF 'filigreelaw16.WaveOne'. -/
def waveOneCard : Claim7 := { stood := { row := waveOneRow, standIns := [], harness := (true, "918acf095409da7f7b1b1aaee4d3170bb03572345ec4439b361e051d3ccc5656"), looks := true }, kinds := [], alts := [], laidByText := true, laidKinds := [.data, .data, .data, .data, .sentinel, .sentinel, .sentinel, .pinned], laidTests := true, laidLooks := .later }
def WaveOneCardSaid : Prop := Claim7.holds Tryz.pinned (.plain (OpenSpec.ofChange waveOneSpec)) waveOneCard

/-- THE TIED CARD OF 'filigreelaw16.WaveAt'. -/
def waveAtCard : Claim7 := { stood := { row := waveAtRow, standIns := [], harness := (true, "918acf095409da7f7b1b1aaee4d3170bb03572345ec4439b361e051d3ccc5656"), looks := true }, kinds := [], alts := [], laidByText := true, laidKinds := [.data, .data, .data, .data, .sentinel, .sentinel, .sentinel, .pinned], laidTests := true, laidLooks := .later }
def WaveAtCardSaid : Prop := Claim7.holds Tryz.pinned (.plain (OpenSpec.ofChange waveAtSpec)) waveAtCard

/-- THE TIED CARD OF 'filigreelaw16.WaveLeast'. -/
def waveLeastCard : Claim7 := { stood := { row := waveLeastRow, standIns := [], harness := (true, "918acf095409da7f7b1b1aaee4d3170bb03572345ec4439b361e051d3ccc5656"), looks := true }, kinds := [], alts := [], laidByText := true, laidKinds := [.data, .data, .data, .data, .sentinel, .sentinel, .sentinel, .pinned], laidTests := true, laidLooks := .later }
def WaveLeastCardSaid : Prop := Claim7.holds Tryz.pinned (.plain (OpenSpec.ofChange waveLeastSpec)) waveLeastCard

/-- THE TIED CARD OF 'filigreelaw16.WaveLonger'. -/
def waveLongerCard : Claim7 := { stood := { row := waveLongerRow, standIns := [], harness := (true, "918acf095409da7f7b1b1aaee4d3170bb03572345ec4439b361e051d3ccc5656"), looks := true }, kinds := [], alts := [], laidByText := true, laidKinds := [.data, .data, .data, .data, .sentinel, .sentinel, .sentinel, .pinned], laidTests := true, laidLooks := .later }
def WaveLongerCardSaid : Prop := Claim7.holds Tryz.pinned (.plain (OpenSpec.ofChange waveLongerSpec)) waveLongerCard

/-- THE SECOND FORM's CARD OF 'filigreelaw16.WaveTells'. -/
def waveTellsUptoCard : Claim7 := { stood := { row := waveTellsUptoRow, standIns := [], harness := (true, "918acf095409da7f7b1b1aaee4d3170bb03572345ec4439b361e051d3ccc5656"), looks := true }, kinds := [], alts := [], laidByText := true, laidKinds := [.data, .data, .data, .data, .sentinel, .sentinel, .sentinel, .pinned], laidTests := true, laidLooks := .later }
def WaveTellsUptoCardSaid : Prop := Claim7.holds Tryz.pinned (.plain (OpenSpec.upto waveTellsSpec)) waveTellsUptoCard

/-- THE SECOND FORM's CARD OF 'filigreelaw16.WaveMakes'. -/
def waveMakesUptoCard : Claim7 := { stood := { row := waveMakesUptoRow, standIns := [], harness := (true, "918acf095409da7f7b1b1aaee4d3170bb03572345ec4439b361e051d3ccc5656"), looks := true }, kinds := [], alts := [], laidByText := true, laidKinds := [.data, .data, .data, .data, .sentinel, .sentinel, .sentinel, .pinned], laidTests := true, laidLooks := .later }
def WaveMakesUptoCardSaid : Prop := Claim7.holds Tryz.pinned (.plain (OpenSpec.upto waveMakesSpec)) waveMakesUptoCard

/-- THE SECOND FORM's CARD OF 'filigreelaw16.WaveRows'. -/
def waveRowsUptoCard : Claim7 := { stood := { row := waveRowsUptoRow, standIns := [], harness := (true, "918acf095409da7f7b1b1aaee4d3170bb03572345ec4439b361e051d3ccc5656"), looks := true }, kinds := [], alts := [], laidByText := true, laidKinds := [.data, .data, .data, .data, .sentinel, .sentinel, .sentinel, .pinned], laidTests := true, laidLooks := .later }
def WaveRowsUptoCardSaid : Prop := Claim7.holds Tryz.pinned (.plain (OpenSpec.upto waveRowsSpec)) waveRowsUptoCard

/-- THE SECOND FORM's CARD OF 'filigreelaw16.WaveGets'. -/
def waveGetsUptoCard : Claim7 := { stood := { row := waveGetsUptoRow, standIns := [], harness := (true, "918acf095409da7f7b1b1aaee4d3170bb03572345ec4439b361e051d3ccc5656"), looks := true }, kinds := [], alts := [], laidByText := true, laidKinds := [.data, .data, .data, .data, .sentinel, .sentinel, .sentinel, .pinned], laidTests := true, laidLooks := .later }
def WaveGetsUptoCardSaid : Prop := Claim7.holds Tryz.pinned (.plain (OpenSpec.upto waveGetsSpec)) waveGetsUptoCard

/-- THE SECOND FORM's CARD OF 'filigreelaw16.WaveBack'. -/
def waveBackUptoCard : Claim7 := { stood := { row := waveBackUptoRow, standIns := [], harness := (true, "918acf095409da7f7b1b1aaee4d3170bb03572345ec4439b361e051d3ccc5656"), looks := true }, kinds := [], alts := [], laidByText := true, laidKinds := [.data, .data, .data, .data, .sentinel, .sentinel, .sentinel, .pinned], laidTests := true, laidLooks := .later }
def WaveBackUptoCardSaid : Prop := Claim7.holds Tryz.pinned (.plain (OpenSpec.upto waveBackSpec)) waveBackUptoCard

/-- THE SECOND FORM's CARD OF 'filigreelaw16.WaveOne'. -/
def waveOneUptoCard : Claim7 := { stood := { row := waveOneUptoRow, standIns := [], harness := (true, "918acf095409da7f7b1b1aaee4d3170bb03572345ec4439b361e051d3ccc5656"), looks := true }, kinds := [], alts := [], laidByText := true, laidKinds := [.data, .data, .data, .data, .sentinel, .sentinel, .sentinel, .pinned], laidTests := true, laidLooks := .later }
def WaveOneUptoCardSaid : Prop := Claim7.holds Tryz.pinned (.plain (OpenSpec.upto waveOneSpec)) waveOneUptoCard

/-- THE SECOND FORM's CARD OF 'filigreelaw16.WaveAt'. -/
def waveAtUptoCard : Claim7 := { stood := { row := waveAtUptoRow, standIns := [], harness := (true, "918acf095409da7f7b1b1aaee4d3170bb03572345ec4439b361e051d3ccc5656"), looks := true }, kinds := [], alts := [], laidByText := true, laidKinds := [.data, .data, .data, .data, .sentinel, .sentinel, .sentinel, .pinned], laidTests := true, laidLooks := .later }
def WaveAtUptoCardSaid : Prop := Claim7.holds Tryz.pinned (.plain (OpenSpec.upto waveAtSpec)) waveAtUptoCard

/-- THE SECOND FORM's CARD OF 'filigreelaw16.WaveLeast'. -/
def waveLeastUptoCard : Claim7 := { stood := { row := waveLeastUptoRow, standIns := [], harness := (true, "918acf095409da7f7b1b1aaee4d3170bb03572345ec4439b361e051d3ccc5656"), looks := true }, kinds := [], alts := [], laidByText := true, laidKinds := [.data, .data, .data, .data, .sentinel, .sentinel, .sentinel, .pinned], laidTests := true, laidLooks := .later }
def WaveLeastUptoCardSaid : Prop := Claim7.holds Tryz.pinned (.plain (OpenSpec.upto waveLeastSpec)) waveLeastUptoCard

/-- THE SECOND FORM's CARD OF 'filigreelaw16.WaveLonger'. -/
def waveLongerUptoCard : Claim7 := { stood := { row := waveLongerUptoRow, standIns := [], harness := (true, "918acf095409da7f7b1b1aaee4d3170bb03572345ec4439b361e051d3ccc5656"), looks := true }, kinds := [], alts := [], laidByText := true, laidKinds := [.data, .data, .data, .data, .sentinel, .sentinel, .sentinel, .pinned], laidTests := true, laidLooks := .later }
def WaveLongerUptoCardSaid : Prop := Claim7.holds Tryz.pinned (.plain (OpenSpec.upto waveLongerSpec)) waveLongerUptoCard
end Rows
end Go.Proofs.YtephnfhjobkciaaGreatDoor
