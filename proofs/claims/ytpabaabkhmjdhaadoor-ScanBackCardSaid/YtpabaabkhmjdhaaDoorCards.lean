/-
  DERIVED. GIVEN WITH THE SEED: THE CARDS: each row of YtpabaabkhmjdhaaDoorRows.lean that lists a variable, with what it lists TIED to the program's text (the seventh form; the later family's looks); each row that meets fmt, with fmt's text TOLD by the authors' own Lean function (tested against real Go, not proved from fmt's source: count such statements apart). THE CARD IS WHAT COUNTS. Prove the row's statement (the work); the ties are given (YtpabaabkhmjdhaaDoorTie.lean); close each card by the builder's one call (the guide's Derived/Test/ToyasCard.lean, 'card_holds'). Laid BY PROGRAM, IN A SANDBOX (cutbox-door.mjs). By AI agents, Wed Nov 11 2026. No macro, syntax, notation, axiom, sorry.
-/
import Derived.Test.YtpabaabkhmjdhaaDoorRows
import GoSem.ClaimSeven
namespace Go.Proofs.YtpabaabkhmjdhaaDoor
namespace Rows

/-- THE TIED CARD OF 'filigreelaw02.ScanTells'. -/
def scanTellsCard : Claim7 := { stood := { row := scanTellsRow, standIns := [], harness := (true, "a6561bb8b4103c5a82c7457e9f51e02e791f545291172f69be17643dfd942eb7"), looks := false }, kinds := [], alts := [], laidByText := true, laidKinds := [.data, .data, .data, .data, .pinned], laidTests := true, laidLooks := .later }
def ScanTellsCardSaid : Prop := Claim7.holds Tryd.pinned (.plain (OpenSpec.ofChange scanTellsSpec)) scanTellsCard

/-- THE TIED CARD OF 'filigreelaw02.ScanChecks'. -/
def scanChecksCard : Claim7 := { stood := { row := scanChecksRow, standIns := [], harness := (true, "a6561bb8b4103c5a82c7457e9f51e02e791f545291172f69be17643dfd942eb7"), looks := false }, kinds := [], alts := [], laidByText := true, laidKinds := [.data, .data, .data, .data, .pinned], laidTests := true, laidLooks := .later }
def ScanChecksCardSaid : Prop := Claim7.holds Tryd.pinned (.plain (OpenSpec.ofChange scanChecksSpec)) scanChecksCard

/-- THE TIED CARD OF 'filigreelaw02.ScanWrites'. -/
def scanWritesCard : Claim7 := { stood := { row := scanWritesRow, standIns := [], harness := (true, "a6561bb8b4103c5a82c7457e9f51e02e791f545291172f69be17643dfd942eb7"), looks := false }, kinds := [], alts := [], laidByText := true, laidKinds := [.data, .data, .data, .data, .pinned], laidTests := true, laidLooks := .later }
def ScanWritesCardSaid : Prop := Claim7.holds Tryd.pinned (.plain (OpenSpec.ofChange scanWritesSpec)) scanWritesCard

/-- THE TIED CARD OF 'filigreelaw02.ScanBack'. -/
def scanBackCard : Claim7 := { stood := { row := scanBackRow, standIns := [], harness := (true, "a6561bb8b4103c5a82c7457e9f51e02e791f545291172f69be17643dfd942eb7"), looks := false }, kinds := [], alts := [], laidByText := true, laidKinds := [.data, .data, .data, .data, .pinned], laidTests := true, laidLooks := .later }
def ScanBackCardSaid : Prop := Claim7.holds Tryd.pinned (.plain (OpenSpec.ofChange scanBackSpec)) scanBackCard

/-- THE TIED CARD OF 'filigreelaw02.ScanAgain'. -/
def scanAgainCard : Claim7 := { stood := { row := scanAgainRow, standIns := [], harness := (true, "a6561bb8b4103c5a82c7457e9f51e02e791f545291172f69be17643dfd942eb7"), looks := false }, kinds := [], alts := [], laidByText := true, laidKinds := [.data, .data, .data, .data, .pinned], laidTests := true, laidLooks := .later }
def ScanAgainCardSaid : Prop := Claim7.holds Tryd.pinned (.plain (OpenSpec.ofChange scanAgainSpec)) scanAgainCard

/-- THE TIED CARD OF 'filigreelaw02.ScanRight'. -/
def scanRightCard : Claim7 := { stood := { row := scanRightRow, standIns := [], harness := (true, "a6561bb8b4103c5a82c7457e9f51e02e791f545291172f69be17643dfd942eb7"), looks := false }, kinds := [], alts := [], laidByText := true, laidKinds := [.data, .data, .data, .data, .pinned], laidTests := true, laidLooks := .later }
def ScanRightCardSaid : Prop := Claim7.holds Tryd.pinned (.plain (OpenSpec.ofChange scanRightSpec)) scanRightCard

/-- THE TIED CARD OF 'filigreelaw02.ScanLines'. -/
def scanLinesCard : Claim7 := { stood := { row := scanLinesRow, standIns := [], harness := (true, "a6561bb8b4103c5a82c7457e9f51e02e791f545291172f69be17643dfd942eb7"), looks := false }, kinds := [], alts := [], laidByText := true, laidKinds := [.data, .data, .data, .data, .pinned], laidTests := true, laidLooks := .later }
def ScanLinesCardSaid : Prop := Claim7.holds Tryd.pinned (.plain (OpenSpec.ofChange scanLinesSpec)) scanLinesCard

/-- THE TIED CARD OF 'filigreelaw02.ScanWrong'. -/
def scanWrongCard : Claim7 := { stood := { row := scanWrongRow, standIns := [], harness := (true, "a6561bb8b4103c5a82c7457e9f51e02e791f545291172f69be17643dfd942eb7"), looks := false }, kinds := [], alts := [], laidByText := true, laidKinds := [.data, .data, .data, .data, .pinned], laidTests := true, laidLooks := .later }
def ScanWrongCardSaid : Prop := Claim7.holds Tryd.pinned (.plain (OpenSpec.ofChange scanWrongSpec)) scanWrongCard

/-- THE TIED CARD OF 'filigreelaw02.ScanNames'. -/
def scanNamesCard : Claim7 := { stood := { row := scanNamesRow, standIns := [], harness := (true, "a6561bb8b4103c5a82c7457e9f51e02e791f545291172f69be17643dfd942eb7"), looks := false }, kinds := [], alts := [], laidByText := true, laidKinds := [.data, .data, .data, .data, .pinned], laidTests := true, laidLooks := .later }
def ScanNamesCardSaid : Prop := Claim7.holds Tryd.pinned (.plain (OpenSpec.ofChange scanNamesSpec)) scanNamesCard

/-- THE TIED CARD OF 'filigreelaw02.ScanNumbers'. -/
def scanNumbersCard : Claim7 := { stood := { row := scanNumbersRow, standIns := [], harness := (true, "a6561bb8b4103c5a82c7457e9f51e02e791f545291172f69be17643dfd942eb7"), looks := false }, kinds := [], alts := [], laidByText := true, laidKinds := [.data, .data, .data, .data, .pinned], laidTests := true, laidLooks := .later }
def ScanNumbersCardSaid : Prop := Claim7.holds Tryd.pinned (.plain (OpenSpec.ofChange scanNumbersSpec)) scanNumbersCard

/-- THE SECOND FORM's CARD OF 'filigreelaw02.ScanTells'. -/
def scanTellsUptoCard : Claim7 := { stood := { row := scanTellsUptoRow, standIns := [], harness := (true, "a6561bb8b4103c5a82c7457e9f51e02e791f545291172f69be17643dfd942eb7"), looks := false }, kinds := [], alts := [], laidByText := true, laidKinds := [.data, .data, .data, .data, .pinned], laidTests := true, laidLooks := .later }
def ScanTellsUptoCardSaid : Prop := Claim7.holds Tryd.pinned (.plain (OpenSpec.upto scanTellsSpec)) scanTellsUptoCard

/-- THE SECOND FORM's CARD OF 'filigreelaw02.ScanChecks'. -/
def scanChecksUptoCard : Claim7 := { stood := { row := scanChecksUptoRow, standIns := [], harness := (true, "a6561bb8b4103c5a82c7457e9f51e02e791f545291172f69be17643dfd942eb7"), looks := false }, kinds := [], alts := [], laidByText := true, laidKinds := [.data, .data, .data, .data, .pinned], laidTests := true, laidLooks := .later }
def ScanChecksUptoCardSaid : Prop := Claim7.holds Tryd.pinned (.plain (OpenSpec.upto scanChecksSpec)) scanChecksUptoCard

/-- THE SECOND FORM's CARD OF 'filigreelaw02.ScanWrites'. -/
def scanWritesUptoCard : Claim7 := { stood := { row := scanWritesUptoRow, standIns := [], harness := (true, "a6561bb8b4103c5a82c7457e9f51e02e791f545291172f69be17643dfd942eb7"), looks := false }, kinds := [], alts := [], laidByText := true, laidKinds := [.data, .data, .data, .data, .pinned], laidTests := true, laidLooks := .later }
def ScanWritesUptoCardSaid : Prop := Claim7.holds Tryd.pinned (.plain (OpenSpec.upto scanWritesSpec)) scanWritesUptoCard

/-- THE SECOND FORM's CARD OF 'filigreelaw02.ScanBack'. -/
def scanBackUptoCard : Claim7 := { stood := { row := scanBackUptoRow, standIns := [], harness := (true, "a6561bb8b4103c5a82c7457e9f51e02e791f545291172f69be17643dfd942eb7"), looks := false }, kinds := [], alts := [], laidByText := true, laidKinds := [.data, .data, .data, .data, .pinned], laidTests := true, laidLooks := .later }
def ScanBackUptoCardSaid : Prop := Claim7.holds Tryd.pinned (.plain (OpenSpec.upto scanBackSpec)) scanBackUptoCard

/-- THE SECOND FORM's CARD OF 'filigreelaw02.ScanAgain'. -/
def scanAgainUptoCard : Claim7 := { stood := { row := scanAgainUptoRow, standIns := [], harness := (true, "a6561bb8b4103c5a82c7457e9f51e02e791f545291172f69be17643dfd942eb7"), looks := false }, kinds := [], alts := [], laidByText := true, laidKinds := [.data, .data, .data, .data, .pinned], laidTests := true, laidLooks := .later }
def ScanAgainUptoCardSaid : Prop := Claim7.holds Tryd.pinned (.plain (OpenSpec.upto scanAgainSpec)) scanAgainUptoCard

/-- THE SECOND FORM's CARD OF 'filigreelaw02.ScanRight'. -/
def scanRightUptoCard : Claim7 := { stood := { row := scanRightUptoRow, standIns := [], harness := (true, "a6561bb8b4103c5a82c7457e9f51e02e791f545291172f69be17643dfd942eb7"), looks := false }, kinds := [], alts := [], laidByText := true, laidKinds := [.data, .data, .data, .data, .pinned], laidTests := true, laidLooks := .later }
def ScanRightUptoCardSaid : Prop := Claim7.holds Tryd.pinned (.plain (OpenSpec.upto scanRightSpec)) scanRightUptoCard

/-- THE SECOND FORM's CARD OF 'filigreelaw02.ScanLines'. -/
def scanLinesUptoCard : Claim7 := { stood := { row := scanLinesUptoRow, standIns := [], harness := (true, "a6561bb8b4103c5a82c7457e9f51e02e791f545291172f69be17643dfd942eb7"), looks := false }, kinds := [], alts := [], laidByText := true, laidKinds := [.data, .data, .data, .data, .pinned], laidTests := true, laidLooks := .later }
def ScanLinesUptoCardSaid : Prop := Claim7.holds Tryd.pinned (.plain (OpenSpec.upto scanLinesSpec)) scanLinesUptoCard

/-- THE SECOND FORM's CARD OF 'filigreelaw02.ScanWrong'. -/
def scanWrongUptoCard : Claim7 := { stood := { row := scanWrongUptoRow, standIns := [], harness := (true, "a6561bb8b4103c5a82c7457e9f51e02e791f545291172f69be17643dfd942eb7"), looks := false }, kinds := [], alts := [], laidByText := true, laidKinds := [.data, .data, .data, .data, .pinned], laidTests := true, laidLooks := .later }
def ScanWrongUptoCardSaid : Prop := Claim7.holds Tryd.pinned (.plain (OpenSpec.upto scanWrongSpec)) scanWrongUptoCard

/-- THE SECOND FORM's CARD OF 'filigreelaw02.ScanNames'. -/
def scanNamesUptoCard : Claim7 := { stood := { row := scanNamesUptoRow, standIns := [], harness := (true, "a6561bb8b4103c5a82c7457e9f51e02e791f545291172f69be17643dfd942eb7"), looks := false }, kinds := [], alts := [], laidByText := true, laidKinds := [.data, .data, .data, .data, .pinned], laidTests := true, laidLooks := .later }
def ScanNamesUptoCardSaid : Prop := Claim7.holds Tryd.pinned (.plain (OpenSpec.upto scanNamesSpec)) scanNamesUptoCard

/-- THE SECOND FORM's CARD OF 'filigreelaw02.ScanNumbers'. -/
def scanNumbersUptoCard : Claim7 := { stood := { row := scanNumbersUptoRow, standIns := [], harness := (true, "a6561bb8b4103c5a82c7457e9f51e02e791f545291172f69be17643dfd942eb7"), looks := false }, kinds := [], alts := [], laidByText := true, laidKinds := [.data, .data, .data, .data, .pinned], laidTests := true, laidLooks := .later }
def ScanNumbersUptoCardSaid : Prop := Claim7.holds Tryd.pinned (.plain (OpenSpec.upto scanNumbersSpec)) scanNumbersUptoCard
end Rows
end Go.Proofs.YtpabaabkhmjdhaaDoor
