/-
  DERIVED. GIVEN WITH THE SEED: THE CARDS: each row of YtljnnegjhcdlkaaGreatDoorRows.lean that lists a variable, with what it lists TIED to the program's text (the seventh form; the later family's looks); each row that meets fmt, with fmt's text TOLD by the authors' own Lean function (tested against real Go, not proved from fmt's source: count such statements apart). THE CARD IS WHAT COUNTS. Prove the row's statement (the work); the ties are given (YtljnnegjhcdlkaaGreatDoorTie.lean); close each card by the builder's one call (the guide's Derived/Test/ToyasCard.lean, 'card_holds'). Laid BY PROGRAM, IN A SANDBOX (cutbox-door.mjs). By AI agents, Wed Nov 11 2026. No macro, syntax, notation, axiom, sorry.
-/
import Derived.Test.YtljnnegjhcdlkaaGreatDoorRows
import GoSem.ClaimSeven
namespace Go.Proofs.YtljnnegjhcdlkaaGreatDoor
namespace Rows

/-- THE TIED CARD OF 'kakugyolaw12.MateStuck'. -/
def mateStuckCard : Claim7 := { stood := { row := mateStuckRow, standIns := [], harness := (true, "e378fff5b5da1a714afd8fca40d644a928ad51864d85934c4f962c6245ceccab"), looks := false }, kinds := [], alts := [], laidByText := true, laidKinds := [.data], laidTests := true, laidLooks := .later }
def MateStuckCardSaid : Prop := Claim7.holds Tryz.pinned (.plain (OpenSpec.ofChange mateStuckSpec)) mateStuckCard

/-- THE TIED CARD OF 'kakugyolaw12.MateChecks'. -/
def mateChecksCard : Claim7 := { stood := { row := mateChecksRow, standIns := [], harness := (true, "e378fff5b5da1a714afd8fca40d644a928ad51864d85934c4f962c6245ceccab"), looks := false }, kinds := [], alts := [], laidByText := true, laidKinds := [.data], laidTests := true, laidLooks := .later }
def MateChecksCardSaid : Prop := Claim7.holds Tryz.pinned (.plain (OpenSpec.ofChange mateChecksSpec)) mateChecksCard

/-- THE TIED CARD OF 'kakugyolaw12.MateGives'. -/
def mateGivesCard : Claim7 := { stood := { row := mateGivesRow, standIns := [], harness := (true, "e378fff5b5da1a714afd8fca40d644a928ad51864d85934c4f962c6245ceccab"), looks := false }, kinds := [], alts := [], laidByText := true, laidKinds := [.data], laidTests := true, laidLooks := .later }
def MateGivesCardSaid : Prop := Claim7.holds Tryz.pinned (.plain (OpenSpec.ofChange mateGivesSpec)) mateGivesCard

/-- THE TIED CARD OF 'kakugyolaw11.LegalStays'. -/
def legalStaysCard : Claim7 := { stood := { row := legalStaysRow, standIns := [], harness := (true, "e378fff5b5da1a714afd8fca40d644a928ad51864d85934c4f962c6245ceccab"), looks := false }, kinds := [], alts := [], laidByText := true, laidKinds := [.data], laidTests := true, laidLooks := .later }
def LegalStaysCardSaid : Prop := Claim7.holds Tryz.pinned (.plain (OpenSpec.ofChange legalStaysSpec)) legalStaysCard

/-- THE SECOND FORM's CARD OF 'kakugyolaw12.MateStuck'. -/
def mateStuckUptoCard : Claim7 := { stood := { row := mateStuckUptoRow, standIns := [], harness := (true, "e378fff5b5da1a714afd8fca40d644a928ad51864d85934c4f962c6245ceccab"), looks := false }, kinds := [], alts := [], laidByText := true, laidKinds := [.data], laidTests := true, laidLooks := .later }
def MateStuckUptoCardSaid : Prop := Claim7.holds Tryz.pinned (.plain (OpenSpec.upto mateStuckSpec)) mateStuckUptoCard

/-- THE SECOND FORM's CARD OF 'kakugyolaw12.MateChecks'. -/
def mateChecksUptoCard : Claim7 := { stood := { row := mateChecksUptoRow, standIns := [], harness := (true, "e378fff5b5da1a714afd8fca40d644a928ad51864d85934c4f962c6245ceccab"), looks := false }, kinds := [], alts := [], laidByText := true, laidKinds := [.data], laidTests := true, laidLooks := .later }
def MateChecksUptoCardSaid : Prop := Claim7.holds Tryz.pinned (.plain (OpenSpec.upto mateChecksSpec)) mateChecksUptoCard

/-- THE SECOND FORM's CARD OF 'kakugyolaw12.MateGives'. -/
def mateGivesUptoCard : Claim7 := { stood := { row := mateGivesUptoRow, standIns := [], harness := (true, "e378fff5b5da1a714afd8fca40d644a928ad51864d85934c4f962c6245ceccab"), looks := false }, kinds := [], alts := [], laidByText := true, laidKinds := [.data], laidTests := true, laidLooks := .later }
def MateGivesUptoCardSaid : Prop := Claim7.holds Tryz.pinned (.plain (OpenSpec.upto mateGivesSpec)) mateGivesUptoCard

/-- THE SECOND FORM's CARD OF 'kakugyolaw11.LegalStays'. -/
def legalStaysUptoCard : Claim7 := { stood := { row := legalStaysUptoRow, standIns := [], harness := (true, "e378fff5b5da1a714afd8fca40d644a928ad51864d85934c4f962c6245ceccab"), looks := false }, kinds := [], alts := [], laidByText := true, laidKinds := [.data], laidTests := true, laidLooks := .later }
def LegalStaysUptoCardSaid : Prop := Claim7.holds Tryz.pinned (.plain (OpenSpec.upto legalStaysSpec)) legalStaysUptoCard
end Rows
end Go.Proofs.YtljnnegjhcdlkaaGreatDoor
