/-
  DERIVED. GIVEN WITH THE SEED: THE CARDS: each row of YthklalefbhbhmaaGreatDoorRows.lean that lists a variable, with what it lists TIED to the program's text (the seventh form; the later family's looks); each row that meets fmt, with fmt's text TOLD by the authors' own Lean function (tested against real Go, not proved from fmt's source: count such statements apart). THE CARD IS WHAT COUNTS. Prove the row's statement (the work); the ties are given (YthklalefbhbhmaaGreatDoorTie.lean); close each card by the builder's one call (the guide's Derived/Test/ToyasCard.lean, 'card_holds'). Laid BY PROGRAM, IN A SANDBOX (cutbox-door.mjs). By AI agents, Wed Nov 11 2026. No macro, syntax, notation, axiom, sorry.
-/
import Derived.Test.YthklalefbhbhmaaGreatDoorRows
import GoSem.ClaimSeven
namespace Go.Proofs.YthklalefbhbhmaaGreatDoor
namespace Rows

/-- THE TIED CARD OF 'kakugyolaw14.GameRepeats'. -/
def gameRepeatsCard : Claim7 := { stood := { row := gameRepeatsRow, standIns := [], harness := (true, "75a07bee89abf61cef2da6423e102d6f15268fdd48f6892293c19fe17ce5d85d"), looks := false }, kinds := [], alts := [], laidByText := true, laidKinds := [.data], laidTests := true, laidLooks := .later }
def GameRepeatsCardSaid : Prop := Claim7.holds Tryz.pinned (.plain (OpenSpec.ofChange gameRepeatsSpec)) gameRepeatsCard

/-- THE TIED CARD OF 'kakugyolaw14.GameStates'. -/
def gameStatesCard : Claim7 := { stood := { row := gameStatesRow, standIns := [], harness := (true, "75a07bee89abf61cef2da6423e102d6f15268fdd48f6892293c19fe17ce5d85d"), looks := false }, kinds := [], alts := [], laidByText := true, laidKinds := [.data], laidTests := true, laidLooks := .later }
def GameStatesCardSaid : Prop := Claim7.holds Tryz.pinned (.plain (OpenSpec.ofChange gameStatesSpec)) gameStatesCard

/-- THE TIED CARD OF 'kakugyolaw14.GameOver'. -/
def gameOverCard : Claim7 := { stood := { row := gameOverRow, standIns := [], harness := (true, "75a07bee89abf61cef2da6423e102d6f15268fdd48f6892293c19fe17ce5d85d"), looks := false }, kinds := [], alts := [], laidByText := true, laidKinds := [.data], laidTests := true, laidLooks := .later }
def GameOverCardSaid : Prop := Claim7.holds Tryz.pinned (.plain (OpenSpec.ofChange gameOverSpec)) gameOverCard

/-- THE TIED CARD OF 'kakugyolaw14.GamePlayed'. -/
def gamePlayedCard : Claim7 := { stood := { row := gamePlayedRow, standIns := [], harness := (true, "75a07bee89abf61cef2da6423e102d6f15268fdd48f6892293c19fe17ce5d85d"), looks := false }, kinds := [], alts := [], laidByText := true, laidKinds := [.data], laidTests := true, laidLooks := .later }
def GamePlayedCardSaid : Prop := Claim7.holds Tryz.pinned (.plain (OpenSpec.ofChange gamePlayedSpec)) gamePlayedCard

/-- THE TIED CARD OF 'kakugyolaw14.GamePlays'. -/
def gamePlaysCard : Claim7 := { stood := { row := gamePlaysRow, standIns := [], harness := (true, "75a07bee89abf61cef2da6423e102d6f15268fdd48f6892293c19fe17ce5d85d"), looks := false }, kinds := [], alts := [], laidByText := true, laidKinds := [.data], laidTests := true, laidLooks := .later }
def GamePlaysCardSaid : Prop := Claim7.holds Tryz.pinned (.plain (OpenSpec.ofChange gamePlaysSpec)) gamePlaysCard

/-- THE SECOND FORM's CARD OF 'kakugyolaw14.GameRepeats'. -/
def gameRepeatsUptoCard : Claim7 := { stood := { row := gameRepeatsUptoRow, standIns := [], harness := (true, "75a07bee89abf61cef2da6423e102d6f15268fdd48f6892293c19fe17ce5d85d"), looks := false }, kinds := [], alts := [], laidByText := true, laidKinds := [.data], laidTests := true, laidLooks := .later }
def GameRepeatsUptoCardSaid : Prop := Claim7.holds Tryz.pinned (.plain (OpenSpec.upto gameRepeatsSpec)) gameRepeatsUptoCard

/-- THE SECOND FORM's CARD OF 'kakugyolaw14.GameStates'. -/
def gameStatesUptoCard : Claim7 := { stood := { row := gameStatesUptoRow, standIns := [], harness := (true, "75a07bee89abf61cef2da6423e102d6f15268fdd48f6892293c19fe17ce5d85d"), looks := false }, kinds := [], alts := [], laidByText := true, laidKinds := [.data], laidTests := true, laidLooks := .later }
def GameStatesUptoCardSaid : Prop := Claim7.holds Tryz.pinned (.plain (OpenSpec.upto gameStatesSpec)) gameStatesUptoCard

/-- THE SECOND FORM's CARD OF 'kakugyolaw14.GameOver'. -/
def gameOverUptoCard : Claim7 := { stood := { row := gameOverUptoRow, standIns := [], harness := (true, "75a07bee89abf61cef2da6423e102d6f15268fdd48f6892293c19fe17ce5d85d"), looks := false }, kinds := [], alts := [], laidByText := true, laidKinds := [.data], laidTests := true, laidLooks := .later }
def GameOverUptoCardSaid : Prop := Claim7.holds Tryz.pinned (.plain (OpenSpec.upto gameOverSpec)) gameOverUptoCard

/-- THE SECOND FORM's CARD OF 'kakugyolaw14.GamePlayed'. -/
def gamePlayedUptoCard : Claim7 := { stood := { row := gamePlayedUptoRow, standIns := [], harness := (true, "75a07bee89abf61cef2da6423e102d6f15268fdd48f6892293c19fe17ce5d85d"), looks := false }, kinds := [], alts := [], laidByText := true, laidKinds := [.data], laidTests := true, laidLooks := .later }
def GamePlayedUptoCardSaid : Prop := Claim7.holds Tryz.pinned (.plain (OpenSpec.upto gamePlayedSpec)) gamePlayedUptoCard

/-- THE SECOND FORM's CARD OF 'kakugyolaw14.GamePlays'. -/
def gamePlaysUptoCard : Claim7 := { stood := { row := gamePlaysUptoRow, standIns := [], harness := (true, "75a07bee89abf61cef2da6423e102d6f15268fdd48f6892293c19fe17ce5d85d"), looks := false }, kinds := [], alts := [], laidByText := true, laidKinds := [.data], laidTests := true, laidLooks := .later }
def GamePlaysUptoCardSaid : Prop := Claim7.holds Tryz.pinned (.plain (OpenSpec.upto gamePlaysSpec)) gamePlaysUptoCard
end Rows
end Go.Proofs.YthklalefbhbhmaaGreatDoor
