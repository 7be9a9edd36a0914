/-
  DERIVED. GIVEN WITH THE SEED: THE CARDS: each row of YtcilcokdgpnkmaaGreatDoorRows.lean that lists a variable, with what it lists TIED to the program's text (the seventh form; the later family's looks); each row that meets fmt, with fmt's text TOLD by the authors' own Lean function (tested against real Go, not proved from fmt's source: count such statements apart). THE CARD IS WHAT COUNTS. Prove the row's statement (the work); the ties are given (YtcilcokdgpnkmaaGreatDoorTie.lean); close each card by the builder's one call (the guide's Derived/Test/ToyasCard.lean, 'card_holds'). Laid BY PROGRAM, IN A SANDBOX (cutbox-door.mjs). By AI agents, Wed Nov 11 2026. No macro, syntax, notation, axiom, sorry.
-/
import Derived.Test.YtcilcokdgpnkmaaGreatDoorRows
import GoSem.ClaimSeven
namespace Go.Proofs.YtcilcokdgpnkmaaGreatDoor
namespace Rows

/-- THE TIED CARD OF 'kakugyotop.WholePlays'. -/
def wholePlaysCard : Claim7 := { stood := { row := wholePlaysRow, standIns := [], harness := (true, "40d2db0086842f0fcdef2afa9211b61eb17fe3228e11cb413662fec7d5a21f5f"), looks := false }, kinds := [], alts := [], laidByText := true, laidKinds := [.data], laidTests := true, laidLooks := .later }
def WholePlaysCardSaid : Prop := Claim7.holds Tryz.pinned (.plain (OpenSpec.ofChange wholePlaysSpec)) wholePlaysCard

/-- THE SECOND FORM's CARD OF 'kakugyotop.WholePlays'. -/
def wholePlaysUptoCard : Claim7 := { stood := { row := wholePlaysUptoRow, standIns := [], harness := (true, "40d2db0086842f0fcdef2afa9211b61eb17fe3228e11cb413662fec7d5a21f5f"), looks := false }, kinds := [], alts := [], laidByText := true, laidKinds := [.data], laidTests := true, laidLooks := .later }
def WholePlaysUptoCardSaid : Prop := Claim7.holds Tryz.pinned (.plain (OpenSpec.upto wholePlaysSpec)) wholePlaysUptoCard
end Rows
end Go.Proofs.YtcilcokdgpnkmaaGreatDoor
