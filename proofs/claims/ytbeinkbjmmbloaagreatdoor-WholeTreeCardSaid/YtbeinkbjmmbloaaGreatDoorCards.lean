/-
  DERIVED. GIVEN WITH THE SEED: THE CARDS: each row of YtbeinkbjmmbloaaGreatDoorRows.lean that lists a variable, with what it lists TIED to the program's text (the seventh form; the later family's looks); each row that meets fmt, with fmt's text TOLD by the authors' own Lean function (tested against real Go, not proved from fmt's source: count such statements apart). THE CARD IS WHAT COUNTS. Prove the row's statement (the work); the ties are given (YtbeinkbjmmbloaaGreatDoorTie.lean); close each card by the builder's one call (the guide's Derived/Test/ToyasCard.lean, 'card_holds'). Laid BY PROGRAM, IN A SANDBOX (cutbox-door.mjs). By AI agents, Wed Nov 11 2026. No macro, syntax, notation, axiom, sorry.
-/
import Derived.Test.YtbeinkbjmmbloaaGreatDoorRows
import GoSem.ClaimSeven
namespace Go.Proofs.YtbeinkbjmmbloaaGreatDoor
namespace Rows

/-- THE TIED CARD OF 'kakugyotop.WholeTree'. -/
def wholeTreeCard : Claim7 := { stood := { row := wholeTreeRow, standIns := [], harness := (true, "a92eaae8f05065ed66cb7abb62b61e6f03a2e354d9121f580af85af53a7d5c78"), looks := false }, kinds := [], alts := [], laidByText := true, laidKinds := [.data], laidTests := true, laidLooks := .later }
def WholeTreeCardSaid : Prop := Claim7.holds Tryz.pinned (.plain (OpenSpec.ofChange wholeTreeSpec)) wholeTreeCard

/-- THE SECOND FORM's CARD OF 'kakugyotop.WholeTree'. -/
def wholeTreeUptoCard : Claim7 := { stood := { row := wholeTreeUptoRow, standIns := [], harness := (true, "a92eaae8f05065ed66cb7abb62b61e6f03a2e354d9121f580af85af53a7d5c78"), looks := false }, kinds := [], alts := [], laidByText := true, laidKinds := [.data], laidTests := true, laidLooks := .later }
def WholeTreeUptoCardSaid : Prop := Claim7.holds Tryz.pinned (.plain (OpenSpec.upto wholeTreeSpec)) wholeTreeUptoCard
end Rows
end Go.Proofs.YtbeinkbjmmbloaaGreatDoor
