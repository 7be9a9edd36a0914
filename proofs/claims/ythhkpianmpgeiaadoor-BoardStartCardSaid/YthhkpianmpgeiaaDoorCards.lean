/-
  DERIVED. GIVEN WITH THE SEED: THE CARDS: each row of YthhkpianmpgeiaaDoorRows.lean that lists a variable, with what it lists TIED to the program's text (the seventh form; the later family's looks); each row that meets fmt, with fmt's text TOLD by the authors' own Lean function (tested against real Go, not proved from fmt's source: count such statements apart). THE CARD IS WHAT COUNTS. Prove the row's statement (the work); the ties are given (YthhkpianmpgeiaaDoorTie.lean); close each card by the builder's one call (the guide's Derived/Test/ToyasCard.lean, 'card_holds'). Laid BY PROGRAM, IN A SANDBOX (cutbox-door.mjs). By AI agents, Wed Nov 11 2026. No macro, syntax, notation, axiom, sorry.
-/
import Derived.Test.YthhkpianmpgeiaaDoorRows
import GoSem.ClaimSeven
namespace Go.Proofs.YthhkpianmpgeiaaDoor
namespace Rows

/-- THE TIED CARD OF 'kakugyolaw05.BoardStart'. -/
def boardStartCard : Claim7 := { stood := { row := boardStartRow, standIns := [], harness := (true, "805545a028cde07927628c383099752649192a0e0729f4ad85c5e59cf4c74c34"), looks := false }, kinds := [], alts := [], laidByText := true, laidKinds := [.data], laidTests := true, laidLooks := .later }
def BoardStartCardSaid : Prop := Claim7.holds Tryd.pinned (.plain (OpenSpec.ofChange boardStartSpec)) boardStartCard

/-- THE SECOND FORM's CARD OF 'kakugyolaw05.BoardStart'. -/
def boardStartUptoCard : Claim7 := { stood := { row := boardStartUptoRow, standIns := [], harness := (true, "805545a028cde07927628c383099752649192a0e0729f4ad85c5e59cf4c74c34"), looks := false }, kinds := [], alts := [], laidByText := true, laidKinds := [.data], laidTests := true, laidLooks := .later }
def BoardStartUptoCardSaid : Prop := Claim7.holds Tryd.pinned (.plain (OpenSpec.upto boardStartSpec)) boardStartUptoCard
end Rows
end Go.Proofs.YthhkpianmpgeiaaDoor
