/-
  DERIVED. GIVEN WITH THE SEED: THE CARDS: each row of YtjjfgpalaegdkaaDoorRows.lean that lists a variable, with what it lists TIED to the program's text (the seventh form; the later family's looks); each row that meets fmt, with fmt's text TOLD by the authors' own Lean function (tested against real Go, not proved from fmt's source: count such statements apart). THE CARD IS WHAT COUNTS. Prove the row's statement (the work); the ties are given (YtjjfgpalaegdkaaDoorTie.lean); close each card by the builder's one call (the guide's Derived/Test/ToyasCard.lean, 'card_holds'). Laid BY PROGRAM, IN A SANDBOX (cutbox-door.mjs). By AI agents, Wed Nov 11 2026. No macro, syntax, notation, axiom, sorry.
-/
import Derived.Test.YtjjfgpalaegdkaaDoorRows
import GoSem.ClaimSeven
namespace Go.Proofs.YtjjfgpalaegdkaaDoor
namespace Rows

/-- THE TIED CARD OF 'kakugyolaw05.BoardHolds'. -/
def boardHoldsCard : Claim7 := { stood := { row := boardHoldsRow, standIns := [], harness := (true, "ca7fb5d153611e2f840fb8953ffc829222aec5af504a7eb29efea6ebaac8c7b1"), looks := false }, kinds := [], alts := [], laidByText := true, laidKinds := [.data], laidTests := true, laidLooks := .later }
def BoardHoldsCardSaid : Prop := Claim7.holds Tryd.pinned (.plain (OpenSpec.ofChange boardHoldsSpec)) boardHoldsCard

/-- THE SECOND FORM's CARD OF 'kakugyolaw05.BoardHolds'. -/
def boardHoldsUptoCard : Claim7 := { stood := { row := boardHoldsUptoRow, standIns := [], harness := (true, "ca7fb5d153611e2f840fb8953ffc829222aec5af504a7eb29efea6ebaac8c7b1"), looks := false }, kinds := [], alts := [], laidByText := true, laidKinds := [.data], laidTests := true, laidLooks := .later }
def BoardHoldsUptoCardSaid : Prop := Claim7.holds Tryd.pinned (.plain (OpenSpec.upto boardHoldsSpec)) boardHoldsUptoCard
end Rows
end Go.Proofs.YtjjfgpalaegdkaaDoor
