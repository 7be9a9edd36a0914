/-
  DERIVED. GIVEN WITH THE SEED: THE CARDS: each row of YtlcccogiaaalhaaDoorRows.lean that lists a variable, with what it lists TIED to the program's text (the seventh form; the later family's looks); each row that meets fmt, with fmt's text TOLD by the authors' own Lean function (tested against real Go, not proved from fmt's source: count such statements apart). THE CARD IS WHAT COUNTS. Prove the row's statement (the work); the ties are given (YtlcccogiaaalhaaDoorTie.lean); close each card by the builder's one call (the guide's Derived/Test/ToyasCard.lean, 'card_holds'). Laid BY PROGRAM, IN A SANDBOX (cutbox-door.mjs). By AI agents, Wed Nov 11 2026. No macro, syntax, notation, axiom, sorry.
-/
import Derived.Test.YtlcccogiaaalhaaDoorRows
import GoSem.ClaimSeven
namespace Go.Proofs.YtlcccogiaaalhaaDoor
namespace Rows

/-- THE TIED CARD OF 'kakugyolaw05.BoardChecks'. -/
def boardChecksCard : Claim7 := { stood := { row := boardChecksRow, standIns := [], harness := (true, "720187cbb9ec8cc4ba8f3f009caa578ccd6f365f957e1645e410b2af5b39aa70"), looks := false }, kinds := [], alts := [], laidByText := true, laidKinds := [.data], laidTests := true, laidLooks := .later }
def BoardChecksCardSaid : Prop := Claim7.holds Tryd.pinned (.plain (OpenSpec.ofChange boardChecksSpec)) boardChecksCard

/-- THE TIED CARD OF 'kakugyolaw05.BoardStart'. -/
def boardStartCard : Claim7 := { stood := { row := boardStartRow, standIns := [], harness := (true, "720187cbb9ec8cc4ba8f3f009caa578ccd6f365f957e1645e410b2af5b39aa70"), looks := false }, kinds := [], alts := [], laidByText := true, laidKinds := [.data], laidTests := true, laidLooks := .later }
def BoardStartCardSaid : Prop := Claim7.holds Tryd.pinned (.plain (OpenSpec.ofChange boardStartSpec)) boardStartCard

/-- THE TIED CARD OF 'kakugyolaw05.BoardBack'. -/
def boardBackCard : Claim7 := { stood := { row := boardBackRow, standIns := [], harness := (true, "720187cbb9ec8cc4ba8f3f009caa578ccd6f365f957e1645e410b2af5b39aa70"), looks := false }, kinds := [], alts := [], laidByText := true, laidKinds := [.data], laidTests := true, laidLooks := .later }
def BoardBackCardSaid : Prop := Claim7.holds Tryd.pinned (.plain (OpenSpec.ofChange boardBackSpec)) boardBackCard

/-- THE TIED CARD OF 'kakugyolaw05.BoardHolds'. -/
def boardHoldsCard : Claim7 := { stood := { row := boardHoldsRow, standIns := [], harness := (true, "720187cbb9ec8cc4ba8f3f009caa578ccd6f365f957e1645e410b2af5b39aa70"), looks := false }, kinds := [], alts := [], laidByText := true, laidKinds := [.data], laidTests := true, laidLooks := .later }
def BoardHoldsCardSaid : Prop := Claim7.holds Tryd.pinned (.plain (OpenSpec.ofChange boardHoldsSpec)) boardHoldsCard

/-- THE TIED CARD OF 'kakugyolaw05.BoardClones'. -/
def boardClonesCard : Claim7 := { stood := { row := boardClonesRow, standIns := [], harness := (true, "720187cbb9ec8cc4ba8f3f009caa578ccd6f365f957e1645e410b2af5b39aa70"), looks := false }, kinds := [], alts := [], laidByText := true, laidKinds := [.data], laidTests := true, laidLooks := .later }
def BoardClonesCardSaid : Prop := Claim7.holds Tryd.pinned (.plain (OpenSpec.ofChange boardClonesSpec)) boardClonesCard

/-- THE TIED CARD OF 'kakugyolaw05.BoardAsks'. -/
def boardAsksCard : Claim7 := { stood := { row := boardAsksRow, standIns := [], harness := (true, "720187cbb9ec8cc4ba8f3f009caa578ccd6f365f957e1645e410b2af5b39aa70"), looks := false }, kinds := [], alts := [], laidByText := true, laidKinds := [.data], laidTests := true, laidLooks := .later }
def BoardAsksCardSaid : Prop := Claim7.holds Tryd.pinned (.plain (OpenSpec.ofChange boardAsksSpec)) boardAsksCard

/-- THE SECOND FORM's CARD OF 'kakugyolaw05.BoardChecks'. -/
def boardChecksUptoCard : Claim7 := { stood := { row := boardChecksUptoRow, standIns := [], harness := (true, "720187cbb9ec8cc4ba8f3f009caa578ccd6f365f957e1645e410b2af5b39aa70"), looks := false }, kinds := [], alts := [], laidByText := true, laidKinds := [.data], laidTests := true, laidLooks := .later }
def BoardChecksUptoCardSaid : Prop := Claim7.holds Tryd.pinned (.plain (OpenSpec.upto boardChecksSpec)) boardChecksUptoCard

/-- THE SECOND FORM's CARD OF 'kakugyolaw05.BoardStart'. -/
def boardStartUptoCard : Claim7 := { stood := { row := boardStartUptoRow, standIns := [], harness := (true, "720187cbb9ec8cc4ba8f3f009caa578ccd6f365f957e1645e410b2af5b39aa70"), looks := false }, kinds := [], alts := [], laidByText := true, laidKinds := [.data], laidTests := true, laidLooks := .later }
def BoardStartUptoCardSaid : Prop := Claim7.holds Tryd.pinned (.plain (OpenSpec.upto boardStartSpec)) boardStartUptoCard

/-- THE SECOND FORM's CARD OF 'kakugyolaw05.BoardBack'. -/
def boardBackUptoCard : Claim7 := { stood := { row := boardBackUptoRow, standIns := [], harness := (true, "720187cbb9ec8cc4ba8f3f009caa578ccd6f365f957e1645e410b2af5b39aa70"), looks := false }, kinds := [], alts := [], laidByText := true, laidKinds := [.data], laidTests := true, laidLooks := .later }
def BoardBackUptoCardSaid : Prop := Claim7.holds Tryd.pinned (.plain (OpenSpec.upto boardBackSpec)) boardBackUptoCard

/-- THE SECOND FORM's CARD OF 'kakugyolaw05.BoardHolds'. -/
def boardHoldsUptoCard : Claim7 := { stood := { row := boardHoldsUptoRow, standIns := [], harness := (true, "720187cbb9ec8cc4ba8f3f009caa578ccd6f365f957e1645e410b2af5b39aa70"), looks := false }, kinds := [], alts := [], laidByText := true, laidKinds := [.data], laidTests := true, laidLooks := .later }
def BoardHoldsUptoCardSaid : Prop := Claim7.holds Tryd.pinned (.plain (OpenSpec.upto boardHoldsSpec)) boardHoldsUptoCard

/-- THE SECOND FORM's CARD OF 'kakugyolaw05.BoardClones'. -/
def boardClonesUptoCard : Claim7 := { stood := { row := boardClonesUptoRow, standIns := [], harness := (true, "720187cbb9ec8cc4ba8f3f009caa578ccd6f365f957e1645e410b2af5b39aa70"), looks := false }, kinds := [], alts := [], laidByText := true, laidKinds := [.data], laidTests := true, laidLooks := .later }
def BoardClonesUptoCardSaid : Prop := Claim7.holds Tryd.pinned (.plain (OpenSpec.upto boardClonesSpec)) boardClonesUptoCard

/-- THE SECOND FORM's CARD OF 'kakugyolaw05.BoardAsks'. -/
def boardAsksUptoCard : Claim7 := { stood := { row := boardAsksUptoRow, standIns := [], harness := (true, "720187cbb9ec8cc4ba8f3f009caa578ccd6f365f957e1645e410b2af5b39aa70"), looks := false }, kinds := [], alts := [], laidByText := true, laidKinds := [.data], laidTests := true, laidLooks := .later }
def BoardAsksUptoCardSaid : Prop := Claim7.holds Tryd.pinned (.plain (OpenSpec.upto boardAsksSpec)) boardAsksUptoCard
end Rows
end Go.Proofs.YtlcccogiaaalhaaDoor
