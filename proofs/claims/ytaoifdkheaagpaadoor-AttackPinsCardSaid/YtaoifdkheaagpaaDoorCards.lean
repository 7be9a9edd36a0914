/-
  DERIVED. GIVEN WITH THE SEED: THE CARDS: each row of YtaoifdkheaagpaaDoorRows.lean that lists a variable, with what it lists TIED to the program's text (the seventh form; the later family's looks); each row that meets fmt, with fmt's text TOLD by the authors' own Lean function (tested against real Go, not proved from fmt's source: count such statements apart). THE CARD IS WHAT COUNTS. Prove the row's statement (the work); the ties are given (YtaoifdkheaagpaaDoorTie.lean); close each card by the builder's one call (the guide's Derived/Test/ToyasCard.lean, 'card_holds'). Laid BY PROGRAM, IN A SANDBOX (cutbox-door.mjs). By AI agents, Wed Nov 11 2026. No macro, syntax, notation, axiom, sorry.
-/
import Derived.Test.YtaoifdkheaagpaaDoorRows
import GoSem.ClaimSeven
namespace Go.Proofs.YtaoifdkheaagpaaDoor
namespace Rows

/-- THE TIED CARD OF 'kakugyotop.WholeEvades'. -/
def wholeEvadesCard : Claim7 := { stood := { row := wholeEvadesRow, standIns := [], harness := (true, "ab7725c5d39126b4d645fdf484e06a861eeada614806503b67529fc38e9fdd94"), looks := false }, kinds := [], alts := [], laidByText := true, laidKinds := [.data], laidTests := true, laidLooks := .later }
def WholeEvadesCardSaid : Prop := Claim7.holds Tryd.pinned (.plain (OpenSpec.ofChange wholeEvadesSpec)) wholeEvadesCard

/-- THE TIED CARD OF 'kakugyolaw10.GenAll'. -/
def genAllCard : Claim7 := { stood := { row := genAllRow, standIns := [], harness := (true, "ab7725c5d39126b4d645fdf484e06a861eeada614806503b67529fc38e9fdd94"), looks := false }, kinds := [], alts := [], laidByText := true, laidKinds := [.data], laidTests := true, laidLooks := .later }
def GenAllCardSaid : Prop := Claim7.holds Tryd.pinned (.plain (OpenSpec.ofChange genAllSpec)) genAllCard

/-- THE TIED CARD OF 'kakugyolaw10.GenPromotes'. -/
def genPromotesCard : Claim7 := { stood := { row := genPromotesRow, standIns := [], harness := (true, "ab7725c5d39126b4d645fdf484e06a861eeada614806503b67529fc38e9fdd94"), looks := false }, kinds := [], alts := [], laidByText := true, laidKinds := [.data], laidTests := true, laidLooks := .later }
def GenPromotesCardSaid : Prop := Claim7.holds Tryd.pinned (.plain (OpenSpec.ofChange genPromotesSpec)) genPromotesCard

/-- THE TIED CARD OF 'kakugyolaw10.GenFree'. -/
def genFreeCard : Claim7 := { stood := { row := genFreeRow, standIns := [], harness := (true, "ab7725c5d39126b4d645fdf484e06a861eeada614806503b67529fc38e9fdd94"), looks := false }, kinds := [], alts := [], laidByText := true, laidKinds := [.data], laidTests := true, laidLooks := .later }
def GenFreeCardSaid : Prop := Claim7.holds Tryd.pinned (.plain (OpenSpec.ofChange genFreeSpec)) genFreeCard

/-- THE TIED CARD OF 'kakugyolaw10.GenTurns'. -/
def genTurnsCard : Claim7 := { stood := { row := genTurnsRow, standIns := [], harness := (true, "ab7725c5d39126b4d645fdf484e06a861eeada614806503b67529fc38e9fdd94"), looks := false }, kinds := [], alts := [], laidByText := true, laidKinds := [.data], laidTests := true, laidLooks := .later }
def GenTurnsCardSaid : Prop := Claim7.holds Tryd.pinned (.plain (OpenSpec.ofChange genTurnsSpec)) genTurnsCard

/-- THE TIED CARD OF 'kakugyolaw10.GenOnce'. -/
def genOnceCard : Claim7 := { stood := { row := genOnceRow, standIns := [], harness := (true, "ab7725c5d39126b4d645fdf484e06a861eeada614806503b67529fc38e9fdd94"), looks := false }, kinds := [], alts := [], laidByText := true, laidKinds := [.data], laidTests := true, laidLooks := .later }
def GenOnceCardSaid : Prop := Claim7.holds Tryd.pinned (.plain (OpenSpec.ofChange genOnceSpec)) genOnceCard

/-- THE TIED CARD OF 'kakugyolaw08.AttackChecks'. -/
def attackChecksCard : Claim7 := { stood := { row := attackChecksRow, standIns := [], harness := (true, "ab7725c5d39126b4d645fdf484e06a861eeada614806503b67529fc38e9fdd94"), looks := false }, kinds := [], alts := [], laidByText := true, laidKinds := [.data], laidTests := true, laidLooks := .later }
def AttackChecksCardSaid : Prop := Claim7.holds Tryd.pinned (.plain (OpenSpec.ofChange attackChecksSpec)) attackChecksCard

/-- THE TIED CARD OF 'kakugyolaw08.AttackAll'. -/
def attackAllCard : Claim7 := { stood := { row := attackAllRow, standIns := [], harness := (true, "ab7725c5d39126b4d645fdf484e06a861eeada614806503b67529fc38e9fdd94"), looks := false }, kinds := [], alts := [], laidByText := true, laidKinds := [.data], laidTests := true, laidLooks := .later }
def AttackAllCardSaid : Prop := Claim7.holds Tryd.pinned (.plain (OpenSpec.ofChange attackAllSpec)) attackAllCard

/-- THE TIED CARD OF 'kakugyolaw08.AttackPins'. -/
def attackPinsCard : Claim7 := { stood := { row := attackPinsRow, standIns := [], harness := (true, "ab7725c5d39126b4d645fdf484e06a861eeada614806503b67529fc38e9fdd94"), looks := false }, kinds := [], alts := [], laidByText := true, laidKinds := [.data], laidTests := true, laidLooks := .later }
def AttackPinsCardSaid : Prop := Claim7.holds Tryd.pinned (.plain (OpenSpec.ofChange attackPinsSpec)) attackPinsCard

/-- THE SECOND FORM's CARD OF 'kakugyotop.WholeEvades'. -/
def wholeEvadesUptoCard : Claim7 := { stood := { row := wholeEvadesUptoRow, standIns := [], harness := (true, "ab7725c5d39126b4d645fdf484e06a861eeada614806503b67529fc38e9fdd94"), looks := false }, kinds := [], alts := [], laidByText := true, laidKinds := [.data], laidTests := true, laidLooks := .later }
def WholeEvadesUptoCardSaid : Prop := Claim7.holds Tryd.pinned (.plain (OpenSpec.upto wholeEvadesSpec)) wholeEvadesUptoCard

/-- THE SECOND FORM's CARD OF 'kakugyolaw10.GenAll'. -/
def genAllUptoCard : Claim7 := { stood := { row := genAllUptoRow, standIns := [], harness := (true, "ab7725c5d39126b4d645fdf484e06a861eeada614806503b67529fc38e9fdd94"), looks := false }, kinds := [], alts := [], laidByText := true, laidKinds := [.data], laidTests := true, laidLooks := .later }
def GenAllUptoCardSaid : Prop := Claim7.holds Tryd.pinned (.plain (OpenSpec.upto genAllSpec)) genAllUptoCard

/-- THE SECOND FORM's CARD OF 'kakugyolaw10.GenPromotes'. -/
def genPromotesUptoCard : Claim7 := { stood := { row := genPromotesUptoRow, standIns := [], harness := (true, "ab7725c5d39126b4d645fdf484e06a861eeada614806503b67529fc38e9fdd94"), looks := false }, kinds := [], alts := [], laidByText := true, laidKinds := [.data], laidTests := true, laidLooks := .later }
def GenPromotesUptoCardSaid : Prop := Claim7.holds Tryd.pinned (.plain (OpenSpec.upto genPromotesSpec)) genPromotesUptoCard

/-- THE SECOND FORM's CARD OF 'kakugyolaw10.GenFree'. -/
def genFreeUptoCard : Claim7 := { stood := { row := genFreeUptoRow, standIns := [], harness := (true, "ab7725c5d39126b4d645fdf484e06a861eeada614806503b67529fc38e9fdd94"), looks := false }, kinds := [], alts := [], laidByText := true, laidKinds := [.data], laidTests := true, laidLooks := .later }
def GenFreeUptoCardSaid : Prop := Claim7.holds Tryd.pinned (.plain (OpenSpec.upto genFreeSpec)) genFreeUptoCard

/-- THE SECOND FORM's CARD OF 'kakugyolaw10.GenTurns'. -/
def genTurnsUptoCard : Claim7 := { stood := { row := genTurnsUptoRow, standIns := [], harness := (true, "ab7725c5d39126b4d645fdf484e06a861eeada614806503b67529fc38e9fdd94"), looks := false }, kinds := [], alts := [], laidByText := true, laidKinds := [.data], laidTests := true, laidLooks := .later }
def GenTurnsUptoCardSaid : Prop := Claim7.holds Tryd.pinned (.plain (OpenSpec.upto genTurnsSpec)) genTurnsUptoCard

/-- THE SECOND FORM's CARD OF 'kakugyolaw10.GenOnce'. -/
def genOnceUptoCard : Claim7 := { stood := { row := genOnceUptoRow, standIns := [], harness := (true, "ab7725c5d39126b4d645fdf484e06a861eeada614806503b67529fc38e9fdd94"), looks := false }, kinds := [], alts := [], laidByText := true, laidKinds := [.data], laidTests := true, laidLooks := .later }
def GenOnceUptoCardSaid : Prop := Claim7.holds Tryd.pinned (.plain (OpenSpec.upto genOnceSpec)) genOnceUptoCard

/-- THE SECOND FORM's CARD OF 'kakugyolaw08.AttackChecks'. -/
def attackChecksUptoCard : Claim7 := { stood := { row := attackChecksUptoRow, standIns := [], harness := (true, "ab7725c5d39126b4d645fdf484e06a861eeada614806503b67529fc38e9fdd94"), looks := false }, kinds := [], alts := [], laidByText := true, laidKinds := [.data], laidTests := true, laidLooks := .later }
def AttackChecksUptoCardSaid : Prop := Claim7.holds Tryd.pinned (.plain (OpenSpec.upto attackChecksSpec)) attackChecksUptoCard

/-- THE SECOND FORM's CARD OF 'kakugyolaw08.AttackAll'. -/
def attackAllUptoCard : Claim7 := { stood := { row := attackAllUptoRow, standIns := [], harness := (true, "ab7725c5d39126b4d645fdf484e06a861eeada614806503b67529fc38e9fdd94"), looks := false }, kinds := [], alts := [], laidByText := true, laidKinds := [.data], laidTests := true, laidLooks := .later }
def AttackAllUptoCardSaid : Prop := Claim7.holds Tryd.pinned (.plain (OpenSpec.upto attackAllSpec)) attackAllUptoCard

/-- THE SECOND FORM's CARD OF 'kakugyolaw08.AttackPins'. -/
def attackPinsUptoCard : Claim7 := { stood := { row := attackPinsUptoRow, standIns := [], harness := (true, "ab7725c5d39126b4d645fdf484e06a861eeada614806503b67529fc38e9fdd94"), looks := false }, kinds := [], alts := [], laidByText := true, laidKinds := [.data], laidTests := true, laidLooks := .later }
def AttackPinsUptoCardSaid : Prop := Claim7.holds Tryd.pinned (.plain (OpenSpec.upto attackPinsSpec)) attackPinsUptoCard
end Rows
end Go.Proofs.YtaoifdkheaagpaaDoor
