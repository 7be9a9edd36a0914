/-
  DERIVED. GIVEN WITH THE SEED: THE CARDS: each row of YtpppdecfohkkfaaGreatDoorRows.lean that lists a variable, with what it lists TIED to the program's text (the seventh form; the later family's looks); each row that meets fmt, with fmt's text TOLD by the authors' own Lean function (tested against real Go, not proved from fmt's source: count such statements apart). THE CARD IS WHAT COUNTS. Prove the row's statement (the work); the ties are given (YtpppdecfohkkfaaGreatDoorTie.lean); close each card by the builder's one call (the guide's Derived/Test/ToyasCard.lean, 'card_holds'). Laid BY PROGRAM, IN A SANDBOX (cutbox-door.mjs). By AI agents, Wed Nov 11 2026. No macro, syntax, notation, axiom, sorry.
-/
import Derived.Test.YtpppdecfohkkfaaGreatDoorRows
import GoSem.ClaimSeven
namespace Go.Proofs.YtpppdecfohkkfaaGreatDoor
namespace Rows

/-- THE TIED CARD OF 'kakugyolaw21.LinePlays'. -/
def linePlaysCard : Claim7 := { stood := { row := linePlaysRow, standIns := [], harness := (true, "521b9884d24731f449c97b5396d570a40895d51a29dac5e47b91302368be9f4e"), looks := false }, kinds := [], alts := [], laidByText := true, laidKinds := [.data, .data, .pinned], laidTests := true, laidLooks := .later }
def LinePlaysCardSaid : Prop := Claim7.holds Tryz.pinned (.plain (OpenSpec.ofChange linePlaysSpec)) linePlaysCard

/-- THE TIED CARD OF 'kakugyolaw21.LineTexts'. -/
def lineTextsCard : Claim7 := { stood := { row := lineTextsRow, standIns := [], harness := (true, "521b9884d24731f449c97b5396d570a40895d51a29dac5e47b91302368be9f4e"), looks := false }, kinds := [], alts := [], laidByText := true, laidKinds := [.data, .data, .pinned], laidTests := true, laidLooks := .later }
def LineTextsCardSaid : Prop := Claim7.holds Tryz.pinned (.plain (OpenSpec.ofChange lineTextsSpec)) lineTextsCard

/-- THE TIED CARD OF 'kakugyolaw21.LineCuts'. -/
def lineCutsCard : Claim7 := { stood := { row := lineCutsRow, standIns := [], harness := (true, "521b9884d24731f449c97b5396d570a40895d51a29dac5e47b91302368be9f4e"), looks := false }, kinds := [], alts := [], laidByText := true, laidKinds := [.data, .data, .pinned], laidTests := true, laidLooks := .later }
def LineCutsCardSaid : Prop := Claim7.holds Tryz.pinned (.plain (OpenSpec.ofChange lineCutsSpec)) lineCutsCard

/-- THE TIED CARD OF 'kakugyolaw21.LineMates'. -/
def lineMatesCard : Claim7 := { stood := { row := lineMatesRow, standIns := [], harness := (true, "521b9884d24731f449c97b5396d570a40895d51a29dac5e47b91302368be9f4e"), looks := false }, kinds := [], alts := [], laidByText := true, laidKinds := [.data, .data, .pinned], laidTests := true, laidLooks := .later }
def LineMatesCardSaid : Prop := Claim7.holds Tryz.pinned (.plain (OpenSpec.ofChange lineMatesSpec)) lineMatesCard

/-- THE TIED CARD OF 'kakugyolaw21.LineNone'. -/
def lineNoneCard : Claim7 := { stood := { row := lineNoneRow, standIns := [], harness := (true, "521b9884d24731f449c97b5396d570a40895d51a29dac5e47b91302368be9f4e"), looks := false }, kinds := [], alts := [], laidByText := true, laidKinds := [.data, .data, .pinned], laidTests := true, laidLooks := .later }
def LineNoneCardSaid : Prop := Claim7.holds Tryz.pinned (.plain (OpenSpec.ofChange lineNoneSpec)) lineNoneCard

/-- THE SECOND FORM's CARD OF 'kakugyolaw21.LinePlays'. -/
def linePlaysUptoCard : Claim7 := { stood := { row := linePlaysUptoRow, standIns := [], harness := (true, "521b9884d24731f449c97b5396d570a40895d51a29dac5e47b91302368be9f4e"), looks := false }, kinds := [], alts := [], laidByText := true, laidKinds := [.data, .data, .pinned], laidTests := true, laidLooks := .later }
def LinePlaysUptoCardSaid : Prop := Claim7.holds Tryz.pinned (.plain (OpenSpec.upto linePlaysSpec)) linePlaysUptoCard

/-- THE SECOND FORM's CARD OF 'kakugyolaw21.LineTexts'. -/
def lineTextsUptoCard : Claim7 := { stood := { row := lineTextsUptoRow, standIns := [], harness := (true, "521b9884d24731f449c97b5396d570a40895d51a29dac5e47b91302368be9f4e"), looks := false }, kinds := [], alts := [], laidByText := true, laidKinds := [.data, .data, .pinned], laidTests := true, laidLooks := .later }
def LineTextsUptoCardSaid : Prop := Claim7.holds Tryz.pinned (.plain (OpenSpec.upto lineTextsSpec)) lineTextsUptoCard

/-- THE SECOND FORM's CARD OF 'kakugyolaw21.LineCuts'. -/
def lineCutsUptoCard : Claim7 := { stood := { row := lineCutsUptoRow, standIns := [], harness := (true, "521b9884d24731f449c97b5396d570a40895d51a29dac5e47b91302368be9f4e"), looks := false }, kinds := [], alts := [], laidByText := true, laidKinds := [.data, .data, .pinned], laidTests := true, laidLooks := .later }
def LineCutsUptoCardSaid : Prop := Claim7.holds Tryz.pinned (.plain (OpenSpec.upto lineCutsSpec)) lineCutsUptoCard

/-- THE SECOND FORM's CARD OF 'kakugyolaw21.LineMates'. -/
def lineMatesUptoCard : Claim7 := { stood := { row := lineMatesUptoRow, standIns := [], harness := (true, "521b9884d24731f449c97b5396d570a40895d51a29dac5e47b91302368be9f4e"), looks := false }, kinds := [], alts := [], laidByText := true, laidKinds := [.data, .data, .pinned], laidTests := true, laidLooks := .later }
def LineMatesUptoCardSaid : Prop := Claim7.holds Tryz.pinned (.plain (OpenSpec.upto lineMatesSpec)) lineMatesUptoCard

/-- THE SECOND FORM's CARD OF 'kakugyolaw21.LineNone'. -/
def lineNoneUptoCard : Claim7 := { stood := { row := lineNoneUptoRow, standIns := [], harness := (true, "521b9884d24731f449c97b5396d570a40895d51a29dac5e47b91302368be9f4e"), looks := false }, kinds := [], alts := [], laidByText := true, laidKinds := [.data, .data, .pinned], laidTests := true, laidLooks := .later }
def LineNoneUptoCardSaid : Prop := Claim7.holds Tryz.pinned (.plain (OpenSpec.upto lineNoneSpec)) lineNoneUptoCard
end Rows
end Go.Proofs.YtpppdecfohkkfaaGreatDoor
