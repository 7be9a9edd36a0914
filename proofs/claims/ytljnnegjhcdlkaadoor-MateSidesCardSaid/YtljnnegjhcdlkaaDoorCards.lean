/-
  DERIVED. GIVEN WITH THE SEED: THE CARDS: each row of YtljnnegjhcdlkaaDoorRows.lean that lists a variable, with what it lists TIED to the program's text (the seventh form; the later family's looks); each row that meets fmt, with fmt's text TOLD by the authors' own Lean function (tested against real Go, not proved from fmt's source: count such statements apart). THE CARD IS WHAT COUNTS. Prove the row's statement (the work); the ties are given (YtljnnegjhcdlkaaDoorTie.lean); close each card by the builder's one call (the guide's Derived/Test/ToyasCard.lean, 'card_holds'). Laid BY PROGRAM, IN A SANDBOX (cutbox-door.mjs). By AI agents, Wed Nov 11 2026. No macro, syntax, notation, axiom, sorry.
-/
import Derived.Test.YtljnnegjhcdlkaaDoorRows
import GoSem.ClaimSeven
namespace Go.Proofs.YtljnnegjhcdlkaaDoor
namespace Rows

/-- THE TIED CARD OF 'kakugyolaw11.LegalAll'. -/
def legalAllCard : Claim7 := { stood := { row := legalAllRow, standIns := [], harness := (true, "cbb8f5f91b0d5092e099a9cdfb84d42abcacb95f7a9198bafccbdd59c0b93ddf"), looks := false }, kinds := [], alts := [], laidByText := true, laidKinds := [.data], laidTests := true, laidLooks := .later }
def LegalAllCardSaid : Prop := Claim7.holds Tryd.pinned (.plain (OpenSpec.ofChange legalAllSpec)) legalAllCard

/-- THE TIED CARD OF 'kakugyolaw11.LegalIs'. -/
def legalIsCard : Claim7 := { stood := { row := legalIsRow, standIns := [], harness := (true, "cbb8f5f91b0d5092e099a9cdfb84d42abcacb95f7a9198bafccbdd59c0b93ddf"), looks := false }, kinds := [], alts := [], laidByText := true, laidKinds := [.data], laidTests := true, laidLooks := .later }
def LegalIsCardSaid : Prop := Claim7.holds Tryd.pinned (.plain (OpenSpec.ofChange legalIsSpec)) legalIsCard

/-- THE TIED CARD OF 'kakugyolaw11.LegalPawns'. -/
def legalPawnsCard : Claim7 := { stood := { row := legalPawnsRow, standIns := [], harness := (true, "cbb8f5f91b0d5092e099a9cdfb84d42abcacb95f7a9198bafccbdd59c0b93ddf"), looks := false }, kinds := [], alts := [], laidByText := true, laidKinds := [.data], laidTests := true, laidLooks := .later }
def LegalPawnsCardSaid : Prop := Claim7.holds Tryd.pinned (.plain (OpenSpec.ofChange legalPawnsSpec)) legalPawnsCard

/-- THE TIED CARD OF 'kakugyolaw11.LegalMore'. -/
def legalMoreCard : Claim7 := { stood := { row := legalMoreRow, standIns := [], harness := (true, "cbb8f5f91b0d5092e099a9cdfb84d42abcacb95f7a9198bafccbdd59c0b93ddf"), looks := false }, kinds := [], alts := [], laidByText := true, laidKinds := [.data], laidTests := true, laidLooks := .later }
def LegalMoreCardSaid : Prop := Claim7.holds Tryd.pinned (.plain (OpenSpec.ofChange legalMoreSpec)) legalMoreCard

/-- THE TIED CARD OF 'kakugyolaw11.LegalKings'. -/
def legalKingsCard : Claim7 := { stood := { row := legalKingsRow, standIns := [], harness := (true, "cbb8f5f91b0d5092e099a9cdfb84d42abcacb95f7a9198bafccbdd59c0b93ddf"), looks := false }, kinds := [], alts := [], laidByText := true, laidKinds := [.data], laidTests := true, laidLooks := .later }
def LegalKingsCardSaid : Prop := Claim7.holds Tryd.pinned (.plain (OpenSpec.ofChange legalKingsSpec)) legalKingsCard

/-- THE TIED CARD OF 'kakugyolaw12.MateEnds'. -/
def mateEndsCard : Claim7 := { stood := { row := mateEndsRow, standIns := [], harness := (true, "cbb8f5f91b0d5092e099a9cdfb84d42abcacb95f7a9198bafccbdd59c0b93ddf"), looks := false }, kinds := [], alts := [], laidByText := true, laidKinds := [.data], laidTests := true, laidLooks := .later }
def MateEndsCardSaid : Prop := Claim7.holds Tryd.pinned (.plain (OpenSpec.ofChange mateEndsSpec)) mateEndsCard

/-- THE TIED CARD OF 'kakugyolaw12.MateSides'. -/
def mateSidesCard : Claim7 := { stood := { row := mateSidesRow, standIns := [], harness := (true, "cbb8f5f91b0d5092e099a9cdfb84d42abcacb95f7a9198bafccbdd59c0b93ddf"), looks := false }, kinds := [], alts := [], laidByText := true, laidKinds := [.data], laidTests := true, laidLooks := .later }
def MateSidesCardSaid : Prop := Claim7.holds Tryd.pinned (.plain (OpenSpec.ofChange mateSidesSpec)) mateSidesCard

/-- THE SECOND FORM's CARD OF 'kakugyolaw11.LegalAll'. -/
def legalAllUptoCard : Claim7 := { stood := { row := legalAllUptoRow, standIns := [], harness := (true, "cbb8f5f91b0d5092e099a9cdfb84d42abcacb95f7a9198bafccbdd59c0b93ddf"), looks := false }, kinds := [], alts := [], laidByText := true, laidKinds := [.data], laidTests := true, laidLooks := .later }
def LegalAllUptoCardSaid : Prop := Claim7.holds Tryd.pinned (.plain (OpenSpec.upto legalAllSpec)) legalAllUptoCard

/-- THE SECOND FORM's CARD OF 'kakugyolaw11.LegalIs'. -/
def legalIsUptoCard : Claim7 := { stood := { row := legalIsUptoRow, standIns := [], harness := (true, "cbb8f5f91b0d5092e099a9cdfb84d42abcacb95f7a9198bafccbdd59c0b93ddf"), looks := false }, kinds := [], alts := [], laidByText := true, laidKinds := [.data], laidTests := true, laidLooks := .later }
def LegalIsUptoCardSaid : Prop := Claim7.holds Tryd.pinned (.plain (OpenSpec.upto legalIsSpec)) legalIsUptoCard

/-- THE SECOND FORM's CARD OF 'kakugyolaw11.LegalPawns'. -/
def legalPawnsUptoCard : Claim7 := { stood := { row := legalPawnsUptoRow, standIns := [], harness := (true, "cbb8f5f91b0d5092e099a9cdfb84d42abcacb95f7a9198bafccbdd59c0b93ddf"), looks := false }, kinds := [], alts := [], laidByText := true, laidKinds := [.data], laidTests := true, laidLooks := .later }
def LegalPawnsUptoCardSaid : Prop := Claim7.holds Tryd.pinned (.plain (OpenSpec.upto legalPawnsSpec)) legalPawnsUptoCard

/-- THE SECOND FORM's CARD OF 'kakugyolaw11.LegalMore'. -/
def legalMoreUptoCard : Claim7 := { stood := { row := legalMoreUptoRow, standIns := [], harness := (true, "cbb8f5f91b0d5092e099a9cdfb84d42abcacb95f7a9198bafccbdd59c0b93ddf"), looks := false }, kinds := [], alts := [], laidByText := true, laidKinds := [.data], laidTests := true, laidLooks := .later }
def LegalMoreUptoCardSaid : Prop := Claim7.holds Tryd.pinned (.plain (OpenSpec.upto legalMoreSpec)) legalMoreUptoCard

/-- THE SECOND FORM's CARD OF 'kakugyolaw11.LegalKings'. -/
def legalKingsUptoCard : Claim7 := { stood := { row := legalKingsUptoRow, standIns := [], harness := (true, "cbb8f5f91b0d5092e099a9cdfb84d42abcacb95f7a9198bafccbdd59c0b93ddf"), looks := false }, kinds := [], alts := [], laidByText := true, laidKinds := [.data], laidTests := true, laidLooks := .later }
def LegalKingsUptoCardSaid : Prop := Claim7.holds Tryd.pinned (.plain (OpenSpec.upto legalKingsSpec)) legalKingsUptoCard

/-- THE SECOND FORM's CARD OF 'kakugyolaw12.MateEnds'. -/
def mateEndsUptoCard : Claim7 := { stood := { row := mateEndsUptoRow, standIns := [], harness := (true, "cbb8f5f91b0d5092e099a9cdfb84d42abcacb95f7a9198bafccbdd59c0b93ddf"), looks := false }, kinds := [], alts := [], laidByText := true, laidKinds := [.data], laidTests := true, laidLooks := .later }
def MateEndsUptoCardSaid : Prop := Claim7.holds Tryd.pinned (.plain (OpenSpec.upto mateEndsSpec)) mateEndsUptoCard

/-- THE SECOND FORM's CARD OF 'kakugyolaw12.MateSides'. -/
def mateSidesUptoCard : Claim7 := { stood := { row := mateSidesUptoRow, standIns := [], harness := (true, "cbb8f5f91b0d5092e099a9cdfb84d42abcacb95f7a9198bafccbdd59c0b93ddf"), looks := false }, kinds := [], alts := [], laidByText := true, laidKinds := [.data], laidTests := true, laidLooks := .later }
def MateSidesUptoCardSaid : Prop := Claim7.holds Tryd.pinned (.plain (OpenSpec.upto mateSidesSpec)) mateSidesUptoCard
end Rows
end Go.Proofs.YtljnnegjhcdlkaaDoor
