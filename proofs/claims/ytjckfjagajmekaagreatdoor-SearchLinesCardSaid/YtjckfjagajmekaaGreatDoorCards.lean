/-
  DERIVED. GIVEN WITH THE SEED: THE CARDS: each row of YtjckfjagajmekaaGreatDoorRows.lean that lists a variable, with what it lists TIED to the program's text (the seventh form; the later family's looks); each row that meets fmt, with fmt's text TOLD by the authors' own Lean function (tested against real Go, not proved from fmt's source: count such statements apart). THE CARD IS WHAT COUNTS. Prove the row's statement (the work); the ties are given (YtjckfjagajmekaaGreatDoorTie.lean); close each card by the builder's one call (the guide's Derived/Test/ToyasCard.lean, 'card_holds'). Laid BY PROGRAM, IN A SANDBOX (cutbox-door.mjs). By AI agents, Wed Nov 11 2026. No macro, syntax, notation, axiom, sorry.
-/
import Derived.Test.YtjckfjagajmekaaGreatDoorRows
import GoSem.ClaimSeven
namespace Go.Proofs.YtjckfjagajmekaaGreatDoor
namespace Rows

/-- THE TIED CARD OF 'kakugyolaw19.SearchLines'. -/
def searchLinesCard : Claim7 := { stood := { row := searchLinesRow, standIns := [], harness := (true, "7be9070a8ec03f59ce1b93eba7aa6a44309f5f601a7f2818acf614b02ec1f7bc"), looks := false }, kinds := [], alts := [], laidByText := true, laidKinds := [.data], laidTests := true, laidLooks := .later }
def SearchLinesCardSaid : Prop := Claim7.holds Tryz.pinned (.plain (OpenSpec.ofChange searchLinesSpec)) searchLinesCard

/-- THE TIED CARD OF 'kakugyolaw19.SearchRange'. -/
def searchRangeCard : Claim7 := { stood := { row := searchRangeRow, standIns := [], harness := (true, "7be9070a8ec03f59ce1b93eba7aa6a44309f5f601a7f2818acf614b02ec1f7bc"), looks := false }, kinds := [], alts := [], laidByText := true, laidKinds := [.data], laidTests := true, laidLooks := .later }
def SearchRangeCardSaid : Prop := Claim7.holds Tryz.pinned (.plain (OpenSpec.ofChange searchRangeSpec)) searchRangeCard

/-- THE TIED CARD OF 'kakugyolaw19.SearchMates'. -/
def searchMatesCard : Claim7 := { stood := { row := searchMatesRow, standIns := [], harness := (true, "7be9070a8ec03f59ce1b93eba7aa6a44309f5f601a7f2818acf614b02ec1f7bc"), looks := false }, kinds := [], alts := [], laidByText := true, laidKinds := [.data], laidTests := true, laidLooks := .later }
def SearchMatesCardSaid : Prop := Claim7.holds Tryz.pinned (.plain (OpenSpec.ofChange searchMatesSpec)) searchMatesCard

/-- THE SECOND FORM's CARD OF 'kakugyolaw19.SearchLines'. -/
def searchLinesUptoCard : Claim7 := { stood := { row := searchLinesUptoRow, standIns := [], harness := (true, "7be9070a8ec03f59ce1b93eba7aa6a44309f5f601a7f2818acf614b02ec1f7bc"), looks := false }, kinds := [], alts := [], laidByText := true, laidKinds := [.data], laidTests := true, laidLooks := .later }
def SearchLinesUptoCardSaid : Prop := Claim7.holds Tryz.pinned (.plain (OpenSpec.upto searchLinesSpec)) searchLinesUptoCard

/-- THE SECOND FORM's CARD OF 'kakugyolaw19.SearchRange'. -/
def searchRangeUptoCard : Claim7 := { stood := { row := searchRangeUptoRow, standIns := [], harness := (true, "7be9070a8ec03f59ce1b93eba7aa6a44309f5f601a7f2818acf614b02ec1f7bc"), looks := false }, kinds := [], alts := [], laidByText := true, laidKinds := [.data], laidTests := true, laidLooks := .later }
def SearchRangeUptoCardSaid : Prop := Claim7.holds Tryz.pinned (.plain (OpenSpec.upto searchRangeSpec)) searchRangeUptoCard

/-- THE SECOND FORM's CARD OF 'kakugyolaw19.SearchMates'. -/
def searchMatesUptoCard : Claim7 := { stood := { row := searchMatesUptoRow, standIns := [], harness := (true, "7be9070a8ec03f59ce1b93eba7aa6a44309f5f601a7f2818acf614b02ec1f7bc"), looks := false }, kinds := [], alts := [], laidByText := true, laidKinds := [.data], laidTests := true, laidLooks := .later }
def SearchMatesUptoCardSaid : Prop := Claim7.holds Tryz.pinned (.plain (OpenSpec.upto searchMatesSpec)) searchMatesUptoCard
end Rows
end Go.Proofs.YtjckfjagajmekaaGreatDoor
