/-
  No cell of these rows narrows 'for every input' (looked for: loops, veiled, ifaces, maps, wideKeys, modest, calm, conditions, laid).
  DERIVED. THE GIVEN ROWS OF THIS SEAT. 8 by the template 'for every input the law returns true; each argument reads behind the call as it read before'; 0 by the template 'total and deterministic' (their statements: YtjlgnglacdhflaaTotals.lean).
  GIVEN WITH THE SEED: the statements are not yours to turn. If you find one false, say at which input.
  Laid BY PROGRAM, IN A SANDBOX (cutbox-rows.mjs): the forced cells as the released guide's own fill.sh prints them over the translation 3a03196128919727… (all of the seat's roots in one cut). By AI agents, Wed Nov 11 2026. No macro, syntax, notation, axiom, sorry.
-/
import Derived.Test.YtjlgnglacdhflaaChecked
import GoSem.Claim
import GoSem.ClaimJoined
import GoSem.ClaimMapViews
import Derived.JoinedTies
import Derived.KernelRfl
namespace Go.Proofs.Ytjlgnglacdhflaa
/- THE CELL 'sum', in the pinned program and in every row, IS THE sha256 OF THE DUMP (.gsa) THAT YtjlgnglacdhflaaProg.lean LOADS. Nothing in Lean hashes anything: it is a label: what it is worth is what the hold of that sum in a sandbox is worth. -/
noncomputable def Try.pinned : Pinned := { name := "ytjlgnglacdhflaa", sum := "3a03196128919727cbf48f59cabe858b9b28c432b0ef7dc4d8fb1b189e2b4491", checked := Try.checked }
namespace Rows
def none {H : Type} : Left H := { results := [], args := [] }

/-- 'kakugyolaw18.TableRoom': WHATEVER THE INPUT: true; the input reads as it did. -/
def tableRoomSpec : ChangeSpec := { name := "tableRoom", fn := fun _ => fun
  | [d] => { results := [.lit (.bool true)], args := [d] }
  | _ => none }
def tableRoomRow : OpenClaim := { program := "ytjlgnglacdhflaa", sum := "3a03196128919727cbf48f59cabe858b9b28c432b0ef7dc4d8fb1b189e2b4491", func := "kakugyo/kakugyolaw18.TableRoom", spec := "tableRoom", unfollowed := true, recurses := true, plainKeys := false, apart := false }
def TableRoomSaid : Prop := tableRoomRow.holds Try.pinned (OpenSpec.ofChange tableRoomSpec)

/-- ITS FALSE NEIGHBOUR: 'it returns false'. Refute it at one input. -/
def tableRoomWrong : ChangeSpec := { name := "tableRoom", fn := fun _ => fun
  | [d] => { results := [.lit (.bool false)], args := [d] }
  | _ => none }
def TableRoomWrongFalsely : Prop := tableRoomRow.holds Try.pinned (OpenSpec.ofChange tableRoomWrong)

/-- 'kakugyolaw18.TableApart': WHATEVER THE INPUT: true; the input reads as it did. -/
def tableApartSpec : ChangeSpec := { name := "tableApart", fn := fun _ => fun
  | [d1, d2, d3] => { results := [.lit (.bool true)], args := [d1, d2, d3] }
  | _ => none }
def tableApartRow : OpenClaim := { program := "ytjlgnglacdhflaa", sum := "3a03196128919727cbf48f59cabe858b9b28c432b0ef7dc4d8fb1b189e2b4491", func := "kakugyo/kakugyolaw18.TableApart", spec := "tableApart", unfollowed := true, recurses := true, plainKeys := false, apart := false }
def TableApartSaid : Prop := tableApartRow.holds Try.pinned (OpenSpec.ofChange tableApartSpec)

/-- ITS FALSE NEIGHBOUR: 'it returns false'. Refute it at one input. -/
def tableApartWrong : ChangeSpec := { name := "tableApart", fn := fun _ => fun
  | [d1, d2, d3] => { results := [.lit (.bool false)], args := [d1, d2, d3] }
  | _ => none }
def TableApartWrongFalsely : Prop := tableApartRow.holds Try.pinned (OpenSpec.ofChange tableApartWrong)

/-- 'kakugyolaw18.TableMany': WHATEVER THE INPUT: true; the input reads as it did. -/
def tableManySpec : ChangeSpec := { name := "tableMany", fn := fun _ => fun
  | [d] => { results := [.lit (.bool true)], args := [d] }
  | _ => none }
def tableManyRow : OpenClaim := { program := "ytjlgnglacdhflaa", sum := "3a03196128919727cbf48f59cabe858b9b28c432b0ef7dc4d8fb1b189e2b4491", func := "kakugyo/kakugyolaw18.TableMany", spec := "tableMany", unfollowed := true, recurses := true, plainKeys := false, apart := false }
def TableManySaid : Prop := tableManyRow.holds Try.pinned (OpenSpec.ofChange tableManySpec)

/-- ITS FALSE NEIGHBOUR: 'it returns false'. Refute it at one input. -/
def tableManyWrong : ChangeSpec := { name := "tableMany", fn := fun _ => fun
  | [d] => { results := [.lit (.bool false)], args := [d] }
  | _ => none }
def TableManyWrongFalsely : Prop := tableManyRow.holds Try.pinned (OpenSpec.ofChange tableManyWrong)

/-- 'kakugyolaw18.TableTrue': WHATEVER THE INPUT: true; the input reads as it did. -/
def tableTrueSpec : ChangeSpec := { name := "tableTrue", fn := fun _ => fun
  | [d1, d2, d3] => { results := [.lit (.bool true)], args := [d1, d2, d3] }
  | _ => none }
def tableTrueRow : OpenClaim := { program := "ytjlgnglacdhflaa", sum := "3a03196128919727cbf48f59cabe858b9b28c432b0ef7dc4d8fb1b189e2b4491", func := "kakugyo/kakugyolaw18.TableTrue", spec := "tableTrue", unfollowed := true, recurses := true, plainKeys := false, apart := false }
def TableTrueSaid : Prop := tableTrueRow.holds Try.pinned (OpenSpec.ofChange tableTrueSpec)

/-- ITS FALSE NEIGHBOUR: 'it returns false'. Refute it at one input. -/
def tableTrueWrong : ChangeSpec := { name := "tableTrue", fn := fun _ => fun
  | [d1, d2, d3] => { results := [.lit (.bool false)], args := [d1, d2, d3] }
  | _ => none }
def TableTrueWrongFalsely : Prop := tableTrueRow.holds Try.pinned (OpenSpec.ofChange tableTrueWrong)

/-- 'kakugyolaw09.DeedKeys': WHATEVER THE INPUT: true; the input reads as it did. -/
def deedKeysSpec : ChangeSpec := { name := "deedKeys", fn := fun _ => fun
  | [d1, d2] => { results := [.lit (.bool true)], args := [d1, d2] }
  | _ => none }
def deedKeysRow : OpenClaim := { program := "ytjlgnglacdhflaa", sum := "3a03196128919727cbf48f59cabe858b9b28c432b0ef7dc4d8fb1b189e2b4491", func := "kakugyo/kakugyolaw09.DeedKeys", spec := "deedKeys", unfollowed := true, recurses := true, plainKeys := false, apart := false }
def DeedKeysSaid : Prop := deedKeysRow.holds Try.pinned (OpenSpec.ofChange deedKeysSpec)

/-- ITS FALSE NEIGHBOUR: 'it returns false'. Refute it at one input. -/
def deedKeysWrong : ChangeSpec := { name := "deedKeys", fn := fun _ => fun
  | [d1, d2] => { results := [.lit (.bool false)], args := [d1, d2] }
  | _ => none }
def DeedKeysWrongFalsely : Prop := deedKeysRow.holds Try.pinned (OpenSpec.ofChange deedKeysWrong)

/-- 'kakugyolaw09.DeedTwice': WHATEVER THE INPUT: true; the input reads as it did. -/
def deedTwiceSpec : ChangeSpec := { name := "deedTwice", fn := fun _ => fun
  | [d1, d2] => { results := [.lit (.bool true)], args := [d1, d2] }
  | _ => none }
def deedTwiceRow : OpenClaim := { program := "ytjlgnglacdhflaa", sum := "3a03196128919727cbf48f59cabe858b9b28c432b0ef7dc4d8fb1b189e2b4491", func := "kakugyo/kakugyolaw09.DeedTwice", spec := "deedTwice", unfollowed := true, recurses := true, plainKeys := false, apart := false }
def DeedTwiceSaid : Prop := deedTwiceRow.holds Try.pinned (OpenSpec.ofChange deedTwiceSpec)

/-- ITS FALSE NEIGHBOUR: 'it returns false'. Refute it at one input. -/
def deedTwiceWrong : ChangeSpec := { name := "deedTwice", fn := fun _ => fun
  | [d1, d2] => { results := [.lit (.bool false)], args := [d1, d2] }
  | _ => none }
def DeedTwiceWrongFalsely : Prop := deedTwiceRow.holds Try.pinned (OpenSpec.ofChange deedTwiceWrong)

/-- 'kakugyolaw09.DeedPieces': WHATEVER THE INPUT: true; the input reads as it did. -/
def deedPiecesSpec : ChangeSpec := { name := "deedPieces", fn := fun _ => fun
  | [d1, d2] => { results := [.lit (.bool true)], args := [d1, d2] }
  | _ => none }
def deedPiecesRow : OpenClaim := { program := "ytjlgnglacdhflaa", sum := "3a03196128919727cbf48f59cabe858b9b28c432b0ef7dc4d8fb1b189e2b4491", func := "kakugyo/kakugyolaw09.DeedPieces", spec := "deedPieces", unfollowed := true, recurses := true, plainKeys := false, apart := false }
def DeedPiecesSaid : Prop := deedPiecesRow.holds Try.pinned (OpenSpec.ofChange deedPiecesSpec)

/-- ITS FALSE NEIGHBOUR: 'it returns false'. Refute it at one input. -/
def deedPiecesWrong : ChangeSpec := { name := "deedPieces", fn := fun _ => fun
  | [d1, d2] => { results := [.lit (.bool false)], args := [d1, d2] }
  | _ => none }
def DeedPiecesWrongFalsely : Prop := deedPiecesRow.holds Try.pinned (OpenSpec.ofChange deedPiecesWrong)

/-- 'kakugyolaw09.DeedHands': WHATEVER THE INPUT: true; the input reads as it did. -/
def deedHandsSpec : ChangeSpec := { name := "deedHands", fn := fun _ => fun
  | [d1, d2] => { results := [.lit (.bool true)], args := [d1, d2] }
  | _ => none }
def deedHandsRow : OpenClaim := { program := "ytjlgnglacdhflaa", sum := "3a03196128919727cbf48f59cabe858b9b28c432b0ef7dc4d8fb1b189e2b4491", func := "kakugyo/kakugyolaw09.DeedHands", spec := "deedHands", unfollowed := true, recurses := true, plainKeys := false, apart := false }
def DeedHandsSaid : Prop := deedHandsRow.holds Try.pinned (OpenSpec.ofChange deedHandsSpec)

/-- ITS FALSE NEIGHBOUR: 'it returns false'. Refute it at one input. -/
def deedHandsWrong : ChangeSpec := { name := "deedHands", fn := fun _ => fun
  | [d1, d2] => { results := [.lit (.bool false)], args := [d1, d2] }
  | _ => none }
def DeedHandsWrongFalsely : Prop := deedHandsRow.holds Try.pinned (OpenSpec.ofChange deedHandsWrong)

/- THE SECOND FORM. 'bulk': how many values and letters a reading holds, each counted each time it is reached (what is shared counts as often as it is met; a slice's spare places count too). A statement '..UptoSaid' is the law's where the arguments, and the package variables that the reading takes, are together of bulk at most 1048576: NARROWER than '..Said'. Prove '..Said' where nothing that the law and all that it calls make is longer than what came in: it says more and counts as full. Else prove '..UptoSaid'. A law counts once. -/
mutual
def uptoBulk {H : Type} : DataW H → Nat
  | .lit (.string bytes) => bytes.length + 1
  | .lit _ => 1
  | .nil => 1
  | .ptr d => uptoBulk d + 1
  | .slice elems spare => uptoBulkAll elems + uptoBulkAll spare + 1
  | .agg parts => uptoBulkAll parts + 1
  | .iface _ d => uptoBulk d + 1
  | .map entries => uptoBulkEntries entries + 1
  | .held _ => 1
def uptoBulkAll {H : Type} : List (DataW H) → Nat
  | [] => 0
  | d :: r => uptoBulk d + uptoBulkAll r
def uptoBulkEntries {H : Type} : List (Lit × DataW H) → Nat
  | [] => 0
  | x :: r => uptoBulkEntry x + uptoBulkEntries r
def uptoBulkEntry {H : Type} : Lit × DataW H → Nat
  | (.string bytes, d) => bytes.length + uptoBulk d + 1
  | (_, d) => uptoBulk d + 1
 end
def uptoSmall : (H : Type) → List (DataW H) → Bool := fun _ ds => decide (uptoBulkAll ds ≤ 1048576)
def OpenSpec.upto (s : _root_.Go.ChangeSpec) : _root_.Go.OpenSpec := { _root_.Go.OpenSpec.ofChange s with cond := some uptoSmall }

/-- 'kakugyolaw18.TableRoom', WHERE WHAT IT READS IS OF BULK AT MOST 1048576: true; the input reads as it did. -/
def tableRoomUptoRow : OpenClaim := { program := "ytjlgnglacdhflaa", sum := "3a03196128919727cbf48f59cabe858b9b28c432b0ef7dc4d8fb1b189e2b4491", func := "kakugyo/kakugyolaw18.TableRoom", spec := "tableRoom", unfollowed := true, recurses := true, plainKeys := false, apart := false, narrowed := true }
def TableRoomUptoSaid : Prop := tableRoomUptoRow.holds Try.pinned (OpenSpec.upto tableRoomSpec)

/-- 'kakugyolaw18.TableApart', WHERE WHAT IT READS IS OF BULK AT MOST 1048576: true; the input reads as it did. -/
def tableApartUptoRow : OpenClaim := { program := "ytjlgnglacdhflaa", sum := "3a03196128919727cbf48f59cabe858b9b28c432b0ef7dc4d8fb1b189e2b4491", func := "kakugyo/kakugyolaw18.TableApart", spec := "tableApart", unfollowed := true, recurses := true, plainKeys := false, apart := false, narrowed := true }
def TableApartUptoSaid : Prop := tableApartUptoRow.holds Try.pinned (OpenSpec.upto tableApartSpec)

/-- 'kakugyolaw18.TableMany', WHERE WHAT IT READS IS OF BULK AT MOST 1048576: true; the input reads as it did. -/
def tableManyUptoRow : OpenClaim := { program := "ytjlgnglacdhflaa", sum := "3a03196128919727cbf48f59cabe858b9b28c432b0ef7dc4d8fb1b189e2b4491", func := "kakugyo/kakugyolaw18.TableMany", spec := "tableMany", unfollowed := true, recurses := true, plainKeys := false, apart := false, narrowed := true }
def TableManyUptoSaid : Prop := tableManyUptoRow.holds Try.pinned (OpenSpec.upto tableManySpec)

/-- 'kakugyolaw18.TableTrue', WHERE WHAT IT READS IS OF BULK AT MOST 1048576: true; the input reads as it did. -/
def tableTrueUptoRow : OpenClaim := { program := "ytjlgnglacdhflaa", sum := "3a03196128919727cbf48f59cabe858b9b28c432b0ef7dc4d8fb1b189e2b4491", func := "kakugyo/kakugyolaw18.TableTrue", spec := "tableTrue", unfollowed := true, recurses := true, plainKeys := false, apart := false, narrowed := true }
def TableTrueUptoSaid : Prop := tableTrueUptoRow.holds Try.pinned (OpenSpec.upto tableTrueSpec)

/-- 'kakugyolaw09.DeedKeys', WHERE WHAT IT READS IS OF BULK AT MOST 1048576: true; the input reads as it did. -/
def deedKeysUptoRow : OpenClaim := { program := "ytjlgnglacdhflaa", sum := "3a03196128919727cbf48f59cabe858b9b28c432b0ef7dc4d8fb1b189e2b4491", func := "kakugyo/kakugyolaw09.DeedKeys", spec := "deedKeys", unfollowed := true, recurses := true, plainKeys := false, apart := false, narrowed := true }
def DeedKeysUptoSaid : Prop := deedKeysUptoRow.holds Try.pinned (OpenSpec.upto deedKeysSpec)

/-- 'kakugyolaw09.DeedTwice', WHERE WHAT IT READS IS OF BULK AT MOST 1048576: true; the input reads as it did. -/
def deedTwiceUptoRow : OpenClaim := { program := "ytjlgnglacdhflaa", sum := "3a03196128919727cbf48f59cabe858b9b28c432b0ef7dc4d8fb1b189e2b4491", func := "kakugyo/kakugyolaw09.DeedTwice", spec := "deedTwice", unfollowed := true, recurses := true, plainKeys := false, apart := false, narrowed := true }
def DeedTwiceUptoSaid : Prop := deedTwiceUptoRow.holds Try.pinned (OpenSpec.upto deedTwiceSpec)

/-- 'kakugyolaw09.DeedPieces', WHERE WHAT IT READS IS OF BULK AT MOST 1048576: true; the input reads as it did. -/
def deedPiecesUptoRow : OpenClaim := { program := "ytjlgnglacdhflaa", sum := "3a03196128919727cbf48f59cabe858b9b28c432b0ef7dc4d8fb1b189e2b4491", func := "kakugyo/kakugyolaw09.DeedPieces", spec := "deedPieces", unfollowed := true, recurses := true, plainKeys := false, apart := false, narrowed := true }
def DeedPiecesUptoSaid : Prop := deedPiecesUptoRow.holds Try.pinned (OpenSpec.upto deedPiecesSpec)

/-- 'kakugyolaw09.DeedHands', WHERE WHAT IT READS IS OF BULK AT MOST 1048576: true; the input reads as it did. -/
def deedHandsUptoRow : OpenClaim := { program := "ytjlgnglacdhflaa", sum := "3a03196128919727cbf48f59cabe858b9b28c432b0ef7dc4d8fb1b189e2b4491", func := "kakugyo/kakugyolaw09.DeedHands", spec := "deedHands", unfollowed := true, recurses := true, plainKeys := false, apart := false, narrowed := true }
def DeedHandsUptoSaid : Prop := deedHandsUptoRow.holds Try.pinned (OpenSpec.upto deedHandsSpec)

end Rows
end Go.Proofs.Ytjlgnglacdhflaa
