/-
  NARROWER THAN 'FOR EVERY INPUT', by the rows' own cells (each row's printed sentence says how): LegalAll: laid · LegalIs: laid · LegalPawns: laid · LegalMore: laid · LegalKings: laid · MateEnds: laid · MateSides: laid.
  DERIVED. THE GIVEN ROWS OF THIS SEAT. 7 by the template 'for every input the law returns true; each argument reads behind the call as it read before'; 0 by the template 'total and deterministic' (their statements: YtljnnegjhcdlkaaDoorTotals.lean).
  GIVEN WITH THE SEED: the statements are not yours to turn. If you find one false, say at which input.
  Laid BY PROGRAM, IN A SANDBOX (cutbox-rows.mjs): the forced cells as the released guide's own fill.sh prints them over the translation 39dd773353243fb3… (all of the seat's roots in one cut). By AI agents, Wed Nov 11 2026. No macro, syntax, notation, axiom, sorry.
-/
import Derived.Test.YtljnnegjhcdlkaaDoorChecked
import GoSem.Claim
import GoSem.ClaimJoined
import GoSem.ClaimMapViews
import Derived.JoinedTies
import Derived.KernelRfl
namespace Go.Proofs.YtljnnegjhcdlkaaDoor
/- THE CELL 'sum', in the pinned program and in every row, IS THE sha256 OF THE DUMP (.gsa) THAT YtljnnegjhcdlkaaDoorProg.lean LOADS. Nothing in Lean hashes anything: it is a label: what it is worth is what the hold of that sum in a sandbox is worth. -/
noncomputable def Tryd.pinned : Pinned := { name := "ytljnnegjhcdlkaadoor", sum := "39dd773353243fb37a7c87af28d9c018151466e96ab078a1653ae8c2874cfd7a", checked := Tryd.checked }
namespace Rows
def none {H : Type} : Left H := { results := [], args := [] }

/- WHAT THE LISTED PACKAGE-LEVEL VARIABLES READ AS WHEN THE CALL BEGINS. Each datum BY PROGRAM (the guide's laid-datum.mjs) off the statement by which the dump's own 'gosem.cut.vars' lays the variable. In a bare row this is a premise. The card (YtljnnegjhcdlkaaDoorCards.lean) ties it to the program's text. -/
def laid_math_bits_deBruijn64tab {H : Type} : DataW H := .agg [.lit (.int .u8 0), .lit (.int .u8 1), .lit (.int .u8 56), .lit (.int .u8 2), .lit (.int .u8 57), .lit (.int .u8 49), .lit (.int .u8 28), .lit (.int .u8 3), .lit (.int .u8 61), .lit (.int .u8 58), .lit (.int .u8 42), .lit (.int .u8 50), .lit (.int .u8 38), .lit (.int .u8 29), .lit (.int .u8 17), .lit (.int .u8 4), .lit (.int .u8 62), .lit (.int .u8 47), .lit (.int .u8 59), .lit (.int .u8 36), .lit (.int .u8 45), .lit (.int .u8 43), .lit (.int .u8 51), .lit (.int .u8 22), .lit (.int .u8 53), .lit (.int .u8 39), .lit (.int .u8 33), .lit (.int .u8 30), .lit (.int .u8 24), .lit (.int .u8 18), .lit (.int .u8 12), .lit (.int .u8 5), .lit (.int .u8 63), .lit (.int .u8 55), .lit (.int .u8 48), .lit (.int .u8 27), .lit (.int .u8 60), .lit (.int .u8 41), .lit (.int .u8 37), .lit (.int .u8 16), .lit (.int .u8 46), .lit (.int .u8 35), .lit (.int .u8 44), .lit (.int .u8 21), .lit (.int .u8 52), .lit (.int .u8 32), .lit (.int .u8 23), .lit (.int .u8 11), .lit (.int .u8 54), .lit (.int .u8 26), .lit (.int .u8 40), .lit (.int .u8 15), .lit (.int .u8 34), .lit (.int .u8 20), .lit (.int .u8 31), .lit (.int .u8 10), .lit (.int .u8 25), .lit (.int .u8 14), .lit (.int .u8 19), .lit (.int .u8 9), .lit (.int .u8 13), .lit (.int .u8 8), .lit (.int .u8 7), .lit (.int .u8 6)]

/-- 'kakugyolaw11.LegalAll': WHATEVER THE INPUT: true; the input reads as it did. -/
def legalAllSpec : ChangeSpec := { name := "legalAll", fn := fun _ => fun
  | [d] => { results := [.lit (.bool true)], args := [d] }
  | _ => none }
def legalAllRow : OpenClaim := { program := "ytljnnegjhcdlkaadoor", sum := "39dd773353243fb37a7c87af28d9c018151466e96ab078a1653ae8c2874cfd7a", func := "kakugyo/kakugyolaw11.LegalAll", spec := "legalAll", unfollowed := true, recurses := true, named := ["math/bits.deBruijn64tab"], plainKeys := false, apart := false, laid := [("math/bits.deBruijn64tab", laid_math_bits_deBruijn64tab)] }
def LegalAllSaid : Prop := legalAllRow.holds Tryd.pinned (OpenSpec.ofChange legalAllSpec)

/-- ITS FALSE NEIGHBOUR: 'it returns false'. Refute it at one input. -/
def legalAllWrong : ChangeSpec := { name := "legalAll", fn := fun _ => fun
  | [d] => { results := [.lit (.bool false)], args := [d] }
  | _ => none }
def LegalAllWrongFalsely : Prop := legalAllRow.holds Tryd.pinned (OpenSpec.ofChange legalAllWrong)

/-- 'kakugyolaw11.LegalIs': WHATEVER THE INPUT: true; the input reads as it did. -/
def legalIsSpec : ChangeSpec := { name := "legalIs", fn := fun _ => fun
  | [d1, d2] => { results := [.lit (.bool true)], args := [d1, d2] }
  | _ => none }
def legalIsRow : OpenClaim := { program := "ytljnnegjhcdlkaadoor", sum := "39dd773353243fb37a7c87af28d9c018151466e96ab078a1653ae8c2874cfd7a", func := "kakugyo/kakugyolaw11.LegalIs", spec := "legalIs", unfollowed := true, recurses := true, named := ["math/bits.deBruijn64tab"], plainKeys := false, apart := false, laid := [("math/bits.deBruijn64tab", laid_math_bits_deBruijn64tab)] }
def LegalIsSaid : Prop := legalIsRow.holds Tryd.pinned (OpenSpec.ofChange legalIsSpec)

/-- ITS FALSE NEIGHBOUR: 'it returns false'. Refute it at one input. -/
def legalIsWrong : ChangeSpec := { name := "legalIs", fn := fun _ => fun
  | [d1, d2] => { results := [.lit (.bool false)], args := [d1, d2] }
  | _ => none }
def LegalIsWrongFalsely : Prop := legalIsRow.holds Tryd.pinned (OpenSpec.ofChange legalIsWrong)

/-- 'kakugyolaw11.LegalPawns': WHATEVER THE INPUT: true; the input reads as it did. -/
def legalPawnsSpec : ChangeSpec := { name := "legalPawns", fn := fun _ => fun
  | [d1, d2] => { results := [.lit (.bool true)], args := [d1, d2] }
  | _ => none }
def legalPawnsRow : OpenClaim := { program := "ytljnnegjhcdlkaadoor", sum := "39dd773353243fb37a7c87af28d9c018151466e96ab078a1653ae8c2874cfd7a", func := "kakugyo/kakugyolaw11.LegalPawns", spec := "legalPawns", unfollowed := true, recurses := true, named := ["math/bits.deBruijn64tab"], plainKeys := false, apart := false, laid := [("math/bits.deBruijn64tab", laid_math_bits_deBruijn64tab)] }
def LegalPawnsSaid : Prop := legalPawnsRow.holds Tryd.pinned (OpenSpec.ofChange legalPawnsSpec)

/-- ITS FALSE NEIGHBOUR: 'it returns false'. Refute it at one input. -/
def legalPawnsWrong : ChangeSpec := { name := "legalPawns", fn := fun _ => fun
  | [d1, d2] => { results := [.lit (.bool false)], args := [d1, d2] }
  | _ => none }
def LegalPawnsWrongFalsely : Prop := legalPawnsRow.holds Tryd.pinned (OpenSpec.ofChange legalPawnsWrong)

/-- 'kakugyolaw11.LegalMore': WHATEVER THE INPUT: true; the input reads as it did. -/
def legalMoreSpec : ChangeSpec := { name := "legalMore", fn := fun _ => fun
  | [d1, d2] => { results := [.lit (.bool true)], args := [d1, d2] }
  | _ => none }
def legalMoreRow : OpenClaim := { program := "ytljnnegjhcdlkaadoor", sum := "39dd773353243fb37a7c87af28d9c018151466e96ab078a1653ae8c2874cfd7a", func := "kakugyo/kakugyolaw11.LegalMore", spec := "legalMore", unfollowed := true, recurses := true, named := ["math/bits.deBruijn64tab"], plainKeys := false, apart := false, laid := [("math/bits.deBruijn64tab", laid_math_bits_deBruijn64tab)] }
def LegalMoreSaid : Prop := legalMoreRow.holds Tryd.pinned (OpenSpec.ofChange legalMoreSpec)

/-- ITS FALSE NEIGHBOUR: 'it returns false'. Refute it at one input. -/
def legalMoreWrong : ChangeSpec := { name := "legalMore", fn := fun _ => fun
  | [d1, d2] => { results := [.lit (.bool false)], args := [d1, d2] }
  | _ => none }
def LegalMoreWrongFalsely : Prop := legalMoreRow.holds Tryd.pinned (OpenSpec.ofChange legalMoreWrong)

/-- 'kakugyolaw11.LegalKings': WHATEVER THE INPUT: true; the input reads as it did. -/
def legalKingsSpec : ChangeSpec := { name := "legalKings", fn := fun _ => fun
  | [d] => { results := [.lit (.bool true)], args := [d] }
  | _ => none }
def legalKingsRow : OpenClaim := { program := "ytljnnegjhcdlkaadoor", sum := "39dd773353243fb37a7c87af28d9c018151466e96ab078a1653ae8c2874cfd7a", func := "kakugyo/kakugyolaw11.LegalKings", spec := "legalKings", unfollowed := true, recurses := true, named := ["math/bits.deBruijn64tab"], plainKeys := false, apart := false, laid := [("math/bits.deBruijn64tab", laid_math_bits_deBruijn64tab)] }
def LegalKingsSaid : Prop := legalKingsRow.holds Tryd.pinned (OpenSpec.ofChange legalKingsSpec)

/-- ITS FALSE NEIGHBOUR: 'it returns false'. Refute it at one input. -/
def legalKingsWrong : ChangeSpec := { name := "legalKings", fn := fun _ => fun
  | [d] => { results := [.lit (.bool false)], args := [d] }
  | _ => none }
def LegalKingsWrongFalsely : Prop := legalKingsRow.holds Tryd.pinned (OpenSpec.ofChange legalKingsWrong)

/-- 'kakugyolaw12.MateEnds': WHATEVER THE INPUT: true; the input reads as it did. -/
def mateEndsSpec : ChangeSpec := { name := "mateEnds", fn := fun _ => fun
  | [d] => { results := [.lit (.bool true)], args := [d] }
  | _ => none }
def mateEndsRow : OpenClaim := { program := "ytljnnegjhcdlkaadoor", sum := "39dd773353243fb37a7c87af28d9c018151466e96ab078a1653ae8c2874cfd7a", func := "kakugyo/kakugyolaw12.MateEnds", spec := "mateEnds", recurses := true, named := ["math/bits.deBruijn64tab"], plainKeys := false, apart := false, laid := [("math/bits.deBruijn64tab", laid_math_bits_deBruijn64tab)] }
def MateEndsSaid : Prop := mateEndsRow.holds Tryd.pinned (OpenSpec.ofChange mateEndsSpec)

/-- ITS FALSE NEIGHBOUR: 'it returns false'. Refute it at one input. -/
def mateEndsWrong : ChangeSpec := { name := "mateEnds", fn := fun _ => fun
  | [d] => { results := [.lit (.bool false)], args := [d] }
  | _ => none }
def MateEndsWrongFalsely : Prop := mateEndsRow.holds Tryd.pinned (OpenSpec.ofChange mateEndsWrong)

/-- 'kakugyolaw12.MateSides': WHATEVER THE INPUT: true; the input reads as it did. -/
def mateSidesSpec : ChangeSpec := { name := "mateSides", fn := fun _ => fun
  | [d] => { results := [.lit (.bool true)], args := [d] }
  | _ => none }
def mateSidesRow : OpenClaim := { program := "ytljnnegjhcdlkaadoor", sum := "39dd773353243fb37a7c87af28d9c018151466e96ab078a1653ae8c2874cfd7a", func := "kakugyo/kakugyolaw12.MateSides", spec := "mateSides", recurses := true, named := ["math/bits.deBruijn64tab"], plainKeys := false, apart := false, laid := [("math/bits.deBruijn64tab", laid_math_bits_deBruijn64tab)] }
def MateSidesSaid : Prop := mateSidesRow.holds Tryd.pinned (OpenSpec.ofChange mateSidesSpec)

/-- ITS FALSE NEIGHBOUR: 'it returns false'. Refute it at one input. -/
def mateSidesWrong : ChangeSpec := { name := "mateSides", fn := fun _ => fun
  | [d] => { results := [.lit (.bool false)], args := [d] }
  | _ => none }
def MateSidesWrongFalsely : Prop := mateSidesRow.holds Tryd.pinned (OpenSpec.ofChange mateSidesWrong)

/- THE SECOND FORM. 'bulk': how many values and letters a reading holds, each counted each time it is reached (what is shared counts as often as it is met; a slice's spare places count too). A statement '..UptoSaid' is the law's where the arguments, and the package variables that the reading takes, are together of bulk at most 1048576: NARROWER than '..Said'. Prove '..Said' where nothing that the law and all that it calls make is longer than what came in: it says more and counts as full. Else prove '..UptoSaid'. A law counts once. -/
mutual
def uptoBulk {H : Type} : DataW H → Nat
  | .lit (.string bytes) => bytes.length + 1
  | .lit _ => 1
  | .nil => 1
  | .ptr d => uptoBulk d + 1
  | .slice elems spare => uptoBulkAll elems + uptoBulkAll spare + 1
  | .agg parts => uptoBulkAll parts + 1
  | .iface _ d => uptoBulk d + 1
  | .map entries => uptoBulkEntries entries + 1
  | .held _ => 1
def uptoBulkAll {H : Type} : List (DataW H) → Nat
  | [] => 0
  | d :: r => uptoBulk d + uptoBulkAll r
def uptoBulkEntries {H : Type} : List (Lit × DataW H) → Nat
  | [] => 0
  | x :: r => uptoBulkEntry x + uptoBulkEntries r
def uptoBulkEntry {H : Type} : Lit × DataW H → Nat
  | (.string bytes, d) => bytes.length + uptoBulk d + 1
  | (_, d) => uptoBulk d + 1
 end
def uptoSmall : (H : Type) → List (DataW H) → Bool := fun _ ds => decide (uptoBulkAll ds ≤ 1048576)
def OpenSpec.upto (s : _root_.Go.ChangeSpec) : _root_.Go.OpenSpec := { _root_.Go.OpenSpec.ofChange s with cond := some uptoSmall }

/-- 'kakugyolaw11.LegalAll', WHERE WHAT IT READS IS OF BULK AT MOST 1048576: true; the input reads as it did. -/
def legalAllUptoRow : OpenClaim := { program := "ytljnnegjhcdlkaadoor", sum := "39dd773353243fb37a7c87af28d9c018151466e96ab078a1653ae8c2874cfd7a", func := "kakugyo/kakugyolaw11.LegalAll", spec := "legalAll", unfollowed := true, recurses := true, named := ["math/bits.deBruijn64tab"], plainKeys := false, apart := false, laid := [("math/bits.deBruijn64tab", laid_math_bits_deBruijn64tab)], narrowed := true }
def LegalAllUptoSaid : Prop := legalAllUptoRow.holds Tryd.pinned (OpenSpec.upto legalAllSpec)

/-- 'kakugyolaw11.LegalIs', WHERE WHAT IT READS IS OF BULK AT MOST 1048576: true; the input reads as it did. -/
def legalIsUptoRow : OpenClaim := { program := "ytljnnegjhcdlkaadoor", sum := "39dd773353243fb37a7c87af28d9c018151466e96ab078a1653ae8c2874cfd7a", func := "kakugyo/kakugyolaw11.LegalIs", spec := "legalIs", unfollowed := true, recurses := true, named := ["math/bits.deBruijn64tab"], plainKeys := false, apart := false, laid := [("math/bits.deBruijn64tab", laid_math_bits_deBruijn64tab)], narrowed := true }
def LegalIsUptoSaid : Prop := legalIsUptoRow.holds Tryd.pinned (OpenSpec.upto legalIsSpec)

/-- 'kakugyolaw11.LegalPawns', WHERE WHAT IT READS IS OF BULK AT MOST 1048576: true; the input reads as it did. -/
def legalPawnsUptoRow : OpenClaim := { program := "ytljnnegjhcdlkaadoor", sum := "39dd773353243fb37a7c87af28d9c018151466e96ab078a1653ae8c2874cfd7a", func := "kakugyo/kakugyolaw11.LegalPawns", spec := "legalPawns", unfollowed := true, recurses := true, named := ["math/bits.deBruijn64tab"], plainKeys := false, apart := false, laid := [("math/bits.deBruijn64tab", laid_math_bits_deBruijn64tab)], narrowed := true }
def LegalPawnsUptoSaid : Prop := legalPawnsUptoRow.holds Tryd.pinned (OpenSpec.upto legalPawnsSpec)

/-- 'kakugyolaw11.LegalMore', WHERE WHAT IT READS IS OF BULK AT MOST 1048576: true; the input reads as it did. -/
def legalMoreUptoRow : OpenClaim := { program := "ytljnnegjhcdlkaadoor", sum := "39dd773353243fb37a7c87af28d9c018151466e96ab078a1653ae8c2874cfd7a", func := "kakugyo/kakugyolaw11.LegalMore", spec := "legalMore", unfollowed := true, recurses := true, named := ["math/bits.deBruijn64tab"], plainKeys := false, apart := false, laid := [("math/bits.deBruijn64tab", laid_math_bits_deBruijn64tab)], narrowed := true }
def LegalMoreUptoSaid : Prop := legalMoreUptoRow.holds Tryd.pinned (OpenSpec.upto legalMoreSpec)

/-- 'kakugyolaw11.LegalKings', WHERE WHAT IT READS IS OF BULK AT MOST 1048576: true; the input reads as it did. -/
def legalKingsUptoRow : OpenClaim := { program := "ytljnnegjhcdlkaadoor", sum := "39dd773353243fb37a7c87af28d9c018151466e96ab078a1653ae8c2874cfd7a", func := "kakugyo/kakugyolaw11.LegalKings", spec := "legalKings", unfollowed := true, recurses := true, named := ["math/bits.deBruijn64tab"], plainKeys := false, apart := false, laid := [("math/bits.deBruijn64tab", laid_math_bits_deBruijn64tab)], narrowed := true }
def LegalKingsUptoSaid : Prop := legalKingsUptoRow.holds Tryd.pinned (OpenSpec.upto legalKingsSpec)

/-- 'kakugyolaw12.MateEnds', WHERE WHAT IT READS IS OF BULK AT MOST 1048576: true; the input reads as it did. -/
def mateEndsUptoRow : OpenClaim := { program := "ytljnnegjhcdlkaadoor", sum := "39dd773353243fb37a7c87af28d9c018151466e96ab078a1653ae8c2874cfd7a", func := "kakugyo/kakugyolaw12.MateEnds", spec := "mateEnds", recurses := true, named := ["math/bits.deBruijn64tab"], plainKeys := false, apart := false, laid := [("math/bits.deBruijn64tab", laid_math_bits_deBruijn64tab)], narrowed := true }
def MateEndsUptoSaid : Prop := mateEndsUptoRow.holds Tryd.pinned (OpenSpec.upto mateEndsSpec)

/-- 'kakugyolaw12.MateSides', WHERE WHAT IT READS IS OF BULK AT MOST 1048576: true; the input reads as it did. -/
def mateSidesUptoRow : OpenClaim := { program := "ytljnnegjhcdlkaadoor", sum := "39dd773353243fb37a7c87af28d9c018151466e96ab078a1653ae8c2874cfd7a", func := "kakugyo/kakugyolaw12.MateSides", spec := "mateSides", recurses := true, named := ["math/bits.deBruijn64tab"], plainKeys := false, apart := false, laid := [("math/bits.deBruijn64tab", laid_math_bits_deBruijn64tab)], narrowed := true }
def MateSidesUptoSaid : Prop := mateSidesUptoRow.holds Tryd.pinned (OpenSpec.upto mateSidesSpec)

end Rows
end Go.Proofs.YtljnnegjhcdlkaaDoor
