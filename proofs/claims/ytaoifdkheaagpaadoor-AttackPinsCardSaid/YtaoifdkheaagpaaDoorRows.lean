/-
  NARROWER THAN 'FOR EVERY INPUT', by the rows' own cells (each row's printed sentence says how): WholeEvades: laid · GenAll: laid · GenPromotes: laid · GenFree: laid · GenTurns: laid · GenOnce: laid · AttackChecks: laid · AttackAll: laid · AttackPins: laid.
  DERIVED. THE GIVEN ROWS OF THIS SEAT. 9 by the template 'for every input the law returns true; each argument reads behind the call as it read before'; 0 by the template 'total and deterministic' (their statements: YtaoifdkheaagpaaDoorTotals.lean).
  GIVEN WITH THE SEED: the statements are not yours to turn. If you find one false, say at which input.
  Laid BY PROGRAM, IN A SANDBOX (cutbox-rows.mjs): the forced cells as the released guide's own fill.sh prints them over the translation d37c4ae46f26a4e6… (all of the seat's roots in one cut). By AI agents, Wed Nov 11 2026. No macro, syntax, notation, axiom, sorry.
-/
import Derived.Test.YtaoifdkheaagpaaDoorChecked
import GoSem.Claim
import GoSem.ClaimJoined
import GoSem.ClaimMapViews
import Derived.JoinedTies
import Derived.KernelRfl
namespace Go.Proofs.YtaoifdkheaagpaaDoor
/- THE CELL 'sum', in the pinned program and in every row, IS THE sha256 OF THE DUMP (.gsa) THAT YtaoifdkheaagpaaDoorProg.lean LOADS. Nothing in Lean hashes anything: it is a label: what it is worth is what the hold of that sum in a sandbox is worth. -/
noncomputable def Tryd.pinned : Pinned := { name := "ytaoifdkheaagpaadoor", sum := "d37c4ae46f26a4e67588d1682db2e3447e88c71f95abc1e815bcb4f7569f15db", checked := Tryd.checked }
namespace Rows
def none {H : Type} : Left H := { results := [], args := [] }

/- WHAT THE LISTED PACKAGE-LEVEL VARIABLES READ AS WHEN THE CALL BEGINS. Each datum BY PROGRAM (the guide's laid-datum.mjs) off the statement by which the dump's own 'gosem.cut.vars' lays the variable. In a bare row this is a premise. The card (YtaoifdkheaagpaaDoorCards.lean) ties it to the program's text. -/
def laid_math_bits_deBruijn64tab {H : Type} : DataW H := .agg [.lit (.int .u8 0), .lit (.int .u8 1), .lit (.int .u8 56), .lit (.int .u8 2), .lit (.int .u8 57), .lit (.int .u8 49), .lit (.int .u8 28), .lit (.int .u8 3), .lit (.int .u8 61), .lit (.int .u8 58), .lit (.int .u8 42), .lit (.int .u8 50), .lit (.int .u8 38), .lit (.int .u8 29), .lit (.int .u8 17), .lit (.int .u8 4), .lit (.int .u8 62), .lit (.int .u8 47), .lit (.int .u8 59), .lit (.int .u8 36), .lit (.int .u8 45), .lit (.int .u8 43), .lit (.int .u8 51), .lit (.int .u8 22), .lit (.int .u8 53), .lit (.int .u8 39), .lit (.int .u8 33), .lit (.int .u8 30), .lit (.int .u8 24), .lit (.int .u8 18), .lit (.int .u8 12), .lit (.int .u8 5), .lit (.int .u8 63), .lit (.int .u8 55), .lit (.int .u8 48), .lit (.int .u8 27), .lit (.int .u8 60), .lit (.int .u8 41), .lit (.int .u8 37), .lit (.int .u8 16), .lit (.int .u8 46), .lit (.int .u8 35), .lit (.int .u8 44), .lit (.int .u8 21), .lit (.int .u8 52), .lit (.int .u8 32), .lit (.int .u8 23), .lit (.int .u8 11), .lit (.int .u8 54), .lit (.int .u8 26), .lit (.int .u8 40), .lit (.int .u8 15), .lit (.int .u8 34), .lit (.int .u8 20), .lit (.int .u8 31), .lit (.int .u8 10), .lit (.int .u8 25), .lit (.int .u8 14), .lit (.int .u8 19), .lit (.int .u8 9), .lit (.int .u8 13), .lit (.int .u8 8), .lit (.int .u8 7), .lit (.int .u8 6)]

/-- 'kakugyotop.WholeEvades': WHATEVER THE INPUT: true; the input reads as it did. -/
def wholeEvadesSpec : ChangeSpec := { name := "wholeEvades", fn := fun _ => fun
  | [d] => { results := [.lit (.bool true)], args := [d] }
  | _ => none }
def wholeEvadesRow : OpenClaim := { program := "ytaoifdkheaagpaadoor", sum := "d37c4ae46f26a4e67588d1682db2e3447e88c71f95abc1e815bcb4f7569f15db", func := "kakugyo/kakugyotop.WholeEvades", spec := "wholeEvades", unfollowed := true, recurses := true, named := ["math/bits.deBruijn64tab"], plainKeys := false, apart := false, laid := [("math/bits.deBruijn64tab", laid_math_bits_deBruijn64tab)] }
def WholeEvadesSaid : Prop := wholeEvadesRow.holds Tryd.pinned (OpenSpec.ofChange wholeEvadesSpec)

/-- ITS FALSE NEIGHBOUR: 'it returns false'. Refute it at one input. -/
def wholeEvadesWrong : ChangeSpec := { name := "wholeEvades", fn := fun _ => fun
  | [d] => { results := [.lit (.bool false)], args := [d] }
  | _ => none }
def WholeEvadesWrongFalsely : Prop := wholeEvadesRow.holds Tryd.pinned (OpenSpec.ofChange wholeEvadesWrong)

/-- 'kakugyolaw10.GenAll': WHATEVER THE INPUT: true; the input reads as it did. -/
def genAllSpec : ChangeSpec := { name := "genAll", fn := fun _ => fun
  | [d] => { results := [.lit (.bool true)], args := [d] }
  | _ => none }
def genAllRow : OpenClaim := { program := "ytaoifdkheaagpaadoor", sum := "d37c4ae46f26a4e67588d1682db2e3447e88c71f95abc1e815bcb4f7569f15db", func := "kakugyo/kakugyolaw10.GenAll", spec := "genAll", unfollowed := true, recurses := true, named := ["math/bits.deBruijn64tab"], plainKeys := false, apart := false, laid := [("math/bits.deBruijn64tab", laid_math_bits_deBruijn64tab)] }
def GenAllSaid : Prop := genAllRow.holds Tryd.pinned (OpenSpec.ofChange genAllSpec)

/-- ITS FALSE NEIGHBOUR: 'it returns false'. Refute it at one input. -/
def genAllWrong : ChangeSpec := { name := "genAll", fn := fun _ => fun
  | [d] => { results := [.lit (.bool false)], args := [d] }
  | _ => none }
def GenAllWrongFalsely : Prop := genAllRow.holds Tryd.pinned (OpenSpec.ofChange genAllWrong)

/-- 'kakugyolaw10.GenPromotes': WHATEVER THE INPUT: true; the input reads as it did. -/
def genPromotesSpec : ChangeSpec := { name := "genPromotes", fn := fun _ => fun
  | [d1, d2, d3] => { results := [.lit (.bool true)], args := [d1, d2, d3] }
  | _ => none }
def genPromotesRow : OpenClaim := { program := "ytaoifdkheaagpaadoor", sum := "d37c4ae46f26a4e67588d1682db2e3447e88c71f95abc1e815bcb4f7569f15db", func := "kakugyo/kakugyolaw10.GenPromotes", spec := "genPromotes", unfollowed := true, recurses := true, named := ["math/bits.deBruijn64tab"], plainKeys := false, apart := false, laid := [("math/bits.deBruijn64tab", laid_math_bits_deBruijn64tab)] }
def GenPromotesSaid : Prop := genPromotesRow.holds Tryd.pinned (OpenSpec.ofChange genPromotesSpec)

/-- ITS FALSE NEIGHBOUR: 'it returns false'. Refute it at one input. -/
def genPromotesWrong : ChangeSpec := { name := "genPromotes", fn := fun _ => fun
  | [d1, d2, d3] => { results := [.lit (.bool false)], args := [d1, d2, d3] }
  | _ => none }
def GenPromotesWrongFalsely : Prop := genPromotesRow.holds Tryd.pinned (OpenSpec.ofChange genPromotesWrong)

/-- 'kakugyolaw10.GenFree': WHATEVER THE INPUT: true; the input reads as it did. -/
def genFreeSpec : ChangeSpec := { name := "genFree", fn := fun _ => fun
  | [d1, d2, d3] => { results := [.lit (.bool true)], args := [d1, d2, d3] }
  | _ => none }
def genFreeRow : OpenClaim := { program := "ytaoifdkheaagpaadoor", sum := "d37c4ae46f26a4e67588d1682db2e3447e88c71f95abc1e815bcb4f7569f15db", func := "kakugyo/kakugyolaw10.GenFree", spec := "genFree", unfollowed := true, recurses := true, named := ["math/bits.deBruijn64tab"], plainKeys := false, apart := false, laid := [("math/bits.deBruijn64tab", laid_math_bits_deBruijn64tab)] }
def GenFreeSaid : Prop := genFreeRow.holds Tryd.pinned (OpenSpec.ofChange genFreeSpec)

/-- ITS FALSE NEIGHBOUR: 'it returns false'. Refute it at one input. -/
def genFreeWrong : ChangeSpec := { name := "genFree", fn := fun _ => fun
  | [d1, d2, d3] => { results := [.lit (.bool false)], args := [d1, d2, d3] }
  | _ => none }
def GenFreeWrongFalsely : Prop := genFreeRow.holds Tryd.pinned (OpenSpec.ofChange genFreeWrong)

/-- 'kakugyolaw10.GenTurns': WHATEVER THE INPUT: true; the input reads as it did. -/
def genTurnsSpec : ChangeSpec := { name := "genTurns", fn := fun _ => fun
  | [d] => { results := [.lit (.bool true)], args := [d] }
  | _ => none }
def genTurnsRow : OpenClaim := { program := "ytaoifdkheaagpaadoor", sum := "d37c4ae46f26a4e67588d1682db2e3447e88c71f95abc1e815bcb4f7569f15db", func := "kakugyo/kakugyolaw10.GenTurns", spec := "genTurns", unfollowed := true, recurses := true, named := ["math/bits.deBruijn64tab"], plainKeys := false, apart := false, laid := [("math/bits.deBruijn64tab", laid_math_bits_deBruijn64tab)] }
def GenTurnsSaid : Prop := genTurnsRow.holds Tryd.pinned (OpenSpec.ofChange genTurnsSpec)

/-- ITS FALSE NEIGHBOUR: 'it returns false'. Refute it at one input. -/
def genTurnsWrong : ChangeSpec := { name := "genTurns", fn := fun _ => fun
  | [d] => { results := [.lit (.bool false)], args := [d] }
  | _ => none }
def GenTurnsWrongFalsely : Prop := genTurnsRow.holds Tryd.pinned (OpenSpec.ofChange genTurnsWrong)

/-- 'kakugyolaw10.GenOnce': WHATEVER THE INPUT: true; the input reads as it did. -/
def genOnceSpec : ChangeSpec := { name := "genOnce", fn := fun _ => fun
  | [d] => { results := [.lit (.bool true)], args := [d] }
  | _ => none }
def genOnceRow : OpenClaim := { program := "ytaoifdkheaagpaadoor", sum := "d37c4ae46f26a4e67588d1682db2e3447e88c71f95abc1e815bcb4f7569f15db", func := "kakugyo/kakugyolaw10.GenOnce", spec := "genOnce", unfollowed := true, recurses := true, named := ["math/bits.deBruijn64tab"], plainKeys := false, apart := false, laid := [("math/bits.deBruijn64tab", laid_math_bits_deBruijn64tab)] }
def GenOnceSaid : Prop := genOnceRow.holds Tryd.pinned (OpenSpec.ofChange genOnceSpec)

/-- ITS FALSE NEIGHBOUR: 'it returns false'. Refute it at one input. -/
def genOnceWrong : ChangeSpec := { name := "genOnce", fn := fun _ => fun
  | [d] => { results := [.lit (.bool false)], args := [d] }
  | _ => none }
def GenOnceWrongFalsely : Prop := genOnceRow.holds Tryd.pinned (OpenSpec.ofChange genOnceWrong)

/-- 'kakugyolaw08.AttackChecks': WHATEVER THE INPUT: true; the input reads as it did. -/
def attackChecksSpec : ChangeSpec := { name := "attackChecks", fn := fun _ => fun
  | [d] => { results := [.lit (.bool true)], args := [d] }
  | _ => none }
def attackChecksRow : OpenClaim := { program := "ytaoifdkheaagpaadoor", sum := "d37c4ae46f26a4e67588d1682db2e3447e88c71f95abc1e815bcb4f7569f15db", func := "kakugyo/kakugyolaw08.AttackChecks", spec := "attackChecks", recurses := true, named := ["math/bits.deBruijn64tab"], plainKeys := false, apart := false, laid := [("math/bits.deBruijn64tab", laid_math_bits_deBruijn64tab)] }
def AttackChecksSaid : Prop := attackChecksRow.holds Tryd.pinned (OpenSpec.ofChange attackChecksSpec)

/-- ITS FALSE NEIGHBOUR: 'it returns false'. Refute it at one input. -/
def attackChecksWrong : ChangeSpec := { name := "attackChecks", fn := fun _ => fun
  | [d] => { results := [.lit (.bool false)], args := [d] }
  | _ => none }
def AttackChecksWrongFalsely : Prop := attackChecksRow.holds Tryd.pinned (OpenSpec.ofChange attackChecksWrong)

/-- 'kakugyolaw08.AttackAll': WHATEVER THE INPUT: true; the input reads as it did. -/
def attackAllSpec : ChangeSpec := { name := "attackAll", fn := fun _ => fun
  | [d1, d2] => { results := [.lit (.bool true)], args := [d1, d2] }
  | _ => none }
def attackAllRow : OpenClaim := { program := "ytaoifdkheaagpaadoor", sum := "d37c4ae46f26a4e67588d1682db2e3447e88c71f95abc1e815bcb4f7569f15db", func := "kakugyo/kakugyolaw08.AttackAll", spec := "attackAll", recurses := true, named := ["math/bits.deBruijn64tab"], plainKeys := false, apart := false, laid := [("math/bits.deBruijn64tab", laid_math_bits_deBruijn64tab)] }
def AttackAllSaid : Prop := attackAllRow.holds Tryd.pinned (OpenSpec.ofChange attackAllSpec)

/-- ITS FALSE NEIGHBOUR: 'it returns false'. Refute it at one input. -/
def attackAllWrong : ChangeSpec := { name := "attackAll", fn := fun _ => fun
  | [d1, d2] => { results := [.lit (.bool false)], args := [d1, d2] }
  | _ => none }
def AttackAllWrongFalsely : Prop := attackAllRow.holds Tryd.pinned (OpenSpec.ofChange attackAllWrong)

/-- 'kakugyolaw08.AttackPins': WHATEVER THE INPUT: true; the input reads as it did. -/
def attackPinsSpec : ChangeSpec := { name := "attackPins", fn := fun _ => fun
  | [d1, d2] => { results := [.lit (.bool true)], args := [d1, d2] }
  | _ => none }
def attackPinsRow : OpenClaim := { program := "ytaoifdkheaagpaadoor", sum := "d37c4ae46f26a4e67588d1682db2e3447e88c71f95abc1e815bcb4f7569f15db", func := "kakugyo/kakugyolaw08.AttackPins", spec := "attackPins", recurses := true, named := ["math/bits.deBruijn64tab"], plainKeys := false, apart := false, laid := [("math/bits.deBruijn64tab", laid_math_bits_deBruijn64tab)] }
def AttackPinsSaid : Prop := attackPinsRow.holds Tryd.pinned (OpenSpec.ofChange attackPinsSpec)

/-- ITS FALSE NEIGHBOUR: 'it returns false'. Refute it at one input. -/
def attackPinsWrong : ChangeSpec := { name := "attackPins", fn := fun _ => fun
  | [d1, d2] => { results := [.lit (.bool false)], args := [d1, d2] }
  | _ => none }
def AttackPinsWrongFalsely : Prop := attackPinsRow.holds Tryd.pinned (OpenSpec.ofChange attackPinsWrong)

/- THE SECOND FORM. 'bulk': how many values and letters a reading holds, each counted each time it is reached (what is shared counts as often as it is met; a slice's spare places count too). A statement '..UptoSaid' is the law's where the arguments, and the package variables that the reading takes, are together of bulk at most 1048576: NARROWER than '..Said'. Prove '..Said' where nothing that the law and all that it calls make is longer than what came in: it says more and counts as full. Else prove '..UptoSaid'. A law counts once. -/
mutual
def uptoBulk {H : Type} : DataW H → Nat
  | .lit (.string bytes) => bytes.length + 1
  | .lit _ => 1
  | .nil => 1
  | .ptr d => uptoBulk d + 1
  | .slice elems spare => uptoBulkAll elems + uptoBulkAll spare + 1
  | .agg parts => uptoBulkAll parts + 1
  | .iface _ d => uptoBulk d + 1
  | .map entries => uptoBulkEntries entries + 1
  | .held _ => 1
def uptoBulkAll {H : Type} : List (DataW H) → Nat
  | [] => 0
  | d :: r => uptoBulk d + uptoBulkAll r
def uptoBulkEntries {H : Type} : List (Lit × DataW H) → Nat
  | [] => 0
  | x :: r => uptoBulkEntry x + uptoBulkEntries r
def uptoBulkEntry {H : Type} : Lit × DataW H → Nat
  | (.string bytes, d) => bytes.length + uptoBulk d + 1
  | (_, d) => uptoBulk d + 1
 end
def uptoSmall : (H : Type) → List (DataW H) → Bool := fun _ ds => decide (uptoBulkAll ds ≤ 1048576)
def OpenSpec.upto (s : _root_.Go.ChangeSpec) : _root_.Go.OpenSpec := { _root_.Go.OpenSpec.ofChange s with cond := some uptoSmall }

/-- 'kakugyotop.WholeEvades', WHERE WHAT IT READS IS OF BULK AT MOST 1048576: true; the input reads as it did. -/
def wholeEvadesUptoRow : OpenClaim := { program := "ytaoifdkheaagpaadoor", sum := "d37c4ae46f26a4e67588d1682db2e3447e88c71f95abc1e815bcb4f7569f15db", func := "kakugyo/kakugyotop.WholeEvades", spec := "wholeEvades", unfollowed := true, recurses := true, named := ["math/bits.deBruijn64tab"], plainKeys := false, apart := false, laid := [("math/bits.deBruijn64tab", laid_math_bits_deBruijn64tab)], narrowed := true }
def WholeEvadesUptoSaid : Prop := wholeEvadesUptoRow.holds Tryd.pinned (OpenSpec.upto wholeEvadesSpec)

/-- 'kakugyolaw10.GenAll', WHERE WHAT IT READS IS OF BULK AT MOST 1048576: true; the input reads as it did. -/
def genAllUptoRow : OpenClaim := { program := "ytaoifdkheaagpaadoor", sum := "d37c4ae46f26a4e67588d1682db2e3447e88c71f95abc1e815bcb4f7569f15db", func := "kakugyo/kakugyolaw10.GenAll", spec := "genAll", unfollowed := true, recurses := true, named := ["math/bits.deBruijn64tab"], plainKeys := false, apart := false, laid := [("math/bits.deBruijn64tab", laid_math_bits_deBruijn64tab)], narrowed := true }
def GenAllUptoSaid : Prop := genAllUptoRow.holds Tryd.pinned (OpenSpec.upto genAllSpec)

/-- 'kakugyolaw10.GenPromotes', WHERE WHAT IT READS IS OF BULK AT MOST 1048576: true; the input reads as it did. -/
def genPromotesUptoRow : OpenClaim := { program := "ytaoifdkheaagpaadoor", sum := "d37c4ae46f26a4e67588d1682db2e3447e88c71f95abc1e815bcb4f7569f15db", func := "kakugyo/kakugyolaw10.GenPromotes", spec := "genPromotes", unfollowed := true, recurses := true, named := ["math/bits.deBruijn64tab"], plainKeys := false, apart := false, laid := [("math/bits.deBruijn64tab", laid_math_bits_deBruijn64tab)], narrowed := true }
def GenPromotesUptoSaid : Prop := genPromotesUptoRow.holds Tryd.pinned (OpenSpec.upto genPromotesSpec)

/-- 'kakugyolaw10.GenFree', WHERE WHAT IT READS IS OF BULK AT MOST 1048576: true; the input reads as it did. -/
def genFreeUptoRow : OpenClaim := { program := "ytaoifdkheaagpaadoor", sum := "d37c4ae46f26a4e67588d1682db2e3447e88c71f95abc1e815bcb4f7569f15db", func := "kakugyo/kakugyolaw10.GenFree", spec := "genFree", unfollowed := true, recurses := true, named := ["math/bits.deBruijn64tab"], plainKeys := false, apart := false, laid := [("math/bits.deBruijn64tab", laid_math_bits_deBruijn64tab)], narrowed := true }
def GenFreeUptoSaid : Prop := genFreeUptoRow.holds Tryd.pinned (OpenSpec.upto genFreeSpec)

/-- 'kakugyolaw10.GenTurns', WHERE WHAT IT READS IS OF BULK AT MOST 1048576: true; the input reads as it did. -/
def genTurnsUptoRow : OpenClaim := { program := "ytaoifdkheaagpaadoor", sum := "d37c4ae46f26a4e67588d1682db2e3447e88c71f95abc1e815bcb4f7569f15db", func := "kakugyo/kakugyolaw10.GenTurns", spec := "genTurns", unfollowed := true, recurses := true, named := ["math/bits.deBruijn64tab"], plainKeys := false, apart := false, laid := [("math/bits.deBruijn64tab", laid_math_bits_deBruijn64tab)], narrowed := true }
def GenTurnsUptoSaid : Prop := genTurnsUptoRow.holds Tryd.pinned (OpenSpec.upto genTurnsSpec)

/-- 'kakugyolaw10.GenOnce', WHERE WHAT IT READS IS OF BULK AT MOST 1048576: true; the input reads as it did. -/
def genOnceUptoRow : OpenClaim := { program := "ytaoifdkheaagpaadoor", sum := "d37c4ae46f26a4e67588d1682db2e3447e88c71f95abc1e815bcb4f7569f15db", func := "kakugyo/kakugyolaw10.GenOnce", spec := "genOnce", unfollowed := true, recurses := true, named := ["math/bits.deBruijn64tab"], plainKeys := false, apart := false, laid := [("math/bits.deBruijn64tab", laid_math_bits_deBruijn64tab)], narrowed := true }
def GenOnceUptoSaid : Prop := genOnceUptoRow.holds Tryd.pinned (OpenSpec.upto genOnceSpec)

/-- 'kakugyolaw08.AttackChecks', WHERE WHAT IT READS IS OF BULK AT MOST 1048576: true; the input reads as it did. -/
def attackChecksUptoRow : OpenClaim := { program := "ytaoifdkheaagpaadoor", sum := "d37c4ae46f26a4e67588d1682db2e3447e88c71f95abc1e815bcb4f7569f15db", func := "kakugyo/kakugyolaw08.AttackChecks", spec := "attackChecks", recurses := true, named := ["math/bits.deBruijn64tab"], plainKeys := false, apart := false, laid := [("math/bits.deBruijn64tab", laid_math_bits_deBruijn64tab)], narrowed := true }
def AttackChecksUptoSaid : Prop := attackChecksUptoRow.holds Tryd.pinned (OpenSpec.upto attackChecksSpec)

/-- 'kakugyolaw08.AttackAll', WHERE WHAT IT READS IS OF BULK AT MOST 1048576: true; the input reads as it did. -/
def attackAllUptoRow : OpenClaim := { program := "ytaoifdkheaagpaadoor", sum := "d37c4ae46f26a4e67588d1682db2e3447e88c71f95abc1e815bcb4f7569f15db", func := "kakugyo/kakugyolaw08.AttackAll", spec := "attackAll", recurses := true, named := ["math/bits.deBruijn64tab"], plainKeys := false, apart := false, laid := [("math/bits.deBruijn64tab", laid_math_bits_deBruijn64tab)], narrowed := true }
def AttackAllUptoSaid : Prop := attackAllUptoRow.holds Tryd.pinned (OpenSpec.upto attackAllSpec)

/-- 'kakugyolaw08.AttackPins', WHERE WHAT IT READS IS OF BULK AT MOST 1048576: true; the input reads as it did. -/
def attackPinsUptoRow : OpenClaim := { program := "ytaoifdkheaagpaadoor", sum := "d37c4ae46f26a4e67588d1682db2e3447e88c71f95abc1e815bcb4f7569f15db", func := "kakugyo/kakugyolaw08.AttackPins", spec := "attackPins", recurses := true, named := ["math/bits.deBruijn64tab"], plainKeys := false, apart := false, laid := [("math/bits.deBruijn64tab", laid_math_bits_deBruijn64tab)], narrowed := true }
def AttackPinsUptoSaid : Prop := attackPinsUptoRow.holds Tryd.pinned (OpenSpec.upto attackPinsSpec)

end Rows
end Go.Proofs.YtaoifdkheaagpaaDoor
