/-
 From a told call to a row, slices among the arguments: opened as objects that are only read.
-/
import Derived.Test.YthhkpianmpgeiaaDoorKkP
import Derived.OpenShut
namespace Go.Kk
open Go.ChangeShapes Go.WideShapes Go.ChangeAt Go.RowKit
section
variable {H : Type} {enc : TypeId × Value → H} {P : Program} {w : World} {base : Nat} {spare : Nat → Bool} {held : Bool}
end
end Go.Kk
