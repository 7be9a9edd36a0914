/-
 The package variables that are only read: here there are none.
-/
import Derived.WalkKit
namespace Go.Kk
def fx : List (Nat × IntKind × List Int) := []
end Go.Kk
