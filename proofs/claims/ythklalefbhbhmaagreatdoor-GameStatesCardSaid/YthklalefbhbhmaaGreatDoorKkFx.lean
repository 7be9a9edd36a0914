/-
 The package variables that are only read: which, of what kind of elements, what they hold.
-/
import Derived.WalkKit
namespace Go.Kk
def fx:List (Nat×IntKind×List Int):=[(0,.u8,[0,1,56,2,57,49,28,3,61,58,42,50,38,29,17,4,62,47,59,36,45,43,51,22,53,39,33,30,24,18,12,5,63,55,48,27,60,41,37,16,46,35,44,21,52,32,23,11,54,26,40,15,34,20,31,10,25,14,19,9,13,8,7,6])]
def told:List Nat:=[]
def exts:List (Nat×Nat):=[]
end Go.Kk
