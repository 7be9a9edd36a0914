/-
 A slice of whole numbers, opened.
-/
import Derived.Test.YtpppdecfohkkfaaGreatDoorKkQ
namespace Go.Kk
end Go.Kk
