import Derived.WalkKit
import Derived.Lib.DecodeN
import Derived.Lib.ItoaNum
namespace Go.AM
open Go.Lib
structure Tab where
  g : Nat
  n : Nat
  f : Nat → Value
  -- it holds just these
  ex : Bool
def tabL : List Tab := []
end Go.AM
