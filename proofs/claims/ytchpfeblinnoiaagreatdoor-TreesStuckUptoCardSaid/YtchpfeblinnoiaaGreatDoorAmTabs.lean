import Derived.WalkKit
import Derived.Lib.DecodeN
import Derived.Lib.ItoaNum
namespace Go.AM
open Go.Lib
structure Tab where
  g : Nat
  n : Nat
  f : Nat → Value
  -- it holds just these
  ex : Bool
def tabL : List Tab := [⟨0, 256, fun c => .int .u8 (firstT c), false⟩, ⟨1, 32, fun j => .int .u8 (if j % 2 = 0 then accLo (j / 2) else accHi (j / 2)), false⟩]
end Go.AM
