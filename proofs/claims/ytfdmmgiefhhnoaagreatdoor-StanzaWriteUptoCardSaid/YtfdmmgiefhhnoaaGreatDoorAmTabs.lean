import Derived.WalkKit
import Derived.Lib.DecodeN
import Derived.Lib.ItoaNum
namespace Go.AM
open Go.Lib
structure Tab where
  g : Nat
  n : Nat
  f : Nat → Value
  -- it holds just these
  ex : Bool
def tabL : List Tab := [⟨1, 256, fun c => .int .u8 (firstT c), false⟩, ⟨2, 32, fun j => .int .u8 (if j % 2 = 0 then accLo (j / 2) else accHi (j / 2)), false⟩, ⟨3, 20, fun j => .int .u64 (pow10Tab.getD j 0), true⟩]
abbrev tabPow : Nat := 3
end Go.AM
