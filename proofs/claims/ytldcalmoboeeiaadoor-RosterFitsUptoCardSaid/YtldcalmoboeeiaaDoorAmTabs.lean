import Derived.WalkKit
import Derived.Lib.DecodeN
namespace Go.AM
open Go.Lib
/-- A package-level table: its block, how many cells, and what they hold. -/
structure Tab where
  g : Nat
  n : Nat
  f : Nat → Value
/-- The tables of this program that the contracts lean on. -/
def tabL : List Tab := [⟨0, 256, fun c => .int .u8 (firstT c)⟩, ⟨1, 32, fun j => .int .u8 (if j % 2 = 0 then accLo (j / 2) else accHi (j / 2))⟩]
end Go.AM
