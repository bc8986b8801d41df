import Derived.Test.YtldcalmoboeeiaaDoorRosLives
set_option linter.unusedSimpArgs false
set_option linter.unusedVariables false
namespace Go.Proofs.YtldcalmoboeeiaaDoor
open Go Go.AM Go.RowKit
attribute [local irreducible] aCode aUnr aUnS aOut
def EItemsQ : REnt := fun al o q => ∃ us sd nm vs u, al = [.rf 0 0, mkS u] ∧ o = bkO us sd nm vs ∧ memB u us = true ∧ ∀ l n, itemsM us sd nm u = l → verOf vs u = n → q (.tp [.d (.sl (itsD l)), mkI .i64 n, mkI .i64 0]) (bkO us sd nm vs)
theorem cItemsQ : RSound Tryd.prog 15 EItemsQ := cItems.mono fun al o q ⟨us, sd, nm, vs, u, h1, h2, hm, h⟩ => ⟨us, sd, nm, vs, u, h1, h2, by simp only [hm, if_true]; exact h _ _ rfl rfl⟩
def ESideQ : REnt := fun al o q => ∃ us sd nm vs u c, al = [.rf 0 0, mkS u, mkS c] ∧ o = bkO us sd nm vs ∧ ∀ s, sideOf sd u c = s → q (.ag [mkI .i64 s.sub, mkB s.a, mkB s.w]) (bkO us sd nm vs)
theorem cSideQ : RSound Tryd.prog 23 ESideQ := cSide.mono fun al o q ⟨us, sd, nm, vs, u, c, h1, h2, h⟩ => ⟨us, sd, nm, vs, u, c, h1, h2, h _ rfl⟩
def inB (c : BA) (l : List BA) : Bool := l.any fun x => decide (x = c)
theorem modK_rng {n : Int} (h : 0 < n ∧ n ≤ 1000) (g : Int) : 0 ≤ IntKind.wrap .i64 (Int.tmod (IntKind.wrap .u64 g) n) ∧ IntKind.wrap .i64 (Int.tmod (IntKind.wrap .u64 g) n) < n := by
  have h0 : 0 ≤ IntKind.wrap .u64 g := by rw [IntKind.wrap_u64]; omega
  generalize IntKind.wrap .u64 g = m at h0
  have h1 := Int.tmod_nonneg n h0
  have h2 := Int.tmod_lt_of_pos m (b := n) (by omega)
  rw [IntWalk.i64_in _ (by omega)]
  omega
theorem modK_nat {n : Nat} (h : 0 < n ∧ n ≤ 1000) (g : Int) : ∃ m : Nat, m < n ∧ IntKind.wrap .i64 (Int.tmod (IntKind.wrap .u64 g) (n : Int)) = (m : Int) := by
  obtain ⟨h1, h2⟩ := modK_rng (n := (n : Int)) (by omega) g
  exact ⟨(IntKind.wrap .i64 (Int.tmod (IntKind.wrap .u64 g) (n : Int))).toNat, by omega, by omega⟩
end Go.Proofs.YtldcalmoboeeiaaDoor
