import Derived.Test.YtldcalmoboeeiaaDoorRosLives
set_option linter.unusedSimpArgs false
set_option linter.unusedVariables false
namespace Go.Proofs.YtldcalmoboeeiaaDoor
open Go Go.AM Go.RowKit
attribute [local irreducible] aCode aUnr aUnS aOut
def EItemsQ : REnt := fun al o q => ∃ us sd nm vs u, al = [.rf 0 0, mkS u] ∧ o = bkO us sd nm vs ∧ memB u us = true ∧ ∀ l n, itemsM us sd nm u = l → verOf vs u = n → q (.tp [.d (.sl (itsD l)), mkI .i64 n, mkI .i64 0]) (bkO us sd nm vs)
theorem cItemsQ : RSound Tryd.prog 15 EItemsQ := cItems.mono fun al o q ⟨us, sd, nm, vs, u, h1, h2, hm, h⟩ => ⟨us, sd, nm, vs, u, h1, h2, by simp only [hm, if_true]; exact h _ _ rfl rfl⟩
/-- What a law owns behind begin. -/
def lawO (us : List BA) (sd : Sds) (nm : Nms) (vs : Vss) : List Ob := List.replicate 14 .gone ++ [.map (.ystrs 2) (sdE sd), .map (.ystrs 2) (nmE nm), .map .ystr (vsE vs), .box [mkSS us, .mp 14, .mp 15, .mp 16]]
def inB (c : BA) (l : List BA) : Bool := l.any fun x => decide (x = c)
end Go.Proofs.YtldcalmoboeeiaaDoor
