import Derived.Test.YtldcalmoboeeiaaDoorRosName
import Derived.Test.YtldcalmoboeeiaaDoorRosDoR
set_option linter.unusedSimpArgs false
set_option linter.unusedVariables false
namespace Go.Proofs.YtldcalmoboeeiaaDoor
open Go Go.AM Go.RowKit
/-- What comes of a call that may turn a book. -/
structure Out where
  sd : Sds
  nm : Nms
  vs : Vss
  p : List BA
  t : List Td
  e : Int
def turnO (us : List BA) (sd : Sds) (nm : Nms) (vs : Vss) (u c : BA) (sd' : Sds) (nm' : Nms) (T : List Td) : Out := ⟨sd', nm', bumps vs (pushM us sd sd' nm nm' u c), pushM us sd sd' nm nm' u c, T, 0⟩
def errO (sd : Sds) (nm : Nms) (vs : Vss) (e : Int) : Out := ⟨sd, nm, vs, [], [], e⟩
def fineA (act : Int) : Bool := decide (1 ≤ act) && decide (act ≤ 4)
def actO (us : List BA) (sd : Sds) (nm : Nms) (vs : Vss) (u c : BA) (act : Int) : Out :=
  if mayM us sd nm u c (fineA act) (act == 1) = 0 then turnO us sd nm vs u c (actSd sd u c act) (actNm nm u c act) (toldM sd u c act) else errO sd nm vs (mayM us sd nm u c (fineA act) (act == 1))
end Go.Proofs.YtldcalmoboeeiaaDoor
