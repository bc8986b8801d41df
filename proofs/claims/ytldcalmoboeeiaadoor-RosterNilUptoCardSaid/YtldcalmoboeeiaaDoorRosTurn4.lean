import Derived.Test.YtldcalmoboeeiaaDoorRosSort
import Derived.Test.YtldcalmoboeeiaaDoorRosEq
import Derived.Test.YtldcalmoboeeiaaDoorAmPart
set_option linter.unusedSimpArgs false
set_option linter.unusedVariables false
namespace Go.Proofs.YtldcalmoboeeiaaDoor
open Go Go.AM Go.RowKit
attribute [local irreducible] aCode aUnr aUnS aOut
/-- The map `was` is told by a term. -/
noncomputable abbrev K2 : TypeId → Option TK := symK Tryd.K [127]
noncomputable abbrev GT0 : List (FuncId × En) := [(70, .ref (frameV ESort2)), (63, .det FEq), (43, .ref (frameX EItems0))]
def wasE (w : List (BA × List It)) : List (Key × AV) := encM sK (fun l => AV.d (.sl (itsD l))) w
def row2 (a b : BA) : Ob := .row 1 [[.v (.string a)], [.v (.string b)]]
theorem gt0_ok : GSound Tryd.prog GT0 := gsound_ref (RSound.frameV cSort2) (gsound_det cEq (gsound_ref (RSound.frameX cItems0) gsound_nil))
theorem k2_ok : KOk Tryd.prog K2 := symK_ok Tryd.K_ok [127]
theorem was_set (w : List (BA × List It)) (u : BA) (l : List It) : setKeyA (Key.s u) (.d (.sl (itsD l))) (wasE w) = wasE (aset u l w) := enc_set (ve := fun l => AV.d (.sl (itsD l))) sK_inj u l w
theorem ww1 : IntKind.wrap IntKind.i64 ((0 : Int) + (1 : Int)) = 1 := by decide
theorem ww2 : IntKind.wrap IntKind.i64 ((1 : Int) + (1 : Int)) = 2 := by decide
end Go.Proofs.YtldcalmoboeeiaaDoor

namespace Go.Proofs.YtldcalmoboeeiaaDoor
open Go Go.AM Go.RowKit
attribute [local irreducible] aCode aUnr aUnS aOut
theorem was_get {w : List (BA × List It)} {a : BA} {l : List It} (h : alk a w = some l) : getO (Key.s a) (wasE w) AV.nl = .d (.sl (itsD l)) := by
  show ((findKeyA (sK a) (encM sK (fun l => AV.d (.sl (itsD l))) w)).getD AV.nl) = _
  rw [enc_find sK_inj, h]
  rfl
/-- A version, one further. -/
def bump (vs : Vss) (a : BA) : Vss := aset a (IntKind.wrap IntKind.i64 (verOf vs a + 1)) vs
end Go.Proofs.YtldcalmoboeeiaaDoor

namespace Go.Proofs.YtldcalmoboeeiaaDoor
open Go Go.AM Go.RowKit
attribute [local irreducible] aCode aUnr aUnS aOut
def zg2 : List AV := [mkB false] ++ jks 13 ++ [mkI .i64 2, .jk]
end Go.Proofs.YtldcalmoboeeiaaDoor

namespace Go.Proofs.YtldcalmoboeeiaaDoor
open Go Go.AM Go.RowKit
attribute [local irreducible] aCode aUnr aUnS aOut
/-- Who is pushed, and the versions then: the two in order. -/
def pushes (us : List BA) (sd sd' : Sds) (nm nm' : Nms) (a : BA) : List BA := if itemsM us sd nm a = itemsM us sd' nm' a then [] else [a]
def pushM (us : List BA) (sd sd' : Sds) (nm nm' : Nms) (u c : BA) : List BA := pushes us sd sd' nm nm' (loB u c) ++ pushes us sd sd' nm nm' (hiB u c)
def bumps (vs : Vss) (l : List BA) : Vss := l.foldl bump vs
theorem code_turn : Tryd.b47 = catC [[0], [1,0], [1,1,0], [1,1,1,0]] Tryd.b47 (catC [[1,1,1,1,0]] Tryd.b47 (.seq (cAt [1,1,1,1,1,0] Tryd.b47) (.seq (.seq (cAt [1,1,1,1,1,1,0,0] Tryd.b47) (.block 2 (.loop (cAt [1,1,1,1,1,1,0,1,0,0] Tryd.b47)))) (cAt [1,1,1,1,1,1,1] Tryd.b47)))) := by kernel_rfl
theorem k_nor {f : S → Prop} {q : Kont} {s : S} (h : f s) : kSeq f q .nor s := h
theorem l_succ {B : Kont → S → Prop} {q : Kont} {n : Nat} {s : S} (h : B (kSeq (aLoopN B q n) q) s) : aLoopN B q (n + 1) s := h
end Go.Proofs.YtldcalmoboeeiaaDoor
