import Derived.Test.YtldcalmoboeeiaaDoorRosTurn4
import Derived.Test.YtldcalmoboeeiaaDoorTagsLib
set_option linter.unusedSimpArgs false
set_option linter.unusedVariables false
namespace Go.Proofs.YtldcalmoboeeiaaDoor
open Go Go.AM Go.RowKit
attribute [local irreducible] aCode aUnr aUnS aOut
/-- signs.Right. -/
def FSR : List AV → Option (Prop × AV) := fun al => match al with
  | [.d (.v (.string s))] => some (s.size ≤ LIM, mkI .i64 (if rightB s = true then 0 else 2))
  | _ => none
noncomputable abbrev GN : List (FuncId × En) := [(51, .det FSR), (45, .ref (frameX EMay)), (47, .ref (frameX ETurnN))]
theorem rNameB (us : List BA) (sd : Sds) (nm : Nms) (vs : Vss) (u c x : BA) (q : AV → List Ob → Prop) :
  (aCode Tryd.K GN Tryd.b21 (kRetF Tryd.K Tryd.f21.results.toList q) ⟨[.rf 0 0, mkS u, mkS c, mkS x] ++ List.replicate (Tryd.f21.ntmps - 4) .jk, bkO us sd nm vs⟩) = (
  ((ByteArray.size x) ≤ LIM) →
  bcase (decide (((ByteArray.size x) : Int) ≤ (40 : Int))) (
   ((ByteArray.size x) ≤ LIM) ∧ (
    ∃ (us_1 : List BA),
    ∃ (sd_1 : Sds),
    ∃ (nm_1 : Nms),
    ∃ (vs_1 : Vss),
    ∃ (u_1 : ByteArray),
    ∃ (c_1 : ByteArray),
    ∃ (fine : Bool),
    ∃ (more : Bool),
    ([AV.rf 0 0, mkS u, mkS c, mkB ((if (rightB x) = true then (0 : Int) else (2 : Int)) == (0 : Int)), mkB true] = [AV.rf 0 0, mkS u_1, mkS c_1, mkB fine, mkB more]) ∧
    ([Ob.box [AV.d (.sl (strsD us)), AV.mp (0 + 1), AV.mp ((0 + 1) + 1), AV.mp (((0 + 1) + 1) + 1)], Ob.map (KK.ystrs 2) (sdE sd), Ob.map (KK.ystrs 2) (nmE nm), Ob.map KK.ystr (vsE vs), Ob.gh [AV.rf 0 0, AV.mp (0 + 1), AV.mp ((0 + 1) + 1), AV.mp (((0 + 1) + 1) + 1)]] = [Ob.box [mkSS us_1, AV.mp 1, AV.mp 2, AV.mp 3], Ob.map (KK.ystrs 2) (sdE sd_1), Ob.map (KK.ystrs 2) (nmE nm_1), Ob.map KK.ystr (vsE vs_1), Ob.gh [AV.rf 0 0, AV.mp 1, AV.mp 2, AV.mp 3]]) ∧
    ((Option.some (Ob.gh [AV.rf 0 0, AV.mp 1, AV.mp 2, AV.mp 3])) = (Option.some (Ob.gh [AV.rf 0 0, AV.mp (0 + 1), AV.mp ((0 + 1) + 1), AV.mp (((0 + 1) + 1) + 1)]))) ∧
    bcase ((mayM us_1 sd_1 nm_1 u_1 c_1 fine more) != (0 : Int)) (
     q (AV.tp [AV.ag [AV.nl, AV.nl], mkI .i64 (mayM us_1 sd_1 nm_1 u_1 c_1 fine more)]) [Ob.box [AV.d (.sl (strsD us_1)), AV.mp (if 1 < 4 then 1 else 11 + (1 - 4)), AV.mp (if 2 < 4 then 2 else 11 + (2 - 4)), AV.mp (if 3 < 4 then 3 else 11 + (3 - 4))], Ob.map (KK.ystrs 2) (sdE sd_1), Ob.map (KK.ystrs 2) (nmE nm_1), Ob.map KK.ystr (vsE vs_1), Ob.gh [AV.rf 0 0, AV.mp 1, AV.mp 2, AV.mp 3], Ob.box [AV.rf 0 0], Ob.box [mkS u], Ob.box [mkS c], Ob.box [mkS x], Ob.box [AV.nl, AV.nl], Ob.gone, Ob.gone]) (
     ∃ (us_2 : List BA),
     ∃ (sd_2 : Sds),
     ∃ (nm_2 : Nms),
     ∃ (vs_2 : Vss),
     ∃ (x_1 : BA),
     ∃ (u_2 : ByteArray),
     ∃ (c_2 : ByteArray),
     ([AV.rf 0 0, mkS u, mkS c, AV.fn (Fn.func 52) [] [AV.rf ((((0 + 1) + 1) + 1) + 1) 0, AV.rf (((((0 + 1) + 1) + 1) + 1) + 1) 0, AV.rf ((((((0 + 1) + 1) + 1) + 1) + 1) + 1) 0, AV.rf (((((((0 + 1) + 1) + 1) + 1) + 1) + 1) + 1) 0]] = [AV.rf 0 0, mkS u_2, mkS c_2, AV.fn (Fn.func 52) [] [AV.rf 4 0, AV.rf 5 0, AV.rf 6 0, AV.rf 7 0]]) ∧
     ([Ob.box [AV.d (.sl (strsD us_1)), AV.mp (0 + 1), AV.mp ((0 + 1) + 1), AV.mp (((0 + 1) + 1) + 1)], Ob.map (KK.ystrs 2) (sdE sd_1), Ob.map (KK.ystrs 2) (nmE nm_1), Ob.map KK.ystr (vsE vs_1), Ob.box [mkS x], Ob.box [AV.rf 0 0], Ob.box [mkS u], Ob.box [mkS c], Ob.gh [AV.rf 0 0, AV.rf ((((0 + 1) + 1) + 1) + 1) 0, AV.rf (((((0 + 1) + 1) + 1) + 1) + 1) 0, AV.rf ((((((0 + 1) + 1) + 1) + 1) + 1) + 1) 0, AV.rf (((((((0 + 1) + 1) + 1) + 1) + 1) + 1) + 1) 0, AV.mp (0 + 1), AV.mp ((0 + 1) + 1), AV.mp (((0 + 1) + 1) + 1), AV.rf 0 0]] = [Ob.box [mkSS us_2, AV.mp 1, AV.mp 2, AV.mp 3], Ob.map (KK.ystrs 2) (sdE sd_2), Ob.map (KK.ystrs 2) (nmE nm_2), Ob.map KK.ystr (vsE vs_2), Ob.box [mkS x_1], Ob.box [AV.rf 0 0], Ob.box [mkS u_2], Ob.box [mkS c_2], Ob.gh [AV.rf 0 0, AV.rf 4 0, AV.rf 5 0, AV.rf 6 0, AV.rf 7 0, AV.mp 1, AV.mp 2, AV.mp 3, AV.rf 0 0]]) ∧
     bcase (List.isEmpty (pushM us_2 sd_2 sd_2 nm_2 (aset (u_2, c_2) x_1 nm_2) u_2 c_2)) (
      ((Option.some (Ob.gh [AV.rf 0 0, AV.rf 4 0, AV.rf 5 0, AV.rf 6 0, AV.rf 7 0, AV.mp 1, AV.mp 2, AV.mp 3, AV.rf 0 0])) = (Option.some (Ob.gh [AV.rf 0 0, AV.rf ((((0 + 1) + 1) + 1) + 1) 0, AV.rf (((((0 + 1) + 1) + 1) + 1) + 1) 0, AV.rf ((((((0 + 1) + 1) + 1) + 1) + 1) + 1) 0, AV.rf (((((((0 + 1) + 1) + 1) + 1) + 1) + 1) + 1) 0, AV.mp (0 + 1), AV.mp ((0 + 1) + 1), AV.mp (((0 + 1) + 1) + 1), AV.rf 0 0]))) ∧
      q (AV.tp [AV.ag [AV.nl, AV.nl], mkI .i64 (0 : Int)]) [Ob.box [AV.d (.sl (strsD us_2)), AV.mp (if 1 < 8 then 1 else 13 + (1 - 8)), AV.mp (if 2 < 8 then 2 else 13 + (2 - 8)), AV.mp (if 3 < 8 then 3 else 13 + (3 - 8))], Ob.map (KK.ystrs 2) (sdE sd_2), Ob.map (KK.ystrs 2) (nmE (aset (u_2, c_2) x_1 nm_2)), Ob.map KK.ystr (vsE (bumps vs_2 (pushM us_2 sd_2 sd_2 nm_2 (aset (u_2, c_2) x_1 nm_2) u_2 c_2))), Ob.gh [AV.rf 0 0, AV.mp 1, AV.mp 2, AV.mp 3], Ob.box [AV.rf (if 0 < 8 then 0 else 13 + (0 - 8)) 0], Ob.box [mkS u_2], Ob.box [mkS c_2], Ob.box [mkS x_1], Ob.box [AV.nl, AV.nl], Ob.gone, Ob.gone, Ob.gone, Ob.gone]) (
      ((Option.some (Ob.gh [AV.rf 0 0, AV.rf 4 0, AV.rf 5 0, AV.rf 6 0, AV.rf 7 0, AV.mp 1, AV.mp 2, AV.mp 3, AV.rf 0 0])) = (Option.some (Ob.gh [AV.rf 0 0, AV.rf ((((0 + 1) + 1) + 1) + 1) 0, AV.rf (((((0 + 1) + 1) + 1) + 1) + 1) 0, AV.rf ((((((0 + 1) + 1) + 1) + 1) + 1) + 1) 0, AV.rf (((((((0 + 1) + 1) + 1) + 1) + 1) + 1) + 1) 0, AV.mp (0 + 1), AV.mp ((0 + 1) + 1), AV.mp (((0 + 1) + 1) + 1), AV.rf 0 0]))) ∧
      q (AV.tp [AV.ag [AV.d (.sl (strsD (pushM us_2 sd_2 sd_2 nm_2 (aset (u_2, c_2) x_1 nm_2) u_2 c_2))), AV.nl], mkI .i64 (0 : Int)]) [Ob.box [AV.d (.sl (strsD us_2)), AV.mp (if 1 < 8 then 1 else 13 + (1 - 8)), AV.mp (if 2 < 8 then 2 else 13 + (2 - 8)), AV.mp (if 3 < 8 then 3 else 13 + (3 - 8))], Ob.map (KK.ystrs 2) (sdE sd_2), Ob.map (KK.ystrs 2) (nmE (aset (u_2, c_2) x_1 nm_2)), Ob.map KK.ystr (vsE (bumps vs_2 (pushM us_2 sd_2 sd_2 nm_2 (aset (u_2, c_2) x_1 nm_2) u_2 c_2))), Ob.gh [AV.rf 0 0, AV.mp 1, AV.mp 2, AV.mp 3], Ob.box [AV.rf (if 0 < 8 then 0 else 13 + (0 - 8)) 0], Ob.box [mkS u_2], Ob.box [mkS c_2], Ob.box [mkS x_1], Ob.box [AV.d (.sl (strsD (pushM us_2 sd_2 sd_2 nm_2 (aset (u_2, c_2) x_1 nm_2) u_2 c_2))), AV.nl], Ob.gone, Ob.gone, Ob.gone, Ob.gone])))) (
   ∃ (us_1 : List BA),
   ∃ (sd_1 : Sds),
   ∃ (nm_1 : Nms),
   ∃ (vs_1 : Vss),
   ∃ (u_1 : ByteArray),
   ∃ (c_1 : ByteArray),
   ∃ (fine : Bool),
   ∃ (more : Bool),
   ([AV.rf 0 0, mkS u, mkS c, mkB false, mkB true] = [AV.rf 0 0, mkS u_1, mkS c_1, mkB fine, mkB more]) ∧
   ([Ob.box [AV.d (.sl (strsD us)), AV.mp (0 + 1), AV.mp ((0 + 1) + 1), AV.mp (((0 + 1) + 1) + 1)], Ob.map (KK.ystrs 2) (sdE sd), Ob.map (KK.ystrs 2) (nmE nm), Ob.map KK.ystr (vsE vs), Ob.gh [AV.rf 0 0, AV.mp (0 + 1), AV.mp ((0 + 1) + 1), AV.mp (((0 + 1) + 1) + 1)]] = [Ob.box [mkSS us_1, AV.mp 1, AV.mp 2, AV.mp 3], Ob.map (KK.ystrs 2) (sdE sd_1), Ob.map (KK.ystrs 2) (nmE nm_1), Ob.map KK.ystr (vsE vs_1), Ob.gh [AV.rf 0 0, AV.mp 1, AV.mp 2, AV.mp 3]]) ∧
   ((Option.some (Ob.gh [AV.rf 0 0, AV.mp 1, AV.mp 2, AV.mp 3])) = (Option.some (Ob.gh [AV.rf 0 0, AV.mp (0 + 1), AV.mp ((0 + 1) + 1), AV.mp (((0 + 1) + 1) + 1)]))) ∧
   bcase ((mayM us_1 sd_1 nm_1 u_1 c_1 fine more) != (0 : Int)) (
    q (AV.tp [AV.ag [AV.nl, AV.nl], mkI .i64 (mayM us_1 sd_1 nm_1 u_1 c_1 fine more)]) [Ob.box [AV.d (.sl (strsD us_1)), AV.mp (if 1 < 4 then 1 else 11 + (1 - 4)), AV.mp (if 2 < 4 then 2 else 11 + (2 - 4)), AV.mp (if 3 < 4 then 3 else 11 + (3 - 4))], Ob.map (KK.ystrs 2) (sdE sd_1), Ob.map (KK.ystrs 2) (nmE nm_1), Ob.map KK.ystr (vsE vs_1), Ob.gh [AV.rf 0 0, AV.mp 1, AV.mp 2, AV.mp 3], Ob.box [AV.rf 0 0], Ob.box [mkS u], Ob.box [mkS c], Ob.box [mkS x], Ob.box [AV.nl, AV.nl], Ob.gone, Ob.gone]) (
    ∃ (us_2 : List BA),
    ∃ (sd_2 : Sds),
    ∃ (nm_2 : Nms),
    ∃ (vs_2 : Vss),
    ∃ (x_1 : BA),
    ∃ (u_2 : ByteArray),
    ∃ (c_2 : ByteArray),
    ([AV.rf 0 0, mkS u, mkS c, AV.fn (Fn.func 52) [] [AV.rf ((((0 + 1) + 1) + 1) + 1) 0, AV.rf (((((0 + 1) + 1) + 1) + 1) + 1) 0, AV.rf ((((((0 + 1) + 1) + 1) + 1) + 1) + 1) 0, AV.rf (((((((0 + 1) + 1) + 1) + 1) + 1) + 1) + 1) 0]] = [AV.rf 0 0, mkS u_2, mkS c_2, AV.fn (Fn.func 52) [] [AV.rf 4 0, AV.rf 5 0, AV.rf 6 0, AV.rf 7 0]]) ∧
    ([Ob.box [AV.d (.sl (strsD us_1)), AV.mp (0 + 1), AV.mp ((0 + 1) + 1), AV.mp (((0 + 1) + 1) + 1)], Ob.map (KK.ystrs 2) (sdE sd_1), Ob.map (KK.ystrs 2) (nmE nm_1), Ob.map KK.ystr (vsE vs_1), Ob.box [mkS x], Ob.box [AV.rf 0 0], Ob.box [mkS u], Ob.box [mkS c], Ob.gh [AV.rf 0 0, AV.rf ((((0 + 1) + 1) + 1) + 1) 0, AV.rf (((((0 + 1) + 1) + 1) + 1) + 1) 0, AV.rf ((((((0 + 1) + 1) + 1) + 1) + 1) + 1) 0, AV.rf (((((((0 + 1) + 1) + 1) + 1) + 1) + 1) + 1) 0, AV.mp (0 + 1), AV.mp ((0 + 1) + 1), AV.mp (((0 + 1) + 1) + 1), AV.rf 0 0]] = [Ob.box [mkSS us_2, AV.mp 1, AV.mp 2, AV.mp 3], Ob.map (KK.ystrs 2) (sdE sd_2), Ob.map (KK.ystrs 2) (nmE nm_2), Ob.map KK.ystr (vsE vs_2), Ob.box [mkS x_1], Ob.box [AV.rf 0 0], Ob.box [mkS u_2], Ob.box [mkS c_2], Ob.gh [AV.rf 0 0, AV.rf 4 0, AV.rf 5 0, AV.rf 6 0, AV.rf 7 0, AV.mp 1, AV.mp 2, AV.mp 3, AV.rf 0 0]]) ∧
    bcase (List.isEmpty (pushM us_2 sd_2 sd_2 nm_2 (aset (u_2, c_2) x_1 nm_2) u_2 c_2)) (
     ((Option.some (Ob.gh [AV.rf 0 0, AV.rf 4 0, AV.rf 5 0, AV.rf 6 0, AV.rf 7 0, AV.mp 1, AV.mp 2, AV.mp 3, AV.rf 0 0])) = (Option.some (Ob.gh [AV.rf 0 0, AV.rf ((((0 + 1) + 1) + 1) + 1) 0, AV.rf (((((0 + 1) + 1) + 1) + 1) + 1) 0, AV.rf ((((((0 + 1) + 1) + 1) + 1) + 1) + 1) 0, AV.rf (((((((0 + 1) + 1) + 1) + 1) + 1) + 1) + 1) 0, AV.mp (0 + 1), AV.mp ((0 + 1) + 1), AV.mp (((0 + 1) + 1) + 1), AV.rf 0 0]))) ∧
     q (AV.tp [AV.ag [AV.nl, AV.nl], mkI .i64 (0 : Int)]) [Ob.box [AV.d (.sl (strsD us_2)), AV.mp (if 1 < 8 then 1 else 13 + (1 - 8)), AV.mp (if 2 < 8 then 2 else 13 + (2 - 8)), AV.mp (if 3 < 8 then 3 else 13 + (3 - 8))], Ob.map (KK.ystrs 2) (sdE sd_2), Ob.map (KK.ystrs 2) (nmE (aset (u_2, c_2) x_1 nm_2)), Ob.map KK.ystr (vsE (bumps vs_2 (pushM us_2 sd_2 sd_2 nm_2 (aset (u_2, c_2) x_1 nm_2) u_2 c_2))), Ob.gh [AV.rf 0 0, AV.mp 1, AV.mp 2, AV.mp 3], Ob.box [AV.rf (if 0 < 8 then 0 else 13 + (0 - 8)) 0], Ob.box [mkS u_2], Ob.box [mkS c_2], Ob.box [mkS x_1], Ob.box [AV.nl, AV.nl], Ob.gone, Ob.gone, Ob.gone, Ob.gone]) (
     ((Option.some (Ob.gh [AV.rf 0 0, AV.rf 4 0, AV.rf 5 0, AV.rf 6 0, AV.rf 7 0, AV.mp 1, AV.mp 2, AV.mp 3, AV.rf 0 0])) = (Option.some (Ob.gh [AV.rf 0 0, AV.rf ((((0 + 1) + 1) + 1) + 1) 0, AV.rf (((((0 + 1) + 1) + 1) + 1) + 1) 0, AV.rf ((((((0 + 1) + 1) + 1) + 1) + 1) + 1) 0, AV.rf (((((((0 + 1) + 1) + 1) + 1) + 1) + 1) + 1) 0, AV.mp (0 + 1), AV.mp ((0 + 1) + 1), AV.mp (((0 + 1) + 1) + 1), AV.rf 0 0]))) ∧
     q (AV.tp [AV.ag [AV.d (.sl (strsD (pushM us_2 sd_2 sd_2 nm_2 (aset (u_2, c_2) x_1 nm_2) u_2 c_2))), AV.nl], mkI .i64 (0 : Int)]) [Ob.box [AV.d (.sl (strsD us_2)), AV.mp (if 1 < 8 then 1 else 13 + (1 - 8)), AV.mp (if 2 < 8 then 2 else 13 + (2 - 8)), AV.mp (if 3 < 8 then 3 else 13 + (3 - 8))], Ob.map (KK.ystrs 2) (sdE sd_2), Ob.map (KK.ystrs 2) (nmE (aset (u_2, c_2) x_1 nm_2)), Ob.map KK.ystr (vsE (bumps vs_2 (pushM us_2 sd_2 sd_2 nm_2 (aset (u_2, c_2) x_1 nm_2) u_2 c_2))), Ob.gh [AV.rf 0 0, AV.mp 1, AV.mp 2, AV.mp 3], Ob.box [AV.rf (if 0 < 8 then 0 else 13 + (0 - 8)) 0], Ob.box [mkS u_2], Ob.box [mkS c_2], Ob.box [mkS x_1], Ob.box [AV.d (.sl (strsD (pushM us_2 sd_2 sd_2 nm_2 (aset (u_2, c_2) x_1 nm_2) u_2 c_2))), AV.nl], Ob.gone, Ob.gone, Ob.gone, Ob.gone])))) := by kernel_rfl
theorem cSR : PSound Tryd.prog 51 (detE FSR) := by
  refine ps1t Tryd.call51 fun al q h => ?_
  unfold detE at h
  split at h
  · rename_i p r hF
    unfold FSR at hF; split at hF <;> cases hF
    rename_i s
    refine ⟨_, rfl, fun p0 w hT => ?_⟩
    exact (right_calls s w (by simpa [plainV] using p0) hT).mono fun e w' ⟨h1, h2⟩ => ⟨_, _, h1, h.2, fun X => mkI_rel, h2⟩
  · exact h.elim
theorem gn_ok : GSound Tryd.prog GN := gsound_det cSR (gsound_ref (RSound.frameX cMay) (gsound_ref (RSound.frameX cTurnN) gsound_nil))
/-- May a contact be named so? -/
def fineM (x : BA) : Bool := decide ((x.size : Int) ≤ 40) && ((if rightB x = true then (0 : Int) else 2) == 0)
end Go.Proofs.YtldcalmoboeeiaaDoor
