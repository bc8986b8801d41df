import Derived.Test.YtldcalmoboeeiaaDoorRosAct
import Derived.Test.YtldcalmoboeeiaaDoorAmPart
set_option linter.unusedSimpArgs false
set_option linter.unusedVariables false
namespace Go.Proofs.YtldcalmoboeeiaaDoor
open Go Go.AM Go.RowKit
attribute [local irreducible] aCode aUnr aUnS aOut
/-- What Act's closure sees when turn calls it. -/
def doO (us : List BA) (sd : Sds) (nm : Nms) (vs : Vss) (u c : BA) (act : Int) : List Ob := [.box [.rf 1 0], .box [mkSS us, .mp 2, .mp 3, .mp 4], .map (.ystrs 2) (sdE sd), .map (.ystrs 2) (nmE nm), .map .ystr (vsE vs), .box [mkS u], .box [mkS c], .box [mkI .i64 act], .gh [.rf 0 0, .rf 5 0, .rf 6 0, .rf 7 0, .rf 1 0, .mp 2, .mp 3, .mp 4]]
noncomputable abbrev GDo : List (FuncId × En) := [(49, .ref (frameX EContact)), (50, .ref (frameX EAct0))]
theorem gdo_ok : GSound Tryd.prog GDo := gsound_ref (RSound.frameX cContact) (gsound_ref (RSound.frameX cAct0) gsound_nil)
theorem rDoA (us : List BA) (sd : Sds) (nm : Nms) (vs : Vss) (u c : BA) (act : Int) (q : AV → List Ob → Prop) :
  (aCode Tryd.K GDo Tryd.b48 (kRetF Tryd.K Tryd.f48.results.toList q) ⟨[.rf 0 0, .rf 5 0, .rf 6 0, .rf 7 0] ++ List.replicate (Tryd.f48.ntmps - 4) .jk, doO us sd nm vs u c act⟩) = (
  ∃ (us_1 : List BA),
  ∃ (sd_1 : Sds),
  ∃ (nm_1 : Nms),
  ∃ (vs_1 : Vss),
  ∃ (u_1 : ByteArray),
  ∃ (c_1 : ByteArray),
  ([AV.rf 0 0, mkS u, mkS c] = [AV.rf 0 0, mkS u_1, mkS c_1]) ∧
  ([Ob.box [AV.d (.sl (strsD us)), AV.mp (0 + 1), AV.mp ((0 + 1) + 1), AV.mp (((0 + 1) + 1) + 1)], Ob.map (KK.ystrs 2) (sdE sd), Ob.map (KK.ystrs 2) (nmE nm), Ob.map KK.ystr (vsE vs), Ob.gh [AV.rf 0 0, AV.mp (0 + 1), AV.mp ((0 + 1) + 1), AV.mp (((0 + 1) + 1) + 1)]] = [Ob.box [mkSS us_1, AV.mp 1, AV.mp 2, AV.mp 3], Ob.map (KK.ystrs 2) (sdE sd_1), Ob.map (KK.ystrs 2) (nmE nm_1), Ob.map KK.ystr (vsE vs_1), Ob.gh [AV.rf 0 0, AV.mp 1, AV.mp 2, AV.mp 3]]) ∧
  ((Option.some (Ob.gh [AV.rf 0 0, AV.mp 1, AV.mp 2, AV.mp 3])) = (Option.some (Ob.gh [AV.rf 0 0, AV.mp (0 + 1), AV.mp ((0 + 1) + 1), AV.mp (((0 + 1) + 1) + 1)]))) ∧
  bcase (act == (1 : Int)) (
   bcase (!(isC nm_1 u_1 c_1)) (
    ∃ (us_2 : List BA),
    ∃ (sd_2 : Sds),
    ∃ (nm_2 : Nms),
    ∃ (vs_2 : Vss),
    ∃ (u_2 : ByteArray),
    ∃ (c_2 : ByteArray),
    ∃ (act_1 : Int),
    ([AV.rf 0 0, mkS u, mkS c, mkI .i64 act] = [AV.rf 0 0, mkS u_2, mkS c_2, mkI .i64 act_1]) ∧
    ([Ob.box [AV.d (.sl (strsD us_1)), AV.mp (0 + 1), AV.mp ((0 + 1) + 1), AV.mp (((0 + 1) + 1) + 1)], Ob.map (KK.ystrs 2) (sdE sd_1), Ob.map (KK.ystrs 2) (setKeyA (Key.ss [u, c]) (mkS (nameOf nm_1 u_1 c_1)) (nmE nm_1)), Ob.map KK.ystr (vsE vs_1), Ob.gh [AV.rf 0 0, AV.mp (0 + 1), AV.mp ((0 + 1) + 1), AV.mp (((0 + 1) + 1) + 1)]] = [Ob.box [mkSS us_2, AV.mp 1, AV.mp 2, AV.mp 3], Ob.map (KK.ystrs 2) (sdE sd_2), Ob.map (KK.ystrs 2) (nmE nm_2), Ob.map KK.ystr (vsE vs_2), Ob.gh [AV.rf 0 0, AV.mp 1, AV.mp 2, AV.mp 3]]) ∧
    ((Option.some (Ob.gh [AV.rf 0 0, AV.mp 1, AV.mp 2, AV.mp 3])) = (Option.some (Ob.gh [AV.rf 0 0, AV.mp (0 + 1), AV.mp ((0 + 1) + 1), AV.mp (((0 + 1) + 1) + 1)]))) ∧
    q (AV.d (.sl (tdD (toldM sd_2 u_2 c_2 act_1)))) [Ob.box [AV.rf 1 0], Ob.box [AV.d (.sl (strsD us_2)), AV.mp (if 1 < 4 then 2 else 12 + (1 - 4)), AV.mp (if 2 < 4 then 3 else 12 + (2 - 4)), AV.mp (if 3 < 4 then 4 else 12 + (3 - 4))], Ob.map (KK.ystrs 2) (sdE (actSd sd_2 u_2 c_2 act_1)), Ob.map (KK.ystrs 2) (nmE nm_2), Ob.map KK.ystr (vsE vs_2), Ob.box [mkS u], Ob.box [mkS c], Ob.box [mkI .i64 act], Ob.gh [AV.rf 0 0, AV.rf 5 0, AV.rf 6 0, AV.rf 7 0, AV.rf 1 0, AV.mp 2, AV.mp 3, AV.mp 4], Ob.gone, Ob.gone, Ob.gone, Ob.gone]) (
    ∃ (us_2 : List BA),
    ∃ (sd_2 : Sds),
    ∃ (nm_2 : Nms),
    ∃ (vs_2 : Vss),
    ∃ (u_2 : ByteArray),
    ∃ (c_2 : ByteArray),
    ∃ (act_1 : Int),
    ([AV.rf 0 0, mkS u, mkS c, mkI .i64 act] = [AV.rf 0 0, mkS u_2, mkS c_2, mkI .i64 act_1]) ∧
    ([Ob.box [AV.d (.sl (strsD us_1)), AV.mp (0 + 1), AV.mp ((0 + 1) + 1), AV.mp (((0 + 1) + 1) + 1)], Ob.map (KK.ystrs 2) (sdE sd_1), Ob.map (KK.ystrs 2) (nmE nm_1), Ob.map KK.ystr (vsE vs_1), Ob.gh [AV.rf 0 0, AV.mp (0 + 1), AV.mp ((0 + 1) + 1), AV.mp (((0 + 1) + 1) + 1)]] = [Ob.box [mkSS us_2, AV.mp 1, AV.mp 2, AV.mp 3], Ob.map (KK.ystrs 2) (sdE sd_2), Ob.map (KK.ystrs 2) (nmE nm_2), Ob.map KK.ystr (vsE vs_2), Ob.gh [AV.rf 0 0, AV.mp 1, AV.mp 2, AV.mp 3]]) ∧
    ((Option.some (Ob.gh [AV.rf 0 0, AV.mp 1, AV.mp 2, AV.mp 3])) = (Option.some (Ob.gh [AV.rf 0 0, AV.mp (0 + 1), AV.mp ((0 + 1) + 1), AV.mp (((0 + 1) + 1) + 1)]))) ∧
    q (AV.d (.sl (tdD (toldM sd_2 u_2 c_2 act_1)))) [Ob.box [AV.rf 1 0], Ob.box [AV.d (.sl (strsD us_2)), AV.mp (if 1 < 4 then 2 else 12 + (1 - 4)), AV.mp (if 2 < 4 then 3 else 12 + (2 - 4)), AV.mp (if 3 < 4 then 4 else 12 + (3 - 4))], Ob.map (KK.ystrs 2) (sdE (actSd sd_2 u_2 c_2 act_1)), Ob.map (KK.ystrs 2) (nmE nm_2), Ob.map KK.ystr (vsE vs_2), Ob.box [mkS u], Ob.box [mkS c], Ob.box [mkI .i64 act], Ob.gh [AV.rf 0 0, AV.rf 5 0, AV.rf 6 0, AV.rf 7 0, AV.rf 1 0, AV.mp 2, AV.mp 3, AV.mp 4], Ob.gone, Ob.gone, Ob.gone, Ob.gone])) (
   ∃ (us_2 : List BA),
   ∃ (sd_2 : Sds),
   ∃ (nm_2 : Nms),
   ∃ (vs_2 : Vss),
   ∃ (u_2 : ByteArray),
   ∃ (c_2 : ByteArray),
   ∃ (act_1 : Int),
   ([AV.rf 0 0, mkS u, mkS c, mkI .i64 act] = [AV.rf 0 0, mkS u_2, mkS c_2, mkI .i64 act_1]) ∧
   ([Ob.box [AV.d (.sl (strsD us_1)), AV.mp (0 + 1), AV.mp ((0 + 1) + 1), AV.mp (((0 + 1) + 1) + 1)], Ob.map (KK.ystrs 2) (sdE sd_1), Ob.map (KK.ystrs 2) (nmE nm_1), Ob.map KK.ystr (vsE vs_1), Ob.gh [AV.rf 0 0, AV.mp (0 + 1), AV.mp ((0 + 1) + 1), AV.mp (((0 + 1) + 1) + 1)]] = [Ob.box [mkSS us_2, AV.mp 1, AV.mp 2, AV.mp 3], Ob.map (KK.ystrs 2) (sdE sd_2), Ob.map (KK.ystrs 2) (nmE nm_2), Ob.map KK.ystr (vsE vs_2), Ob.gh [AV.rf 0 0, AV.mp 1, AV.mp 2, AV.mp 3]]) ∧
   ((Option.some (Ob.gh [AV.rf 0 0, AV.mp 1, AV.mp 2, AV.mp 3])) = (Option.some (Ob.gh [AV.rf 0 0, AV.mp (0 + 1), AV.mp ((0 + 1) + 1), AV.mp (((0 + 1) + 1) + 1)]))) ∧
   q (AV.d (.sl (tdD (toldM sd_2 u_2 c_2 act_1)))) [Ob.box [AV.rf 1 0], Ob.box [AV.d (.sl (strsD us_2)), AV.mp (if 1 < 4 then 2 else 12 + (1 - 4)), AV.mp (if 2 < 4 then 3 else 12 + (2 - 4)), AV.mp (if 3 < 4 then 4 else 12 + (3 - 4))], Ob.map (KK.ystrs 2) (sdE (actSd sd_2 u_2 c_2 act_1)), Ob.map (KK.ystrs 2) (nmE nm_2), Ob.map KK.ystr (vsE vs_2), Ob.box [mkS u], Ob.box [mkS c], Ob.box [mkI .i64 act], Ob.gh [AV.rf 0 0, AV.rf 5 0, AV.rf 6 0, AV.rf 7 0, AV.rf 1 0, AV.mp 2, AV.mp 3, AV.mp 4], Ob.gone, Ob.gone, Ob.gone, Ob.gone])) := by kernel_rfl
def actNm (nm : Nms) (u c : BA) (act : Int) : Nms := if act = 1 ∧ isC nm u c = false then aset (u, c) ⟨#[]⟩ nm else nm
def EDoA : REnt := fun al o q => ∃ us sd nm vs u c act, al = [.rf 0 0, .rf 5 0, .rf 6 0, .rf 7 0] ∧ o = doO us sd nm vs u c act ∧ q (.d (.sl (tdD (toldM sd u c act)))) (doO us (actSd sd u c act) (actNm nm u c act) vs u c act)
theorem do_trim {q : AV → List Ob → Prop} {av : AV} {us : List BA} {sd : Sds} {nm : Nms} {vs : Vss} {u c : BA} {act : Int} {o : List Ob} {av2 : AV} (h : LeN av av2) (hf : av2.fits 9 = true) (hq : q av2 (doO us sd nm vs u c act)) : trimN q av (doO us sd nm vs u c act ++ o) :=
  ⟨av2, doO us sd nm vs u c act, h, by simp [leO, doO], by simp [doO, hf, Ob.fits, AV.fits, fitsL, mkSS, mkS, mkI, KK.isSy], hq⟩
theorem cDoA : RSound Tryd.prog 48 EDoA := by
  refine ref_gen trimN trimN_ok (code_bsound (c := Tryd.b48) mixed Tryd.K_ok gdo_ok) Tryd.K_ok Tryd.func48 rfl rfl Tryd.call48 fun al o q ⟨us, sd, nm, vs, u, c, act, h1, h2, hq⟩ => ?_
  subst h1 h2
  have fin : ∀ nm', nm' = actNm nm u c act → ∀ o : List Ob, trimN q (.d (.sl (tdD (toldM sd u c act)))) (doO us (actSd sd u c act) nm' vs u c act ++ o) := fun nm' e o => by
    subst e
    exact do_trim (LeN.refl _) rfl hq
  refine cast (rDoA us sd nm vs u c act (trimN q)).symm ⟨us, sd, nm, vs, u, c, rfl, rfl, rfl, bcase_mk (fun h => bcase_mk (fun h2 => ⟨us, sd, aset (u, c) (nameOf nm u c) nm, vs, u, c, act, rfl, by rw [nm_set]; rfl, rfl, fin _ ?_ _⟩) (fun h2 => ⟨us, sd, nm, vs, u, c, act, rfl, rfl, rfl, fin _ ?_ _⟩)) (fun h => ⟨us, sd, nm, vs, u, c, act, rfl, rfl, rfl, fin _ ?_ _⟩)⟩
  · have h2 : isC nm u c = false := by simpa using h2
    have h1 : act = 1 := by simpa using h
    rw [nm_none h2]
    simp [actNm, h1, h2]
  · have h2 : isC nm u c = true := by simpa using h2
    simp [actNm, h2]
  · have h1 : ¬ act = 1 := by simpa using h
    simp [actNm, h1]
end Go.Proofs.YtldcalmoboeeiaaDoor
