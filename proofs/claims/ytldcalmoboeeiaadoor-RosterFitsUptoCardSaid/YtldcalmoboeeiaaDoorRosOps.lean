import Derived.Test.YtldcalmoboeeiaaDoorRosModel
import Derived.Test.YtldcalmoboeeiaaDoorRosTurnA
import Derived.Test.YtldcalmoboeeiaaDoorRosTurnR
set_option linter.unusedSimpArgs false
set_option linter.unusedVariables false
namespace Go.Proofs.YtldcalmoboeeiaaDoor
open Go Go.AM Go.RowKit
attribute [local irreducible] aCode aUnr aUnS aOut
theorem bkN_trim {q : AV → List Ob → Prop} {av av2 : AV} {us : List BA} {sd : Sds} {nm : Nms} {vs : Vss} {o : List Ob} (h : LeN av av2) (hf : av2.fits 5 = true) (hq : q av2 (bkO us sd nm vs)) : trimN q av (bkO us sd nm vs ++ o) :=
  ⟨av2, bkO us sd nm vs, h, by simp [leO, bkO], by simp [bkO, hf, Ob.fits, AV.fits, fitsL, mkSS, KK.isSy], hq⟩
/-- What a call tells. -/
def outV (r : Out) : AV := .tp [.ag [.d (.sl (strsD r.p)), .d (.sl (tdD r.t))], mkI .i64 r.e]
def ENameO : REnt := fun al o q => ∃ us sd nm vs u c x, al = [.rf 0 0, mkS u, mkS c, mkS x] ∧ o = bkO us sd nm vs ∧ ∀ r, nameO us sd nm vs u c x = r → q (.tp [.ag [.d (.sl (strsD r.p)), .d (.sl (tdD r.t))], mkI .i64 r.e]) (bkO us r.sd r.nm r.vs)
theorem out_err {sd : Sds} {nm : Nms} {vs : Vss} {e : Int} : LeN (.tp [.ag [.nl, .nl], mkI .i64 e]) (outV (errO sd nm vs e)) := leN_tp2 (leN_ag2 .nil .nil) (.refl _)
theorem out_nil {us : List BA} {sd sd' : Sds} {nm nm' : Nms} {vs : Vss} {u c : BA} (h : (pushM us sd sd' nm nm' u c).isEmpty = true) : LeN (.tp [.ag [.nl, .nl], mkI .i64 0]) (outV (turnO us sd nm vs u c sd' nm' [])) := by
  have h : pushM us sd sd' nm nm' u c = [] := by simpa using h
  unfold outV turnO
  simp only [h]
  exact leN_tp2 (leN_ag2 .nil .nil) (.refl _)
theorem out_one {us : List BA} {sd sd' : Sds} {nm nm' : Nms} {vs : Vss} {u c : BA} : LeN (.tp [.ag [.d (.sl (strsD (pushM us sd sd' nm nm' u c))), .nl], mkI .i64 0]) (outV (turnO us sd nm vs u c sd' nm' [])) := leN_tp2 (leN_ag2 (.refl _) .nil) (.refl _)
theorem outV_fits (r : Out) : (outV r).fits 5 = true := by simp [outV, AV.fits, fitsL, mkI]
theorem cNameO : RSound Tryd.prog 21 ENameO := by
  refine ref_gen trimN trimN_ok (code_bsound (c := Tryd.b21) mixed Tryd.K_ok gn_ok) Tryd.K_ok Tryd.func21 rfl rfl Tryd.call21 fun al o q ⟨us, sd, nm, vs, u, c, x, h1, h2, hq⟩ => ?_
  subst h1 h2
  replace hq := hq _ rfl
  have e1 : decide ((x.size : Int) ≤ 40) = true → fineM x = ((if rightB x = true then (0 : Int) else 2) == 0) := fun h => by simp only [fineM, h, Bool.true_and]
  have e2 : decide ((x.size : Int) ≤ 40) = false → fineM x = false := fun h => by simp only [fineM, h, Bool.false_and]
  have er : (mayM us sd nm u c (fineM x) true != 0) = true → ∀ o, trimN q (.tp [.ag [.nl, .nl], mkI .i64 (mayM us sd nm u c (fineM x) true)]) (bkO us sd nm vs ++ o) := fun h o => by
    have e : nameO us sd nm vs u c x = errO sd nm vs (mayM us sd nm u c (fineM x) true) := if_neg (by simpa using h)
    rw [e] at hq
    exact bkN_trim (out_err (sd := sd) (nm := nm) (vs := vs)) (outV_fits _) hq
  have eo : (mayM us sd nm u c (fineM x) true != 0) = false → nameO us sd nm vs u c x = turnO us sd nm vs u c sd (aset (u, c) x nm) [] := fun h => if_pos (by simpa using h)
  have ok1 : (mayM us sd nm u c (fineM x) true != 0) = false → (pushM us sd sd nm (aset (u, c) x nm) u c).isEmpty = true → ∀ o, trimN q (.tp [.ag [.nl, .nl], mkI .i64 0]) (bkO us sd (aset (u, c) x nm) (bumps vs (pushM us sd sd nm (aset (u, c) x nm) u c)) ++ o) := fun h hp o => by
    rw [eo h] at hq
    exact bkN_trim (out_nil hp) (outV_fits _) hq
  have ok2 : (mayM us sd nm u c (fineM x) true != 0) = false → ∀ o, trimN q (.tp [.ag [.d (.sl (strsD (pushM us sd sd nm (aset (u, c) x nm) u c))), .nl], mkI .i64 0]) (bkO us sd (aset (u, c) x nm) (bumps vs (pushM us sd sd nm (aset (u, c) x nm) u c)) ++ o) := fun h o => by
    rw [eo h] at hq
    exact bkN_trim out_one (outV_fits _) hq
  refine cast (rNameB us sd nm vs u c x (trimN q)).symm fun hs => bcase_mk (fun h => ⟨hs, us, sd, nm, vs, u, c, _, true, rfl, rfl, rfl, ?_⟩) (fun h => ⟨us, sd, nm, vs, u, c, false, true, rfl, rfl, rfl, ?_⟩)
  · rw [e1 h] at er ok1 ok2
    exact bcase_mk (fun h2 => er h2 _) (fun h2 => ⟨us, sd, nm, vs, x, u, c, rfl, rfl, bcase_mk (fun h3 => ⟨rfl, ok1 h2 h3 _⟩) (fun h3 => ⟨rfl, ok2 h2 _⟩)⟩)
  · rw [e2 h] at er ok1 ok2
    exact bcase_mk (fun h2 => er h2 _) (fun h2 => ⟨us, sd, nm, vs, x, u, c, rfl, rfl, bcase_mk (fun h3 => ⟨rfl, ok1 h2 h3 _⟩) (fun h3 => ⟨rfl, ok2 h2 _⟩)⟩)
def ETurnAq : REnt := fun al o q => ∃ us sd nm vs u c act, al = [.rf 0 0, mkS u, mkS c, clA] ∧ o = boA us sd nm vs u c act ∧ ∀ r, turnO us sd nm vs u c (actSd sd u c act) (actNm nm u c act) (toldM sd u c act) = r → q (.ag [.d (.sl (strsD r.p)), .d (.sl (tdD r.t))]) (boA us r.sd r.nm r.vs u c act)
theorem cTurnAq : RSound Tryd.prog 47 ETurnAq := cTurnA.mono fun al o q ⟨us, sd, nm, vs, u, c, act, h1, h2, h⟩ => ⟨us, sd, nm, vs, u, c, act, h1, h2, h _ rfl⟩
def ETurnRq : REnt := fun al o q => ∃ us sd nm vs u c, al = [.rf 0 0, mkS u, mkS c, clR] ∧ o = boR us sd nm vs u c ∧ ∀ r, turnO us sd nm vs u c (remSd sd u c) (adel (u, c) nm) (remTd sd u c) = r → q (.ag [.d (.sl (strsD r.p)), .d (.sl (tdD r.t))]) (boR us r.sd r.nm r.vs u c)
theorem cTurnRq : RSound Tryd.prog 47 ETurnRq := cTurnR.mono fun al o q ⟨us, sd, nm, vs, u, c, h1, h2, h⟩ => ⟨us, sd, nm, vs, u, c, h1, h2, h _ rfl⟩
noncomputable abbrev GAct : List (FuncId × En) := [(46, .det FName), (45, .ref (frameX EMay)), (47, .ref (frameX ETurnAq))]
theorem gact_ok : GSound Tryd.prog GAct := gsound_det cName (gsound_ref (RSound.frameX cMay) (gsound_ref (RSound.frameX cTurnAq) gsound_nil))
theorem rActB (us : List BA) (sd : Sds) (nm : Nms) (vs : Vss) (u c : BA) (act : Int) (q : AV → List Ob → Prop) :
  (aCode Tryd.K GAct Tryd.b20 (kRetF Tryd.K Tryd.f20.results.toList q) ⟨[.rf 0 0, mkS u, mkS c, mkI .i64 act] ++ List.replicate (Tryd.f20.ntmps - 4) .jk, bkO us sd nm vs⟩) = (
  True ∧ (
   ∃ (us_1 : List BA),
   ∃ (sd_1 : Sds),
   ∃ (nm_1 : Nms),
   ∃ (vs_1 : Vss),
   ∃ (u_1 : ByteArray),
   ∃ (c_1 : ByteArray),
   ∃ (fine : Bool),
   ∃ (more : Bool),
   ([AV.rf 0 0, mkS u, mkS c, mkB (!(decide ((nameM act) = (⟨#[]⟩ : ByteArray)))), mkB (act == (1 : Int))] = [AV.rf 0 0, mkS u_1, mkS c_1, mkB fine, mkB more]) ∧
   ([Ob.box [AV.d (.sl (strsD us)), AV.mp (0 + 1), AV.mp ((0 + 1) + 1), AV.mp (((0 + 1) + 1) + 1)], Ob.map (KK.ystrs 2) (sdE sd), Ob.map (KK.ystrs 2) (nmE nm), Ob.map KK.ystr (vsE vs), Ob.gh [AV.rf 0 0, AV.mp (0 + 1), AV.mp ((0 + 1) + 1), AV.mp (((0 + 1) + 1) + 1)]] = [Ob.box [mkSS us_1, AV.mp 1, AV.mp 2, AV.mp 3], Ob.map (KK.ystrs 2) (sdE sd_1), Ob.map (KK.ystrs 2) (nmE nm_1), Ob.map KK.ystr (vsE vs_1), Ob.gh [AV.rf 0 0, AV.mp 1, AV.mp 2, AV.mp 3]]) ∧
   ((Option.some (Ob.gh [AV.rf 0 0, AV.mp 1, AV.mp 2, AV.mp 3])) = (Option.some (Ob.gh [AV.rf 0 0, AV.mp (0 + 1), AV.mp ((0 + 1) + 1), AV.mp (((0 + 1) + 1) + 1)]))) ∧
   bcase ((mayM us_1 sd_1 nm_1 u_1 c_1 fine more) != (0 : Int)) (
    q (AV.tp [AV.ag [AV.nl, AV.nl], mkI .i64 (mayM us_1 sd_1 nm_1 u_1 c_1 fine more)]) [Ob.box [AV.d (.sl (strsD us_1)), AV.mp (if 1 < 4 then 1 else 11 + (1 - 4)), AV.mp (if 2 < 4 then 2 else 11 + (2 - 4)), AV.mp (if 3 < 4 then 3 else 11 + (3 - 4))], Ob.map (KK.ystrs 2) (sdE sd_1), Ob.map (KK.ystrs 2) (nmE nm_1), Ob.map KK.ystr (vsE vs_1), Ob.gh [AV.rf 0 0, AV.mp 1, AV.mp 2, AV.mp 3], Ob.box [AV.rf 0 0], Ob.box [mkS u], Ob.box [mkS c], Ob.box [mkI .i64 act], Ob.box [AV.nl, AV.nl], Ob.gone, Ob.gone]) (
    ∃ (us_2 : List BA),
    ∃ (sd_2 : Sds),
    ∃ (nm_2 : Nms),
    ∃ (vs_2 : Vss),
    ∃ (u_2 : ByteArray),
    ∃ (c_2 : ByteArray),
    ∃ (act_1 : Int),
    ([AV.rf 0 0, mkS u, mkS c, AV.fn (Fn.func 48) [] [AV.rf ((((0 + 1) + 1) + 1) + 1) 0, AV.rf (((((0 + 1) + 1) + 1) + 1) + 1) 0, AV.rf ((((((0 + 1) + 1) + 1) + 1) + 1) + 1) 0, AV.rf (((((((0 + 1) + 1) + 1) + 1) + 1) + 1) + 1) 0]] = [AV.rf 0 0, mkS u_2, mkS c_2, AV.fn (Fn.func 48) [] [AV.rf 4 0, AV.rf 5 0, AV.rf 6 0, AV.rf 7 0]]) ∧
    ([Ob.box [AV.d (.sl (strsD us_1)), AV.mp (0 + 1), AV.mp ((0 + 1) + 1), AV.mp (((0 + 1) + 1) + 1)], Ob.map (KK.ystrs 2) (sdE sd_1), Ob.map (KK.ystrs 2) (nmE nm_1), Ob.map KK.ystr (vsE vs_1), Ob.box [AV.rf 0 0], Ob.box [mkS u], Ob.box [mkS c], Ob.box [mkI .i64 act], Ob.gh [AV.rf 0 0, AV.rf ((((0 + 1) + 1) + 1) + 1) 0, AV.rf (((((0 + 1) + 1) + 1) + 1) + 1) 0, AV.rf ((((((0 + 1) + 1) + 1) + 1) + 1) + 1) 0, AV.rf (((((((0 + 1) + 1) + 1) + 1) + 1) + 1) + 1) 0, AV.mp (0 + 1), AV.mp ((0 + 1) + 1), AV.mp (((0 + 1) + 1) + 1), AV.rf 0 0]] = [Ob.box [mkSS us_2, AV.mp 1, AV.mp 2, AV.mp 3], Ob.map (KK.ystrs 2) (sdE sd_2), Ob.map (KK.ystrs 2) (nmE nm_2), Ob.map KK.ystr (vsE vs_2), Ob.box [AV.rf 0 0], Ob.box [mkS u_2], Ob.box [mkS c_2], Ob.box [mkI .i64 act_1], Ob.gh [AV.rf 0 0, AV.rf 4 0, AV.rf 5 0, AV.rf 6 0, AV.rf 7 0, AV.mp 1, AV.mp 2, AV.mp 3, AV.rf 0 0]]) ∧ (
     ∀ (r : Out),
     ((turnO us_2 sd_2 nm_2 vs_2 u_2 c_2 (actSd sd_2 u_2 c_2 act_1) (actNm nm_2 u_2 c_2 act_1) (toldM sd_2 u_2 c_2 act_1)) = r) →
     ((Option.some (Ob.gh [AV.rf 0 0, AV.rf 4 0, AV.rf 5 0, AV.rf 6 0, AV.rf 7 0, AV.mp 1, AV.mp 2, AV.mp 3, AV.rf 0 0])) = (Option.some (Ob.gh [AV.rf 0 0, AV.rf ((((0 + 1) + 1) + 1) + 1) 0, AV.rf (((((0 + 1) + 1) + 1) + 1) + 1) 0, AV.rf ((((((0 + 1) + 1) + 1) + 1) + 1) + 1) 0, AV.rf (((((((0 + 1) + 1) + 1) + 1) + 1) + 1) + 1) 0, AV.mp (0 + 1), AV.mp ((0 + 1) + 1), AV.mp (((0 + 1) + 1) + 1), AV.rf 0 0]))) ∧
     q (AV.tp [AV.ag [AV.d (.sl (strsD (Out.p r))), AV.d (.sl (tdD (Out.t r)))], mkI .i64 (0 : Int)]) [Ob.box [AV.d (.sl (strsD us_2)), AV.mp (if 1 < 8 then 1 else 13 + (1 - 8)), AV.mp (if 2 < 8 then 2 else 13 + (2 - 8)), AV.mp (if 3 < 8 then 3 else 13 + (3 - 8))], Ob.map (KK.ystrs 2) (sdE (Out.sd r)), Ob.map (KK.ystrs 2) (nmE (Out.nm r)), Ob.map KK.ystr (vsE (Out.vs r)), Ob.gh [AV.rf 0 0, AV.mp 1, AV.mp 2, AV.mp 3], Ob.box [AV.rf (if 0 < 8 then 0 else 13 + (0 - 8)) 0], Ob.box [mkS u_2], Ob.box [mkS c_2], Ob.box [mkI .i64 act_1], Ob.box [AV.d (.sl (strsD (Out.p r))), AV.d (.sl (tdD (Out.t r)))], Ob.gone, Ob.gone, Ob.gone, Ob.gone])))) := by kernel_rfl
noncomputable abbrev GRem : List (FuncId × En) := [(49, .ref (frameX EContact)), (47, .ref (frameX ETurnRq))]
theorem grem_ok : GSound Tryd.prog GRem := gsound_ref (RSound.frameX cContact) (gsound_ref (RSound.frameX cTurnRq) gsound_nil)
theorem rRemB (us : List BA) (sd : Sds) (nm : Nms) (vs : Vss) (u c : BA) (q : AV → List Ob → Prop) :
  (aCode Tryd.K GRem Tryd.b22 (kRetF Tryd.K Tryd.f22.results.toList q) ⟨[.rf 0 0, mkS u, mkS c] ++ List.replicate (Tryd.f22.ntmps - 3) .jk, bkO us sd nm vs⟩) = (
  ∃ (us_1 : List BA),
  ∃ (sd_1 : Sds),
  ∃ (nm_1 : Nms),
  ∃ (vs_1 : Vss),
  ∃ (u_1 : ByteArray),
  ∃ (c_1 : ByteArray),
  ([AV.rf 0 0, mkS u, mkS c] = [AV.rf 0 0, mkS u_1, mkS c_1]) ∧
  ([Ob.box [AV.d (.sl (strsD us)), AV.mp (0 + 1), AV.mp ((0 + 1) + 1), AV.mp (((0 + 1) + 1) + 1)], Ob.map (KK.ystrs 2) (sdE sd), Ob.map (KK.ystrs 2) (nmE nm), Ob.map KK.ystr (vsE vs), Ob.gh [AV.rf 0 0, AV.mp (0 + 1), AV.mp ((0 + 1) + 1), AV.mp (((0 + 1) + 1) + 1)]] = [Ob.box [mkSS us_1, AV.mp 1, AV.mp 2, AV.mp 3], Ob.map (KK.ystrs 2) (sdE sd_1), Ob.map (KK.ystrs 2) (nmE nm_1), Ob.map KK.ystr (vsE vs_1), Ob.gh [AV.rf 0 0, AV.mp 1, AV.mp 2, AV.mp 3]]) ∧
  ((Option.some (Ob.gh [AV.rf 0 0, AV.mp 1, AV.mp 2, AV.mp 3])) = (Option.some (Ob.gh [AV.rf 0 0, AV.mp (0 + 1), AV.mp ((0 + 1) + 1), AV.mp (((0 + 1) + 1) + 1)]))) ∧
  bcase (!(isC nm_1 u_1 c_1)) (
   q (AV.tp [AV.ag [AV.nl, AV.nl], mkI .i64 (7 : Int)]) [Ob.box [AV.d (.sl (strsD us_1)), AV.mp (if 1 < 4 then 1 else 10 + (1 - 4)), AV.mp (if 2 < 4 then 2 else 10 + (2 - 4)), AV.mp (if 3 < 4 then 3 else 10 + (3 - 4))], Ob.map (KK.ystrs 2) (sdE sd_1), Ob.map (KK.ystrs 2) (nmE nm_1), Ob.map KK.ystr (vsE vs_1), Ob.gh [AV.rf 0 0, AV.mp 1, AV.mp 2, AV.mp 3], Ob.box [AV.rf 0 0], Ob.box [mkS u], Ob.box [mkS c], Ob.box [AV.nl, AV.nl], Ob.gone, Ob.gone]) (
   ∃ (us_2 : List BA),
   ∃ (sd_2 : Sds),
   ∃ (nm_2 : Nms),
   ∃ (vs_2 : Vss),
   ∃ (u_2 : ByteArray),
   ∃ (c_2 : ByteArray),
   ([AV.rf 0 0, mkS u, mkS c, AV.fn (Fn.func 53) [] [AV.rf ((((0 + 1) + 1) + 1) + 1) 0, AV.rf (((((0 + 1) + 1) + 1) + 1) + 1) 0, AV.rf ((((((0 + 1) + 1) + 1) + 1) + 1) + 1) 0]] = [AV.rf 0 0, mkS u_2, mkS c_2, AV.fn (Fn.func 53) [] [AV.rf 4 0, AV.rf 5 0, AV.rf 6 0]]) ∧
   ([Ob.box [AV.d (.sl (strsD us_1)), AV.mp (0 + 1), AV.mp ((0 + 1) + 1), AV.mp (((0 + 1) + 1) + 1)], Ob.map (KK.ystrs 2) (sdE sd_1), Ob.map (KK.ystrs 2) (nmE nm_1), Ob.map KK.ystr (vsE vs_1), Ob.box [AV.rf 0 0], Ob.box [mkS u], Ob.box [mkS c], Ob.gh [AV.rf 0 0, AV.rf ((((0 + 1) + 1) + 1) + 1) 0, AV.rf (((((0 + 1) + 1) + 1) + 1) + 1) 0, AV.rf ((((((0 + 1) + 1) + 1) + 1) + 1) + 1) 0, AV.mp (0 + 1), AV.mp ((0 + 1) + 1), AV.mp (((0 + 1) + 1) + 1), AV.rf 0 0]] = [Ob.box [mkSS us_2, AV.mp 1, AV.mp 2, AV.mp 3], Ob.map (KK.ystrs 2) (sdE sd_2), Ob.map (KK.ystrs 2) (nmE nm_2), Ob.map KK.ystr (vsE vs_2), Ob.box [AV.rf 0 0], Ob.box [mkS u_2], Ob.box [mkS c_2], Ob.gh [AV.rf 0 0, AV.rf 4 0, AV.rf 5 0, AV.rf 6 0, AV.mp 1, AV.mp 2, AV.mp 3, AV.rf 0 0]]) ∧ (
    ∀ (r : Out),
    ((turnO us_2 sd_2 nm_2 vs_2 u_2 c_2 (remSd sd_2 u_2 c_2) (adel (u_2, c_2) nm_2) (remTd sd_2 u_2 c_2)) = r) →
    ((Option.some (Ob.gh [AV.rf 0 0, AV.rf 4 0, AV.rf 5 0, AV.rf 6 0, AV.mp 1, AV.mp 2, AV.mp 3, AV.rf 0 0])) = (Option.some (Ob.gh [AV.rf 0 0, AV.rf ((((0 + 1) + 1) + 1) + 1) 0, AV.rf (((((0 + 1) + 1) + 1) + 1) + 1) 0, AV.rf ((((((0 + 1) + 1) + 1) + 1) + 1) + 1) 0, AV.mp (0 + 1), AV.mp ((0 + 1) + 1), AV.mp (((0 + 1) + 1) + 1), AV.rf 0 0]))) ∧
    q (AV.tp [AV.ag [AV.d (.sl (strsD (Out.p r))), AV.d (.sl (tdD (Out.t r)))], mkI .i64 (0 : Int)]) [Ob.box [AV.d (.sl (strsD us_2)), AV.mp (if 1 < 7 then 1 else 12 + (1 - 7)), AV.mp (if 2 < 7 then 2 else 12 + (2 - 7)), AV.mp (if 3 < 7 then 3 else 12 + (3 - 7))], Ob.map (KK.ystrs 2) (sdE (Out.sd r)), Ob.map (KK.ystrs 2) (nmE (Out.nm r)), Ob.map KK.ystr (vsE (Out.vs r)), Ob.gh [AV.rf 0 0, AV.mp 1, AV.mp 2, AV.mp 3], Ob.box [AV.rf (if 0 < 7 then 0 else 12 + (0 - 7)) 0], Ob.box [mkS u_2], Ob.box [mkS c_2], Ob.box [AV.d (.sl (strsD (Out.p r))), AV.d (.sl (tdD (Out.t r)))], Ob.gone, Ob.gone, Ob.gone, Ob.gone]))) := by kernel_rfl
theorem fineA_eq (act : Int) : (!(decide (nameM act = ⟨#[]⟩))) = fineA act := by
  unfold nameM fineA
  split
  · rename_i h
    have : ¬ (1 : Int) ≤ act := by omega
    simp [this]
  · split
    · rename_i h
      have : ¬ act ≤ 4 := by omega
      simp [this]
    · have : act = 1 ∨ act = 2 ∨ act = 3 ∨ act = 4 := by omega
      rcases this with rfl | rfl | rfl | rfl <;> decide
def EActO : REnt := fun al o q => ∃ us sd nm vs u c act, al = [.rf 0 0, mkS u, mkS c, mkI .i64 act] ∧ o = bkO us sd nm vs ∧ ∀ r, actO us sd nm vs u c act = r → q (.tp [.ag [.d (.sl (strsD r.p)), .d (.sl (tdD r.t))], mkI .i64 r.e]) (bkO us r.sd r.nm r.vs)
theorem cActO : RSound Tryd.prog 20 EActO := by
  refine ref_gen trimN trimN_ok (code_bsound (c := Tryd.b20) mixed Tryd.K_ok gact_ok) Tryd.K_ok Tryd.func20 rfl rfl Tryd.call20 fun al o q ⟨us, sd, nm, vs, u, c, act, h1, h2, hq⟩ => ?_
  subst h1 h2
  replace hq := hq _ rfl
  have er : (mayM us sd nm u c (fineA act) (act == 1) != 0) = true → ∀ o, trimN q (.tp [.ag [.nl, .nl], mkI .i64 (mayM us sd nm u c (fineA act) (act == 1))]) (bkO us sd nm vs ++ o) := fun h o => by
    have e : actO us sd nm vs u c act = errO sd nm vs (mayM us sd nm u c (fineA act) (act == 1)) := if_neg (by simpa using h)
    rw [e] at hq
    exact bkN_trim (out_err (sd := sd) (nm := nm) (vs := vs)) (outV_fits _) hq
  have ok : (mayM us sd nm u c (fineA act) (act == 1) != 0) = false → ∀ r, turnO us sd nm vs u c (actSd sd u c act) (actNm nm u c act) (toldM sd u c act) = r → ∀ o, trimN q (.tp [.ag [.d (.sl (strsD r.p)), .d (.sl (tdD r.t))], mkI .i64 0]) (bkO us r.sd r.nm r.vs ++ o) := fun h r hr o => by
    have e : actO us sd nm vs u c act = turnO us sd nm vs u c (actSd sd u c act) (actNm nm u c act) (toldM sd u c act) := if_pos (by simpa using h)
    rw [e] at hq
    subst hr
    exact bkN_trim (LeN.refl _) (outV_fits _) hq
  rw [← fineA_eq] at er ok
  exact cast (rActB us sd nm vs u c act (trimN q)).symm ⟨trivial, us, sd, nm, vs, u, c, _, _, rfl, rfl, rfl, bcase_mk (fun h => er h _) (fun h => ⟨us, sd, nm, vs, u, c, act, rfl, rfl, fun r hr => ⟨rfl, ok h r hr _⟩⟩)⟩
def ERemO : REnt := fun al o q => ∃ us sd nm vs u c, al = [.rf 0 0, mkS u, mkS c] ∧ o = bkO us sd nm vs ∧ ∀ r, remO us sd nm vs u c = r → q (.tp [.ag [.d (.sl (strsD r.p)), .d (.sl (tdD r.t))], mkI .i64 r.e]) (bkO us r.sd r.nm r.vs)
theorem cRemO : RSound Tryd.prog 22 ERemO := by
  refine ref_gen trimN trimN_ok (code_bsound (c := Tryd.b22) mixed Tryd.K_ok grem_ok) Tryd.K_ok Tryd.func22 rfl rfl Tryd.call22 fun al o q ⟨us, sd, nm, vs, u, c, h1, h2, hq⟩ => ?_
  subst h1 h2
  replace hq := hq _ rfl
  have er : (!(isC nm u c)) = true → ∀ o, trimN q (.tp [.ag [.nl, .nl], mkI .i64 7]) (bkO us sd nm vs ++ o) := fun h o => by
    have e : remO us sd nm vs u c = errO sd nm vs 7 := if_neg (by simpa using h)
    rw [e] at hq
    exact bkN_trim (out_err (sd := sd) (nm := nm) (vs := vs)) (outV_fits _) hq
  have ok : (!(isC nm u c)) = false → ∀ r, turnO us sd nm vs u c (remSd sd u c) (adel (u, c) nm) (remTd sd u c) = r → ∀ o, trimN q (.tp [.ag [.d (.sl (strsD r.p)), .d (.sl (tdD r.t))], mkI .i64 0]) (bkO us r.sd r.nm r.vs ++ o) := fun h r hr o => by
    have e : remO us sd nm vs u c = turnO us sd nm vs u c (remSd sd u c) (adel (u, c) nm) (remTd sd u c) := if_pos (by simpa using h)
    rw [e] at hq
    subst hr
    exact bkN_trim (LeN.refl _) (outV_fits _) hq
  exact cast (rRemB us sd nm vs u c (trimN q)).symm ⟨us, sd, nm, vs, u, c, rfl, rfl, rfl, bcase_mk (fun h => er h _) (fun h => ⟨us, sd, nm, vs, u, c, rfl, rfl, fun r hr => ⟨rfl, ok h r hr _⟩⟩)⟩
end Go.Proofs.YtldcalmoboeeiaaDoor
