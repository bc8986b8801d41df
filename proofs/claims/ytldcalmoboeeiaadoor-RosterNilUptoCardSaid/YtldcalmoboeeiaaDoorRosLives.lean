import Derived.Test.YtldcalmoboeeiaaDoorRosLaw0
set_option linter.unusedSimpArgs false
set_option linter.unusedVariables false
namespace Go.Proofs.YtldcalmoboeeiaaDoor
open Go Go.AM Go.RowKit
attribute [local irreducible] aCode aUnr aUnS aOut
noncomputable abbrev GU : List (FuncId × En) := [(56, .ref cloneF)]
theorem rUsers (us : List BA) (sd : Sds) (nm : Nms) (vs : Vss) (q : AV → List Ob → Prop) :
  (aCode Tryd.K GU Tryd.b26 (kRetF Tryd.K Tryd.f26.results.toList q) ⟨[.rf 0 0] ++ List.replicate (Tryd.f26.ntmps - 1) .jk, bkO us sd nm vs⟩) = (
  (((strsD us) = (strsD (unSS (strsD us)))) ∧ ((((strsD us) = []) → False) ∧ ((List.length (strsD us)) ≤ (65536 : Nat)))) ∧
  q (AV.vw 6 (List.length (strsD us))) [Ob.box [mkSS us, AV.mp 1, AV.mp 2, AV.mp 3], Ob.map (KK.ystrs 2) (sdE sd), Ob.map (KK.ystrs 2) (nmE nm), Ob.map KK.ystr (vsE vs), Ob.gh [AV.rf 0 0, AV.mp 1, AV.mp 2, AV.mp 3], Ob.gone, Ob.row 1 (strsD us)]) := by kernel_rfl
def EUsers : REnt := fun al o q => ∃ us sd nm vs, al = [.rf 0 0] ∧ o = bkO us sd nm vs ∧ (us ≠ [] ∧ us.length ≤ 65536) ∧ q (mkSS us) (bkO us sd nm vs)
theorem cUsers : RSound Tryd.prog 26 EUsers := by
  refine ref_gen trimM trimM_ok (code_bsound (c := Tryd.b26) mixed Tryd.K_ok (gsound_ref (cloneF_sound cClone) gsound_nil)) Tryd.K_ok Tryd.func26 rfl rfl Tryd.call26 fun al o q ⟨us, sd, nm, vs, h1, h2, ⟨hne, hl⟩, hq⟩ => ?_
  subst h1 h2
  refine cast (rUsers us sd nm vs (trimM q)).symm ⟨⟨by rw [unSS_strsD], fun h => hne (by simpa [strsD] using h), by rw [strsD_length]; exact hl⟩, [6], ?_⟩
  have e : sealAll [6] ⟨[.vw 6 (strsD us).length], bkO us sd nm vs ++ [.gone, .row 1 (strsD us)]⟩ = ⟨[.d (.sl ((strsD us).take (strsD us).length))], bkO us sd nm vs ++ [.gone, .gone]⟩ := rfl
  rw [show ([Ob.box [mkSS us, AV.mp 1, AV.mp 2, AV.mp 3], Ob.map (KK.ystrs 2) (sdE sd), Ob.map (KK.ystrs 2) (nmE nm), Ob.map KK.ystr (vsE vs), Ob.gh [AV.rf 0 0, AV.mp 1, AV.mp 2, AV.mp 3], Ob.gone, Ob.row 1 (strsD us)] : List Ob) = bkO us sd nm vs ++ [.gone, .row 1 (strsD us)] from rfl, e]
  show trimN q _ _
  rw [List.take_length]
  exact bkN_trim (LeN.refl _) rfl hq
noncomputable abbrev GLv : List (FuncId × En) := [(41, .ref (frameX ENew2)), (20, .ref (frameX EActO)), (15, .ref (frameX EItems)), (26, .ref (frameX EUsers))]
theorem rLives (q : AV → List Ob → Prop) :
  (aCode Tryd.K GLv Tryd.b12 (kRetF Tryd.K Tryd.f12.results.toList q) ⟨List.replicate (Tryd.f12.ntmps) .jk, [.gh []]⟩) = (
  ([AV.vw 0 2] = [AV.vw 0 2]) ∧
  ([Ob.row 1 [[D.v (Value.string (⟨#[(98 : UInt8), (111 : UInt8), (98 : UInt8)]⟩ : ByteArray))], [D.v (Value.string (⟨#[(97 : UInt8), (110 : UInt8), (110 : UInt8)]⟩ : ByteArray))]], Ob.gh []] = [Ob.row 1 (strsD u2), Ob.gh []]) ∧
  ((Option.some (Ob.gh [])) = (Option.some (Ob.gh []))) ∧ (
   ∃ (us : List BA),
   ∃ (sd : Sds),
   ∃ (nm : Nms),
   ∃ (vs : Vss),
   ∃ (u : ByteArray),
   ∃ (c : ByteArray),
   ∃ (act : Int),
   ([AV.rf 0 0, mkS (⟨#[(97 : UInt8), (110 : UInt8), (110 : UInt8)]⟩ : ByteArray), mkS (⟨#[(98 : UInt8), (111 : UInt8), (98 : UInt8)]⟩ : ByteArray), mkI IntKind.i64 (1 : Int)] = [AV.rf 0 0, mkS u, mkS c, mkI IntKind.i64 act]) ∧
   ([Ob.box [AV.d (D.sl (strsD t2)), AV.mp (0 + 1), AV.mp ((0 + 1) + 1), AV.mp (((0 + 1) + 1) + 1)], Ob.map (KK.ystrs 2) [], Ob.map (KK.ystrs 2) [], Ob.map KK.ystr [(Key.s (⟨#[(97 : UInt8), (110 : UInt8), (110 : UInt8)]⟩ : ByteArray), mkI IntKind.i64 (1 : Int)), (Key.s (⟨#[(98 : UInt8), (111 : UInt8), (98 : UInt8)]⟩ : ByteArray), mkI IntKind.i64 (1 : Int))], Ob.gh [AV.rf 0 0, AV.mp (0 + 1), AV.mp ((0 + 1) + 1), AV.mp (((0 + 1) + 1) + 1)]] = [Ob.box [mkSS us, AV.mp 1, AV.mp 2, AV.mp 3], Ob.map (KK.ystrs 2) (sdE sd), Ob.map (KK.ystrs 2) (nmE nm), Ob.map KK.ystr (vsE vs), Ob.gh [AV.rf 0 0, AV.mp 1, AV.mp 2, AV.mp 3]]) ∧ (
    ∀ (r : Out),
    ((actO us sd nm vs u c act) = r) →
    ((Option.some (Ob.gh [AV.rf 0 0, AV.mp 1, AV.mp 2, AV.mp 3])) = (Option.some (Ob.gh [AV.rf 0 0, AV.mp (0 + 1), AV.mp ((0 + 1) + 1), AV.mp (((0 + 1) + 1) + 1)]))) ∧ (
     ∃ (us_1 : List BA),
     ∃ (sd_1 : Sds),
     ∃ (nm_1 : Nms),
     ∃ (vs_1 : Vss),
     ∃ (u_1 : ByteArray),
     ([AV.rf 0 0, mkS (⟨#[(97 : UInt8), (110 : UInt8), (110 : UInt8)]⟩ : ByteArray)] = [AV.rf 0 0, mkS u_1]) ∧
     ([Ob.box [AV.d (D.sl (strsD us)), AV.mp (0 + 1), AV.mp ((0 + 1) + 1), AV.mp (((0 + 1) + 1) + 1)], Ob.map (KK.ystrs 2) (sdE (Out.sd r)), Ob.map (KK.ystrs 2) (nmE (Out.nm r)), Ob.map KK.ystr (vsE (Out.vs r)), Ob.gh [AV.rf 0 0, AV.mp (0 + 1), AV.mp ((0 + 1) + 1), AV.mp (((0 + 1) + 1) + 1)]] = [Ob.box [mkSS us_1, AV.mp 1, AV.mp 2, AV.mp 3], Ob.map (KK.ystrs 2) (sdE sd_1), Ob.map (KK.ystrs 2) (nmE nm_1), Ob.map KK.ystr (vsE vs_1), Ob.gh [AV.rf 0 0, AV.mp 1, AV.mp 2, AV.mp 3]]) ∧
     ((Option.some (Ob.gh [AV.rf 0 0, AV.mp 1, AV.mp 2, AV.mp 3])) = (Option.some (Ob.gh [AV.rf 0 0, AV.mp (0 + 1), AV.mp ((0 + 1) + 1), AV.mp (((0 + 1) + 1) + 1)]))) ∧
     bcase ((Out.e r) == (0 : Int)) (
      ((List.length (strsD (Out.p r))) ≤ LIM) →
      bcase (((List.length (strsD (Out.p r))) : Int) == (1 : Int)) (
       (((0 : Int) ≤ (0 : Int)) ∧ ((0 : Int) < ((List.length (strsD (Out.p r))) : Int))) ∧
       ((List.length (List.getD (strsD (Out.p r)) (Int.toNat (0 : Int)) [])) = 1) ∧
       ((1 : Nat) ≤ (List.length (List.getD (strsD (Out.p r)) (Int.toNat (0 : Int)) []))) ∧
       ((List.getD (List.getD (strsD (Out.p r)) (Int.toNat (0 : Int)) []) (0 : Nat) d0) = (D.v (Value.string (strD (List.getD (List.getD (strsD (Out.p r)) (Int.toNat (0 : Int)) []) (0 : Nat) d0))))) ∧
       bcase (decide ((strD (List.getD (List.getD (strsD (Out.p r)) (Int.toNat (0 : Int)) []) (0 : Nat) d0)) = (⟨#[(97 : UInt8), (110 : UInt8), (110 : UInt8)]⟩ : ByteArray))) (
        ((List.length (tdD (Out.t r))) ≤ LIM) →
        bcase (((List.length (tdD (Out.t r))) : Int) == (1 : Int)) (
         (((0 : Int) ≤ (0 : Int)) ∧ ((0 : Int) < ((List.length (tdD (Out.t r))) : Int))) ∧
         ((List.length (List.getD (tdD (Out.t r)) (Int.toNat (0 : Int)) [])) = 3) ∧
         ((1 : Nat) ≤ (List.length (List.drop (0 : Nat) (List.getD (tdD (Out.t r)) (Int.toNat (0 : Int)) [])))) ∧
         ((List.getD (List.drop (0 : Nat) (List.getD (tdD (Out.t r)) (Int.toNat (0 : Int)) [])) (0 : Nat) d0) = (D.v (Value.string (strD (List.getD (List.drop (0 : Nat) (List.getD (tdD (Out.t r)) (Int.toNat (0 : Int)) [])) (0 : Nat) d0))))) ∧
         bcase (decide ((strD (List.getD (List.drop (0 : Nat) (List.getD (tdD (Out.t r)) (Int.toNat (0 : Int)) [])) (0 : Nat) d0)) = (⟨#[(98 : UInt8), (111 : UInt8), (98 : UInt8)]⟩ : ByteArray))) (
          bcase ((if (memB u_1 us_1) = true then (0 : Int) else (7 : Int)) == (0 : Int)) (
           bcase ((if (memB u_1 us_1) = true then verOf vs_1 u_1 else (0 : Int)) == (2 : Int)) (
            ((List.length (itsD (if (memB u_1 us_1) = true then itemsM us_1 sd_1 nm_1 u_1 else []))) ≤ LIM) →
            bcase (((List.length (itsD (if (memB u_1 us_1) = true then itemsM us_1 sd_1 nm_1 u_1 else []))) : Int) == (1 : Int)) (
             (((0 : Int) ≤ (0 : Int)) ∧ ((0 : Int) < ((List.length (itsD (if (memB u_1 us_1) = true then itemsM us_1 sd_1 nm_1 u_1 else []))) : Int))) ∧
             ((List.length (List.getD (itsD (if (memB u_1 us_1) = true then itemsM us_1 sd_1 nm_1 u_1 else [])) (Int.toNat (0 : Int)) [])) = 4) ∧
             ((1 : Nat) ≤ (List.length (List.drop (3 : Nat) (List.getD (itsD (if (memB u_1 us_1) = true then itemsM us_1 sd_1 nm_1 u_1 else [])) (Int.toNat (0 : Int)) [])))) ∧
             ((List.getD (List.drop (3 : Nat) (List.getD (itsD (if (memB u_1 us_1) = true then itemsM us_1 sd_1 nm_1 u_1 else [])) (Int.toNat (0 : Int)) [])) (0 : Nat) d0) = (D.v (Value.bool (boolD (List.getD (List.drop (3 : Nat) (List.getD (itsD (if (memB u_1 us_1) = true then itemsM us_1 sd_1 nm_1 u_1 else [])) (Int.toNat (0 : Int)) [])) (0 : Nat) d0))))) ∧
             bcase (boolD (List.getD (List.drop (3 : Nat) (List.getD (itsD (if (memB u_1 us_1) = true then itemsM us_1 sd_1 nm_1 u_1 else [])) (Int.toNat (0 : Int)) [])) (0 : Nat) d0)) (
              ∃ (us_2 : List BA),
              ∃ (sd_2 : Sds),
              ∃ (nm_2 : Nms),
              ∃ (vs_2 : Vss),
              ([AV.rf 0 0] = [AV.rf 0 0]) ∧
              ([Ob.box [AV.d (D.sl (strsD us_1)), AV.mp (0 + 1), AV.mp ((0 + 1) + 1), AV.mp (((0 + 1) + 1) + 1)], Ob.map (KK.ystrs 2) (sdE sd_1), Ob.map (KK.ystrs 2) (nmE nm_1), Ob.map KK.ystr (vsE vs_1), Ob.gh [AV.rf 0 0, AV.mp (0 + 1), AV.mp ((0 + 1) + 1), AV.mp (((0 + 1) + 1) + 1)]] = [Ob.box [mkSS us_2, AV.mp 1, AV.mp 2, AV.mp 3], Ob.map (KK.ystrs 2) (sdE sd_2), Ob.map (KK.ystrs 2) (nmE nm_2), Ob.map KK.ystr (vsE vs_2), Ob.gh [AV.rf 0 0, AV.mp 1, AV.mp 2, AV.mp 3]]) ∧
              (((us_2 = []) → False) ∧ ((List.length us_2) ≤ (65536 : Nat))) ∧
              ((Option.some (Ob.gh [AV.rf 0 0, AV.mp 1, AV.mp 2, AV.mp 3])) = (Option.some (Ob.gh [AV.rf 0 0, AV.mp (0 + 1), AV.mp ((0 + 1) + 1), AV.mp (((0 + 1) + 1) + 1)]))) ∧ (
               ((List.length (strsD us_2)) ≤ LIM) →
               q (mkB (((List.length (strsD us_2)) : Int) == (2 : Int))) [Ob.gh [], Ob.row 1 (strsD u2), Ob.gone, Ob.gone, Ob.gone, Ob.gone, Ob.gone, Ob.gone, Ob.gone, Ob.gone, Ob.gone, Ob.gone, Ob.map (KK.ystrs 2) (sdE sd_2), Ob.map (KK.ystrs 2) (nmE nm_2), Ob.map KK.ystr (vsE vs_2), Ob.box [AV.d (D.sl (strsD us_2)), AV.mp (if 1 < 4 then 12 else 22 + (1 - 4)), AV.mp (if 2 < 4 then 13 else 22 + (2 - 4)), AV.mp (if 3 < 4 then 14 else 22 + (3 - 4))], Ob.gone, Ob.gone, Ob.box [AV.d (D.sl (strsD (Out.p r))), AV.d (D.sl (tdD (Out.t r)))], Ob.gone, Ob.gone, Ob.gone, Ob.gone])) (
              q (mkB false) [Ob.gh [], Ob.row 1 (strsD u2), Ob.gone, Ob.gone, Ob.gone, Ob.gone, Ob.gone, Ob.gone, Ob.gone, Ob.gone, Ob.gone, Ob.gone, Ob.map (KK.ystrs 2) (sdE sd_1), Ob.map (KK.ystrs 2) (nmE nm_1), Ob.map KK.ystr (vsE vs_1), Ob.box [AV.d (D.sl (strsD us_1)), AV.mp (if 1 < 4 then 12 else 20 + (1 - 4)), AV.mp (if 2 < 4 then 13 else 20 + (2 - 4)), AV.mp (if 3 < 4 then 14 else 20 + (3 - 4))], Ob.gone, Ob.gone, Ob.box [AV.d (D.sl (strsD (Out.p r))), AV.d (D.sl (tdD (Out.t r)))], Ob.gone, Ob.gone])) (
             q (mkB false) [Ob.gh [], Ob.row 1 (strsD u2), Ob.gone, Ob.gone, Ob.gone, Ob.gone, Ob.gone, Ob.gone, Ob.gone, Ob.gone, Ob.gone, Ob.gone, Ob.map (KK.ystrs 2) (sdE sd_1), Ob.map (KK.ystrs 2) (nmE nm_1), Ob.map KK.ystr (vsE vs_1), Ob.box [AV.d (D.sl (strsD us_1)), AV.mp (if 1 < 4 then 12 else 20 + (1 - 4)), AV.mp (if 2 < 4 then 13 else 20 + (2 - 4)), AV.mp (if 3 < 4 then 14 else 20 + (3 - 4))], Ob.gone, Ob.gone, Ob.box [AV.d (D.sl (strsD (Out.p r))), AV.d (D.sl (tdD (Out.t r)))], Ob.gone, Ob.gone])) (
            q (mkB false) [Ob.gh [], Ob.row 1 (strsD u2), Ob.gone, Ob.gone, Ob.gone, Ob.gone, Ob.gone, Ob.gone, Ob.gone, Ob.gone, Ob.gone, Ob.gone, Ob.map (KK.ystrs 2) (sdE sd_1), Ob.map (KK.ystrs 2) (nmE nm_1), Ob.map KK.ystr (vsE vs_1), Ob.box [AV.d (D.sl (strsD us_1)), AV.mp (if 1 < 4 then 12 else 20 + (1 - 4)), AV.mp (if 2 < 4 then 13 else 20 + (2 - 4)), AV.mp (if 3 < 4 then 14 else 20 + (3 - 4))], Ob.gone, Ob.gone, Ob.box [AV.d (D.sl (strsD (Out.p r))), AV.d (D.sl (tdD (Out.t r)))], Ob.gone, Ob.gone])) (
           q (mkB false) [Ob.gh [], Ob.row 1 (strsD u2), Ob.gone, Ob.gone, Ob.gone, Ob.gone, Ob.gone, Ob.gone, Ob.gone, Ob.gone, Ob.gone, Ob.gone, Ob.map (KK.ystrs 2) (sdE sd_1), Ob.map (KK.ystrs 2) (nmE nm_1), Ob.map KK.ystr (vsE vs_1), Ob.box [AV.d (D.sl (strsD us_1)), AV.mp (if 1 < 4 then 12 else 20 + (1 - 4)), AV.mp (if 2 < 4 then 13 else 20 + (2 - 4)), AV.mp (if 3 < 4 then 14 else 20 + (3 - 4))], Ob.gone, Ob.gone, Ob.box [AV.d (D.sl (strsD (Out.p r))), AV.d (D.sl (tdD (Out.t r)))], Ob.gone, Ob.gone])) (
          q (mkB false) [Ob.gh [], Ob.row 1 (strsD u2), Ob.gone, Ob.gone, Ob.gone, Ob.gone, Ob.gone, Ob.gone, Ob.gone, Ob.gone, Ob.gone, Ob.gone, Ob.map (KK.ystrs 2) (sdE sd_1), Ob.map (KK.ystrs 2) (nmE nm_1), Ob.map KK.ystr (vsE vs_1), Ob.box [AV.d (D.sl (strsD us_1)), AV.mp (if 1 < 4 then 12 else 20 + (1 - 4)), AV.mp (if 2 < 4 then 13 else 20 + (2 - 4)), AV.mp (if 3 < 4 then 14 else 20 + (3 - 4))], Ob.gone, Ob.gone, Ob.box [AV.d (D.sl (strsD (Out.p r))), AV.d (D.sl (tdD (Out.t r)))], Ob.gone, Ob.gone])) (
         q (mkB false) [Ob.gh [], Ob.row 1 (strsD u2), Ob.gone, Ob.gone, Ob.gone, Ob.gone, Ob.gone, Ob.gone, Ob.gone, Ob.gone, Ob.gone, Ob.gone, Ob.map (KK.ystrs 2) (sdE sd_1), Ob.map (KK.ystrs 2) (nmE nm_1), Ob.map KK.ystr (vsE vs_1), Ob.box [AV.d (D.sl (strsD us_1)), AV.mp (if 1 < 4 then 12 else 20 + (1 - 4)), AV.mp (if 2 < 4 then 13 else 20 + (2 - 4)), AV.mp (if 3 < 4 then 14 else 20 + (3 - 4))], Ob.gone, Ob.gone, Ob.box [AV.d (D.sl (strsD (Out.p r))), AV.d (D.sl (tdD (Out.t r)))], Ob.gone, Ob.gone])) (
        q (mkB false) [Ob.gh [], Ob.row 1 (strsD u2), Ob.gone, Ob.gone, Ob.gone, Ob.gone, Ob.gone, Ob.gone, Ob.gone, Ob.gone, Ob.gone, Ob.gone, Ob.map (KK.ystrs 2) (sdE sd_1), Ob.map (KK.ystrs 2) (nmE nm_1), Ob.map KK.ystr (vsE vs_1), Ob.box [AV.d (D.sl (strsD us_1)), AV.mp (if 1 < 4 then 12 else 20 + (1 - 4)), AV.mp (if 2 < 4 then 13 else 20 + (2 - 4)), AV.mp (if 3 < 4 then 14 else 20 + (3 - 4))], Ob.gone, Ob.gone, Ob.box [AV.d (D.sl (strsD (Out.p r))), AV.d (D.sl (tdD (Out.t r)))], Ob.gone, Ob.gone])) (
       q (mkB false) [Ob.gh [], Ob.row 1 (strsD u2), Ob.gone, Ob.gone, Ob.gone, Ob.gone, Ob.gone, Ob.gone, Ob.gone, Ob.gone, Ob.gone, Ob.gone, Ob.map (KK.ystrs 2) (sdE sd_1), Ob.map (KK.ystrs 2) (nmE nm_1), Ob.map KK.ystr (vsE vs_1), Ob.box [AV.d (D.sl (strsD us_1)), AV.mp (if 1 < 4 then 12 else 20 + (1 - 4)), AV.mp (if 2 < 4 then 13 else 20 + (2 - 4)), AV.mp (if 3 < 4 then 14 else 20 + (3 - 4))], Ob.gone, Ob.gone, Ob.box [AV.d (D.sl (strsD (Out.p r))), AV.d (D.sl (tdD (Out.t r)))], Ob.gone, Ob.gone])) (
      q (mkB false) [Ob.gh [], Ob.row 1 (strsD u2), Ob.gone, Ob.gone, Ob.gone, Ob.gone, Ob.gone, Ob.gone, Ob.gone, Ob.gone, Ob.gone, Ob.gone, Ob.map (KK.ystrs 2) (sdE sd_1), Ob.map (KK.ystrs 2) (nmE nm_1), Ob.map KK.ystr (vsE vs_1), Ob.box [AV.d (D.sl (strsD us_1)), AV.mp (if 1 < 4 then 12 else 20 + (1 - 4)), AV.mp (if 2 < 4 then 13 else 20 + (2 - 4)), AV.mp (if 3 < 4 then 14 else 20 + (3 - 4))], Ob.gone, Ob.gone, Ob.box [AV.d (D.sl (strsD (Out.p r))), AV.d (D.sl (tdD (Out.t r)))], Ob.gone, Ob.gone]))))) := by kernel_rfl
theorem glv_ok : GSound Tryd.prog GLv := gsound_ref (RSound.frameX cNew2) (gsound_ref (RSound.frameX cActO) (gsound_ref (RSound.frameX cItems) (gsound_ref (RSound.frameX cUsers) gsound_nil)))
def ELives : REnt := fun al o q => al = [] ∧ o = [.gh []] ∧ q (mkB true) [.gh []]
theorem cLives : RSound Tryd.prog 12 ELives := by
  refine ref_gen trimN trimN_ok (code_bsound (c := Tryd.b12) mixed Tryd.K_ok glv_ok) Tryd.K_ok Tryd.func12 rfl rfl Tryd.call12 fun al o q ⟨h1, h2, hq⟩ => ?_
  subst h1 h2
  have fin : ∀ o, trimN q (mkB true) ([.gh []] ++ o) := fun o => ⟨_, [.gh []], LeN.refl _, by simp [leO], by rfl, hq⟩
  refine cast (rLives (trimN q)).symm ⟨rfl, rfl, rfl, t2, [], [], v0 t2, nAnn, nBob, 1, rfl, rfl, fun r hr => ⟨rfl, t2, r.sd, r.nm, r.vs, nAnn, rfl, rfl, rfl, ?_⟩⟩
  have he : r.e = 0 := by rw [← hr]; kernel_rfl
  have hp : r.p = [nAnn] := by rw [← hr]; kernel_rfl
  have ht : r.t = [(nBob, nAnn, 1)] := by rw [← hr]; kernel_rfl
  have hv : verOf r.vs nAnn = 2 := by rw [← hr]; kernel_rfl
  have hi : itemsM t2 r.sd r.nm nAnn = [⟨nBob, ⟨#[]⟩, 0, true⟩] := by rw [← hr]; kernel_rfl
  have hm : memB nAnn t2 = true := by kernel_rfl
  simp only [he, hp, ht, hv, hi, hm, if_true]
  repeat' (first | exact fin _ | (refine bcase_mk (fun _ => ?_) (fun h => absurd h (by decide))) | exact (fun h => absurd h (by decide) : t2 = [] → False) | (intro _) | trivial | rfl | decide | (refine ⟨t2, r.sd, r.nm, r.vs, ?_⟩) | (refine And.intro ?_ ?_))
end Go.Proofs.YtldcalmoboeeiaaDoor
