import Derived.Test.YtldcalmoboeeiaaDoorRosOps
import Derived.Test.YtldcalmoboeeiaaDoorRosNew2
set_option linter.unusedSimpArgs false
set_option linter.unusedVariables false
namespace Go.Proofs.YtldcalmoboeeiaaDoor
open Go Go.AM Go.RowKit
attribute [local irreducible] aCode aUnr aUnS aOut
noncomputable abbrev GB8 : List (FuncId × En) := [(41, .ref (frameX ENew8))]
theorem rBeg8a (q : Kont) :
  (aCode Tryd.K GB8 (piece [[0], [1,0]] Tryd.b13) q ⟨[mkI .i64 8] ++ List.replicate (Tryd.f13.ntmps - 1) .jk, [.gh []]⟩) = (
  (((0 : Int) ≤ (8 : Int)) ∧ ((8 : Int) ≤ ((8 : Nat) : Int))) ∧
  q AX.nor ⟨[mkI IntKind.i64 (8 : Int), AV.jk, AV.d (D.v (Value.pointer Option.none)), AV.nl, AV.vw 1 (Int.toNat (8 : Int)), AV.vw 1 8, mkI IntKind.i64 (8 : Int), AV.vw 1 (Int.toNat (8 : Int)), AV.jk, AV.jk, AV.jk], [Ob.gh [], Ob.row 1 [[D.v (Value.string (⟨#[(97 : UInt8), (110 : UInt8), (110 : UInt8)]⟩ : ByteArray))], [D.v (Value.string (⟨#[(98 : UInt8), (111 : UInt8), (98 : UInt8)]⟩ : ByteArray))], [D.v (Value.string (⟨#[(99 : UInt8), (121 : UInt8)]⟩ : ByteArray))], [D.v (Value.string (⟨#[(100 : UInt8), (101 : UInt8), (101 : UInt8)]⟩ : ByteArray))], [D.v (Value.string (⟨#[(101 : UInt8), (118 : UInt8), (101 : UInt8)]⟩ : ByteArray))], [D.v (Value.string (⟨#[(102 : UInt8), (108 : UInt8), (111 : UInt8)]⟩ : ByteArray))], [D.v (Value.string (⟨#[(103 : UInt8), (117 : UInt8), (115 : UInt8)]⟩ : ByteArray))], [D.v (Value.string (⟨#[(104 : UInt8), (97 : UInt8), (108 : UInt8)]⟩ : ByteArray))]]]⟩) := by kernel_rfl
def stB8 : S := ⟨[mkI .i64 8, .jk, .d (.v (.pointer none)), .nl, mkSS u8] ++ jks 6, [.gh []]⟩
theorem rBeg8b (q : AV → List Ob → Prop) :
  (aCode Tryd.K GB8 (cAt [1,1] Tryd.b13) (kRetF Tryd.K Tryd.f13.results.toList q) stB8) = (
  ([AV.d (D.sl (strsD u8))] = [mkSS u8]) ∧
  ([Ob.gh []] = [Ob.gh []]) ∧
  ((Option.some (Ob.gh [])) = (Option.some (Ob.gh []))) ∧
  q (AV.tp [AV.rf (if 12 < 0 then 0 else 2 + (12 - 0)) 0, AV.d (D.sl (strsD u8))]) [Ob.gh [], Ob.gone, Ob.gone, Ob.gone, Ob.gone, Ob.gone, Ob.gone, Ob.gone, Ob.gone, Ob.gone, Ob.gone, Ob.map (KK.ystrs 2) [], Ob.map (KK.ystrs 2) [], Ob.map KK.ystr [(Key.s (⟨#[(97 : UInt8), (110 : UInt8), (110 : UInt8)]⟩ : ByteArray), mkI IntKind.i64 (1 : Int)), (Key.s (⟨#[(98 : UInt8), (111 : UInt8), (98 : UInt8)]⟩ : ByteArray), mkI IntKind.i64 (1 : Int)), (Key.s (⟨#[(99 : UInt8), (121 : UInt8)]⟩ : ByteArray), mkI IntKind.i64 (1 : Int)), (Key.s (⟨#[(100 : UInt8), (101 : UInt8), (101 : UInt8)]⟩ : ByteArray), mkI IntKind.i64 (1 : Int)), (Key.s (⟨#[(101 : UInt8), (118 : UInt8), (101 : UInt8)]⟩ : ByteArray), mkI IntKind.i64 (1 : Int)), (Key.s (⟨#[(102 : UInt8), (108 : UInt8), (111 : UInt8)]⟩ : ByteArray), mkI IntKind.i64 (1 : Int)), (Key.s (⟨#[(103 : UInt8), (117 : UInt8), (115 : UInt8)]⟩ : ByteArray), mkI IntKind.i64 (1 : Int)), (Key.s (⟨#[(104 : UInt8), (97 : UInt8), (108 : UInt8)]⟩ : ByteArray), mkI IntKind.i64 (1 : Int))], Ob.box [AV.d (D.sl (strsD u8)), AV.mp (if (1 + 8) < 0 then 0 else 2 + ((1 + 8) - 0)), AV.mp (if (1 + 9) < 0 then 0 else 2 + ((1 + 9) - 0)), AV.mp (if (1 + 10) < 0 then 0 else 2 + ((1 + 10) - 0))]]) := by kernel_rfl
/-- A step. -/
structure Op where
  k : Int
  a : Int
  b : Int
  c : Int
  x : BA
/-- A book behind begin. -/
def bkL (us : List BA) (sd : Sds) (nm : Nms) (vs : Vss) : List Ob := List.replicate 10 .gone ++ [.map (.ystrs 2) (sdE sd), .map (.ystrs 2) (nmE nm), .map .ystr (vsE vs), .box [mkSS us, .mp 11, .mp 12, .mp 13]]
theorem code_beg : Tryd.b13 = .seq (cAt [0] Tryd.b13) (.seq (cAt [1,0] Tryd.b13) (cAt [1,1] Tryd.b13)) := by kernel_rfl
theorem gb8x_ok : GSound Tryd.prog GB8 := gsound_ref (RSound.frameX cNew8) gsound_nil
abbrev FB8 (q : Kont) : S → Prop := fun s' => ∃ rs s1, (sealAll rs s').le s1 ∧ aCode Tryd.K GB8 (cAt [1,1] Tryd.b13) q s1
theorem beg8_bs : BSound Tryd.prog Tryd.b13 (fun q s => aCode Tryd.K GB8 (cAt [0] Tryd.b13) (kSeq (aCode Tryd.K GB8 (cAt [1,0] Tryd.b13) (kSeq (FB8 q) q)) q) s) := by
  rw [code_beg]
  exact seq_bsound0 (code_bsound mixed Tryd.K_ok gb8x_ok _) (seq_bsound (code_bsound mixed Tryd.K_ok gb8x_ok _) (code_bsound mixed Tryd.K_ok gb8x_ok _))
def EBegin8 : REnt := fun al o q => al = [mkI .i64 8] ∧ o = [.gh []] ∧ q (.tp [.rf 14 0, mkSS u8]) ([.gh []] ++ bkL u8 [] [] (v0 u8))
theorem cBegin8 : RSound Tryd.prog 13 EBegin8 := by
  refine ref_gen trimN trimN_ok beg8_bs Tryd.K_ok Tryd.func13 rfl rfl Tryd.call13 fun al o q ⟨h1, h2, hq⟩ => ?_
  subst h1 h2
  have fin : aCode Tryd.K GB8 (cAt [1,1] Tryd.b13) (kRetF Tryd.K Tryd.f13.results.toList (trimN q)) stB8 :=
    cast (rBeg8b (trimN q)).symm ⟨rfl, rfl, rfl, _, _, LeN.refl _, by simp [leO, bkL, sdE, nmE, encM, vsE, v0, u8, mkSS, strsD, sK, nAnn, nBob, nCy, nDee, nEve, nFlo, nGus, nHal], by rfl, hq⟩
  generalize kRetF Tryd.K Tryd.f13.results.toList (trimN q) = kq at fin ⊢
  refine code_pair (cast (rBeg8a (kSeq (FB8 kq) kq)).symm ⟨by decide, [1], stB8, ?_, fin⟩)
  simp [S.le, sealAll, S.sealR, stB8, leL, leA, leO, jks, subL, AV.sub, Ob.subO, S.fits, fitsL, AV.fits, Ob.fits, mkSS, mkS, mkI, strsD, u8, nAnn, nBob, nCy, nDee, nEve, nFlo, nGus, nHal]
end Go.Proofs.YtldcalmoboeeiaaDoor
