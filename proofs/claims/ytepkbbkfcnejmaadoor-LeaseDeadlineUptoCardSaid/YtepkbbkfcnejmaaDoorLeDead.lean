import Derived.Test.YtepkbbkfcnejmaaDoorLeT1
import Derived.Test.YtepkbbkfcnejmaaDoorFrame3
set_option linter.unusedSimpArgs false
set_option linter.unusedVariables false
namespace Go.Proofs.YtepkbbkfcnejmaaDoor
open Go Go.AM Go.RowKit
attribute [local irreducible] aUnr aUnS aCode
noncomputable abbrev GD : List (FuncId × En) := [(6, .det FLv), (7, .new ENw), (8, .ref (frameE EStA)), (9, .ref (frameE EGvA)), (10, .ref (frameE ELoA)), (11, .ref (frameE EGtA)), (13, .ref (frameE ERsA)), (14, .ref (frameE ELaA)), (15, .ref (frameE ELnA))]
theorem rDl (long at_ by_ : Int) (q : AV → Prop) :
  (aCode KL GD Tryd.b4 (kRet KL Tryd.f4.results.toList q) ⟨[mkI .i64 long, mkI .i64 at_, mkI .i64 by_] ++ List.replicate (Tryd.f4.ntmps - 3) .jk, []⟩) = (
  True ∧ (
   ∃ (a : Int),
   ∃ (b : Int),
   ([mkI .i64 2, mkI .i64 long] = [mkI .i64 a, mkI .i64 b]) ∧ (
    ∀ (M : Int),
    ∀ (L : Int),
    (M = (lim16 a)) →
    (L = (lim1000 b)) →
    (IntKind.i64 = IntKind.i64) ∧
    (IntKind.i64 = IntKind.i64) ∧
    (((100000 : Int) = (0 : Int)) → False) ∧
    (((2000 : Int) = (0 : Int)) → False) ∧ (
     ∃ (u : ByteArray),
     ∃ (d : ByteArray),
     ∃ (c : Int),
     ∃ (M_1 : Int),
     ∃ (L_1 : Int),
     ([AV.rf 0 0, mkS ⟨#[97, 110, 110]⟩, mkS ⟨#[112, 97, 100]⟩, mkI .i64 7] = [AV.rf 0 0, mkS u, mkS d, mkI .i64 c]) ∧
     ([Ob.box [AV.mp (0 + 1), mkI .i64 0, mkI .i64 M, mkI .i64 L], Ob.map (KK.int IntKind.i64) [], Ob.gh [AV.rf 0 0]] = [Ob.box [AV.mp 1, mkI .i64 0, mkI .i64 M_1, mkI .i64 L_1], Ob.map (KK.int IntKind.i64) [], Ob.gh [AV.rf 0 0]]) ∧
     (((userB u) = true) ∧ (((userB d) = true) ∧ (((0 : Int) ≤ c) ∧ ((0 : Int) < M_1)))) ∧
     ((Option.some (Ob.gh [AV.rf 0 0])) = (Option.some (Ob.gh [AV.rf 0 0]))) ∧ (
      ∃ (u_1 : ByteArray),
      ∃ (d_1 : ByteArray),
      ∃ (t : ByteArray),
      ∃ (c_1 : Int),
      ∃ (dl : Int),
      ∃ (M_2 : Int),
      ∃ (L_2 : Int),
      ([AV.rf 0 0, mkI .i64 1, mkS ⟨#[120]⟩] = [AV.rf 0 0, mkI .i64 1, mkS t]) ∧
      ([Ob.box [AV.mp (0 + 1), mkI .i64 1, mkI .i64 M_1, mkI .i64 L_1], Ob.map (KK.int IntKind.i64) [(Key.i IntKind.i64 (1 : Int), AV.rf ((0 + 1) + 1) 0)], Ob.box [mkI .i64 1, mkS u, mkS d, mkS ⟨#[]⟩, mkI .i64 c, mkI .i64 0], Ob.gh [AV.rf 0 0]] = [Ob.box [AV.mp 1, mkI .i64 1, mkI .i64 M_2, mkI .i64 L_2], Ob.map (KK.int IntKind.i64) [(Key.i IntKind.i64 (1 : Int), AV.rf 2 0)], Ob.box [mkI .i64 1, mkS u_1, mkS d_1, mkS ⟨#[]⟩, mkI .i64 c_1, mkI .i64 dl], Ob.gh [AV.rf 0 0]]) ∧
      (((t = ⟨#[]⟩) → False) ∧ ((c_1 = (-(1 : Int))) → False)) ∧
      ((Option.some (Ob.gh [AV.rf 0 0])) = (Option.some (Ob.gh [AV.rf 0 0]))) ∧ (
       ∃ (u_2 : ByteArray),
       ∃ (d_2 : ByteArray),
       ∃ (tok : ByteArray),
       ∃ (c_2 : Int),
       ∃ (dl_1 : Int),
       ∃ (M_3 : Int),
       ∃ (L_3 : Int),
       ∃ (now : Int),
       ([AV.rf 0 0, mkI .i64 1, mkI .i64 (IntKind.wrap .i64 (Int.tmod (IntKind.wrap .u64 at_) (100000 : Int)))] = [AV.rf 0 0, mkI .i64 1, mkI .i64 now]) ∧
       ([Ob.box [AV.mp (0 + 1), mkI .i64 1, mkI .i64 M_2, mkI .i64 L_2], Ob.map (KK.int IntKind.i64) [(Key.i IntKind.i64 (1 : Int), AV.rf ((0 + 1) + 1) 0)], Ob.box [mkI .i64 1, mkS u_1, mkS d_1, mkS t, mkI .i64 c_1, mkI .i64 dl], Ob.gh [AV.rf 0 0]] = [Ob.box [AV.mp 1, mkI .i64 1, mkI .i64 M_3, mkI .i64 L_3], Ob.map (KK.int IntKind.i64) [(Key.i IntKind.i64 (1 : Int), AV.rf 2 0)], Ob.box [mkI .i64 1, mkS u_2, mkS d_2, mkS tok, mkI .i64 c_2, mkI .i64 dl_1], Ob.gh [AV.rf 0 0]]) ∧
       (((tok = ⟨#[]⟩) → False) ∧ (((c_2 = (-(1 : Int))) → False) ∧ (((0 : Int) ≤ now) ∧ (now ≤ (1099511627776 : Int))))) ∧
       ((Option.some (Ob.gh [AV.rf 0 0])) = (Option.some (Ob.gh [AV.rf 0 0]))) ∧ (
        ∃ (u_3 : ByteArray),
        ∃ (d_3 : ByteArray),
        ∃ (tok_1 : ByteArray),
        ∃ (c_3 : Int),
        ∃ (dl_2 : Int),
        ∃ (M_4 : Int),
        ∃ (L_4 : Int),
        ([AV.rf 0 0, mkI .i64 1] = [AV.rf 0 0, mkI .i64 1]) ∧
        ([Ob.box [AV.mp (0 + 1), mkI .i64 1, mkI .i64 M_3, mkI .i64 L_3], Ob.map (KK.int IntKind.i64) [(Key.i IntKind.i64 (1 : Int), AV.rf ((0 + 1) + 1) 0)], Ob.box [mkI .i64 1, mkS u_2, mkS d_2, mkS tok, mkI .i64 (-(1 : Int)), mkI .i64 (IntKind.wrap .i64 (now + L_3))], Ob.gh [AV.rf 0 0]] = [Ob.box [AV.mp 1, mkI .i64 1, mkI .i64 M_4, mkI .i64 L_4], Ob.map (KK.int IntKind.i64) [(Key.i IntKind.i64 (1 : Int), AV.rf 2 0)], Ob.box [mkI .i64 1, mkS u_3, mkS d_3, mkS tok_1, mkI .i64 c_3, mkI .i64 dl_2], Ob.gh [AV.rf 0 0]]) ∧
        ((Option.some (Ob.gh [AV.rf 0 0])) = (Option.some (Ob.gh [AV.rf 0 0]))) ∧
        bcase (dl_2 != (IntKind.wrap .i64 ((IntKind.wrap .i64 (Int.tmod (IntKind.wrap .u64 at_) (100000 : Int))) + (if (1000 : Int) < (if (1 : Int) > long then (1 : Int) else long) then (1000 : Int) else if (1 : Int) > long then (1 : Int) else long)))) (
         q (mkB false)) (
         bcase (c_3 != (-(1 : Int))) (
          q (mkB false)) (
          bcase (decide ((IntKind.wrap .i64 (Int.tmod (IntKind.wrap .u64 by_) (2000 : Int))) ≥ (if (1000 : Int) < (if (1 : Int) > long then (1 : Int) else long) then (1000 : Int) else if (1 : Int) > long then (1 : Int) else long))) (
           ∃ (u_4 : ByteArray),
           ∃ (d_4 : ByteArray),
           ∃ (tok_2 : ByteArray),
           ∃ (c_4 : Int),
           ∃ (dl_3 : Int),
           ∃ (M_5 : Int),
           ∃ (L_5 : Int),
           ∃ (cn : Int),
           ∃ (now_1 : Int),
           ([AV.rf 0 0, mkS ⟨#[120]⟩, mkI .i64 3, mkI .i64 (IntKind.wrap .i64 ((IntKind.wrap .i64 (Int.tmod (IntKind.wrap .u64 at_) (100000 : Int))) + (IntKind.wrap .i64 (Int.tmod (IntKind.wrap .u64 by_) (2000 : Int)))))] = [AV.rf 0 0, mkS tok_2, mkI .i64 cn, mkI .i64 now_1]) ∧
           ([Ob.box [AV.mp (0 + 1), mkI .i64 1, mkI .i64 M_4, mkI .i64 L_4], Ob.map (KK.int IntKind.i64) [(Key.i IntKind.i64 (1 : Int), AV.rf ((0 + 1) + 1) 0)], Ob.box [mkI .i64 1, mkS u_3, mkS d_3, mkS tok_1, mkI .i64 c_3, mkI .i64 dl_2], Ob.gh [AV.rf 0 0]] = [Ob.box [AV.mp 1, mkI .i64 1, mkI .i64 M_5, mkI .i64 L_5], Ob.map (KK.int IntKind.i64) [(Key.i IntKind.i64 (1 : Int), AV.rf 2 0)], Ob.box [mkI .i64 1, mkS u_4, mkS d_4, mkS tok_2, mkI .i64 c_4, mkI .i64 dl_3], Ob.gh [AV.rf 0 0]]) ∧
           (((tok_2 = ⟨#[]⟩) → False) ∧ (((0 : Int) ≤ cn) ∧ (((0 : Int) ≤ now_1) ∧ ((now_1 ≤ (1099511627776 : Int)) ∧ ((c_4 = cn) → False))))) ∧ (
            ∀ (a_1 : Int),
            ∀ (b_1 : Int),
            ∀ (e : Int),
            ∀ (c' : Int),
            ∀ (dl' : Int),
            ((((c_4 = (-(1 : Int))) ∧ (dl_3 ≤ now_1)) → (a_1 = (0 : Int)) ∧ ((b_1 = (0 : Int)) ∧ ((e = (7 : Int)) ∧ ((c' = c_4) ∧ (dl' = dl_3))))) ∧ ((((c_4 = (-(1 : Int))) ∧ (dl_3 ≤ now_1)) → False) → (a_1 = (1 : Int)) ∧ ((b_1 = c_4) ∧ ((e = (0 : Int)) ∧ ((c' = cn) ∧ (dl' = (0 : Int))))))) →
            ((Option.some (Ob.gh [AV.rf 0 0])) = (Option.some (Ob.gh [AV.rf 0 0]))) ∧ (
             ∃ (u_5 : ByteArray),
             ∃ (d_5 : ByteArray),
             ∃ (tok_3 : ByteArray),
             ∃ (c_5 : Int),
             ∃ (dl_4 : Int),
             ∃ (M_6 : Int),
             ∃ (L_6 : Int),
             ∃ (now_2 : Int),
             ([AV.rf 0 0, mkI .i64 (IntKind.wrap .i64 ((IntKind.wrap .i64 (Int.tmod (IntKind.wrap .u64 at_) (100000 : Int))) + (IntKind.wrap .i64 (Int.tmod (IntKind.wrap .u64 by_) (2000 : Int)))))] = [AV.rf 0 0, mkI .i64 now_2]) ∧
             ([Ob.box [AV.mp (0 + 1), mkI .i64 1, mkI .i64 M_5, mkI .i64 L_5], Ob.map (KK.int IntKind.i64) [(Key.i IntKind.i64 (1 : Int), AV.rf ((0 + 1) + 1) 0)], Ob.box [mkI .i64 1, mkS u_4, mkS d_4, mkS tok_2, mkI .i64 c', mkI .i64 dl'], Ob.gh [AV.rf 0 0]] = [Ob.box [AV.mp 1, mkI .i64 1, mkI .i64 M_6, mkI .i64 L_6], Ob.map (KK.int IntKind.i64) [(Key.i IntKind.i64 (1 : Int), AV.rf 2 0)], Ob.box [mkI .i64 1, mkS u_5, mkS d_5, mkS tok_3, mkI .i64 c_5, mkI .i64 dl_4], Ob.gh [AV.rf 0 0]]) ∧
             (((c_5 = (-(1 : Int))) ∧ (dl_4 ≤ now_2)) → ((Option.some (Ob.gh [AV.rf 0 0])) = (Option.some (Ob.gh [AV.rf 0 0]))) ∧ (∃ (M_7 : Int), ∃ (L_7 : Int), ∃ (now_3 : Int), ([AV.rf 0 0, mkI .i64 (IntKind.wrap .i64 ((IntKind.wrap .i64 (Int.tmod (IntKind.wrap .u64 at_) (100000 : Int))) + (IntKind.wrap .i64 (Int.tmod (IntKind.wrap .u64 by_) (2000 : Int)))))] = [AV.rf 0 0, mkI .i64 now_3]) ∧ (([Ob.box [AV.mp (0 + 1), mkI .i64 1, mkI .i64 M_6, mkI .i64 L_6], Ob.map (KK.int IntKind.i64) [], Ob.gh [AV.rf 0 0]] = [Ob.box [AV.mp 1, mkI .i64 1, mkI .i64 M_7, mkI .i64 L_7], Ob.map (KK.int IntKind.i64) [], Ob.gh [AV.rf 0 0]]) ∧ (((Option.some (Ob.gh [AV.rf 0 0])) = (Option.some (Ob.gh [AV.rf 0 0]))) ∧ (bcase (e == (7 : Int)) ((((0 : Int) ≤ (0 : Int)) ∧ ((0 : Int) < ((1 : Nat) : Int))) ∧ (((Int.toNat (0 : Int)) < 1) ∧ ((((0 : Nat) + (0 : Nat)) ≤ 6) ∧ (((1 : Nat) ≤ 6) ∧ (((D.v (.int IntKind.i64 (1 : Int))) = (D.v (.int IntKind.i64 (intD (D.v (.int IntKind.i64 (1 : Int))))))) ∧ (∃ (M_8 : Int), ∃ (L_8 : Int), ([AV.rf 0 0] = [AV.rf 0 0]) ∧ (([Ob.box [AV.mp (0 + 1), mkI .i64 1, mkI .i64 M_7, mkI .i64 L_7], Ob.map (KK.int IntKind.i64) [], Ob.gh [AV.rf 0 0]] = [Ob.box [AV.mp 1, mkI .i64 1, mkI .i64 M_8, mkI .i64 L_8], Ob.map (KK.int IntKind.i64) [], Ob.gh [AV.rf 0 0]]) ∧ (((Option.some (Ob.gh [AV.rf 0 0])) = (Option.some (Ob.gh [AV.rf 0 0]))) ∧ (q (mkB ((0 : Int) == (0 : Int)))))))))))) (q (mkB false))))))) ∧ (
              (((c_5 = (-(1 : Int))) ∧ (dl_4 ≤ now_2)) → False) →
              ((Option.some (Ob.gh [AV.rf 0 0])) = (Option.some (Ob.gh [AV.rf 0 0]))) ∧ (
               ∃ (u_6 : ByteArray),
               ∃ (d_6 : ByteArray),
               ∃ (tok_4 : ByteArray),
               ∃ (c_6 : Int),
               ∃ (dl_5 : Int),
               ∃ (M_7 : Int),
               ∃ (L_7 : Int),
               ∃ (now_3 : Int),
               ([AV.rf 0 0, mkI .i64 (IntKind.wrap .i64 ((IntKind.wrap .i64 (Int.tmod (IntKind.wrap .u64 at_) (100000 : Int))) + (IntKind.wrap .i64 (Int.tmod (IntKind.wrap .u64 by_) (2000 : Int)))))] = [AV.rf 0 0, mkI .i64 now_3]) ∧
               ([Ob.box [AV.mp (0 + 1), mkI .i64 1, mkI .i64 M_6, mkI .i64 L_6], Ob.map (KK.int IntKind.i64) [(Key.i IntKind.i64 (1 : Int), AV.rf ((0 + 1) + 1) 0)], Ob.box [mkI .i64 1, mkS u_5, mkS d_5, mkS tok_3, mkI .i64 c_5, mkI .i64 dl_4], Ob.gh [AV.rf 0 0]] = [Ob.box [AV.mp 1, mkI .i64 1, mkI .i64 M_7, mkI .i64 L_7], Ob.map (KK.int IntKind.i64) [(Key.i IntKind.i64 (1 : Int), AV.rf 2 0)], Ob.box [mkI .i64 1, mkS u_6, mkS d_6, mkS tok_4, mkI .i64 c_6, mkI .i64 dl_5], Ob.gh [AV.rf 0 0]]) ∧
               (((c_6 = (-(1 : Int))) ∧ (dl_5 ≤ now_3)) → ((Option.some (Ob.gh [AV.rf 0 0])) = (Option.some (Ob.gh [AV.rf 0 0]))) ∧ (bcase (e == (7 : Int)) (q (mkB false)) (q (mkB false)))) ∧ (
                (((c_6 = (-(1 : Int))) ∧ (dl_5 ≤ now_3)) → False) →
                ((Option.some (Ob.gh [AV.rf 0 0])) = (Option.some (Ob.gh [AV.rf 0 0]))) ∧
                bcase (e == (7 : Int)) (
                 q (mkB false)) (
                 q (mkB false)))))))) (
           ∃ (u_4 : ByteArray),
           ∃ (d_4 : ByteArray),
           ∃ (tok_2 : ByteArray),
           ∃ (c_4 : Int),
           ∃ (dl_3 : Int),
           ∃ (M_5 : Int),
           ∃ (L_5 : Int),
           ∃ (now_1 : Int),
           ([AV.rf 0 0, mkI .i64 (IntKind.wrap .i64 ((IntKind.wrap .i64 (Int.tmod (IntKind.wrap .u64 at_) (100000 : Int))) + (IntKind.wrap .i64 (Int.tmod (IntKind.wrap .u64 by_) (2000 : Int)))))] = [AV.rf 0 0, mkI .i64 now_1]) ∧
           ([Ob.box [AV.mp (0 + 1), mkI .i64 1, mkI .i64 M_4, mkI .i64 L_4], Ob.map (KK.int IntKind.i64) [(Key.i IntKind.i64 (1 : Int), AV.rf ((0 + 1) + 1) 0)], Ob.box [mkI .i64 1, mkS u_3, mkS d_3, mkS tok_1, mkI .i64 c_3, mkI .i64 dl_2], Ob.gh [AV.rf 0 0]] = [Ob.box [AV.mp 1, mkI .i64 1, mkI .i64 M_5, mkI .i64 L_5], Ob.map (KK.int IntKind.i64) [(Key.i IntKind.i64 (1 : Int), AV.rf 2 0)], Ob.box [mkI .i64 1, mkS u_4, mkS d_4, mkS tok_2, mkI .i64 c_4, mkI .i64 dl_3], Ob.gh [AV.rf 0 0]]) ∧
           (((c_4 = (-(1 : Int))) ∧ (dl_3 ≤ now_1)) → ((Option.some (Ob.gh [AV.rf 0 0])) = (Option.some (Ob.gh [AV.rf 0 0]))) ∧ (∃ (u_5 : ByteArray), ∃ (d_5 : ByteArray), ∃ (tok_3 : ByteArray), ∃ (c_5 : Int), ∃ (dl_4 : Int), ∃ (M_6 : Int), ∃ (L_6 : Int), ∃ (cn : Int), ∃ (now_2 : Int), ([AV.rf 0 0, mkS ⟨#[120]⟩, mkI .i64 3, mkI .i64 (IntKind.wrap .i64 ((IntKind.wrap .i64 (Int.tmod (IntKind.wrap .u64 at_) (100000 : Int))) + (IntKind.wrap .i64 (Int.tmod (IntKind.wrap .u64 by_) (2000 : Int)))))] = [AV.rf 0 0, mkS tok_3, mkI .i64 cn, mkI .i64 now_2]) ∧ (([Ob.box [AV.mp (0 + 1), mkI .i64 1, mkI .i64 M_5, mkI .i64 L_5], Ob.map (KK.int IntKind.i64) [], Ob.gh [AV.rf 0 0]] = [Ob.box [AV.mp 1, mkI .i64 1, mkI .i64 M_6, mkI .i64 L_6], Ob.map (KK.int IntKind.i64) [(Key.i IntKind.i64 (1 : Int), AV.rf 2 0)], Ob.box [mkI .i64 1, mkS u_5, mkS d_5, mkS tok_3, mkI .i64 c_5, mkI .i64 dl_4], Ob.gh [AV.rf 0 0]]) ∧ ((((tok_3 = ⟨#[]⟩) → False) ∧ (((0 : Int) ≤ cn) ∧ (((0 : Int) ≤ now_2) ∧ ((now_2 ≤ (1099511627776 : Int)) ∧ ((c_5 = cn) → False))))) ∧ (∀ (a_1 : Int), ∀ (b_1 : Int), ∀ (e : Int), ∀ (c' : Int), ∀ (dl' : Int), ((((c_5 = (-(1 : Int))) ∧ (dl_4 ≤ now_2)) → (a_1 = (0 : Int)) ∧ ((b_1 = (0 : Int)) ∧ ((e = (7 : Int)) ∧ ((c' = c_5) ∧ (dl' = dl_4))))) ∧ ((((c_5 = (-(1 : Int))) ∧ (dl_4 ≤ now_2)) → False) → (a_1 = (1 : Int)) ∧ ((b_1 = c_5) ∧ ((e = (0 : Int)) ∧ ((c' = cn) ∧ (dl' = (0 : Int))))))) → ((Option.some (Ob.box [mkI .i64 1, mkS u_5, mkS d_5, mkS tok_3, mkI .i64 c', mkI .i64 dl'])) = (Option.some (Ob.gh [AV.rf 0 0]))) ∧ (∃ (u_6 : ByteArray), ∃ (d_6 : ByteArray), ∃ (tok_4 : ByteArray), ∃ (c_6 : Int), ∃ (dl_5 : Int), ∃ (M_7 : Int), ∃ (L_7 : Int), ∃ (cn_1 : Int), ∃ (now_3 : Int), ([AV.rf 0 0, mkS ⟨#[120]⟩, mkI .i64 4, mkI .i64 (IntKind.wrap .i64 ((IntKind.wrap .i64 ((IntKind.wrap .i64 (Int.tmod (IntKind.wrap .u64 at_) (100000 : Int))) + (IntKind.wrap .i64 (Int.tmod (IntKind.wrap .u64 by_) (2000 : Int))))) + (5000 : Int)))] = [AV.rf 0 0, mkS tok_4, mkI .i64 cn_1, mkI .i64 now_3]) ∧ (([Ob.box [AV.mp (0 + 1), mkI .i64 1, mkI .i64 M_6, mkI .i64 L_6], Ob.map (KK.int IntKind.i64) [(Key.i IntKind.i64 (1 : Int), AV.rf ((0 + 1) + 1) 0)], Ob.box [mkI .i64 1, mkS u_5, mkS d_5, mkS tok_3, mkI .i64 c', mkI .i64 dl'], Ob.gh [AV.rf 0 0]] = [Ob.box [AV.mp 1, mkI .i64 1, mkI .i64 M_7, mkI .i64 L_7], Ob.map (KK.int IntKind.i64) [(Key.i IntKind.i64 (1 : Int), AV.rf 2 0)], Ob.box [mkI .i64 1, mkS u_6, mkS d_6, mkS tok_4, mkI .i64 c_6, mkI .i64 dl_5], Ob.gh [AV.rf 0 0]]) ∧ ((((tok_4 = ⟨#[]⟩) → False) ∧ (((0 : Int) ≤ cn_1) ∧ (((0 : Int) ≤ now_3) ∧ ((now_3 ≤ (1099511627776 : Int)) ∧ ((c_6 = cn_1) → False))))) ∧ (∀ (a_2 : Int), ∀ (b_2 : Int), ∀ (e_1 : Int), ∀ (c'_1 : Int), ∀ (dl'_1 : Int), ((((c_6 = (-(1 : Int))) ∧ (dl_5 ≤ now_3)) → (a_2 = (0 : Int)) ∧ ((b_2 = (0 : Int)) ∧ ((e_1 = (7 : Int)) ∧ ((c'_1 = c_6) ∧ (dl'_1 = dl_5))))) ∧ ((((c_6 = (-(1 : Int))) ∧ (dl_5 ≤ now_3)) → False) → (a_2 = (1 : Int)) ∧ ((b_2 = c_6) ∧ ((e_1 = (0 : Int)) ∧ ((c'_1 = cn_1) ∧ (dl'_1 = (0 : Int))))))) → ((Option.some (Ob.gh [AV.rf 0 0])) = (Option.some (Ob.gh [AV.rf 0 0]))) ∧ (q (mkB false))))))))))) ∧ (
            (((c_4 = (-(1 : Int))) ∧ (dl_3 ≤ now_1)) → False) →
            ((Option.some (Ob.gh [AV.rf 0 0])) = (Option.some (Ob.gh [AV.rf 0 0]))) ∧ (
             ∃ (u_5 : ByteArray),
             ∃ (d_5 : ByteArray),
             ∃ (tok_3 : ByteArray),
             ∃ (c_5 : Int),
             ∃ (dl_4 : Int),
             ∃ (M_6 : Int),
             ∃ (L_6 : Int),
             ∃ (cn : Int),
             ∃ (now_2 : Int),
             ([AV.rf 0 0, mkS ⟨#[120]⟩, mkI .i64 3, mkI .i64 (IntKind.wrap .i64 ((IntKind.wrap .i64 (Int.tmod (IntKind.wrap .u64 at_) (100000 : Int))) + (IntKind.wrap .i64 (Int.tmod (IntKind.wrap .u64 by_) (2000 : Int)))))] = [AV.rf 0 0, mkS tok_3, mkI .i64 cn, mkI .i64 now_2]) ∧
             ([Ob.box [AV.mp (0 + 1), mkI .i64 1, mkI .i64 M_5, mkI .i64 L_5], Ob.map (KK.int IntKind.i64) [(Key.i IntKind.i64 (1 : Int), AV.rf ((0 + 1) + 1) 0)], Ob.box [mkI .i64 1, mkS u_4, mkS d_4, mkS tok_2, mkI .i64 c_4, mkI .i64 dl_3], Ob.gh [AV.rf 0 0]] = [Ob.box [AV.mp 1, mkI .i64 1, mkI .i64 M_6, mkI .i64 L_6], Ob.map (KK.int IntKind.i64) [(Key.i IntKind.i64 (1 : Int), AV.rf 2 0)], Ob.box [mkI .i64 1, mkS u_5, mkS d_5, mkS tok_3, mkI .i64 c_5, mkI .i64 dl_4], Ob.gh [AV.rf 0 0]]) ∧
             (((tok_3 = ⟨#[]⟩) → False) ∧ (((0 : Int) ≤ cn) ∧ (((0 : Int) ≤ now_2) ∧ ((now_2 ≤ (1099511627776 : Int)) ∧ ((c_5 = cn) → False))))) ∧ (
              ∀ (a_1 : Int),
              ∀ (b_1 : Int),
              ∀ (e : Int),
              ∀ (c' : Int),
              ∀ (dl' : Int),
              ((((c_5 = (-(1 : Int))) ∧ (dl_4 ≤ now_2)) → (a_1 = (0 : Int)) ∧ ((b_1 = (0 : Int)) ∧ ((e = (7 : Int)) ∧ ((c' = c_5) ∧ (dl' = dl_4))))) ∧ ((((c_5 = (-(1 : Int))) ∧ (dl_4 ≤ now_2)) → False) → (a_1 = (1 : Int)) ∧ ((b_1 = c_5) ∧ ((e = (0 : Int)) ∧ ((c' = cn) ∧ (dl' = (0 : Int))))))) →
              ((Option.some (Ob.gh [AV.rf 0 0])) = (Option.some (Ob.gh [AV.rf 0 0]))) ∧ (
               ∃ (u_6 : ByteArray),
               ∃ (d_6 : ByteArray),
               ∃ (tok_4 : ByteArray),
               ∃ (c_6 : Int),
               ∃ (dl_5 : Int),
               ∃ (M_7 : Int),
               ∃ (L_7 : Int),
               ∃ (cn_1 : Int),
               ∃ (now_3 : Int),
               ([AV.rf 0 0, mkS ⟨#[120]⟩, mkI .i64 4, mkI .i64 (IntKind.wrap .i64 ((IntKind.wrap .i64 ((IntKind.wrap .i64 (Int.tmod (IntKind.wrap .u64 at_) (100000 : Int))) + (IntKind.wrap .i64 (Int.tmod (IntKind.wrap .u64 by_) (2000 : Int))))) + (5000 : Int)))] = [AV.rf 0 0, mkS tok_4, mkI .i64 cn_1, mkI .i64 now_3]) ∧
               ([Ob.box [AV.mp (0 + 1), mkI .i64 1, mkI .i64 M_6, mkI .i64 L_6], Ob.map (KK.int IntKind.i64) [(Key.i IntKind.i64 (1 : Int), AV.rf ((0 + 1) + 1) 0)], Ob.box [mkI .i64 1, mkS u_5, mkS d_5, mkS tok_3, mkI .i64 c', mkI .i64 dl'], Ob.gh [AV.rf 0 0]] = [Ob.box [AV.mp 1, mkI .i64 1, mkI .i64 M_7, mkI .i64 L_7], Ob.map (KK.int IntKind.i64) [(Key.i IntKind.i64 (1 : Int), AV.rf 2 0)], Ob.box [mkI .i64 1, mkS u_6, mkS d_6, mkS tok_4, mkI .i64 c_6, mkI .i64 dl_5], Ob.gh [AV.rf 0 0]]) ∧
               (((tok_4 = ⟨#[]⟩) → False) ∧ (((0 : Int) ≤ cn_1) ∧ (((0 : Int) ≤ now_3) ∧ ((now_3 ≤ (1099511627776 : Int)) ∧ ((c_6 = cn_1) → False))))) ∧ (
                ∀ (a_2 : Int),
                ∀ (b_2 : Int),
                ∀ (e_1 : Int),
                ∀ (c'_1 : Int),
                ∀ (dl'_1 : Int),
                ((((c_6 = (-(1 : Int))) ∧ (dl_5 ≤ now_3)) → (a_2 = (0 : Int)) ∧ ((b_2 = (0 : Int)) ∧ ((e_1 = (7 : Int)) ∧ ((c'_1 = c_6) ∧ (dl'_1 = dl_5))))) ∧ ((((c_6 = (-(1 : Int))) ∧ (dl_5 ≤ now_3)) → False) → (a_2 = (1 : Int)) ∧ ((b_2 = c_6) ∧ ((e_1 = (0 : Int)) ∧ ((c'_1 = cn_1) ∧ (dl'_1 = (0 : Int))))))) →
                ((Option.some (Ob.gh [AV.rf 0 0])) = (Option.some (Ob.gh [AV.rf 0 0]))) ∧
                bcase (a_1 == (1 : Int)) (
                 bcase (b_1 == (-(1 : Int))) (
                  bcase (e == (0 : Int)) (
                   bcase (a_2 == (1 : Int)) (
                    bcase (b_2 == (3 : Int)) (
                     q (mkB (e_1 == (0 : Int)))) (
                     q (mkB false))) (
                    q (mkB false))) (
                   q (mkB false))) (
                  q (mkB false))) (
                 q (mkB false))))))))))))))))) := by kernel_rfl
theorem mod_lt (a m : Int) (h : 0 < m) (h2 : m ≤ 1000000) : 0 ≤ IntKind.wrap .i64 (Int.tmod (IntKind.wrap .u64 a) m) ∧ IntKind.wrap .i64 (Int.tmod (IntKind.wrap .u64 a) m) < m := by
  have h0 : 0 ≤ IntKind.wrap .u64 a := by rw [IntKind.wrap_u64]; omega
  have h1 := Int.tmod_nonneg m h0
  have h3 := Int.tmod_lt_of_pos (IntKind.wrap .u64 a) h
  rw [IntWalk.i64_in _ (by omega)]
  exact ⟨h1, h3⟩
theorem lim_in (b : Int) : 1 ≤ lim1000 b ∧ lim1000 b ≤ 1000 := by
  unfold lim1000
  repeat' split
  all_goals omega
def FDl : List AV → Option (Prop × AV) := fun al => match al with
  | [.d (.v (.int .i64 long)), .d (.v (.int .i64 a)), .d (.v (.int .i64 b))] => some (True, mkB true)
  | _ => none
theorem cDl : PSound Tryd.prog 4 (detE FDl) := by
  refine det_fn (c := Tryd.b4) mixed KL_ok (gsound_det cLv (gsound_new cNw (gsound_ref (RSound.frame cStA) (gsound_ref (RSound.frame cGvA) (gsound_ref (RSound.frame cLoA) (gsound_ref (RSound.frame cGtA) (gsound_ref (RSound.frame cRsA) (gsound_ref (RSound.frame cLaA) (gsound_ref (RSound.frame cLnA) gsound_nil))))))))) Tryd.func4 rfl rfl Tryd.call4 fun al p r q hF hp hq => ?_
  unfold FDl at hF; split at hF <;> cases hF
  rename_i long at_ by_
  refine cast (rDl long at_ by_ q).symm ?_
  have hX := mod_lt at_ 100000 (by omega) (by omega)
  have hY := mod_lt by_ 2000 (by omega) (by omega)
  have hL0 := lim_in long
  generalize IntKind.wrap .i64 (Int.tmod (IntKind.wrap .u64 at_) 100000) = X at *
  generalize IntKind.wrap .i64 (Int.tmod (IntKind.wrap .u64 by_) 2000) = Y at *
  have hZ : IntKind.wrap .i64 (X + Y) = X + Y := IntWalk.i64_in _ (by omega)
  generalize IntKind.wrap .i64 (X + Y) = Z at *
  have hW : IntKind.wrap .i64 (Z + 5000) = Z + 5000 := IntWalk.i64_in _ (by omega)
  generalize IntKind.wrap .i64 (Z + 5000) = W at *
  generalize hE : (if (1000 : Int) < (if (1 : Int) > long then (1 : Int) else long) then (1000 : Int) else (if (1 : Int) > long then (1 : Int) else long)) = Lx at *
  refine ⟨trivial, _, _, rfl, fun M L hM hL => ⟨rfl, rfl, by decide, by decide, ?_⟩⟩
  have hE : lim1000 long = Lx := hE
  rw [hE] at hL hL0
  subst hL
  have hXL : IntKind.wrap .i64 (X + L) = X + L := IntWalk.i64_in _ (by omega)
  have hM2 : M = 2 := hM
  refine ⟨_, _, _, _, _, rfl, rfl, ⟨by decide +kernel, by decide +kernel, by omega, by omega⟩, rfl, ?_⟩
  refine ⟨_, _, _, _, _, _, _, rfl, rfl, ⟨by decide, by omega⟩, rfl, ?_⟩
  refine ⟨_, _, _, _, _, _, _, _, rfl, rfl, ⟨by decide, by omega, hX.1, by omega⟩, rfl, ?_⟩
  refine ⟨_, _, _, _, _, _, _, rfl, rfl, rfl, bcaseF (by simp) (bcaseF (by decide) (bcase_dec (fun hge => ?_) (fun hge => ?_)))⟩
  · refine ⟨_, _, _, _, _, _, _, _, _, rfl, rfl, ⟨by decide, by omega, by omega, by omega, by omega⟩, fun a b e c' dl' hr => ?_⟩
    have hl : (-1 : Int) = -1 ∧ IntKind.wrap .i64 (X + L) ≤ Z := ⟨rfl, by omega⟩
    obtain ⟨rfl, rfl, rfl, rfl, rfl⟩ := hr.1 hl
    refine ⟨rfl, ?_⟩
    refine ⟨_, _, _, _, _, _, _, _, rfl, rfl, fun _ => ⟨rfl, ?_⟩, fun h => absurd hl h⟩
    exact ⟨_, _, _, rfl, rfl, rfl, bcaseT (by decide) ⟨⟨by omega, by omega⟩, by decide, by omega, by omega, rfl, _, _, rfl, rfl, rfl, hq⟩⟩
  · have hl : ¬ ((-1 : Int) = -1 ∧ IntKind.wrap .i64 (X + L) ≤ Z) := fun h => by omega
    refine ⟨_, _, _, _, _, _, _, _, rfl, rfl, fun h => absurd h hl, fun _ => ⟨rfl, ?_⟩⟩
    refine ⟨_, _, _, _, _, _, _, _, _, rfl, rfl, ⟨by decide, by omega, by omega, by omega, by omega⟩, fun a b e c' dl' hr => ?_⟩
    obtain ⟨rfl, rfl, rfl, rfl, rfl⟩ := hr.2 hl
    refine ⟨rfl, ?_⟩
    refine ⟨_, _, _, _, _, _, _, _, _, rfl, rfl, ⟨by decide, by omega, by omega, by omega, by omega⟩, fun a2 b2 e2 c2 dl2 hr2 => ?_⟩
    obtain ⟨rfl, rfl, rfl, rfl, rfl⟩ := hr2.2 (fun h => by have := h.1; omega)
    refine ⟨rfl, ?_⟩
    exact bcaseT rfl (bcaseT rfl (bcaseT rfl (bcaseT rfl (bcaseT rfl hq))))
theorem tyargs3 {P : Program} {t u v : TypeId} : ∀ {as' : List AV}, TyArgs P [t, u, v] as' → ∃ a b c, as' = [a, b, c] ∧ TyArg P t a ∧ TyArg P u b ∧ TyArg P v c
  | [], h => h.elim
  | [_], h => h.2.elim
  | [_, _], h => h.2.2.elim
  | [a, b, c], h => ⟨a, b, c, rfl, h.1, h.2.1, h.2.2.1⟩
  | _ :: _ :: _ :: _ :: _, h => h.2.2.2.elim
theorem hDl : ∀ as', TyArgs Tryd.prog Tryd.f4.params.toList as' → ∃ p, FDl as' = some (p, mkB true) ∧ p := by
  intro as' h
  rw [Tryd.params4] at h
  obtain ⟨a, b, c, rfl, ha, hb, hc⟩ := tyargs3 h
  obtain ⟨x, rfl, hx⟩ := arg_int Tryd.underlying3 ha
  obtain ⟨y, rfl, hy⟩ := arg_int Tryd.underlying3 hb
  obtain ⟨z, rfl, hz⟩ := arg_int Tryd.underlying3 hc
  exact ⟨_, rfl, trivial⟩
end Go.Proofs.YtepkbbkfcnejmaaDoor
