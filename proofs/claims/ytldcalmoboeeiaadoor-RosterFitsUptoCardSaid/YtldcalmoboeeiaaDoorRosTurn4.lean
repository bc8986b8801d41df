import Derived.Test.YtldcalmoboeeiaaDoorRosSort
import Derived.Test.YtldcalmoboeeiaaDoorRosEq
import Derived.Test.YtldcalmoboeeiaaDoorAmPart
set_option linter.unusedSimpArgs false
set_option linter.unusedVariables false
namespace Go.Proofs.YtldcalmoboeeiaaDoor
open Go Go.AM Go.RowKit
attribute [local irreducible] aCode aUnr aUnS aOut
/-- The map `was` is told by a term. -/
noncomputable abbrev K2 : TypeId → Option TK := symK Tryd.K [127]
noncomputable abbrev GT0 : List (FuncId × En) := [(70, .ref (frameV ESort2)), (63, .det FEq), (43, .ref (frameX EItems0))]
noncomputable abbrev GT : List (FuncId × En) := inlΓS K2 GT0 tabI 3 2
/-- What turn sees when Name calls it. -/
def clN : AV := .fn (.func 52) [] [.rf 4 0, .rf 5 0, .rf 6 0, .rf 7 0]
def boN (us : List BA) (sd : Sds) (nm : Nms) (vs : Vss) (x u c : BA) : List Ob := [.box [mkSS us, .mp 1, .mp 2, .mp 3], .map (.ystrs 2) (sdE sd), .map (.ystrs 2) (nmE nm), .map .ystr (vsE vs), .box [mkS x], .box [.rf 0 0], .box [mkS u], .box [mkS c], .gh [.rf 0 0, .rf 4 0, .rf 5 0, .rf 6 0, .rf 7 0, .mp 1, .mp 2, .mp 3, .rf 0 0]]
def wasE (w : List (BA × List It)) : List (Key × AV) := encM sK (fun l => AV.d (.sl (itsD l))) w
def row2 (a b : BA) : Ob := .row 1 [[.v (.string a)], [.v (.string b)]]
theorem rNa (us : List BA) (sd : Sds) (nm : Nms) (vs : Vss) (x u c : BA) (k : Kont) :
  (aUnS K2 GT 3 (piece [[0], [1,0], [1,1,0], [1,1,1,0]] Tryd.b47) k ⟨[.rf 0 0, mkS u, mkS c, clN] ++ List.replicate (Tryd.f47.ntmps - 4) .jk, boN us sd nm vs x u c⟩) = (
  ∃ (a : ByteArray),
  ∃ (b : ByteArray),
  ([AV.vw 0 2] = [AV.vw 0 2]) ∧
  ([Ob.row 1 [[D.v (.string u)], [D.v (.string c)]], Ob.gh [AV.vw 0 2]] = [Ob.row 1 [[D.v (.string a)], [D.v (.string b)]], Ob.gh [AV.vw 0 2]]) ∧
  ((Option.some (Ob.gh [AV.vw 0 2])) = (Option.some (Ob.gh [AV.vw 0 2]))) ∧
  (2 = 2) ∧
  k AX.nor ⟨[AV.rf 0 0, mkS u, mkS c, AV.fn (Fn.func 52) [] [AV.rf 4 0, AV.rf 5 0, AV.rf 6 0, AV.rf 7 0], AV.jk, AV.jk, AV.jk, AV.jk, AV.rf 9 0, AV.vw 10 2, AV.mp 13, AV.jk, AV.jk, AV.jk, AV.jk, AV.jk, mkS u, mkS c, AV.vw 10 2, AV.vw 10 2, AV.tp [], AV.mp 13, AV.jk, AV.jk, AV.jk, AV.jk, AV.jk, AV.jk, AV.jk, AV.jk, AV.jk, AV.jk, AV.jk, AV.jk, AV.jk, AV.jk, AV.jk, AV.jk, AV.jk, AV.jk, AV.jk, AV.jk, AV.jk, AV.jk, AV.jk, AV.jk, AV.jk, AV.jk, AV.jk, AV.jk, AV.jk, AV.jk, AV.jk, AV.jk, AV.jk, AV.jk, AV.jk, AV.jk, AV.jk, AV.jk, AV.jk, AV.jk, AV.jk, AV.jk, AV.jk, AV.jk], [Ob.box [AV.d (.sl (strsD us)), AV.mp 1, AV.mp 2, AV.mp 3], Ob.map (KK.ystrs 2) (sdE sd), Ob.map (KK.ystrs 2) (nmE nm), Ob.map KK.ystr (vsE vs), Ob.box [mkS x], Ob.box [AV.rf 0 0], Ob.box [mkS u], Ob.box [mkS c], Ob.gh [AV.rf 0 0, AV.rf 4 0, AV.rf 5 0, AV.rf 6 0, AV.rf 7 0, AV.mp 1, AV.mp 2, AV.mp 3, AV.rf 0 0], Ob.box [AV.nl, AV.nl], Ob.row 1 [[D.v (.string (loB a b))], [D.v (.string (hiB a b))]], Ob.gone, Ob.gone, Ob.map KK.ystr []]⟩) := by kernel_rfl
def stN1 (us : List BA) (sd : Sds) (nm : Nms) (vs : Vss) (x u c a b : BA) : S := ⟨[.rf 0 0, mkS u, mkS c, clN] ++ jks 4 ++ [.rf 9 0, .vw 10 2, .mp 13] ++ jks 5 ++ [mkS u, mkS c, .vw 10 2, .vw 10 2, .tp [], .mp 13] ++ jks 44, boN us sd nm vs x u c ++ [.box [.nl, .nl], row2 a b, .gone, .gone, .map .ystr []]⟩
theorem rNb (us : List BA) (sd : Sds) (nm : Nms) (vs : Vss) (x u c a b : BA) (k : Kont) :
  (aUnS K2 GT 3 (piece [[1,1,1,1,0]] Tryd.b47) k (stN1 us sd nm vs x u c a b)) = (
  (((0 : Int) ≤ (0 : Int)) ∧ ((0 : Int) < ((2 : Nat) : Int))) ∧
  ((Int.toNat (0 : Int)) < 2) ∧
  ((0 : Nat) ≤ 1) ∧
  ((1 : Nat) ≤ 1) ∧
  ((D.v (.string a)) = (D.v (.string (strD (D.v (.string a)))))) ∧ (
   ∃ (us_1 : List BA),
   ∃ (sd_1 : Sds),
   ∃ (nm_1 : Nms),
   ∃ (vs_1 : Vss),
   ∃ (u_1 : ByteArray),
   ([AV.rf 0 0, mkS (strD (D.v (.string a)))] = [AV.rf 0 0, mkS u_1]) ∧
   ([Ob.box [AV.d (.sl (strsD us)), AV.mp (0 + 1), AV.mp ((0 + 1) + 1), AV.mp (((0 + 1) + 1) + 1)], Ob.map (KK.ystrs 2) (sdE sd), Ob.map (KK.ystrs 2) (nmE nm), Ob.map KK.ystr (vsE vs), Ob.gh [AV.rf 0 0, AV.mp (0 + 1), AV.mp ((0 + 1) + 1), AV.mp (((0 + 1) + 1) + 1)]] = [Ob.box [mkSS us_1, AV.mp 1, AV.mp 2, AV.mp 3], Ob.map (KK.ystrs 2) (sdE sd_1), Ob.map (KK.ystrs 2) (nmE nm_1), Ob.map KK.ystr (vsE vs_1), Ob.gh [AV.rf 0 0, AV.mp 1, AV.mp 2, AV.mp 3]]) ∧
   ((Option.some (Ob.gh [AV.rf 0 0, AV.mp 1, AV.mp 2, AV.mp 3])) = (Option.some (Ob.gh [AV.rf 0 0, AV.mp (0 + 1), AV.mp ((0 + 1) + 1), AV.mp (((0 + 1) + 1) + 1)]))) ∧
   (((0 : Int) ≤ (IntKind.wrap .i64 ((0 : Int) + (1 : Int)))) ∧ ((IntKind.wrap .i64 ((0 : Int) + (1 : Int))) < ((2 : Nat) : Int))) ∧
   ((Int.toNat (IntKind.wrap .i64 ((0 : Int) + (1 : Int)))) < 2) ∧
   ((0 : Nat) ≤ 1) ∧
   ((1 : Nat) ≤ 1) ∧
   ((D.v (.string b)) = (D.v (.string (strD (D.v (.string b)))))) ∧ (
    ∃ (us_2 : List BA),
    ∃ (sd_2 : Sds),
    ∃ (nm_2 : Nms),
    ∃ (vs_2 : Vss),
    ∃ (u_2 : ByteArray),
    ([AV.rf 0 0, mkS (strD (D.v (.string b)))] = [AV.rf 0 0, mkS u_2]) ∧
    ([Ob.box [AV.d (.sl (strsD us_1)), AV.mp (0 + 1), AV.mp ((0 + 1) + 1), AV.mp (((0 + 1) + 1) + 1)], Ob.map (KK.ystrs 2) (sdE sd_1), Ob.map (KK.ystrs 2) (nmE nm_1), Ob.map KK.ystr (vsE vs_1), Ob.gh [AV.rf 0 0, AV.mp (0 + 1), AV.mp ((0 + 1) + 1), AV.mp (((0 + 1) + 1) + 1)]] = [Ob.box [mkSS us_2, AV.mp 1, AV.mp 2, AV.mp 3], Ob.map (KK.ystrs 2) (sdE sd_2), Ob.map (KK.ystrs 2) (nmE nm_2), Ob.map KK.ystr (vsE vs_2), Ob.gh [AV.rf 0 0, AV.mp 1, AV.mp 2, AV.mp 3]]) ∧
    ((Option.some (Ob.gh [AV.rf 0 0, AV.mp 1, AV.mp 2, AV.mp 3])) = (Option.some (Ob.gh [AV.rf 0 0, AV.mp (0 + 1), AV.mp ((0 + 1) + 1), AV.mp (((0 + 1) + 1) + 1)]))) ∧
    k AX.nor ⟨[AV.rf 0 0, mkS u, mkS c, AV.fn (Fn.func 52) [] [AV.rf 4 0, AV.rf 5 0, AV.rf 6 0, AV.rf 7 0], AV.jk, AV.jk, AV.jk, AV.jk, AV.rf 9 0, AV.vw 10 2, AV.mp 13, AV.jk, mkS (strD (D.v (.string b))), AV.jk, AV.jk, AV.jk, mkS u, mkS c, AV.vw 10 2, AV.vw 10 2, AV.tp [], AV.mp 13, AV.vw 10 2, mkI .i64 ((2 : Nat) : Int), mkI .i64 (IntKind.wrap .i64 ((IntKind.wrap .i64 ((0 : Int) + (1 : Int))) + (1 : Int))), mkB false, AV.rp 10 1 (Int.toNat (IntKind.wrap .i64 ((0 : Int) + (1 : Int)))) 0, mkS (strD (D.v (.string b))), AV.mp 13, mkS (strD (D.v (.string b))), AV.rf 0 0, mkS (strD (D.v (.string b))), AV.d (.sl (itsD (itemsM us_2 sd_2 nm_2 u_2))), mkI .i64 (IntKind.wrap .i64 ((IntKind.wrap .i64 ((0 : Int) + (1 : Int))) + (1 : Int))), AV.jk, AV.jk, AV.jk, AV.jk, AV.jk, AV.jk, AV.jk, AV.jk, AV.jk, AV.jk, AV.jk, AV.jk, AV.jk, AV.jk, AV.jk, AV.jk, AV.jk, AV.jk, AV.jk, AV.jk, AV.jk, AV.jk, AV.jk, AV.jk, AV.jk, AV.jk, AV.jk, AV.jk, AV.jk, AV.jk, AV.jk, AV.jk], [Ob.box [AV.d (.sl (strsD us_2)), AV.mp (if 1 < 4 then 1 else 17 + (1 - 4)), AV.mp (if 2 < 4 then 2 else 17 + (2 - 4)), AV.mp (if 3 < 4 then 3 else 17 + (3 - 4))], Ob.map (KK.ystrs 2) (sdE sd_2), Ob.map (KK.ystrs 2) (nmE nm_2), Ob.map KK.ystr (vsE vs_2), Ob.box [mkS x], Ob.box [AV.rf 0 0], Ob.box [mkS u], Ob.box [mkS c], Ob.gh [AV.rf 0 0, AV.rf 4 0, AV.rf 5 0, AV.rf 6 0, AV.rf 7 0, AV.mp 1, AV.mp 2, AV.mp 3, AV.rf 0 0], Ob.box [AV.nl, AV.nl], Ob.row 1 [[D.v (.string a)], [D.v (.string b)]], Ob.gone, Ob.gone, Ob.map KK.ystr (setKeyA (Key.s (strD (D.v (.string b)))) (AV.d (.sl (itsD (itemsM us_2 sd_2 nm_2 u_2)))) (setKeyA (Key.s (strD (D.v (.string a)))) (AV.d (.sl (itsD (itemsM us_1 sd_1 nm_1 u_1)))) [])), Ob.gone, Ob.gone, Ob.gone, Ob.gone]⟩))) := by kernel_rfl
def stN2 (us : List BA) (sd : Sds) (nm : Nms) (vs : Vss) (x u c a b : BA) (l : List It) (w : List (BA × List It)) : S := ⟨[.rf 0 0, mkS u, mkS c, clN] ++ jks 4 ++ [.rf 9 0, .vw 10 2, .mp 13, .jk, mkS b] ++ jks 3 ++ [mkS u, mkS c, .vw 10 2, .vw 10 2, .tp [], .mp 13, .vw 10 2, mkI .i64 2, mkI .i64 2, mkB false, .rp 10 1 1 0, mkS b, .mp 13, mkS b, .rf 0 0, mkS b, .d (.sl (itsD l)), mkI .i64 2] ++ jks 32, boN us sd nm vs x u c ++ [.box [.nl, .nl], row2 a b, .gone, .gone, .map .ystr (wasE w), .gone, .gone, .gone, .gone]⟩
theorem rNd (us : List BA) (sd : Sds) (nm : Nms) (vs : Vss) (x u c a b : BA) (l : List It) (w : List (BA × List It)) (k : Kont) :
  (aUnS K2 GT 3 (piece [[1,1,1,1,1,0], [1,1,1,1,1,1,0,0]] Tryd.b47) k (stN2 us sd nm vs x u c a b l w)) = (
  k AX.nor ⟨[AV.rf 0 0, mkS u, mkS c, AV.fn (Fn.func 52) [] [AV.rf 4 0, AV.rf 5 0, AV.rf 6 0, AV.rf 7 0], AV.jk, AV.jk, AV.jk, AV.jk, AV.rf 9 0, AV.vw 10 2, AV.mp 13, AV.jk, mkS b, AV.rf 19 0, AV.jk, AV.jk, mkS u, mkS c, AV.vw 10 2, AV.vw 10 2, AV.tp [], AV.mp 13, AV.vw 10 2, mkI .i64 (2 : Int), mkI .i64 (2 : Int), mkB false, AV.rp 10 1 1 0, mkS b, AV.mp 13, mkS b, AV.rf 0 0, mkS b, AV.d (.sl (itsD l)), mkI .i64 (2 : Int), AV.fn (Fn.func 52) [] [AV.rf 4 0, AV.rf 5 0, AV.rf 6 0, AV.rf 7 0], AV.nl, AV.ag [AV.nl, AV.nl], AV.vw 10 2, mkI .i64 ((2 : Nat) : Int), mkI .i64 (0 : Int), AV.jk, AV.jk, AV.jk, AV.jk, AV.jk, AV.jk, AV.jk, AV.jk, AV.jk, AV.jk, AV.jk, AV.jk, AV.jk, AV.jk, AV.jk, AV.jk, AV.jk, AV.jk, AV.jk, AV.jk, AV.jk, AV.jk, AV.jk, AV.jk, AV.jk, AV.jk], [Ob.box [mkSS us, AV.mp 1, AV.mp 2, AV.mp 3], Ob.map (KK.ystrs 2) (sdE sd), Ob.map (KK.ystrs 2) (setKeyA (Key.ss [u, c]) (mkS x) (nmE nm)), Ob.map KK.ystr (vsE vs), Ob.box [mkS x], Ob.box [AV.rf 0 0], Ob.box [mkS u], Ob.box [mkS c], Ob.gh [AV.rf 0 0, AV.rf 4 0, AV.rf 5 0, AV.rf 6 0, AV.rf 7 0, AV.mp 1, AV.mp 2, AV.mp 3, AV.rf 0 0], Ob.box [AV.nl, AV.nl], Ob.row 1 [[D.v (.string a)], [D.v (.string b)]], Ob.gone, Ob.gone, Ob.map KK.ystr (wasE w), Ob.gone, Ob.gone, Ob.gone, Ob.gone, Ob.gone, Ob.box [AV.nl, AV.nl]]⟩) := by kernel_rfl
def stN3 (us : List BA) (sd : Sds) (nm : Nms) (vs : Vss) (x u c a b : BA) (l : List It) (w : List (BA × List It)) : S := ⟨[.rf 0 0, mkS u, mkS c, clN] ++ jks 4 ++ [.rf 9 0, .vw 10 2, .mp 13, .jk, mkS b, .rf 19 0] ++ jks 2 ++ [mkS u, mkS c, .vw 10 2, .vw 10 2, .tp [], .mp 13, .vw 10 2, mkI .i64 2, mkI .i64 2, mkB false, .rp 10 1 1 0, mkS b, .mp 13, mkS b, .rf 0 0, mkS b, .d (.sl (itsD l)), mkI .i64 2, clN, .nl, .ag [.nl, .nl], .vw 10 2, mkI .i64 2, mkI .i64 0] ++ jks 26, boN us sd nm vs x u c ++ [.box [.nl, .nl], row2 a b, .gone, .gone, .map .ystr (wasE w), .gone, .gone, .gone, .gone, .gone, .box [.nl, .nl]]⟩
theorem rNe (us : List BA) (sd : Sds) (nm : Nms) (vs : Vss) (x u c a b : BA) (l : List It) (w : List (BA × List It)) (k : Kont) :
  (aUnS K2 GT 3 (cAt [1,1,1,1,1,1,0,1,0,0] Tryd.b47) k (stN3 us sd nm vs x u c a b l w)) = (
  (((0 : Int) ≤ (0 : Int)) ∧ ((0 : Int) < ((2 : Nat) : Int))) ∧
  ((Int.toNat (0 : Int)) < 2) ∧
  ((0 : Nat) ≤ 1) ∧
  ((1 : Nat) ≤ 1) ∧
  ((D.v (.string a)) = (D.v (.string (strD (D.v (.string a)))))) ∧
  (∃ (es : List (List D)), ((getO (Key.s (strD (D.v (.string a)))) (wasE w) AV.nl) = (AV.d (.sl es))) ∧ (∃ (us_1 : List BA), ∃ (sd_1 : Sds), ∃ (nm_1 : Nms), ∃ (vs_1 : Vss), ∃ (u_1 : ByteArray), ([AV.rf 0 0, mkS (strD (D.v (.string a)))] = [AV.rf 0 0, mkS u_1]) ∧ (([Ob.box [AV.d (.sl (strsD us)), AV.mp (0 + 1), AV.mp ((0 + 1) + 1), AV.mp (((0 + 1) + 1) + 1)], Ob.map (KK.ystrs 2) (sdE sd), Ob.map (KK.ystrs 2) (nmE nm), Ob.map KK.ystr (vsE vs), Ob.gh [AV.rf 0 0, AV.mp (0 + 1), AV.mp ((0 + 1) + 1), AV.mp (((0 + 1) + 1) + 1)]] = [Ob.box [mkSS us_1, AV.mp 1, AV.mp 2, AV.mp 3], Ob.map (KK.ystrs 2) (sdE sd_1), Ob.map (KK.ystrs 2) (nmE nm_1), Ob.map KK.ystr (vsE vs_1), Ob.gh [AV.rf 0 0, AV.mp 1, AV.mp 2, AV.mp 3]]) ∧ (((Option.some (Ob.gh [AV.rf 0 0, AV.mp 1, AV.mp 2, AV.mp 3])) = (Option.some (Ob.gh [AV.rf 0 0, AV.mp (0 + 1), AV.mp ((0 + 1) + 1), AV.mp (((0 + 1) + 1) + 1)]))) ∧ (((es = (itsD (unIts es))) ∧ ((itsD (itemsM us_1 sd_1 nm_1 u_1)) = (itsD (unIts (itsD (itemsM us_1 sd_1 nm_1 u_1)))))) ∧ (bcase (!(decide ((unIts es) = (unIts (itsD (itemsM us_1 sd_1 nm_1 u_1)))))) (∃ (n : Int), ((getO (Key.s (strD (D.v (.string a)))) (vsE vs_1) (mkI .i64 (0 : Int))) = (mkI .i64 n)) ∧ ((∀ (c_1 : List D), (c_1 ∈ [[D.v (.string (strD (D.v (.string a))))]]) → (List.length c_1) = 1) ∧ ((1 ≤ LIM) ∧ (k AX.nor ⟨[AV.rf 0 0, mkS u, mkS c, AV.fn (Fn.func 52) [] [AV.rf 4 0, AV.rf 5 0, AV.rf 6 0, AV.rf 7 0], AV.jk, AV.jk, AV.jk, AV.jk, AV.rf 9 0, AV.vw 10 2, AV.mp 13, AV.jk, mkS b, AV.rf 19 0, AV.jk, mkS (strD (D.v (.string a))), mkS u, mkS c, AV.vw 10 2, AV.vw 10 2, AV.tp [], AV.mp 13, AV.vw 10 2, mkI .i64 (2 : Int), mkI .i64 (2 : Int), mkB false, AV.rp 10 1 1 0, mkS b, AV.mp 13, mkS b, AV.rf 0 0, mkS b, AV.d (.sl (itsD l)), mkI .i64 (2 : Int), AV.fn (Fn.func 52) [] [AV.rf 4 0, AV.rf 5 0, AV.rf 6 0, AV.rf 7 0], AV.nl, AV.ag [AV.nl, AV.nl], AV.vw 10 2, mkI .i64 (2 : Int), mkI .i64 (IntKind.wrap .i64 ((0 : Int) + (1 : Int))), mkB true, AV.rp 10 1 (Int.toNat (0 : Int)) 0, mkS (strD (D.v (.string a))), AV.mp 13, mkS (strD (D.v (.string a))), AV.d (.sl es), AV.rf 0 0, mkS (strD (D.v (.string a))), AV.d (.sl (itsD (itemsM us_1 sd_1 nm_1 u_1))), mkB (decide ((unIts es) = (unIts (itsD (itemsM us_1 sd_1 nm_1 u_1))))), mkB true, AV.rf 0 0, AV.rf 0 0, AV.rf 0 (0 + 3), AV.mp (if 3 < 4 then 3 else 21 + (3 - 4)), mkS (strD (D.v (.string a))), mkI .i64 n, mkI .i64 (IntKind.wrap .i64 (n + (1 : Int))), AV.rf 19 (0 + 0), AV.nl, mkS (strD (D.v (.string a))), AV.vw 22 1, AV.vw 23 1, AV.rf 19 (0 + 0), mkI .i64 (IntKind.wrap .i64 ((0 : Int) + (1 : Int))), AV.jk], [Ob.box [AV.d (.sl (strsD us_1)), AV.mp (if 1 < 4 then 1 else 21 + (1 - 4)), AV.mp (if 2 < 4 then 2 else 21 + (2 - 4)), AV.mp (if 3 < 4 then 3 else 21 + (3 - 4))], Ob.map (KK.ystrs 2) (sdE sd_1), Ob.map (KK.ystrs 2) (nmE nm_1), Ob.map KK.ystr (setKeyA (Key.s (strD (D.v (.string a)))) (mkI .i64 (IntKind.wrap .i64 (n + (1 : Int)))) (vsE vs_1)), Ob.box [mkS x], Ob.box [AV.rf 0 0], Ob.box [mkS u], Ob.box [mkS c], Ob.gh [AV.rf 0 0, AV.rf 4 0, AV.rf 5 0, AV.rf 6 0, AV.rf 7 0, AV.mp 1, AV.mp 2, AV.mp 3, AV.rf 0 0], Ob.box [AV.nl, AV.nl], Ob.row 1 [[D.v (.string a)], [D.v (.string b)]], Ob.gone, Ob.gone, Ob.map KK.ystr (wasE w), Ob.gone, Ob.gone, Ob.gone, Ob.gone, Ob.gone, Ob.box [AV.vw 23 1, AV.nl], Ob.gone, Ob.gone, Ob.row 1 [[D.v (.string (strD (D.v (.string a))))]], Ob.row 1 [[D.v (.string (strD (D.v (.string a))))]]]⟩)))) (k AX.nor ⟨[AV.rf 0 0, mkS u, mkS c, AV.fn (Fn.func 52) [] [AV.rf 4 0, AV.rf 5 0, AV.rf 6 0, AV.rf 7 0], AV.jk, AV.jk, AV.jk, AV.jk, AV.rf 9 0, AV.vw 10 2, AV.mp 13, AV.jk, mkS b, AV.rf 19 0, AV.jk, mkS (strD (D.v (.string a))), mkS u, mkS c, AV.vw 10 2, AV.vw 10 2, AV.tp [], AV.mp 13, AV.vw 10 2, mkI .i64 (2 : Int), mkI .i64 (2 : Int), mkB false, AV.rp 10 1 1 0, mkS b, AV.mp 13, mkS b, AV.rf 0 0, mkS b, AV.d (.sl (itsD l)), mkI .i64 (2 : Int), AV.fn (Fn.func 52) [] [AV.rf 4 0, AV.rf 5 0, AV.rf 6 0, AV.rf 7 0], AV.nl, AV.ag [AV.nl, AV.nl], AV.vw 10 2, mkI .i64 (2 : Int), mkI .i64 (IntKind.wrap .i64 ((0 : Int) + (1 : Int))), mkB true, AV.rp 10 1 (Int.toNat (0 : Int)) 0, mkS (strD (D.v (.string a))), AV.mp 13, mkS (strD (D.v (.string a))), AV.d (.sl es), AV.rf 0 0, mkS (strD (D.v (.string a))), AV.d (.sl (itsD (itemsM us_1 sd_1 nm_1 u_1))), mkB (decide ((unIts es) = (unIts (itsD (itemsM us_1 sd_1 nm_1 u_1))))), mkB false, AV.jk, AV.jk, AV.jk, AV.jk, AV.jk, AV.jk, AV.jk, AV.jk, AV.jk, AV.jk, AV.jk, AV.jk, AV.jk, mkI .i64 (IntKind.wrap .i64 ((0 : Int) + (1 : Int))), AV.jk], [Ob.box [AV.d (.sl (strsD us_1)), AV.mp (if 1 < 4 then 1 else 21 + (1 - 4)), AV.mp (if 2 < 4 then 2 else 21 + (2 - 4)), AV.mp (if 3 < 4 then 3 else 21 + (3 - 4))], Ob.map (KK.ystrs 2) (sdE sd_1), Ob.map (KK.ystrs 2) (nmE nm_1), Ob.map KK.ystr (vsE vs_1), Ob.box [mkS x], Ob.box [AV.rf 0 0], Ob.box [mkS u], Ob.box [mkS c], Ob.gh [AV.rf 0 0, AV.rf 4 0, AV.rf 5 0, AV.rf 6 0, AV.rf 7 0, AV.mp 1, AV.mp 2, AV.mp 3, AV.rf 0 0], Ob.box [AV.nl, AV.nl], Ob.row 1 [[D.v (.string a)], [D.v (.string b)]], Ob.gone, Ob.gone, Ob.map KK.ystr (wasE w), Ob.gone, Ob.gone, Ob.gone, Ob.gone, Ob.gone, Ob.box [AV.nl, AV.nl], Ob.gone, Ob.gone]⟩))))))) ∧ (
   ∃ (us_1 : List BA),
   ∃ (sd_1 : Sds),
   ∃ (nm_1 : Nms),
   ∃ (vs_1 : Vss),
   ∃ (u_1 : ByteArray),
   ([AV.rf 0 0, mkS (strD (D.v (.string a)))] = [AV.rf 0 0, mkS u_1]) ∧
   ([Ob.box [AV.d (.sl (strsD us)), AV.mp (0 + 1), AV.mp ((0 + 1) + 1), AV.mp (((0 + 1) + 1) + 1)], Ob.map (KK.ystrs 2) (sdE sd), Ob.map (KK.ystrs 2) (nmE nm), Ob.map KK.ystr (vsE vs), Ob.gh [AV.rf 0 0, AV.mp (0 + 1), AV.mp ((0 + 1) + 1), AV.mp (((0 + 1) + 1) + 1)]] = [Ob.box [mkSS us_1, AV.mp 1, AV.mp 2, AV.mp 3], Ob.map (KK.ystrs 2) (sdE sd_1), Ob.map (KK.ystrs 2) (nmE nm_1), Ob.map KK.ystr (vsE vs_1), Ob.gh [AV.rf 0 0, AV.mp 1, AV.mp 2, AV.mp 3]]) ∧
   ((Option.some (Ob.gh [AV.rf 0 0, AV.mp 1, AV.mp 2, AV.mp 3])) = (Option.some (Ob.gh [AV.rf 0 0, AV.mp (0 + 1), AV.mp ((0 + 1) + 1), AV.mp (((0 + 1) + 1) + 1)]))) ∧ (
    ∃ (es : List (List D)),
    ((getO (Key.s (strD (D.v (.string a)))) (wasE w) AV.nl) = (AV.d (.sl es))) ∧
    ((es = (itsD (unIts es))) ∧ ((itsD (itemsM us_1 sd_1 nm_1 u_1)) = (itsD (unIts (itsD (itemsM us_1 sd_1 nm_1 u_1)))))) ∧
    bcase (!(decide ((unIts es) = (unIts (itsD (itemsM us_1 sd_1 nm_1 u_1)))))) (
     ∃ (n : Int),
     ((getO (Key.s (strD (D.v (.string a)))) (vsE vs_1) (mkI .i64 (0 : Int))) = (mkI .i64 n)) ∧
     (∀ (c_1 : List D), (c_1 ∈ [[D.v (.string (strD (D.v (.string a))))]]) → (List.length c_1) = 1) ∧
     (1 ≤ LIM) ∧
     k AX.nor ⟨[AV.rf 0 0, mkS u, mkS c, AV.fn (Fn.func 52) [] [AV.rf 4 0, AV.rf 5 0, AV.rf 6 0, AV.rf 7 0], AV.jk, AV.jk, AV.jk, AV.jk, AV.rf 9 0, AV.vw 10 2, AV.mp 13, AV.jk, mkS b, AV.rf 19 0, AV.jk, mkS (strD (D.v (.string a))), mkS u, mkS c, AV.vw 10 2, AV.vw 10 2, AV.tp [], AV.mp 13, AV.vw 10 2, mkI .i64 (2 : Int), mkI .i64 (2 : Int), mkB false, AV.rp 10 1 1 0, mkS b, AV.mp 13, mkS b, AV.rf 0 0, mkS b, AV.d (.sl (itsD l)), mkI .i64 (2 : Int), AV.fn (Fn.func 52) [] [AV.rf 4 0, AV.rf 5 0, AV.rf 6 0, AV.rf 7 0], AV.nl, AV.ag [AV.nl, AV.nl], AV.vw 10 2, mkI .i64 (2 : Int), mkI .i64 (IntKind.wrap .i64 ((0 : Int) + (1 : Int))), mkB true, AV.rp 10 1 (Int.toNat (0 : Int)) 0, mkS (strD (D.v (.string a))), AV.mp 13, mkS (strD (D.v (.string a))), AV.d (.sl es), AV.rf 0 0, mkS (strD (D.v (.string a))), AV.d (.sl (itsD (itemsM us_1 sd_1 nm_1 u_1))), mkB (decide ((unIts es) = (unIts (itsD (itemsM us_1 sd_1 nm_1 u_1))))), mkB true, AV.rf 0 0, AV.rf 0 0, AV.rf 0 (0 + 3), AV.mp (if 3 < 4 then 3 else 21 + (3 - 4)), mkS (strD (D.v (.string a))), mkI .i64 n, mkI .i64 (IntKind.wrap .i64 (n + (1 : Int))), AV.rf 19 (0 + 0), AV.nl, mkS (strD (D.v (.string a))), AV.vw 22 1, AV.vw 23 1, AV.rf 19 (0 + 0), mkI .i64 (IntKind.wrap .i64 ((0 : Int) + (1 : Int))), AV.jk], [Ob.box [AV.d (.sl (strsD us_1)), AV.mp (if 1 < 4 then 1 else 21 + (1 - 4)), AV.mp (if 2 < 4 then 2 else 21 + (2 - 4)), AV.mp (if 3 < 4 then 3 else 21 + (3 - 4))], Ob.map (KK.ystrs 2) (sdE sd_1), Ob.map (KK.ystrs 2) (nmE nm_1), Ob.map KK.ystr (setKeyA (Key.s (strD (D.v (.string a)))) (mkI .i64 (IntKind.wrap .i64 (n + (1 : Int)))) (vsE vs_1)), Ob.box [mkS x], Ob.box [AV.rf 0 0], Ob.box [mkS u], Ob.box [mkS c], Ob.gh [AV.rf 0 0, AV.rf 4 0, AV.rf 5 0, AV.rf 6 0, AV.rf 7 0, AV.mp 1, AV.mp 2, AV.mp 3, AV.rf 0 0], Ob.box [AV.nl, AV.nl], Ob.row 1 [[D.v (.string a)], [D.v (.string b)]], Ob.gone, Ob.gone, Ob.map KK.ystr (wasE w), Ob.gone, Ob.gone, Ob.gone, Ob.gone, Ob.gone, Ob.box [AV.vw 23 1, AV.nl], Ob.gone, Ob.gone, Ob.row 1 [[D.v (.string (strD (D.v (.string a))))]], Ob.row 1 [[D.v (.string (strD (D.v (.string a))))]]]⟩) (
     k AX.nor ⟨[AV.rf 0 0, mkS u, mkS c, AV.fn (Fn.func 52) [] [AV.rf 4 0, AV.rf 5 0, AV.rf 6 0, AV.rf 7 0], AV.jk, AV.jk, AV.jk, AV.jk, AV.rf 9 0, AV.vw 10 2, AV.mp 13, AV.jk, mkS b, AV.rf 19 0, AV.jk, mkS (strD (D.v (.string a))), mkS u, mkS c, AV.vw 10 2, AV.vw 10 2, AV.tp [], AV.mp 13, AV.vw 10 2, mkI .i64 (2 : Int), mkI .i64 (2 : Int), mkB false, AV.rp 10 1 1 0, mkS b, AV.mp 13, mkS b, AV.rf 0 0, mkS b, AV.d (.sl (itsD l)), mkI .i64 (2 : Int), AV.fn (Fn.func 52) [] [AV.rf 4 0, AV.rf 5 0, AV.rf 6 0, AV.rf 7 0], AV.nl, AV.ag [AV.nl, AV.nl], AV.vw 10 2, mkI .i64 (2 : Int), mkI .i64 (IntKind.wrap .i64 ((0 : Int) + (1 : Int))), mkB true, AV.rp 10 1 (Int.toNat (0 : Int)) 0, mkS (strD (D.v (.string a))), AV.mp 13, mkS (strD (D.v (.string a))), AV.d (.sl es), AV.rf 0 0, mkS (strD (D.v (.string a))), AV.d (.sl (itsD (itemsM us_1 sd_1 nm_1 u_1))), mkB (decide ((unIts es) = (unIts (itsD (itemsM us_1 sd_1 nm_1 u_1))))), mkB false, AV.jk, AV.jk, AV.jk, AV.jk, AV.jk, AV.jk, AV.jk, AV.jk, AV.jk, AV.jk, AV.jk, AV.jk, AV.jk, mkI .i64 (IntKind.wrap .i64 ((0 : Int) + (1 : Int))), AV.jk], [Ob.box [AV.d (.sl (strsD us_1)), AV.mp (if 1 < 4 then 1 else 21 + (1 - 4)), AV.mp (if 2 < 4 then 2 else 21 + (2 - 4)), AV.mp (if 3 < 4 then 3 else 21 + (3 - 4))], Ob.map (KK.ystrs 2) (sdE sd_1), Ob.map (KK.ystrs 2) (nmE nm_1), Ob.map KK.ystr (vsE vs_1), Ob.box [mkS x], Ob.box [AV.rf 0 0], Ob.box [mkS u], Ob.box [mkS c], Ob.gh [AV.rf 0 0, AV.rf 4 0, AV.rf 5 0, AV.rf 6 0, AV.rf 7 0, AV.mp 1, AV.mp 2, AV.mp 3, AV.rf 0 0], Ob.box [AV.nl, AV.nl], Ob.row 1 [[D.v (.string a)], [D.v (.string b)]], Ob.gone, Ob.gone, Ob.map KK.ystr (wasE w), Ob.gone, Ob.gone, Ob.gone, Ob.gone, Ob.gone, Ob.box [AV.nl, AV.nl], Ob.gone, Ob.gone]⟩)))) := by kernel_rfl
theorem gt0_ok : GSound Tryd.prog GT0 := gsound_ref (RSound.frameV cSort2) (gsound_det cEq (gsound_ref (RSound.frameX cItems0) gsound_nil))
theorem k2_ok : KOk Tryd.prog K2 := symK_ok Tryd.K_ok [127]
theorem gt_ok : GSound Tryd.prog GT := inlS_sound mixed k2_ok gt0_ok tabI_ok 2
theorem was_set (w : List (BA × List It)) (u : BA) (l : List It) : setKeyA (Key.s u) (.d (.sl (itsD l))) (wasE w) = wasE (aset u l w) := enc_set (ve := fun l => AV.d (.sl (itsD l))) sK_inj u l w
theorem ww1 : IntKind.wrap .i64 ((0 : Int) + (1 : Int)) = 1 := by decide
theorem ww2 : IntKind.wrap .i64 ((1 : Int) + (1 : Int)) = 2 := by decide
theorem pNa {us : List BA} {sd : Sds} {nm : Nms} {vs : Vss} {x u c : BA} {k : Kont} (h : k .nor (stN1 us sd nm vs x u c (loB u c) (hiB u c))) : aUnS K2 GT 3 (piece [[0], [1,0], [1,1,0], [1,1,1,0]] Tryd.b47) k ⟨[.rf 0 0, mkS u, mkS c, clN] ++ List.replicate (Tryd.f47.ntmps - 4) .jk, boN us sd nm vs x u c⟩ :=
  cast (rNa us sd nm vs x u c k).symm ⟨u, c, rfl, rfl, rfl, rfl, h⟩
theorem pNb {us : List BA} {sd : Sds} {nm : Nms} {vs : Vss} {x u c a b : BA} {k : Kont} (h : k .nor (stN2 us sd nm vs x u c a b (itemsM us sd nm b) (aset b (itemsM us sd nm b) (aset a (itemsM us sd nm a) [])))) : aUnS K2 GT 3 (piece [[1,1,1,1,0]] Tryd.b47) k (stN1 us sd nm vs x u c a b) := by
  refine cast (rNb us sd nm vs x u c a b k).symm ?_
  have e0 : ([] : List (Key × AV)) = wasE [] := rfl
  have ea : strD (D.v (.string a)) = a := rfl
  have eb : strD (D.v (.string b)) = b := rfl
  simp only [ww1, ww2, ea, eb]
  refine ⟨by decide, by decide, by decide, by decide, trivial, us, sd, nm, vs, a, rfl, rfl, trivial, by decide, by decide, by decide, by decide, trivial, us, sd, nm, vs, b, rfl, rfl, trivial, ?_⟩
  rw [e0, was_set, was_set]
  exact h
theorem pNd {us : List BA} {sd : Sds} {nm : Nms} {vs : Vss} {x u c a b : BA} {l : List It} {w : List (BA × List It)} {k : Kont} (h : k .nor (stN3 us sd (aset (u, c) x nm) vs x u c a b l w)) : aUnS K2 GT 3 (piece [[1,1,1,1,1,0], [1,1,1,1,1,1,0,0]] Tryd.b47) k (stN2 us sd nm vs x u c a b l w) := by
  refine cast (rNd us sd nm vs x u c a b l w k).symm ?_
  rw [nm_set]
  exact h
end Go.Proofs.YtldcalmoboeeiaaDoor

namespace Go.Proofs.YtldcalmoboeeiaaDoor
open Go Go.AM Go.RowKit
attribute [local irreducible] aCode aUnr aUnS aOut
/-- The slots that turn's second loop does not write, and (z) those that it does. -/
def slN (u c a b y : BA) (l : List It) (i : Int) (z : List AV) : List AV := [.rf 0 0, mkS u, mkS c, clN] ++ jks 4 ++ [.rf 9 0, .vw 10 2, .mp 13, .jk, mkS b, .rf 19 0, .jk, mkS y, mkS u, mkS c, .vw 10 2, .vw 10 2, .tp [], .mp 13, .vw 10 2, mkI .i64 2, mkI .i64 2, mkB false, .rp 10 1 1 0, mkS b, .mp 13, mkS b, .rf 0 0, mkS b, .d (.sl (itsD l)), mkI .i64 2, clN, .nl, .ag [.nl, .nl], .vw 10 2, mkI .i64 2, mkI .i64 i] ++ z
/-- Behind the first turn of the loop: with a push. -/
def stN4 (us : List BA) (sd : Sds) (nm : Nms) (vs : Vss) (x u c a b : BA) (l : List It) (w : List (BA × List It)) (es et : List (List D)) (d : Bool) (n0 n1 : Int) : S := ⟨slN u c a b a l 1 [mkB true, .rp 10 1 0 0, mkS a, .mp 13, mkS a, .d (.sl es), .rf 0 0, mkS a, .d (.sl et), mkB d, mkB true, .rf 0 0, .rf 0 0, .rf 0 3, .mp 3, mkS a, mkI .i64 n0, mkI .i64 n1, .rf 19 0, .nl, mkS a, .vw 22 1, .vw 23 1, .rf 19 0, mkI .i64 1, .jk], boN us sd nm vs x u c ++ [.box [.nl, .nl], row2 a b, .gone, .gone, .map .ystr (wasE w), .gone, .gone, .gone, .gone, .gone, .box [.vw 23 1, .nl], .gone, .gone, .row 1 [[.v (.string a)]], .row 1 [[.v (.string a)]]]⟩
/-- Behind the first turn of the loop: with none. -/
def stN5 (us : List BA) (sd : Sds) (nm : Nms) (vs : Vss) (x u c a b : BA) (l : List It) (w : List (BA × List It)) (es et : List (List D)) (d : Bool) : S := ⟨slN u c a b a l 1 ([mkB true, .rp 10 1 0 0, mkS a, .mp 13, mkS a, .d (.sl es), .rf 0 0, mkS a, .d (.sl et), mkB d, mkB false] ++ jks 13 ++ [mkI .i64 1, .jk]), boN us sd nm vs x u c ++ [.box [.nl, .nl], row2 a b, .gone, .gone, .map .ystr (wasE w), .gone, .gone, .gone, .gone, .gone, .box [.nl, .nl], .gone, .gone]⟩
theorem was_get {w : List (BA × List It)} {a : BA} {l : List It} (h : alk a w = some l) : getO (Key.s a) (wasE w) AV.nl = .d (.sl (itsD l)) := by
  show ((findKeyA (sK a) (encM sK (fun l => AV.d (.sl (itsD l))) w)).getD AV.nl) = _
  rw [enc_find sK_inj, h]
  rfl
/-- A version, one further. -/
def bump (vs : Vss) (a : BA) : Vss := aset a (IntKind.wrap .i64 (verOf vs a + 1)) vs
theorem pNe {us : List BA} {sd : Sds} {nm : Nms} {vs : Vss} {x u c a b : BA} {l la : List It} {w : List (BA × List It)} {k : Kont} (ha : alk a w = some la)
    (h1 : ¬ la = itemsM us sd nm a → k .nor (stN4 us sd nm (bump vs a) x u c a b l w (itsD la) (itsD (itemsM us sd nm a)) (decide (la = itemsM us sd nm a)) (verOf vs a) (IntKind.wrap .i64 (verOf vs a + 1))))
    (h2 : la = itemsM us sd nm a → k .nor (stN5 us sd nm vs x u c a b l w (itsD la) (itsD (itemsM us sd nm a)) (decide (la = itemsM us sd nm a)))) :
    aUnS K2 GT 3 (cAt [1,1,1,1,1,1,0,1,0,0] Tryd.b47) k (stN3 us sd nm vs x u c a b l w) := by
  refine cast (rNe us sd nm vs x u c a b l w k).symm ?_
  have g := was_get ha
  have v := vs_get vs a
  have ea : strD (D.v (.string a)) = a := rfl
  simp only [ww1, ea]
  refine ⟨by decide, by decide, by decide, by decide, trivial, ⟨_, g, us, sd, nm, vs, a, rfl, rfl, trivial, ⟨by rw [unIts_its], by rw [unIts_its]⟩, ?_⟩, us, sd, nm, vs, a, rfl, rfl, trivial, _, g, ⟨by rw [unIts_its], by rw [unIts_its]⟩, ?_⟩
  all_goals
    simp only [unIts_its]
    refine bcase_mk (fun h => ⟨_, v, by simp, by decide, ?_⟩) (fun h => ?_)
    · rw [vs_set]
      exact h1 (by simpa using h)
    · exact h2 (by simpa using h)
end Go.Proofs.YtldcalmoboeeiaaDoor

namespace Go.Proofs.YtldcalmoboeeiaaDoor
open Go Go.AM Go.RowKit
attribute [local irreducible] aCode aUnr aUnS aOut
theorem rNf (us : List BA) (sd : Sds) (nm : Nms) (vs : Vss) (x u c a b : BA) (l : List It) (w : List (BA × List It)) (es et : List (List D)) (d : Bool) (n0 n1 : Int) (k : Kont) :
  (aUnS K2 GT 3 (cAt [1,1,1,1,1,1,0,1,0,0] Tryd.b47) k (stN4 us sd nm vs x u c a b l w es et d n0 n1)) = (
  (((0 : Int) ≤ (1 : Int)) ∧ ((1 : Int) < ((2 : Nat) : Int))) ∧
  ((Int.toNat (1 : Int)) < 2) ∧
  ((0 : Nat) ≤ 1) ∧
  ((1 : Nat) ≤ 1) ∧
  ((D.v (.string b)) = (D.v (.string (strD (D.v (.string b)))))) ∧
  (∃ (es_1 : List (List D)), ((getO (Key.s (strD (D.v (.string b)))) (wasE w) AV.nl) = (AV.d (.sl es_1))) ∧ (∃ (us_1 : List BA), ∃ (sd_1 : Sds), ∃ (nm_1 : Nms), ∃ (vs_1 : Vss), ∃ (u_1 : ByteArray), ([AV.rf 0 0, mkS (strD (D.v (.string b)))] = [AV.rf 0 0, mkS u_1]) ∧ (([Ob.box [AV.d (.sl (strsD us)), AV.mp (0 + 1), AV.mp ((0 + 1) + 1), AV.mp (((0 + 1) + 1) + 1)], Ob.map (KK.ystrs 2) (sdE sd), Ob.map (KK.ystrs 2) (nmE nm), Ob.map KK.ystr (vsE vs), Ob.gh [AV.rf 0 0, AV.mp (0 + 1), AV.mp ((0 + 1) + 1), AV.mp (((0 + 1) + 1) + 1)]] = [Ob.box [mkSS us_1, AV.mp 1, AV.mp 2, AV.mp 3], Ob.map (KK.ystrs 2) (sdE sd_1), Ob.map (KK.ystrs 2) (nmE nm_1), Ob.map KK.ystr (vsE vs_1), Ob.gh [AV.rf 0 0, AV.mp 1, AV.mp 2, AV.mp 3]]) ∧ (((Option.some (Ob.gh [AV.rf 0 0, AV.mp 1, AV.mp 2, AV.mp 3])) = (Option.some (Ob.gh [AV.rf 0 0, AV.mp (0 + 1), AV.mp ((0 + 1) + 1), AV.mp (((0 + 1) + 1) + 1)]))) ∧ (((es_1 = (itsD (unIts es_1))) ∧ ((itsD (itemsM us_1 sd_1 nm_1 u_1)) = (itsD (unIts (itsD (itemsM us_1 sd_1 nm_1 u_1)))))) ∧ (bcase (!(decide ((unIts es_1) = (unIts (itsD (itemsM us_1 sd_1 nm_1 u_1)))))) (∃ (n : Int), ((getO (Key.s (strD (D.v (.string b)))) (vsE vs_1) (mkI .i64 (0 : Int))) = (mkI .i64 n)) ∧ ((∀ (c_1 : List D), (c_1 ∈ [[D.v (.string (strD (D.v (.string b))))]]) → (List.length c_1) = 1) ∧ (((1 : Nat) = 1) ∧ (((1 + 1) ≤ LIM) ∧ (k AX.nor ⟨[AV.rf 0 0, mkS u, mkS c, AV.fn (Fn.func 52) [] [AV.rf 4 0, AV.rf 5 0, AV.rf 6 0, AV.rf 7 0], AV.jk, AV.jk, AV.jk, AV.jk, AV.rf 9 0, AV.vw 10 2, AV.mp 13, AV.jk, mkS b, AV.rf 19 0, AV.jk, mkS (strD (D.v (.string b))), mkS u, mkS c, AV.vw 10 2, AV.vw 10 2, AV.tp [], AV.mp 13, AV.vw 10 2, mkI .i64 (2 : Int), mkI .i64 (2 : Int), mkB false, AV.rp 10 1 1 0, mkS b, AV.mp 13, mkS b, AV.rf 0 0, mkS b, AV.d (.sl (itsD l)), mkI .i64 (2 : Int), AV.fn (Fn.func 52) [] [AV.rf 4 0, AV.rf 5 0, AV.rf 6 0, AV.rf 7 0], AV.nl, AV.ag [AV.nl, AV.nl], AV.vw 10 2, mkI .i64 (2 : Int), mkI .i64 (IntKind.wrap .i64 ((1 : Int) + (1 : Int))), mkB true, AV.rp 10 1 (Int.toNat (1 : Int)) 0, mkS (strD (D.v (.string b))), AV.mp 13, mkS (strD (D.v (.string b))), AV.d (.sl es_1), AV.rf 0 0, mkS (strD (D.v (.string b))), AV.d (.sl (itsD (itemsM us_1 sd_1 nm_1 u_1))), mkB (decide ((unIts es_1) = (unIts (itsD (itemsM us_1 sd_1 nm_1 u_1))))), mkB true, AV.rf 0 0, AV.rf 0 0, AV.rf 0 (0 + 3), AV.mp (if 3 < 4 then 3 else 25 + (3 - 4)), mkS (strD (D.v (.string b))), mkI .i64 n, mkI .i64 (IntKind.wrap .i64 (n + (1 : Int))), AV.rf 19 (0 + 0), AV.jk, mkS (strD (D.v (.string b))), AV.vw 26 1, AV.vw 23 (1 + 1), AV.rf 19 (0 + 0), mkI .i64 (IntKind.wrap .i64 ((1 : Int) + (1 : Int))), AV.jk], [Ob.box [AV.d (.sl (strsD us_1)), AV.mp (if 1 < 4 then 1 else 25 + (1 - 4)), AV.mp (if 2 < 4 then 2 else 25 + (2 - 4)), AV.mp (if 3 < 4 then 3 else 25 + (3 - 4))], Ob.map (KK.ystrs 2) (sdE sd_1), Ob.map (KK.ystrs 2) (nmE nm_1), Ob.map KK.ystr (setKeyA (Key.s (strD (D.v (.string b)))) (mkI .i64 (IntKind.wrap .i64 (n + (1 : Int)))) (vsE vs_1)), Ob.box [mkS x], Ob.box [AV.rf 0 0], Ob.box [mkS u], Ob.box [mkS c], Ob.gh [AV.rf 0 0, AV.rf 4 0, AV.rf 5 0, AV.rf 6 0, AV.rf 7 0, AV.mp 1, AV.mp 2, AV.mp 3, AV.rf 0 0], Ob.box [AV.nl, AV.nl], Ob.row 1 [[D.v (.string a)], [D.v (.string b)]], Ob.gone, Ob.gone, Ob.map KK.ystr (wasE w), Ob.gone, Ob.gone, Ob.gone, Ob.gone, Ob.gone, Ob.box [AV.vw 23 (1 + 1), AV.nl], Ob.gone, Ob.gone, Ob.row 1 [[D.v (.string a)]], Ob.row 1 [[D.v (.string a)], [D.v (.string (strD (D.v (.string b))))]], Ob.gone, Ob.gone, Ob.row 1 [[D.v (.string (strD (D.v (.string b))))]]]⟩))))) (k AX.nor ⟨[AV.rf 0 0, mkS u, mkS c, AV.fn (Fn.func 52) [] [AV.rf 4 0, AV.rf 5 0, AV.rf 6 0, AV.rf 7 0], AV.jk, AV.jk, AV.jk, AV.jk, AV.rf 9 0, AV.vw 10 2, AV.mp 13, AV.jk, mkS b, AV.rf 19 0, AV.jk, mkS (strD (D.v (.string b))), mkS u, mkS c, AV.vw 10 2, AV.vw 10 2, AV.tp [], AV.mp 13, AV.vw 10 2, mkI .i64 (2 : Int), mkI .i64 (2 : Int), mkB false, AV.rp 10 1 1 0, mkS b, AV.mp 13, mkS b, AV.rf 0 0, mkS b, AV.d (.sl (itsD l)), mkI .i64 (2 : Int), AV.fn (Fn.func 52) [] [AV.rf 4 0, AV.rf 5 0, AV.rf 6 0, AV.rf 7 0], AV.nl, AV.ag [AV.nl, AV.nl], AV.vw 10 2, mkI .i64 (2 : Int), mkI .i64 (IntKind.wrap .i64 ((1 : Int) + (1 : Int))), mkB true, AV.rp 10 1 (Int.toNat (1 : Int)) 0, mkS (strD (D.v (.string b))), AV.mp 13, mkS (strD (D.v (.string b))), AV.d (.sl es_1), AV.rf 0 0, mkS (strD (D.v (.string b))), AV.d (.sl (itsD (itemsM us_1 sd_1 nm_1 u_1))), mkB (decide ((unIts es_1) = (unIts (itsD (itemsM us_1 sd_1 nm_1 u_1))))), mkB false, AV.rf 0 0, AV.rf 0 0, AV.rf 0 3, AV.mp 3, mkS a, mkI .i64 n0, mkI .i64 n1, AV.rf 19 0, AV.nl, mkS a, AV.vw 22 1, AV.vw 23 1, AV.rf 19 0, mkI .i64 (IntKind.wrap .i64 ((1 : Int) + (1 : Int))), AV.jk], [Ob.box [AV.d (.sl (strsD us_1)), AV.mp (if 1 < 4 then 1 else 25 + (1 - 4)), AV.mp (if 2 < 4 then 2 else 25 + (2 - 4)), AV.mp (if 3 < 4 then 3 else 25 + (3 - 4))], Ob.map (KK.ystrs 2) (sdE sd_1), Ob.map (KK.ystrs 2) (nmE nm_1), Ob.map KK.ystr (vsE vs_1), Ob.box [mkS x], Ob.box [AV.rf 0 0], Ob.box [mkS u], Ob.box [mkS c], Ob.gh [AV.rf 0 0, AV.rf 4 0, AV.rf 5 0, AV.rf 6 0, AV.rf 7 0, AV.mp 1, AV.mp 2, AV.mp 3, AV.rf 0 0], Ob.box [AV.nl, AV.nl], Ob.row 1 [[D.v (.string a)], [D.v (.string b)]], Ob.gone, Ob.gone, Ob.map KK.ystr (wasE w), Ob.gone, Ob.gone, Ob.gone, Ob.gone, Ob.gone, Ob.box [AV.vw 23 1, AV.nl], Ob.gone, Ob.gone, Ob.row 1 [[D.v (.string a)]], Ob.row 1 [[D.v (.string a)]], Ob.gone, Ob.gone]⟩))))))) ∧ (
   ∃ (us_1 : List BA),
   ∃ (sd_1 : Sds),
   ∃ (nm_1 : Nms),
   ∃ (vs_1 : Vss),
   ∃ (u_1 : ByteArray),
   ([AV.rf 0 0, mkS (strD (D.v (.string b)))] = [AV.rf 0 0, mkS u_1]) ∧
   ([Ob.box [AV.d (.sl (strsD us)), AV.mp (0 + 1), AV.mp ((0 + 1) + 1), AV.mp (((0 + 1) + 1) + 1)], Ob.map (KK.ystrs 2) (sdE sd), Ob.map (KK.ystrs 2) (nmE nm), Ob.map KK.ystr (vsE vs), Ob.gh [AV.rf 0 0, AV.mp (0 + 1), AV.mp ((0 + 1) + 1), AV.mp (((0 + 1) + 1) + 1)]] = [Ob.box [mkSS us_1, AV.mp 1, AV.mp 2, AV.mp 3], Ob.map (KK.ystrs 2) (sdE sd_1), Ob.map (KK.ystrs 2) (nmE nm_1), Ob.map KK.ystr (vsE vs_1), Ob.gh [AV.rf 0 0, AV.mp 1, AV.mp 2, AV.mp 3]]) ∧
   ((Option.some (Ob.gh [AV.rf 0 0, AV.mp 1, AV.mp 2, AV.mp 3])) = (Option.some (Ob.gh [AV.rf 0 0, AV.mp (0 + 1), AV.mp ((0 + 1) + 1), AV.mp (((0 + 1) + 1) + 1)]))) ∧ (
    ∃ (es_1 : List (List D)),
    ((getO (Key.s (strD (D.v (.string b)))) (wasE w) AV.nl) = (AV.d (.sl es_1))) ∧
    ((es_1 = (itsD (unIts es_1))) ∧ ((itsD (itemsM us_1 sd_1 nm_1 u_1)) = (itsD (unIts (itsD (itemsM us_1 sd_1 nm_1 u_1)))))) ∧
    bcase (!(decide ((unIts es_1) = (unIts (itsD (itemsM us_1 sd_1 nm_1 u_1)))))) (
     ∃ (n : Int),
     ((getO (Key.s (strD (D.v (.string b)))) (vsE vs_1) (mkI .i64 (0 : Int))) = (mkI .i64 n)) ∧
     (∀ (c_1 : List D), (c_1 ∈ [[D.v (.string (strD (D.v (.string b))))]]) → (List.length c_1) = 1) ∧
     ((1 : Nat) = 1) ∧
     ((1 + 1) ≤ LIM) ∧
     k AX.nor ⟨[AV.rf 0 0, mkS u, mkS c, AV.fn (Fn.func 52) [] [AV.rf 4 0, AV.rf 5 0, AV.rf 6 0, AV.rf 7 0], AV.jk, AV.jk, AV.jk, AV.jk, AV.rf 9 0, AV.vw 10 2, AV.mp 13, AV.jk, mkS b, AV.rf 19 0, AV.jk, mkS (strD (D.v (.string b))), mkS u, mkS c, AV.vw 10 2, AV.vw 10 2, AV.tp [], AV.mp 13, AV.vw 10 2, mkI .i64 (2 : Int), mkI .i64 (2 : Int), mkB false, AV.rp 10 1 1 0, mkS b, AV.mp 13, mkS b, AV.rf 0 0, mkS b, AV.d (.sl (itsD l)), mkI .i64 (2 : Int), AV.fn (Fn.func 52) [] [AV.rf 4 0, AV.rf 5 0, AV.rf 6 0, AV.rf 7 0], AV.nl, AV.ag [AV.nl, AV.nl], AV.vw 10 2, mkI .i64 (2 : Int), mkI .i64 (IntKind.wrap .i64 ((1 : Int) + (1 : Int))), mkB true, AV.rp 10 1 (Int.toNat (1 : Int)) 0, mkS (strD (D.v (.string b))), AV.mp 13, mkS (strD (D.v (.string b))), AV.d (.sl es_1), AV.rf 0 0, mkS (strD (D.v (.string b))), AV.d (.sl (itsD (itemsM us_1 sd_1 nm_1 u_1))), mkB (decide ((unIts es_1) = (unIts (itsD (itemsM us_1 sd_1 nm_1 u_1))))), mkB true, AV.rf 0 0, AV.rf 0 0, AV.rf 0 (0 + 3), AV.mp (if 3 < 4 then 3 else 25 + (3 - 4)), mkS (strD (D.v (.string b))), mkI .i64 n, mkI .i64 (IntKind.wrap .i64 (n + (1 : Int))), AV.rf 19 (0 + 0), AV.jk, mkS (strD (D.v (.string b))), AV.vw 26 1, AV.vw 23 (1 + 1), AV.rf 19 (0 + 0), mkI .i64 (IntKind.wrap .i64 ((1 : Int) + (1 : Int))), AV.jk], [Ob.box [AV.d (.sl (strsD us_1)), AV.mp (if 1 < 4 then 1 else 25 + (1 - 4)), AV.mp (if 2 < 4 then 2 else 25 + (2 - 4)), AV.mp (if 3 < 4 then 3 else 25 + (3 - 4))], Ob.map (KK.ystrs 2) (sdE sd_1), Ob.map (KK.ystrs 2) (nmE nm_1), Ob.map KK.ystr (setKeyA (Key.s (strD (D.v (.string b)))) (mkI .i64 (IntKind.wrap .i64 (n + (1 : Int)))) (vsE vs_1)), Ob.box [mkS x], Ob.box [AV.rf 0 0], Ob.box [mkS u], Ob.box [mkS c], Ob.gh [AV.rf 0 0, AV.rf 4 0, AV.rf 5 0, AV.rf 6 0, AV.rf 7 0, AV.mp 1, AV.mp 2, AV.mp 3, AV.rf 0 0], Ob.box [AV.nl, AV.nl], Ob.row 1 [[D.v (.string a)], [D.v (.string b)]], Ob.gone, Ob.gone, Ob.map KK.ystr (wasE w), Ob.gone, Ob.gone, Ob.gone, Ob.gone, Ob.gone, Ob.box [AV.vw 23 (1 + 1), AV.nl], Ob.gone, Ob.gone, Ob.row 1 [[D.v (.string a)]], Ob.row 1 [[D.v (.string a)], [D.v (.string (strD (D.v (.string b))))]], Ob.gone, Ob.gone, Ob.row 1 [[D.v (.string (strD (D.v (.string b))))]]]⟩) (
     k AX.nor ⟨[AV.rf 0 0, mkS u, mkS c, AV.fn (Fn.func 52) [] [AV.rf 4 0, AV.rf 5 0, AV.rf 6 0, AV.rf 7 0], AV.jk, AV.jk, AV.jk, AV.jk, AV.rf 9 0, AV.vw 10 2, AV.mp 13, AV.jk, mkS b, AV.rf 19 0, AV.jk, mkS (strD (D.v (.string b))), mkS u, mkS c, AV.vw 10 2, AV.vw 10 2, AV.tp [], AV.mp 13, AV.vw 10 2, mkI .i64 (2 : Int), mkI .i64 (2 : Int), mkB false, AV.rp 10 1 1 0, mkS b, AV.mp 13, mkS b, AV.rf 0 0, mkS b, AV.d (.sl (itsD l)), mkI .i64 (2 : Int), AV.fn (Fn.func 52) [] [AV.rf 4 0, AV.rf 5 0, AV.rf 6 0, AV.rf 7 0], AV.nl, AV.ag [AV.nl, AV.nl], AV.vw 10 2, mkI .i64 (2 : Int), mkI .i64 (IntKind.wrap .i64 ((1 : Int) + (1 : Int))), mkB true, AV.rp 10 1 (Int.toNat (1 : Int)) 0, mkS (strD (D.v (.string b))), AV.mp 13, mkS (strD (D.v (.string b))), AV.d (.sl es_1), AV.rf 0 0, mkS (strD (D.v (.string b))), AV.d (.sl (itsD (itemsM us_1 sd_1 nm_1 u_1))), mkB (decide ((unIts es_1) = (unIts (itsD (itemsM us_1 sd_1 nm_1 u_1))))), mkB false, AV.rf 0 0, AV.rf 0 0, AV.rf 0 3, AV.mp 3, mkS a, mkI .i64 n0, mkI .i64 n1, AV.rf 19 0, AV.nl, mkS a, AV.vw 22 1, AV.vw 23 1, AV.rf 19 0, mkI .i64 (IntKind.wrap .i64 ((1 : Int) + (1 : Int))), AV.jk], [Ob.box [AV.d (.sl (strsD us_1)), AV.mp (if 1 < 4 then 1 else 25 + (1 - 4)), AV.mp (if 2 < 4 then 2 else 25 + (2 - 4)), AV.mp (if 3 < 4 then 3 else 25 + (3 - 4))], Ob.map (KK.ystrs 2) (sdE sd_1), Ob.map (KK.ystrs 2) (nmE nm_1), Ob.map KK.ystr (vsE vs_1), Ob.box [mkS x], Ob.box [AV.rf 0 0], Ob.box [mkS u], Ob.box [mkS c], Ob.gh [AV.rf 0 0, AV.rf 4 0, AV.rf 5 0, AV.rf 6 0, AV.rf 7 0, AV.mp 1, AV.mp 2, AV.mp 3, AV.rf 0 0], Ob.box [AV.nl, AV.nl], Ob.row 1 [[D.v (.string a)], [D.v (.string b)]], Ob.gone, Ob.gone, Ob.map KK.ystr (wasE w), Ob.gone, Ob.gone, Ob.gone, Ob.gone, Ob.gone, Ob.box [AV.vw 23 1, AV.nl], Ob.gone, Ob.gone, Ob.row 1 [[D.v (.string a)]], Ob.row 1 [[D.v (.string a)]], Ob.gone, Ob.gone]⟩)))) := by kernel_rfl
theorem rNg (us : List BA) (sd : Sds) (nm : Nms) (vs : Vss) (x u c a b : BA) (l : List It) (w : List (BA × List It)) (es et : List (List D)) (d : Bool) (k : Kont) :
  (aUnS K2 GT 3 (cAt [1,1,1,1,1,1,0,1,0,0] Tryd.b47) k (stN5 us sd nm vs x u c a b l w es et d)) = (
  (((0 : Int) ≤ (1 : Int)) ∧ ((1 : Int) < ((2 : Nat) : Int))) ∧
  ((Int.toNat (1 : Int)) < 2) ∧
  ((0 : Nat) ≤ 1) ∧
  ((1 : Nat) ≤ 1) ∧
  ((D.v (.string b)) = (D.v (.string (strD (D.v (.string b)))))) ∧
  (∃ (es_1 : List (List D)), ((getO (Key.s (strD (D.v (.string b)))) (wasE w) AV.nl) = (AV.d (.sl es_1))) ∧ (∃ (us_1 : List BA), ∃ (sd_1 : Sds), ∃ (nm_1 : Nms), ∃ (vs_1 : Vss), ∃ (u_1 : ByteArray), ([AV.rf 0 0, mkS (strD (D.v (.string b)))] = [AV.rf 0 0, mkS u_1]) ∧ (([Ob.box [AV.d (.sl (strsD us)), AV.mp (0 + 1), AV.mp ((0 + 1) + 1), AV.mp (((0 + 1) + 1) + 1)], Ob.map (KK.ystrs 2) (sdE sd), Ob.map (KK.ystrs 2) (nmE nm), Ob.map KK.ystr (vsE vs), Ob.gh [AV.rf 0 0, AV.mp (0 + 1), AV.mp ((0 + 1) + 1), AV.mp (((0 + 1) + 1) + 1)]] = [Ob.box [mkSS us_1, AV.mp 1, AV.mp 2, AV.mp 3], Ob.map (KK.ystrs 2) (sdE sd_1), Ob.map (KK.ystrs 2) (nmE nm_1), Ob.map KK.ystr (vsE vs_1), Ob.gh [AV.rf 0 0, AV.mp 1, AV.mp 2, AV.mp 3]]) ∧ (((Option.some (Ob.gh [AV.rf 0 0, AV.mp 1, AV.mp 2, AV.mp 3])) = (Option.some (Ob.gh [AV.rf 0 0, AV.mp (0 + 1), AV.mp ((0 + 1) + 1), AV.mp (((0 + 1) + 1) + 1)]))) ∧ (((es_1 = (itsD (unIts es_1))) ∧ ((itsD (itemsM us_1 sd_1 nm_1 u_1)) = (itsD (unIts (itsD (itemsM us_1 sd_1 nm_1 u_1)))))) ∧ (bcase (!(decide ((unIts es_1) = (unIts (itsD (itemsM us_1 sd_1 nm_1 u_1)))))) (∃ (n : Int), ((getO (Key.s (strD (D.v (.string b)))) (vsE vs_1) (mkI .i64 (0 : Int))) = (mkI .i64 n)) ∧ ((∀ (c_1 : List D), (c_1 ∈ [[D.v (.string (strD (D.v (.string b))))]]) → (List.length c_1) = 1) ∧ ((1 ≤ LIM) ∧ (k AX.nor ⟨[AV.rf 0 0, mkS u, mkS c, AV.fn (Fn.func 52) [] [AV.rf 4 0, AV.rf 5 0, AV.rf 6 0, AV.rf 7 0], AV.jk, AV.jk, AV.jk, AV.jk, AV.rf 9 0, AV.vw 10 2, AV.mp 13, AV.jk, mkS b, AV.rf 19 0, AV.jk, mkS (strD (D.v (.string b))), mkS u, mkS c, AV.vw 10 2, AV.vw 10 2, AV.tp [], AV.mp 13, AV.vw 10 2, mkI .i64 (2 : Int), mkI .i64 (2 : Int), mkB false, AV.rp 10 1 1 0, mkS b, AV.mp 13, mkS b, AV.rf 0 0, mkS b, AV.d (.sl (itsD l)), mkI .i64 (2 : Int), AV.fn (Fn.func 52) [] [AV.rf 4 0, AV.rf 5 0, AV.rf 6 0, AV.rf 7 0], AV.nl, AV.ag [AV.nl, AV.nl], AV.vw 10 2, mkI .i64 (2 : Int), mkI .i64 (IntKind.wrap .i64 ((1 : Int) + (1 : Int))), mkB true, AV.rp 10 1 (Int.toNat (1 : Int)) 0, mkS (strD (D.v (.string b))), AV.mp 13, mkS (strD (D.v (.string b))), AV.d (.sl es_1), AV.rf 0 0, mkS (strD (D.v (.string b))), AV.d (.sl (itsD (itemsM us_1 sd_1 nm_1 u_1))), mkB (decide ((unIts es_1) = (unIts (itsD (itemsM us_1 sd_1 nm_1 u_1))))), mkB true, AV.rf 0 0, AV.rf 0 0, AV.rf 0 (0 + 3), AV.mp (if 3 < 4 then 3 else 23 + (3 - 4)), mkS (strD (D.v (.string b))), mkI .i64 n, mkI .i64 (IntKind.wrap .i64 (n + (1 : Int))), AV.rf 19 (0 + 0), AV.nl, mkS (strD (D.v (.string b))), AV.vw 24 1, AV.vw 25 1, AV.rf 19 (0 + 0), mkI .i64 (IntKind.wrap .i64 ((1 : Int) + (1 : Int))), AV.jk], [Ob.box [AV.d (.sl (strsD us_1)), AV.mp (if 1 < 4 then 1 else 23 + (1 - 4)), AV.mp (if 2 < 4 then 2 else 23 + (2 - 4)), AV.mp (if 3 < 4 then 3 else 23 + (3 - 4))], Ob.map (KK.ystrs 2) (sdE sd_1), Ob.map (KK.ystrs 2) (nmE nm_1), Ob.map KK.ystr (setKeyA (Key.s (strD (D.v (.string b)))) (mkI .i64 (IntKind.wrap .i64 (n + (1 : Int)))) (vsE vs_1)), Ob.box [mkS x], Ob.box [AV.rf 0 0], Ob.box [mkS u], Ob.box [mkS c], Ob.gh [AV.rf 0 0, AV.rf 4 0, AV.rf 5 0, AV.rf 6 0, AV.rf 7 0, AV.mp 1, AV.mp 2, AV.mp 3, AV.rf 0 0], Ob.box [AV.nl, AV.nl], Ob.row 1 [[D.v (.string a)], [D.v (.string b)]], Ob.gone, Ob.gone, Ob.map KK.ystr (wasE w), Ob.gone, Ob.gone, Ob.gone, Ob.gone, Ob.gone, Ob.box [AV.vw 25 1, AV.nl], Ob.gone, Ob.gone, Ob.gone, Ob.gone, Ob.row 1 [[D.v (.string (strD (D.v (.string b))))]], Ob.row 1 [[D.v (.string (strD (D.v (.string b))))]]]⟩)))) (k AX.nor ⟨[AV.rf 0 0, mkS u, mkS c, AV.fn (Fn.func 52) [] [AV.rf 4 0, AV.rf 5 0, AV.rf 6 0, AV.rf 7 0], AV.jk, AV.jk, AV.jk, AV.jk, AV.rf 9 0, AV.vw 10 2, AV.mp 13, AV.jk, mkS b, AV.rf 19 0, AV.jk, mkS (strD (D.v (.string b))), mkS u, mkS c, AV.vw 10 2, AV.vw 10 2, AV.tp [], AV.mp 13, AV.vw 10 2, mkI .i64 (2 : Int), mkI .i64 (2 : Int), mkB false, AV.rp 10 1 1 0, mkS b, AV.mp 13, mkS b, AV.rf 0 0, mkS b, AV.d (.sl (itsD l)), mkI .i64 (2 : Int), AV.fn (Fn.func 52) [] [AV.rf 4 0, AV.rf 5 0, AV.rf 6 0, AV.rf 7 0], AV.nl, AV.ag [AV.nl, AV.nl], AV.vw 10 2, mkI .i64 (2 : Int), mkI .i64 (IntKind.wrap .i64 ((1 : Int) + (1 : Int))), mkB true, AV.rp 10 1 (Int.toNat (1 : Int)) 0, mkS (strD (D.v (.string b))), AV.mp 13, mkS (strD (D.v (.string b))), AV.d (.sl es_1), AV.rf 0 0, mkS (strD (D.v (.string b))), AV.d (.sl (itsD (itemsM us_1 sd_1 nm_1 u_1))), mkB (decide ((unIts es_1) = (unIts (itsD (itemsM us_1 sd_1 nm_1 u_1))))), mkB false, AV.jk, AV.jk, AV.jk, AV.jk, AV.jk, AV.jk, AV.jk, AV.jk, AV.jk, AV.jk, AV.jk, AV.jk, AV.jk, mkI .i64 (IntKind.wrap .i64 ((1 : Int) + (1 : Int))), AV.jk], [Ob.box [AV.d (.sl (strsD us_1)), AV.mp (if 1 < 4 then 1 else 23 + (1 - 4)), AV.mp (if 2 < 4 then 2 else 23 + (2 - 4)), AV.mp (if 3 < 4 then 3 else 23 + (3 - 4))], Ob.map (KK.ystrs 2) (sdE sd_1), Ob.map (KK.ystrs 2) (nmE nm_1), Ob.map KK.ystr (vsE vs_1), Ob.box [mkS x], Ob.box [AV.rf 0 0], Ob.box [mkS u], Ob.box [mkS c], Ob.gh [AV.rf 0 0, AV.rf 4 0, AV.rf 5 0, AV.rf 6 0, AV.rf 7 0, AV.mp 1, AV.mp 2, AV.mp 3, AV.rf 0 0], Ob.box [AV.nl, AV.nl], Ob.row 1 [[D.v (.string a)], [D.v (.string b)]], Ob.gone, Ob.gone, Ob.map KK.ystr (wasE w), Ob.gone, Ob.gone, Ob.gone, Ob.gone, Ob.gone, Ob.box [AV.nl, AV.nl], Ob.gone, Ob.gone, Ob.gone, Ob.gone]⟩))))))) ∧ (
   ∃ (us_1 : List BA),
   ∃ (sd_1 : Sds),
   ∃ (nm_1 : Nms),
   ∃ (vs_1 : Vss),
   ∃ (u_1 : ByteArray),
   ([AV.rf 0 0, mkS (strD (D.v (.string b)))] = [AV.rf 0 0, mkS u_1]) ∧
   ([Ob.box [AV.d (.sl (strsD us)), AV.mp (0 + 1), AV.mp ((0 + 1) + 1), AV.mp (((0 + 1) + 1) + 1)], Ob.map (KK.ystrs 2) (sdE sd), Ob.map (KK.ystrs 2) (nmE nm), Ob.map KK.ystr (vsE vs), Ob.gh [AV.rf 0 0, AV.mp (0 + 1), AV.mp ((0 + 1) + 1), AV.mp (((0 + 1) + 1) + 1)]] = [Ob.box [mkSS us_1, AV.mp 1, AV.mp 2, AV.mp 3], Ob.map (KK.ystrs 2) (sdE sd_1), Ob.map (KK.ystrs 2) (nmE nm_1), Ob.map KK.ystr (vsE vs_1), Ob.gh [AV.rf 0 0, AV.mp 1, AV.mp 2, AV.mp 3]]) ∧
   ((Option.some (Ob.gh [AV.rf 0 0, AV.mp 1, AV.mp 2, AV.mp 3])) = (Option.some (Ob.gh [AV.rf 0 0, AV.mp (0 + 1), AV.mp ((0 + 1) + 1), AV.mp (((0 + 1) + 1) + 1)]))) ∧ (
    ∃ (es_1 : List (List D)),
    ((getO (Key.s (strD (D.v (.string b)))) (wasE w) AV.nl) = (AV.d (.sl es_1))) ∧
    ((es_1 = (itsD (unIts es_1))) ∧ ((itsD (itemsM us_1 sd_1 nm_1 u_1)) = (itsD (unIts (itsD (itemsM us_1 sd_1 nm_1 u_1)))))) ∧
    bcase (!(decide ((unIts es_1) = (unIts (itsD (itemsM us_1 sd_1 nm_1 u_1)))))) (
     ∃ (n : Int),
     ((getO (Key.s (strD (D.v (.string b)))) (vsE vs_1) (mkI .i64 (0 : Int))) = (mkI .i64 n)) ∧
     (∀ (c_1 : List D), (c_1 ∈ [[D.v (.string (strD (D.v (.string b))))]]) → (List.length c_1) = 1) ∧
     (1 ≤ LIM) ∧
     k AX.nor ⟨[AV.rf 0 0, mkS u, mkS c, AV.fn (Fn.func 52) [] [AV.rf 4 0, AV.rf 5 0, AV.rf 6 0, AV.rf 7 0], AV.jk, AV.jk, AV.jk, AV.jk, AV.rf 9 0, AV.vw 10 2, AV.mp 13, AV.jk, mkS b, AV.rf 19 0, AV.jk, mkS (strD (D.v (.string b))), mkS u, mkS c, AV.vw 10 2, AV.vw 10 2, AV.tp [], AV.mp 13, AV.vw 10 2, mkI .i64 (2 : Int), mkI .i64 (2 : Int), mkB false, AV.rp 10 1 1 0, mkS b, AV.mp 13, mkS b, AV.rf 0 0, mkS b, AV.d (.sl (itsD l)), mkI .i64 (2 : Int), AV.fn (Fn.func 52) [] [AV.rf 4 0, AV.rf 5 0, AV.rf 6 0, AV.rf 7 0], AV.nl, AV.ag [AV.nl, AV.nl], AV.vw 10 2, mkI .i64 (2 : Int), mkI .i64 (IntKind.wrap .i64 ((1 : Int) + (1 : Int))), mkB true, AV.rp 10 1 (Int.toNat (1 : Int)) 0, mkS (strD (D.v (.string b))), AV.mp 13, mkS (strD (D.v (.string b))), AV.d (.sl es_1), AV.rf 0 0, mkS (strD (D.v (.string b))), AV.d (.sl (itsD (itemsM us_1 sd_1 nm_1 u_1))), mkB (decide ((unIts es_1) = (unIts (itsD (itemsM us_1 sd_1 nm_1 u_1))))), mkB true, AV.rf 0 0, AV.rf 0 0, AV.rf 0 (0 + 3), AV.mp (if 3 < 4 then 3 else 23 + (3 - 4)), mkS (strD (D.v (.string b))), mkI .i64 n, mkI .i64 (IntKind.wrap .i64 (n + (1 : Int))), AV.rf 19 (0 + 0), AV.nl, mkS (strD (D.v (.string b))), AV.vw 24 1, AV.vw 25 1, AV.rf 19 (0 + 0), mkI .i64 (IntKind.wrap .i64 ((1 : Int) + (1 : Int))), AV.jk], [Ob.box [AV.d (.sl (strsD us_1)), AV.mp (if 1 < 4 then 1 else 23 + (1 - 4)), AV.mp (if 2 < 4 then 2 else 23 + (2 - 4)), AV.mp (if 3 < 4 then 3 else 23 + (3 - 4))], Ob.map (KK.ystrs 2) (sdE sd_1), Ob.map (KK.ystrs 2) (nmE nm_1), Ob.map KK.ystr (setKeyA (Key.s (strD (D.v (.string b)))) (mkI .i64 (IntKind.wrap .i64 (n + (1 : Int)))) (vsE vs_1)), Ob.box [mkS x], Ob.box [AV.rf 0 0], Ob.box [mkS u], Ob.box [mkS c], Ob.gh [AV.rf 0 0, AV.rf 4 0, AV.rf 5 0, AV.rf 6 0, AV.rf 7 0, AV.mp 1, AV.mp 2, AV.mp 3, AV.rf 0 0], Ob.box [AV.nl, AV.nl], Ob.row 1 [[D.v (.string a)], [D.v (.string b)]], Ob.gone, Ob.gone, Ob.map KK.ystr (wasE w), Ob.gone, Ob.gone, Ob.gone, Ob.gone, Ob.gone, Ob.box [AV.vw 25 1, AV.nl], Ob.gone, Ob.gone, Ob.gone, Ob.gone, Ob.row 1 [[D.v (.string (strD (D.v (.string b))))]], Ob.row 1 [[D.v (.string (strD (D.v (.string b))))]]]⟩) (
     k AX.nor ⟨[AV.rf 0 0, mkS u, mkS c, AV.fn (Fn.func 52) [] [AV.rf 4 0, AV.rf 5 0, AV.rf 6 0, AV.rf 7 0], AV.jk, AV.jk, AV.jk, AV.jk, AV.rf 9 0, AV.vw 10 2, AV.mp 13, AV.jk, mkS b, AV.rf 19 0, AV.jk, mkS (strD (D.v (.string b))), mkS u, mkS c, AV.vw 10 2, AV.vw 10 2, AV.tp [], AV.mp 13, AV.vw 10 2, mkI .i64 (2 : Int), mkI .i64 (2 : Int), mkB false, AV.rp 10 1 1 0, mkS b, AV.mp 13, mkS b, AV.rf 0 0, mkS b, AV.d (.sl (itsD l)), mkI .i64 (2 : Int), AV.fn (Fn.func 52) [] [AV.rf 4 0, AV.rf 5 0, AV.rf 6 0, AV.rf 7 0], AV.nl, AV.ag [AV.nl, AV.nl], AV.vw 10 2, mkI .i64 (2 : Int), mkI .i64 (IntKind.wrap .i64 ((1 : Int) + (1 : Int))), mkB true, AV.rp 10 1 (Int.toNat (1 : Int)) 0, mkS (strD (D.v (.string b))), AV.mp 13, mkS (strD (D.v (.string b))), AV.d (.sl es_1), AV.rf 0 0, mkS (strD (D.v (.string b))), AV.d (.sl (itsD (itemsM us_1 sd_1 nm_1 u_1))), mkB (decide ((unIts es_1) = (unIts (itsD (itemsM us_1 sd_1 nm_1 u_1))))), mkB false, AV.jk, AV.jk, AV.jk, AV.jk, AV.jk, AV.jk, AV.jk, AV.jk, AV.jk, AV.jk, AV.jk, AV.jk, AV.jk, mkI .i64 (IntKind.wrap .i64 ((1 : Int) + (1 : Int))), AV.jk], [Ob.box [AV.d (.sl (strsD us_1)), AV.mp (if 1 < 4 then 1 else 23 + (1 - 4)), AV.mp (if 2 < 4 then 2 else 23 + (2 - 4)), AV.mp (if 3 < 4 then 3 else 23 + (3 - 4))], Ob.map (KK.ystrs 2) (sdE sd_1), Ob.map (KK.ystrs 2) (nmE nm_1), Ob.map KK.ystr (vsE vs_1), Ob.box [mkS x], Ob.box [AV.rf 0 0], Ob.box [mkS u], Ob.box [mkS c], Ob.gh [AV.rf 0 0, AV.rf 4 0, AV.rf 5 0, AV.rf 6 0, AV.rf 7 0, AV.mp 1, AV.mp 2, AV.mp 3, AV.rf 0 0], Ob.box [AV.nl, AV.nl], Ob.row 1 [[D.v (.string a)], [D.v (.string b)]], Ob.gone, Ob.gone, Ob.map KK.ystr (wasE w), Ob.gone, Ob.gone, Ob.gone, Ob.gone, Ob.gone, Ob.box [AV.nl, AV.nl], Ob.gone, Ob.gone, Ob.gone, Ob.gone]⟩)))) := by kernel_rfl
/-- Behind the second round. -/
def stN6 (us : List BA) (sd : Sds) (nm : Nms) (vs : Vss) (x u c a b : BA) (l : List It) (w : List (BA × List It)) (es et : List (List D)) (d : Bool) (z : List AV) (t : List Ob) : S := ⟨slN u c a b b l 2 ([mkB true, .rp 10 1 1 0, mkS b, .mp 13, mkS b, .d (.sl es), .rf 0 0, mkS b, .d (.sl et), mkB d] ++ z), boN us sd nm vs x u c ++ [.box [.nl, .nl], row2 a b, .gone, .gone, .map .ystr (wasE w), .gone, .gone, .gone, .gone, .gone] ++ t⟩
def zf1 (b : BA) (n0 n1 : Int) : List AV := [mkB true, .rf 0 0, .rf 0 0, .rf 0 3, .mp 3, mkS b, mkI .i64 n0, mkI .i64 n1, .rf 19 0, .jk, mkS b, .vw 26 1, .vw 23 2, .rf 19 0, mkI .i64 2, .jk]
def tf1 (a b : BA) : List Ob := [.box [.vw 23 2, .nl], .gone, .gone, .row 1 [[.v (.string a)]], row2 a b, .gone, .gone, .row 1 [[.v (.string b)]]]
def zf2 (a : BA) (n0 n1 : Int) : List AV := [mkB false, .rf 0 0, .rf 0 0, .rf 0 3, .mp 3, mkS a, mkI .i64 n0, mkI .i64 n1, .rf 19 0, .nl, mkS a, .vw 22 1, .vw 23 1, .rf 19 0, mkI .i64 2, .jk]
def tf2 (a : BA) : List Ob := [.box [.vw 23 1, .nl], .gone, .gone, .row 1 [[.v (.string a)]], .row 1 [[.v (.string a)]], .gone, .gone]
def zg1 (b : BA) (n0 n1 : Int) : List AV := [mkB true, .rf 0 0, .rf 0 0, .rf 0 3, .mp 3, mkS b, mkI .i64 n0, mkI .i64 n1, .rf 19 0, .nl, mkS b, .vw 24 1, .vw 25 1, .rf 19 0, mkI .i64 2, .jk]
def tg1 (b : BA) : List Ob := [.box [.vw 25 1, .nl], .gone, .gone, .gone, .gone, .row 1 [[.v (.string b)]], .row 1 [[.v (.string b)]]]
def zg2 : List AV := [mkB false] ++ jks 13 ++ [mkI .i64 2, .jk]
def tg2 : List Ob := [.box [.nl, .nl], .gone, .gone, .gone, .gone]
/-- What follows the loop. -/
abbrev kEnd (q : Kont) : Kont := kBlk 2 (kSeq (aUnS K2 GT 3 (cAt [1,1,1,1,1,1,1] Tryd.b47) q) q)
theorem rNx1 (us : List BA) (sd : Sds) (nm : Nms) (vs : Vss) (x u c a b : BA) (l : List It) (w : List (BA × List It)) (es et : List (List D)) (d : Bool) (n0 n1 : Int) (q : AV → List Ob → Prop) :
  (aLoopN (aUnS K2 GT 3 (cAt [1,1,1,1,1,1,0,1,0,0] Tryd.b47)) (kEnd (kRetF K2 Tryd.f47.results.toList q)) 1 (stN6 us sd nm vs x u c a b l w es et d (zf1 b n0 n1) (tf1 a b))) = (
  q (AV.ag [AV.vw 23 2, AV.nl]) [Ob.box [mkSS us, AV.mp 1, AV.mp 2, AV.mp 3], Ob.map (KK.ystrs 2) (sdE sd), Ob.map (KK.ystrs 2) (nmE nm), Ob.map KK.ystr (vsE vs), Ob.box [mkS x], Ob.box [AV.rf 0 0], Ob.box [mkS u], Ob.box [mkS c], Ob.gh [AV.rf 0 0, AV.rf 4 0, AV.rf 5 0, AV.rf 6 0, AV.rf 7 0, AV.mp 1, AV.mp 2, AV.mp 3, AV.rf 0 0], Ob.box [AV.vw 23 2, AV.nl], Ob.row 1 [[D.v (.string a)], [D.v (.string b)]], Ob.gone, Ob.gone, Ob.map KK.ystr (wasE w), Ob.gone, Ob.gone, Ob.gone, Ob.gone, Ob.gone, Ob.box [AV.vw 23 2, AV.nl], Ob.gone, Ob.gone, Ob.row 1 [[D.v (.string a)]], Ob.row 1 [[D.v (.string a)], [D.v (.string b)]], Ob.gone, Ob.gone, Ob.row 1 [[D.v (.string b)]]]) := by kernel_rfl
theorem rNx2 (us : List BA) (sd : Sds) (nm : Nms) (vs : Vss) (x u c a b : BA) (l : List It) (w : List (BA × List It)) (es et : List (List D)) (d : Bool) (n0 n1 : Int) (q : AV → List Ob → Prop) :
  (aLoopN (aUnS K2 GT 3 (cAt [1,1,1,1,1,1,0,1,0,0] Tryd.b47)) (kEnd (kRetF K2 Tryd.f47.results.toList q)) 1 (stN6 us sd nm vs x u c a b l w es et d (zf2 a n0 n1) (tf2 a))) = (
  q (AV.ag [AV.vw 23 1, AV.nl]) [Ob.box [mkSS us, AV.mp 1, AV.mp 2, AV.mp 3], Ob.map (KK.ystrs 2) (sdE sd), Ob.map (KK.ystrs 2) (nmE nm), Ob.map KK.ystr (vsE vs), Ob.box [mkS x], Ob.box [AV.rf 0 0], Ob.box [mkS u], Ob.box [mkS c], Ob.gh [AV.rf 0 0, AV.rf 4 0, AV.rf 5 0, AV.rf 6 0, AV.rf 7 0, AV.mp 1, AV.mp 2, AV.mp 3, AV.rf 0 0], Ob.box [AV.vw 23 1, AV.nl], Ob.row 1 [[D.v (.string a)], [D.v (.string b)]], Ob.gone, Ob.gone, Ob.map KK.ystr (wasE w), Ob.gone, Ob.gone, Ob.gone, Ob.gone, Ob.gone, Ob.box [AV.vw 23 1, AV.nl], Ob.gone, Ob.gone, Ob.row 1 [[D.v (.string a)]], Ob.row 1 [[D.v (.string a)]], Ob.gone, Ob.gone]) := by kernel_rfl
theorem rNx3 (us : List BA) (sd : Sds) (nm : Nms) (vs : Vss) (x u c a b : BA) (l : List It) (w : List (BA × List It)) (es et : List (List D)) (d : Bool) (n0 n1 : Int) (q : AV → List Ob → Prop) :
  (aLoopN (aUnS K2 GT 3 (cAt [1,1,1,1,1,1,0,1,0,0] Tryd.b47)) (kEnd (kRetF K2 Tryd.f47.results.toList q)) 1 (stN6 us sd nm vs x u c a b l w es et d (zg1 b n0 n1) (tg1 b))) = (
  q (AV.ag [AV.vw 25 1, AV.nl]) [Ob.box [mkSS us, AV.mp 1, AV.mp 2, AV.mp 3], Ob.map (KK.ystrs 2) (sdE sd), Ob.map (KK.ystrs 2) (nmE nm), Ob.map KK.ystr (vsE vs), Ob.box [mkS x], Ob.box [AV.rf 0 0], Ob.box [mkS u], Ob.box [mkS c], Ob.gh [AV.rf 0 0, AV.rf 4 0, AV.rf 5 0, AV.rf 6 0, AV.rf 7 0, AV.mp 1, AV.mp 2, AV.mp 3, AV.rf 0 0], Ob.box [AV.vw 25 1, AV.nl], Ob.row 1 [[D.v (.string a)], [D.v (.string b)]], Ob.gone, Ob.gone, Ob.map KK.ystr (wasE w), Ob.gone, Ob.gone, Ob.gone, Ob.gone, Ob.gone, Ob.box [AV.vw 25 1, AV.nl], Ob.gone, Ob.gone, Ob.gone, Ob.gone, Ob.row 1 [[D.v (.string b)]], Ob.row 1 [[D.v (.string b)]]]) := by kernel_rfl
theorem rNx4 (us : List BA) (sd : Sds) (nm : Nms) (vs : Vss) (x u c a b : BA) (l : List It) (w : List (BA × List It)) (es et : List (List D)) (d : Bool) (q : AV → List Ob → Prop) :
  (aLoopN (aUnS K2 GT 3 (cAt [1,1,1,1,1,1,0,1,0,0] Tryd.b47)) (kEnd (kRetF K2 Tryd.f47.results.toList q)) 1 (stN6 us sd nm vs x u c a b l w es et d zg2 tg2)) = (
  q (AV.ag [AV.nl, AV.nl]) [Ob.box [mkSS us, AV.mp 1, AV.mp 2, AV.mp 3], Ob.map (KK.ystrs 2) (sdE sd), Ob.map (KK.ystrs 2) (nmE nm), Ob.map KK.ystr (vsE vs), Ob.box [mkS x], Ob.box [AV.rf 0 0], Ob.box [mkS u], Ob.box [mkS c], Ob.gh [AV.rf 0 0, AV.rf 4 0, AV.rf 5 0, AV.rf 6 0, AV.rf 7 0, AV.mp 1, AV.mp 2, AV.mp 3, AV.rf 0 0], Ob.box [AV.nl, AV.nl], Ob.row 1 [[D.v (.string a)], [D.v (.string b)]], Ob.gone, Ob.gone, Ob.map KK.ystr (wasE w), Ob.gone, Ob.gone, Ob.gone, Ob.gone, Ob.gone, Ob.box [AV.nl, AV.nl], Ob.gone, Ob.gone, Ob.gone, Ob.gone]) := by kernel_rfl
theorem pNf {us : List BA} {sd : Sds} {nm : Nms} {vs : Vss} {x u c a b : BA} {l lb : List It} {w : List (BA × List It)} {es et : List (List D)} {d : Bool} {n0 n1 : Int} {k : Kont} (hb : alk b w = some lb)
    (h1 : ¬ lb = itemsM us sd nm b → k .nor (stN6 us sd nm (bump vs b) x u c a b l w (itsD lb) (itsD (itemsM us sd nm b)) (decide (lb = itemsM us sd nm b)) (zf1 b (verOf vs b) (IntKind.wrap .i64 (verOf vs b + 1))) (tf1 a b)))
    (h2 : lb = itemsM us sd nm b → k .nor (stN6 us sd nm vs x u c a b l w (itsD lb) (itsD (itemsM us sd nm b)) (decide (lb = itemsM us sd nm b)) (zf2 a n0 n1) (tf2 a))) :
    aUnS K2 GT 3 (cAt [1,1,1,1,1,1,0,1,0,0] Tryd.b47) k (stN4 us sd nm vs x u c a b l w es et d n0 n1) := by
  refine cast (rNf us sd nm vs x u c a b l w es et d n0 n1 k).symm ?_
  have g := was_get hb
  have v := vs_get vs b
  have eb : strD (D.v (.string b)) = b := rfl
  simp only [ww2, eb]
  refine ⟨by decide, by decide, by decide, by decide, trivial, ⟨_, g, us, sd, nm, vs, b, rfl, rfl, trivial, ⟨by rw [unIts_its], by rw [unIts_its]⟩, ?_⟩, us, sd, nm, vs, b, rfl, rfl, trivial, _, g, ⟨by rw [unIts_its], by rw [unIts_its]⟩, ?_⟩
  all_goals
    simp only [unIts_its]
    refine bcase_mk (fun h => ⟨_, v, by simp, trivial, by decide, ?_⟩) (fun h => ?_)
    · rw [vs_set]
      exact h1 (by simpa using h)
    · exact h2 (by simpa using h)
theorem pNg {us : List BA} {sd : Sds} {nm : Nms} {vs : Vss} {x u c a b : BA} {l lb : List It} {w : List (BA × List It)} {es et : List (List D)} {d : Bool} {k : Kont} (hb : alk b w = some lb)
    (h1 : ¬ lb = itemsM us sd nm b → k .nor (stN6 us sd nm (bump vs b) x u c a b l w (itsD lb) (itsD (itemsM us sd nm b)) (decide (lb = itemsM us sd nm b)) (zg1 b (verOf vs b) (IntKind.wrap .i64 (verOf vs b + 1))) (tg1 b)))
    (h2 : lb = itemsM us sd nm b → k .nor (stN6 us sd nm vs x u c a b l w (itsD lb) (itsD (itemsM us sd nm b)) (decide (lb = itemsM us sd nm b)) zg2 tg2)) :
    aUnS K2 GT 3 (cAt [1,1,1,1,1,1,0,1,0,0] Tryd.b47) k (stN5 us sd nm vs x u c a b l w es et d) := by
  refine cast (rNg us sd nm vs x u c a b l w es et d k).symm ?_
  have g := was_get hb
  have v := vs_get vs b
  have eb : strD (D.v (.string b)) = b := rfl
  simp only [ww2, eb]
  refine ⟨by decide, by decide, by decide, by decide, trivial, ⟨_, g, us, sd, nm, vs, b, rfl, rfl, trivial, ⟨by rw [unIts_its], by rw [unIts_its]⟩, ?_⟩, us, sd, nm, vs, b, rfl, rfl, trivial, _, g, ⟨by rw [unIts_its], by rw [unIts_its]⟩, ?_⟩
  all_goals
    simp only [unIts_its]
    refine bcase_mk (fun h => ⟨_, v, by simp, by decide, ?_⟩) (fun h => ?_)
    · rw [vs_set]
      exact h1 (by simpa using h)
    · exact h2 (by simpa using h)
end Go.Proofs.YtldcalmoboeeiaaDoor

namespace Go.Proofs.YtldcalmoboeeiaaDoor
open Go Go.AM Go.RowKit
attribute [local irreducible] aCode aUnr aUnS aOut
/-- Who is pushed, and the versions then: the two in order. -/
def pushes (us : List BA) (sd sd' : Sds) (nm nm' : Nms) (a : BA) : List BA := if itemsM us sd nm a = itemsM us sd' nm' a then [] else [a]
def pushM (us : List BA) (sd sd' : Sds) (nm nm' : Nms) (u c : BA) : List BA := pushes us sd sd' nm nm' (loB u c) ++ pushes us sd sd' nm nm' (hiB u c)
def bumps (vs : Vss) (l : List BA) : Vss := l.foldl bump vs
def ETurnN : REnt := fun al o q => ∃ us sd nm vs x u c, al = [.rf 0 0, mkS u, mkS c, clN] ∧ o = boN us sd nm vs x u c ∧
  bcase (pushM us sd sd nm (aset (u, c) x nm) u c).isEmpty (q (.ag [.nl, .nl]) (boN us sd (aset (u, c) x nm) (bumps vs (pushM us sd sd nm (aset (u, c) x nm) u c)) x u c))
    (q (.ag [.d (.sl (strsD (pushM us sd sd nm (aset (u, c) x nm) u c))), .nl]) (boN us sd (aset (u, c) x nm) (bumps vs (pushM us sd sd nm (aset (u, c) x nm) u c)) x u c))
theorem bon_trim {q : AV → List Ob → Prop} {av : AV} {us : List BA} {sd : Sds} {nm : Nms} {vs : Vss} {x u c : BA} {o : List Ob} (h : leR av av) (hf : av.fits 9 = true) (hq : q av (boN us sd nm vs x u c)) : trimR q av (boN us sd nm vs x u c ++ o) :=
  ⟨av, boN us sd nm vs x u c, h, by simp [leO, boN], by simp [boN, hf, Ob.fits, AV.fits, fitsL, mkSS, KK.isSy], hq⟩
theorem code_turn : Tryd.b47 = catC [[0], [1,0], [1,1,0], [1,1,1,0]] Tryd.b47 (catC [[1,1,1,1,0]] Tryd.b47 (.seq (cAt [1,1,1,1,1,0] Tryd.b47) (.seq (.seq (cAt [1,1,1,1,1,1,0,0] Tryd.b47) (.block 2 (.loop (cAt [1,1,1,1,1,1,0,1,0,0] Tryd.b47)))) (cAt [1,1,1,1,1,1,1] Tryd.b47)))) := by kernel_rfl
theorem k_nor {f : S → Prop} {q : Kont} {s : S} (h : f s) : kSeq f q .nor s := h
theorem l_succ {B : Kont → S → Prop} {q : Kont} {n : Nat} {s : S} (h : B (kSeq (aLoopN B q n) q) s) : aLoopN B q (n + 1) s := h
theorem leR_ag (l : List AV) : leR (.ag l) (.ag l) := by simp [leR, leL, leA]
theorem cTurnN : RSound Tryd.prog 47 ETurnN := by
  refine ref_gen trimZ trimZ_ok (unS_bsound (c := Tryd.b47) 3 mixed k2_ok gt_ok) k2_ok Tryd.func47 rfl rfl Tryd.call47 fun al o q ⟨us, sd, nm, vs, x, u, c, h1, h2, hq⟩ => ?_
  subst h1 h2
  refine cast (congrArg (fun z => aUnS K2 GT 3 z (kRetF K2 Tryd.f47.results.toList (trimZ q)) ⟨[.rf 0 0, mkS u, mkS c, clN] ++ List.replicate (Tryd.f47.ntmps - 4) .jk, boN us sd nm vs x u c⟩) code_turn.symm) ?_
  refine cast (unS_cat _ _ _ [[0], [1,0], [1,1,0], [1,1,1,0]] _) (pNa ?_)
  unfold pushM at hq
  generalize loB u c = a at hq ⊢
  generalize hiB u c = b at hq ⊢
  refine k_nor (cast (unS_cat _ _ _ [[1,1,1,1,0]] _) (pNb ?_))
  have ha : alk a (aset b (itemsM us sd nm b) (aset a (itemsM us sd nm a) [])) = some (itemsM us sd nm a) := by
    rw [alk_set, alk_set]
    by_cases e : a = b
    · subst e; simp
    · simp [e]
  have hb : alk b (aset b (itemsM us sd nm b) (aset a (itemsM us sd nm a) [])) = some (itemsM us sd nm b) := by
    rw [alk_set]; simp
  generalize aset b (itemsM us sd nm b) (aset a (itemsM us sd nm a) []) = w at ha hb ⊢
  refine k_nor (cast (unS_assoc2 _ _ _ _ _ _).symm (cast (unS_cat _ _ _ [[1,1,1,1,1,0], [1,1,1,1,1,1,0,0]] _) (pNd ?_)))
  unfold pushes at hq
  generalize aset (u, c) x nm = nm' at hq ⊢
  refine k_nor (cast (unS_loop _ _ _ _ _).symm (l_succ (pNe ha (fun e1 => k_nor (l_succ (pNf hb (fun e2 => k_nor ?_) (fun e2 => k_nor ?_)))) (fun e1 => k_nor (l_succ (pNg hb (fun e2 => k_nor ?_) (fun e2 => k_nor ?_)))))))
  · refine cast (rNx1 _ _ _ _ _ _ _ _ _ _ _ _ _ _ _ _ _).symm ?_
    rw [if_neg e1, if_neg e2] at hq
    exact ⟨[23], bon_trim (leR_ag [.d (.sl (strsD [a, b])), .nl]) rfl hq⟩
  · refine cast (rNx2 _ _ _ _ _ _ _ _ _ _ _ _ _ _ _ _ _).symm ?_
    rw [if_neg e1, if_pos e2] at hq
    exact ⟨[23], bon_trim (leR_ag [.d (.sl (strsD [a])), .nl]) rfl hq⟩
  · refine cast (rNx3 _ _ _ _ _ _ _ _ _ _ _ _ _ _ _ _ _).symm ?_
    rw [if_pos e1, if_neg e2] at hq
    exact ⟨[25], bon_trim (leR_ag [.d (.sl (strsD [b])), .nl]) rfl hq⟩
  · refine cast (rNx4 _ _ _ _ _ _ _ _ _ _ _ _ _ _ _).symm ?_
    rw [if_pos e1, if_pos e2] at hq
    exact ⟨[], bon_trim (leR_ag [.nl, .nl]) rfl hq⟩
end Go.Proofs.YtldcalmoboeeiaaDoor
