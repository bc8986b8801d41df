import Derived.Test.YtfdmmgiefhhnoaaGreatDoorStaRef
set_option linter.unusedSimpArgs false
set_option linter.unusedVariables false
namespace Go.Proofs.YtfdmmgiefhhnoaaGreatDoor
open Go Go.AM Go.RowKit
attribute [local irreducible] aCode
def szO (s : Sz) : Ob := .box [mkI .i64 s.kind, mkS s.ty, mkS s.id, mkS s.from_, mkS s.to_, mkS s.show_, mkS s.tok, mkS s.rea, mkI .u32 s.h, mkI .i64 s.ver, mkB s.rem, .d (.sl (itsD s.its))]
def elO (n : BA) (l : List At) (t : BA) (k : List El) : Ob := .box [mkS n, .d (.sl (atsD l)), mkS t, .d (.sl (ksD k))]
def iqT (s : Sz) : BA := strD (List.getD (List.drop 0 (List.getD [[D.v (.string sGet)], [D.v (.string sSet)], [D.v (.string sResult)], [D.v (.string sError)]] (Int.toNat (IntKind.wrap .i64 ((Sz.kind s) - (2 : Int)))) [])) 0 d0)
def rwN (s : Sz) : BA := strD (List.getD (List.drop 0 (List.getD [[D.v (.string ⟨#[]⟩)], [D.v (.string sPresence)], [D.v (.string sIq)], [D.v (.string sIq)], [D.v (.string sIq)], [D.v (.string sIq)], [D.v (.string sEnable)], [D.v (.string sEnabled)], [D.v (.string sR)], [D.v (.string sA)], [D.v (.string sResume)], [D.v (.string sResumed)], [D.v (.string sFailed)], [D.v (.string sActive)], [D.v (.string sInactive)]] (Int.toNat (Sz.kind s)) [])) 0 d0)
def elA (n : BA) (l : List At) (t : BA) (k : List El) : AV := .ag [mkS n, .d (.sl (atsD l)), mkS t, .d (.sl (ksD k))]
noncomputable abbrev GQry : List (FuncId × En) := [(55, .pure EItm), (18, .pure ETxA)]
noncomputable def rQry_k0 (q : AV → Prop) : Kont := kBlk (0 : Nat) (kSeq (aCode KS GQry (cAt [1, 1, 1, 1, 1] Tryz.b33) (kRet KS (Array.toList (Func.results Tryz.f33)) q)) (kRet KS (Array.toList (Func.results Tryz.f33)) q))
noncomputable abbrev rQry_e0 (s : Sz) (q : AV → Prop) (n : Int) : Prop := ((∀ (c : List D), (c ∈ [[D.v (.string kVer), D.v (.string (decS (Int.toNat n)))]]) → (List.length c) = 2) ∧ ((1 ≤ LIM) ∧ (ALoop (aCode KS GQry (cAt [1, 1, 1, 1, 0, 1, 0, 0] Tryz.b33)) (rQry_k0 q) ⟨[szV s, .rf 0 0, .rf 1 0, mkB false, .rf 2 0, mkI .i64 0, .jk, .jk, .ag [mkS sQuery, .nl, mkS ⟨#[]⟩, .nl], .rf 0 (0 + 9), mkI .i64 (Sz.ver s), mkB (decide ((Sz.ver s) < (0 : Int))), mkB false, .rf 0 (0 + 9), mkI .i64 (Sz.ver s), mkB (decide ((Sz.ver s) > (1000000 : Int))), mkB (decide ((Sz.ver s) > (1000000 : Int))), mkB false, .rf 0 (0 + 11), .d (.sl (itsD (Sz.its s))), mkI .i64 ((List.length (itsD (Sz.its s))) : Int), mkB (decide (((List.length (itsD (Sz.its s))) : Int) > (16 : Int))), mkB false, .jk, .rf 0 (0 + 9), mkI .i64 (Sz.ver s), mkB true, .rf 2 (0 + 1), .nl, .rf 0 (0 + 9), mkI .i64 (Sz.ver s), mkI .u32 (IntKind.wrap .u32 (Sz.ver s)), mkS (decS (Int.toNat n)), .ag [mkS kVer, mkS (decS (Int.toNat n))], .vw 3 1, .vw 4 1, .rf 2 (0 + 1)] ++ (jks 28), [szO s, .box [mkS ⟨#[]⟩, .nl, mkS ⟨#[]⟩, .nl], .box [mkS sQuery, .vw 4 1, mkS ⟨#[]⟩, .nl], .row 2 [[D.v (.string kVer), D.v (.string (decS (Int.toNat n)))]], .row 2 [[D.v (.string kVer), D.v (.string (decS (Int.toNat n)))]]]⟩)))
theorem rQry (s : Sz) (q : AV → Prop) :
 (aCode KS GQry Tryz.b33 (kRet KS Tryz.f33.results.toList q) ⟨[szV s] ++ List.replicate (Tryz.f33.ntmps - 1) .jk, []⟩) = (
 bcase (decide ((Sz.ver s) < (0 : Int))) (
 q (AV.tp [AV.ag [mkS sQuery, AV.d (.sl []), mkS ⟨#[]⟩, AV.d (.sl [])], mkB false])) (
 bcase (decide ((Sz.ver s) > (1000000 : Int))) (
 q (AV.tp [AV.ag [mkS sQuery, AV.d (.sl []), mkS ⟨#[]⟩, AV.d (.sl [])], mkB false])) (
 ((List.length (itsD (Sz.its s))) ≤ LIM) →
 bcase (decide (((List.length (itsD (Sz.its s))) : Int) > (16 : Int))) (
 q (AV.tp [AV.ag [mkS sQuery, AV.d (.sl []), mkS ⟨#[]⟩, AV.d (.sl [])], mkB false])) (
 bcase (decide ((Sz.ver s) > (0 : Int))) (
 (∃ (n : Int), ([mkI .u32 (IntKind.wrap .u32 (Sz.ver s))] = [mkI .u32 n]) ∧ ((((0 : Int) ≤ n) ∧ (n ≤ (4294967295 : Int))) ∧ (rQry_e0 s q n))) ∧ (
 ∃ (n : Int),
 ([mkI .u32 (IntKind.wrap .u32 (Sz.ver s))] = [mkI .u32 n]) ∧
 (((0 : Int) ≤ n) ∧ (n ≤ (4294967295 : Int))) ∧
 (rQry_e0 s q n) ∧
 (rQry_e0 s q n) ∧
 (∀ (c : List D), (c ∈ [[D.v (.string kVer), D.v (.string (decS (Int.toNat n)))]]) → (List.length c) = 2) ∧
 (1 ≤ LIM) ∧
 ALoop (aCode KS GQry (cAt [1, 1, 1, 1, 0, 1, 0, 0] Tryz.b33)) (rQry_k0 q) ⟨[szV s, .rf 0 0, .rf 1 0, mkB false, .rf 2 0, mkI .i64 0, .jk, .jk, .ag [mkS sQuery, .nl, mkS ⟨#[]⟩, .nl], .rf 0 (0 + 9), mkI .i64 (Sz.ver s), mkB (decide ((Sz.ver s) < (0 : Int))), mkB false, .rf 0 (0 + 9), mkI .i64 (Sz.ver s), mkB (decide ((Sz.ver s) > (1000000 : Int))), mkB (decide ((Sz.ver s) > (1000000 : Int))), mkB false, .rf 0 (0 + 11), .d (.sl (itsD (Sz.its s))), mkI .i64 ((List.length (itsD (Sz.its s))) : Int), mkB (decide (((List.length (itsD (Sz.its s))) : Int) > (16 : Int))), mkB false, .jk, .rf 0 (0 + 9), mkI .i64 (Sz.ver s), mkB true, .rf 2 (0 + 1), .nl, .rf 0 (0 + 9), mkI .i64 (Sz.ver s), mkI .u32 (IntKind.wrap .u32 (Sz.ver s)), mkS (decS (Int.toNat n)), .ag [mkS kVer, mkS (decS (Int.toNat n))], .vw 3 1, .vw 4 1, .rf 2 (0 + 1)] ++ (jks 28), [szO s, .box [mkS ⟨#[]⟩, .nl, mkS ⟨#[]⟩, .nl], .box [mkS sQuery, .vw 4 1, mkS ⟨#[]⟩, .nl], .row 2 [[D.v (.string kVer), D.v (.string (decS (Int.toNat n)))]], .row 2 [[D.v (.string kVer), D.v (.string (decS (Int.toNat n)))]]]⟩)) (
 ALoop (aCode KS GQry (cAt [1, 1, 1, 1, 0, 1, 0, 0] Tryz.b33)) (rQry_k0 q) ⟨[szV s, .rf 0 0, .rf 1 0, mkB false, .rf 2 0, mkI .i64 0, .jk, .jk, .ag [mkS sQuery, .nl, mkS ⟨#[]⟩, .nl], .rf 0 (0 + 9), mkI .i64 (Sz.ver s), mkB (decide ((Sz.ver s) < (0 : Int))), mkB false, .rf 0 (0 + 9), mkI .i64 (Sz.ver s), mkB (decide ((Sz.ver s) > (1000000 : Int))), mkB (decide ((Sz.ver s) > (1000000 : Int))), mkB false, .rf 0 (0 + 11), .d (.sl (itsD (Sz.its s))), mkI .i64 ((List.length (itsD (Sz.its s))) : Int), mkB (decide (((List.length (itsD (Sz.its s))) : Int) > (16 : Int))), mkB false, .jk, .rf 0 (0 + 9), mkI .i64 (Sz.ver s), mkB false] ++ (jks 38), [szO s, .box [mkS ⟨#[]⟩, .nl, mkS ⟨#[]⟩, .nl], .box [mkS sQuery, .nl, mkS ⟨#[]⟩, .nl]]⟩))))) := by kernel_rfl
def stQ (s : Sz) (va : List At) (ks : List (List D)) (i : Int) : S := ⟨[.jk, .rf 0 0, .rf 1 0, mkB false, .rf 2 0, mkI .i64 i] ++ jks 59, [szO s, .box [mkS ⟨#[]⟩, .nl, mkS ⟨#[]⟩, .nl], .box [mkS sQuery, .d (.sl (atsD va)), mkS ⟨#[]⟩, .vw 3 ks.length], .row 4 ks]⟩
theorem rQry_b {ι : Type} (st : ι → S) (inv : ι → Prop) (μ : ι → Nat) (kk : ι) (s : Sz) (va : List At) (ks : List (List D)) (i : Int) (q : AV → Prop) :
 (aCode KS GQry (cAt [1, 1, 1, 1, 0, 1, 0, 0] Tryz.b33) (kFamM [] (maskOf (stQ s va ks i)) st inv μ kk (rQry_k0 q)) (stQ s va ks i)) = (
 ((List.length (itsD (Sz.its s))) ≤ LIM) →
 bcase (decide (i < ((List.length (itsD (Sz.its s))) : Int))) (
 (((0 : Int) ≤ i) ∧ (i < ((List.length (itsD (Sz.its s))) : Int))) ∧
 ((List.length (List.getD (itsD (Sz.its s)) (Int.toNat i) [])) = 4) ∧
 (4 ≤ (List.length (List.getD (itsD (Sz.its s)) (Int.toNat i) []))) ∧
 (((List.getD (List.getD (itsD (Sz.its s)) (Int.toNat i) []) 0 d0) = (D.v (.string (strD (List.getD (List.getD (itsD (Sz.its s)) (Int.toNat i) []) 0 d0))))) ∧ (((List.getD (List.drop 1 (List.getD (itsD (Sz.its s)) (Int.toNat i) [])) 0 d0) = (D.v (.string (strD (List.getD (List.drop 1 (List.getD (itsD (Sz.its s)) (Int.toNat i) [])) 0 d0))))) ∧ (((List.getD (List.drop 1 (List.drop 1 (List.getD (itsD (Sz.its s)) (Int.toNat i) []))) 0 d0) = (D.v (.int IntKind.i64 (intD (List.getD (List.drop 1 (List.drop 1 (List.getD (itsD (Sz.its s)) (Int.toNat i) []))) 0 d0))))) ∧ (((List.getD (List.drop 1 (List.drop 1 (List.drop 1 (List.getD (itsD (Sz.its s)) (Int.toNat i) [])))) 0 d0) = (D.v (.bool (boolD (List.getD (List.drop 1 (List.drop 1 (List.drop 1 (List.getD (itsD (Sz.its s)) (Int.toNat i) [])))) 0 d0))))) ∧ True)))) ∧
 (∃ (c : ByteArray), ∃ (n : ByteArray), ∃ (z : Int), ∃ (a : Bool), ∃ (r : Bool), ([AV.ag [mkS (strD (List.getD (List.getD (itsD (Sz.its s)) (Int.toNat i) []) 0 d0)), mkS (strD (List.getD (List.drop 1 (List.getD (itsD (Sz.its s)) (Int.toNat i) [])) 0 d0)), mkI .i64 (intD (List.getD (List.drop 1 (List.drop 1 (List.getD (itsD (Sz.its s)) (Int.toNat i) []))) 0 d0)), mkB (boolD (List.getD (List.drop 1 (List.drop 1 (List.drop 1 (List.getD (itsD (Sz.its s)) (Int.toNat i) [])))) 0 d0))], mkB (Sz.rem s)] = [AV.ag [mkS c, mkS n, mkI .i64 z, mkB a], mkB r]) ∧ (((ByteArray.size n) ≤ LIM) ∧ (∀ (n' : BA), ∀ (L : List (List D)), ∀ (t : BA), ∀ (K : List (List D)), ∀ (b : Bool), (b = (itOk r (It.mk c n z a))) → ((b = true) → (n' = (El.n (itemE r (It.mk c n z a)))) ∧ ((L = (atsD (El.ats (itemE r (It.mk c n z a))))) ∧ ((t = (El.t (itemE r (It.mk c n z a)))) ∧ (K = [])))) → bcase (!b) (q (AV.tp [AV.ag [mkS sQuery, AV.d (.sl (atsD va)), mkS ⟨#[]⟩, AV.d (.sl (List.take (List.length ks) ks))], mkB false])) ((∀ (c_1 : List D), (c_1 ∈ [[D.v (.string n'), D.sl L, D.v (.string t), D.sl K]]) → (List.length c_1) = 4) ∧ (((List.length ks) = (List.length ks)) ∧ ((((List.length ks) + 1) ≤ LIM) ∧ (FamNext st inv μ kk ⟨[.jk, .rf 0 0, .rf 1 0, mkB false, .rf 2 0, mkI .i64 (IntKind.wrap .i64 (i + (1 : Int)))] ++ (jks 59), [szO s, .box [mkS ⟨#[]⟩, .nl, mkS ⟨#[]⟩, .nl], .box [mkS sQuery, .d (.sl (atsD va)), mkS ⟨#[]⟩, .vw 3 ((List.length ks) + 1)], .row 4 (ks ++ [[D.v (.string n'), D.sl L, D.v (.string t), D.sl K]]), .box [mkS n', .d (.sl L), mkS t, .d (.sl K)], .row 4 [[D.v (.string n'), D.sl L, D.v (.string t), D.sl K]]]⟩))))))) ∧ (
 ∃ (c : ByteArray),
 ∃ (n : ByteArray),
 ∃ (z : Int),
 ∃ (a : Bool),
 ∃ (r : Bool),
 ([AV.ag [mkS (strD (List.getD (List.getD (itsD (Sz.its s)) (Int.toNat i) []) 0 d0)), mkS (strD (List.getD (List.drop 1 (List.getD (itsD (Sz.its s)) (Int.toNat i) [])) 0 d0)), mkI .i64 (intD (List.getD (List.drop 1 (List.drop 1 (List.getD (itsD (Sz.its s)) (Int.toNat i) []))) 0 d0)), mkB (boolD (List.getD (List.drop 1 (List.drop 1 (List.drop 1 (List.getD (itsD (Sz.its s)) (Int.toNat i) [])))) 0 d0))], mkB (Sz.rem s)] = [AV.ag [mkS c, mkS n, mkI .i64 z, mkB a], mkB r]) ∧
 ((ByteArray.size n) ≤ LIM) ∧ (
 ∀ (n' : BA),
 ∀ (L : List (List D)),
 ∀ (t : BA),
 ∀ (K : List (List D)),
 ∀ (b : Bool),
 (b = (itOk r (It.mk c n z a))) →
 ((b = true) → (n' = (El.n (itemE r (It.mk c n z a)))) ∧ ((L = (atsD (El.ats (itemE r (It.mk c n z a))))) ∧ ((t = (El.t (itemE r (It.mk c n z a)))) ∧ (K = [])))) →
 bcase (!b) (
 q (AV.tp [AV.ag [mkS sQuery, AV.d (.sl (atsD va)), mkS ⟨#[]⟩, AV.d (.sl (List.take (List.length ks) ks))], mkB false])) (
 (∀ (c_1 : List D), (c_1 ∈ [[D.v (.string n'), D.sl L, D.v (.string t), D.sl K]]) → (List.length c_1) = 4) ∧
 ((List.length ks) = (List.length ks)) ∧
 (((List.length ks) + 1) ≤ LIM) ∧
 FamNext st inv μ kk ⟨[.jk, .rf 0 0, .rf 1 0, mkB false, .rf 2 0, mkI .i64 (IntKind.wrap .i64 (i + (1 : Int)))] ++ (jks 59), [szO s, .box [mkS ⟨#[]⟩, .nl, mkS ⟨#[]⟩, .nl], .box [mkS sQuery, .d (.sl (atsD va)), mkS ⟨#[]⟩, .vw 3 ((List.length ks) + 1)], .row 4 (ks ++ [[D.v (.string n'), D.sl L, D.v (.string t), D.sl K]]), .box [mkS n', .d (.sl L), mkS t, .d (.sl K)], .row 4 [[D.v (.string n'), D.sl L, D.v (.string t), D.sl K]]]⟩)))) (
 q (AV.tp [AV.ag [mkS sQuery, AV.d (.sl (atsD va)), mkS ⟨#[]⟩, AV.d (.sl (List.take (List.length ks) ks))], mkB true]))) := by kernel_rfl
noncomputable abbrev GPrs : List (FuncId × En) := [(31, .det FAm), (32, .det (strF addrE))]
theorem rPrs (s : Sz) (q : AV → Prop) :
 (aCode KS GPrs Tryz.b15 (kRet KS Tryz.f15.results.toList q) ⟨[szV s] ++ List.replicate (Tryz.f15.ntmps - 1) .jk, []⟩) = (
 ([[D.v (.string ⟨#[]⟩)], [D.v (.string sUnav)], [D.v (.string sSubscribe)], [D.v (.string sSubscribed)], [D.v (.string sUnsub)], [D.v (.string sUnsubd)]] = (strsD (unSS [[D.v (.string ⟨#[]⟩)], [D.v (.string sUnav)], [D.v (.string sSubscribe)], [D.v (.string sSubscribed)], [D.v (.string sUnsub)], [D.v (.string sUnsubd)]]))) ∧
 bcase (!(memB (Sz.ty s) (unSS [[D.v (.string ⟨#[]⟩)], [D.v (.string sUnav)], [D.v (.string sSubscribe)], [D.v (.string sSubscribed)], [D.v (.string sUnsub)], [D.v (.string sUnsubd)]]))) (
 q (AV.tp [AV.ag [mkS sPresence, AV.d (.sl []), mkS ⟨#[]⟩, AV.d (.sl [])], mkB false])) (
 ([[D.v (.string ⟨#[]⟩)], [D.v (.string sAway)], [D.v (.string sChat)], [D.v (.string sDnd)], [D.v (.string sXa)]] = (strsD (unSS [[D.v (.string ⟨#[]⟩)], [D.v (.string sAway)], [D.v (.string sChat)], [D.v (.string sDnd)], [D.v (.string sXa)]]))) ∧
 bcase (!(memB (Sz.show_ s) (unSS [[D.v (.string ⟨#[]⟩)], [D.v (.string sAway)], [D.v (.string sChat)], [D.v (.string sDnd)], [D.v (.string sXa)]]))) (
 q (AV.tp [AV.ag [mkS sPresence, AV.d (.sl []), mkS ⟨#[]⟩, AV.d (.sl [])], mkB false])) (
 bcase (!(decide ((Sz.ty s) = ⟨#[]⟩))) (
 bcase (!(decide ((Sz.show_ s) = ⟨#[]⟩))) (
 q (AV.tp [AV.ag [mkS sPresence, AV.d (.sl []), mkS ⟨#[]⟩, AV.d (.sl [])], mkB false])) (
 ((ByteArray.size (Sz.from_ s)) ≤ LIM) ∧
 bcase (!(addrE (Sz.from_ s))) (
 q (AV.tp [AV.ag [mkS sPresence, AV.d (.sl []), mkS ⟨#[]⟩, AV.d (.sl [])], mkB false])) (
 ((ByteArray.size (Sz.to_ s)) ≤ LIM) ∧
 bcase (!(addrE (Sz.to_ s))) (
 q (AV.tp [AV.ag [mkS sPresence, AV.d (.sl []), mkS ⟨#[]⟩, AV.d (.sl [])], mkB false])) (
 bcase (!(decide ((Sz.ty s) = ⟨#[]⟩))) (
 (∀ (c : List D), (c ∈ [[D.v (.string kType), D.v (.string (Sz.ty s))]]) → (List.length c) = 2) ∧
 (1 ≤ LIM) ∧
 bcase (!(decide ((Sz.from_ s) = ⟨#[]⟩))) (
 (∀ (c : List D), (c ∈ [[D.v (.string kFrom), D.v (.string (Sz.from_ s))]]) → (List.length c) = 2) ∧
 (1 = 1) ∧
 ((1 + 1) ≤ LIM) ∧
 bcase (!(decide ((Sz.to_ s) = ⟨#[]⟩))) (
 (∀ (c : List D), (c ∈ [[D.v (.string kTo), D.v (.string (Sz.to_ s))]]) → (List.length c) = 2) ∧
 ((1 + 1) = 2) ∧
 ((2 + 1) ≤ LIM) ∧
 bcase (!(decide ((Sz.show_ s) = ⟨#[]⟩))) (
 q (AV.tp [AV.ag [mkS sPresence, AV.d (.sl [[D.v (.string kType), D.v (.string (Sz.ty s))], [D.v (.string kFrom), D.v (.string (Sz.from_ s))], [D.v (.string kTo), D.v (.string (Sz.to_ s))]]), mkS ⟨#[]⟩, AV.d (.sl [[D.v (.string sShow), D.sl [], D.v (.string (Sz.show_ s)), D.sl []]])], mkB true])) (
 q (AV.tp [AV.ag [mkS sPresence, AV.d (.sl [[D.v (.string kType), D.v (.string (Sz.ty s))], [D.v (.string kFrom), D.v (.string (Sz.from_ s))], [D.v (.string kTo), D.v (.string (Sz.to_ s))]]), mkS ⟨#[]⟩, AV.d (.sl [])], mkB true]))) (
 bcase (!(decide ((Sz.show_ s) = ⟨#[]⟩))) (
 q (AV.tp [AV.ag [mkS sPresence, AV.d (.sl [[D.v (.string kType), D.v (.string (Sz.ty s))], [D.v (.string kFrom), D.v (.string (Sz.from_ s))]]), mkS ⟨#[]⟩, AV.d (.sl [[D.v (.string sShow), D.sl [], D.v (.string (Sz.show_ s)), D.sl []]])], mkB true])) (
 q (AV.tp [AV.ag [mkS sPresence, AV.d (.sl [[D.v (.string kType), D.v (.string (Sz.ty s))], [D.v (.string kFrom), D.v (.string (Sz.from_ s))]]), mkS ⟨#[]⟩, AV.d (.sl [])], mkB true])))) (
 bcase (!(decide ((Sz.to_ s) = ⟨#[]⟩))) (
 (∀ (c : List D), (c ∈ [[D.v (.string kTo), D.v (.string (Sz.to_ s))]]) → (List.length c) = 2) ∧
 (1 = 1) ∧
 ((1 + 1) ≤ LIM) ∧
 bcase (!(decide ((Sz.show_ s) = ⟨#[]⟩))) (
 q (AV.tp [AV.ag [mkS sPresence, AV.d (.sl [[D.v (.string kType), D.v (.string (Sz.ty s))], [D.v (.string kTo), D.v (.string (Sz.to_ s))]]), mkS ⟨#[]⟩, AV.d (.sl [[D.v (.string sShow), D.sl [], D.v (.string (Sz.show_ s)), D.sl []]])], mkB true])) (
 q (AV.tp [AV.ag [mkS sPresence, AV.d (.sl [[D.v (.string kType), D.v (.string (Sz.ty s))], [D.v (.string kTo), D.v (.string (Sz.to_ s))]]), mkS ⟨#[]⟩, AV.d (.sl [])], mkB true]))) (
 bcase (!(decide ((Sz.show_ s) = ⟨#[]⟩))) (
 q (AV.tp [AV.ag [mkS sPresence, AV.d (.sl [[D.v (.string kType), D.v (.string (Sz.ty s))]]), mkS ⟨#[]⟩, AV.d (.sl [[D.v (.string sShow), D.sl [], D.v (.string (Sz.show_ s)), D.sl []]])], mkB true])) (
 q (AV.tp [AV.ag [mkS sPresence, AV.d (.sl [[D.v (.string kType), D.v (.string (Sz.ty s))]]), mkS ⟨#[]⟩, AV.d (.sl [])], mkB true]))))) (
 bcase (!(decide ((Sz.from_ s) = ⟨#[]⟩))) (
 (∀ (c : List D), (c ∈ [[D.v (.string kFrom), D.v (.string (Sz.from_ s))]]) → (List.length c) = 2) ∧
 (1 ≤ LIM) ∧
 bcase (!(decide ((Sz.to_ s) = ⟨#[]⟩))) (
 (∀ (c : List D), (c ∈ [[D.v (.string kTo), D.v (.string (Sz.to_ s))]]) → (List.length c) = 2) ∧
 (1 = 1) ∧
 ((1 + 1) ≤ LIM) ∧
 bcase (!(decide ((Sz.show_ s) = ⟨#[]⟩))) (
 q (AV.tp [AV.ag [mkS sPresence, AV.d (.sl [[D.v (.string kFrom), D.v (.string (Sz.from_ s))], [D.v (.string kTo), D.v (.string (Sz.to_ s))]]), mkS ⟨#[]⟩, AV.d (.sl [[D.v (.string sShow), D.sl [], D.v (.string (Sz.show_ s)), D.sl []]])], mkB true])) (
 q (AV.tp [AV.ag [mkS sPresence, AV.d (.sl [[D.v (.string kFrom), D.v (.string (Sz.from_ s))], [D.v (.string kTo), D.v (.string (Sz.to_ s))]]), mkS ⟨#[]⟩, AV.d (.sl [])], mkB true]))) (
 bcase (!(decide ((Sz.show_ s) = ⟨#[]⟩))) (
 q (AV.tp [AV.ag [mkS sPresence, AV.d (.sl [[D.v (.string kFrom), D.v (.string (Sz.from_ s))]]), mkS ⟨#[]⟩, AV.d (.sl [[D.v (.string sShow), D.sl [], D.v (.string (Sz.show_ s)), D.sl []]])], mkB true])) (
 q (AV.tp [AV.ag [mkS sPresence, AV.d (.sl [[D.v (.string kFrom), D.v (.string (Sz.from_ s))]]), mkS ⟨#[]⟩, AV.d (.sl [])], mkB true])))) (
 bcase (!(decide ((Sz.to_ s) = ⟨#[]⟩))) (
 (∀ (c : List D), (c ∈ [[D.v (.string kTo), D.v (.string (Sz.to_ s))]]) → (List.length c) = 2) ∧
 (1 ≤ LIM) ∧
 bcase (!(decide ((Sz.show_ s) = ⟨#[]⟩))) (
 q (AV.tp [AV.ag [mkS sPresence, AV.d (.sl [[D.v (.string kTo), D.v (.string (Sz.to_ s))]]), mkS ⟨#[]⟩, AV.d (.sl [[D.v (.string sShow), D.sl [], D.v (.string (Sz.show_ s)), D.sl []]])], mkB true])) (
 q (AV.tp [AV.ag [mkS sPresence, AV.d (.sl [[D.v (.string kTo), D.v (.string (Sz.to_ s))]]), mkS ⟨#[]⟩, AV.d (.sl [])], mkB true]))) (
 bcase (!(decide ((Sz.show_ s) = ⟨#[]⟩))) (
 q (AV.tp [AV.ag [mkS sPresence, AV.d (.sl []), mkS ⟨#[]⟩, AV.d (.sl [[D.v (.string sShow), D.sl [], D.v (.string (Sz.show_ s)), D.sl []]])], mkB true])) (
 q (AV.tp [AV.ag [mkS sPresence, AV.d (.sl []), mkS ⟨#[]⟩, AV.d (.sl [])], mkB true]))))))))) (
 ((ByteArray.size (Sz.from_ s)) ≤ LIM) ∧
 bcase (!(addrE (Sz.from_ s))) (
 q (AV.tp [AV.ag [mkS sPresence, AV.d (.sl []), mkS ⟨#[]⟩, AV.d (.sl [])], mkB false])) (
 ((ByteArray.size (Sz.to_ s)) ≤ LIM) ∧
 bcase (!(addrE (Sz.to_ s))) (
 q (AV.tp [AV.ag [mkS sPresence, AV.d (.sl []), mkS ⟨#[]⟩, AV.d (.sl [])], mkB false])) (
 bcase (!(decide ((Sz.ty s) = ⟨#[]⟩))) (
 (∀ (c : List D), (c ∈ [[D.v (.string kType), D.v (.string (Sz.ty s))]]) → (List.length c) = 2) ∧
 (1 ≤ LIM) ∧
 bcase (!(decide ((Sz.from_ s) = ⟨#[]⟩))) (
 (∀ (c : List D), (c ∈ [[D.v (.string kFrom), D.v (.string (Sz.from_ s))]]) → (List.length c) = 2) ∧
 (1 = 1) ∧
 ((1 + 1) ≤ LIM) ∧
 bcase (!(decide ((Sz.to_ s) = ⟨#[]⟩))) (
 (∀ (c : List D), (c ∈ [[D.v (.string kTo), D.v (.string (Sz.to_ s))]]) → (List.length c) = 2) ∧
 ((1 + 1) = 2) ∧
 ((2 + 1) ≤ LIM) ∧
 bcase (!(decide ((Sz.show_ s) = ⟨#[]⟩))) (
 q (AV.tp [AV.ag [mkS sPresence, AV.d (.sl [[D.v (.string kType), D.v (.string (Sz.ty s))], [D.v (.string kFrom), D.v (.string (Sz.from_ s))], [D.v (.string kTo), D.v (.string (Sz.to_ s))]]), mkS ⟨#[]⟩, AV.d (.sl [[D.v (.string sShow), D.sl [], D.v (.string (Sz.show_ s)), D.sl []]])], mkB true])) (
 q (AV.tp [AV.ag [mkS sPresence, AV.d (.sl [[D.v (.string kType), D.v (.string (Sz.ty s))], [D.v (.string kFrom), D.v (.string (Sz.from_ s))], [D.v (.string kTo), D.v (.string (Sz.to_ s))]]), mkS ⟨#[]⟩, AV.d (.sl [])], mkB true]))) (
 bcase (!(decide ((Sz.show_ s) = ⟨#[]⟩))) (
 q (AV.tp [AV.ag [mkS sPresence, AV.d (.sl [[D.v (.string kType), D.v (.string (Sz.ty s))], [D.v (.string kFrom), D.v (.string (Sz.from_ s))]]), mkS ⟨#[]⟩, AV.d (.sl [[D.v (.string sShow), D.sl [], D.v (.string (Sz.show_ s)), D.sl []]])], mkB true])) (
 q (AV.tp [AV.ag [mkS sPresence, AV.d (.sl [[D.v (.string kType), D.v (.string (Sz.ty s))], [D.v (.string kFrom), D.v (.string (Sz.from_ s))]]), mkS ⟨#[]⟩, AV.d (.sl [])], mkB true])))) (
 bcase (!(decide ((Sz.to_ s) = ⟨#[]⟩))) (
 (∀ (c : List D), (c ∈ [[D.v (.string kTo), D.v (.string (Sz.to_ s))]]) → (List.length c) = 2) ∧
 (1 = 1) ∧
 ((1 + 1) ≤ LIM) ∧
 bcase (!(decide ((Sz.show_ s) = ⟨#[]⟩))) (
 q (AV.tp [AV.ag [mkS sPresence, AV.d (.sl [[D.v (.string kType), D.v (.string (Sz.ty s))], [D.v (.string kTo), D.v (.string (Sz.to_ s))]]), mkS ⟨#[]⟩, AV.d (.sl [[D.v (.string sShow), D.sl [], D.v (.string (Sz.show_ s)), D.sl []]])], mkB true])) (
 q (AV.tp [AV.ag [mkS sPresence, AV.d (.sl [[D.v (.string kType), D.v (.string (Sz.ty s))], [D.v (.string kTo), D.v (.string (Sz.to_ s))]]), mkS ⟨#[]⟩, AV.d (.sl [])], mkB true]))) (
 bcase (!(decide ((Sz.show_ s) = ⟨#[]⟩))) (
 q (AV.tp [AV.ag [mkS sPresence, AV.d (.sl [[D.v (.string kType), D.v (.string (Sz.ty s))]]), mkS ⟨#[]⟩, AV.d (.sl [[D.v (.string sShow), D.sl [], D.v (.string (Sz.show_ s)), D.sl []]])], mkB true])) (
 q (AV.tp [AV.ag [mkS sPresence, AV.d (.sl [[D.v (.string kType), D.v (.string (Sz.ty s))]]), mkS ⟨#[]⟩, AV.d (.sl [])], mkB true]))))) (
 bcase (!(decide ((Sz.from_ s) = ⟨#[]⟩))) (
 (∀ (c : List D), (c ∈ [[D.v (.string kFrom), D.v (.string (Sz.from_ s))]]) → (List.length c) = 2) ∧
 (1 ≤ LIM) ∧
 bcase (!(decide ((Sz.to_ s) = ⟨#[]⟩))) (
 (∀ (c : List D), (c ∈ [[D.v (.string kTo), D.v (.string (Sz.to_ s))]]) → (List.length c) = 2) ∧
 (1 = 1) ∧
 ((1 + 1) ≤ LIM) ∧
 bcase (!(decide ((Sz.show_ s) = ⟨#[]⟩))) (
 q (AV.tp [AV.ag [mkS sPresence, AV.d (.sl [[D.v (.string kFrom), D.v (.string (Sz.from_ s))], [D.v (.string kTo), D.v (.string (Sz.to_ s))]]), mkS ⟨#[]⟩, AV.d (.sl [[D.v (.string sShow), D.sl [], D.v (.string (Sz.show_ s)), D.sl []]])], mkB true])) (
 q (AV.tp [AV.ag [mkS sPresence, AV.d (.sl [[D.v (.string kFrom), D.v (.string (Sz.from_ s))], [D.v (.string kTo), D.v (.string (Sz.to_ s))]]), mkS ⟨#[]⟩, AV.d (.sl [])], mkB true]))) (
 bcase (!(decide ((Sz.show_ s) = ⟨#[]⟩))) (
 q (AV.tp [AV.ag [mkS sPresence, AV.d (.sl [[D.v (.string kFrom), D.v (.string (Sz.from_ s))]]), mkS ⟨#[]⟩, AV.d (.sl [[D.v (.string sShow), D.sl [], D.v (.string (Sz.show_ s)), D.sl []]])], mkB true])) (
 q (AV.tp [AV.ag [mkS sPresence, AV.d (.sl [[D.v (.string kFrom), D.v (.string (Sz.from_ s))]]), mkS ⟨#[]⟩, AV.d (.sl [])], mkB true])))) (
 bcase (!(decide ((Sz.to_ s) = ⟨#[]⟩))) (
 (∀ (c : List D), (c ∈ [[D.v (.string kTo), D.v (.string (Sz.to_ s))]]) → (List.length c) = 2) ∧
 (1 ≤ LIM) ∧
 bcase (!(decide ((Sz.show_ s) = ⟨#[]⟩))) (
 q (AV.tp [AV.ag [mkS sPresence, AV.d (.sl [[D.v (.string kTo), D.v (.string (Sz.to_ s))]]), mkS ⟨#[]⟩, AV.d (.sl [[D.v (.string sShow), D.sl [], D.v (.string (Sz.show_ s)), D.sl []]])], mkB true])) (
 q (AV.tp [AV.ag [mkS sPresence, AV.d (.sl [[D.v (.string kTo), D.v (.string (Sz.to_ s))]]), mkS ⟨#[]⟩, AV.d (.sl [])], mkB true]))) (
 bcase (!(decide ((Sz.show_ s) = ⟨#[]⟩))) (
 q (AV.tp [AV.ag [mkS sPresence, AV.d (.sl []), mkS ⟨#[]⟩, AV.d (.sl [[D.v (.string sShow), D.sl [], D.v (.string (Sz.show_ s)), D.sl []]])], mkB true])) (
 q (AV.tp [AV.ag [mkS sPresence, AV.d (.sl []), mkS ⟨#[]⟩, AV.d (.sl [])], mkB true]))))))))))) := by kernel_rfl
def EQry : List AV → (AV → Prop) → Prop := fun al q => ∃ s, al = [szV s] ∧ FitS s ∧ ∀ n L t K b, (b = true ↔ qOk s) → (b = true → IsEl n L t K (.mk sQuery (listedA s) ⟨#[]⟩ (listedK s))) → q (.tp [.ag [mkS n, .d (.sl L), mkS t, .d (.sl K)], mkB b])
noncomputable abbrev GIqR : List (FuncId × En) := [(33, .pure EQry), (17, .det (strF wordB))]
noncomputable abbrev rIqR_e0 (s : Sz) (q : AV → Prop) (n : BA) (L : List (List D)) (t : BA) (K : List (List D)) : Prop := (bcase ((Sz.kind s) == (2 : Int)) (((List.length (itsD (Sz.its s))) ≤ LIM) → q (AV.tp [AV.ag [mkS sIq, AV.d (.sl [[D.v (.string kType), D.v (.string (iqT s))], [D.v (.string kId), D.v (.string (Sz.id s))]]), mkS ⟨#[]⟩, AV.d (.sl [[D.v (.string n), D.sl L, D.v (.string t), D.sl K]])], mkB (((List.length (itsD (Sz.its s))) : Int) == (0 : Int))])) (bcase ((Sz.kind s) == (4 : Int)) ((q (AV.tp [AV.ag [mkS sIq, AV.d (.sl [[D.v (.string kType), D.v (.string (iqT s))], [D.v (.string kId), D.v (.string (Sz.id s))]]), mkS ⟨#[]⟩, AV.d (.sl [[D.v (.string n), D.sl L, D.v (.string t), D.sl K]])], mkB true])) ∧ (q (AV.tp [AV.ag [mkS sIq, AV.d (.sl [[D.v (.string kType), D.v (.string (iqT s))], [D.v (.string kId), D.v (.string (Sz.id s))]]), mkS ⟨#[]⟩, AV.d (.sl [[D.v (.string n), D.sl L, D.v (.string t), D.sl K]])], mkB true]))) (((List.length (itsD (Sz.its s))) ≤ LIM) → q (AV.tp [AV.ag [mkS sIq, AV.d (.sl [[D.v (.string kType), D.v (.string (iqT s))], [D.v (.string kId), D.v (.string (Sz.id s))]]), mkS ⟨#[]⟩, AV.d (.sl [[D.v (.string n), D.sl L, D.v (.string t), D.sl K]])], mkB (((List.length (itsD (Sz.its s))) : Int) == (1 : Int))]))))
theorem rIqR (s : Sz) (q : AV → Prop) :
 (aCode KS GIqR Tryz.b16 (kRet KS Tryz.f16.results.toList q) ⟨[szV s] ++ List.replicate (Tryz.f16.ntmps - 1) .jk, []⟩) = (
 (((0 : Int) ≤ (IntKind.wrap .i64 ((Sz.kind s) - (2 : Int)))) ∧ ((IntKind.wrap .i64 ((Sz.kind s) - (2 : Int))) < ((4 : Nat) : Int))) ∧
 ((Int.toNat (IntKind.wrap .i64 ((Sz.kind s) - (2 : Int)))) < 4) ∧
 ((0 : Nat) ≤ (List.length (List.getD [[D.v (.string sGet)], [D.v (.string sSet)], [D.v (.string sResult)], [D.v (.string sError)]] (Int.toNat (IntKind.wrap .i64 ((Sz.kind s) - (2 : Int)))) []))) ∧
 ((1 : Nat) ≤ (List.length (List.drop 0 (List.getD [[D.v (.string sGet)], [D.v (.string sSet)], [D.v (.string sResult)], [D.v (.string sError)]] (Int.toNat (IntKind.wrap .i64 ((Sz.kind s) - (2 : Int)))) [])))) ∧
 ((List.getD (List.drop 0 (List.getD [[D.v (.string sGet)], [D.v (.string sSet)], [D.v (.string sResult)], [D.v (.string sError)]] (Int.toNat (IntKind.wrap .i64 ((Sz.kind s) - (2 : Int)))) [])) 0 d0) = (D.v (.string (iqT s)))) ∧
 (∃ (s_1 : Sz), ([szV s] = [szV s_1]) ∧ ((FitS s_1) ∧ (∀ (n : BA), ∀ (L : List (List D)), ∀ (t : BA), ∀ (K : List (List D)), ∀ (b : Bool), (Iff (b = true) (qOk s_1)) → ((b = true) → (n = (El.n (El.mk sQuery (listedA s_1) (⟨#[]⟩ : ByteArray) (listedK s_1)))) ∧ ((L = (atsD (El.ats (El.mk sQuery (listedA s_1) (⟨#[]⟩ : ByteArray) (listedK s_1))))) ∧ ((t = (El.t (El.mk sQuery (listedA s_1) (⟨#[]⟩ : ByteArray) (listedK s_1)))) ∧ (K = (ksD (El.ks (El.mk sQuery (listedA s_1) (⟨#[]⟩ : ByteArray) (listedK s_1)))))))) → ((ByteArray.size (Sz.id s)) ≤ LIM) ∧ (bcase (!(wordB (Sz.id s))) (q (AV.tp [AV.ag [mkS sIq, AV.d (.sl [[D.v (.string kType), D.v (.string (iqT s))], [D.v (.string kId), D.v (.string (Sz.id s))]]), mkS ⟨#[]⟩, AV.d (.sl [])], mkB false])) (bcase (!b) (q (AV.tp [AV.ag [mkS sIq, AV.d (.sl [[D.v (.string kType), D.v (.string (iqT s))], [D.v (.string kId), D.v (.string (Sz.id s))]]), mkS ⟨#[]⟩, AV.d (.sl [])], mkB false])) (bcase ((Sz.kind s) == (5 : Int)) (((ByteArray.size (Sz.rea s)) ≤ LIM) ∧ (bcase (wordB (Sz.rea s)) (bcase ((Sz.ver s) == (0 : Int)) (((List.length (itsD (Sz.its s))) ≤ LIM) → q (AV.tp [AV.ag [mkS sIq, AV.d (.sl [[D.v (.string kType), D.v (.string (iqT s))], [D.v (.string kId), D.v (.string (Sz.id s))]]), mkS ⟨#[]⟩, AV.d (.sl [[D.v (.string sError), D.sl [], D.v (.string (Sz.rea s)), D.sl []]])], mkB (((List.length (itsD (Sz.its s))) : Int) == (0 : Int))])) ((q (AV.tp [AV.ag [mkS sIq, AV.d (.sl [[D.v (.string kType), D.v (.string (iqT s))], [D.v (.string kId), D.v (.string (Sz.id s))]]), mkS ⟨#[]⟩, AV.d (.sl [[D.v (.string sError), D.sl [], D.v (.string (Sz.rea s)), D.sl []]])], mkB false])) ∧ (q (AV.tp [AV.ag [mkS sIq, AV.d (.sl [[D.v (.string kType), D.v (.string (iqT s))], [D.v (.string kId), D.v (.string (Sz.id s))]]), mkS ⟨#[]⟩, AV.d (.sl [[D.v (.string sError), D.sl [], D.v (.string (Sz.rea s)), D.sl []]])], mkB false])))) ((q (AV.tp [AV.ag [mkS sIq, AV.d (.sl [[D.v (.string kType), D.v (.string (iqT s))], [D.v (.string kId), D.v (.string (Sz.id s))]]), mkS ⟨#[]⟩, AV.d (.sl [[D.v (.string sError), D.sl [], D.v (.string (Sz.rea s)), D.sl []]])], mkB false])) ∧ (q (AV.tp [AV.ag [mkS sIq, AV.d (.sl [[D.v (.string kType), D.v (.string (iqT s))], [D.v (.string kId), D.v (.string (Sz.id s))]]), mkS ⟨#[]⟩, AV.d (.sl [[D.v (.string sError), D.sl [], D.v (.string (Sz.rea s)), D.sl []]])], mkB false]))))) (bcase ((Sz.kind s) == (4 : Int)) (bcase ((Sz.ver s) == (0 : Int)) (((List.length (itsD (Sz.its s))) ≤ LIM) → q (AV.tp [AV.ag [mkS sIq, AV.d (.sl [[D.v (.string kType), D.v (.string (iqT s))], [D.v (.string kId), D.v (.string (Sz.id s))]]), mkS ⟨#[]⟩, AV.d (.sl [])], mkB (((List.length (itsD (Sz.its s))) : Int) == (0 : Int))])) (rIqR_e0 s q n L t K)) (rIqR_e0 s q n L t K)))))))) ∧ (
 ∃ (s_1 : Sz),
 ([szV s] = [szV s_1]) ∧
 (FitS s_1) ∧ (
 ∀ (n : BA),
 ∀ (L : List (List D)),
 ∀ (t : BA),
 ∀ (K : List (List D)),
 ∀ (b : Bool),
 (Iff (b = true) (qOk s_1)) →
 ((b = true) → (n = (El.n (El.mk sQuery (listedA s_1) (⟨#[]⟩ : ByteArray) (listedK s_1)))) ∧ ((L = (atsD (El.ats (El.mk sQuery (listedA s_1) (⟨#[]⟩ : ByteArray) (listedK s_1))))) ∧ ((t = (El.t (El.mk sQuery (listedA s_1) (⟨#[]⟩ : ByteArray) (listedK s_1)))) ∧ (K = (ksD (El.ks (El.mk sQuery (listedA s_1) (⟨#[]⟩ : ByteArray) (listedK s_1)))))))) →
 ((ByteArray.size (Sz.id s)) ≤ LIM) ∧
 bcase (!(wordB (Sz.id s))) (
 q (AV.tp [AV.ag [mkS sIq, AV.d (.sl [[D.v (.string kType), D.v (.string (iqT s))], [D.v (.string kId), D.v (.string (Sz.id s))]]), mkS ⟨#[]⟩, AV.d (.sl [])], mkB false])) (
 bcase (!b) (
 q (AV.tp [AV.ag [mkS sIq, AV.d (.sl [[D.v (.string kType), D.v (.string (iqT s))], [D.v (.string kId), D.v (.string (Sz.id s))]]), mkS ⟨#[]⟩, AV.d (.sl [])], mkB false])) (
 bcase ((Sz.kind s) == (5 : Int)) (
 ((ByteArray.size (Sz.rea s)) ≤ LIM) ∧
 bcase (wordB (Sz.rea s)) (
 bcase ((Sz.ver s) == (0 : Int)) (
 ((List.length (itsD (Sz.its s))) ≤ LIM) →
 q (AV.tp [AV.ag [mkS sIq, AV.d (.sl [[D.v (.string kType), D.v (.string (iqT s))], [D.v (.string kId), D.v (.string (Sz.id s))]]), mkS ⟨#[]⟩, AV.d (.sl [[D.v (.string sError), D.sl [], D.v (.string (Sz.rea s)), D.sl []]])], mkB (((List.length (itsD (Sz.its s))) : Int) == (0 : Int))])) (
 (q (AV.tp [AV.ag [mkS sIq, AV.d (.sl [[D.v (.string kType), D.v (.string (iqT s))], [D.v (.string kId), D.v (.string (Sz.id s))]]), mkS ⟨#[]⟩, AV.d (.sl [[D.v (.string sError), D.sl [], D.v (.string (Sz.rea s)), D.sl []]])], mkB false])) ∧
 q (AV.tp [AV.ag [mkS sIq, AV.d (.sl [[D.v (.string kType), D.v (.string (iqT s))], [D.v (.string kId), D.v (.string (Sz.id s))]]), mkS ⟨#[]⟩, AV.d (.sl [[D.v (.string sError), D.sl [], D.v (.string (Sz.rea s)), D.sl []]])], mkB false]))) (
 (q (AV.tp [AV.ag [mkS sIq, AV.d (.sl [[D.v (.string kType), D.v (.string (iqT s))], [D.v (.string kId), D.v (.string (Sz.id s))]]), mkS ⟨#[]⟩, AV.d (.sl [[D.v (.string sError), D.sl [], D.v (.string (Sz.rea s)), D.sl []]])], mkB false])) ∧
 q (AV.tp [AV.ag [mkS sIq, AV.d (.sl [[D.v (.string kType), D.v (.string (iqT s))], [D.v (.string kId), D.v (.string (Sz.id s))]]), mkS ⟨#[]⟩, AV.d (.sl [[D.v (.string sError), D.sl [], D.v (.string (Sz.rea s)), D.sl []]])], mkB false]))) (
 bcase ((Sz.kind s) == (4 : Int)) (
 bcase ((Sz.ver s) == (0 : Int)) (
 ((List.length (itsD (Sz.its s))) ≤ LIM) →
 q (AV.tp [AV.ag [mkS sIq, AV.d (.sl [[D.v (.string kType), D.v (.string (iqT s))], [D.v (.string kId), D.v (.string (Sz.id s))]]), mkS ⟨#[]⟩, AV.d (.sl [])], mkB (((List.length (itsD (Sz.its s))) : Int) == (0 : Int))])) (
 bcase ((Sz.kind s) == (2 : Int)) (
 ((List.length (itsD (Sz.its s))) ≤ LIM) →
 q (AV.tp [AV.ag [mkS sIq, AV.d (.sl [[D.v (.string kType), D.v (.string (iqT s))], [D.v (.string kId), D.v (.string (Sz.id s))]]), mkS ⟨#[]⟩, AV.d (.sl [[D.v (.string n), D.sl L, D.v (.string t), D.sl K]])], mkB (((List.length (itsD (Sz.its s))) : Int) == (0 : Int))])) (
 bcase ((Sz.kind s) == (4 : Int)) (
 (q (AV.tp [AV.ag [mkS sIq, AV.d (.sl [[D.v (.string kType), D.v (.string (iqT s))], [D.v (.string kId), D.v (.string (Sz.id s))]]), mkS ⟨#[]⟩, AV.d (.sl [[D.v (.string n), D.sl L, D.v (.string t), D.sl K]])], mkB true])) ∧
 q (AV.tp [AV.ag [mkS sIq, AV.d (.sl [[D.v (.string kType), D.v (.string (iqT s))], [D.v (.string kId), D.v (.string (Sz.id s))]]), mkS ⟨#[]⟩, AV.d (.sl [[D.v (.string n), D.sl L, D.v (.string t), D.sl K]])], mkB true])) (
 ((List.length (itsD (Sz.its s))) ≤ LIM) →
 q (AV.tp [AV.ag [mkS sIq, AV.d (.sl [[D.v (.string kType), D.v (.string (iqT s))], [D.v (.string kId), D.v (.string (Sz.id s))]]), mkS ⟨#[]⟩, AV.d (.sl [[D.v (.string n), D.sl L, D.v (.string t), D.sl K]])], mkB (((List.length (itsD (Sz.its s))) : Int) == (1 : Int))]))))) (
 bcase ((Sz.kind s) == (2 : Int)) (
 ((List.length (itsD (Sz.its s))) ≤ LIM) →
 q (AV.tp [AV.ag [mkS sIq, AV.d (.sl [[D.v (.string kType), D.v (.string (iqT s))], [D.v (.string kId), D.v (.string (Sz.id s))]]), mkS ⟨#[]⟩, AV.d (.sl [[D.v (.string n), D.sl L, D.v (.string t), D.sl K]])], mkB (((List.length (itsD (Sz.its s))) : Int) == (0 : Int))])) (
 bcase ((Sz.kind s) == (4 : Int)) (
 (q (AV.tp [AV.ag [mkS sIq, AV.d (.sl [[D.v (.string kType), D.v (.string (iqT s))], [D.v (.string kId), D.v (.string (Sz.id s))]]), mkS ⟨#[]⟩, AV.d (.sl [[D.v (.string n), D.sl L, D.v (.string t), D.sl K]])], mkB true])) ∧
 q (AV.tp [AV.ag [mkS sIq, AV.d (.sl [[D.v (.string kType), D.v (.string (iqT s))], [D.v (.string kId), D.v (.string (Sz.id s))]]), mkS ⟨#[]⟩, AV.d (.sl [[D.v (.string n), D.sl L, D.v (.string t), D.sl K]])], mkB true])) (
 ((List.length (itsD (Sz.its s))) ≤ LIM) →
 q (AV.tp [AV.ag [mkS sIq, AV.d (.sl [[D.v (.string kType), D.v (.string (iqT s))], [D.v (.string kId), D.v (.string (Sz.id s))]]), mkS ⟨#[]⟩, AV.d (.sl [[D.v (.string n), D.sl L, D.v (.string t), D.sl K]])], mkB (((List.length (itsD (Sz.its s))) : Int) == (1 : Int))])))))))))) := by kernel_rfl
theorem rBare (s : Sz) (q : AV → Prop) :
 (aCode KS [] Tryz.b14 (kRet KS Tryz.f14.results.toList q) ⟨[szV s] ++ List.replicate (Tryz.f14.ntmps - 1) .jk, []⟩) = (
 bcase ((Sz.kind s) == (1 : Int)) (
 (Nat.le (ByteArray.size (Sz.from_ s)) LIM) ∧
 (Nat.le (ByteArray.size (Sz.to_ s)) LIM) ∧
 (Nat.le (ByteArray.size (Sz.show_ s)) LIM) ∧
 ((mkS (Sz.show_ s)) = (mkS (Sz.show_ s))) ∧
 ((mkS (Sz.to_ s)) = (mkS (Sz.to_ s))) ∧
 ((mkS (Sz.from_ s)) = (mkS (Sz.from_ s))) ∧
 ((mkS (Sz.show_ s)) = (mkS (Sz.show_ s))) ∧
 ((mkS (Sz.to_ s)) = (mkS (Sz.to_ s))) ∧
 ((mkS (Sz.from_ s)) = (mkS (Sz.from_ s))) ∧
 ((mkS (Sz.show_ s)) = (mkS (Sz.show_ s))) ∧
 ((mkS (Sz.to_ s)) = (mkS (Sz.to_ s))) ∧
 ((mkS (Sz.from_ s)) = (mkS (Sz.from_ s))) ∧
 ((mkS (Sz.show_ s)) = (mkS (Sz.show_ s))) ∧
 ((mkS (Sz.to_ s)) = (mkS (Sz.to_ s))) ∧
 ((mkS (Sz.from_ s)) = (mkS (Sz.from_ s))) ∧
 q (AV.ag [mkI .i64 (Sz.kind s), mkS (Sz.ty s), mkS ⟨#[]⟩, mkS (Sz.from_ s), mkS (Sz.to_ s), mkS (Sz.show_ s), mkS ⟨#[]⟩, mkS ⟨#[]⟩, mkI .u32 0, mkI .i64 0, mkB false, AV.d (.sl [])])) (
 bcase ((Sz.kind s) == (2 : Int)) (
 bcase (Sz.rem s) (
 q (AV.ag [mkI .i64 (Sz.kind s), mkS ⟨#[]⟩, mkS (Sz.id s), mkS ⟨#[]⟩, mkS ⟨#[]⟩, mkS ⟨#[]⟩, mkS ⟨#[]⟩, mkS ⟨#[]⟩, mkI .u32 0, mkI .i64 (Sz.ver s), mkB ((Sz.kind s) == (3 : Int)), AV.d (.sl (itsD (Sz.its s)))])) (
 q (AV.ag [mkI .i64 (Sz.kind s), mkS ⟨#[]⟩, mkS (Sz.id s), mkS ⟨#[]⟩, mkS ⟨#[]⟩, mkS ⟨#[]⟩, mkS ⟨#[]⟩, mkS ⟨#[]⟩, mkI .u32 0, mkI .i64 (Sz.ver s), mkB false, AV.d (.sl (itsD (Sz.its s)))]))) (
 bcase ((Sz.kind s) == (3 : Int)) (
 bcase (Sz.rem s) (
 q (AV.ag [mkI .i64 (Sz.kind s), mkS ⟨#[]⟩, mkS (Sz.id s), mkS ⟨#[]⟩, mkS ⟨#[]⟩, mkS ⟨#[]⟩, mkS ⟨#[]⟩, mkS ⟨#[]⟩, mkI .u32 0, mkI .i64 (Sz.ver s), mkB ((Sz.kind s) == (3 : Int)), AV.d (.sl (itsD (Sz.its s)))])) (
 q (AV.ag [mkI .i64 (Sz.kind s), mkS ⟨#[]⟩, mkS (Sz.id s), mkS ⟨#[]⟩, mkS ⟨#[]⟩, mkS ⟨#[]⟩, mkS ⟨#[]⟩, mkS ⟨#[]⟩, mkI .u32 0, mkI .i64 (Sz.ver s), mkB false, AV.d (.sl (itsD (Sz.its s)))]))) (
 bcase ((Sz.kind s) == (4 : Int)) (
 bcase (Sz.rem s) (
 q (AV.ag [mkI .i64 (Sz.kind s), mkS ⟨#[]⟩, mkS (Sz.id s), mkS ⟨#[]⟩, mkS ⟨#[]⟩, mkS ⟨#[]⟩, mkS ⟨#[]⟩, mkS ⟨#[]⟩, mkI .u32 0, mkI .i64 (Sz.ver s), mkB ((Sz.kind s) == (3 : Int)), AV.d (.sl (itsD (Sz.its s)))])) (
 q (AV.ag [mkI .i64 (Sz.kind s), mkS ⟨#[]⟩, mkS (Sz.id s), mkS ⟨#[]⟩, mkS ⟨#[]⟩, mkS ⟨#[]⟩, mkS ⟨#[]⟩, mkS ⟨#[]⟩, mkI .u32 0, mkI .i64 (Sz.ver s), mkB false, AV.d (.sl (itsD (Sz.its s)))]))) (
 bcase ((Sz.kind s) == (5 : Int)) (
 (Nat.le (ByteArray.size (Sz.rea s)) LIM) ∧
 ((mkS (Sz.rea s)) = (mkS (Sz.rea s))) ∧
 ((mkS (Sz.rea s)) = (mkS (Sz.rea s))) ∧
 q (AV.ag [mkI .i64 (Sz.kind s), mkS ⟨#[]⟩, mkS (Sz.id s), mkS ⟨#[]⟩, mkS ⟨#[]⟩, mkS ⟨#[]⟩, mkS ⟨#[]⟩, mkS (Sz.rea s), mkI .u32 0, mkI .i64 0, mkB false, AV.d (.sl [])])) (
 bcase ((Sz.kind s) == (7 : Int)) (
 q (AV.ag [mkI .i64 (Sz.kind s), mkS ⟨#[]⟩, mkS ⟨#[]⟩, mkS ⟨#[]⟩, mkS ⟨#[]⟩, mkS ⟨#[]⟩, mkS (Sz.tok s), mkS ⟨#[]⟩, mkI .u32 0, mkI .i64 0, mkB false, AV.d (.sl [])])) (
 bcase ((Sz.kind s) == (9 : Int)) (
 q (AV.ag [mkI .i64 (Sz.kind s), mkS ⟨#[]⟩, mkS ⟨#[]⟩, mkS ⟨#[]⟩, mkS ⟨#[]⟩, mkS ⟨#[]⟩, mkS ⟨#[]⟩, mkS ⟨#[]⟩, mkI .u32 (Sz.h s), mkI .i64 0, mkB false, AV.d (.sl [])])) (
 bcase ((Sz.kind s) == (10 : Int)) (
 True ∧
 ((mkI .u32 (Sz.h s)) = (mkI .u32 (Sz.h s))) ∧
 ((mkI .u32 (Sz.h s)) = (mkI .u32 (Sz.h s))) ∧
 q (AV.ag [mkI .i64 (Sz.kind s), mkS ⟨#[]⟩, mkS ⟨#[]⟩, mkS ⟨#[]⟩, mkS ⟨#[]⟩, mkS ⟨#[]⟩, mkS (Sz.tok s), mkS ⟨#[]⟩, mkI .u32 (Sz.h s), mkI .i64 0, mkB false, AV.d (.sl [])])) (
 bcase ((Sz.kind s) == (11 : Int)) (
 True ∧
 ((mkI .u32 (Sz.h s)) = (mkI .u32 (Sz.h s))) ∧
 ((mkI .u32 (Sz.h s)) = (mkI .u32 (Sz.h s))) ∧
 q (AV.ag [mkI .i64 (Sz.kind s), mkS ⟨#[]⟩, mkS ⟨#[]⟩, mkS ⟨#[]⟩, mkS ⟨#[]⟩, mkS ⟨#[]⟩, mkS (Sz.tok s), mkS ⟨#[]⟩, mkI .u32 (Sz.h s), mkI .i64 0, mkB false, AV.d (.sl [])])) (
 q (AV.ag [mkI .i64 (Sz.kind s), mkS ⟨#[]⟩, mkS ⟨#[]⟩, mkS ⟨#[]⟩, mkS ⟨#[]⟩, mkS ⟨#[]⟩, mkS ⟨#[]⟩, mkS ⟨#[]⟩, mkI .u32 0, mkI .i64 0, mkB false, AV.d (.sl [])]))))))))))) := by kernel_rfl
noncomputable def rRSm_k0 (q : AV → Prop) : Kont := kBlk (0 : Nat) (kSeq (aCode KS [] (cAt [1, 1, 1] Tryz.b9) (kRet KS (Array.toList (Func.results Tryz.f9)) q)) (kRet KS (Array.toList (Func.results Tryz.f9)) q))
theorem rRSm (s t : Sz) (q : AV → Prop) :
 (aCode KS [] Tryz.b9 (kRet KS Tryz.f9.results.toList q) ⟨[szV s, szV t] ++ List.replicate (Tryz.f9.ntmps - 2) .jk, []⟩) = (
 bcase ((Sz.kind s) != (Sz.kind t)) (
 q (mkB false)) (
 bcase (!(decide ((Sz.ty s) = (Sz.ty t)))) (
 q (mkB false)) (
 bcase (!(decide ((Sz.id s) = (Sz.id t)))) (
 q (mkB false)) (
 bcase (!(decide ((Sz.from_ s) = (Sz.from_ t)))) (
 q (mkB false)) (
 bcase (!(decide ((Sz.to_ s) = (Sz.to_ t)))) (
 q (mkB false)) (
 bcase (!(decide ((Sz.show_ s) = (Sz.show_ t)))) (
 q (mkB false)) (
 bcase (!(decide ((Sz.tok s) = (Sz.tok t)))) (
 q (mkB false)) (
 bcase (!(decide ((Sz.rea s) = (Sz.rea t)))) (
 q (mkB false)) (
 bcase ((Sz.h s) != (Sz.h t)) (
 q (mkB false)) (
 bcase ((Sz.ver s) != (Sz.ver t)) (
 q (mkB false)) (
 bcase (!((Sz.rem s) == (Sz.rem t))) (
 q (mkB false)) (
 ((List.length (itsD (Sz.its s))) ≤ LIM) →
 ((List.length (itsD (Sz.its t))) ≤ LIM) →
 bcase (((List.length (itsD (Sz.its s))) : Int) != ((List.length (itsD (Sz.its t))) : Int)) (
 q (mkB false)) (
 ALoop (aCode KS [] (cAt [1, 1, 0, 1, 0, 0] Tryz.b9)) (rRSm_k0 q) ⟨[szV s, szV t, .rf 0 0, .rf 1 0, mkB false, mkI .i64 0, .rf 0 (0 + 0), mkI .i64 (Sz.kind s), .rf 1 (0 + 0), mkI .i64 (Sz.kind t), mkB ((Sz.kind s) != (Sz.kind t)), mkB false, .rf 0 (0 + 1), mkS (Sz.ty s), .rf 1 (0 + 1), mkS (Sz.ty t), mkB (!(decide ((Sz.ty s) = (Sz.ty t)))), mkB (!(decide ((Sz.ty s) = (Sz.ty t)))), mkB false, .rf 0 (0 + 2), mkS (Sz.id s), .rf 1 (0 + 2), mkS (Sz.id t), mkB (!(decide ((Sz.id s) = (Sz.id t)))), mkB (!(decide ((Sz.id s) = (Sz.id t)))), mkB false, .rf 0 (0 + 3), mkS (Sz.from_ s), .rf 1 (0 + 3), mkS (Sz.from_ t), mkB (!(decide ((Sz.from_ s) = (Sz.from_ t)))), mkB (!(decide ((Sz.from_ s) = (Sz.from_ t)))), mkB false, .rf 0 (0 + 4), mkS (Sz.to_ s), .rf 1 (0 + 4), mkS (Sz.to_ t), mkB (!(decide ((Sz.to_ s) = (Sz.to_ t)))), mkB (!(decide ((Sz.to_ s) = (Sz.to_ t)))), mkB false, .rf 0 (0 + 5), mkS (Sz.show_ s), .rf 1 (0 + 5), mkS (Sz.show_ t), mkB (!(decide ((Sz.show_ s) = (Sz.show_ t)))), mkB (!(decide ((Sz.show_ s) = (Sz.show_ t)))), mkB false, .rf 0 (0 + 6), mkS (Sz.tok s), .rf 1 (0 + 6), mkS (Sz.tok t), mkB (!(decide ((Sz.tok s) = (Sz.tok t)))), mkB (!(decide ((Sz.tok s) = (Sz.tok t)))), mkB false, .rf 0 (0 + 7), mkS (Sz.rea s), .rf 1 (0 + 7), mkS (Sz.rea t), mkB (!(decide ((Sz.rea s) = (Sz.rea t)))), mkB (!(decide ((Sz.rea s) = (Sz.rea t)))), mkB false, .rf 0 (0 + 8), mkI .u32 (Sz.h s), .rf 1 (0 + 8), mkI .u32 (Sz.h t), mkB ((Sz.h s) != (Sz.h t)), mkB ((Sz.h s) != (Sz.h t)), mkB false, .rf 0 (0 + 9), mkI .i64 (Sz.ver s), .rf 1 (0 + 9), mkI .i64 (Sz.ver t), mkB ((Sz.ver s) != (Sz.ver t)), mkB ((Sz.ver s) != (Sz.ver t)), mkB false, .rf 0 (0 + 10), mkB (Sz.rem s), .rf 1 (0 + 10), mkB (Sz.rem t), mkB (!((Sz.rem s) == (Sz.rem t))), mkB (!((Sz.rem s) == (Sz.rem t))), mkB false, .rf 0 (0 + 11), .d (.sl (itsD (Sz.its s))), mkI .i64 ((List.length (itsD (Sz.its s))) : Int), .rf 1 (0 + 11), .d (.sl (itsD (Sz.its t))), mkI .i64 ((List.length (itsD (Sz.its t))) : Int), mkB (((List.length (itsD (Sz.its s))) : Int) != ((List.length (itsD (Sz.its t))) : Int)), mkB false] ++ (jks 18), [szO s, szO t]⟩))))))))))))) := by kernel_rfl
def stRSm (s t : Sz) (i : Int) : S := ⟨[.jk, .jk, .rf 0 0, .rf 1 0, mkB false, mkI .i64 i] ++ jks 102, [szO s, szO t]⟩
theorem rRSm_b {ι : Type} (st : ι → S) (inv : ι → Prop) (μ : ι → Nat) (kk : ι) (s t : Sz) (i : Int) (q : AV → Prop) :
 (aCode KS [] (cAt [1, 1, 0, 1, 0, 0] Tryz.b9) (kFamM [] (maskOf (stRSm s t i)) st inv μ kk (rRSm_k0 q)) (stRSm s t i)) = (
 ((List.length (itsD (Sz.its s))) ≤ LIM) →
 bcase (decide (i < ((List.length (itsD (Sz.its s))) : Int))) (
 (((0 : Int) ≤ i) ∧ (i < ((List.length (itsD (Sz.its s))) : Int))) ∧
 ((List.length (List.getD (itsD (Sz.its s)) (Int.toNat i) [])) = 4) ∧
 (4 ≤ (List.length (List.getD (itsD (Sz.its s)) (Int.toNat i) []))) ∧
 (((List.getD (List.getD (itsD (Sz.its s)) (Int.toNat i) []) 0 d0) = (D.v (.string (strD (List.getD (List.getD (itsD (Sz.its s)) (Int.toNat i) []) 0 d0))))) ∧ (((List.getD (List.drop 1 (List.getD (itsD (Sz.its s)) (Int.toNat i) [])) 0 d0) = (D.v (.string (strD (List.getD (List.drop 1 (List.getD (itsD (Sz.its s)) (Int.toNat i) [])) 0 d0))))) ∧ (((List.getD (List.drop 1 (List.drop 1 (List.getD (itsD (Sz.its s)) (Int.toNat i) []))) 0 d0) = (D.v (.int IntKind.i64 (intD (List.getD (List.drop 1 (List.drop 1 (List.getD (itsD (Sz.its s)) (Int.toNat i) []))) 0 d0))))) ∧ (((List.getD (List.drop 1 (List.drop 1 (List.drop 1 (List.getD (itsD (Sz.its s)) (Int.toNat i) [])))) 0 d0) = (D.v (.bool (boolD (List.getD (List.drop 1 (List.drop 1 (List.drop 1 (List.getD (itsD (Sz.its s)) (Int.toNat i) [])))) 0 d0))))) ∧ True)))) ∧
 (((0 : Int) ≤ i) ∧ (i < ((List.length (itsD (Sz.its t))) : Int))) ∧
 ((List.length (List.getD (itsD (Sz.its t)) (Int.toNat i) [])) = 4) ∧
 (4 ≤ (List.length (List.getD (itsD (Sz.its t)) (Int.toNat i) []))) ∧
 (((List.getD (List.getD (itsD (Sz.its t)) (Int.toNat i) []) 0 d0) = (D.v (.string (strD (List.getD (List.getD (itsD (Sz.its t)) (Int.toNat i) []) 0 d0))))) ∧ (((List.getD (List.drop 1 (List.getD (itsD (Sz.its t)) (Int.toNat i) [])) 0 d0) = (D.v (.string (strD (List.getD (List.drop 1 (List.getD (itsD (Sz.its t)) (Int.toNat i) [])) 0 d0))))) ∧ (((List.getD (List.drop 1 (List.drop 1 (List.getD (itsD (Sz.its t)) (Int.toNat i) []))) 0 d0) = (D.v (.int IntKind.i64 (intD (List.getD (List.drop 1 (List.drop 1 (List.getD (itsD (Sz.its t)) (Int.toNat i) []))) 0 d0))))) ∧ (((List.getD (List.drop 1 (List.drop 1 (List.drop 1 (List.getD (itsD (Sz.its t)) (Int.toNat i) [])))) 0 d0) = (D.v (.bool (boolD (List.getD (List.drop 1 (List.drop 1 (List.drop 1 (List.getD (itsD (Sz.its t)) (Int.toNat i) [])))) 0 d0))))) ∧ True)))) ∧
 bcase (!(Bool.and (decide ((strD (List.getD (List.getD (itsD (Sz.its s)) (Int.toNat i) []) 0 d0)) = (strD (List.getD (List.getD (itsD (Sz.its t)) (Int.toNat i) []) 0 d0)))) (Bool.and (decide ((strD (List.getD (List.drop 1 (List.getD (itsD (Sz.its s)) (Int.toNat i) [])) 0 d0)) = (strD (List.getD (List.drop 1 (List.getD (itsD (Sz.its t)) (Int.toNat i) [])) 0 d0)))) (Bool.and ((intD (List.getD (List.drop 1 (List.drop 1 (List.getD (itsD (Sz.its s)) (Int.toNat i) []))) 0 d0)) == (intD (List.getD (List.drop 1 (List.drop 1 (List.getD (itsD (Sz.its t)) (Int.toNat i) []))) 0 d0))) (Bool.and ((boolD (List.getD (List.drop 1 (List.drop 1 (List.drop 1 (List.getD (itsD (Sz.its s)) (Int.toNat i) [])))) 0 d0)) == (boolD (List.getD (List.drop 1 (List.drop 1 (List.drop 1 (List.getD (itsD (Sz.its t)) (Int.toNat i) [])))) 0 d0))) true))))) (
 q (mkB false)) (
 FamNext st inv μ kk ⟨[.jk, .jk, .rf 0 0, .rf 1 0, mkB false, mkI .i64 (IntKind.wrap .i64 (i + (1 : Int)))] ++ (jks 102), [szO s, szO t]⟩)) (
 q (mkB true))) := by kernel_rfl
def ERSm : List AV → (AV → Prop) → Prop := fun al q => ∃ s t, al = [szV s, szV t] ∧ (s.its.length ≤ LIM ∧ t.its.length ≤ LIM) ∧ q (mkB (sameM s t))
def EBare : List AV → (AV → Prop) → Prop := fun al q => ∃ s, al = [szV s] ∧ FitS s ∧ ∀ t, t = bareM s → q (szV t)
def EPrs : List AV → (AV → Prop) → Prop := fun al q => ∃ s, al = [szV s] ∧ (s.kind = 1 ∧ FitS s) ∧ ∀ n L t K b, (b = true ↔ presOk s) → (b = true → IsEl n L t K (drawnM s)) → q (.tp [.ag [mkS n, .d (.sl L), mkS t, .d (.sl K)], mkB b])
def EIqR : List AV → (AV → Prop) → Prop := fun al q => ∃ s, al = [szV s] ∧ ((2 ≤ s.kind ∧ s.kind ≤ 5) ∧ FitS s) ∧ ∀ n L t K b, (b = true ↔ iqOk s) → (b = true → IsEl n L t K (drawnM s)) → q (.tp [.ag [mkS n, .d (.sl L), mkS t, .d (.sl K)], mkB b])
noncomputable abbrev GRW : List (FuncId × En) := [(9, .pure ERSm), (14, .pure EBare), (15, .pure EPrs), (16, .pure EIqR), (17, .det (strF wordB)), (18, .pure ETxA)]
theorem rRW (s : Sz) (q : AV → Prop) :
 (aCode KS GRW Tryz.b6 (kRet KS Tryz.f6.results.toList q) ⟨[szV s] ++ List.replicate (Tryz.f6.ntmps - 1) .jk, []⟩) = (
 bcase (decide ((Sz.kind s) < (1 : Int))) (
 q (AV.tp [AV.ag [mkS ⟨#[]⟩, AV.d (.sl []), mkS ⟨#[]⟩, AV.d (.sl [])], mkI .i64 1])) (
 bcase (decide ((Sz.kind s) > (14 : Int))) (
 q (AV.tp [AV.ag [mkS ⟨#[]⟩, AV.d (.sl []), mkS ⟨#[]⟩, AV.d (.sl [])], mkI .i64 1])) (
 ∃ (s_1 : Sz),
 ([szV s] = [szV s_1]) ∧
 (FitS s_1) ∧ (
 ∀ (t : Sz),
 (t = (bareM s_1)) →
 ∃ (s_2 : Sz),
 ∃ (t_1 : Sz),
 ([szV s, szV t] = [szV s_2, szV t_1]) ∧
 (((List.length (Sz.its s_2)) ≤ LIM) ∧ ((List.length (Sz.its t_1)) ≤ LIM)) ∧
 bcase (!(sameM s_2 t_1)) (
 q (AV.tp [AV.ag [mkS ⟨#[]⟩, AV.d (.sl []), mkS ⟨#[]⟩, AV.d (.sl [])], mkI .i64 1])) (
 (((0 : Int) ≤ (Sz.kind s)) ∧ ((Sz.kind s) < ((15 : Nat) : Int))) ∧
 ((Int.toNat (Sz.kind s)) < 15) ∧
 ((0 : Nat) ≤ (List.length (List.getD [[D.v (.string ⟨#[]⟩)], [D.v (.string sPresence)], [D.v (.string sIq)], [D.v (.string sIq)], [D.v (.string sIq)], [D.v (.string sIq)], [D.v (.string sEnable)], [D.v (.string sEnabled)], [D.v (.string sR)], [D.v (.string sA)], [D.v (.string sResume)], [D.v (.string sResumed)], [D.v (.string sFailed)], [D.v (.string sActive)], [D.v (.string sInactive)]] (Int.toNat (Sz.kind s)) []))) ∧
 ((1 : Nat) ≤ (List.length (List.drop 0 (List.getD [[D.v (.string ⟨#[]⟩)], [D.v (.string sPresence)], [D.v (.string sIq)], [D.v (.string sIq)], [D.v (.string sIq)], [D.v (.string sIq)], [D.v (.string sEnable)], [D.v (.string sEnabled)], [D.v (.string sR)], [D.v (.string sA)], [D.v (.string sResume)], [D.v (.string sResumed)], [D.v (.string sFailed)], [D.v (.string sActive)], [D.v (.string sInactive)]] (Int.toNat (Sz.kind s)) [])))) ∧
 ((List.getD (List.drop 0 (List.getD [[D.v (.string ⟨#[]⟩)], [D.v (.string sPresence)], [D.v (.string sIq)], [D.v (.string sIq)], [D.v (.string sIq)], [D.v (.string sIq)], [D.v (.string sEnable)], [D.v (.string sEnabled)], [D.v (.string sR)], [D.v (.string sA)], [D.v (.string sResume)], [D.v (.string sResumed)], [D.v (.string sFailed)], [D.v (.string sActive)], [D.v (.string sInactive)]] (Int.toNat (Sz.kind s)) [])) 0 d0) = (D.v (.string (rwN s)))) ∧
 bcase ((Sz.kind s) == (1 : Int)) (
 ∃ (s_3 : Sz),
 ([szV s] = [szV s_3]) ∧
 (((Sz.kind s_3) = (1 : Int)) ∧ (FitS s_3)) ∧ (
 ∀ (n : BA),
 ∀ (L : List (List D)),
 ∀ (t_2 : BA),
 ∀ (K : List (List D)),
 ∀ (b : Bool),
 (Iff (b = true) (presOk s_3)) →
 ((b = true) → (n = (El.n (drawnM s_3))) ∧ ((L = (atsD (El.ats (drawnM s_3)))) ∧ ((t_2 = (El.t (drawnM s_3))) ∧ (K = (ksD (El.ks (drawnM s_3))))))) →
 bcase (!b) (
 q (AV.tp [AV.ag [mkS ⟨#[]⟩, AV.d (.sl []), mkS ⟨#[]⟩, AV.d (.sl [])], mkI .i64 1])) (
 q (AV.tp [AV.ag [mkS n, AV.d (.sl L), mkS t_2, AV.d (.sl K)], mkI .i64 0])))) (
 bcase ((Sz.kind s) == (2 : Int)) (
 ∃ (s_3 : Sz),
 ([szV s] = [szV s_3]) ∧
 ((((2 : Int) ≤ (Sz.kind s_3)) ∧ ((Sz.kind s_3) ≤ (5 : Int))) ∧ (FitS s_3)) ∧ (
 ∀ (n : BA),
 ∀ (L : List (List D)),
 ∀ (t_2 : BA),
 ∀ (K : List (List D)),
 ∀ (b : Bool),
 (Iff (b = true) (iqOk s_3)) →
 ((b = true) → (n = (El.n (drawnM s_3))) ∧ ((L = (atsD (El.ats (drawnM s_3)))) ∧ ((t_2 = (El.t (drawnM s_3))) ∧ (K = (ksD (El.ks (drawnM s_3))))))) →
 bcase (!b) (
 q (AV.tp [AV.ag [mkS ⟨#[]⟩, AV.d (.sl []), mkS ⟨#[]⟩, AV.d (.sl [])], mkI .i64 1])) (
 q (AV.tp [AV.ag [mkS n, AV.d (.sl L), mkS t_2, AV.d (.sl K)], mkI .i64 0])))) (
 bcase ((Sz.kind s) == (3 : Int)) (
 ∃ (s_3 : Sz),
 ([szV s] = [szV s_3]) ∧
 ((((2 : Int) ≤ (Sz.kind s_3)) ∧ ((Sz.kind s_3) ≤ (5 : Int))) ∧ (FitS s_3)) ∧ (
 ∀ (n : BA),
 ∀ (L : List (List D)),
 ∀ (t_2 : BA),
 ∀ (K : List (List D)),
 ∀ (b : Bool),
 (Iff (b = true) (iqOk s_3)) →
 ((b = true) → (n = (El.n (drawnM s_3))) ∧ ((L = (atsD (El.ats (drawnM s_3)))) ∧ ((t_2 = (El.t (drawnM s_3))) ∧ (K = (ksD (El.ks (drawnM s_3))))))) →
 bcase (!b) (
 q (AV.tp [AV.ag [mkS ⟨#[]⟩, AV.d (.sl []), mkS ⟨#[]⟩, AV.d (.sl [])], mkI .i64 1])) (
 q (AV.tp [AV.ag [mkS n, AV.d (.sl L), mkS t_2, AV.d (.sl K)], mkI .i64 0])))) (
 bcase ((Sz.kind s) == (4 : Int)) (
 ∃ (s_3 : Sz),
 ([szV s] = [szV s_3]) ∧
 ((((2 : Int) ≤ (Sz.kind s_3)) ∧ ((Sz.kind s_3) ≤ (5 : Int))) ∧ (FitS s_3)) ∧ (
 ∀ (n : BA),
 ∀ (L : List (List D)),
 ∀ (t_2 : BA),
 ∀ (K : List (List D)),
 ∀ (b : Bool),
 (Iff (b = true) (iqOk s_3)) →
 ((b = true) → (n = (El.n (drawnM s_3))) ∧ ((L = (atsD (El.ats (drawnM s_3)))) ∧ ((t_2 = (El.t (drawnM s_3))) ∧ (K = (ksD (El.ks (drawnM s_3))))))) →
 bcase (!b) (
 q (AV.tp [AV.ag [mkS ⟨#[]⟩, AV.d (.sl []), mkS ⟨#[]⟩, AV.d (.sl [])], mkI .i64 1])) (
 q (AV.tp [AV.ag [mkS n, AV.d (.sl L), mkS t_2, AV.d (.sl K)], mkI .i64 0])))) (
 bcase ((Sz.kind s) == (5 : Int)) (
 ∃ (s_3 : Sz),
 ([szV s] = [szV s_3]) ∧
 ((((2 : Int) ≤ (Sz.kind s_3)) ∧ ((Sz.kind s_3) ≤ (5 : Int))) ∧ (FitS s_3)) ∧ (
 ∀ (n : BA),
 ∀ (L : List (List D)),
 ∀ (t_2 : BA),
 ∀ (K : List (List D)),
 ∀ (b : Bool),
 (Iff (b = true) (iqOk s_3)) →
 ((b = true) → (n = (El.n (drawnM s_3))) ∧ ((L = (atsD (El.ats (drawnM s_3)))) ∧ ((t_2 = (El.t (drawnM s_3))) ∧ (K = (ksD (El.ks (drawnM s_3))))))) →
 bcase (!b) (
 q (AV.tp [AV.ag [mkS ⟨#[]⟩, AV.d (.sl []), mkS ⟨#[]⟩, AV.d (.sl [])], mkI .i64 1])) (
 q (AV.tp [AV.ag [mkS n, AV.d (.sl L), mkS t_2, AV.d (.sl K)], mkI .i64 0])))) (
 bcase ((Sz.kind s) == (7 : Int)) (
 ((ByteArray.size (Sz.tok s)) ≤ LIM) ∧
 bcase (!(wordB (Sz.tok s))) (
 q (AV.tp [AV.ag [mkS ⟨#[]⟩, AV.d (.sl []), mkS ⟨#[]⟩, AV.d (.sl [])], mkI .i64 1])) (
 q (AV.tp [AV.ag [mkS (rwN s), AV.d (.sl [[D.v (.string kId), D.v (.string (Sz.tok s))]]), mkS ⟨#[]⟩, AV.d (.sl [])], mkI .i64 0]))) (
 bcase ((Sz.kind s) == (9 : Int)) (
 ∃ (n : Int),
 ([mkI .u32 (Sz.h s)] = [mkI .u32 n]) ∧
 (((0 : Int) ≤ n) ∧ (n ≤ (4294967295 : Int))) ∧
 q (AV.tp [AV.ag [mkS (rwN s), AV.d (.sl [[D.v (.string kH), D.v (.string (decS (Int.toNat n)))]]), mkS ⟨#[]⟩, AV.d (.sl [])], mkI .i64 0])) (
 bcase ((Sz.kind s) == (10 : Int)) (
 ∃ (n : Int),
 ([mkI .u32 (Sz.h s)] = [mkI .u32 n]) ∧
 (((0 : Int) ≤ n) ∧ (n ≤ (4294967295 : Int))) ∧
 ((ByteArray.size (Sz.tok s)) ≤ LIM) ∧
 bcase (!(wordB (Sz.tok s))) (
 q (AV.tp [AV.ag [mkS ⟨#[]⟩, AV.d (.sl []), mkS ⟨#[]⟩, AV.d (.sl [])], mkI .i64 1])) (
 q (AV.tp [AV.ag [mkS (rwN s), AV.d (.sl [[D.v (.string kH), D.v (.string (decS (Int.toNat n)))], [D.v (.string kPrev), D.v (.string (Sz.tok s))]]), mkS ⟨#[]⟩, AV.d (.sl [])], mkI .i64 0]))) (
 bcase ((Sz.kind s) == (11 : Int)) (
 ∃ (n : Int),
 ([mkI .u32 (Sz.h s)] = [mkI .u32 n]) ∧
 (((0 : Int) ≤ n) ∧ (n ≤ (4294967295 : Int))) ∧
 ((ByteArray.size (Sz.tok s)) ≤ LIM) ∧
 bcase (!(wordB (Sz.tok s))) (
 q (AV.tp [AV.ag [mkS ⟨#[]⟩, AV.d (.sl []), mkS ⟨#[]⟩, AV.d (.sl [])], mkI .i64 1])) (
 q (AV.tp [AV.ag [mkS (rwN s), AV.d (.sl [[D.v (.string kH), D.v (.string (decS (Int.toNat n)))], [D.v (.string kPrev), D.v (.string (Sz.tok s))]]), mkS ⟨#[]⟩, AV.d (.sl [])], mkI .i64 0]))) (
 q (AV.tp [AV.ag [mkS (rwN s), AV.d (.sl []), mkS ⟨#[]⟩, AV.d (.sl [])], mkI .i64 0]))))))))))))))) := by kernel_rfl
noncomputable abbrev ERs (N : Nat) : List AV → (AV → Prop) → Prop := fun al q => ∃ n l t k, al = [.ag [mkS n, .d (.sl (atsD l)), mkS t, .d (.sl (ksD k))], .ag [mkS n, .d (.sl (atsD l)), mkS t, .d (.sl (ksD k))]] ∧ SizeOf.sizeOf (El.mk n l t k) < N ∧ q (mkB true)
noncomputable abbrev GRs (N : Nat) : List (FuncId × En) := [(7, .pure (ERs N))]
noncomputable def rRs_k0 (N : Nat) (q : AV → Prop) : Kont := kBlk (0 : Nat) (kSeq (aCode KS (GRs N) (cAt [1, 1, 1] Tryz.b7) (kRet KS (Array.toList (Func.results Tryz.f7)) q)) (kRet KS (Array.toList (Func.results Tryz.f7)) q))
theorem rRs (N : Nat) (n : BA) (l : List At) (t : BA) (k : List El) (q : AV → Prop) :
 (aCode KS (GRs N) Tryz.b7 (kRet KS Tryz.f7.results.toList q) ⟨[.ag [mkS n, .d (.sl (atsD l)), mkS t, .d (.sl (ksD k))], .ag [mkS n, .d (.sl (atsD l)), mkS t, .d (.sl (ksD k))]] ++ List.replicate (Tryz.f7.ntmps - 2) .jk, []⟩) = (
 bcase (!(decide (n = n))) (
 q (mkB false)) (
 bcase (!(decide (t = t))) (
 q (mkB false)) (
 ((List.length (atsD l)) ≤ LIM) →
 ((List.length (atsD l)) ≤ LIM) →
 bcase (((List.length (atsD l)) : Int) != ((List.length (atsD l)) : Int)) (
 q (mkB false)) (
 ((List.length (ksD k)) ≤ LIM) →
 ((List.length (ksD k)) ≤ LIM) →
 bcase (((List.length (ksD k)) : Int) != ((List.length (ksD k)) : Int)) (
 q (mkB false)) (
 ALoop (aCode KS (GRs N) (cAt [1, 1, 0, 1, 0, 0] Tryz.b7)) (rRs_k0 N q) ⟨[elA n l t k, elA n l t k, .rf 0 0, .rf 1 0, mkB false, mkI .i64 0, .jk, .rf 0 (0 + 0), mkS n, .rf 1 (0 + 0), mkS n, mkB (!(decide (n = n))), mkB false, .rf 0 (0 + 2), mkS t, .rf 1 (0 + 2), mkS t, mkB (!(decide (t = t))), mkB (!(decide (t = t))), mkB false, .rf 0 (0 + 1), .d (.sl (atsD l)), mkI .i64 ((List.length (atsD l)) : Int), .rf 1 (0 + 1), .d (.sl (atsD l)), mkI .i64 ((List.length (atsD l)) : Int), mkB (((List.length (atsD l)) : Int) != ((List.length (atsD l)) : Int)), mkB (((List.length (atsD l)) : Int) != ((List.length (atsD l)) : Int)), mkB false, .rf 0 (0 + 3), .d (.sl (ksD k)), mkI .i64 ((List.length (ksD k)) : Int), .rf 1 (0 + 3), .d (.sl (ksD k)), mkI .i64 ((List.length (ksD k)) : Int), mkB (((List.length (ksD k)) : Int) != ((List.length (ksD k)) : Int)), mkB false] ++ (jks 37), [elO n l t k, elO n l t k]⟩))))) := by kernel_rfl
def stRs (n : BA) (l : List At) (t : BA) (k : List El) (i : Int) : S := ⟨[.jk, .jk, .rf 0 0, .rf 1 0, mkB false, mkI .i64 i] ++ jks 68, [elO n l t k, elO n l t k]⟩
noncomputable def rRs_b_k0 (N : Nat) (q : AV → Prop) : Kont := kBlk (2 : Nat) (kSeq (aCode KS (GRs N) (cAt [1, 1, 1, 1] Tryz.b7) (kRet KS (Array.toList (Func.results Tryz.f7)) q)) (kRet KS (Array.toList (Func.results Tryz.f7)) q))
theorem rRs_b {ι : Type} (st : ι → S) (inv : ι → Prop) (μ : ι → Nat) (kk : ι) (N : Nat) (n : BA) (l : List At) (t : BA) (k : List El) (i : Int) (q : AV → Prop) :
 (aCode KS (GRs N) (cAt [1, 1, 0, 1, 0, 0] Tryz.b7) (kFamM [] (maskOf (stRs n l t k i)) st inv μ kk (rRs_k0 N q)) (stRs n l t k i)) = (
 ((List.length (atsD l)) ≤ LIM) →
 bcase (decide (i < ((List.length (atsD l)) : Int))) (
 (((0 : Int) ≤ i) ∧ (i < ((List.length (atsD l)) : Int))) ∧
 ((List.length (List.getD (atsD l) (Int.toNat i) [])) = 2) ∧
 (2 ≤ (List.length (List.getD (atsD l) (Int.toNat i) []))) ∧
 (((List.getD (List.getD (atsD l) (Int.toNat i) []) 0 d0) = (D.v (.string (strD (List.getD (List.getD (atsD l) (Int.toNat i) []) 0 d0))))) ∧ (((List.getD (List.drop 1 (List.getD (atsD l) (Int.toNat i) [])) 0 d0) = (D.v (.string (strD (List.getD (List.drop 1 (List.getD (atsD l) (Int.toNat i) [])) 0 d0))))) ∧ True)) ∧
 (((0 : Int) ≤ i) ∧ (i < ((List.length (atsD l)) : Int))) ∧
 ((List.length (List.getD (atsD l) (Int.toNat i) [])) = 2) ∧
 (2 ≤ (List.length (List.getD (atsD l) (Int.toNat i) []))) ∧
 (((List.getD (List.getD (atsD l) (Int.toNat i) []) 0 d0) = (D.v (.string (strD (List.getD (List.getD (atsD l) (Int.toNat i) []) 0 d0))))) ∧ (((List.getD (List.drop 1 (List.getD (atsD l) (Int.toNat i) [])) 0 d0) = (D.v (.string (strD (List.getD (List.drop 1 (List.getD (atsD l) (Int.toNat i) [])) 0 d0))))) ∧ True)) ∧
 bcase (!(Bool.and (decide ((strD (List.getD (List.getD (atsD l) (Int.toNat i) []) 0 d0)) = (strD (List.getD (List.getD (atsD l) (Int.toNat i) []) 0 d0)))) (Bool.and (decide ((strD (List.getD (List.drop 1 (List.getD (atsD l) (Int.toNat i) [])) 0 d0)) = (strD (List.getD (List.drop 1 (List.getD (atsD l) (Int.toNat i) [])) 0 d0)))) true))) (
 q (mkB false)) (
 FamNext st inv μ kk ⟨[.jk, .jk, .rf 0 0, .rf 1 0, mkB false, mkI .i64 (IntKind.wrap .i64 (i + (1 : Int)))] ++ (jks 68), [elO n l t k, elO n l t k]⟩)) (
 ALoop (aCode KS (GRs N) (cAt [1, 1, 1, 0, 1, 0, 0] Tryz.b7)) (rRs_b_k0 N q) ⟨[.jk, .jk, .rf 0 0, .rf 1 0, mkB false, mkI .i64 i, mkI .i64 0] ++ (jks 30 ++ ([mkI .i64 i, .rf 0 (0 + 1), .d (.sl (atsD l)), mkI .i64 ((List.length (atsD l)) : Int), mkB false] ++ (jks 32))), [elO n l t k, elO n l t k]⟩)) := by kernel_rfl
def stRs2 (n : BA) (l : List At) (t : BA) (k : List El) (i : Int) : S := ⟨[.jk, .jk, .rf 0 0, .rf 1 0, mkB false, .jk, mkI .i64 i] ++ jks 67, [elO n l t k, elO n l t k]⟩
theorem rRs_c {ι : Type} (st : ι → S) (inv : ι → Prop) (μ : ι → Nat) (kk : ι) (N : Nat) (n : BA) (l : List At) (t : BA) (k : List El) (i : Int) (q : AV → Prop) :
 (aCode KS (GRs N) (cAt [1, 1, 1, 0, 1, 0, 0] Tryz.b7) (kFamM [] (maskOf (stRs2 n l t k i)) st inv μ kk (rRs_b_k0 N q)) (stRs2 n l t k i)) = (
 ((List.length (ksD k)) ≤ LIM) →
 bcase (decide (i < ((List.length (ksD k)) : Int))) (
 (((0 : Int) ≤ i) ∧ (i < ((List.length (ksD k)) : Int))) ∧
 ((List.length (List.getD (ksD k) (Int.toNat i) [])) = 4) ∧
 (4 ≤ (List.length (List.getD (ksD k) (Int.toNat i) []))) ∧
 (((List.getD (List.getD (ksD k) (Int.toNat i) []) 0 d0) = (D.v (.string (strD (List.getD (List.getD (ksD k) (Int.toNat i) []) 0 d0))))) ∧ (((List.getD (List.drop 1 (List.getD (ksD k) (Int.toNat i) [])) 0 d0) = (D.sl (slD (List.getD (List.drop 1 (List.getD (ksD k) (Int.toNat i) [])) 0 d0)))) ∧ (((List.getD (List.drop 1 (List.drop 1 (List.getD (ksD k) (Int.toNat i) []))) 0 d0) = (D.v (.string (strD (List.getD (List.drop 1 (List.drop 1 (List.getD (ksD k) (Int.toNat i) []))) 0 d0))))) ∧ (((List.getD (List.drop 1 (List.drop 1 (List.drop 1 (List.getD (ksD k) (Int.toNat i) [])))) 0 d0) = (D.sl (slD (List.getD (List.drop 1 (List.drop 1 (List.drop 1 (List.getD (ksD k) (Int.toNat i) [])))) 0 d0)))) ∧ True)))) ∧
 (((0 : Int) ≤ i) ∧ (i < ((List.length (ksD k)) : Int))) ∧
 ((List.length (List.getD (ksD k) (Int.toNat i) [])) = 4) ∧
 (4 ≤ (List.length (List.getD (ksD k) (Int.toNat i) []))) ∧
 (((List.getD (List.getD (ksD k) (Int.toNat i) []) 0 d0) = (D.v (.string (strD (List.getD (List.getD (ksD k) (Int.toNat i) []) 0 d0))))) ∧ (((List.getD (List.drop 1 (List.getD (ksD k) (Int.toNat i) [])) 0 d0) = (D.sl (slD (List.getD (List.drop 1 (List.getD (ksD k) (Int.toNat i) [])) 0 d0)))) ∧ (((List.getD (List.drop 1 (List.drop 1 (List.getD (ksD k) (Int.toNat i) []))) 0 d0) = (D.v (.string (strD (List.getD (List.drop 1 (List.drop 1 (List.getD (ksD k) (Int.toNat i) []))) 0 d0))))) ∧ (((List.getD (List.drop 1 (List.drop 1 (List.drop 1 (List.getD (ksD k) (Int.toNat i) [])))) 0 d0) = (D.sl (slD (List.getD (List.drop 1 (List.drop 1 (List.drop 1 (List.getD (ksD k) (Int.toNat i) [])))) 0 d0)))) ∧ True)))) ∧ (
 ∃ (n_1 : ByteArray),
 ∃ (l_1 : List At),
 ∃ (t_1 : ByteArray),
 ∃ (k_1 : List El),
 ([AV.ag [mkS (strD (List.getD (List.getD (ksD k) (Int.toNat i) []) 0 d0)), AV.d (.sl (slD (List.getD (List.drop 1 (List.getD (ksD k) (Int.toNat i) [])) 0 d0))), mkS (strD (List.getD (List.drop 1 (List.drop 1 (List.getD (ksD k) (Int.toNat i) []))) 0 d0)), AV.d (.sl (slD (List.getD (List.drop 1 (List.drop 1 (List.drop 1 (List.getD (ksD k) (Int.toNat i) [])))) 0 d0)))], AV.ag [mkS (strD (List.getD (List.getD (ksD k) (Int.toNat i) []) 0 d0)), AV.d (.sl (slD (List.getD (List.drop 1 (List.getD (ksD k) (Int.toNat i) [])) 0 d0))), mkS (strD (List.getD (List.drop 1 (List.drop 1 (List.getD (ksD k) (Int.toNat i) []))) 0 d0)), AV.d (.sl (slD (List.getD (List.drop 1 (List.drop 1 (List.drop 1 (List.getD (ksD k) (Int.toNat i) [])))) 0 d0)))]] = [AV.ag [mkS n_1, AV.d (.sl (atsD l_1)), mkS t_1, AV.d (.sl (ksD k_1))], AV.ag [mkS n_1, AV.d (.sl (atsD l_1)), mkS t_1, AV.d (.sl (ksD k_1))]]) ∧
 ((SizeOf.sizeOf (El.mk n_1 l_1 t_1 k_1)) < N) ∧
 FamNext st inv μ kk ⟨[.jk, .jk, .rf 0 0, .rf 1 0, mkB false, .jk, mkI .i64 (IntKind.wrap .i64 (i + (1 : Int)))] ++ (jks 67), [elO n l t k, elO n l t k]⟩)) (
 q (mkB true))) := by kernel_rfl
end Go.Proofs.YtfdmmgiefhhnoaaGreatDoor
