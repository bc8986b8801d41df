import Derived.Test.YtldcalmoboeeiaaDoorRosVers
import Derived.Test.YtldcalmoboeeiaaDoorRosNms
set_option linter.unusedSimpArgs false
set_option linter.unusedVariables false
namespace Go.Proofs.YtldcalmoboeeiaaDoor
open Go Go.AM Go.RowKit
theorem inB_filt {us : List BA} {x : BA} (h : x ∈ us) (p : BA → Bool) : inB x (us.filter p) = p x := by
  unfold inB
  cases hp : p x with
  | true => rw [List.any_eq_true]; exact ⟨x, List.mem_filter.2 ⟨h, hp⟩, by simp⟩
  | false =>
    rw [List.any_eq_false]
    intro y hy he
    have e : y = x := of_decide_eq_true he
    rw [e] at hy
    rw [(List.mem_filter.1 hy).2] at hp
    cases hp
theorem fit_tf {x y : Sd} (h : fitM x y = true) : x.t = y.f := by
  unfold fitM at h
  simp only [Bool.and_eq_true, beq_iff_eq] at h
  exact h.1.1.1
theorem u8_len : u8.length = 8 := rfl
theorem u8_in (k : Nat) (h : k < 8) : u8.getD k ⟨#[]⟩ ∈ u8 := by
  rw [List.getD_eq_getElem?_getD, List.getElem?_eq_getElem (by rw [u8_len]; exact h)]
  exact List.getElem_mem _
theorem u8_size : ∀ s ∈ u8, s.size ≤ 1000 := by decide
theorem u8_okS : u8.length ≤ 1000 ∧ ∀ s ∈ u8, s.size ≤ 1000 := ⟨by decide, u8_size⟩
theorem u8_nodup : u8.Nodup := by decide
theorem u8_mem (k : Nat) (h : k < 8) : memB (u8.getD k ⟨#[]⟩) u8 = true := (memB_iff _ _).2 (u8_in k h)
theorem cap_it {us : List BA} {sd : Sds} {nm : Nms} (g : Good us sd nm) (u : BA) : (itsD (itemsM us sd nm u)).length ≤ 6 := by
  have := g.cap u
  rw [← items_len sd nm u us] at this
  rw [show (itsD (itemsM us sd nm u)).length = (itemsM us sd nm u).length from by simp [itsD]]
  exact this
end Go.Proofs.YtldcalmoboeeiaaDoor

namespace Go.Proofs.YtldcalmoboeeiaaDoor
open Go Go.AM Go.RowKit
attribute [local irreducible] aCode aUnr aUnS aOut
noncomputable abbrev GWs : List (FuncId × En) := [(29, .det FSees), (55, .det FSeen)]
noncomputable def rWhoS_k0 (q : AV → (List Ob) → Prop) : Kont := kBlk (0 : Nat) (kSeq (aCode KR GWs (cAt [1, 1, 1, 1] Tryd.b54) (kRetF KR (Array.toList (Func.results Tryd.f54)) q)) (kRetF KR (Array.toList (Func.results Tryd.f54)) q))
theorem rWhoS (us : List BA) (sd : Sds) (nm : Nms) (vs : Vss) (u : BA) (q : AV → List Ob → Prop) :
  (aCode KR GWs Tryd.b54 (kRetF KR Tryd.f54.results.toList q) ⟨[.rf 0 0, mkS u, .fn (.func 29) [] []] ++ List.replicate (Tryd.f54.ntmps - 3) .jk, bkO us sd nm vs⟩) = (
  ((List.length (strsD us)) ≤ LIM) →
  ALoop (aCode KR GWs (cAt [1, 1, 1, 0, 1, 0, 0] Tryd.b54)) (rWhoS_k0 q) ⟨[AV.rf 0 0, mkS u, AV.fn (Fn.func 29) [] [], AV.jk, AV.jk, AV.jk, AV.nl, AV.nl, AV.jk, AV.jk, AV.rf 0 0, mkB false, AV.rf 0 0, AV.rf 0 0, AV.rf 0 (0 + 0), mkSS us, mkI .i64 ((List.length (strsD us)) : Int), mkI .i64 (0 : Int)] ++ (jks 19), [Ob.box [mkSS us, AV.mp 1, AV.mp 2, AV.mp 3], Ob.map (KK.ystrs 2) (sdE sd), Ob.map (KK.ystrs 2) (nmE nm), Ob.map KK.ystr (vsE vs), Ob.gh [AV.rf 0 0, AV.mp 1, AV.mp 2, AV.mp 3]]⟩) := by kernel_rfl
def stWS (us : List BA) (sd : Sds) (nm : Nms) (vs : Vss) (u : BA) (l : List BA) (i : Int) : S := ⟨[.rf 0 0, mkS u, .fn (.func 29) [] [], .jk, .jk, .jk, .jk, .vw 5 (strsD l).length] ++ jks 7 ++ [mkSS us, mkI .i64 (strsD us).length, mkI .i64 i] ++ jks 19, bkO us sd nm vs ++ [.row 1 (strsD l)]⟩
theorem rWhoS_b {ι : Type} (st : ι → S) (inv : ι → Prop) (μ : ι → Nat) (k : ι) (us : List BA) (sd : Sds) (nm : Nms) (vs : Vss) (u : BA) (l : List BA) (i : Int) (q : AV → List Ob → Prop) :
  (aCode KR GWs (cAt [1, 1, 1, 0, 1, 0, 0] Tryd.b54) (kFamM [] (maskOf (stWS us sd nm vs u l i)) st inv μ k (rWhoS_k0 q)) (stWS us sd nm vs u l i)) = (
  bcase (decide (i < ((List.length (strsD us)) : Int))) (
   (((0 : Int) ≤ i) ∧ (i < ((List.length (strsD us)) : Int))) ∧
   ((List.length (List.getD (strsD us) (Int.toNat i) [])) = 1) ∧
   ((1 : Nat) ≤ (List.length (List.getD (strsD us) (Int.toNat i) []))) ∧
   ((List.getD (List.getD (strsD us) (Int.toNat i) []) (0 : Nat) d0) = (D.v (.string (strD (List.getD (List.getD (strsD us) (Int.toNat i) []) (0 : Nat) d0))))) ∧ (
    ∃ (n : Int),
    ∃ (b : Bool),
    ∃ (b_1 : Bool),
    ((getO (Key.ss [u, strD (List.getD (List.getD (strsD us) (Int.toNat i) []) (0 : Nat) d0)]) (sdE sd) (AV.ag [mkI .i64 (0 : Int), mkB false, mkB false])) = (AV.ag [mkI .i64 n, mkB b, mkB b_1])) ∧
    (((0 : Int) ≤ n) ∧ (n ≤ (3 : Int))) ∧
    bcase (Sd.t (sdOf n b b_1)) (
     (∀ (c : List D), (c ∈ [[D.v (.string (strD (List.getD (List.getD (strsD us) (Int.toNat i) []) (0 : Nat) d0)))]]) → (List.length c) = 1) ∧
     ((List.length (strsD l)) = (List.length (strsD l))) ∧
     (((List.length (strsD l)) + 1) ≤ LIM) ∧
     FamNext st inv μ k ⟨[AV.rf 0 0, mkS u, AV.fn (Fn.func 29) [] [], AV.jk, AV.jk, AV.jk, AV.jk, AV.vw 5 ((List.length (strsD l)) + 1), AV.jk, AV.jk, AV.jk, AV.jk, AV.jk, AV.jk, AV.jk, AV.d (.sl (strsD us)), mkI .i64 ((List.length (strsD us)) : Int), mkI .i64 (IntKind.wrap .i64 (i + (1 : Int)))] ++ (jks 19), [Ob.box [AV.d (.sl (strsD us)), AV.mp 1, AV.mp 2, AV.mp 3], Ob.map (KK.ystrs 2) (sdE sd), Ob.map (KK.ystrs 2) (nmE nm), Ob.map KK.ystr (vsE vs), Ob.gh [AV.rf 0 0, AV.mp 1, AV.mp 2, AV.mp 3], Ob.row 1 ((strsD l) ++ [[D.v (.string (strD (List.getD (List.getD (strsD us) (Int.toNat i) []) (0 : Nat) d0)))]]), Ob.row 1 [[D.v (.string (strD (List.getD (List.getD (strsD us) (Int.toNat i) []) (0 : Nat) d0)))]]]⟩) (
     FamNext st inv μ k ⟨[AV.rf 0 0, mkS u, AV.fn (Fn.func 29) [] [], AV.jk, AV.jk, AV.jk, AV.jk, AV.vw 5 (List.length (strsD l)), AV.jk, AV.jk, AV.jk, AV.jk, AV.jk, AV.jk, AV.jk, mkSS us, mkI .i64 ((List.length (strsD us)) : Int), mkI .i64 (IntKind.wrap .i64 (i + (1 : Int)))] ++ (jks 19), [Ob.box [mkSS us, AV.mp 1, AV.mp 2, AV.mp 3], Ob.map (KK.ystrs 2) (sdE sd), Ob.map (KK.ystrs 2) (nmE nm), Ob.map KK.ystr (vsE vs), Ob.gh [AV.rf 0 0, AV.mp 1, AV.mp 2, AV.mp 3], Ob.row 1 (strsD l)]⟩))) (
   q (AV.vw 5 (List.length (strsD l))) [Ob.box [mkSS us, AV.mp 1, AV.mp 2, AV.mp 3], Ob.map (KK.ystrs 2) (sdE sd), Ob.map (KK.ystrs 2) (nmE nm), Ob.map KK.ystr (vsE vs), Ob.gh [AV.rf 0 0, AV.mp 1, AV.mp 2, AV.mp 3], Ob.row 1 (strsD l)])) := by kernel_rfl
noncomputable def rWhoN_k0 (q : AV → (List Ob) → Prop) : Kont := kBlk (0 : Nat) (kSeq (aCode KR GWs (cAt [1, 1, 1, 1] Tryd.b54) (kRetF KR (Array.toList (Func.results Tryd.f54)) q)) (kRetF KR (Array.toList (Func.results Tryd.f54)) q))
theorem rWhoN (us : List BA) (sd : Sds) (nm : Nms) (vs : Vss) (u : BA) (q : AV → List Ob → Prop) :
  (aCode KR GWs Tryd.b54 (kRetF KR Tryd.f54.results.toList q) ⟨[.rf 0 0, mkS u, .fn (.func 55) [] []] ++ List.replicate (Tryd.f54.ntmps - 3) .jk, bkO us sd nm vs⟩) = (
  ((List.length (strsD us)) ≤ LIM) →
  ALoop (aCode KR GWs (cAt [1, 1, 1, 0, 1, 0, 0] Tryd.b54)) (rWhoN_k0 q) ⟨[AV.rf 0 0, mkS u, AV.fn (Fn.func 55) [] [], AV.jk, AV.jk, AV.jk, AV.nl, AV.nl, AV.jk, AV.jk, AV.rf 0 0, mkB false, AV.rf 0 0, AV.rf 0 0, AV.rf 0 (0 + 0), mkSS us, mkI .i64 ((List.length (strsD us)) : Int), mkI .i64 (0 : Int)] ++ (jks 19), [Ob.box [mkSS us, AV.mp 1, AV.mp 2, AV.mp 3], Ob.map (KK.ystrs 2) (sdE sd), Ob.map (KK.ystrs 2) (nmE nm), Ob.map KK.ystr (vsE vs), Ob.gh [AV.rf 0 0, AV.mp 1, AV.mp 2, AV.mp 3]]⟩) := by kernel_rfl
def stWN (us : List BA) (sd : Sds) (nm : Nms) (vs : Vss) (u : BA) (l : List BA) (i : Int) : S := ⟨[.rf 0 0, mkS u, .fn (.func 55) [] [], .jk, .jk, .jk, .jk, .vw 5 (strsD l).length] ++ jks 7 ++ [mkSS us, mkI .i64 (strsD us).length, mkI .i64 i] ++ jks 19, bkO us sd nm vs ++ [.row 1 (strsD l)]⟩
theorem rWhoN_b {ι : Type} (st : ι → S) (inv : ι → Prop) (μ : ι → Nat) (k : ι) (us : List BA) (sd : Sds) (nm : Nms) (vs : Vss) (u : BA) (l : List BA) (i : Int) (q : AV → List Ob → Prop) :
  (aCode KR GWs (cAt [1, 1, 1, 0, 1, 0, 0] Tryd.b54) (kFamM [] (maskOf (stWN us sd nm vs u l i)) st inv μ k (rWhoN_k0 q)) (stWN us sd nm vs u l i)) = (
  bcase (decide (i < ((List.length (strsD us)) : Int))) (
   (((0 : Int) ≤ i) ∧ (i < ((List.length (strsD us)) : Int))) ∧
   ((List.length (List.getD (strsD us) (Int.toNat i) [])) = 1) ∧
   ((1 : Nat) ≤ (List.length (List.getD (strsD us) (Int.toNat i) []))) ∧
   ((List.getD (List.getD (strsD us) (Int.toNat i) []) (0 : Nat) d0) = (D.v (.string (strD (List.getD (List.getD (strsD us) (Int.toNat i) []) (0 : Nat) d0))))) ∧ (
    ∃ (n : Int),
    ∃ (b : Bool),
    ∃ (b_1 : Bool),
    ((getO (Key.ss [u, strD (List.getD (List.getD (strsD us) (Int.toNat i) []) (0 : Nat) d0)]) (sdE sd) (AV.ag [mkI .i64 (0 : Int), mkB false, mkB false])) = (AV.ag [mkI .i64 n, mkB b, mkB b_1])) ∧
    (((0 : Int) ≤ n) ∧ (n ≤ (3 : Int))) ∧
    bcase (Sd.f (sdOf n b b_1)) (
     (∀ (c : List D), (c ∈ [[D.v (.string (strD (List.getD (List.getD (strsD us) (Int.toNat i) []) (0 : Nat) d0)))]]) → (List.length c) = 1) ∧
     ((List.length (strsD l)) = (List.length (strsD l))) ∧
     (((List.length (strsD l)) + 1) ≤ LIM) ∧
     FamNext st inv μ k ⟨[AV.rf 0 0, mkS u, AV.fn (Fn.func 55) [] [], AV.jk, AV.jk, AV.jk, AV.jk, AV.vw 5 ((List.length (strsD l)) + 1), AV.jk, AV.jk, AV.jk, AV.jk, AV.jk, AV.jk, AV.jk, AV.d (.sl (strsD us)), mkI .i64 ((List.length (strsD us)) : Int), mkI .i64 (IntKind.wrap .i64 (i + (1 : Int)))] ++ (jks 19), [Ob.box [AV.d (.sl (strsD us)), AV.mp 1, AV.mp 2, AV.mp 3], Ob.map (KK.ystrs 2) (sdE sd), Ob.map (KK.ystrs 2) (nmE nm), Ob.map KK.ystr (vsE vs), Ob.gh [AV.rf 0 0, AV.mp 1, AV.mp 2, AV.mp 3], Ob.row 1 ((strsD l) ++ [[D.v (.string (strD (List.getD (List.getD (strsD us) (Int.toNat i) []) (0 : Nat) d0)))]]), Ob.row 1 [[D.v (.string (strD (List.getD (List.getD (strsD us) (Int.toNat i) []) (0 : Nat) d0)))]]]⟩) (
     FamNext st inv μ k ⟨[AV.rf 0 0, mkS u, AV.fn (Fn.func 55) [] [], AV.jk, AV.jk, AV.jk, AV.jk, AV.vw 5 (List.length (strsD l)), AV.jk, AV.jk, AV.jk, AV.jk, AV.jk, AV.jk, AV.jk, mkSS us, mkI .i64 ((List.length (strsD us)) : Int), mkI .i64 (IntKind.wrap .i64 (i + (1 : Int)))] ++ (jks 19), [Ob.box [mkSS us, AV.mp 1, AV.mp 2, AV.mp 3], Ob.map (KK.ystrs 2) (sdE sd), Ob.map (KK.ystrs 2) (nmE nm), Ob.map KK.ystr (vsE vs), Ob.gh [AV.rf 0 0, AV.mp 1, AV.mp 2, AV.mp 3], Ob.row 1 (strsD l)]⟩))) (
   q (AV.vw 5 (List.length (strsD l))) [Ob.box [mkSS us, AV.mp 1, AV.mp 2, AV.mp 3], Ob.map (KK.ystrs 2) (sdE sd), Ob.map (KK.ystrs 2) (nmE nm), Ob.map KK.ystr (vsE vs), Ob.gh [AV.rf 0 0, AV.mp 1, AV.mp 2, AV.mp 3], Ob.row 1 (strsD l)])) := by kernel_rfl
def EWhoS : REnt := fun al o q => ∃ us sd nm vs u, al = [.rf 0 0, mkS u, .fn (.func 29) [] []] ∧ o = bkO us sd nm vs ∧ q (mkSS (us.filter fun c => (sideOf sd u c).t)) (bkO us sd nm vs)
def EWhoN : REnt := fun al o q => ∃ us sd nm vs u, al = [.rf 0 0, mkS u, .fn (.func 55) [] []] ∧ o = bkO us sd nm vs ∧ q (mkSS (us.filter fun c => (sideOf sd u c).f)) (bkO us sd nm vs)
theorem rAud (us : List BA) (sd : Sds) (nm : Nms) (vs : Vss) (u : BA) (q : AV → List Ob → Prop) :
  (aCode KR [(54, .ref (frameX EWhoN))] Tryd.b24 (kRetF KR Tryd.f24.results.toList q) ⟨[.rf 0 0, mkS u] ++ List.replicate (Tryd.f24.ntmps - 2) .jk, bkO us sd nm vs⟩) = (
  ∃ (us_1 : List BA),
  ∃ (sd_1 : Sds),
  ∃ (nm_1 : Nms),
  ∃ (vs_1 : Vss),
  ∃ (u_1 : ByteArray),
  ([AV.rf 0 0, mkS u, AV.fn (Fn.func 55) [] []] = [AV.rf 0 0, mkS u_1, AV.fn (Fn.func 55) [] []]) ∧
  ([Ob.box [AV.d (.sl (strsD us)), AV.mp (0 + 1), AV.mp ((0 + 1) + 1), AV.mp (((0 + 1) + 1) + 1)], Ob.map (KK.ystrs 2) (sdE sd), Ob.map (KK.ystrs 2) (nmE nm), Ob.map KK.ystr (vsE vs), Ob.gh [AV.rf 0 0, AV.mp (0 + 1), AV.mp ((0 + 1) + 1), AV.mp (((0 + 1) + 1) + 1)]] = [Ob.box [mkSS us_1, AV.mp 1, AV.mp 2, AV.mp 3], Ob.map (KK.ystrs 2) (sdE sd_1), Ob.map (KK.ystrs 2) (nmE nm_1), Ob.map KK.ystr (vsE vs_1), Ob.gh [AV.rf 0 0, AV.mp 1, AV.mp 2, AV.mp 3]]) ∧
  ((Option.some (Ob.gh [AV.rf 0 0, AV.mp 1, AV.mp 2, AV.mp 3])) = (Option.some (Ob.gh [AV.rf 0 0, AV.mp (0 + 1), AV.mp ((0 + 1) + 1), AV.mp (((0 + 1) + 1) + 1)]))) ∧
  q (AV.d (.sl (strsD (List.filter (fun (c : ByteArray) => Sd.f (sideOf sd_1 u_1 c)) us_1)))) [Ob.box [AV.d (.sl (strsD us_1)), AV.mp (if 1 < 4 then 1 else 6 + (1 - 4)), AV.mp (if 2 < 4 then 2 else 6 + (2 - 4)), AV.mp (if 3 < 4 then 3 else 6 + (3 - 4))], Ob.map (KK.ystrs 2) (sdE sd_1), Ob.map (KK.ystrs 2) (nmE nm_1), Ob.map KK.ystr (vsE vs_1), Ob.gh [AV.rf 0 0, AV.mp 1, AV.mp 2, AV.mp 3], Ob.gone, Ob.gone]) := by kernel_rfl
theorem rWat (us : List BA) (sd : Sds) (nm : Nms) (vs : Vss) (u : BA) (q : AV → List Ob → Prop) :
  (aCode KR [(54, .ref (frameX EWhoS))] Tryd.b25 (kRetF KR Tryd.f25.results.toList q) ⟨[.rf 0 0, mkS u] ++ List.replicate (Tryd.f25.ntmps - 2) .jk, bkO us sd nm vs⟩) = (
  ∃ (us_1 : List BA),
  ∃ (sd_1 : Sds),
  ∃ (nm_1 : Nms),
  ∃ (vs_1 : Vss),
  ∃ (u_1 : ByteArray),
  ([AV.rf 0 0, mkS u, AV.fn (Fn.func 29) [] []] = [AV.rf 0 0, mkS u_1, AV.fn (Fn.func 29) [] []]) ∧
  ([Ob.box [AV.d (.sl (strsD us)), AV.mp (0 + 1), AV.mp ((0 + 1) + 1), AV.mp (((0 + 1) + 1) + 1)], Ob.map (KK.ystrs 2) (sdE sd), Ob.map (KK.ystrs 2) (nmE nm), Ob.map KK.ystr (vsE vs), Ob.gh [AV.rf 0 0, AV.mp (0 + 1), AV.mp ((0 + 1) + 1), AV.mp (((0 + 1) + 1) + 1)]] = [Ob.box [mkSS us_1, AV.mp 1, AV.mp 2, AV.mp 3], Ob.map (KK.ystrs 2) (sdE sd_1), Ob.map (KK.ystrs 2) (nmE nm_1), Ob.map KK.ystr (vsE vs_1), Ob.gh [AV.rf 0 0, AV.mp 1, AV.mp 2, AV.mp 3]]) ∧
  ((Option.some (Ob.gh [AV.rf 0 0, AV.mp 1, AV.mp 2, AV.mp 3])) = (Option.some (Ob.gh [AV.rf 0 0, AV.mp (0 + 1), AV.mp ((0 + 1) + 1), AV.mp (((0 + 1) + 1) + 1)]))) ∧
  q (AV.d (.sl (strsD (List.filter (fun (c : ByteArray) => Sd.t (sideOf sd_1 u_1 c)) us_1)))) [Ob.box [AV.d (.sl (strsD us_1)), AV.mp (if 1 < 4 then 1 else 6 + (1 - 4)), AV.mp (if 2 < 4 then 2 else 6 + (2 - 4)), AV.mp (if 3 < 4 then 3 else 6 + (3 - 4))], Ob.map (KK.ystrs 2) (sdE sd_1), Ob.map (KK.ystrs 2) (nmE nm_1), Ob.map KK.ystr (vsE vs_1), Ob.gh [AV.rf 0 0, AV.mp 1, AV.mp 2, AV.mp 3], Ob.gone, Ob.gone]) := by kernel_rfl
theorem filt_succ (p : BA → Bool) {us : List BA} {n : Nat} (h : n < us.length) : (us.take (n + 1)).filter p = (us.take n).filter p ++ if p (us.getD n ⟨#[]⟩) = true then [us.getD n ⟨#[]⟩] else [] := by
  rw [List.take_add_one, List.filter_append, List.getD_eq_getElem?_getD, List.getElem?_eq_getElem h]
  simp only [Option.toList_some, Option.getD_some, List.filter_cons, List.filter_nil]
theorem filt_len (p : BA → Bool) (us : List BA) (n : Nat) : ((us.take n).filter p).length ≤ n := Nat.le_trans (List.length_filter_le _ _) (by rw [List.length_take]; omega)
theorem sdOf_self (s : Sd) : sdOf s.sub s.a s.w = s := by
  obtain ⟨a, b, c, d⟩ := s
  cases a <;> cases b <;> rfl
theorem gws_ok : GSound Tryd.prog GWs := gsound_det cSees (gsound_det cSeen gsound_nil)
theorem cWhoS : RSound Tryd.prog 54 EWhoS := by
  refine ref_fnZ (c := Tryd.b54) mixed KR_ok gws_ok Tryd.func54 rfl rfl Tryd.call54 fun al o q ⟨us, sd, nm, vs, u, h1, h2, hq⟩ => ?_
  subst h1 h2
  refine cast (rWhoS us sd nm vs u (trimZ q)).symm fun hl => ?_
  rw [strsD_length] at hl
  refine ALoop.openT 7 1 (by omega) (ALoop.introM [] (maskOf (stWS us sd nm vs u [] 0)) (fun n : Nat => stWS us sd nm vs u ((us.take n).filter fun c => (sideOf sd u c).t) n) (fun n => n ≤ us.length) (fun n => us.length - n) ⟨[], 0, ?_, Nat.zero_le _⟩ fun n hn => ?_)
  · simp [S.le, sealAll, S.openT, leL, leO, jks, stWS, bkO, strsD]
  · refine cast (rWhoS_b _ _ _ n us sd nm vs u ((us.take n).filter fun c => (sideOf sd u c).t) n (trimZ q)).symm (bcase_dec (fun hlt => ?_) (fun hge => ?_))
    · rw [strsD_length] at hlt
      have hlt : n < us.length := by omega
      have hgd := strsD_getD us n hlt
      have hsucc := filt_succ (fun c => (sideOf sd u c).t) hlt
      have hw := wrap_succ hlt hl
      have hlen := filt_len (fun c => (sideOf sd u c).t) us n
      generalize us.getD n ⟨#[]⟩ = c at hgd hsucc
      generalize (us.take n).filter (fun c => (sideOf sd u c).t) = l at hsucc hlen
      simp only [Int.toNat_natCast, hgd, List.getD_cons_zero, strD]
      refine ⟨⟨by omega, by rw [strsD_length]; omega⟩, by trivial, Nat.le_refl _, by trivial, _, _, _, sd_get sd u c, sub_in _, ?_⟩
      rw [sdOf_self]
      refine bcase_mk (fun h => ?_) (fun h => ?_)
      · rw [if_pos h] at hsucc
        refine ⟨by simp, by trivial, by rw [strsD_length]; unfold LIM at hl ⊢; omega, .mk [] (n + 1) ?_ (by omega) (by omega)⟩
        rw [hw, hsucc]
        simp [S.le, sealAll, leL, leO, jks, stWS, bkO, S.fits, fitsL, AV.fits, Ob.fits, KK.isSy, mkSS, strsD]
      · rw [if_neg (by rw [h]; simp), List.append_nil] at hsucc
        refine .mk [] (n + 1) ?_ (by omega) (by omega)
        rw [hw, hsucc]
        simp [S.le, sealAll, leL, leO, jks, stWS, bkO, S.fits, fitsL, AV.fits, Ob.fits, KK.isSy, mkSS, strsD]
    · rw [strsD_length] at hge
      have e : n = us.length := by omega
      subst e
      rw [List.take_length]
      refine ⟨[5], ?_⟩
      simp only [sealAll, S.sealR, List.getElem?_cons_succ, List.getElem?_cons_zero]
      refine bk_trim (o := [.gone]) (leL_one _) rfl ?_
      simp only [AV.sub, if_true, List.take_length]
      exact hq
theorem cWhoN : RSound Tryd.prog 54 EWhoN := by
  refine ref_fnZ (c := Tryd.b54) mixed KR_ok gws_ok Tryd.func54 rfl rfl Tryd.call54 fun al o q ⟨us, sd, nm, vs, u, h1, h2, hq⟩ => ?_
  subst h1 h2
  refine cast (rWhoN us sd nm vs u (trimZ q)).symm fun hl => ?_
  rw [strsD_length] at hl
  refine ALoop.openT 7 1 (by omega) (ALoop.introM [] (maskOf (stWN us sd nm vs u [] 0)) (fun n : Nat => stWN us sd nm vs u ((us.take n).filter fun c => (sideOf sd u c).f) n) (fun n => n ≤ us.length) (fun n => us.length - n) ⟨[], 0, ?_, Nat.zero_le _⟩ fun n hn => ?_)
  · simp [S.le, sealAll, S.openT, leL, leO, jks, stWN, bkO, strsD]
  · refine cast (rWhoN_b _ _ _ n us sd nm vs u ((us.take n).filter fun c => (sideOf sd u c).f) n (trimZ q)).symm (bcase_dec (fun hlt => ?_) (fun hge => ?_))
    · rw [strsD_length] at hlt
      have hlt : n < us.length := by omega
      have hgd := strsD_getD us n hlt
      have hsucc := filt_succ (fun c => (sideOf sd u c).f) hlt
      have hw := wrap_succ hlt hl
      have hlen := filt_len (fun c => (sideOf sd u c).f) us n
      generalize us.getD n ⟨#[]⟩ = c at hgd hsucc
      generalize (us.take n).filter (fun c => (sideOf sd u c).f) = l at hsucc hlen
      simp only [Int.toNat_natCast, hgd, List.getD_cons_zero, strD]
      refine ⟨⟨by omega, by rw [strsD_length]; omega⟩, by trivial, Nat.le_refl _, by trivial, _, _, _, sd_get sd u c, sub_in _, ?_⟩
      rw [sdOf_self]
      refine bcase_mk (fun h => ?_) (fun h => ?_)
      · rw [if_pos h] at hsucc
        refine ⟨by simp, by trivial, by rw [strsD_length]; unfold LIM at hl ⊢; omega, .mk [] (n + 1) ?_ (by omega) (by omega)⟩
        rw [hw, hsucc]
        simp [S.le, sealAll, leL, leO, jks, stWN, bkO, S.fits, fitsL, AV.fits, Ob.fits, KK.isSy, mkSS, strsD]
      · rw [if_neg (by rw [h]; simp), List.append_nil] at hsucc
        refine .mk [] (n + 1) ?_ (by omega) (by omega)
        rw [hw, hsucc]
        simp [S.le, sealAll, leL, leO, jks, stWN, bkO, S.fits, fitsL, AV.fits, Ob.fits, KK.isSy, mkSS, strsD]
    · rw [strsD_length] at hge
      have e : n = us.length := by omega
      subst e
      rw [List.take_length]
      refine ⟨[5], ?_⟩
      simp only [sealAll, S.sealR, List.getElem?_cons_succ, List.getElem?_cons_zero]
      refine bk_trim (o := [.gone]) (leL_one _) rfl ?_
      simp only [AV.sub, if_true, List.take_length]
      exact hq
def EAud : REnt := fun al o q => ∃ us sd nm vs u, al = [.rf 0 0, mkS u] ∧ o = bkO us sd nm vs ∧ ∀ l, (us.filter fun c => (sideOf sd u c).f) = l → q (mkSS l) (bkO us sd nm vs)
theorem cAud : RSound Tryd.prog 24 EAud := by
  refine ref_fnR (c := Tryd.b24) mixed KR_ok (gsound_ref (RSound.frameX cWhoN) gsound_nil) Tryd.func24 rfl rfl Tryd.call24 fun al o q ⟨us, sd, nm, vs, u, h1, h2, hq⟩ => ?_
  subst h1 h2
  exact cast (rAud us sd nm vs u (trimR q)).symm ⟨us, sd, nm, vs, u, rfl, rfl, rfl, bk_trim (o := [.gone, .gone]) (leL_one _) rfl (hq _ rfl)⟩
def EWat : REnt := fun al o q => ∃ us sd nm vs u, al = [.rf 0 0, mkS u] ∧ o = bkO us sd nm vs ∧ ∀ l, (us.filter fun c => (sideOf sd u c).t) = l → q (mkSS l) (bkO us sd nm vs)
theorem cWat : RSound Tryd.prog 25 EWat := by
  refine ref_fnR (c := Tryd.b25) mixed KR_ok (gsound_ref (RSound.frameX cWhoS) gsound_nil) Tryd.func25 rfl rfl Tryd.call25 fun al o q ⟨us, sd, nm, vs, u, h1, h2, hq⟩ => ?_
  subst h1 h2
  exact cast (rWat us sd nm vs u (trimR q)).symm ⟨us, sd, nm, vs, u, rfl, rfl, rfl, bk_trim (o := [.gone, .gone]) (leL_one _) rfl (hq _ rfl)⟩
end Go.Proofs.YtldcalmoboeeiaaDoor

namespace Go.Proofs.YtldcalmoboeeiaaDoor
open Go Go.AM Go.RowKit
attribute [local irreducible] aCode aUnr aUnS aOut
/-- Behind the start, and behind `x, y := b.Side(..), b.Side(..)`, the state is told anew. -/
noncomputable abbrev KRc : TypeId → Option TK := cutK KR [6, 18]
theorem KRc_ok : KOk Tryd.prog KRc := cutK_ok KR_ok _
noncomputable abbrev GFt : List (FuncId × En) := [(12, .ref (frameX ELives)), (13, .ref (frameX EBegin8)), (14, .det FEarly), (16, .ref (frameX EDoes)), (15, .ref (frameX EItemsQ)), (23, .ref (frameX ESideQ)), (24, .ref (frameX EAud)), (25, .ref (frameX EWat)), (27, .det FRight), (28, .det FFit), (29, .det FSees), (18, .det FHas)]
def lawP (us : List BA) (sd : Sds) (nm : Nms) (vs : Vss) : List Ob := [.map (.ystrs 2) (sdE sd), .map (.ystrs 2) (nmE nm), .map .ystr (vsE vs), .box [mkSS us, .mp 0, .mp 1, .mp 2]]
noncomputable def rFt_k0 (q : AV → Prop) : Kont := kBlk (0 : Nat) (kSeq (aCode KRc GFt (cAt [1, 1, 1, 1, 1] Tryd.b8) (kRet KRc (Array.toList (Func.results Tryd.f8)) q)) (kRet KRc (Array.toList (Func.results Tryd.f8)) q))
theorem rFt (l : List Op) (q : AV → Prop) :
  (aCode KRc GFt Tryd.b8 (kRet KRc Tryd.f8.results.toList q) ⟨[.d (.sl (opsD l))] ++ List.replicate (Tryd.f8.ntmps - 1) .jk, []⟩) = (
  (([] : List AV) = []) ∧
  ([Ob.gh []] = [Ob.gh []]) ∧
  ((Option.some (Ob.gh [])) = (Option.some (Ob.gh []))) ∧
  ([mkI .i64 (8 : Int)] = [mkI .i64 (8 : Int)]) ∧
  ([Ob.gh []] = [Ob.gh []]) ∧
  ((Option.some (Ob.gh [])) = (Option.some (Ob.gh []))) ∧
  ((opsD l) = (opsD (unOps (opsD l)))) ∧
  ALoop (aCode KRc GFt (cAt [1, 1, 1, 1, 0, 1, 0, 0] Tryd.b8)) (rFt_k0 q) ⟨[AV.d (.sl (opsD (List.take (80 : Nat) (unOps (opsD l))))), AV.jk, mkB false, AV.rf (if 14 < 0 then 0 else 3 + (14 - 0)) 0, AV.d (.sl (strsD u8)), mkI .i64 (0 : Int), AV.jk, AV.jk, AV.jk, AV.jk, AV.jk, AV.jk, AV.jk, mkB true, mkB false, AV.tp [AV.rf (if 14 < 0 then 0 else 3 + (14 - 0)) 0, AV.d (.sl (strsD u8))], AV.tp [AV.rf (if 14 < 0 then 0 else 3 + (14 - 0)) 0, AV.d (.sl (strsD u8))], AV.rf (if 14 < 0 then 0 else 3 + (14 - 0)) 0, AV.d (.sl (strsD u8)), AV.d (.sl (opsD l)), AV.d (.sl (opsD (List.take (80 : Nat) (unOps (opsD l)))))] ++ (jks 118), (List.replicate 14 Ob.gone ++ [Ob.map (KK.ystrs 2) [], Ob.map (KK.ystrs 2) [], Ob.map KK.ystr [(Key.s (⟨#[(97 : UInt8), (110 : UInt8), (110 : UInt8)]⟩ : ByteArray), mkI .i64 (1 : Int)), (Key.s (⟨#[(98 : UInt8), (111 : UInt8), (98 : UInt8)]⟩ : ByteArray), mkI .i64 (1 : Int)), (Key.s (⟨#[(99 : UInt8), (121 : UInt8)]⟩ : ByteArray), mkI .i64 (1 : Int)), (Key.s (⟨#[(100 : UInt8), (101 : UInt8), (101 : UInt8)]⟩ : ByteArray), mkI .i64 (1 : Int)), (Key.s (⟨#[(101 : UInt8), (118 : UInt8), (101 : UInt8)]⟩ : ByteArray), mkI .i64 (1 : Int)), (Key.s (⟨#[(102 : UInt8), (108 : UInt8), (111 : UInt8)]⟩ : ByteArray), mkI .i64 (1 : Int)), (Key.s (⟨#[(103 : UInt8), (117 : UInt8), (115 : UInt8)]⟩ : ByteArray), mkI .i64 (1 : Int)), (Key.s (⟨#[(104 : UInt8), (97 : UInt8), (108 : UInt8)]⟩ : ByteArray), mkI .i64 (1 : Int))], Ob.box [AV.d (.sl (strsD u8)), AV.mp (if 11 < 0 then 0 else 3 + (11 - 0)), AV.mp (if 12 < 0 then 0 else 3 + (12 - 0)), AV.mp (if 13 < 0 then 0 else 3 + (13 - 0))]])⟩) := by kernel_rfl
def stFt (l : List Op) (i : Int) (sd : Sds) (nm : Nms) (vs : Vss) : S := ⟨[.d (.sl (opsD l)), .jk, mkB false, .rf 3 0, mkSS u8, mkI .i64 i] ++ jks 133, lawP u8 sd nm vs⟩
def stFl (l : List Op) : S := ⟨[.d (.sl (opsD l)), .jk, mkB false, .rf 17 0, mkSS u8, mkI .i64 0] ++ jks 133, lawO u8 [] [] (v0 u8)⟩
noncomputable def rFt_a_k0 {ι : Type} (st : ι → S) (inv : ι → Prop) (μ : ι → Nat) (k : ι) (l : List Op) (q : AV → Prop) : Kont := kSeq (aCode KRc GFt (cAt [1, 1, 1, 1, 0, 1, 0, 0, 1] Tryd.b8) (kFamM [] (maskOf (stFl l)) st inv μ k (rFt_k0 q))) (kFamM [] (maskOf (stFl l)) st inv μ k (rFt_k0 q))
theorem rFt_a {ι : Type} (st : ι → S) (inv : ι → Prop) (μ : ι → Nat) (k : ι) (l : List Op) (q : AV → Prop) :
  (aCode KRc GFt (cAt [1, 1, 1, 1, 0, 1, 0, 0] Tryd.b8) (kFamM [] (maskOf (stFl l)) st inv μ k (rFt_k0 q)) (stFl l)) = (
  ((List.length (opsD l)) ≤ LIM) →
  ACut (aCode KRc GFt (cAt [1, 1, 1, 1, 0, 1, 0, 0, 0, 1] Tryd.b8)) (rFt_a_k0 st inv μ k l q) ⟨[AV.d (.sl (opsD l)), AV.jk, mkB false, AV.rf 17 0, mkSS u8, mkI .i64 (0 : Int)] ++ (jks 15 ++ ([mkI .i64 (0 : Int), AV.d (.sl (opsD l)), mkI .i64 ((List.length (opsD l)) : Int), mkB (decide ((0 : Int) < ((List.length (opsD l)) : Int)))] ++ (jks 114))), (List.replicate 14 Ob.gone ++ [Ob.map (KK.ystrs 2) [], Ob.map (KK.ystrs 2) [], Ob.map KK.ystr [(Key.s (⟨#[(97 : UInt8), (110 : UInt8), (110 : UInt8)]⟩ : ByteArray), mkI .i64 (1 : Int)), (Key.s (⟨#[(98 : UInt8), (111 : UInt8), (98 : UInt8)]⟩ : ByteArray), mkI .i64 (1 : Int)), (Key.s (⟨#[(99 : UInt8), (121 : UInt8)]⟩ : ByteArray), mkI .i64 (1 : Int)), (Key.s (⟨#[(100 : UInt8), (101 : UInt8), (101 : UInt8)]⟩ : ByteArray), mkI .i64 (1 : Int)), (Key.s (⟨#[(101 : UInt8), (118 : UInt8), (101 : UInt8)]⟩ : ByteArray), mkI .i64 (1 : Int)), (Key.s (⟨#[(102 : UInt8), (108 : UInt8), (111 : UInt8)]⟩ : ByteArray), mkI .i64 (1 : Int)), (Key.s (⟨#[(103 : UInt8), (117 : UInt8), (115 : UInt8)]⟩ : ByteArray), mkI .i64 (1 : Int)), (Key.s (⟨#[(104 : UInt8), (97 : UInt8), (108 : UInt8)]⟩ : ByteArray), mkI .i64 (1 : Int))], Ob.box [mkSS u8, AV.mp 14, AV.mp 15, AV.mp 16]])⟩) := by kernel_rfl
noncomputable def rFt_b_k0 {ι : Type} (st : ι → S) (inv : ι → Prop) (μ : ι → Nat) (k : ι) (l : List Op) (q : AV → Prop) : Kont := kSeq (aCode KRc GFt (cAt [1, 1, 1, 1, 0, 1, 0, 0, 1] Tryd.b8) (kFamM [] (maskOf (stFl l)) st inv μ k (rFt_k0 q))) (kFamM [] (maskOf (stFl l)) st inv μ k (rFt_k0 q))
theorem rFt_b {ι : Type} (st : ι → S) (inv : ι → Prop) (μ : ι → Nat) (k : ι) (l : List Op) (i : Int) (sd : Sds) (nm : Nms) (vs : Vss) (q : AV → Prop) :
  (aCode KRc GFt (cAt [1, 1, 1, 1, 0, 1, 0, 0] Tryd.b8) (kFamM [] (maskOf (stFl l)) st inv μ k (rFt_k0 q)) (stFt l i sd nm vs)) = (
  ((List.length (opsD l)) ≤ LIM) →
  ACut (aCode KRc GFt (cAt [1, 1, 1, 1, 0, 1, 0, 0, 0, 1] Tryd.b8)) (rFt_b_k0 st inv μ k l q) ⟨[AV.d (.sl (opsD l)), AV.jk, mkB false, AV.rf 3 0, mkSS u8, mkI .i64 i] ++ (jks 15 ++ ([mkI .i64 i, AV.d (.sl (opsD l)), mkI .i64 ((List.length (opsD l)) : Int), mkB (decide (i < ((List.length (opsD l)) : Int)))] ++ (jks 114))), [Ob.map (KK.ystrs 2) (sdE sd), Ob.map (KK.ystrs 2) (nmE nm), Ob.map KK.ystr (vsE vs), Ob.box [mkSS u8, AV.mp 0, AV.mp 1, AV.mp 2]]⟩) := by kernel_rfl
def stFc (l : List Op) (i : Int) (sd : Sds) (nm : Nms) (vs : Vss) (t : Bool) : S := ⟨[.d (.sl (opsD l)), .jk, mkB false, .rf 3 0, mkSS u8, mkI .i64 i] ++ jks 18 ++ [mkB t] ++ jks 114, lawP u8 sd nm vs⟩
noncomputable def rFt_c_k0 {ι : Type} (st : ι → S) (inv : ι → Prop) (μ : ι → Nat) (k : ι) (l : List Op) (q : AV → Prop) : Kont := kBlk (2 : Nat) (kBlk (1 : Nat) (kSeq (aCode KRc GFt (cAt [1, 1, 1, 1, 0, 1, 0, 0, 1, 1] Tryd.b8) (kFamM [] (maskOf (stFl l)) st inv μ k (rFt_k0 q))) (kFamM [] (maskOf (stFl l)) st inv μ k (rFt_k0 q))))
theorem rFt_c {ι : Type} (st : ι → S) (inv : ι → Prop) (μ : ι → Nat) (k : ι) (l : List Op) (i : Int) (sd : Sds) (nm : Nms) (vs : Vss) (t : Bool) (q : AV → Prop) :
  (aCode KRc GFt (cAt [1, 1, 1, 1, 0, 1, 0, 0, 0, 1] Tryd.b8) (kSeq (aCode KRc GFt (cAt [1, 1, 1, 1, 0, 1, 0, 0, 1] Tryd.b8) (kFamM [] (maskOf (stFl l)) st inv μ k (rFt_k0 q))) (kFamM [] (maskOf (stFl l)) st inv μ k (rFt_k0 q))) (stFc l i sd nm vs t)) = (
  bcase t (
   (((0 : Int) ≤ i) ∧ (i < ((List.length (opsD l)) : Int))) ∧
   ((List.length (List.getD (opsD l) (Int.toNat i) [])) = 5) ∧
   (5 ≤ (List.length (List.getD (opsD l) (Int.toNat i) []))) ∧
   (((List.getD (List.getD (opsD l) (Int.toNat i) []) (0 : Nat) d0) = (D.v (.int .i64 (intD (List.getD (List.getD (opsD l) (Int.toNat i) []) (0 : Nat) d0))))) ∧ (((List.getD (List.drop (1 : Nat) (List.getD (opsD l) (Int.toNat i) [])) (0 : Nat) d0) = (D.v (.int .i64 (intD (List.getD (List.drop (1 : Nat) (List.getD (opsD l) (Int.toNat i) [])) (0 : Nat) d0))))) ∧ (((List.getD (List.drop (1 : Nat) (List.drop (1 : Nat) (List.getD (opsD l) (Int.toNat i) []))) (0 : Nat) d0) = (D.v (.int .i64 (intD (List.getD (List.drop (1 : Nat) (List.drop (1 : Nat) (List.getD (opsD l) (Int.toNat i) []))) (0 : Nat) d0))))) ∧ (((List.getD (List.drop (1 : Nat) (List.drop (1 : Nat) (List.drop (1 : Nat) (List.getD (opsD l) (Int.toNat i) [])))) (0 : Nat) d0) = (D.v (.int .i64 (intD (List.getD (List.drop (1 : Nat) (List.drop (1 : Nat) (List.drop (1 : Nat) (List.getD (opsD l) (Int.toNat i) [])))) (0 : Nat) d0))))) ∧ (((List.getD (List.drop (1 : Nat) (List.drop (1 : Nat) (List.drop (1 : Nat) (List.drop (1 : Nat) (List.getD (opsD l) (Int.toNat i) []))))) (0 : Nat) d0) = (D.v (.string (strD (List.getD (List.drop (1 : Nat) (List.drop (1 : Nat) (List.drop (1 : Nat) (List.drop (1 : Nat) (List.getD (opsD l) (Int.toNat i) []))))) (0 : Nat) d0))))) ∧ True))))) ∧ (
    ∃ (us : List BA),
    ∃ (sd_1 : Sds),
    ∃ (nm_1 : Nms),
    ∃ (vs_1 : Vss),
    ∃ (ul : List ByteArray),
    ∃ (k_1 : Int),
    ∃ (a : Int),
    ∃ (b : Int),
    ∃ (c : Int),
    ∃ (x : ByteArray),
    ([AV.rf 0 0, AV.d (.sl (strsD u8)), AV.ag [mkI .i64 (intD (List.getD (List.getD (opsD l) (Int.toNat i) []) (0 : Nat) d0)), mkI .i64 (intD (List.getD (List.drop (1 : Nat) (List.getD (opsD l) (Int.toNat i) [])) (0 : Nat) d0)), mkI .i64 (intD (List.getD (List.drop (1 : Nat) (List.drop (1 : Nat) (List.getD (opsD l) (Int.toNat i) []))) (0 : Nat) d0)), mkI .i64 (intD (List.getD (List.drop (1 : Nat) (List.drop (1 : Nat) (List.drop (1 : Nat) (List.getD (opsD l) (Int.toNat i) [])))) (0 : Nat) d0)), mkS (strD (List.getD (List.drop (1 : Nat) (List.drop (1 : Nat) (List.drop (1 : Nat) (List.drop (1 : Nat) (List.getD (opsD l) (Int.toNat i) []))))) (0 : Nat) d0))]] = [AV.rf 0 0, mkSS ul, AV.ag [mkI .i64 k_1, mkI .i64 a, mkI .i64 b, mkI .i64 c, mkS x]]) ∧
    ([Ob.box [AV.d (.sl (strsD u8)), AV.mp (0 + 1), AV.mp ((0 + 1) + 1), AV.mp (((0 + 1) + 1) + 1)], Ob.map (KK.ystrs 2) (sdE sd), Ob.map (KK.ystrs 2) (nmE nm), Ob.map KK.ystr (vsE vs), Ob.gh [AV.rf 0 0, AV.mp (0 + 1), AV.mp ((0 + 1) + 1), AV.mp (((0 + 1) + 1) + 1)]] = [Ob.box [mkSS us, AV.mp 1, AV.mp 2, AV.mp 3], Ob.map (KK.ystrs 2) (sdE sd_1), Ob.map (KK.ystrs 2) (nmE nm_1), Ob.map KK.ystr (vsE vs_1), Ob.gh [AV.rf 0 0, AV.mp 1, AV.mp 2, AV.mp 3]]) ∧
    (((List.length ul) ≤ (1000 : Nat)) ∧ (∀ (s : ByteArray), (s ∈ ul) → (ByteArray.size s) ≤ (1000 : Nat))) ∧ (
     ∀ (r : Out),
     ((doesO us sd_1 nm_1 vs_1 ul k_1 a b c x) = r) →
     ((Option.some (Ob.gh [AV.rf 0 0, AV.mp 1, AV.mp 2, AV.mp 3])) = (Option.some (Ob.gh [AV.rf 0 0, AV.mp (0 + 1), AV.mp ((0 + 1) + 1), AV.mp (((0 + 1) + 1) + 1)]))) ∧
     ALoop (aCode KRc GFt (cAt [1, 1, 1, 1, 0, 1, 0, 0, 1, 0, 0, 1, 1, 0, 0] Tryd.b8)) (rFt_c_k0 st inv μ k l q) ⟨[AV.d (.sl (opsD l)), AV.jk, mkB false, AV.rf 3 0, AV.d (.sl (strsD u8)), mkI .i64 i, mkI .i64 (0 : Int)] ++ (jks 17 ++ ([mkB true, AV.jk, AV.jk, AV.rf 3 0, AV.d (.sl (strsD u8)), AV.d (.sl (opsD l)), mkI .i64 i, AV.ep (List.getD (opsD l) (Int.toNat i) []), AV.ag [mkI .i64 (intD (List.getD (List.getD (opsD l) (Int.toNat i) []) (0 : Nat) d0)), mkI .i64 (intD (List.getD (List.drop (1 : Nat) (List.getD (opsD l) (Int.toNat i) [])) (0 : Nat) d0)), mkI .i64 (intD (List.getD (List.drop (1 : Nat) (List.drop (1 : Nat) (List.getD (opsD l) (Int.toNat i) []))) (0 : Nat) d0)), mkI .i64 (intD (List.getD (List.drop (1 : Nat) (List.drop (1 : Nat) (List.drop (1 : Nat) (List.getD (opsD l) (Int.toNat i) [])))) (0 : Nat) d0)), mkS (strD (List.getD (List.drop (1 : Nat) (List.drop (1 : Nat) (List.drop (1 : Nat) (List.drop (1 : Nat) (List.getD (opsD l) (Int.toNat i) []))))) (0 : Nat) d0))], AV.tp [AV.ag [AV.d (.sl (strsD (Out.p r))), AV.d (.sl (tdD (Out.t r)))], mkI .i64 (Out.e r)]] ++ (jks 105))), [Ob.map (KK.ystrs 2) (sdE (Out.sd r)), Ob.map (KK.ystrs 2) (nmE (Out.nm r)), Ob.map KK.ystr (vsE (Out.vs r)), Ob.box [AV.d (.sl (strsD us)), AV.mp (if 1 < 4 then 0 else 5 + (1 - 4)), AV.mp (if 2 < 4 then 1 else 5 + (2 - 4)), AV.mp (if 3 < 4 then 2 else 5 + (3 - 4))], Ob.gone, Ob.gone]⟩))) (
   q (mkB true))) := by kernel_rfl
def stFk (l : List Op) (i k : Int) (sd : Sds) (nm : Nms) (vs : Vss) : S := ⟨[.d (.sl (opsD l)), .jk, mkB false, .rf 3 0, mkSS u8, mkI .i64 i, mkI .i64 k] ++ jks 132, lawP u8 sd nm vs⟩
noncomputable def rFk_k0 {ι : Type} (st : ι → S) (inv : ι → Prop) (μ : ι → Nat) (kk : ι) (l : List Op) (i : Int) (k : Int) (sd : Sds) (nm : Nms) (vs : Vss) (KX : Kont) : Kont := kBlk (4 : Nat) (kBlk (3 : Nat) (kSeq (aCode KRc GFt (cAt [1, 1, 1, 1, 0, 1, 0, 0, 1, 0, 0, 1, 1, 0, 0, 1, 1] Tryd.b8) (kFamM [] (maskOf (stFk l i k sd nm vs)) st inv μ kk KX)) (kFamM [] (maskOf (stFk l i k sd nm vs)) st inv μ kk KX)))
theorem rFk {ι : Type} (st : ι → S) (inv : ι → Prop) (μ : ι → Nat) (kk : ι) (l : List Op) (i k : Int) (sd : Sds) (nm : Nms) (vs : Vss) (KX : Kont) :
  (aCode KRc GFt (cAt [1, 1, 1, 1, 0, 1, 0, 0, 1, 0, 0, 1, 1, 0, 0] Tryd.b8) (kFamM [] (maskOf (stFk l i k sd nm vs)) st inv μ kk KX) (stFk l i k sd nm vs)) = (
  (8 ≤ LIM) →
  bcase (decide (k < (8 : Int))) (
   (((0 : Int) ≤ k) ∧ (k < (8 : Int))) ∧
   ((List.length (List.getD (strsD u8) (Int.toNat k) [])) = 1) ∧
   ((1 : Nat) ≤ (List.length (List.getD (strsD u8) (Int.toNat k) []))) ∧
   ((List.getD (List.getD (strsD u8) (Int.toNat k) []) (0 : Nat) d0) = (D.v (.string (strD (List.getD (List.getD (strsD u8) (Int.toNat k) []) (0 : Nat) d0))))) ∧ (
    ∃ (us : List BA),
    ∃ (sd_1 : Sds),
    ∃ (nm_1 : Nms),
    ∃ (vs_1 : Vss),
    ∃ (u : ByteArray),
    ([AV.rf 0 0, mkS (strD (List.getD (List.getD (strsD u8) (Int.toNat k) []) (0 : Nat) d0))] = [AV.rf 0 0, mkS u]) ∧
    ([Ob.box [AV.d (.sl (strsD u8)), AV.mp (0 + 1), AV.mp ((0 + 1) + 1), AV.mp (((0 + 1) + 1) + 1)], Ob.map (KK.ystrs 2) (sdE sd), Ob.map (KK.ystrs 2) (nmE nm), Ob.map KK.ystr (vsE vs), Ob.gh [AV.rf 0 0, AV.mp (0 + 1), AV.mp ((0 + 1) + 1), AV.mp (((0 + 1) + 1) + 1)]] = [Ob.box [mkSS us, AV.mp 1, AV.mp 2, AV.mp 3], Ob.map (KK.ystrs 2) (sdE sd_1), Ob.map (KK.ystrs 2) (nmE nm_1), Ob.map KK.ystr (vsE vs_1), Ob.gh [AV.rf 0 0, AV.mp 1, AV.mp 2, AV.mp 3]]) ∧
    ((memB u us) = true) ∧ (
     ∀ (l_1 : List It),
     ∀ (n : Int),
     ((itemsM us sd_1 nm_1 u) = l_1) →
     ((verOf vs_1 u) = n) →
     ((Option.some (Ob.gh [AV.rf 0 0, AV.mp 1, AV.mp 2, AV.mp 3])) = (Option.some (Ob.gh [AV.rf 0 0, AV.mp (0 + 1), AV.mp ((0 + 1) + 1), AV.mp (((0 + 1) + 1) + 1)]))) ∧ (
      ((List.length (itsD l_1)) ≤ LIM) →
      bcase (decide (((List.length (itsD l_1)) : Int) > (6 : Int))) (
       KX AX.ret ⟨[AV.d (.sl (opsD l)), AV.jk, mkB false, AV.rf 3 0, AV.d (.sl (strsD u8)), mkI .i64 i, mkI .i64 k, AV.d (.sl (itsD l_1)), mkI .i64 n, mkI .i64 (0 : Int)] ++ (jks 24 ++ ([mkI .i64 k, AV.d (.sl (strsD u8)), mkI .i64 (8 : Int), mkB true, AV.jk, AV.jk, AV.tp [AV.d (.sl (itsD l_1)), mkI .i64 n, mkI .i64 (0 : Int)], AV.rf 3 0, AV.d (.sl (strsD u8)), mkI .i64 k, AV.ep (List.getD (strsD u8) (Int.toNat k) []), mkS (strD (List.getD (List.getD (strsD u8) (Int.toNat k) []) (0 : Nat) d0)), AV.tp [AV.d (.sl (itsD l_1)), mkI .i64 n, mkI .i64 (0 : Int)], AV.d (.sl (itsD l_1)), mkI .i64 n, mkI .i64 (0 : Int), AV.d (.sl (itsD l_1)), mkI .i64 ((List.length (itsD l_1)) : Int), mkB true] ++ (jks 86))), [Ob.map (KK.ystrs 2) (sdE sd_1), Ob.map (KK.ystrs 2) (nmE nm_1), Ob.map KK.ystr (vsE vs_1), Ob.box [AV.d (.sl (strsD us)), AV.mp (if 1 < 4 then 0 else 5 + (1 - 4)), AV.mp (if 2 < 4 then 1 else 5 + (2 - 4)), AV.mp (if 3 < 4 then 2 else 5 + (3 - 4))], Ob.gone, Ob.gone]⟩) (
       ALoop (aCode KRc GFt (cAt [1, 1, 1, 1, 0, 1, 0, 0, 1, 0, 0, 1, 1, 0, 0, 1, 0, 0, 1, 1, 1, 0, 0] Tryd.b8)) (rFk_k0 st inv μ kk l i k sd nm vs KX) ⟨[AV.d (.sl (opsD l)), AV.jk, mkB false, AV.rf 3 0, AV.d (.sl (strsD u8)), mkI .i64 i, mkI .i64 k, AV.d (.sl (itsD l_1)), mkI .i64 n, mkI .i64 (0 : Int), mkI .i64 (0 : Int)] ++ (jks 23 ++ ([mkI .i64 k, AV.d (.sl (strsD u8)), mkI .i64 (8 : Int), mkB true, AV.jk, AV.jk, AV.tp [AV.d (.sl (itsD l_1)), mkI .i64 n, mkI .i64 (0 : Int)], AV.rf 3 0, AV.d (.sl (strsD u8)), mkI .i64 k, AV.ep (List.getD (strsD u8) (Int.toNat k) []), mkS (strD (List.getD (List.getD (strsD u8) (Int.toNat k) []) (0 : Nat) d0)), AV.tp [AV.d (.sl (itsD l_1)), mkI .i64 n, mkI .i64 (0 : Int)], AV.d (.sl (itsD l_1)), mkI .i64 n, mkI .i64 (0 : Int), AV.d (.sl (itsD l_1)), mkI .i64 ((List.length (itsD l_1)) : Int), mkB false] ++ (jks 86))), [Ob.map (KK.ystrs 2) (sdE sd_1), Ob.map (KK.ystrs 2) (nmE nm_1), Ob.map KK.ystr (vsE vs_1), Ob.box [AV.d (.sl (strsD us)), AV.mp (if 1 < 4 then 0 else 5 + (1 - 4)), AV.mp (if 2 < 4 then 1 else 5 + (2 - 4)), AV.mp (if 3 < 4 then 2 else 5 + (3 - 4))], Ob.gone, Ob.gone]⟩))))) (
   KX (AX.exit (2 : Nat)) ⟨[AV.d (.sl (opsD l)), AV.jk, mkB false, AV.rf 3 0, mkSS u8, mkI .i64 i, mkI .i64 k] ++ (jks 27 ++ ([mkI .i64 k, AV.d (.sl (strsD u8)), mkI .i64 (8 : Int), mkB false] ++ (jks 101))), [Ob.map (KK.ystrs 2) (sdE sd), Ob.map (KK.ystrs 2) (nmE nm), Ob.map KK.ystr (vsE vs), Ob.box [mkSS u8, AV.mp 0, AV.mp 1, AV.mp 2]]⟩)) := by kernel_rfl
def stFj (l : List Op) (i k j : Int) (sd : Sds) (nm : Nms) (vs : Vss) : S := ⟨[.d (.sl (opsD l)), .jk, mkB false, .rf 3 0, mkSS u8, mkI .i64 i, mkI .i64 k, .jk, .jk, .jk, mkI .i64 j] ++ jks 128, lawP u8 sd nm vs⟩
noncomputable def rFj_k0 {ι : Type} (st : ι → S) (inv : ι → Prop) (μ : ι → Nat) (kk : ι) (l : List Op) (i : Int) (k : Int) (j : Int) (sd : Sds) (nm : Nms) (vs : Vss) (KY : Kont) : Kont := kBlk (5 : Nat) (kSeq (aCode KRc GFt (cAt [1, 1, 1, 1, 0, 1, 0, 0, 1, 0, 0, 1, 1, 0, 0, 1, 0, 0, 1, 1, 1, 0, 0, 1, 1] Tryd.b8) (kFamM [] (maskOf (stFj l i k j sd nm vs)) st inv μ kk KY)) (kFamM [] (maskOf (stFj l i k j sd nm vs)) st inv μ kk KY))
noncomputable abbrev rFj_l0 (k : Int) (j : Int) (s : Sd) (s_1 : Sd) : List AV := [mkI .i64 j, AV.d (.sl (strsD u8)), mkI .i64 (8 : Int), mkB true, AV.jk, AV.jk, AV.rf 3 0, AV.d (.sl (strsD u8)), mkI .i64 k, AV.ep (List.getD (strsD u8) (Int.toNat k) []), mkS (strD (List.getD (List.getD (strsD u8) (Int.toNat k) []) (0 : Nat) d0)), AV.d (.sl (strsD u8)), mkI .i64 j, AV.ep (List.getD (strsD u8) (Int.toNat j) []), mkS (strD (List.getD (List.getD (strsD u8) (Int.toNat j) []) (0 : Nat) d0)), AV.ag [mkI .i64 (Sd.sub s), mkB (Sd.a s), mkB (Sd.w s)], AV.rf 3 0, AV.d (.sl (strsD u8)), mkI .i64 j, AV.ep (List.getD (strsD u8) (Int.toNat j) []), mkS (strD (List.getD (List.getD (strsD u8) (Int.toNat j) []) (0 : Nat) d0)), AV.d (.sl (strsD u8)), mkI .i64 k, AV.ep (List.getD (strsD u8) (Int.toNat k) []), mkS (strD (List.getD (List.getD (strsD u8) (Int.toNat k) []) (0 : Nat) d0)), AV.ag [mkI .i64 (Sd.sub s_1), mkB (Sd.a s_1), mkB (Sd.w s_1)]]
noncomputable abbrev rFj_l1 (us : List BA) (sd_1 : Sds) (nm_1 : Nms) (vs_1 : Vss) : List Ob := [Ob.box [AV.d (.sl (strsD us)), AV.mp (0 + 1), AV.mp ((0 + 1) + 1), AV.mp (((0 + 1) + 1) + 1)], Ob.map (KK.ystrs 2) (sdE sd_1), Ob.map (KK.ystrs 2) (nmE nm_1), Ob.map KK.ystr (vsE vs_1), Ob.gh [AV.rf 0 0, AV.mp (0 + 1), AV.mp ((0 + 1) + 1), AV.mp (((0 + 1) + 1) + 1)]]
noncomputable abbrev rFj_l2 (sd : Sds) (nm : Nms) (vs : Vss) : List Ob := [Ob.box [AV.d (.sl (strsD u8)), AV.mp (0 + 1), AV.mp ((0 + 1) + 1), AV.mp (((0 + 1) + 1) + 1)], Ob.map (KK.ystrs 2) (sdE sd), Ob.map (KK.ystrs 2) (nmE nm), Ob.map KK.ystr (vsE vs), Ob.gh [AV.rf 0 0, AV.mp (0 + 1), AV.mp ((0 + 1) + 1), AV.mp (((0 + 1) + 1) + 1)]]
theorem rFj {ι : Type} (st : ι → S) (inv : ι → Prop) (μ : ι → Nat) (kk : ι) (l : List Op) (i k j : Int) (sd : Sds) (nm : Nms) (vs : Vss) (KY : Kont) :
  (aCode KRc GFt (cAt [1, 1, 1, 1, 0, 1, 0, 0, 1, 0, 0, 1, 1, 0, 0, 1, 0, 0, 1, 1, 1, 0, 0] Tryd.b8) (kFamM [] (maskOf (stFj l i k j sd nm vs)) st inv μ kk KY) (stFj l i k j sd nm vs)) = (
  (8 ≤ LIM) →
  bcase (decide (j < (8 : Int))) (
   (((0 : Int) ≤ k) ∧ (k < (8 : Int))) ∧
   ((List.length (List.getD (strsD u8) (Int.toNat k) [])) = 1) ∧
   ((1 : Nat) ≤ (List.length (List.getD (strsD u8) (Int.toNat k) []))) ∧
   ((List.getD (List.getD (strsD u8) (Int.toNat k) []) (0 : Nat) d0) = (D.v (.string (strD (List.getD (List.getD (strsD u8) (Int.toNat k) []) (0 : Nat) d0))))) ∧
   (((0 : Int) ≤ j) ∧ (j < (8 : Int))) ∧
   ((List.length (List.getD (strsD u8) (Int.toNat j) [])) = 1) ∧
   ((1 : Nat) ≤ (List.length (List.getD (strsD u8) (Int.toNat j) []))) ∧
   ((List.getD (List.getD (strsD u8) (Int.toNat j) []) (0 : Nat) d0) = (D.v (.string (strD (List.getD (List.getD (strsD u8) (Int.toNat j) []) (0 : Nat) d0))))) ∧
   (((0 : Int) ≤ j) ∧ (j < (8 : Int))) ∧
   ((List.length (List.getD (strsD u8) (Int.toNat j) [])) = 1) ∧
   ((1 : Nat) ≤ (List.length (List.getD (strsD u8) (Int.toNat j) []))) ∧
   ((List.getD (List.getD (strsD u8) (Int.toNat j) []) (0 : Nat) d0) = (D.v (.string (strD (List.getD (List.getD (strsD u8) (Int.toNat j) []) (0 : Nat) d0))))) ∧
   (((0 : Int) ≤ k) ∧ (k < (8 : Int))) ∧
   ((List.length (List.getD (strsD u8) (Int.toNat k) [])) = 1) ∧
   ((1 : Nat) ≤ (List.length (List.getD (strsD u8) (Int.toNat k) []))) ∧
   ((List.getD (List.getD (strsD u8) (Int.toNat k) []) (0 : Nat) d0) = (D.v (.string (strD (List.getD (List.getD (strsD u8) (Int.toNat k) []) (0 : Nat) d0))))) ∧
   (∃ (us : List BA), ∃ (sd_1 : Sds), ∃ (nm_1 : Nms), ∃ (vs_1 : Vss), ∃ (u : ByteArray), ∃ (c : ByteArray), ([AV.rf 0 0, mkS (strD (List.getD (List.getD (strsD u8) (Int.toNat k) []) (0 : Nat) d0)), mkS (strD (List.getD (List.getD (strsD u8) (Int.toNat j) []) (0 : Nat) d0))] = [AV.rf 0 0, mkS u, mkS c]) ∧ (((rFj_l2 sd nm vs) = [Ob.box [mkSS us, AV.mp 1, AV.mp 2, AV.mp 3], Ob.map (KK.ystrs 2) (sdE sd_1), Ob.map (KK.ystrs 2) (nmE nm_1), Ob.map KK.ystr (vsE vs_1), Ob.gh [AV.rf 0 0, AV.mp 1, AV.mp 2, AV.mp 3]]) ∧ (∀ (s : Sd), ((sideOf sd_1 u c) = s) → ((Option.some (Ob.gh [AV.rf 0 0, AV.mp 1, AV.mp 2, AV.mp 3])) = (Option.some (Ob.gh [AV.rf 0 0, AV.mp (0 + 1), AV.mp ((0 + 1) + 1), AV.mp (((0 + 1) + 1) + 1)]))) ∧ ((∃ (us_1 : List BA), ∃ (sd_2 : Sds), ∃ (nm_2 : Nms), ∃ (vs_2 : Vss), ∃ (u_1 : ByteArray), ∃ (c_1 : ByteArray), ([AV.rf 0 0, mkS (strD (List.getD (List.getD (strsD u8) (Int.toNat j) []) (0 : Nat) d0)), mkS (strD (List.getD (List.getD (strsD u8) (Int.toNat k) []) (0 : Nat) d0))] = [AV.rf 0 0, mkS u_1, mkS c_1]) ∧ (((rFj_l1 us sd_1 nm_1 vs_1) = [Ob.box [mkSS us_1, AV.mp 1, AV.mp 2, AV.mp 3], Ob.map (KK.ystrs 2) (sdE sd_2), Ob.map (KK.ystrs 2) (nmE nm_2), Ob.map KK.ystr (vsE vs_2), Ob.gh [AV.rf 0 0, AV.mp 1, AV.mp 2, AV.mp 3]]) ∧ (∀ (s_1 : Sd), ((sideOf sd_2 u_1 c_1) = s_1) → ((Option.some (Ob.gh [AV.rf 0 0, AV.mp 1, AV.mp 2, AV.mp 3])) = (Option.some (Ob.gh [AV.rf 0 0, AV.mp (0 + 1), AV.mp ((0 + 1) + 1), AV.mp (((0 + 1) + 1) + 1)]))) ∧ ((ACut (aCode KRc GFt (cAt [1, 1, 1, 1, 0, 1, 0, 0, 1, 0, 0, 1, 1, 0, 0, 1, 0, 0, 1, 1, 1, 0, 0, 1, 0, 0, 1] Tryd.b8)) (rFj_k0 st inv μ kk l i k j sd nm vs KY) ⟨[AV.d (.sl (opsD l)), AV.jk, mkB false, AV.rf 3 0, AV.d (.sl (strsD u8)), mkI .i64 i, mkI .i64 k, AV.jk, AV.jk, AV.jk, mkI .i64 j, AV.rf 8 0, AV.rf 9 0] ++ (jks 40 ++ ((rFj_l0 k j s s_1) ++ (jks 60))), [Ob.map (KK.ystrs 2) (sdE sd_2), Ob.map (KK.ystrs 2) (nmE nm_2), Ob.map KK.ystr (vsE vs_2), Ob.box [AV.d (.sl (strsD us_1)), AV.mp (if 1 < 4 then 0 else 7 + (1 - 4)), AV.mp (if 2 < 4 then 1 else 7 + (2 - 4)), AV.mp (if 3 < 4 then 2 else 7 + (3 - 4))], Ob.gone, Ob.gone, Ob.gone, Ob.gone, Ob.box [mkI .i64 (Sd.sub s), mkB (Sd.a s), mkB (Sd.w s)], Ob.box [mkI .i64 (Sd.sub s_1), mkB (Sd.a s_1), mkB (Sd.w s_1)]]⟩) ∧ (ACut (aCode KRc GFt (cAt [1, 1, 1, 1, 0, 1, 0, 0, 1, 0, 0, 1, 1, 0, 0, 1, 0, 0, 1, 1, 1, 0, 0, 1, 0, 0, 1] Tryd.b8)) (rFj_k0 st inv μ kk l i k j sd nm vs KY) ⟨[AV.d (.sl (opsD l)), AV.jk, mkB false, AV.rf 3 0, AV.d (.sl (strsD u8)), mkI .i64 i, mkI .i64 k, AV.jk, AV.jk, AV.jk, mkI .i64 j, AV.rf 9 0, AV.rf 8 0] ++ (jks 40 ++ ((rFj_l0 k j s s_1) ++ (jks 60))), [Ob.map (KK.ystrs 2) (sdE sd_2), Ob.map (KK.ystrs 2) (nmE nm_2), Ob.map KK.ystr (vsE vs_2), Ob.box [AV.d (.sl (strsD us_1)), AV.mp (if 1 < 4 then 0 else 7 + (1 - 4)), AV.mp (if 2 < 4 then 1 else 7 + (2 - 4)), AV.mp (if 3 < 4 then 2 else 7 + (3 - 4))], Ob.gone, Ob.gone, Ob.gone, Ob.gone, Ob.box [mkI .i64 (Sd.sub s_1), mkB (Sd.a s_1), mkB (Sd.w s_1)], Ob.box [mkI .i64 (Sd.sub s), mkB (Sd.a s), mkB (Sd.w s)]]⟩))))) ∧ (((∃ (us_1 : List BA), ∃ (sd_2 : Sds), ∃ (nm_2 : Nms), ∃ (vs_2 : Vss), ∃ (u_1 : ByteArray), ∃ (c_1 : ByteArray), ([AV.rf 0 0, mkS (strD (List.getD (List.getD (strsD u8) (Int.toNat j) []) (0 : Nat) d0)), mkS (strD (List.getD (List.getD (strsD u8) (Int.toNat k) []) (0 : Nat) d0))] = [AV.rf 0 0, mkS u_1, mkS c_1]) ∧ (((rFj_l1 us sd_1 nm_1 vs_1) = [Ob.box [mkSS us_1, AV.mp 1, AV.mp 2, AV.mp 3], Ob.map (KK.ystrs 2) (sdE sd_2), Ob.map (KK.ystrs 2) (nmE nm_2), Ob.map KK.ystr (vsE vs_2), Ob.gh [AV.rf 0 0, AV.mp 1, AV.mp 2, AV.mp 3]]) ∧ (∀ (s_1 : Sd), ((sideOf sd_2 u_1 c_1) = s_1) → ((Option.some (Ob.gh [AV.rf 0 0, AV.mp 1, AV.mp 2, AV.mp 3])) = (Option.some (Ob.gh [AV.rf 0 0, AV.mp (0 + 1), AV.mp ((0 + 1) + 1), AV.mp (((0 + 1) + 1) + 1)]))) ∧ (ACut (aCode KRc GFt (cAt [1, 1, 1, 1, 0, 1, 0, 0, 1, 0, 0, 1, 1, 0, 0, 1, 0, 0, 1, 1, 1, 0, 0, 1, 0, 0, 1] Tryd.b8)) (rFj_k0 st inv μ kk l i k j sd nm vs KY) ⟨[AV.d (.sl (opsD l)), AV.jk, mkB false, AV.rf 3 0, AV.d (.sl (strsD u8)), mkI .i64 i, mkI .i64 k, AV.jk, AV.jk, AV.jk, mkI .i64 j, AV.rf 6 0, AV.rf 9 0] ++ (jks 40 ++ ((rFj_l0 k j s s_1) ++ (jks 60))), [Ob.map (KK.ystrs 2) (sdE sd_2), Ob.map (KK.ystrs 2) (nmE nm_2), Ob.map KK.ystr (vsE vs_2), Ob.box [AV.d (.sl (strsD us_1)), AV.mp (if 1 < 4 then 0 else 8 + (1 - 4)), AV.mp (if 2 < 4 then 1 else 8 + (2 - 4)), AV.mp (if 3 < 4 then 2 else 8 + (3 - 4))], Ob.gone, Ob.gone, Ob.box [mkI .i64 (Sd.sub s), mkB (Sd.a s), mkB (Sd.w s)], Ob.gone, Ob.gone, Ob.box [mkI .i64 (Sd.sub s_1), mkB (Sd.a s_1), mkB (Sd.w s_1)]]⟩)))) ∧ (∃ (us_1 : List BA), ∃ (sd_2 : Sds), ∃ (nm_2 : Nms), ∃ (vs_2 : Vss), ∃ (u_1 : ByteArray), ∃ (c_1 : ByteArray), ([AV.rf 0 0, mkS (strD (List.getD (List.getD (strsD u8) (Int.toNat j) []) (0 : Nat) d0)), mkS (strD (List.getD (List.getD (strsD u8) (Int.toNat k) []) (0 : Nat) d0))] = [AV.rf 0 0, mkS u_1, mkS c_1]) ∧ (((rFj_l1 us sd_1 nm_1 vs_1) = [Ob.box [mkSS us_1, AV.mp 1, AV.mp 2, AV.mp 3], Ob.map (KK.ystrs 2) (sdE sd_2), Ob.map (KK.ystrs 2) (nmE nm_2), Ob.map KK.ystr (vsE vs_2), Ob.gh [AV.rf 0 0, AV.mp 1, AV.mp 2, AV.mp 3]]) ∧ (∀ (s_1 : Sd), ((sideOf sd_2 u_1 c_1) = s_1) → ((Option.some (Ob.gh [AV.rf 0 0, AV.mp 1, AV.mp 2, AV.mp 3])) = (Option.some (Ob.gh [AV.rf 0 0, AV.mp (0 + 1), AV.mp ((0 + 1) + 1), AV.mp (((0 + 1) + 1) + 1)]))) ∧ (ACut (aCode KRc GFt (cAt [1, 1, 1, 1, 0, 1, 0, 0, 1, 0, 0, 1, 1, 0, 0, 1, 0, 0, 1, 1, 1, 0, 0, 1, 0, 0, 1] Tryd.b8)) (rFj_k0 st inv μ kk l i k j sd nm vs KY) ⟨[AV.d (.sl (opsD l)), AV.jk, mkB false, AV.rf 3 0, AV.d (.sl (strsD u8)), mkI .i64 i, mkI .i64 k, AV.jk, AV.jk, AV.jk, mkI .i64 j, AV.rf 6 0, AV.rf 7 0] ++ (jks 40 ++ ((rFj_l0 k j s s_1) ++ (jks 60))), [Ob.map (KK.ystrs 2) (sdE sd_2), Ob.map (KK.ystrs 2) (nmE nm_2), Ob.map KK.ystr (vsE vs_2), Ob.box [AV.d (.sl (strsD us_1)), AV.mp (if 1 < 4 then 0 else 9 + (1 - 4)), AV.mp (if 2 < 4 then 1 else 9 + (2 - 4)), AV.mp (if 3 < 4 then 2 else 9 + (3 - 4))], Ob.gone, Ob.gone, Ob.box [mkI .i64 (Sd.sub s), mkB (Sd.a s), mkB (Sd.w s)], Ob.box [mkI .i64 (Sd.sub s_1), mkB (Sd.a s_1), mkB (Sd.w s_1)], Ob.gone, Ob.gone]⟩))))) ∧ ((∃ (us_1 : List BA), ∃ (sd_2 : Sds), ∃ (nm_2 : Nms), ∃ (vs_2 : Vss), ∃ (u_1 : ByteArray), ∃ (c_1 : ByteArray), ([AV.rf 0 0, mkS (strD (List.getD (List.getD (strsD u8) (Int.toNat j) []) (0 : Nat) d0)), mkS (strD (List.getD (List.getD (strsD u8) (Int.toNat k) []) (0 : Nat) d0))] = [AV.rf 0 0, mkS u_1, mkS c_1]) ∧ (((rFj_l1 us sd_1 nm_1 vs_1) = [Ob.box [mkSS us_1, AV.mp 1, AV.mp 2, AV.mp 3], Ob.map (KK.ystrs 2) (sdE sd_2), Ob.map (KK.ystrs 2) (nmE nm_2), Ob.map KK.ystr (vsE vs_2), Ob.gh [AV.rf 0 0, AV.mp 1, AV.mp 2, AV.mp 3]]) ∧ (∀ (s_1 : Sd), ((sideOf sd_2 u_1 c_1) = s_1) → ((Option.some (Ob.gh [AV.rf 0 0, AV.mp 1, AV.mp 2, AV.mp 3])) = (Option.some (Ob.gh [AV.rf 0 0, AV.mp (0 + 1), AV.mp ((0 + 1) + 1), AV.mp (((0 + 1) + 1) + 1)]))) ∧ (ACut (aCode KRc GFt (cAt [1, 1, 1, 1, 0, 1, 0, 0, 1, 0, 0, 1, 1, 0, 0, 1, 0, 0, 1, 1, 1, 0, 0, 1, 0, 0, 1] Tryd.b8)) (rFj_k0 st inv μ kk l i k j sd nm vs KY) ⟨[AV.d (.sl (opsD l)), AV.jk, mkB false, AV.rf 3 0, AV.d (.sl (strsD u8)), mkI .i64 i, mkI .i64 k, AV.jk, AV.jk, AV.jk, mkI .i64 j, AV.rf 9 0, AV.rf 6 0] ++ (jks 40 ++ ((rFj_l0 k j s s_1) ++ (jks 60))), [Ob.map (KK.ystrs 2) (sdE sd_2), Ob.map (KK.ystrs 2) (nmE nm_2), Ob.map KK.ystr (vsE vs_2), Ob.box [AV.d (.sl (strsD us_1)), AV.mp (if 1 < 4 then 0 else 8 + (1 - 4)), AV.mp (if 2 < 4 then 1 else 8 + (2 - 4)), AV.mp (if 3 < 4 then 2 else 8 + (3 - 4))], Ob.gone, Ob.gone, Ob.box [mkI .i64 (Sd.sub s_1), mkB (Sd.a s_1), mkB (Sd.w s_1)], Ob.gone, Ob.gone, Ob.box [mkI .i64 (Sd.sub s), mkB (Sd.a s), mkB (Sd.w s)]]⟩)))) ∧ (∃ (us_1 : List BA), ∃ (sd_2 : Sds), ∃ (nm_2 : Nms), ∃ (vs_2 : Vss), ∃ (u_1 : ByteArray), ∃ (c_1 : ByteArray), ([AV.rf 0 0, mkS (strD (List.getD (List.getD (strsD u8) (Int.toNat j) []) (0 : Nat) d0)), mkS (strD (List.getD (List.getD (strsD u8) (Int.toNat k) []) (0 : Nat) d0))] = [AV.rf 0 0, mkS u_1, mkS c_1]) ∧ (((rFj_l1 us sd_1 nm_1 vs_1) = [Ob.box [mkSS us_1, AV.mp 1, AV.mp 2, AV.mp 3], Ob.map (KK.ystrs 2) (sdE sd_2), Ob.map (KK.ystrs 2) (nmE nm_2), Ob.map KK.ystr (vsE vs_2), Ob.gh [AV.rf 0 0, AV.mp 1, AV.mp 2, AV.mp 3]]) ∧ (∀ (s_1 : Sd), ((sideOf sd_2 u_1 c_1) = s_1) → ((Option.some (Ob.gh [AV.rf 0 0, AV.mp 1, AV.mp 2, AV.mp 3])) = (Option.some (Ob.gh [AV.rf 0 0, AV.mp (0 + 1), AV.mp ((0 + 1) + 1), AV.mp (((0 + 1) + 1) + 1)]))) ∧ (ACut (aCode KRc GFt (cAt [1, 1, 1, 1, 0, 1, 0, 0, 1, 0, 0, 1, 1, 0, 0, 1, 0, 0, 1, 1, 1, 0, 0, 1, 0, 0, 1] Tryd.b8)) (rFj_k0 st inv μ kk l i k j sd nm vs KY) ⟨[AV.d (.sl (opsD l)), AV.jk, mkB false, AV.rf 3 0, AV.d (.sl (strsD u8)), mkI .i64 i, mkI .i64 k, AV.jk, AV.jk, AV.jk, mkI .i64 j, AV.rf 7 0, AV.rf 6 0] ++ (jks 40 ++ ((rFj_l0 k j s s_1) ++ (jks 60))), [Ob.map (KK.ystrs 2) (sdE sd_2), Ob.map (KK.ystrs 2) (nmE nm_2), Ob.map KK.ystr (vsE vs_2), Ob.box [AV.d (.sl (strsD us_1)), AV.mp (if 1 < 4 then 0 else 9 + (1 - 4)), AV.mp (if 2 < 4 then 1 else 9 + (2 - 4)), AV.mp (if 3 < 4 then 2 else 9 + (3 - 4))], Ob.gone, Ob.gone, Ob.box [mkI .i64 (Sd.sub s_1), mkB (Sd.a s_1), mkB (Sd.w s_1)], Ob.box [mkI .i64 (Sd.sub s), mkB (Sd.a s), mkB (Sd.w s)], Ob.gone, Ob.gone]⟩)))))))))) ∧
   ((∃ (us : List BA), ∃ (sd_1 : Sds), ∃ (nm_1 : Nms), ∃ (vs_1 : Vss), ∃ (u : ByteArray), ∃ (c : ByteArray), ([AV.rf 0 0, mkS (strD (List.getD (List.getD (strsD u8) (Int.toNat k) []) (0 : Nat) d0)), mkS (strD (List.getD (List.getD (strsD u8) (Int.toNat j) []) (0 : Nat) d0))] = [AV.rf 0 0, mkS u, mkS c]) ∧ (((rFj_l2 sd nm vs) = [Ob.box [mkSS us, AV.mp 1, AV.mp 2, AV.mp 3], Ob.map (KK.ystrs 2) (sdE sd_1), Ob.map (KK.ystrs 2) (nmE nm_1), Ob.map KK.ystr (vsE vs_1), Ob.gh [AV.rf 0 0, AV.mp 1, AV.mp 2, AV.mp 3]]) ∧ (∀ (s : Sd), ((sideOf sd_1 u c) = s) → ((Option.some (Ob.gh [AV.rf 0 0, AV.mp 1, AV.mp 2, AV.mp 3])) = (Option.some (Ob.gh [AV.rf 0 0, AV.mp (0 + 1), AV.mp ((0 + 1) + 1), AV.mp (((0 + 1) + 1) + 1)]))) ∧ ((∃ (us_1 : List BA), ∃ (sd_2 : Sds), ∃ (nm_2 : Nms), ∃ (vs_2 : Vss), ∃ (u_1 : ByteArray), ∃ (c_1 : ByteArray), ([AV.rf 0 0, mkS (strD (List.getD (List.getD (strsD u8) (Int.toNat j) []) (0 : Nat) d0)), mkS (strD (List.getD (List.getD (strsD u8) (Int.toNat k) []) (0 : Nat) d0))] = [AV.rf 0 0, mkS u_1, mkS c_1]) ∧ (((rFj_l1 us sd_1 nm_1 vs_1) = [Ob.box [mkSS us_1, AV.mp 1, AV.mp 2, AV.mp 3], Ob.map (KK.ystrs 2) (sdE sd_2), Ob.map (KK.ystrs 2) (nmE nm_2), Ob.map KK.ystr (vsE vs_2), Ob.gh [AV.rf 0 0, AV.mp 1, AV.mp 2, AV.mp 3]]) ∧ (∀ (s_1 : Sd), ((sideOf sd_2 u_1 c_1) = s_1) → ((Option.some (Ob.gh [AV.rf 0 0, AV.mp 1, AV.mp 2, AV.mp 3])) = (Option.some (Ob.gh [AV.rf 0 0, AV.mp (0 + 1), AV.mp ((0 + 1) + 1), AV.mp (((0 + 1) + 1) + 1)]))) ∧ (ACut (aCode KRc GFt (cAt [1, 1, 1, 1, 0, 1, 0, 0, 1, 0, 0, 1, 1, 0, 0, 1, 0, 0, 1, 1, 1, 0, 0, 1, 0, 0, 1] Tryd.b8)) (rFj_k0 st inv μ kk l i k j sd nm vs KY) ⟨[AV.d (.sl (opsD l)), AV.jk, mkB false, AV.rf 3 0, AV.d (.sl (strsD u8)), mkI .i64 i, mkI .i64 k, AV.jk, AV.jk, AV.jk, mkI .i64 j, AV.rf 4 0, AV.rf 9 0] ++ (jks 40 ++ ((rFj_l0 k j s s_1) ++ (jks 60))), [Ob.map (KK.ystrs 2) (sdE sd_2), Ob.map (KK.ystrs 2) (nmE nm_2), Ob.map KK.ystr (vsE vs_2), Ob.box [AV.d (.sl (strsD us_1)), AV.mp (if 1 < 4 then 0 else 8 + (1 - 4)), AV.mp (if 2 < 4 then 1 else 8 + (2 - 4)), AV.mp (if 3 < 4 then 2 else 8 + (3 - 4))], Ob.box [mkI .i64 (Sd.sub s), mkB (Sd.a s), mkB (Sd.w s)], Ob.gone, Ob.gone, Ob.gone, Ob.gone, Ob.box [mkI .i64 (Sd.sub s_1), mkB (Sd.a s_1), mkB (Sd.w s_1)]]⟩)))) ∧ (∃ (us_1 : List BA), ∃ (sd_2 : Sds), ∃ (nm_2 : Nms), ∃ (vs_2 : Vss), ∃ (u_1 : ByteArray), ∃ (c_1 : ByteArray), ([AV.rf 0 0, mkS (strD (List.getD (List.getD (strsD u8) (Int.toNat j) []) (0 : Nat) d0)), mkS (strD (List.getD (List.getD (strsD u8) (Int.toNat k) []) (0 : Nat) d0))] = [AV.rf 0 0, mkS u_1, mkS c_1]) ∧ (((rFj_l1 us sd_1 nm_1 vs_1) = [Ob.box [mkSS us_1, AV.mp 1, AV.mp 2, AV.mp 3], Ob.map (KK.ystrs 2) (sdE sd_2), Ob.map (KK.ystrs 2) (nmE nm_2), Ob.map KK.ystr (vsE vs_2), Ob.gh [AV.rf 0 0, AV.mp 1, AV.mp 2, AV.mp 3]]) ∧ (∀ (s_1 : Sd), ((sideOf sd_2 u_1 c_1) = s_1) → ((Option.some (Ob.gh [AV.rf 0 0, AV.mp 1, AV.mp 2, AV.mp 3])) = (Option.some (Ob.gh [AV.rf 0 0, AV.mp (0 + 1), AV.mp ((0 + 1) + 1), AV.mp (((0 + 1) + 1) + 1)]))) ∧ (ACut (aCode KRc GFt (cAt [1, 1, 1, 1, 0, 1, 0, 0, 1, 0, 0, 1, 1, 0, 0, 1, 0, 0, 1, 1, 1, 0, 0, 1, 0, 0, 1] Tryd.b8)) (rFj_k0 st inv μ kk l i k j sd nm vs KY) ⟨[AV.d (.sl (opsD l)), AV.jk, mkB false, AV.rf 3 0, AV.d (.sl (strsD u8)), mkI .i64 i, mkI .i64 k, AV.jk, AV.jk, AV.jk, mkI .i64 j, AV.rf 4 0, AV.rf 7 0] ++ (jks 40 ++ ((rFj_l0 k j s s_1) ++ (jks 60))), [Ob.map (KK.ystrs 2) (sdE sd_2), Ob.map (KK.ystrs 2) (nmE nm_2), Ob.map KK.ystr (vsE vs_2), Ob.box [AV.d (.sl (strsD us_1)), AV.mp (if 1 < 4 then 0 else 9 + (1 - 4)), AV.mp (if 2 < 4 then 1 else 9 + (2 - 4)), AV.mp (if 3 < 4 then 2 else 9 + (3 - 4))], Ob.box [mkI .i64 (Sd.sub s), mkB (Sd.a s), mkB (Sd.w s)], Ob.gone, Ob.gone, Ob.box [mkI .i64 (Sd.sub s_1), mkB (Sd.a s_1), mkB (Sd.w s_1)], Ob.gone, Ob.gone]⟩)))))))) ∧ (∃ (us : List BA), ∃ (sd_1 : Sds), ∃ (nm_1 : Nms), ∃ (vs_1 : Vss), ∃ (u : ByteArray), ∃ (c : ByteArray), ([AV.rf 0 0, mkS (strD (List.getD (List.getD (strsD u8) (Int.toNat k) []) (0 : Nat) d0)), mkS (strD (List.getD (List.getD (strsD u8) (Int.toNat j) []) (0 : Nat) d0))] = [AV.rf 0 0, mkS u, mkS c]) ∧ (((rFj_l2 sd nm vs) = [Ob.box [mkSS us, AV.mp 1, AV.mp 2, AV.mp 3], Ob.map (KK.ystrs 2) (sdE sd_1), Ob.map (KK.ystrs 2) (nmE nm_1), Ob.map KK.ystr (vsE vs_1), Ob.gh [AV.rf 0 0, AV.mp 1, AV.mp 2, AV.mp 3]]) ∧ (∀ (s : Sd), ((sideOf sd_1 u c) = s) → ((Option.some (Ob.gh [AV.rf 0 0, AV.mp 1, AV.mp 2, AV.mp 3])) = (Option.some (Ob.gh [AV.rf 0 0, AV.mp (0 + 1), AV.mp ((0 + 1) + 1), AV.mp (((0 + 1) + 1) + 1)]))) ∧ (∃ (us_1 : List BA), ∃ (sd_2 : Sds), ∃ (nm_2 : Nms), ∃ (vs_2 : Vss), ∃ (u_1 : ByteArray), ∃ (c_1 : ByteArray), ([AV.rf 0 0, mkS (strD (List.getD (List.getD (strsD u8) (Int.toNat j) []) (0 : Nat) d0)), mkS (strD (List.getD (List.getD (strsD u8) (Int.toNat k) []) (0 : Nat) d0))] = [AV.rf 0 0, mkS u_1, mkS c_1]) ∧ (((rFj_l1 us sd_1 nm_1 vs_1) = [Ob.box [mkSS us_1, AV.mp 1, AV.mp 2, AV.mp 3], Ob.map (KK.ystrs 2) (sdE sd_2), Ob.map (KK.ystrs 2) (nmE nm_2), Ob.map KK.ystr (vsE vs_2), Ob.gh [AV.rf 0 0, AV.mp 1, AV.mp 2, AV.mp 3]]) ∧ (∀ (s_1 : Sd), ((sideOf sd_2 u_1 c_1) = s_1) → ((Option.some (Ob.gh [AV.rf 0 0, AV.mp 1, AV.mp 2, AV.mp 3])) = (Option.some (Ob.gh [AV.rf 0 0, AV.mp (0 + 1), AV.mp ((0 + 1) + 1), AV.mp (((0 + 1) + 1) + 1)]))) ∧ (ACut (aCode KRc GFt (cAt [1, 1, 1, 1, 0, 1, 0, 0, 1, 0, 0, 1, 1, 0, 0, 1, 0, 0, 1, 1, 1, 0, 0, 1, 0, 0, 1] Tryd.b8)) (rFj_k0 st inv μ kk l i k j sd nm vs KY) ⟨[AV.d (.sl (opsD l)), AV.jk, mkB false, AV.rf 3 0, AV.d (.sl (strsD u8)), mkI .i64 i, mkI .i64 k, AV.jk, AV.jk, AV.jk, mkI .i64 j, AV.rf 4 0, AV.rf 5 0] ++ (jks 40 ++ ((rFj_l0 k j s s_1) ++ (jks 60))), [Ob.map (KK.ystrs 2) (sdE sd_2), Ob.map (KK.ystrs 2) (nmE nm_2), Ob.map KK.ystr (vsE vs_2), Ob.box [AV.d (.sl (strsD us_1)), AV.mp (if 1 < 4 then 0 else 9 + (1 - 4)), AV.mp (if 2 < 4 then 1 else 9 + (2 - 4)), AV.mp (if 3 < 4 then 2 else 9 + (3 - 4))], Ob.box [mkI .i64 (Sd.sub s), mkB (Sd.a s), mkB (Sd.w s)], Ob.box [mkI .i64 (Sd.sub s_1), mkB (Sd.a s_1), mkB (Sd.w s_1)], Ob.gone, Ob.gone, Ob.gone, Ob.gone]⟩)))))))) ∧
   (∃ (us : List BA), ∃ (sd_1 : Sds), ∃ (nm_1 : Nms), ∃ (vs_1 : Vss), ∃ (u : ByteArray), ∃ (c : ByteArray), ([AV.rf 0 0, mkS (strD (List.getD (List.getD (strsD u8) (Int.toNat k) []) (0 : Nat) d0)), mkS (strD (List.getD (List.getD (strsD u8) (Int.toNat j) []) (0 : Nat) d0))] = [AV.rf 0 0, mkS u, mkS c]) ∧ (((rFj_l2 sd nm vs) = [Ob.box [mkSS us, AV.mp 1, AV.mp 2, AV.mp 3], Ob.map (KK.ystrs 2) (sdE sd_1), Ob.map (KK.ystrs 2) (nmE nm_1), Ob.map KK.ystr (vsE vs_1), Ob.gh [AV.rf 0 0, AV.mp 1, AV.mp 2, AV.mp 3]]) ∧ (∀ (s : Sd), ((sideOf sd_1 u c) = s) → ((Option.some (Ob.gh [AV.rf 0 0, AV.mp 1, AV.mp 2, AV.mp 3])) = (Option.some (Ob.gh [AV.rf 0 0, AV.mp (0 + 1), AV.mp ((0 + 1) + 1), AV.mp (((0 + 1) + 1) + 1)]))) ∧ ((∃ (us_1 : List BA), ∃ (sd_2 : Sds), ∃ (nm_2 : Nms), ∃ (vs_2 : Vss), ∃ (u_1 : ByteArray), ∃ (c_1 : ByteArray), ([AV.rf 0 0, mkS (strD (List.getD (List.getD (strsD u8) (Int.toNat j) []) (0 : Nat) d0)), mkS (strD (List.getD (List.getD (strsD u8) (Int.toNat k) []) (0 : Nat) d0))] = [AV.rf 0 0, mkS u_1, mkS c_1]) ∧ (((rFj_l1 us sd_1 nm_1 vs_1) = [Ob.box [mkSS us_1, AV.mp 1, AV.mp 2, AV.mp 3], Ob.map (KK.ystrs 2) (sdE sd_2), Ob.map (KK.ystrs 2) (nmE nm_2), Ob.map KK.ystr (vsE vs_2), Ob.gh [AV.rf 0 0, AV.mp 1, AV.mp 2, AV.mp 3]]) ∧ (∀ (s_1 : Sd), ((sideOf sd_2 u_1 c_1) = s_1) → ((Option.some (Ob.gh [AV.rf 0 0, AV.mp 1, AV.mp 2, AV.mp 3])) = (Option.some (Ob.gh [AV.rf 0 0, AV.mp (0 + 1), AV.mp ((0 + 1) + 1), AV.mp (((0 + 1) + 1) + 1)]))) ∧ (ACut (aCode KRc GFt (cAt [1, 1, 1, 1, 0, 1, 0, 0, 1, 0, 0, 1, 1, 0, 0, 1, 0, 0, 1, 1, 1, 0, 0, 1, 0, 0, 1] Tryd.b8)) (rFj_k0 st inv μ kk l i k j sd nm vs KY) ⟨[AV.d (.sl (opsD l)), AV.jk, mkB false, AV.rf 3 0, AV.d (.sl (strsD u8)), mkI .i64 i, mkI .i64 k, AV.jk, AV.jk, AV.jk, mkI .i64 j, AV.rf 9 0, AV.rf 4 0] ++ (jks 40 ++ ((rFj_l0 k j s s_1) ++ (jks 60))), [Ob.map (KK.ystrs 2) (sdE sd_2), Ob.map (KK.ystrs 2) (nmE nm_2), Ob.map KK.ystr (vsE vs_2), Ob.box [AV.d (.sl (strsD us_1)), AV.mp (if 1 < 4 then 0 else 8 + (1 - 4)), AV.mp (if 2 < 4 then 1 else 8 + (2 - 4)), AV.mp (if 3 < 4 then 2 else 8 + (3 - 4))], Ob.box [mkI .i64 (Sd.sub s_1), mkB (Sd.a s_1), mkB (Sd.w s_1)], Ob.gone, Ob.gone, Ob.gone, Ob.gone, Ob.box [mkI .i64 (Sd.sub s), mkB (Sd.a s), mkB (Sd.w s)]]⟩)))) ∧ (∃ (us_1 : List BA), ∃ (sd_2 : Sds), ∃ (nm_2 : Nms), ∃ (vs_2 : Vss), ∃ (u_1 : ByteArray), ∃ (c_1 : ByteArray), ([AV.rf 0 0, mkS (strD (List.getD (List.getD (strsD u8) (Int.toNat j) []) (0 : Nat) d0)), mkS (strD (List.getD (List.getD (strsD u8) (Int.toNat k) []) (0 : Nat) d0))] = [AV.rf 0 0, mkS u_1, mkS c_1]) ∧ (((rFj_l1 us sd_1 nm_1 vs_1) = [Ob.box [mkSS us_1, AV.mp 1, AV.mp 2, AV.mp 3], Ob.map (KK.ystrs 2) (sdE sd_2), Ob.map (KK.ystrs 2) (nmE nm_2), Ob.map KK.ystr (vsE vs_2), Ob.gh [AV.rf 0 0, AV.mp 1, AV.mp 2, AV.mp 3]]) ∧ (∀ (s_1 : Sd), ((sideOf sd_2 u_1 c_1) = s_1) → ((Option.some (Ob.gh [AV.rf 0 0, AV.mp 1, AV.mp 2, AV.mp 3])) = (Option.some (Ob.gh [AV.rf 0 0, AV.mp (0 + 1), AV.mp ((0 + 1) + 1), AV.mp (((0 + 1) + 1) + 1)]))) ∧ (ACut (aCode KRc GFt (cAt [1, 1, 1, 1, 0, 1, 0, 0, 1, 0, 0, 1, 1, 0, 0, 1, 0, 0, 1, 1, 1, 0, 0, 1, 0, 0, 1] Tryd.b8)) (rFj_k0 st inv μ kk l i k j sd nm vs KY) ⟨[AV.d (.sl (opsD l)), AV.jk, mkB false, AV.rf 3 0, AV.d (.sl (strsD u8)), mkI .i64 i, mkI .i64 k, AV.jk, AV.jk, AV.jk, mkI .i64 j, AV.rf 7 0, AV.rf 4 0] ++ (jks 40 ++ ((rFj_l0 k j s s_1) ++ (jks 60))), [Ob.map (KK.ystrs 2) (sdE sd_2), Ob.map (KK.ystrs 2) (nmE nm_2), Ob.map KK.ystr (vsE vs_2), Ob.box [AV.d (.sl (strsD us_1)), AV.mp (if 1 < 4 then 0 else 9 + (1 - 4)), AV.mp (if 2 < 4 then 1 else 9 + (2 - 4)), AV.mp (if 3 < 4 then 2 else 9 + (3 - 4))], Ob.box [mkI .i64 (Sd.sub s_1), mkB (Sd.a s_1), mkB (Sd.w s_1)], Ob.gone, Ob.gone, Ob.box [mkI .i64 (Sd.sub s), mkB (Sd.a s), mkB (Sd.w s)], Ob.gone, Ob.gone]⟩)))))))) ∧ (
    ∃ (us : List BA),
    ∃ (sd_1 : Sds),
    ∃ (nm_1 : Nms),
    ∃ (vs_1 : Vss),
    ∃ (u : ByteArray),
    ∃ (c : ByteArray),
    ([AV.rf 0 0, mkS (strD (List.getD (List.getD (strsD u8) (Int.toNat k) []) (0 : Nat) d0)), mkS (strD (List.getD (List.getD (strsD u8) (Int.toNat j) []) (0 : Nat) d0))] = [AV.rf 0 0, mkS u, mkS c]) ∧
    ((rFj_l2 sd nm vs) = [Ob.box [mkSS us, AV.mp 1, AV.mp 2, AV.mp 3], Ob.map (KK.ystrs 2) (sdE sd_1), Ob.map (KK.ystrs 2) (nmE nm_1), Ob.map KK.ystr (vsE vs_1), Ob.gh [AV.rf 0 0, AV.mp 1, AV.mp 2, AV.mp 3]]) ∧ (
     ∀ (s : Sd),
     ((sideOf sd_1 u c) = s) →
     ((Option.some (Ob.gh [AV.rf 0 0, AV.mp 1, AV.mp 2, AV.mp 3])) = (Option.some (Ob.gh [AV.rf 0 0, AV.mp (0 + 1), AV.mp ((0 + 1) + 1), AV.mp (((0 + 1) + 1) + 1)]))) ∧ (
      ∃ (us_1 : List BA),
      ∃ (sd_2 : Sds),
      ∃ (nm_2 : Nms),
      ∃ (vs_2 : Vss),
      ∃ (u_1 : ByteArray),
      ∃ (c_1 : ByteArray),
      ([AV.rf 0 0, mkS (strD (List.getD (List.getD (strsD u8) (Int.toNat j) []) (0 : Nat) d0)), mkS (strD (List.getD (List.getD (strsD u8) (Int.toNat k) []) (0 : Nat) d0))] = [AV.rf 0 0, mkS u_1, mkS c_1]) ∧
      ((rFj_l1 us sd_1 nm_1 vs_1) = [Ob.box [mkSS us_1, AV.mp 1, AV.mp 2, AV.mp 3], Ob.map (KK.ystrs 2) (sdE sd_2), Ob.map (KK.ystrs 2) (nmE nm_2), Ob.map KK.ystr (vsE vs_2), Ob.gh [AV.rf 0 0, AV.mp 1, AV.mp 2, AV.mp 3]]) ∧ (
       ∀ (s_1 : Sd),
       ((sideOf sd_2 u_1 c_1) = s_1) →
       ((Option.some (Ob.gh [AV.rf 0 0, AV.mp 1, AV.mp 2, AV.mp 3])) = (Option.some (Ob.gh [AV.rf 0 0, AV.mp (0 + 1), AV.mp ((0 + 1) + 1), AV.mp (((0 + 1) + 1) + 1)]))) ∧
       ACut (aCode KRc GFt (cAt [1, 1, 1, 1, 0, 1, 0, 0, 1, 0, 0, 1, 1, 0, 0, 1, 0, 0, 1, 1, 1, 0, 0, 1, 0, 0, 1] Tryd.b8)) (rFj_k0 st inv μ kk l i k j sd nm vs KY) ⟨[AV.d (.sl (opsD l)), AV.jk, mkB false, AV.rf 3 0, AV.d (.sl (strsD u8)), mkI .i64 i, mkI .i64 k, AV.jk, AV.jk, AV.jk, mkI .i64 j, AV.rf 5 0, AV.rf 4 0] ++ (jks 40 ++ ((rFj_l0 k j s s_1) ++ (jks 60))), [Ob.map (KK.ystrs 2) (sdE sd_2), Ob.map (KK.ystrs 2) (nmE nm_2), Ob.map KK.ystr (vsE vs_2), Ob.box [AV.d (.sl (strsD us_1)), AV.mp (if 1 < 4 then 0 else 9 + (1 - 4)), AV.mp (if 2 < 4 then 1 else 9 + (2 - 4)), AV.mp (if 3 < 4 then 2 else 9 + (3 - 4))], Ob.box [mkI .i64 (Sd.sub s_1), mkB (Sd.a s_1), mkB (Sd.w s_1)], Ob.box [mkI .i64 (Sd.sub s), mkB (Sd.a s), mkB (Sd.w s)], Ob.gone, Ob.gone, Ob.gone, Ob.gone]⟩))))) (
   KY (AX.exit (4 : Nat)) ⟨[AV.d (.sl (opsD l)), AV.jk, mkB false, AV.rf 3 0, mkSS u8, mkI .i64 i, mkI .i64 k, AV.jk, AV.jk, AV.jk, mkI .i64 j] ++ (jks 42 ++ ([mkI .i64 j, AV.d (.sl (strsD u8)), mkI .i64 (8 : Int), mkB false] ++ (jks 82))), [Ob.map (KK.ystrs 2) (sdE sd), Ob.map (KK.ystrs 2) (nmE nm), Ob.map KK.ystr (vsE vs), Ob.box [mkSS u8, AV.mp 0, AV.mp 1, AV.mp 2]]⟩)) := by kernel_rfl
end Go.Proofs.YtldcalmoboeeiaaDoor

namespace Go.Proofs.YtldcalmoboeeiaaDoor
open Go Go.AM Go.RowKit
attribute [local irreducible] aCode aUnr aUnS aOut
def stFx (l : List Op) (i k j : Int) (sd : Sds) (nm : Nms) (vs : Vss) (x y : Sd) : S := ⟨[.d (.sl (opsD l)), .jk, mkB false, .rf 3 0, mkSS u8, mkI .i64 i, mkI .i64 k, .jk, .jk, .jk, mkI .i64 j, .rf 4 0, .rf 5 0] ++ jks 126, lawP u8 sd nm vs ++ [.box [mkI .i64 x.sub, mkB x.a, mkB x.w], .box [mkI .i64 y.sub, mkB y.a, mkB y.w]]⟩
noncomputable abbrev rFx_l0 (x : Sd) (y : Sd) (us_2 : List BA) (sd_3 : Sds) (nm_3 : Nms) (vs_3 : Vss) : List Ob := [Ob.map (KK.ystrs 2) (sdE sd_3), Ob.map (KK.ystrs 2) (nmE nm_3), Ob.map KK.ystr (vsE vs_3), Ob.box [AV.d (.sl (strsD us_2)), AV.mp (if 1 < 4 then 0 else 11 + (1 - 4)), AV.mp (if 2 < 4 then 1 else 11 + (2 - 4)), AV.mp (if 3 < 4 then 2 else 11 + (3 - 4))], Ob.box [mkI .i64 (Sd.sub x), mkB (Sd.a x), mkB (Sd.w x)], Ob.box [mkI .i64 (Sd.sub y), mkB (Sd.a y), mkB (Sd.w y)], Ob.gone, Ob.gone, Ob.gone, Ob.gone, Ob.gone, Ob.gone]
noncomputable abbrev rFx_l1 (sd : Sds) (nm : Nms) (vs : Vss) (x : Sd) (y : Sd) : List Ob := [Ob.map (KK.ystrs 2) (sdE sd), Ob.map (KK.ystrs 2) (nmE nm), Ob.map KK.ystr (vsE vs), Ob.box [mkSS u8, AV.mp 0, AV.mp 1, AV.mp 2], Ob.box [mkI .i64 (Sd.sub x), mkB (Sd.a x), mkB (Sd.w x)], Ob.box [mkI .i64 (Sd.sub y), mkB (Sd.a y), mkB (Sd.w y)]]
theorem rFx {ι : Type} (st : ι → S) (inv : ι → Prop) (μ : ι → Nat) (kk : ι) (l : List Op) (i k j : Int) (sd : Sds) (nm : Nms) (vs : Vss) (x y : Sd) (KY : Kont) :
  (aCode KRc GFt (cAt [1, 1, 1, 1, 0, 1, 0, 0, 1, 0, 0, 1, 1, 0, 0, 1, 0, 0, 1, 1, 1, 0, 0, 1, 0, 0, 1] Tryd.b8) (rFj_k0 st inv μ kk l i k j sd nm vs KY) (stFx l i k j sd nm vs x y)) = (
  (((0 : Int) ≤ (Sd.sub x)) ∧ ((Sd.sub x) ≤ (3 : Int))) ∧
  bcase (!(rightM (sdOf (Sd.sub x) (Sd.a x) (Sd.w x)))) (
   KY AX.ret ⟨[AV.d (.sl (opsD l)), AV.jk, mkB false, AV.rf 3 0, mkSS u8, mkI .i64 i, mkI .i64 k, AV.jk, AV.jk, AV.jk, mkI .i64 j, AV.rf 4 0, AV.rf 5 0] ++ (jks 66 ++ ([AV.ag [mkI .i64 (Sd.sub x), mkB (Sd.a x), mkB (Sd.w x)], mkB (rightM (sdOf (Sd.sub x) (Sd.a x) (Sd.w x))), mkB (!(rightM (sdOf (Sd.sub x) (Sd.a x) (Sd.w x)))), mkB true, AV.tp [], AV.tp [], AV.tp [], AV.tp [], mkB true, mkB true, AV.tp [], AV.tp [], AV.tp [], AV.tp [], AV.tp [], AV.tp [], AV.tp [], AV.tp [], AV.tp [], AV.tp [], AV.tp [], AV.tp [], AV.tp [], AV.tp [], AV.tp [], AV.tp [], AV.tp [], AV.tp [], AV.tp [], AV.tp [], AV.tp [], AV.tp [], AV.tp [], mkB true, mkB true, AV.tp [], AV.tp [], AV.tp [], AV.tp [], AV.tp [], AV.tp [], AV.tp [], AV.tp [], AV.tp [], AV.tp [], AV.tp [], AV.tp [], AV.tp [], AV.tp [], mkB true, mkB true, AV.tp [], AV.tp [], AV.tp [], AV.tp [], AV.tp [], AV.tp [], AV.tp [], AV.tp [], mkB true])), (rFx_l1 sd nm vs x y)⟩) (
   ((((0 : Int) ≤ (Sd.sub x)) ∧ ((Sd.sub x) ≤ (3 : Int))) ∧ (((0 : Int) ≤ (Sd.sub y)) ∧ ((Sd.sub y) ≤ (3 : Int)))) ∧
   bcase (!(fitM (sdOf (Sd.sub x) (Sd.a x) (Sd.w x)) (sdOf (Sd.sub y) (Sd.a y) (Sd.w y)))) (
    KY AX.ret ⟨[AV.d (.sl (opsD l)), AV.jk, mkB false, AV.rf 3 0, mkSS u8, mkI .i64 i, mkI .i64 k, AV.jk, AV.jk, AV.jk, mkI .i64 j, AV.rf 4 0, AV.rf 5 0] ++ (jks 66 ++ ([AV.ag [mkI .i64 (Sd.sub x), mkB (Sd.a x), mkB (Sd.w x)], mkB (rightM (sdOf (Sd.sub x) (Sd.a x) (Sd.w x))), mkB (!(rightM (sdOf (Sd.sub x) (Sd.a x) (Sd.w x)))), mkB false, AV.ag [mkI .i64 (Sd.sub x), mkB (Sd.a x), mkB (Sd.w x)], AV.ag [mkI .i64 (Sd.sub y), mkB (Sd.a y), mkB (Sd.w y)], mkB (fitM (sdOf (Sd.sub x) (Sd.a x) (Sd.w x)) (sdOf (Sd.sub y) (Sd.a y) (Sd.w y))), mkB (!(fitM (sdOf (Sd.sub x) (Sd.a x) (Sd.w x)) (sdOf (Sd.sub y) (Sd.a y) (Sd.w y)))), mkB (!(fitM (sdOf (Sd.sub x) (Sd.a x) (Sd.w x)) (sdOf (Sd.sub y) (Sd.a y) (Sd.w y)))), mkB true, AV.tp [], AV.tp [], AV.tp [], AV.tp [], AV.tp [], AV.tp [], AV.tp [], AV.tp [], AV.tp [], AV.tp [], AV.tp [], AV.tp [], AV.tp [], AV.tp [], AV.tp [], AV.tp [], AV.tp [], AV.tp [], AV.tp [], AV.tp [], AV.tp [], AV.tp [], AV.tp [], mkB true, mkB true, AV.tp [], AV.tp [], AV.tp [], AV.tp [], AV.tp [], AV.tp [], AV.tp [], AV.tp [], AV.tp [], AV.tp [], AV.tp [], AV.tp [], AV.tp [], AV.tp [], mkB true, mkB true, AV.tp [], AV.tp [], AV.tp [], AV.tp [], AV.tp [], AV.tp [], AV.tp [], AV.tp [], mkB true])), (rFx_l1 sd nm vs x y)⟩) (
    (((0 : Int) ≤ k) ∧ (k < (8 : Int))) ∧
    ((List.length (List.getD (strsD u8) (Int.toNat k) [])) = 1) ∧
    ((1 : Nat) ≤ (List.length (List.getD (strsD u8) (Int.toNat k) []))) ∧
    ((List.getD (List.getD (strsD u8) (Int.toNat k) []) (0 : Nat) d0) = (D.v (.string (strD (List.getD (List.getD (strsD u8) (Int.toNat k) []) (0 : Nat) d0))))) ∧
    (((0 : Int) ≤ j) ∧ (j < (8 : Int))) ∧
    ((List.length (List.getD (strsD u8) (Int.toNat j) [])) = 1) ∧
    ((1 : Nat) ≤ (List.length (List.getD (strsD u8) (Int.toNat j) []))) ∧
    ((List.getD (List.getD (strsD u8) (Int.toNat j) []) (0 : Nat) d0) = (D.v (.string (strD (List.getD (List.getD (strsD u8) (Int.toNat j) []) (0 : Nat) d0))))) ∧
    (((0 : Int) ≤ j) ∧ (j < (8 : Int))) ∧
    ((List.length (List.getD (strsD u8) (Int.toNat j) [])) = 1) ∧
    ((1 : Nat) ≤ (List.length (List.getD (strsD u8) (Int.toNat j) []))) ∧
    ((List.getD (List.getD (strsD u8) (Int.toNat j) []) (0 : Nat) d0) = (D.v (.string (strD (List.getD (List.getD (strsD u8) (Int.toNat j) []) (0 : Nat) d0))))) ∧
    (((0 : Int) ≤ k) ∧ (k < (8 : Int))) ∧
    ((List.length (List.getD (strsD u8) (Int.toNat k) [])) = 1) ∧
    ((1 : Nat) ≤ (List.length (List.getD (strsD u8) (Int.toNat k) []))) ∧
    ((List.getD (List.getD (strsD u8) (Int.toNat k) []) (0 : Nat) d0) = (D.v (.string (strD (List.getD (List.getD (strsD u8) (Int.toNat k) []) (0 : Nat) d0))))) ∧ (
     ∃ (us : List BA),
     ∃ (sd_1 : Sds),
     ∃ (nm_1 : Nms),
     ∃ (vs_1 : Vss),
     ∃ (u : ByteArray),
     ([AV.rf 0 0, mkS (strD (List.getD (List.getD (strsD u8) (Int.toNat k) []) (0 : Nat) d0))] = [AV.rf 0 0, mkS u]) ∧
     ([Ob.box [AV.d (.sl (strsD u8)), AV.mp (0 + 1), AV.mp ((0 + 1) + 1), AV.mp (((0 + 1) + 1) + 1)], Ob.map (KK.ystrs 2) (sdE sd), Ob.map (KK.ystrs 2) (nmE nm), Ob.map KK.ystr (vsE vs), Ob.gh [AV.rf 0 0, AV.mp (0 + 1), AV.mp ((0 + 1) + 1), AV.mp (((0 + 1) + 1) + 1)]] = [Ob.box [mkSS us, AV.mp 1, AV.mp 2, AV.mp 3], Ob.map (KK.ystrs 2) (sdE sd_1), Ob.map (KK.ystrs 2) (nmE nm_1), Ob.map KK.ystr (vsE vs_1), Ob.gh [AV.rf 0 0, AV.mp 1, AV.mp 2, AV.mp 3]]) ∧ (
      ∀ (l_1 : List BA),
      ((List.filter (fun (c : BA) => Sd.t (sideOf sd_1 u c)) us) = l_1) →
      ((Option.some (Ob.gh [AV.rf 0 0, AV.mp 1, AV.mp 2, AV.mp 3])) = (Option.some (Ob.gh [AV.rf 0 0, AV.mp (0 + 1), AV.mp ((0 + 1) + 1), AV.mp (((0 + 1) + 1) + 1)]))) ∧
      ((strsD l_1) = (strsD (unSS (strsD l_1)))) ∧ (
       ∃ (us_1 : List BA),
       ∃ (sd_2 : Sds),
       ∃ (nm_2 : Nms),
       ∃ (vs_2 : Vss),
       ∃ (u_1 : ByteArray),
       ([AV.rf 0 0, mkS (strD (List.getD (List.getD (strsD u8) (Int.toNat j) []) (0 : Nat) d0))] = [AV.rf 0 0, mkS u_1]) ∧
       ([Ob.box [AV.d (.sl (strsD us)), AV.mp (0 + 1), AV.mp ((0 + 1) + 1), AV.mp (((0 + 1) + 1) + 1)], Ob.map (KK.ystrs 2) (sdE sd_1), Ob.map (KK.ystrs 2) (nmE nm_1), Ob.map KK.ystr (vsE vs_1), Ob.gh [AV.rf 0 0, AV.mp (0 + 1), AV.mp ((0 + 1) + 1), AV.mp (((0 + 1) + 1) + 1)]] = [Ob.box [mkSS us_1, AV.mp 1, AV.mp 2, AV.mp 3], Ob.map (KK.ystrs 2) (sdE sd_2), Ob.map (KK.ystrs 2) (nmE nm_2), Ob.map KK.ystr (vsE vs_2), Ob.gh [AV.rf 0 0, AV.mp 1, AV.mp 2, AV.mp 3]]) ∧ (
        ∀ (l_2 : List BA),
        ((List.filter (fun (c : BA) => Sd.f (sideOf sd_2 u_1 c)) us_1) = l_2) →
        ((Option.some (Ob.gh [AV.rf 0 0, AV.mp 1, AV.mp 2, AV.mp 3])) = (Option.some (Ob.gh [AV.rf 0 0, AV.mp (0 + 1), AV.mp ((0 + 1) + 1), AV.mp (((0 + 1) + 1) + 1)]))) ∧
        ((strsD l_2) = (strsD (unSS (strsD l_2)))) ∧
        bcase (!((inB (strD (List.getD (List.getD (strsD u8) (Int.toNat j) []) (0 : Nat) d0)) (unSS (strsD l_1))) == (inB (strD (List.getD (List.getD (strsD u8) (Int.toNat k) []) (0 : Nat) d0)) (unSS (strsD l_2))))) (
         KY AX.ret ⟨[AV.d (.sl (opsD l)), AV.jk, mkB false, AV.rf 3 0, AV.d (.sl (strsD u8)), mkI .i64 i, mkI .i64 k, AV.jk, AV.jk, AV.jk, mkI .i64 j, AV.rf 4 0, AV.rf 5 0] ++ (jks 66 ++ ([AV.ag [mkI .i64 (Sd.sub x), mkB (Sd.a x), mkB (Sd.w x)], mkB (rightM (sdOf (Sd.sub x) (Sd.a x) (Sd.w x))), mkB (!(rightM (sdOf (Sd.sub x) (Sd.a x) (Sd.w x)))), mkB false, AV.ag [mkI .i64 (Sd.sub x), mkB (Sd.a x), mkB (Sd.w x)], AV.ag [mkI .i64 (Sd.sub y), mkB (Sd.a y), mkB (Sd.w y)], mkB (fitM (sdOf (Sd.sub x) (Sd.a x) (Sd.w x)) (sdOf (Sd.sub y) (Sd.a y) (Sd.w y))), mkB (!(fitM (sdOf (Sd.sub x) (Sd.a x) (Sd.w x)) (sdOf (Sd.sub y) (Sd.a y) (Sd.w y)))), mkB (!(fitM (sdOf (Sd.sub x) (Sd.a x) (Sd.w x)) (sdOf (Sd.sub y) (Sd.a y) (Sd.w y)))), mkB false, AV.rf 3 0, AV.d (.sl (strsD u8)), mkI .i64 k, AV.ep (List.getD (strsD u8) (Int.toNat k) []), mkS (strD (List.getD (List.getD (strsD u8) (Int.toNat k) []) (0 : Nat) d0)), AV.d (.sl (strsD l_1)), AV.d (.sl (strsD u8)), mkI .i64 j, AV.ep (List.getD (strsD u8) (Int.toNat j) []), mkS (strD (List.getD (List.getD (strsD u8) (Int.toNat j) []) (0 : Nat) d0)), mkB (inB (strD (List.getD (List.getD (strsD u8) (Int.toNat j) []) (0 : Nat) d0)) (unSS (strsD l_1))), AV.rf 3 0, AV.d (.sl (strsD u8)), mkI .i64 j, AV.ep (List.getD (strsD u8) (Int.toNat j) []), mkS (strD (List.getD (List.getD (strsD u8) (Int.toNat j) []) (0 : Nat) d0)), AV.d (.sl (strsD l_2)), AV.d (.sl (strsD u8)), mkI .i64 k, AV.ep (List.getD (strsD u8) (Int.toNat k) []), mkS (strD (List.getD (List.getD (strsD u8) (Int.toNat k) []) (0 : Nat) d0)), mkB (inB (strD (List.getD (List.getD (strsD u8) (Int.toNat k) []) (0 : Nat) d0)) (unSS (strsD l_2))), mkB (!((inB (strD (List.getD (List.getD (strsD u8) (Int.toNat j) []) (0 : Nat) d0)) (unSS (strsD l_1))) == (inB (strD (List.getD (List.getD (strsD u8) (Int.toNat k) []) (0 : Nat) d0)) (unSS (strsD l_2))))), mkB (!((inB (strD (List.getD (List.getD (strsD u8) (Int.toNat j) []) (0 : Nat) d0)) (unSS (strsD l_1))) == (inB (strD (List.getD (List.getD (strsD u8) (Int.toNat k) []) (0 : Nat) d0)) (unSS (strsD l_2))))), mkB true, AV.tp [], AV.tp [], AV.tp [], AV.tp [], AV.tp [], AV.tp [], AV.tp [], AV.tp [], AV.tp [], AV.tp [], AV.tp [], AV.tp [], AV.tp [], AV.tp [], mkB true, mkB true, AV.tp [], AV.tp [], AV.tp [], AV.tp [], AV.tp [], AV.tp [], AV.tp [], AV.tp [], mkB true])), [Ob.map (KK.ystrs 2) (sdE sd_2), Ob.map (KK.ystrs 2) (nmE nm_2), Ob.map KK.ystr (vsE vs_2), Ob.box [AV.d (.sl (strsD us_1)), AV.mp (if 1 < 4 then 0 else 9 + (1 - 4)), AV.mp (if 2 < 4 then 1 else 9 + (2 - 4)), AV.mp (if 3 < 4 then 2 else 9 + (3 - 4))], Ob.box [mkI .i64 (Sd.sub x), mkB (Sd.a x), mkB (Sd.w x)], Ob.box [mkI .i64 (Sd.sub y), mkB (Sd.a y), mkB (Sd.w y)], Ob.gone, Ob.gone, Ob.gone, Ob.gone]⟩) (
         (((0 : Int) ≤ k) ∧ (k < (8 : Int))) ∧
         ((List.length (List.getD (strsD u8) (Int.toNat k) [])) = 1) ∧
         ((1 : Nat) ≤ (List.length (List.getD (strsD u8) (Int.toNat k) []))) ∧
         ((List.getD (List.getD (strsD u8) (Int.toNat k) []) (0 : Nat) d0) = (D.v (.string (strD (List.getD (List.getD (strsD u8) (Int.toNat k) []) (0 : Nat) d0))))) ∧
         (((0 : Int) ≤ j) ∧ (j < (8 : Int))) ∧
         ((List.length (List.getD (strsD u8) (Int.toNat j) [])) = 1) ∧
         ((1 : Nat) ≤ (List.length (List.getD (strsD u8) (Int.toNat j) []))) ∧
         ((List.getD (List.getD (strsD u8) (Int.toNat j) []) (0 : Nat) d0) = (D.v (.string (strD (List.getD (List.getD (strsD u8) (Int.toNat j) []) (0 : Nat) d0))))) ∧
         (True ∧ (True ∧ (True ∧ True))) ∧ (
          ∃ (us_2 : List BA),
          ∃ (sd_3 : Sds),
          ∃ (nm_3 : Nms),
          ∃ (vs_3 : Vss),
          ∃ (u_2 : ByteArray),
          ([AV.rf 0 0, mkS (strD (List.getD (List.getD (strsD u8) (Int.toNat k) []) (0 : Nat) d0))] = [AV.rf 0 0, mkS u_2]) ∧
          ([Ob.box [AV.d (.sl (strsD us_1)), AV.mp (0 + 1), AV.mp ((0 + 1) + 1), AV.mp (((0 + 1) + 1) + 1)], Ob.map (KK.ystrs 2) (sdE sd_2), Ob.map (KK.ystrs 2) (nmE nm_2), Ob.map KK.ystr (vsE vs_2), Ob.gh [AV.rf 0 0, AV.mp (0 + 1), AV.mp ((0 + 1) + 1), AV.mp (((0 + 1) + 1) + 1)]] = [Ob.box [mkSS us_2, AV.mp 1, AV.mp 2, AV.mp 3], Ob.map (KK.ystrs 2) (sdE sd_3), Ob.map (KK.ystrs 2) (nmE nm_3), Ob.map KK.ystr (vsE vs_3), Ob.gh [AV.rf 0 0, AV.mp 1, AV.mp 2, AV.mp 3]]) ∧ (
           ∀ (l_3 : List BA),
           ((List.filter (fun (c : BA) => Sd.t (sideOf sd_3 u_2 c)) us_2) = l_3) →
           ((Option.some (Ob.gh [AV.rf 0 0, AV.mp 1, AV.mp 2, AV.mp 3])) = (Option.some (Ob.gh [AV.rf 0 0, AV.mp (0 + 1), AV.mp ((0 + 1) + 1), AV.mp (((0 + 1) + 1) + 1)]))) ∧
           ((AV.ag [mkI .i64 (Sd.sub x), mkB (Sd.a x), mkB (Sd.w x)]) = (AV.ag [mkI .i64 (Sd.sub x), mkB (Sd.a x), mkB (Sd.w x)])) ∧
           ((strsD l_3) = (strsD (unSS (strsD l_3)))) ∧
           (((0 : Int) ≤ (Sd.sub x)) ∧ ((Sd.sub x) ≤ (3 : Int))) ∧
           bcase (!((inB (strD (List.getD (List.getD (strsD u8) (Int.toNat j) []) (0 : Nat) d0)) (unSS (strsD l_3))) == (Sd.t (sdOf (Sd.sub x) (Sd.a x) (Sd.w x))))) (
            KY AX.ret ⟨[AV.d (.sl (opsD l)), AV.jk, mkB false, AV.rf 3 0, AV.d (.sl (strsD u8)), mkI .i64 i, mkI .i64 k, AV.jk, AV.jk, AV.jk, mkI .i64 j, AV.rf 4 0, AV.rf 5 0] ++ (jks 66 ++ ([AV.ag [mkI .i64 (Sd.sub x), mkB (Sd.a x), mkB (Sd.w x)], mkB (rightM (sdOf (Sd.sub x) (Sd.a x) (Sd.w x))), mkB (!(rightM (sdOf (Sd.sub x) (Sd.a x) (Sd.w x)))), mkB false, AV.ag [mkI .i64 (Sd.sub x), mkB (Sd.a x), mkB (Sd.w x)], AV.ag [mkI .i64 (Sd.sub y), mkB (Sd.a y), mkB (Sd.w y)], mkB (fitM (sdOf (Sd.sub x) (Sd.a x) (Sd.w x)) (sdOf (Sd.sub y) (Sd.a y) (Sd.w y))), mkB (!(fitM (sdOf (Sd.sub x) (Sd.a x) (Sd.w x)) (sdOf (Sd.sub y) (Sd.a y) (Sd.w y)))), mkB (!(fitM (sdOf (Sd.sub x) (Sd.a x) (Sd.w x)) (sdOf (Sd.sub y) (Sd.a y) (Sd.w y)))), mkB false, AV.rf 3 0, AV.d (.sl (strsD u8)), mkI .i64 k, AV.ep (List.getD (strsD u8) (Int.toNat k) []), mkS (strD (List.getD (List.getD (strsD u8) (Int.toNat k) []) (0 : Nat) d0)), AV.d (.sl (strsD l_1)), AV.d (.sl (strsD u8)), mkI .i64 j, AV.ep (List.getD (strsD u8) (Int.toNat j) []), mkS (strD (List.getD (List.getD (strsD u8) (Int.toNat j) []) (0 : Nat) d0)), mkB (inB (strD (List.getD (List.getD (strsD u8) (Int.toNat j) []) (0 : Nat) d0)) (unSS (strsD l_1))), AV.rf 3 0, AV.d (.sl (strsD u8)), mkI .i64 j, AV.ep (List.getD (strsD u8) (Int.toNat j) []), mkS (strD (List.getD (List.getD (strsD u8) (Int.toNat j) []) (0 : Nat) d0)), AV.d (.sl (strsD l_2)), AV.d (.sl (strsD u8)), mkI .i64 k, AV.ep (List.getD (strsD u8) (Int.toNat k) []), mkS (strD (List.getD (List.getD (strsD u8) (Int.toNat k) []) (0 : Nat) d0)), mkB (inB (strD (List.getD (List.getD (strsD u8) (Int.toNat k) []) (0 : Nat) d0)) (unSS (strsD l_2))), mkB (!((inB (strD (List.getD (List.getD (strsD u8) (Int.toNat j) []) (0 : Nat) d0)) (unSS (strsD l_1))) == (inB (strD (List.getD (List.getD (strsD u8) (Int.toNat k) []) (0 : Nat) d0)) (unSS (strsD l_2))))), mkB (!((inB (strD (List.getD (List.getD (strsD u8) (Int.toNat j) []) (0 : Nat) d0)) (unSS (strsD l_1))) == (inB (strD (List.getD (List.getD (strsD u8) (Int.toNat k) []) (0 : Nat) d0)) (unSS (strsD l_2))))), mkB false, AV.rf 3 0, AV.d (.sl (strsD u8)), mkI .i64 k, AV.ep (List.getD (strsD u8) (Int.toNat k) []), mkS (strD (List.getD (List.getD (strsD u8) (Int.toNat k) []) (0 : Nat) d0)), AV.d (.sl (strsD l_3)), AV.d (.sl (strsD u8)), mkI .i64 j, AV.ep (List.getD (strsD u8) (Int.toNat j) []), mkS (strD (List.getD (List.getD (strsD u8) (Int.toNat j) []) (0 : Nat) d0)), mkB (inB (strD (List.getD (List.getD (strsD u8) (Int.toNat j) []) (0 : Nat) d0)) (unSS (strsD l_3))), AV.ag [mkI .i64 (Sd.sub x), mkB (Sd.a x), mkB (Sd.w x)], mkB (Sd.t (sdOf (Sd.sub x) (Sd.a x) (Sd.w x))), mkB (!((inB (strD (List.getD (List.getD (strsD u8) (Int.toNat j) []) (0 : Nat) d0)) (unSS (strsD l_3))) == (Sd.t (sdOf (Sd.sub x) (Sd.a x) (Sd.w x))))), mkB (!((inB (strD (List.getD (List.getD (strsD u8) (Int.toNat j) []) (0 : Nat) d0)) (unSS (strsD l_3))) == (Sd.t (sdOf (Sd.sub x) (Sd.a x) (Sd.w x))))), mkB true, AV.tp [], AV.tp [], AV.tp [], AV.tp [], AV.tp [], AV.tp [], AV.tp [], AV.tp [], mkB true])), (rFx_l0 x y us_2 sd_3 nm_3 vs_3)⟩) (
            bcase (k == j) (
             bcase (!(Bool.and ((Sd.sub x) == (0 : Int)) (Bool.and ((Sd.a x) == false) (Bool.and ((Sd.w x) == false) true)))) (
              KY AX.ret ⟨[AV.d (.sl (opsD l)), AV.jk, mkB false, AV.rf 3 0, AV.d (.sl (strsD u8)), mkI .i64 i, mkI .i64 k, AV.jk, AV.jk, AV.jk, mkI .i64 j, AV.rf 4 0, AV.rf 5 0] ++ (jks 66 ++ ([AV.ag [mkI .i64 (Sd.sub x), mkB (Sd.a x), mkB (Sd.w x)], mkB (rightM (sdOf (Sd.sub x) (Sd.a x) (Sd.w x))), mkB (!(rightM (sdOf (Sd.sub x) (Sd.a x) (Sd.w x)))), mkB false, AV.ag [mkI .i64 (Sd.sub x), mkB (Sd.a x), mkB (Sd.w x)], AV.ag [mkI .i64 (Sd.sub y), mkB (Sd.a y), mkB (Sd.w y)], mkB (fitM (sdOf (Sd.sub x) (Sd.a x) (Sd.w x)) (sdOf (Sd.sub y) (Sd.a y) (Sd.w y))), mkB (!(fitM (sdOf (Sd.sub x) (Sd.a x) (Sd.w x)) (sdOf (Sd.sub y) (Sd.a y) (Sd.w y)))), mkB (!(fitM (sdOf (Sd.sub x) (Sd.a x) (Sd.w x)) (sdOf (Sd.sub y) (Sd.a y) (Sd.w y)))), mkB false, AV.rf 3 0, AV.d (.sl (strsD u8)), mkI .i64 k, AV.ep (List.getD (strsD u8) (Int.toNat k) []), mkS (strD (List.getD (List.getD (strsD u8) (Int.toNat k) []) (0 : Nat) d0)), AV.d (.sl (strsD l_1)), AV.d (.sl (strsD u8)), mkI .i64 j, AV.ep (List.getD (strsD u8) (Int.toNat j) []), mkS (strD (List.getD (List.getD (strsD u8) (Int.toNat j) []) (0 : Nat) d0)), mkB (inB (strD (List.getD (List.getD (strsD u8) (Int.toNat j) []) (0 : Nat) d0)) (unSS (strsD l_1))), AV.rf 3 0, AV.d (.sl (strsD u8)), mkI .i64 j, AV.ep (List.getD (strsD u8) (Int.toNat j) []), mkS (strD (List.getD (List.getD (strsD u8) (Int.toNat j) []) (0 : Nat) d0)), AV.d (.sl (strsD l_2)), AV.d (.sl (strsD u8)), mkI .i64 k, AV.ep (List.getD (strsD u8) (Int.toNat k) []), mkS (strD (List.getD (List.getD (strsD u8) (Int.toNat k) []) (0 : Nat) d0)), mkB (inB (strD (List.getD (List.getD (strsD u8) (Int.toNat k) []) (0 : Nat) d0)) (unSS (strsD l_2))), mkB (!((inB (strD (List.getD (List.getD (strsD u8) (Int.toNat j) []) (0 : Nat) d0)) (unSS (strsD l_1))) == (inB (strD (List.getD (List.getD (strsD u8) (Int.toNat k) []) (0 : Nat) d0)) (unSS (strsD l_2))))), mkB (!((inB (strD (List.getD (List.getD (strsD u8) (Int.toNat j) []) (0 : Nat) d0)) (unSS (strsD l_1))) == (inB (strD (List.getD (List.getD (strsD u8) (Int.toNat k) []) (0 : Nat) d0)) (unSS (strsD l_2))))), mkB false, AV.rf 3 0, AV.d (.sl (strsD u8)), mkI .i64 k, AV.ep (List.getD (strsD u8) (Int.toNat k) []), mkS (strD (List.getD (List.getD (strsD u8) (Int.toNat k) []) (0 : Nat) d0)), AV.d (.sl (strsD l_3)), AV.d (.sl (strsD u8)), mkI .i64 j, AV.ep (List.getD (strsD u8) (Int.toNat j) []), mkS (strD (List.getD (List.getD (strsD u8) (Int.toNat j) []) (0 : Nat) d0)), mkB (inB (strD (List.getD (List.getD (strsD u8) (Int.toNat j) []) (0 : Nat) d0)) (unSS (strsD l_3))), AV.ag [mkI .i64 (Sd.sub x), mkB (Sd.a x), mkB (Sd.w x)], mkB (Sd.t (sdOf (Sd.sub x) (Sd.a x) (Sd.w x))), mkB (!((inB (strD (List.getD (List.getD (strsD u8) (Int.toNat j) []) (0 : Nat) d0)) (unSS (strsD l_3))) == (Sd.t (sdOf (Sd.sub x) (Sd.a x) (Sd.w x))))), mkB (!((inB (strD (List.getD (List.getD (strsD u8) (Int.toNat j) []) (0 : Nat) d0)) (unSS (strsD l_3))) == (Sd.t (sdOf (Sd.sub x) (Sd.a x) (Sd.w x))))), mkB false, mkI .i64 k, mkI .i64 j, mkB (k == j), mkB true, AV.ag [mkI .i64 (Sd.sub x), mkB (Sd.a x), mkB (Sd.w x)], AV.ag [mkI .i64 (0 : Int), mkB false, mkB false], mkB (!(Bool.and ((Sd.sub x) == (0 : Int)) (Bool.and ((Sd.a x) == false) (Bool.and ((Sd.w x) == false) true)))), mkB (!(Bool.and ((Sd.sub x) == (0 : Int)) (Bool.and ((Sd.a x) == false) (Bool.and ((Sd.w x) == false) true)))), mkB true])), (rFx_l0 x y us_2 sd_3 nm_3 vs_3)⟩) (
              FamNext st inv μ kk ⟨[AV.d (.sl (opsD l)), AV.jk, mkB false, AV.rf 3 0, AV.d (.sl (strsD u8)), mkI .i64 i, mkI .i64 k, AV.jk, AV.jk, AV.jk, mkI .i64 (IntKind.wrap .i64 (j + (1 : Int)))] ++ (jks 128), (rFx_l0 x y us_2 sd_3 nm_3 vs_3)⟩)) (
             FamNext st inv μ kk ⟨[AV.d (.sl (opsD l)), AV.jk, mkB false, AV.rf 3 0, AV.d (.sl (strsD u8)), mkI .i64 i, mkI .i64 k, AV.jk, AV.jk, AV.jk, mkI .i64 (IntKind.wrap .i64 (j + (1 : Int)))] ++ (jks 128), (rFx_l0 x y us_2 sd_3 nm_3 vs_3)⟩)))))))))))) := by kernel_rfl
end Go.Proofs.YtldcalmoboeeiaaDoor

namespace Go.Proofs.YtldcalmoboeeiaaDoor
open Go Go.AM Go.RowKit
attribute [local irreducible] aCode aUnr aUnS aOut
def stFe (l : List Op) (i k j : Int) (sd : Sds) (nm : Nms) (vs : Vss) : S := ⟨[.d (.sl (opsD l)), .jk, mkB false, .rf 3 0, mkSS u8, mkI .i64 i, mkI .i64 k, .jk, .jk, .jk, mkI .i64 j] ++ jks 42 ++ [mkI .i64 j, mkSS u8, mkI .i64 8, mkB false] ++ jks 82, lawP u8 sd nm vs⟩
theorem rFke {ι : Type} (st : ι → S) (inv : ι → Prop) (μ : ι → Nat) (kk : ι) (l : List Op) (i k j : Int) (sd : Sds) (nm : Nms) (vs : Vss) (KX : Kont) :
  (aCode KRc GFt (cAt [1, 1, 1, 1, 0, 1, 0, 0, 1, 0, 0, 1, 1, 0, 0, 1, 1] Tryd.b8) (kFamM [] (maskOf (stFk l i k sd nm vs)) st inv μ kk KX) (stFe l i k j sd nm vs)) = (
  FamNext st inv μ kk ⟨[AV.d (.sl (opsD l)), AV.jk, mkB false, AV.rf 3 0, mkSS u8, mkI .i64 i, mkI .i64 (IntKind.wrap .i64 (k + (1 : Int)))] ++ (jks 132), [Ob.map (KK.ystrs 2) (sdE sd), Ob.map (KK.ystrs 2) (nmE nm), Ob.map KK.ystr (vsE vs), Ob.box [mkSS u8, AV.mp 0, AV.mp 1, AV.mp 2]]⟩) := by kernel_rfl
def stFke (l : List Op) (i k : Int) (sd : Sds) (nm : Nms) (vs : Vss) : S := ⟨[.d (.sl (opsD l)), .jk, mkB false, .rf 3 0, mkSS u8, mkI .i64 i, mkI .i64 k] ++ jks 27 ++ [mkI .i64 k, mkSS u8, mkI .i64 8, mkB false] ++ jks 101, lawP u8 sd nm vs⟩
theorem rFie {ι : Type} (st : ι → S) (inv : ι → Prop) (μ : ι → Nat) (kk : ι) (l : List Op) (i k : Int) (sd : Sds) (nm : Nms) (vs : Vss) (q : AV → Prop) :
  (aCode KRc GFt (cAt [1, 1, 1, 1, 0, 1, 0, 0, 1, 1] Tryd.b8) (kFamM [] (maskOf (stFl l)) st inv μ kk (rFt_k0 q)) (stFke l i k sd nm vs)) = (
  FamNext st inv μ kk ⟨[AV.d (.sl (opsD l)), AV.jk, mkB false, AV.rf 3 0, mkSS u8, mkI .i64 (IntKind.wrap .i64 (i + (1 : Int)))] ++ (jks 133), [Ob.map (KK.ystrs 2) (sdE sd), Ob.map (KK.ystrs 2) (nmE nm), Ob.map KK.ystr (vsE vs), Ob.box [mkSS u8, AV.mp 0, AV.mp 1, AV.mp 2]]⟩) := by kernel_rfl
theorem u8g (k : Nat) (h : k < 8) : (strsD u8).getD k [] = [.v (.string (u8.getD k ⟨#[]⟩))] := strsD_getD u8 k h
theorem strD_s (x : BA) : strD (.v (.string x)) = x := rfl
theorem w_eight (k : Nat) (h : k < 8) : IntKind.wrap .i64 ((k : Int) + 1) = ((k + 1 : Nat) : Int) := by
  rw [IntWalk.i64_in _ (by omega)]; omega
set_option maxRecDepth 20000 in
theorem ft_x {l : List Op} {i : Int} {k j : Nat} (hk : k < 8) (hj : j < 8) {sd : Sds} {nm : Nms} {vs : Vss} (hG : Good u8 sd nm) {x y : Sd} (hx : sideOf sd (u8.getD k ⟨#[]⟩) (u8.getD j ⟨#[]⟩) = x) (hy : sideOf sd (u8.getD j ⟨#[]⟩) (u8.getD k ⟨#[]⟩) = y) {KY : Kont} :
    aCode KRc GFt (cAt [1, 1, 1, 1, 0, 1, 0, 0, 1, 0, 0, 1, 1, 0, 0, 1, 0, 0, 1, 1, 1, 0, 0, 1, 0, 0, 1] Tryd.b8) (rFj_k0 (fun j : Nat => stFj l i k j sd nm vs) (fun j => j ≤ 8) (fun j => 8 - j) j l i k j sd nm vs KY) (stFx l i k j sd nm vs x y) := by
  have hr : rightM x = true := by rw [← hx]; exact hG.right _ _
  have hf : fitM x y = true := by rw [← hx, ← hy]; exact hG.fit _ _
  have ht : ∀ l1, u8.filter (fun c => (sideOf sd (u8.getD k ⟨#[]⟩) c).t) = l1 → inB (u8.getD j ⟨#[]⟩) l1 = x.t := fun l1 h => by rw [← h, inB_filt (u8_in j hj), hx]
  have hw : ∀ l2, u8.filter (fun c => (sideOf sd (u8.getD j ⟨#[]⟩) c).f) = l2 → inB (u8.getD k ⟨#[]⟩) l2 = y.f := fun l2 h => by rw [← h, inB_filt (u8_in k hk), hy]
  have htf := fit_tf hf
  have hz : k = j → x = Sd.zero := fun e => by rw [← hx, e]; exact hG.zero _
  have hsx := sub_in x
  have hsy := sub_in y
  refine cast (rFx (fun j : Nat => stFj l i k j sd nm vs) (fun j => j ≤ 8) (fun j => 8 - j) j l i k j sd nm vs x y KY).symm ⟨hsx, bcaseF (by rw [sdOf_self, hr]; rfl) ⟨⟨hsx, hsy⟩, bcaseF (by rw [sdOf_self, sdOf_self, hf]; rfl) ?_⟩⟩
  simp only [Int.toNat_natCast, u8g k hk, u8g j hj, List.getD_cons_zero, strD_s, unSS_strsD, sdOf_self]
  refine ⟨⟨by omega, by omega⟩, by trivial, Nat.le_refl _, by trivial, ⟨by omega, by omega⟩, by trivial, Nat.le_refl _, by trivial, ⟨by omega, by omega⟩, by trivial, Nat.le_refl _, by trivial, ⟨by omega, by omega⟩, by trivial, Nat.le_refl _, by trivial, u8, sd, nm, vs, _, rfl, rfl, fun l1 h1 => ⟨by trivial, by trivial, u8, sd, nm, vs, _, rfl, rfl, fun l2 h2 => ⟨by trivial, by trivial, bcaseF (by rw [ht l1 h1, hw l2 h2, htf, beq_self_eq_true]; rfl) ⟨⟨by omega, by omega⟩, by trivial, Nat.le_refl _, by trivial, ⟨by omega, by omega⟩, by trivial, Nat.le_refl _, by trivial, by trivial, u8, sd, nm, vs, _, rfl, rfl, fun l3 h3 => ⟨by trivial, by trivial, by trivial, hsx, bcaseF (by rw [ht l3 h3, beq_self_eq_true]; rfl) (bcase_mk (fun hkj => bcaseF (by rw [hz (by have := of_decide_eq_true hkj; omega)]; rfl) ?_) (fun _ => ?_))⟩⟩⟩⟩⟩
  all_goals
    refine .mk [] (j + 1) ?_ (by omega) (by omega)
    rw [w_eight j hj]
    simp [S.le, sealAll, leL, leA, leO, jks, lawP, lawO, S.fits, fitsL, AV.fits, Ob.fits, KK.isSy, mkSS, mkS, mkI, mkB, stFj]
set_option maxRecDepth 20000 in
theorem ft_j {l : List Op} {i : Int} {k : Nat} (hk : k < 8) {sd : Sds} {nm : Nms} {vs : Vss} (hG : Good u8 sd nm) {KY : Kont} (h : KY (.exit 4) (stFe l i k (8 : Nat) sd nm vs)) {s : S} (hs : s.le (stFj l i k (0 : Nat) sd nm vs)) :
    ALoop (aCode KRc GFt (cAt [1, 1, 1, 1, 0, 1, 0, 0, 1, 0, 0, 1, 1, 0, 0, 1, 0, 0, 1, 1, 1, 0, 0] Tryd.b8)) KY s := by
  refine ALoop.introM [] (maskOf (stFj l i k (0 : Nat) sd nm vs)) (fun j : Nat => stFj l i k j sd nm vs) (fun j => j ≤ 8) (fun j => 8 - j) ⟨[], 0, hs, Nat.zero_le _⟩ fun j hj => ?_
  refine cast (rFj (fun j : Nat => stFj l i k j sd nm vs) (fun j => j ≤ 8) (fun j => 8 - j) j l i k j sd nm vs KY).symm fun _ => (bcase_dec (fun hlt => ?_) (fun hge => ?_))
  · have hlt : j < 8 := by omega
    have hX : ∀ x y, sideOf sd (u8.getD k ⟨#[]⟩) (u8.getD j ⟨#[]⟩) = x → sideOf sd (u8.getD j ⟨#[]⟩) (u8.getD k ⟨#[]⟩) = y → aCode KRc GFt (cAt [1, 1, 1, 1, 0, 1, 0, 0, 1, 0, 0, 1, 1, 0, 0, 1, 0, 0, 1, 1, 1, 0, 0, 1, 0, 0, 1] Tryd.b8) (rFj_k0 (fun j : Nat => stFj l i k j sd nm vs) (fun j => j ≤ 8) (fun j => 8 - j) j l i k j sd nm vs KY) (stFx l i k j sd nm vs x y) := fun x y hx hy => ft_x hk hlt hG hx hy
    simp only [Int.toNat_natCast, u8g k hk, u8g j hlt, List.getD_cons_zero, strD_s]
    refine ⟨⟨by omega, by omega⟩, by trivial, Nat.le_refl _, by trivial, ⟨by omega, by omega⟩, by trivial, Nat.le_refl _, by trivial, ⟨by omega, by omega⟩, by trivial, Nat.le_refl _, by trivial, ⟨by omega, by omega⟩, by trivial, Nat.le_refl _, by trivial, ?_⟩
    repeat' (first | exact trivial | refine ⟨u8, sd, nm, vs, _, _, rfl, rfl, ?_⟩ | intro x hx | apply And.intro)
    refine .pk [] [0, 1, 2, 3, 8, 9] _ rfl ?_ (hX _ _ (by assumption) (by assumption)); rotate_left
    refine .pk [] [0, 1, 2, 3, 9, 8] _ rfl ?_ (hX _ _ (by assumption) (by assumption)); rotate_left
    refine .pk [] [0, 1, 2, 3, 6, 9] _ rfl ?_ (hX _ _ (by assumption) (by assumption)); rotate_left
    refine .pk [] [0, 1, 2, 3, 6, 7] _ rfl ?_ (hX _ _ (by assumption) (by assumption)); rotate_left
    refine .pk [] [0, 1, 2, 3, 9, 6] _ rfl ?_ (hX _ _ (by assumption) (by assumption)); rotate_left
    refine .pk [] [0, 1, 2, 3, 7, 6] _ rfl ?_ (hX _ _ (by assumption) (by assumption)); rotate_left
    refine .pk [] [0, 1, 2, 3, 4, 9] _ rfl ?_ (hX _ _ (by assumption) (by assumption)); rotate_left
    refine .pk [] [0, 1, 2, 3, 4, 7] _ rfl ?_ (hX _ _ (by assumption) (by assumption)); rotate_left
    refine .pk [] [0, 1, 2, 3, 4, 5] _ rfl ?_ (hX _ _ (by assumption) (by assumption)); rotate_left
    refine .pk [] [0, 1, 2, 3, 9, 4] _ rfl ?_ (hX _ _ (by assumption) (by assumption)); rotate_left
    refine .pk [] [0, 1, 2, 3, 7, 4] _ rfl ?_ (hX _ _ (by assumption) (by assumption)); rotate_left
    refine .pk [] [0, 1, 2, 3, 5, 4] _ rfl ?_ (hX _ _ (by assumption) (by assumption)); rotate_left
    all_goals simp [S.le, sealAll, S.pack, inO, renL, AV.ren, Ob.ren, posOf, leL, leO, jks, lawP, S.fits, fitsL, AV.fits, Ob.fits, KK.isSy, mkSS, mkS, mkI, mkB, stFx, rFj_l0]
  · have e : j = 8 := by omega
    subst e
    exact h
set_option maxRecDepth 20000 in
theorem ft_k {l : List Op} {i : Int} {sd : Sds} {nm : Nms} {vs : Vss} (hG : Good u8 sd nm) {KX : Kont} (h : KX (.exit 2) (stFke l i (8 : Nat) sd nm vs)) {s : S} (hs : s.le (stFk l i (0 : Nat) sd nm vs)) :
    ALoop (aCode KRc GFt (cAt [1, 1, 1, 1, 0, 1, 0, 0, 1, 0, 0, 1, 1, 0, 0] Tryd.b8)) KX s := by
  refine ALoop.introM [] (maskOf (stFk l i (0 : Nat) sd nm vs)) (fun k : Nat => stFk l i k sd nm vs) (fun k => k ≤ 8) (fun k => 8 - k) ⟨[], 0, hs, Nat.zero_le _⟩ fun k hk => ?_
  refine cast (rFk (fun k : Nat => stFk l i k sd nm vs) (fun k => k ≤ 8) (fun k => 8 - k) k l i k sd nm vs KX).symm fun _ => (bcase_dec (fun hlt => ?_) (fun hge => ?_))
  · have hlt : k < 8 := by omega
    simp only [Int.toNat_natCast, u8g k hlt, List.getD_cons_zero, strD_s]
    refine ⟨⟨by omega, by omega⟩, by trivial, Nat.le_refl _, by trivial, u8, sd, nm, vs, _, rfl, rfl, u8_mem k hlt, fun l1 n h1 h2 => ⟨by trivial, fun _ => bcase_mk (fun hb => ?_) (fun _ => ?_)⟩⟩
    · have := of_decide_eq_true hb
      have := cap_it hG (u8.getD k ⟨#[]⟩)
      rw [h1] at this
      omega
    · refine ft_j (l := l) (i := i) (vs := vs) hlt hG ?_ ?_
      · refine kblk_mk (kblk_nor (k_nor ?_))
        refine cast (rFke (fun k : Nat => stFk l i k sd nm vs) (fun k => k ≤ 8) (fun k => 8 - k) k l i k (8 : Nat) sd nm vs KX).symm ?_
        refine .mk [] (k + 1) ?_ (by omega) (by omega)
        rw [w_eight k hlt]
        simp [S.le, sealAll, leL, leA, leO, jks, lawP, lawO, S.fits, fitsL, AV.fits, Ob.fits, KK.isSy, mkSS, mkS, mkI, mkB, stFk]
      · simp [S.le, sealAll, leL, leA, leO, jks, lawP, lawO, S.fits, fitsL, AV.fits, Ob.fits, KK.isSy, mkSS, mkS, mkI, mkB, stFj]
  · have e : k = 8 := by omega
    subst e
    exact h
def ftS (l : List Op) : Option (Nat × Sds × Nms × Vss) → S
  | none => stFl l
  | some s => stFt l s.1 s.2.1 s.2.2.1 s.2.2.2
def ftI (l : List Op) : Option (Nat × Sds × Nms × Vss) → Prop
  | none => True
  | some s => s.1 ≤ l.length ∧ Good u8 s.2.1 s.2.2.1
def ftM (l : List Op) : Option (Nat × Sds × Nms × Vss) → Nat
  | none => l.length + 1
  | some s => l.length - s.1
set_option maxRecDepth 20000 in
theorem ft_c {l : List Op} {i : Nat} (h80 : l.length ≤ 80) {sd : Sds} {nm : Nms} {vs : Vss} (hG : Good u8 sd nm) {t : Bool} (ht : t = decide ((i : Int) < ((opsD l).length : Int))) {idx : Option (Nat × Sds × Nms × Vss)} (hm : i < l.length → l.length - (i + 1) < ftM l idx) {q : AV → Prop} (hq : q (mkB true)) :
    aCode KRc GFt (cAt [1, 1, 1, 1, 0, 1, 0, 0, 0, 1] Tryd.b8) (kSeq (aCode KRc GFt (cAt [1, 1, 1, 1, 0, 1, 0, 0, 1] Tryd.b8) (kFamM [] (maskOf (stFl l)) (ftS l) (ftI l) (ftM l) idx (rFt_k0 q))) (kFamM [] (maskOf (stFl l)) (ftS l) (ftI l) (ftM l) idx (rFt_k0 q))) (stFc l i sd nm vs t) := by
  refine cast (rFt_c (ftS l) (ftI l) (ftM l) idx l i sd nm vs t q).symm (bcase_mk (fun h => ?_) (fun _ => hq))
  rw [ht] at h
  have hlt := of_decide_eq_true h
  rw [opsD_len] at hlt
  have hlt : i < l.length := by omega
  have g2 := opsD_getD l i hlt
  simp only [Int.toNat_natCast, g2]
  refine ⟨⟨by omega, by rw [opsD_len]; omega⟩, rfl, Nat.le_refl _, ⟨rfl, rfl, rfl, rfl, rfl, trivial⟩, u8, sd, nm, vs, u8, l[i].k, l[i].a, l[i].b, l[i].c, l[i].x, rfl, rfl, u8_okS, fun r hr => ⟨by trivial, ?_⟩⟩
  have hG2 := good_does u8_nodup hG vs u8 l[i].k l[i].a l[i].b l[i].c l[i].x
  rw [hr] at hG2
  refine ft_k (l := l) (i := i) (vs := r.vs) hG2 ?_ ?_
  · refine kblk_mk (kblk_nor (k_nor ?_))
    refine cast (rFie (ftS l) (ftI l) (ftM l) idx l i (8 : Nat) r.sd r.nm r.vs q).symm ?_
    refine .mk [] (some (i + 1, r.sd, r.nm, r.vs)) ?_ ⟨hlt, hG2⟩ (hm hlt)
    rw [wrap_succ hlt (by unfold LIM; omega)]
    simp [S.le, sealAll, leL, leA, leO, jks, lawP, lawO, S.fits, fitsL, AV.fits, Ob.fits, KK.isSy, mkSS, mkS, mkI, mkB, ftS, stFt]
  · simp [S.le, sealAll, leL, leA, leO, jks, lawP, lawO, S.fits, fitsL, AV.fits, Ob.fits, KK.isSy, mkSS, mkS, mkI, mkB, stFk]
theorem gft_ok : GSound Tryd.prog GFt := gsound_ref (RSound.frameX cLives) (gsound_ref (RSound.frameX cBegin8) (gsound_det cEarly (gsound_ref (RSound.frameX cDoes) (gsound_ref (RSound.frameX cItemsQ) (gsound_ref (RSound.frameX cSideQ) (gsound_ref (RSound.frameX cAud) (gsound_ref (RSound.frameX cWat) (gsound_det cRight (gsound_det cFit (gsound_det cSees (gsound_det cHas gsound_nil)))))))))))
def FFt : List AV → Option (Prop × AV) := fun al => match al with
  | [.d (.sl es)] => some (es = opsD (unOps es), mkB true)
  | _ => none
set_option maxRecDepth 20000 in
theorem cFt : PSound Tryd.prog 8 (detE FFt) := by
  refine det_fn (c := Tryd.b8) mixed KRc_ok gft_ok Tryd.func8 rfl rfl Tryd.call8 fun al p r q hF hp hq => ?_
  unfold FFt at hF; split at hF <;> cases hF
  rename_i es
  generalize unOps es = l0 at hp
  subst hp
  refine cast (rFt l0 q).symm ⟨rfl, rfl, rfl, rfl, rfl, rfl, by rw [unOps_ops], ?_⟩
  rw [unOps_ops]
  have h80 : (l0.take 80).length ≤ 80 := by rw [List.length_take]; omega
  generalize l0.take 80 = l at h80
  refine ALoop.introM [] (maskOf (stFl l)) (ftS l) (ftI l) (ftM l) ⟨[], none, ?_, trivial⟩ ?_
  · simp [S.le, sealAll, leL, leA, leO, jks, lawP, lawO, S.fits, fitsL, AV.fits, Ob.fits, KK.isSy, mkSS, mkS, mkI, mkB, ftS, stFl, sdE, nmE, encM, vsE, v0, u8, sK, nAnn, nBob, nCy, nDee, nEve, nFlo, nGus, nHal]
  · rintro (_ | ⟨i, sd, nm, vs⟩) hI
    · refine cast (rFt_a (ftS l) (ftI l) (ftM l) none l q).symm fun _ => .pk [] [14, 15, 16, 17] (stFc l (0 : Nat) [] [] (v0 u8) (decide (((0 : Nat) : Int) < ((opsD l).length : Int)))) rfl ?_ (ft_c h80 (good_new u8) rfl (fun h => ?_) hq)
      · simp [S.le, sealAll, S.pack, inO, renL, AV.ren, Ob.ren, posOf, leL, leO, jks, lawP, S.fits, fitsL, AV.fits, Ob.fits, KK.isSy, mkSS, mkS, mkI, mkB, stFx, rFj_l0, stFc, lawO, sdE, nmE, encM, vsE, v0, u8, sK, nAnn, nBob, nCy, nDee, nEve, nFlo, nGus, nHal]
      · show l.length - (0 + 1) < l.length + 1
        omega
    · have hil : i ≤ l.length := hI.1
      have hG : Good u8 sd nm := hI.2
      refine cast (rFt_b (ftS l) (ftI l) (ftM l) (some (i, sd, nm, vs)) l i sd nm vs q).symm fun _ => .wk [] (stFc l i sd nm vs (decide ((i : Int) < ((opsD l).length : Int)))) ?_ (ft_c h80 hG rfl (fun h => ?_) hq)
      · simp [S.le, sealAll, leL, leA, leO, jks, lawP, lawO, S.fits, fitsL, AV.fits, Ob.fits, KK.isSy, mkSS, mkS, mkI, mkB, stFc]
      · show l.length - (i + 1) < l.length - i
        omega
theorem hFt : ∀ al, TyArgs Tryd.prog Tryd.f8.params.toList al → ∃ p, FFt al = some (p, mkB true) ∧ p := by
  intro al h
  rw [Tryd.params8] at h
  obtain ⟨a, rfl, ha⟩ := ty_args1v h
  obtain ⟨l, rfl⟩ := arg_ops Tryd.underlying22 Tryd.underlying41 rfl Tryd.underlying3 Tryd.underlying9 ha
  exact ⟨_, rfl, by rw [unOps_ops]⟩
end Go.Proofs.YtldcalmoboeeiaaDoor
