import Derived.Test.YtldcalmoboeeiaaDoorRosVer
import Derived.Test.YtldcalmoboeeiaaDoorFrame4
set_option linter.unusedSimpArgs false
set_option linter.unusedVariables false
namespace Go.Proofs.YtldcalmoboeeiaaDoor
open Go Go.AM Go.RowKit
attribute [local irreducible] aCode aUnr aUnS aOut
theorem cHas : PSound Tryd.prog 18 (detE FHas) := by
  refine det_fn (c := Tryd.b18) mixed Tryd.K_ok gsound_nil Tryd.func18 rfl rfl Tryd.call18 fun al p r q hF hp hq => ?_
  unfold FHas at hF; split at hF <;> cases hF
  rename_i es x
  generalize unSS es = l at hp hq
  subst hp
  refine cast (rHas l x q).symm ?_
  refine ALoop.introM [] (maskOf (stH l x 0)) (fun n : Nat => stH l x n) (fun n => n ≤ l.length ∧ inB x (l.take n) = false) (fun n => l.length - n) ⟨[], 0, ?_, Nat.zero_le _, rfl⟩ fun n ⟨hn, hI⟩ => ?_
  · simp [S.le, sealAll, leL, leA, jks, stH, mkB, mkI, mkS, mkSS]
  · refine cast (rHas_b (fun n : Nat => stH l x n) (fun n => n ≤ l.length ∧ inB x (l.take n) = false) (fun n => l.length - n) n l x n q).symm fun hl => (bcase_dec (fun hlt => ?_) (fun hge => ?_))
    · rw [strsD_length] at hl hlt
      have hlt : n < l.length := by omega
      have hgd := strsD_getD l n hlt
      have ec : strD (.v (.string (l.getD n ⟨#[]⟩))) = l.getD n ⟨#[]⟩ := rfl
      have e1 : inB x (l.take (n + 1)) = (inB x (l.take n) || decide (l.getD n ⟨#[]⟩ = x)) := by
        unfold inB
        rw [List.take_add_one, List.any_append, List.getD_eq_getElem?_getD, List.getElem?_eq_getElem hlt]
        simp
      simp only [Int.toNat_natCast, hgd, List.getD_cons_zero, ec]
      refine ⟨⟨by omega, by rw [strsD_length]; omega⟩, by trivial, Nat.le_refl _, by trivial, bcase_mk (fun h => ?_) (fun h => ?_)⟩
      · have e2 : inB x l = true := by
          unfold inB
          rw [List.any_eq_true]
          refine ⟨l.getD n ⟨#[]⟩, ?_, h⟩
          rw [List.getD_eq_getElem?_getD, List.getElem?_eq_getElem hlt]
          exact List.getElem_mem hlt
        rw [e2] at hq
        exact hq
      · refine .mk [] (n + 1) ?_ ⟨by omega, by rw [e1, hI, h]; rfl⟩ (by omega)
        rw [wrap_succ hlt hl]
        simp [S.le, sealAll, leL, leA, jks, stH, mkB, mkI, mkS, mkSS]
    · rw [strsD_length] at hge
      have e : n = l.length := by omega
      subst e
      rw [List.take_length] at hI
      rw [hI] at hq
      exact hq
theorem gvs_ok : GSound Tryd.prog GVs := gsound_ref (RSound.frameX cLives) (gsound_ref (RSound.frameX cBegin5) (gsound_det cEarly (gsound_ref (RSound.frameX cDoes) (gsound_ref (RSound.frameX cItemsQ) (gsound_det cSame (gsound_det cHas (gsound_det cPick gsound_nil)))))))
theorem wwz (k : Int) (h : 0 ≤ k ∧ k ≤ 1000) : IntKind.wrap .i64 (k + 1) = k + 1 := IntWalk.i64_in _ (by omega)
theorem ver_leaf {l1 a : List It} {n n0 e : Int} {hb : Bool} (h1 : l1 = a → n = n0 ∧ hb = false) (h2 : l1 ≠ a → n = IntKind.wrap .i64 (n0 + 1) ∧ n ≠ n0 ∧ hb = true) (he : e ≠ 0 → l1 = a) {R1 R2 R3 R4 R5 R6 F1 F2 F3 F4 C : Prop} {k1 k2 k3 k4 k5 : Prop} (hC : C) (hk : k1 ∧ k2 ∧ k3 ∧ k4 ∧ k5) (f1 : F1) (f2 : F2) (f3 : F3) (f4 : F4) :
    bcase (!((decide (l1 = a)) == (n == n0))) R1 (bcase (!(decide (l1 = a))) (C ∧ bcase (n != IntKind.wrap .i64 (n0 + 1)) R2 (k1 ∧ k2 ∧ k3 ∧ k4 ∧ k5 ∧ True ∧ bcase (hb == decide (l1 = a)) R3 (bcase (e != 0) (bcase (!(decide (l1 = a))) R4 F1) F2)))
      (k1 ∧ k2 ∧ k3 ∧ k4 ∧ k5 ∧ True ∧ bcase (hb == decide (l1 = a)) R5 (bcase (e != 0) (bcase (!(decide (l1 = a))) R6 F3) F4))) := by
  obtain ⟨q1, q2, q3, q4, q5⟩ := hk
  by_cases h : l1 = a
  · obtain ⟨e1, e2⟩ := h1 h
    subst e2
    rw [decide_eq_true h, e1, beq_self_eq_true]
    exact ⟨q1, q2, q3, q4, q5, trivial, (show bcase (e != 0) F3 F4 from bcase_mk (fun _ => f3) (fun _ => f4))⟩
  · obtain ⟨e1, e2, e3⟩ := h2 h
    subst e3
    have e0 : e = 0 := Classical.byContradiction fun hh => h (he hh)
    subst e0
    have e4 : (n == n0) = false := by simpa using e2
    have e5 : (n != IntKind.wrap .i64 (n0 + 1)) = false := by simpa using e1
    rw [decide_eq_false h, e4, e5]
    exact ⟨hC, q1, q2, q3, q4, q5, trivial, f2⟩
def FVs : List AV → Option (Prop × AV) := fun al => match al with
  | [.d (.sl es)] => some (es = opsD (unOps es), mkB true)
  | _ => none
def wL (A : Nat → List It) (k : Nat) : List AV := [if 0 < k then .d (.sl (itsD (A 0))) else .nl, if 1 < k then .d (.sl (itsD (A 1))) else .nl, if 2 < k then .d (.sl (itsD (A 2))) else .nl, if 3 < k then .d (.sl (itsD (A 3))) else .nl, if 4 < k then .d (.sl (itsD (A 4))) else .nl]
def vL (B : Nat → Int) (k : Nat) : List AV := [mkI .i64 (if 0 < k then B 0 else 0), mkI .i64 (if 1 < k then B 1 else 0), mkI .i64 (if 2 < k then B 2 else 0), mkI .i64 (if 3 < k then B 3 else 0), mkI .i64 (if 4 < k then B 4 else 0)]
def itA (sd : Sds) (nm : Nms) (j : Nat) : List It := itemsM u5 sd nm (u5.getD j ⟨#[]⟩)
def vrA (vs : Vss) (j : Nat) : Int := verOf vs (u5.getD j ⟨#[]⟩)
set_option maxRecDepth 20000 in
/-- The first inner loop: what all have. -/
theorem vs_one {l : List Op} {i : Nat} {sd : Sds} {nm : Nms} {vs : Vss} {K0 : Kont} (h : K0 (.exit 2) (stV1e l i sd nm vs (wA (itA sd nm 0) (itA sd nm 1) (itA sd nm 2) (itA sd nm 3) (itA sd nm 4)) (vA (vrA vs 0) (vrA vs 1) (vrA vs 2) (vrA vs 3) (vrA vs 4)))) {s : S} (hs : s.le (stV1 l i sd nm vs (wL (itA sd nm) 0) (vL (vrA vs) 0) (0 : Nat))) :
    ALoop (aCode Tryd.K GVs (cAt [1, 1, 1, 1, 0, 1, 0, 0, 1, 0, 0, 1, 1, 0, 1, 0, 0] Tryd.b3)) K0 s := by
  refine ALoop.introM [] (maskOf (stV1 l i sd nm vs (wL (itA sd nm) 0) (vL (vrA vs) 0) (0 : Nat))) (fun k : Nat => stV1 l i sd nm vs (wL (itA sd nm) k) (vL (vrA vs) k) k) (fun k => k ≤ 5) (fun k => 5 - k) ⟨[], 0, hs, Nat.zero_le _⟩ fun k hk => ?_
  have c5 : k = 0 ∨ k = 1 ∨ k = 2 ∨ k = 3 ∨ k = 4 ∨ k = 5 := by omega
  rcases c5 with rfl | rfl | rfl | rfl | rfl | rfl
  · refine cast (rV1_0 (fun k : Nat => stV1 l i sd nm vs (wL (itA sd nm) k) (vL (vrA vs) k) k) (fun k => k ≤ 5) (fun k => 5 - k) 0 K0 l i sd nm vs  0 0 0 0 0).symm ⟨by decide, rfl, Nat.le_refl _, rfl, u5, sd, nm, vs, nAnn, rfl, rfl, by kernel_rfl, fun l1 n1 hl1 hn1 => ⟨rfl, by decide, by decide, .mk [] 1 ?_ (by omega) (by omega)⟩⟩
    have e1 : itA sd nm 0 = l1 := hl1
    have e2 : vrA vs 0 = n1 := hn1
    rw [wwz 0 (by omega)]
    simp [S.le, sealAll, leL, leA, leO, jks, lawO, S.fits, fitsL, AV.fits, Ob.fits, KK.isSy, mkSS, mkS, mkI, mkB, stV1, wL, vL, e1, e2]
  · refine cast (rV1_1 (fun k : Nat => stV1 l i sd nm vs (wL (itA sd nm) k) (vL (vrA vs) k) k) (fun k => k ≤ 5) (fun k => 5 - k) 1 K0 l i sd nm vs (itA sd nm 0) (vrA vs 0) 0 0 0 0).symm ⟨by decide, rfl, Nat.le_refl _, rfl, u5, sd, nm, vs, nBob, rfl, rfl, by kernel_rfl, fun l1 n1 hl1 hn1 => ⟨rfl, by decide, by decide, .mk [] 2 ?_ (by omega) (by omega)⟩⟩
    have e1 : itA sd nm 1 = l1 := hl1
    have e2 : vrA vs 1 = n1 := hn1
    rw [wwz 1 (by omega)]
    simp [S.le, sealAll, leL, leA, leO, jks, lawO, S.fits, fitsL, AV.fits, Ob.fits, KK.isSy, mkSS, mkS, mkI, mkB, stV1, wL, vL, e1, e2]
  · refine cast (rV1_2 (fun k : Nat => stV1 l i sd nm vs (wL (itA sd nm) k) (vL (vrA vs) k) k) (fun k => k ≤ 5) (fun k => 5 - k) 2 K0 l i sd nm vs (itA sd nm 0) (itA sd nm 1) (vrA vs 0) (vrA vs 1) 0 0 0).symm ⟨by decide, rfl, Nat.le_refl _, rfl, u5, sd, nm, vs, nCy, rfl, rfl, by kernel_rfl, fun l1 n1 hl1 hn1 => ⟨rfl, by decide, by decide, .mk [] 3 ?_ (by omega) (by omega)⟩⟩
    have e1 : itA sd nm 2 = l1 := hl1
    have e2 : vrA vs 2 = n1 := hn1
    rw [wwz 2 (by omega)]
    simp [S.le, sealAll, leL, leA, leO, jks, lawO, S.fits, fitsL, AV.fits, Ob.fits, KK.isSy, mkSS, mkS, mkI, mkB, stV1, wL, vL, e1, e2]
  · refine cast (rV1_3 (fun k : Nat => stV1 l i sd nm vs (wL (itA sd nm) k) (vL (vrA vs) k) k) (fun k => k ≤ 5) (fun k => 5 - k) 3 K0 l i sd nm vs (itA sd nm 0) (itA sd nm 1) (itA sd nm 2) (vrA vs 0) (vrA vs 1) (vrA vs 2) 0 0).symm ⟨by decide, rfl, Nat.le_refl _, rfl, u5, sd, nm, vs, nDee, rfl, rfl, by kernel_rfl, fun l1 n1 hl1 hn1 => ⟨rfl, by decide, by decide, .mk [] 4 ?_ (by omega) (by omega)⟩⟩
    have e1 : itA sd nm 3 = l1 := hl1
    have e2 : vrA vs 3 = n1 := hn1
    rw [wwz 3 (by omega)]
    simp [S.le, sealAll, leL, leA, leO, jks, lawO, S.fits, fitsL, AV.fits, Ob.fits, KK.isSy, mkSS, mkS, mkI, mkB, stV1, wL, vL, e1, e2]
  · refine cast (rV1_4 (fun k : Nat => stV1 l i sd nm vs (wL (itA sd nm) k) (vL (vrA vs) k) k) (fun k => k ≤ 5) (fun k => 5 - k) 4 K0 l i sd nm vs (itA sd nm 0) (itA sd nm 1) (itA sd nm 2) (itA sd nm 3) (vrA vs 0) (vrA vs 1) (vrA vs 2) (vrA vs 3) 0).symm ⟨by decide, rfl, Nat.le_refl _, rfl, u5, sd, nm, vs, nEve, rfl, rfl, by kernel_rfl, fun l1 n1 hl1 hn1 => ⟨rfl, by decide, by decide, .mk [] 5 ?_ (by omega) (by omega)⟩⟩
    have e1 : itA sd nm 4 = l1 := hl1
    have e2 : vrA vs 4 = n1 := hn1
    rw [wwz 4 (by omega)]
    simp [S.le, sealAll, leL, leA, leO, jks, lawO, S.fits, fitsL, AV.fits, Ob.fits, KK.isSy, mkSS, mkS, mkI, mkB, stV1, wL, vL, e1, e2]
  · exact cast (rV1_5 (fun k : Nat => stV1 l i sd nm vs (wL (itA sd nm) k) (vL (vrA vs) k) k) (fun k => k ≤ 5) (fun k => 5 - k) 5 K0 l i sd nm vs (itA sd nm 0) (itA sd nm 1) (itA sd nm 2) (itA sd nm 3) (itA sd nm 4) (vrA vs 0) (vrA vs 1) (vrA vs 2) (vrA vs 3) (vrA vs 4)).symm h
set_option maxRecDepth 20000 in
/-- The second inner loop: what has become of all. -/
theorem vs_two {l : List Op} {i : Nat} {sd : Sds} {nm : Nms} {vs : Vss} {r : Out} {x y : BA} (hS : StepOk u5 sd nm vs x y r) (hv : verIn vs i) (hi : i ≤ 2147483648) {K1 : Kont} (h : K1 (.exit 4) (stV3e l i r.sd r.nm r.vs (wA (itA sd nm 0) (itA sd nm 1) (itA sd nm 2) (itA sd nm 3) (itA sd nm 4)) (vA (vrA vs 0) (vrA vs 1) (vrA vs 2) (vrA vs 3) (vrA vs 4)) r.e r.p r.t)) {s : S}
    (hs : s.le (stV2 l i r.sd r.nm r.vs (wA (itA sd nm 0) (itA sd nm 1) (itA sd nm 2) (itA sd nm 3) (itA sd nm 4)) (vA (vrA vs 0) (vrA vs 1) (vrA vs 2) (vrA vs 3) (vrA vs 4)) r.e r.p r.t (0 : Nat))) :
    ALoop (aCode Tryd.K GVs (cAt [1, 1, 1, 1, 0, 1, 0, 0, 1, 0, 0, 1, 1, 1, 1, 1, 0, 1, 0, 0] Tryd.b3)) K1 s := by
  have f1 : ∀ w l1 n1, itemsM u5 r.sd r.nm w = l1 → verOf r.vs w = n1 → l1 = itemsM u5 sd nm w → n1 = verOf vs w ∧ inB w r.p = false := fun w l1 n1 h1 h2 h3 => by
    subst h1 h2; exact hS.same w h3
  have f2 : ∀ w l1 n1, itemsM u5 r.sd r.nm w = l1 → verOf r.vs w = n1 → l1 ≠ itemsM u5 sd nm w → n1 = IntKind.wrap .i64 (verOf vs w + 1) ∧ n1 ≠ verOf vs w ∧ inB w r.p = true := fun w l1 n1 h1 h2 h3 => by
    subst h1 h2
    obtain ⟨g1, g2⟩ := hS.turned w h3
    refine ⟨g1, ?_, g2⟩
    have := hv w
    rw [g1, IntWalk.i64_in _ (by omega)]
    omega
  have f3 : ∀ w l1, itemsM u5 r.sd r.nm w = l1 → r.e ≠ 0 → l1 = itemsM u5 sd nm w := fun w l1 h1 he => by
    subst h1; exact (hS.err he).2.2 w
  refine ALoop.introM [] (maskOf (stV2 l i r.sd r.nm r.vs (wA (itA sd nm 0) (itA sd nm 1) (itA sd nm 2) (itA sd nm 3) (itA sd nm 4)) (vA (vrA vs 0) (vrA vs 1) (vrA vs 2) (vrA vs 3) (vrA vs 4)) r.e r.p r.t (0 : Nat))) (fun k : Nat => stV2 l i r.sd r.nm r.vs (wA (itA sd nm 0) (itA sd nm 1) (itA sd nm 2) (itA sd nm 3) (itA sd nm 4)) (vA (vrA vs 0) (vrA vs 1) (vrA vs 2) (vrA vs 3) (vrA vs 4)) r.e r.p r.t k) (fun k => k ≤ 5) (fun k => 5 - k) ⟨[], 0, hs, Nat.zero_le _⟩ fun k hk => ?_
  have c5 : k = 0 ∨ k = 1 ∨ k = 2 ∨ k = 3 ∨ k = 4 ∨ k = 5 := by omega
  rcases c5 with rfl | rfl | rfl | rfl | rfl | rfl
  · refine cast (rV3_0 (fun k : Nat => stV2 l i r.sd r.nm r.vs (wA (itA sd nm 0) (itA sd nm 1) (itA sd nm 2) (itA sd nm 3) (itA sd nm 4)) (vA (vrA vs 0) (vrA vs 1) (vrA vs 2) (vrA vs 3) (vrA vs 4)) r.e r.p r.t k) (fun k => k ≤ 5) (fun k => 5 - k) 0 K1 l i r.sd r.nm r.vs (itA sd nm 0) (itA sd nm 1) (itA sd nm 2) (itA sd nm 3) (itA sd nm 4) (vrA vs 0) (vrA vs 1) (vrA vs 2) (vrA vs 3) (vrA vs 4) r.e r.p r.t).symm ⟨by decide, rfl, Nat.le_refl _, rfl, u5, r.sd, r.nm, r.vs, nAnn, rfl, rfl, by kernel_rfl, fun l1 n1 hl1 hn1 => ⟨rfl, by decide, ⟨by rw [unIts_its], by rw [unIts_its]⟩, by decide, ?_⟩⟩
    simp only [unIts_its, unSS_strsD]
    have nx : FamNext (fun k : Nat => stV2 l i r.sd r.nm r.vs (wA (itA sd nm 0) (itA sd nm 1) (itA sd nm 2) (itA sd nm 3) (itA sd nm 4)) (vA (vrA vs 0) (vrA vs 1) (vrA vs 2) (vrA vs 3) (vrA vs 4)) r.e r.p r.t k) (fun k => k ≤ 5) (fun k => 5 - k) 0 ⟨[.d (.sl (opsD l)), .jk, mkB false, .rf 17 0, mkSS u5, mkI .i64 i, .rf 18 0, .rf 19 0, .jk, .jk, .jk, .jk, .rf 22 0, mkI .i64 r.e, mkI .i64 (IntKind.wrap .i64 (0 + 1))] ++ jks 163, lawO u5 r.sd r.nm r.vs ++ [.box (wA (itA sd nm 0) (itA sd nm 1) (itA sd nm 2) (itA sd nm 3) (itA sd nm 4)), .box (vA (vrA vs 0) (vrA vs 1) (vrA vs 2) (vrA vs 3) (vrA vs 4)), .gone, .gone, .box [.d (.sl (strsD r.p)), .d (.sl (tdD r.t))], .gone, .gone]⟩ := by
      refine .mk [] 1 ?_ (by omega) (by omega)
      rw [wwz 0 (by omega)]
      simp [S.le, sealAll, leL, leA, leO, jks, lawO, S.fits, fitsL, AV.fits, Ob.fits, KK.isSy, mkSS, mkS, mkI, mkB, stV2, wA, vA]
    exact ver_leaf (f1 _ _ _ hl1 hn1) (f2 _ _ _ hl1 hn1) (f3 _ _ hl1) (by decide) ⟨by decide, by trivial, by trivial, by trivial, by trivial⟩ nx nx nx nx
  · refine cast (rV3_1 (fun k : Nat => stV2 l i r.sd r.nm r.vs (wA (itA sd nm 0) (itA sd nm 1) (itA sd nm 2) (itA sd nm 3) (itA sd nm 4)) (vA (vrA vs 0) (vrA vs 1) (vrA vs 2) (vrA vs 3) (vrA vs 4)) r.e r.p r.t k) (fun k => k ≤ 5) (fun k => 5 - k) 1 K1 l i r.sd r.nm r.vs (itA sd nm 0) (itA sd nm 1) (itA sd nm 2) (itA sd nm 3) (itA sd nm 4) (vrA vs 0) (vrA vs 1) (vrA vs 2) (vrA vs 3) (vrA vs 4) r.e r.p r.t).symm ⟨by decide, rfl, Nat.le_refl _, rfl, u5, r.sd, r.nm, r.vs, nBob, rfl, rfl, by kernel_rfl, fun l1 n1 hl1 hn1 => ⟨rfl, by decide, ⟨by rw [unIts_its], by rw [unIts_its]⟩, by decide, ?_⟩⟩
    simp only [unIts_its, unSS_strsD]
    have nx : FamNext (fun k : Nat => stV2 l i r.sd r.nm r.vs (wA (itA sd nm 0) (itA sd nm 1) (itA sd nm 2) (itA sd nm 3) (itA sd nm 4)) (vA (vrA vs 0) (vrA vs 1) (vrA vs 2) (vrA vs 3) (vrA vs 4)) r.e r.p r.t k) (fun k => k ≤ 5) (fun k => 5 - k) 1 ⟨[.d (.sl (opsD l)), .jk, mkB false, .rf 17 0, mkSS u5, mkI .i64 i, .rf 18 0, .rf 19 0, .jk, .jk, .jk, .jk, .rf 22 0, mkI .i64 r.e, mkI .i64 (IntKind.wrap .i64 (1 + 1))] ++ jks 163, lawO u5 r.sd r.nm r.vs ++ [.box (wA (itA sd nm 0) (itA sd nm 1) (itA sd nm 2) (itA sd nm 3) (itA sd nm 4)), .box (vA (vrA vs 0) (vrA vs 1) (vrA vs 2) (vrA vs 3) (vrA vs 4)), .gone, .gone, .box [.d (.sl (strsD r.p)), .d (.sl (tdD r.t))], .gone, .gone]⟩ := by
      refine .mk [] 2 ?_ (by omega) (by omega)
      rw [wwz 1 (by omega)]
      simp [S.le, sealAll, leL, leA, leO, jks, lawO, S.fits, fitsL, AV.fits, Ob.fits, KK.isSy, mkSS, mkS, mkI, mkB, stV2, wA, vA]
    exact ver_leaf (f1 _ _ _ hl1 hn1) (f2 _ _ _ hl1 hn1) (f3 _ _ hl1) (by decide) ⟨by decide, by trivial, by trivial, by trivial, by trivial⟩ nx nx nx nx
  · refine cast (rV3_2 (fun k : Nat => stV2 l i r.sd r.nm r.vs (wA (itA sd nm 0) (itA sd nm 1) (itA sd nm 2) (itA sd nm 3) (itA sd nm 4)) (vA (vrA vs 0) (vrA vs 1) (vrA vs 2) (vrA vs 3) (vrA vs 4)) r.e r.p r.t k) (fun k => k ≤ 5) (fun k => 5 - k) 2 K1 l i r.sd r.nm r.vs (itA sd nm 0) (itA sd nm 1) (itA sd nm 2) (itA sd nm 3) (itA sd nm 4) (vrA vs 0) (vrA vs 1) (vrA vs 2) (vrA vs 3) (vrA vs 4) r.e r.p r.t).symm ⟨by decide, rfl, Nat.le_refl _, rfl, u5, r.sd, r.nm, r.vs, nCy, rfl, rfl, by kernel_rfl, fun l1 n1 hl1 hn1 => ⟨rfl, by decide, ⟨by rw [unIts_its], by rw [unIts_its]⟩, by decide, ?_⟩⟩
    simp only [unIts_its, unSS_strsD]
    have nx : FamNext (fun k : Nat => stV2 l i r.sd r.nm r.vs (wA (itA sd nm 0) (itA sd nm 1) (itA sd nm 2) (itA sd nm 3) (itA sd nm 4)) (vA (vrA vs 0) (vrA vs 1) (vrA vs 2) (vrA vs 3) (vrA vs 4)) r.e r.p r.t k) (fun k => k ≤ 5) (fun k => 5 - k) 2 ⟨[.d (.sl (opsD l)), .jk, mkB false, .rf 17 0, mkSS u5, mkI .i64 i, .rf 18 0, .rf 19 0, .jk, .jk, .jk, .jk, .rf 22 0, mkI .i64 r.e, mkI .i64 (IntKind.wrap .i64 (2 + 1))] ++ jks 163, lawO u5 r.sd r.nm r.vs ++ [.box (wA (itA sd nm 0) (itA sd nm 1) (itA sd nm 2) (itA sd nm 3) (itA sd nm 4)), .box (vA (vrA vs 0) (vrA vs 1) (vrA vs 2) (vrA vs 3) (vrA vs 4)), .gone, .gone, .box [.d (.sl (strsD r.p)), .d (.sl (tdD r.t))], .gone, .gone]⟩ := by
      refine .mk [] 3 ?_ (by omega) (by omega)
      rw [wwz 2 (by omega)]
      simp [S.le, sealAll, leL, leA, leO, jks, lawO, S.fits, fitsL, AV.fits, Ob.fits, KK.isSy, mkSS, mkS, mkI, mkB, stV2, wA, vA]
    exact ver_leaf (f1 _ _ _ hl1 hn1) (f2 _ _ _ hl1 hn1) (f3 _ _ hl1) (by decide) ⟨by decide, by trivial, by trivial, by trivial, by trivial⟩ nx nx nx nx
  · refine cast (rV3_3 (fun k : Nat => stV2 l i r.sd r.nm r.vs (wA (itA sd nm 0) (itA sd nm 1) (itA sd nm 2) (itA sd nm 3) (itA sd nm 4)) (vA (vrA vs 0) (vrA vs 1) (vrA vs 2) (vrA vs 3) (vrA vs 4)) r.e r.p r.t k) (fun k => k ≤ 5) (fun k => 5 - k) 3 K1 l i r.sd r.nm r.vs (itA sd nm 0) (itA sd nm 1) (itA sd nm 2) (itA sd nm 3) (itA sd nm 4) (vrA vs 0) (vrA vs 1) (vrA vs 2) (vrA vs 3) (vrA vs 4) r.e r.p r.t).symm ⟨by decide, rfl, Nat.le_refl _, rfl, u5, r.sd, r.nm, r.vs, nDee, rfl, rfl, by kernel_rfl, fun l1 n1 hl1 hn1 => ⟨rfl, by decide, ⟨by rw [unIts_its], by rw [unIts_its]⟩, by decide, ?_⟩⟩
    simp only [unIts_its, unSS_strsD]
    have nx : FamNext (fun k : Nat => stV2 l i r.sd r.nm r.vs (wA (itA sd nm 0) (itA sd nm 1) (itA sd nm 2) (itA sd nm 3) (itA sd nm 4)) (vA (vrA vs 0) (vrA vs 1) (vrA vs 2) (vrA vs 3) (vrA vs 4)) r.e r.p r.t k) (fun k => k ≤ 5) (fun k => 5 - k) 3 ⟨[.d (.sl (opsD l)), .jk, mkB false, .rf 17 0, mkSS u5, mkI .i64 i, .rf 18 0, .rf 19 0, .jk, .jk, .jk, .jk, .rf 22 0, mkI .i64 r.e, mkI .i64 (IntKind.wrap .i64 (3 + 1))] ++ jks 163, lawO u5 r.sd r.nm r.vs ++ [.box (wA (itA sd nm 0) (itA sd nm 1) (itA sd nm 2) (itA sd nm 3) (itA sd nm 4)), .box (vA (vrA vs 0) (vrA vs 1) (vrA vs 2) (vrA vs 3) (vrA vs 4)), .gone, .gone, .box [.d (.sl (strsD r.p)), .d (.sl (tdD r.t))], .gone, .gone]⟩ := by
      refine .mk [] 4 ?_ (by omega) (by omega)
      rw [wwz 3 (by omega)]
      simp [S.le, sealAll, leL, leA, leO, jks, lawO, S.fits, fitsL, AV.fits, Ob.fits, KK.isSy, mkSS, mkS, mkI, mkB, stV2, wA, vA]
    exact ver_leaf (f1 _ _ _ hl1 hn1) (f2 _ _ _ hl1 hn1) (f3 _ _ hl1) (by decide) ⟨by decide, by trivial, by trivial, by trivial, by trivial⟩ nx nx nx nx
  · refine cast (rV3_4 (fun k : Nat => stV2 l i r.sd r.nm r.vs (wA (itA sd nm 0) (itA sd nm 1) (itA sd nm 2) (itA sd nm 3) (itA sd nm 4)) (vA (vrA vs 0) (vrA vs 1) (vrA vs 2) (vrA vs 3) (vrA vs 4)) r.e r.p r.t k) (fun k => k ≤ 5) (fun k => 5 - k) 4 K1 l i r.sd r.nm r.vs (itA sd nm 0) (itA sd nm 1) (itA sd nm 2) (itA sd nm 3) (itA sd nm 4) (vrA vs 0) (vrA vs 1) (vrA vs 2) (vrA vs 3) (vrA vs 4) r.e r.p r.t).symm ⟨by decide, rfl, Nat.le_refl _, rfl, u5, r.sd, r.nm, r.vs, nEve, rfl, rfl, by kernel_rfl, fun l1 n1 hl1 hn1 => ⟨rfl, by decide, ⟨by rw [unIts_its], by rw [unIts_its]⟩, by decide, ?_⟩⟩
    simp only [unIts_its, unSS_strsD]
    have nx : FamNext (fun k : Nat => stV2 l i r.sd r.nm r.vs (wA (itA sd nm 0) (itA sd nm 1) (itA sd nm 2) (itA sd nm 3) (itA sd nm 4)) (vA (vrA vs 0) (vrA vs 1) (vrA vs 2) (vrA vs 3) (vrA vs 4)) r.e r.p r.t k) (fun k => k ≤ 5) (fun k => 5 - k) 4 ⟨[.d (.sl (opsD l)), .jk, mkB false, .rf 17 0, mkSS u5, mkI .i64 i, .rf 18 0, .rf 19 0, .jk, .jk, .jk, .jk, .rf 22 0, mkI .i64 r.e, mkI .i64 (IntKind.wrap .i64 (4 + 1))] ++ jks 163, lawO u5 r.sd r.nm r.vs ++ [.box (wA (itA sd nm 0) (itA sd nm 1) (itA sd nm 2) (itA sd nm 3) (itA sd nm 4)), .box (vA (vrA vs 0) (vrA vs 1) (vrA vs 2) (vrA vs 3) (vrA vs 4)), .gone, .gone, .box [.d (.sl (strsD r.p)), .d (.sl (tdD r.t))], .gone, .gone]⟩ := by
      refine .mk [] 5 ?_ (by omega) (by omega)
      rw [wwz 4 (by omega)]
      simp [S.le, sealAll, leL, leA, leO, jks, lawO, S.fits, fitsL, AV.fits, Ob.fits, KK.isSy, mkSS, mkS, mkI, mkB, stV2, wA, vA]
    exact ver_leaf (f1 _ _ _ hl1 hn1) (f2 _ _ _ hl1 hn1) (f3 _ _ hl1) (by decide) ⟨by decide, by trivial, by trivial, by trivial, by trivial⟩ nx nx nx nx
  · exact cast (rV3_5 (fun k : Nat => stV2 l i r.sd r.nm r.vs (wA (itA sd nm 0) (itA sd nm 1) (itA sd nm 2) (itA sd nm 3) (itA sd nm 4)) (vA (vrA vs 0) (vrA vs 1) (vrA vs 2) (vrA vs 3) (vrA vs 4)) r.e r.p r.t k) (fun k => k ≤ 5) (fun k => 5 - k) 5 K1 l i r.sd r.nm r.vs (itA sd nm 0) (itA sd nm 1) (itA sd nm 2) (itA sd nm 3) (itA sd nm 4) (vrA vs 0) (vrA vs 1) (vrA vs 2) (vrA vs 3) (vrA vs 4) r.e r.p r.t).symm h
theorem tdD_getD (t : List Td) (n : Nat) (h : n < t.length) : (tdD t).getD n [] = [.v (.string t[n].1), .v (.string t[n].2.1), .v (.int .i64 t[n].2.2)] := by
  simp [tdD, List.getD_eq_getElem?_getD, h]
theorem tdD_len (t : List Td) : (tdD t).length = t.length := by simp [tdD]
theorem not_dec {p : Prop} [Decidable p] (hp : p) {G : Prop} (h : (!(decide p)) = true) : G := by rw [decide_eq_true hp] at h; cases h
set_option maxRecDepth 20000 in
/-- The third inner loop: what is told, and to whom. -/
theorem vs_three {l : List Op} {i : Nat} (hlt : i < l.length) {sd : Sds} {nm : Nms} {vs : Vss} {p : List BA} {t : List Td} (hT : toldOk (pickM u5 l[i].a) (pickM u5 l[i].b) t) {K1 : Kont} (h : K1 (.exit 6) (stV5 l i sd nm vs p t t.length)) {s : S} (hs : s.le (stV4 l i sd nm vs p t (0 : Nat))) :
    ALoop (aCode Tryd.K GVs (cAt [1, 1, 1, 1, 0, 1, 0, 0, 1, 0, 0, 1, 1, 1, 1, 1, 1, 1, 0, 0] Tryd.b3)) K1 s := by
  refine ALoop.introM [] (maskOf (stV4 l i sd nm vs p t (0 : Nat))) (fun j : Nat => stV4 l i sd nm vs p t j) (fun j => j ≤ t.length) (fun j => t.length - j) ⟨[], 0, hs, Nat.zero_le _⟩ fun j hj => ?_
  refine cast (rV4_b (fun j : Nat => stV4 l i sd nm vs p t j) (fun j => j ≤ t.length) (fun j => t.length - j) j K1 l i sd nm vs p t j).symm fun hl => (bcase_dec (fun h1 => ?_) (fun h1 => ?_))
  · rw [tdD_len] at hl h1
    have h1 : j < t.length := by omega
    have g1 := tdD_getD t j h1
    have g2 := opsD_getD l i hlt
    have hm := hT.2 t[j] (List.getElem_mem h1)
    simp only [Int.toNat_natCast, g1, g2, unSS_strsD]
    refine ⟨⟨by omega, by rw [tdD_len]; omega⟩, rfl, (show 1 ≤ 2 by decide), rfl, ⟨by omega, by rw [opsD_len]; omega⟩, rfl, (show 1 ≤ 4 by decide), rfl, ⟨by trivial, by decide⟩, pick_size u5_ok.2 _, bcase_mk (fun h => not_dec hm.2 h) (fun _ => ⟨⟨by omega, by rw [tdD_len]; omega⟩, rfl, (show 1 ≤ 3 by decide), rfl, ⟨by omega, by rw [opsD_len]; omega⟩, rfl, (show 1 ≤ 3 by decide), rfl, ⟨by trivial, by decide⟩, pick_size u5_ok.2 _, bcase_mk (fun h => not_dec hm.1 h) (fun _ => .mk [] (j + 1) ?_ (by omega) (by omega))⟩)⟩
    rw [wrap_succ h1 hl]
    simp [S.le, sealAll, leL, leA, leO, jks, lawO, S.fits, fitsL, AV.fits, Ob.fits, KK.isSy, mkSS, mkS, mkI, mkB, stV4]
  · rw [tdD_len] at h1
    have e : j = t.length := by omega
    subst e
    exact h
theorem kblk_mk {id : Nat} {q : Kont} {s : S} (h : q .nor s) : kBlk id q (.exit id) s := by
  unfold kBlk
  simpa using h
theorem kblk_nor {id : Nat} {q : Kont} {s : S} (h : q .nor s) : kBlk id q .nor s := h
/-- What follows a step's parts. -/
noncomputable abbrev KF (l : List Op) (i : Nat) (sd : Sds) (nm : Nms) (vs : Vss) (q : AV → Prop) : Kont := kFamM [] (maskOf (stVs l i sd nm vs)) (fun s : Nat × Sds × Nms × Vss => stVs l s.1 s.2.1 s.2.2.1 s.2.2.2) (fun s => s.1 ≤ l.length ∧ Good u5 s.2.1 s.2.2.1 ∧ verIn s.2.2.2 s.1) (fun s => l.length - s.1) (i, sd, nm, vs) (rVs_k0 q)
noncomputable abbrev KX (l : List Op) (i : Nat) (sd : Sds) (nm : Nms) (vs : Vss) (q : AV → Prop) : Kont := kBlk 1 (kSeq (aCode Tryd.K GVs (cAt [1, 1, 1, 1, 0, 1, 0, 0, 1, 1] Tryd.b3) (KF l i sd nm vs q)) (KF l i sd nm vs q))
set_option maxRecDepth 20000 in
theorem vs_le1 (l : List Op) (i : Nat) (sd : Sds) (nm : Nms) (vs : Vss) : S.le ⟨[.d (.sl (opsD l)), .jk, mkB false, .rf 17 0, mkSS u5, mkI .i64 i, .rf 18 0, .rf 19 0, mkI .i64 0] ++ jks 19 ++ [mkI .i64 i, .d (.sl (opsD l)), mkI .i64 (opsD l).length, mkB true] ++ jks 146, lawO u5 sd nm vs ++ [.box [.nl, .nl, .nl, .nl, .nl], .box [mkI .i64 0, mkI .i64 0, mkI .i64 0, mkI .i64 0, mkI .i64 0]]⟩ (stV1 l i sd nm vs (wL (itA sd nm) 0) (vL (vrA vs) 0) (0 : Nat)) := by
  simp [S.le, sealAll, leL, leA, leO, jks, lawO, S.fits, fitsL, AV.fits, Ob.fits, KK.isSy, mkSS, mkS, mkI, mkB, stV1, wL, vL]
set_option maxRecDepth 20000 in
/-- Behind the step: both loops, and the next step. -/
theorem vs_rest {l : List Op} {i : Nat} (hlt : i < l.length) (h80 : l.length ≤ 80) {sd : Sds} {nm : Nms} {vs : Vss} (hG : Good u5 sd nm) (hv : verIn vs i) {q : AV → Prop} {r : Out} (hr : doesO u5 sd nm vs u5 l[i].k l[i].a l[i].b l[i].c l[i].x = r) {s : S}
    (hs : s.le (stV2 l i r.sd r.nm r.vs (wA (itA sd nm 0) (itA sd nm 1) (itA sd nm 2) (itA sd nm 3) (itA sd nm 4)) (vA (vrA vs 0) (vrA vs 1) (vrA vs 2) (vrA vs 3) (vrA vs 4)) r.e r.p r.t (0 : Nat))) :
    ALoop (aCode Tryd.K GVs (cAt [1, 1, 1, 1, 0, 1, 0, 0, 1, 0, 0, 1, 1, 1, 1, 1, 0, 1, 0, 0] Tryd.b3)) (rV2_k0 (KX l i sd nm vs q)) s := by
  have hS := step_ok hG vs u5 l[i].k l[i].a l[i].b l[i].c l[i].x
  have hG2 := good_does u5_nodup hG vs u5 l[i].k l[i].a l[i].b l[i].c l[i].x
  rw [hr] at hS hG2
  refine vs_two hS hv (by omega) ?_ hs
  refine kblk_mk (k_nor ?_)
  refine cast (rV4 (KX l i sd nm vs q) l i r.sd r.nm r.vs (itA sd nm 0) (itA sd nm 1) (itA sd nm 2) (itA sd nm 3) (itA sd nm 4) (vrA vs 0) (vrA vs 1) (vrA vs 2) (vrA vs 3) (vrA vs 4) r.e r.p r.t).symm ?_
  refine vs_three (sd := r.sd) (nm := r.nm) (vs := r.vs) (p := r.p) (K1 := rV4_k0 (KX l i sd nm vs q)) hlt hS.told ?_ ?_
  · refine kblk_mk (kblk_nor (k_nor ?_))
    refine cast (rV5 (fun s : Nat × Sds × Nms × Vss => stVs l s.1 s.2.1 s.2.2.1 s.2.2.2) (fun s => s.1 ≤ l.length ∧ Good u5 s.2.1 s.2.2.1 ∧ verIn s.2.2.2 s.1) (fun s => l.length - s.1) (i, sd, nm, vs) l i sd nm vs r.sd r.nm r.vs r.p r.t r.t.length q).symm ?_
    refine .mk [] (i + 1, r.sd, r.nm, r.vs) ?_ ⟨(by show i + 1 ≤ l.length; omega), hG2, ver_next hS (by omega) hv⟩ (by show l.length - (i + 1) < l.length - i; omega)
    rw [wrap_succ hlt (by unfold LIM; omega)]
    simp [S.le, sealAll, leL, leA, leO, jks, lawO, S.fits, fitsL, AV.fits, Ob.fits, KK.isSy, mkSS, mkS, mkI, mkB, stVs]
  · simp [S.le, sealAll, leL, leA, leO, jks, lawO, S.fits, fitsL, AV.fits, Ob.fits, KK.isSy, mkSS, mkS, mkI, mkB, stV4]
set_option maxRecDepth 20000 in
theorem vs_body {l : List Op} {i : Nat} (hlt : i < l.length) (h80 : l.length ≤ 80) {sd : Sds} {nm : Nms} {vs : Vss} (hG : Good u5 sd nm) (hv : verIn vs i) {q : AV → Prop} :
    rVs_b_k0 (fun s : Nat × Sds × Nms × Vss => stVs l s.1 s.2.1 s.2.2.1 s.2.2.2) (fun s => s.1 ≤ l.length ∧ Good u5 s.2.1 s.2.2.1 ∧ verIn s.2.2.2 s.1) (fun s => l.length - s.1) (i, sd, nm, vs) l i sd nm vs q (.exit 2) (stV1e l i sd nm vs (wA (itA sd nm 0) (itA sd nm 1) (itA sd nm 2) (itA sd nm 3) (itA sd nm 4)) (vA (vrA vs 0) (vrA vs 1) (vrA vs 2) (vrA vs 3) (vrA vs 4))) := by
  have g2 := opsD_getD l i hlt
  refine kblk_mk (k_nor ?_)
  refine cast (rV2 (KX l i sd nm vs q) l i sd nm vs (itA sd nm 0) (itA sd nm 1) (itA sd nm 2) (itA sd nm 3) (itA sd nm 4) (vrA vs 0) (vrA vs 1) (vrA vs 2) (vrA vs 3) (vrA vs 4) q).symm ?_
  simp only [Int.toNat_natCast, g2]
  refine ⟨⟨by omega, by rw [opsD_len]; omega⟩, rfl, Nat.le_refl _, ⟨rfl, rfl, rfl, rfl, rfl, trivial⟩, u5, sd, nm, vs, u5, l[i].k, l[i].a, l[i].b, l[i].c, l[i].x, rfl, rfl, u5_ok, fun r hr => ⟨by trivial, ?_⟩⟩
  have hS := step_ok hG vs u5 l[i].k l[i].a l[i].b l[i].c l[i].x
  rw [hr] at hS
  have t2 : decide (((tdD r.t).length : Int) > 2) = false := by
    have := hS.told.1
    rw [tdD_len]
    exact decide_eq_false (by omega)
  refine bcase_mk (fun he => ?_) (fun _ _ => ?_)
  · have he : r.e ≠ 0 := by simpa using he
    obtain ⟨p0, t0, _⟩ := hS.err he
    have e1 : decide (((strsD r.p).length : Int) > 0) = false := by rw [p0]; decide
    have e2 : decide (((tdD r.t).length : Int) > 0) = false := by rw [t0]; decide
    intro _
    refine bcase_mk (fun h => by rw [e1] at h; cases h) (fun _ _ => bcase_mk (fun h => by rw [e2] at h; cases h) (fun _ _ => bcase_mk (fun h => by rw [t2] at h; cases h) (fun _ => ?_)))
    refine vs_rest hlt h80 hG hv hr ?_
    simp [S.le, sealAll, leL, leA, leO, jks, lawO, S.fits, fitsL, AV.fits, Ob.fits, KK.isSy, mkSS, mkS, mkI, mkB, stV2, wA, vA]
  · refine bcase_mk (fun h => by rw [t2] at h; cases h) (fun _ => ?_)
    refine vs_rest hlt h80 hG hv hr ?_
    simp [S.le, sealAll, leL, leA, leO, jks, lawO, S.fits, fitsL, AV.fits, Ob.fits, KK.isSy, mkSS, mkS, mkI, mkB, stV2, wA, vA]
theorem ty_args1v {P : Program} {t : TypeId} {al : List AV} (h : TyArgs P [t] al) : ∃ a, al = [a] ∧ ∃ ds, Ty P 12 t ds ∧ a = argAV (aggB P t) ds := by
  match al, h with
  | [a], ⟨ha, _⟩ => exact ⟨a, rfl, ha⟩
set_option maxRecDepth 20000 in
theorem cVs : PSound Tryd.prog 3 (detE FVs) := by
  refine det_fn (c := Tryd.b3) mixed Tryd.K_ok gvs_ok Tryd.func3 rfl rfl Tryd.call3 fun al p r q hF hp hq => ?_
  unfold FVs at hF; split at hF <;> cases hF
  rename_i es
  generalize unOps es = l0 at hp
  subst hp
  refine cast (rVs l0 q).symm ⟨rfl, rfl, rfl, rfl, rfl, rfl, by rw [unOps_ops], ?_⟩
  rw [unOps_ops]
  have h80 : (l0.take 80).length ≤ 80 := by rw [List.length_take]; omega
  generalize l0.take 80 = l at h80
  refine ALoop.introM [] (maskOf (stVs l 0 [] [] (v0 u5))) (fun s : Nat × Sds × Nms × Vss => stVs l s.1 s.2.1 s.2.2.1 s.2.2.2) (fun s => s.1 ≤ l.length ∧ Good u5 s.2.1 s.2.2.1 ∧ verIn s.2.2.2 s.1) (fun s => l.length - s.1) ⟨[], (0, [], [], v0 u5), ?_, ⟨Nat.zero_le _, good_new u5, ver_start⟩⟩ ?_
  · simp [S.le, sealAll, leL, leA, leO, jks, stVs, lawO, S.fits, fitsL, AV.fits, Ob.fits, KK.isSy, mkSS, mkS, mkI, mkB, sdE, nmE, encM, vsE, v0, u5, sK, nAnn, nBob, nCy, nDee, nEve, nFlo, nGus, nHal]
  · rintro ⟨i, sd, nm, vs⟩ ⟨hil, hG, hv⟩
    have hil : i ≤ l.length := hil
    have hG : Good u5 sd nm := hG
    have hv : verIn vs i := hv
    refine cast (rVs_b (fun s : Nat × Sds × Nms × Vss => stVs l s.1 s.2.1 s.2.2.1 s.2.2.2) (fun s => s.1 ≤ l.length ∧ Good u5 s.2.1 s.2.2.1 ∧ verIn s.2.2.2 s.1) (fun s => l.length - s.1) (i, sd, nm, vs) l i sd nm vs q).symm fun hl => (bcase_dec (fun hlt => ?_) (fun _ => hq))
    rw [opsD_len] at hl hlt
    have hlt : i < l.length := by omega
    refine vs_one (K0 := rVs_b_k0 (fun s : Nat × Sds × Nms × Vss => stVs l s.1 s.2.1 s.2.2.1 s.2.2.2) (fun s => s.1 ≤ l.length ∧ Good u5 s.2.1 s.2.2.1 ∧ verIn s.2.2.2 s.1) (fun s => l.length - s.1) (i, sd, nm, vs) l i sd nm vs q) ?_ (vs_le1 l i sd nm vs)
    exact vs_body hlt (by omega) hG hv
theorem arg_opsV : ∀ al, TyArgs Tryd.prog Tryd.f3.params.toList al → ∃ p, FVs al = some (p, mkB true) ∧ p := by
  intro al h
  rw [Tryd.params3] at h
  obtain ⟨a, rfl, ha⟩ := ty_args1v h
  obtain ⟨l, rfl⟩ := arg_ops Tryd.underlying22 Tryd.underlying41 rfl Tryd.underlying3 Tryd.underlying9 ha
  exact ⟨_, rfl, by rw [unOps_ops]⟩
theorem hVs : ∀ al, TyArgs Tryd.prog Tryd.f3.params.toList al → ∃ p, FVs al = some (p, mkB true) ∧ p := arg_opsV
end Go.Proofs.YtldcalmoboeeiaaDoor
