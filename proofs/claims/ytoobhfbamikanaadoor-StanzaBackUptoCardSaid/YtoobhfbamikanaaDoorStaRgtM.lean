import Derived.Test.YtoobhfbamikanaaDoorStaSign
import Derived.Test.YtoobhfbamikanaaDoorStaCut
import Derived.Test.YtoobhfbamikanaaDoorStaBackM
set_option linter.unusedSimpArgs false
set_option linter.unusedVariables false
namespace Go.Proofs.YtoobhfbamikanaaDoor
open Go Go.AM Go.RowKit
attribute [local irreducible] aCode aUnr aUnS aOut
def OkN : Nat → El → Prop
  | 0, _ => False
  | m + 1, .mk n l t k => nameB n = true ∧ l.length ≤ 6 ∧ k.length ≤ 16 ∧ rightB t = true ∧ (∀ a ∈ l, nameB a.1 = true ∧ rightB a.2 = true) ∧ (l.map Prod.fst).Nodup ∧ ∀ e ∈ k, OkN m e
structure OkE (m : Nat) (e : El) : Prop where
  ok : OkN m e
def ERgtG (m : Nat) (dp : Int) : List AV → (AV → Prop) → Prop := fun al q => ∃ n l t k, al = [.ag [mkS n, .d (.sl (atsD l)), mkS t, .d (.sl (ksD k))], mkI .i64 dp] ∧ OkE m (.mk n l t k) ∧ q (mkB true)
noncomputable abbrev GRgt (m : Nat) (dp : Int) : List (FuncId × En) := [(42, .det TF26), (43, .det TF23), (24, .pure (ERgtG m dp))]
noncomputable def rRg_k0 (m : Nat) (dp : Int) (q : AV → Prop) : Kont := kBlk (0 : Nat) (kSeq (aCode KS (GRgt m dp) (cAt [1, 1, 1] Tryd.b24) (kRet KS (Array.toList (Func.results Tryd.f24)) q)) (kRet KS (Array.toList (Func.results Tryd.f24)) q))
theorem rRg (m : Nat) (dp : Int) (n : BA) (l : List At) (t : BA) (k : List El) (d : Int) (q : AV → Prop) :
  (aCode KS (GRgt m dp) Tryd.b24 (kRet KS Tryd.f24.results.toList q) ⟨[.ag [mkS n, .d (.sl (atsD l)), mkS t, .d (.sl (ksD k))], mkI .i64 d] ++ List.replicate (Tryd.f24.ntmps - 2) .jk, []⟩) = (
  bcase (decide (d > (4 : Int))) (
   q (mkB false)) (
   True ∧
   bcase (!(nameB n)) (
    q (mkB false)) (
    ((List.length (atsD l)) ≤ LIM) →
    bcase (decide (((List.length (atsD l)) : Int) > (6 : Int))) (
     q (mkB false)) (
     ((List.length (ksD k)) ≤ LIM) →
     bcase (decide (((List.length (ksD k)) : Int) > (16 : Int))) (
      q (mkB false)) (
      True ∧
      bcase ((if (rightB t) = true then (0 : Int) else (2 : Int)) != (0 : Int)) (
       q (mkB false)) (
       ALoop (aCode KS (GRgt m dp) (cAt [1, 1, 0, 1, 0, 0] Tryd.b24)) (rRg_k0 m dp q) ⟨[AV.ag [mkS n, AV.d (D.sl (atsD l)), mkS t, AV.d (D.sl (ksD k))], mkI .i64 d, AV.rf 0 0, AV.jk, mkB false, mkI .i64 0, AV.jk, AV.jk, mkI .i64 d, mkB (decide (d > (4 : Int))), mkB false, AV.rf 0 (0 + 0), mkS n, mkB (nameB n), mkB (!(nameB n)), mkB (!(nameB n)), mkB false, AV.rf 0 (0 + 1), AV.d (D.sl (atsD l)), mkI .i64 ((List.length (atsD l)) : Int), mkB (decide (((List.length (atsD l)) : Int) > (6 : Int))), mkB (decide (((List.length (atsD l)) : Int) > (6 : Int))), mkB false, AV.rf 0 (0 + 3), AV.d (D.sl (ksD k)), mkI .i64 ((List.length (ksD k)) : Int), mkB (decide (((List.length (ksD k)) : Int) > (16 : Int))), mkB (decide (((List.length (ksD k)) : Int) > (16 : Int))), mkB false, AV.rf 0 (0 + 2), mkS t, mkI .i64 (if (rightB t) = true then (0 : Int) else (2 : Int)), mkB ((if (rightB t) = true then (0 : Int) else (2 : Int)) != (0 : Int)), mkB false] ++ (jks 59), [Ob.box [mkS n, AV.d (D.sl (atsD l)), mkS t, AV.d (D.sl (ksD k))]]⟩)))))) := by kernel_rfl
def stRg (n : BA) (l : List At) (t : BA) (k : List El) (d i : Int) : S := ⟨[.jk, mkI .i64 d, .rf 0 0, .jk, mkB false, mkI .i64 i] ++ jks 87, [.box [mkS n, .d (.sl (atsD l)), mkS t, .d (.sl (ksD k))]]⟩
noncomputable def rRg_b_k0 {ι : Type} (st : ι → S) (inv : ι → Prop) (μ : ι → Nat) (kk : ι) (m : Nat) (dp : Int) (n : BA) (l : List At) (t : BA) (k : List El) (d : Int) (i : Int) (q : AV → Prop) : Kont := kBlk (2 : Nat) (kBlk (1 : Nat) (kSeq (aCode KS (GRgt m dp) (cAt [1, 1, 0, 1, 0, 0, 1, 1] Tryd.b24) (kFamM [] (maskOf (stRg n l t k d i)) st inv μ kk (rRg_k0 m dp q))) (kFamM [] (maskOf (stRg n l t k d i)) st inv μ kk (rRg_k0 m dp q))))
noncomputable def rRg_b_k1 (m : Nat) (dp : Int) (q : AV → Prop) : Kont := kBlk (4 : Nat) (kSeq (aCode KS (GRgt m dp) (cAt [1, 1, 1, 1] Tryd.b24) (kRet KS (Array.toList (Func.results Tryd.f24)) q)) (kRet KS (Array.toList (Func.results Tryd.f24)) q))
theorem rRg_b {ι : Type} (st : ι → S) (inv : ι → Prop) (μ : ι → Nat) (kk : ι) (m : Nat) (dp : Int) (n : BA) (l : List At) (t : BA) (k : List El) (d i : Int) (q : AV → Prop) :
  (aCode KS (GRgt m dp) (cAt [1, 1, 0, 1, 0, 0] Tryd.b24) (kFamM [] (maskOf (stRg n l t k d i)) st inv μ kk (rRg_k0 m dp q)) (stRg n l t k d i)) = (
  ((List.length (atsD l)) ≤ LIM) →
  bcase (decide (i < ((List.length (atsD l)) : Int))) (
   (((0 : Int) ≤ i) ∧ (i < ((List.length (atsD l)) : Int))) ∧
   ((List.length (List.getD (atsD l) (Int.toNat i) [])) = 2) ∧
   ((1 : Nat) ≤ (List.length (List.drop 0 (List.getD (atsD l) (Int.toNat i) [])))) ∧
   ((List.getD (List.drop 0 (List.getD (atsD l) (Int.toNat i) [])) 0 d0) = (D.v (Value.string (strD (List.getD (List.drop 0 (List.getD (atsD l) (Int.toNat i) [])) 0 d0))))) ∧
   True ∧
   bcase (!(nameB (strD (List.getD (List.drop 0 (List.getD (atsD l) (Int.toNat i) [])) 0 d0)))) (
    q (mkB false)) (
    (((0 : Int) ≤ i) ∧ (i < ((List.length (atsD l)) : Int))) ∧
    ((List.length (List.getD (atsD l) (Int.toNat i) [])) = 2) ∧
    ((1 : Nat) ≤ (List.length (List.drop 1 (List.getD (atsD l) (Int.toNat i) [])))) ∧
    ((List.getD (List.drop 1 (List.getD (atsD l) (Int.toNat i) [])) 0 d0) = (D.v (Value.string (strD (List.getD (List.drop 1 (List.getD (atsD l) (Int.toNat i) [])) 0 d0))))) ∧
    True ∧
    bcase ((if (rightB (strD (List.getD (List.drop 1 (List.getD (atsD l) (Int.toNat i) [])) 0 d0))) = true then (0 : Int) else (2 : Int)) != (0 : Int)) (
     q (mkB false)) (
     ALoop (aCode KS (GRgt m dp) (cAt [1, 1, 0, 1, 0, 0, 1, 0, 0, 1, 1, 0, 0] Tryd.b24)) (rRg_b_k0 st inv μ kk m dp n l t k d i q) ⟨[AV.jk, mkI .i64 d, AV.rf 0 0, AV.jk, mkB false, mkI .i64 i, mkI .i64 0] ++ (jks 27 ++ ([mkI .i64 i, AV.rf 0 (0 + 1), AV.d (D.sl (atsD l)), mkI .i64 ((List.length (atsD l)) : Int), mkB true, AV.jk, AV.jk, AV.rf 0 (0 + 1), AV.d (D.sl (atsD l)), mkI .i64 i, AV.ep (List.getD (atsD l) (Int.toNat i) []), AV.ep (List.drop 0 (List.getD (atsD l) (Int.toNat i) [])), mkS (strD (List.getD (List.drop 0 (List.getD (atsD l) (Int.toNat i) [])) 0 d0)), mkB (nameB (strD (List.getD (List.drop 0 (List.getD (atsD l) (Int.toNat i) [])) 0 d0))), mkB (!(nameB (strD (List.getD (List.drop 0 (List.getD (atsD l) (Int.toNat i) [])) 0 d0)))), mkB false, AV.rf 0 (0 + 1), AV.d (D.sl (atsD l)), mkI .i64 i, AV.ep (List.getD (atsD l) (Int.toNat i) []), AV.ep (List.drop 1 (List.getD (atsD l) (Int.toNat i) [])), mkS (strD (List.getD (List.drop 1 (List.getD (atsD l) (Int.toNat i) [])) 0 d0)), mkI .i64 (if (rightB (strD (List.getD (List.drop 1 (List.getD (atsD l) (Int.toNat i) [])) 0 d0))) = true then (0 : Int) else (2 : Int)), mkB ((if (rightB (strD (List.getD (List.drop 1 (List.getD (atsD l) (Int.toNat i) [])) 0 d0))) = true then (0 : Int) else (2 : Int)) != (0 : Int)), mkB false] ++ (jks 34))), [Ob.box [mkS n, AV.d (D.sl (atsD l)), mkS t, AV.d (D.sl (ksD k))]]⟩))) (
   ALoop (aCode KS (GRgt m dp) (cAt [1, 1, 1, 0, 1, 0, 0] Tryd.b24)) (rRg_b_k1 m dp q) ⟨[AV.jk, mkI .i64 d, AV.rf 0 0, AV.jk, mkB false, mkI .i64 i, AV.jk, mkI .i64 0] ++ (jks 26 ++ ([mkI .i64 i, AV.rf 0 (0 + 1), AV.d (D.sl (atsD l)), mkI .i64 ((List.length (atsD l)) : Int), mkB false] ++ (jks 54))), [Ob.box [mkS n, AV.d (D.sl (atsD l)), mkS t, AV.d (D.sl (ksD k))]]⟩)) := by kernel_rfl
def stRg2 (n : BA) (l : List At) (t : BA) (k : List El) (d i j : Int) : S := ⟨[.jk, mkI .i64 d, .rf 0 0, .jk, mkB false, mkI .i64 i, mkI .i64 j] ++ jks 86, [.box [mkS n, .d (.sl (atsD l)), mkS t, .d (.sl (ksD k))]]⟩
theorem rRg_c {ι κ : Type} (st0 : ι → S) (inv0 : ι → Prop) (μ0 : ι → Nat) (k0 : ι) (st : κ → S) (inv : κ → Prop) (μ : κ → Nat) (kk : κ) (m : Nat) (dp : Int) (n : BA) (l : List At) (t : BA) (k : List El) (d i j : Int) (q : AV → Prop) :
  (aCode KS (GRgt m dp) (cAt [1, 1, 0, 1, 0, 0, 1, 0, 0, 1, 1, 0, 0] Tryd.b24) (kFamM [] (maskOf (stRg2 n l t k d i j)) st inv μ kk (rRg_b_k0 st0 inv0 μ0 k0 m dp n l t k d i q)) (stRg2 n l t k d i j)) = (
  bcase (decide (j < i)) (
   (((0 : Int) ≤ j) ∧ (j < ((List.length (atsD l)) : Int))) ∧
   ((List.length (List.getD (atsD l) (Int.toNat j) [])) = 2) ∧
   ((1 : Nat) ≤ (List.length (List.drop 0 (List.getD (atsD l) (Int.toNat j) [])))) ∧
   ((List.getD (List.drop 0 (List.getD (atsD l) (Int.toNat j) [])) 0 d0) = (D.v (Value.string (strD (List.getD (List.drop 0 (List.getD (atsD l) (Int.toNat j) [])) 0 d0))))) ∧
   (((0 : Int) ≤ i) ∧ (i < ((List.length (atsD l)) : Int))) ∧
   ((List.length (List.getD (atsD l) (Int.toNat i) [])) = 2) ∧
   ((1 : Nat) ≤ (List.length (List.drop 0 (List.getD (atsD l) (Int.toNat i) [])))) ∧
   ((List.getD (List.drop 0 (List.getD (atsD l) (Int.toNat i) [])) 0 d0) = (D.v (Value.string (strD (List.getD (List.drop 0 (List.getD (atsD l) (Int.toNat i) [])) 0 d0))))) ∧
   bcase (decide ((strD (List.getD (List.drop 0 (List.getD (atsD l) (Int.toNat j) [])) 0 d0)) = (strD (List.getD (List.drop 0 (List.getD (atsD l) (Int.toNat i) [])) 0 d0)))) (
    q (mkB false)) (
    FamNext st inv μ kk ⟨[AV.jk, mkI .i64 d, AV.rf 0 0, AV.jk, mkB false, mkI .i64 i, mkI .i64 (IntKind.wrap .i64 (j + (1 : Int)))] ++ (jks 86), [Ob.box [mkS n, AV.d (D.sl (atsD l)), mkS t, AV.d (D.sl (ksD k))]]⟩)) (
   FamNext st0 inv0 μ0 k0 ⟨[AV.jk, mkI .i64 d, AV.rf 0 0, AV.jk, mkB false, mkI .i64 (IntKind.wrap .i64 (i + (1 : Int)))] ++ (jks 87), [Ob.box [mkS n, AV.d (D.sl (atsD l)), mkS t, AV.d (D.sl (ksD k))]]⟩)) := by kernel_rfl
def stRg3 (n : BA) (l : List At) (t : BA) (k : List El) (d j : Int) : S := ⟨[.jk, mkI .i64 d, .rf 0 0, .jk, mkB false, .jk, .jk, mkI .i64 j] ++ jks 85, [.box [mkS n, .d (.sl (atsD l)), mkS t, .d (.sl (ksD k))]]⟩
theorem rRg_d {ι : Type} (st : ι → S) (inv : ι → Prop) (μ : ι → Nat) (kk : ι) (m : Nat) (dp : Int) (n : BA) (l : List At) (t : BA) (k : List El) (d j : Int) (q : AV → Prop) :
  (aCode KS (GRgt m dp) (cAt [1, 1, 1, 0, 1, 0, 0] Tryd.b24) (kFamM [] (maskOf (stRg3 n l t k d j)) st inv μ kk (rRg_b_k1 m dp q)) (stRg3 n l t k d j)) = (
  ((List.length (ksD k)) ≤ LIM) →
  bcase (decide (j < ((List.length (ksD k)) : Int))) (
   (((0 : Int) ≤ j) ∧ (j < ((List.length (ksD k)) : Int))) ∧
   ((List.length (List.getD (ksD k) (Int.toNat j) [])) = 4) ∧
   (4 ≤ (List.length (List.getD (ksD k) (Int.toNat j) []))) ∧
   (((List.getD (List.getD (ksD k) (Int.toNat j) []) 0 d0) = (D.v (Value.string (strD (List.getD (List.getD (ksD k) (Int.toNat j) []) 0 d0))))) ∧ (((List.getD (List.drop 1 (List.getD (ksD k) (Int.toNat j) [])) 0 d0) = (D.sl (slD (List.getD (List.drop 1 (List.getD (ksD k) (Int.toNat j) [])) 0 d0)))) ∧ (((List.getD (List.drop 1 (List.drop 1 (List.getD (ksD k) (Int.toNat j) []))) 0 d0) = (D.v (Value.string (strD (List.getD (List.drop 1 (List.drop 1 (List.getD (ksD k) (Int.toNat j) []))) 0 d0))))) ∧ (((List.getD (List.drop 1 (List.drop 1 (List.drop 1 (List.getD (ksD k) (Int.toNat j) [])))) 0 d0) = (D.sl (slD (List.getD (List.drop 1 (List.drop 1 (List.drop 1 (List.getD (ksD k) (Int.toNat j) [])))) 0 d0)))) ∧ True)))) ∧ (
    ∃ (n_1 : ByteArray),
    ∃ (l_1 : List At),
    ∃ (t_1 : ByteArray),
    ∃ (k_1 : List El),
    ([AV.ag [mkS (strD (List.getD (List.getD (ksD k) (Int.toNat j) []) 0 d0)), AV.d (D.sl (slD (List.getD (List.drop 1 (List.getD (ksD k) (Int.toNat j) [])) 0 d0))), mkS (strD (List.getD (List.drop 1 (List.drop 1 (List.getD (ksD k) (Int.toNat j) []))) 0 d0)), AV.d (D.sl (slD (List.getD (List.drop 1 (List.drop 1 (List.drop 1 (List.getD (ksD k) (Int.toNat j) [])))) 0 d0)))], mkI .i64 (IntKind.wrap .i64 (d + (1 : Int)))] = [AV.ag [mkS n_1, AV.d (D.sl (atsD l_1)), mkS t_1, AV.d (D.sl (ksD k_1))], mkI .i64 dp]) ∧
    (OkE m (El.mk n_1 l_1 t_1 k_1)) ∧
    FamNext st inv μ kk ⟨[AV.jk, mkI .i64 d, AV.rf 0 0, AV.jk, mkB false, AV.jk, AV.jk, mkI .i64 (IntKind.wrap .i64 (j + (1 : Int)))] ++ (jks 85), [Ob.box [mkS n, AV.d (D.sl (atsD l)), mkS t, AV.d (D.sl (ksD k))]]⟩)) (
   q (mkB true))) := by kernel_rfl
theorem rgWalk (m : Nat) (dp d : Int) (h : PSound Tryd.prog 24 (ERgtG m dp)) (hd : 1 ≤ d ∧ d ≤ 4) (hdp : dp = d + 1) : PSound Tryd.prog 24 (ERgtG (m + 1) d) := by
  refine pure_fn (c := Tryd.b24) mixed KS_ok (gsound_det Tc26 (gsound_det Tc23 (gsound_pure h gsound_nil))) Tryd.func24 rfl rfl Tryd.call24 fun al q ⟨n, l, t, k, h1, hok, hq⟩ => ?_
  subst h1
  obtain ⟨o1, o2, o3, o4, o5, o6, o7⟩ := hok.ok
  have hw : IntKind.wrap .i64 (d + 1) = dp := by rw [hdp]; exact IntWalk.i64_in _ (by omega)
  have kids : ∀ s0 : S, S.le s0 (stRg3 n l t k d 0) → ALoop (aCode KS (GRgt m dp) (cAt [1, 1, 1, 0, 1, 0, 0] Tryd.b24)) (rRg_b_k1 m dp q) s0 := fun s0 hs0 => by
    refine ALoop.introM [] (maskOf (stRg3 n l t k d 0)) (fun j : Nat => stRg3 n l t k d j) (fun j => j ≤ k.length) (fun j => k.length - j) ⟨[], 0, hs0, Nat.zero_le _⟩ fun j hj => ?_
    refine cast (rRg_d _ _ _ j m dp n l t k d j q).symm fun hlim => bcase_dec (fun hlt => ?_) (fun hge => hq)
    rw [ksD_len] at hlt hlim
    have hlt : j < k.length := by omega
    have hgd := ksD_getD k j hlt
    have hmem := List.getElem_mem hlt
    generalize k[j] = e at hgd hmem
    have hoe := o7 e hmem
    obtain ⟨en, ea, et, ek⟩ := e
    simp only [elD] at hgd
    simp only [Int.toNat_natCast, hgd, List.getD_cons_zero, List.drop_succ_cons, List.drop_zero, strD, slD, hw]
    have nx : ∀ s1, S.le s1 (stRg3 n l t k d ((j + 1 : Nat) : Int)) → FamNext (fun j : Nat => stRg3 n l t k d j) (fun j => j ≤ k.length) (fun j => k.length - j) j s1 := fun s1 h1 => .mk [] (j + 1) h1 hlt (by show k.length - (j + 1) < k.length - j; omega)
    refine ⟨⟨by omega, by rw [ksD_len]; omega⟩, rfl, Nat.le_refl _, ⟨by trivial, by trivial, by trivial, by trivial, trivial⟩, ?_⟩
    try refine And.intro ?_ ?_
    all_goals
      refine ⟨en, ea, et, ek, rfl, ⟨hoe⟩, ?_⟩
      refine nx _ ?_
      rw [wrap_succ hlt hlim]
      simp [S.le, sealAll, leL, leA, leO, jks, stRg3, S.fits, fitsL, AV.fits, Ob.fits, mkS, mkI, mkB]
  refine cast (rRg m dp n l t k d q).symm (bcaseF (decide_eq_false (by omega)) ⟨trivial, bcaseF (by rw [o1]; rfl) fun hl => bcaseF (decide_eq_false (by rw [atsD_len]; omega)) fun hk => bcaseF (decide_eq_false (by rw [ksD_len]; omega)) ⟨trivial, bcaseF (by rw [o4]; rfl) ?_⟩⟩)
  refine ALoop.introM [] (maskOf (stRg n l t k d 0)) (fun i : Nat => stRg n l t k d i) (fun i => i ≤ l.length) (fun i => l.length - i) ⟨[], 0, ?_, Nat.zero_le _⟩ fun i hi => ?_
  · simp [S.le, sealAll, leL, leA, leO, jks, stRg, S.fits, fitsL, AV.fits, Ob.fits, mkS, mkI, mkB]
  · refine cast (rRg_b _ _ _ i m dp n l t k d i q).symm fun hlim => bcase_dec (fun hlt => ?_) (fun hge => kids _ ?_)
    · rw [atsD_len] at hlt hlim
      have hlt : i < l.length := by omega
      have gi := atsD_getD l i hlt
      have hoi := o5 l[i] (List.getElem_mem hlt)
      simp only [atD] at gi
      simp only [Int.toNat_natCast, gi, List.getD_cons_zero, List.drop_zero, List.drop_succ_cons, strD]
      refine ⟨⟨by omega, by rw [atsD_len]; omega⟩, rfl, by simp, by trivial, trivial, bcaseF (by rw [hoi.1]; rfl) ⟨⟨by omega, by rw [atsD_len]; omega⟩, rfl, by simp, by trivial, trivial, bcaseF (by rw [hoi.2]; rfl) ?_⟩⟩
      refine ALoop.introM [] (maskOf (stRg2 n l t k d i 0)) (fun j : Nat => stRg2 n l t k d i j) (fun j => j ≤ i) (fun j => i - j) ⟨[], 0, ?_, Nat.zero_le _⟩ fun j hj => ?_
      · simp [S.le, sealAll, leL, leA, leO, jks, stRg2, S.fits, fitsL, AV.fits, Ob.fits, mkS, mkI, mkB]
      · refine cast (rRg_c _ _ _ i _ _ _ j m dp n l t k d i j q).symm (bcase_dec (fun hlt2 => ?_) (fun hge => ?_))
        · have hlt2 : j < i := by omega
          have gj := atsD_getD l j (by omega)
          have gi := atsD_getD l i hlt
          simp only [atD] at gj gi
          simp only [Int.toNat_natCast, gj, gi, List.getD_cons_zero, List.drop_zero, strD]
          have hne : ¬ l[j].1 = l[i].1 := fun e => by
            have h1 : (l.map Prod.fst)[j]'(by simp; omega) = (l.map Prod.fst)[i]'(by simpa using hlt) := by simpa using e
            have := (List.getElem_inj o6).1 h1
            omega
          refine ⟨⟨by omega, by rw [atsD_len]; omega⟩, rfl, by simp, by trivial, ⟨by omega, by rw [atsD_len]; omega⟩, rfl, by simp, by trivial, bcaseF (decide_eq_false hne) ?_⟩
          refine .mk [] (j + 1) ?_ hlt2 (by show i - (j + 1) < i - j; omega)
          rw [wrap_succ (m := l.length) (by omega) hlim]
          simp [S.le, sealAll, leL, leA, leO, jks, stRg2, S.fits, fitsL, AV.fits, Ob.fits, mkS, mkI, mkB]
        · have e : j = i := by omega
          subst e
          refine .mk [] (j + 1) ?_ hlt (by show l.length - (j + 1) < l.length - j; omega)
          rw [wrap_succ hlt hlim]
          simp [S.le, sealAll, leL, leA, leO, jks, stRg, S.fits, fitsL, AV.fits, Ob.fits, mkS, mkI, mkB]
    · simp [S.le, sealAll, leL, leA, leO, jks, stRg3, S.fits, fitsL, AV.fits, Ob.fits, mkS, mkI, mkB]
theorem cRgt : ∀ m : Nat, m ≤ 4 → PSound Tryd.prog 24 (ERgtG m (5 - m))
  | 0, _ => pure_fn (c := Tryd.b24) mixed KS_ok gsound_nil Tryd.func24 rfl rfl Tryd.call24 fun al q ⟨n, l, t, k, _, h, _⟩ => (h.ok : False).elim
  | m + 1, h => by
    have e : (5 : Int) - ((m + 1 : Nat) : Int) = 4 - m := by omega
    rw [e]
    exact rgWalk m (5 - m) (4 - m) (cRgt m (by omega)) (by omega) (by omega)
def ERgt : List AV → (AV → Prop) → Prop := fun al q => ∃ n l t k, al = [.ag [mkS n, .d (.sl (atsD l)), mkS t, .d (.sl (ksD k))]] ∧ OkE 4 (.mk n l t k) ∧ q (mkB true)
theorem rRgt (n : BA) (l : List At) (t : BA) (k : List El) (q : AV → Prop) :
  (aCode KS [(24, .pure (ERgtG 4 1))] Tryd.b10 (kRet KS Tryd.f10.results.toList q) ⟨[.ag [mkS n, .d (.sl (atsD l)), mkS t, .d (.sl (ksD k))]] ++ List.replicate (Tryd.f10.ntmps - 1) .jk, []⟩) = (
  ∃ (n_1 : ByteArray),
  ∃ (l_1 : List At),
  ∃ (t_1 : ByteArray),
  ∃ (k_1 : List El),
  ([AV.ag [mkS n, AV.d (D.sl (atsD l)), mkS t, AV.d (D.sl (ksD k))], mkI .i64 1] = [AV.ag [mkS n_1, AV.d (D.sl (atsD l_1)), mkS t_1, AV.d (D.sl (ksD k_1))], mkI .i64 1]) ∧
  (OkE (4 : Nat) (El.mk n_1 l_1 t_1 k_1)) ∧
  q (mkB true)) := by kernel_rfl
theorem cRight : PSound Tryd.prog 10 ERgt := by
  refine pure_fn (c := Tryd.b10) mixed KS_ok (gsound_pure (cRgt 4 (by omega)) gsound_nil) Tryd.func10 rfl rfl Tryd.call10 fun al q ⟨n, l, t, k, h1, h2, hq⟩ => ?_
  subst h1
  exact cast (rRgt n l t k q).symm ⟨n, l, t, k, rfl, h2, hq⟩
end Go.Proofs.YtoobhfbamikanaaDoor

namespace Go.Proofs.YtoobhfbamikanaaDoor
open Go Go.AM Go.RowKit
def asc (b : UInt8) : Bool := decide (32 ≤ b.toNat) && decide (b.toNat < 128)
theorem ref_ascii : ∀ (f : Nat) (s : BA), s.size ≤ f → (∀ b ∈ s.data.toList, asc b = true) → refR f s = true
  | 0, s, _, _ => rfl
  | f + 1, s, hs, h => by
    unfold refR
    split
    · rfl
    · rename_i h0
      have hl : s.data.toList.length = s.size := dl s
      have hb : s.data.toList.getD 0 0 ∈ s.data.toList := by
        rw [List.getD_eq_getElem?_getD, List.getElem?_eq_getElem (by omega)]
        exact List.getElem_mem _
      have ha := h _ hb
      simp only [asc, Bool.and_eq_true, decide_eq_true_eq] at ha
      have e : signT s = (byteAt s 0, 1) := by
        unfold signT
        rw [if_neg (by omega), if_pos (by unfold byteAt; omega)]
      rw [e]
      have hm : mayB (byteAt s 0) = true := by
        unfold mayB byteAt
        repeat' split
        all_goals first | rfl | (simp only [decide_eq_true_eq]; omega) | omega
      rw [if_neg (by rw [hm]; simp)]
      refine ref_ascii f _ (by rw [ByteArray.size_extract]; show min s.size s.size - 1 ≤ f; omega) fun b hb => ?_
      refine h b ?_
      rw [ext_end] at hb
      exact List.mem_of_mem_drop hb
theorem right_ascii {s : BA} (h : ∀ b ∈ s.data.toList, asc b = true) : rightB s = true := by
  rw [rightB_ref]; exact ref_ascii _ _ (Nat.le_refl _) h
theorem right_all {s : BA} (h : s.data.toList.all asc = true) : rightB s = true := right_ascii (List.all_eq_true.1 h)
theorem right_word {s : BA} (h : wordB s = true) : rightB s = true := by
  unfold wordB at h
  simp only [Bool.and_eq_true] at h
  exact h.2
theorem user_asc {s : BA} (h : userB s = true) : ∀ b ∈ s.data.toList, asc b = true := fun b hb => by
  simp only [userB, Bool.and_eq_true, decide_eq_true_eq, List.all_eq_true] at h
  have hm := h.2 b hb
  have hall : letters.data.toList.all asc = true := by decide
  exact List.all_eq_true.1 hall b hm
theorem right_user {s : BA} (h : userB s = true) : rightB s = true := right_ascii (user_asc h)
theorem right_place {s : BA} (h : placeB s = true) : rightB s = true := by
  unfold placeB addrE at h
  simp only [Bool.and_eq_true, Bool.not_eq_true', decide_eq_false_iff_not, Bool.or_eq_true, decide_eq_true_eq] at h
  obtain ⟨h0, h1⟩ := h
  have h1 : addrB s = true := h1.resolve_left h0
  unfold addrB at h1
  simp only [Bool.and_eq_true, Bool.or_eq_true, Bool.not_eq_true'] at h1
  obtain ⟨hu, hd⟩ := h1
  by_cases hc : cutI s ≥ 0
  · have hlt := cutI_lt hc
    have hd : userB (cutD s) = true := by
      rcases hd with hd | hd
      · rw [cutB, decide_eq_true hc] at hd; cases hd
      · exact hd
    have au := user_asc hu
    have ad := user_asc hd
    rw [cutU, if_pos hc, ext_list] at au
    rw [cutD, if_pos hc, ext_end] at ad
    have hat : s.data.toList[(cutI s).toNat]? = some 47 := by
      have e : Lib.indexByte s.data.toList 47 = ((cutI s).toNat : Int) := by unfold cutI at *; omega
      exact (Lib.indexByte_some e).1
    refine right_ascii fun b hb => ?_
    obtain ⟨j, hj, rfl⟩ := List.mem_iff_getElem.1 hb
    by_cases h1 : j < (cutI s).toNat
    · refine au _ ?_
      rw [List.drop_zero, List.mem_iff_getElem]
      exact ⟨j, by rw [List.length_take]; omega, by rw [List.getElem_take]⟩
    · by_cases h2 : j = (cutI s).toNat
      · subst h2
        rw [List.getElem?_eq_getElem hj] at hat
        rw [Option.some.inj hat]; rfl
      · refine ad _ ?_
        rw [List.mem_iff_getElem]
        exact ⟨j - ((cutI s).toNat + 1), by rw [List.length_drop]; omega, by rw [List.getElem_drop]; congr 1; omega⟩
  · rw [cutU, if_neg hc] at hu
    exact right_user hu
theorem dec_asc (n : Nat) : ∀ b ∈ Lib.decDigits n, asc b = true := by
  induction n using Nat.strongRecOn with
  | ind n ih =>
    intro b hb
    rw [Lib.decDigits] at hb
    have one : ∀ m : Nat, m < 10 → asc (UInt8.ofNat (48 + m)) = true := fun m hm => by
      have : ∀ x : Fin 10, asc (UInt8.ofNat (48 + x.val)) = true := by decide
      exact this ⟨m, hm⟩
    split at hb
    · rw [List.mem_singleton] at hb; subst hb; exact one n (by omega)
    · rcases List.mem_append.1 hb with h | h
      · exact ih (n / 10) (by omega) b h
      · rw [List.mem_singleton] at h; subst h; exact one _ (by omega)
theorem right_dec (n : Nat) : rightB (decS n) = true := right_ascii fun b hb => dec_asc n b (by simpa [decS] using hb)
theorem right_num {s : BA} (h : numB s = true) : rightB s = true := by
  unfold numB at h
  split at h
  · rename_i n hn; rw [← readN_dec hn]; exact right_dec n
  · cases h
theorem right_cnt {s : BA} (h : cntB s = true) : rightB s = true := by
  obtain ⟨n, hn, _⟩ := cnt_num h
  rw [← readN_dec hn]; exact right_dec n
theorem right_one {l : List BA} (hl : l.all (fun s => s.data.toList.all asc) = true) {s : BA} (h : oneB l s = true) : rightB s = true :=
  right_all (List.all_eq_true.1 hl s ((memB_iff _ _).1 h))
theorem right_states (b : Bool) {s : BA} (h : statesB b s = true) : rightB s = true := by
  cases b with
  | true => exact right_one (l := [kTo, kFrom, sBoth, sRemove]) (by decide) h
  | false => exact right_one (l := [kTo, kFrom, sBoth]) (by decide) h
theorem ats_ok {must may : Tst} {l : List At} {keys : List BA} (hf : FitsP must may l) (hk : KeysOf must may keys) (h1 : keys.length ≤ 6) (h2 : keys.all nameB = true) (h3 : ∀ x ∈ must ++ may, ∀ v, x.2 v = true → rightB v = true) : l.length ≤ 6 ∧ (∀ a ∈ l, nameB a.1 = true ∧ rightB a.2 = true) ∧ (l.map Prod.fst).Nodup := by
  refine ⟨?_, fun a ha => ?_, hf.nd⟩
  · rw [(canon_perm hf hk).length_eq]
    exact Nat.le_trans (List.length_filterMap_le _ _) h1
  · obtain ⟨p, g1, g2⟩ := atOk_mem (hf.ok a ha)
    exact ⟨List.all_eq_true.1 h2 _ (hk.mem a (hf.ok a ha)).1, h3 _ g1 _ g2⟩
theorem right_empty : rightB ⟨#[]⟩ = true := right_all (by decide)
theorem ok_leaf {m : Nat} {n t : BA} {l : List At} (hn : nameB n = true) (ht : rightB t = true) (h : l.length ≤ 6 ∧ (∀ a ∈ l, nameB a.1 = true ∧ rightB a.2 = true) ∧ (l.map Prod.fst).Nodup) : OkN (m + 1) (.mk n l t []) := ⟨hn, h.1, Nat.zero_le _, ht, h.2.1, h.2.2, fun e he => by cases he⟩
theorem nil_ok : ([] : List At).length ≤ 6 ∧ (∀ a ∈ ([] : List At), nameB a.1 = true ∧ rightB a.2 = true) ∧ (([] : List At).map Prod.fst).Nodup := ⟨Nat.zero_le _, fun a h => (List.not_mem_nil h).elim, List.nodup_nil⟩
theorem item_ok {m : Nat} {b : Bool} {e : El} {x : It} {r : Bool} (h : itemM b e = some (x, r)) : OkN (m + 1) e := by
  obtain ⟨n, l, t, k⟩ := e
  rw [itemM_eq] at h
  split at h
  · rename_i hc
    simp only [Bool.and_eq_true] at hc
    obtain ⟨⟨⟨g1, hf⟩, g2⟩, g3⟩ := hc
    obtain rfl := of_decide_eq_true g1
    obtain rfl := of_decide_eq_true g2
    obtain rfl := isEmpty_nil g3
    refine ok_leaf (by decide) right_empty (ats_ok (fits_iff.1 hf) (keys_item b) (by decide) (by decide) fun x hx v hv => ?_)
    simp only [shItem, List.cons_append, List.nil_append, List.mem_cons, List.not_mem_nil, or_false] at hx
    rcases hx with rfl | rfl | rfl | rfl
    · exact right_user hv
    · exact right_word hv
    · exact right_states b hv
    · exact right_one (l := [sSubscribe]) (by decide) hv
  · cases h
theorem items_ok {m : Nat} {b : Bool} : ∀ {ks : List El} {xs : List It} {r : Bool}, itemsGo b ks = some (xs, r) → ∀ e ∈ ks, OkN (m + 1) e
  | [], xs, r, h, e, he => by cases he
  | k :: l, xs, r, h, e, he => by
    simp only [itemsGo] at h
    split at h
    · rename_i x r1 h1
      split at h
      · rename_i ys r2 h2
        rcases List.mem_cons.1 he with rfl | he
        · exact item_ok h1
        · exact items_ok h2 e he
      · cases h
    · cases h
theorem asked_ok {m : Nat} {kd : Int} {id : BA} {q : El} {s : Sz} (h : askedM kd id q = some s) : OkN (m + 2) q := by
  obtain ⟨n, l, t, k⟩ := q
  rw [askedM_eq] at h
  split at h
  · rename_i hc
    simp only [Bool.and_eq_true] at hc
    obtain ⟨⟨⟨g1, hf⟩, g2⟩, h3⟩ := hc
    obtain rfl := of_decide_eq_true g1
    obtain rfl := of_decide_eq_true g2
    have h3 : k.length ≤ 16 := of_decide_eq_true h3
    have ha := ats_ok (fits_iff.1 hf) keys_query (by decide) (by decide) fun x hx v hv => by
      simp only [List.nil_append, List.mem_cons, List.not_mem_nil, or_false] at hx
      subst hx; exact right_num hv
    split at h
    · rename_i xs r hI
      exact ⟨by decide, ha.1, h3, right_empty, ha.2.1, ha.2.2, items_ok hI⟩
    · cases h
  · cases h
theorem pres_ok {t : BA} {l : List At} {k : List El} {s : Sz} (h : presM (.mk sPresence l t k) = (s, 0)) : OkN 4 (.mk sPresence l t k) := by
  unfold presM at h
  split at h
  · rename_i hc
    simp only [El.ats_mk, El.t_mk, El.ks_mk, Bool.and_eq_true] at hc h
    obtain ⟨hf, ht⟩ := hc
    obtain rfl := of_decide_eq_true ht
    have ha := ats_ok (fits_iff.1 hf) keys_pres (by decide) (by decide) fun x hx v hv => by
      simp only [shPres, List.nil_append, List.mem_cons, List.not_mem_nil, or_false] at hx
      rcases hx with rfl | rfl | rfl
      · exact right_one (l := [sUnav, sSubscribe, sSubscribed, sUnsub, sUnsubd]) (by decide) hv
      · exact right_place hv
      · exact right_place hv
    split at h
    · exact ok_leaf (by decide) right_empty ha
    · rename_i e
      split at h
      · rename_i hc
        cases h
        obtain ⟨⟨⟨⟨h1, h2⟩, h3⟩, h4⟩, h5⟩ := hc
        obtain ⟨en, ea, et, ek⟩ := e
        obtain rfl : en = sShow := of_decide_eq_true h2
        obtain rfl : ea = [] := isEmpty_nil h4
        obtain rfl : ek = [] := isEmpty_nil h5
        refine ⟨by decide, ha.1, by simp, right_empty, ha.2.1, ha.2.2, fun e he => ?_⟩
        rw [List.mem_singleton] at he
        subst he
        exact ok_leaf (by decide) (right_one (l := [sAway, sChat, sDnd, sXa]) (by decide) h3) nil_ok
      · cases h
    · cases h
  · cases h
theorem iq_ok {t : BA} {l : List At} {k : List El} {s : Sz} (h : iqM (.mk sIq l t k) = (s, 0)) : OkN 4 (.mk sIq l t k) := by
  cases hkd : kindM (valueM l kType) with
  | none =>
    have : iqM (.mk sIq l t k) = (zS, 6) := by
      unfold iqM; simp only [El.ats_mk, hkd]
    rw [this] at h; cases h
  | some kd =>
    rw [iqM_eq sIq l t k kd hkd] at h
    split at h
    · rename_i hc
      simp only [Bool.and_eq_true] at hc
      obtain ⟨hf, g2⟩ := hc
      obtain rfl := of_decide_eq_true g2
      have ha := ats_ok (fits_iff.1 hf) keys_iq (by decide) (by decide) fun x hx v hv => by
        simp only [List.append_nil, List.mem_cons, List.not_mem_nil, or_false] at hx
        rcases hx with rfl | rfl <;> exact right_word hv
      have one : ∀ e, OkN 3 e → OkN 4 (.mk sIq l ⟨#[]⟩ [e]) := fun e he => ⟨by decide, ha.1, by simp, right_empty, ha.2.1, ha.2.2, fun x hx => by rw [List.mem_singleton] at hx; subst hx; exact he⟩
      split at h
      · exact ok_leaf (by decide) right_empty ha
      · rename_i e
        split at h
        · split at h
          · rename_i hc
            simp only [Bool.and_eq_true] at hc
            obtain ⟨⟨⟨g1, g3⟩, g4⟩, g5⟩ := hc
            obtain ⟨en, ea, et, ek⟩ := e
            obtain rfl : en = sError := of_decide_eq_true g1
            obtain rfl : ea = [] := isEmpty_nil g4
            obtain rfl : ek = [] := isEmpty_nil g5
            exact one _ (ok_leaf (by decide) (right_word g3) nil_ok)
          · cases h
        · split at h
          · rename_i s' hs
            exact one _ (asked_ok hs)
          · cases h
      · cases h
    · cases h
theorem simple_ok {n t : BA} {l : List At} {k : List El} {s : Sz} {kd : Int} {must : Tst} (hp : plainsM n = some (kd, must)) (h : simpleM kd must (.mk n l t k) = (s, 0)) : OkN 4 (.mk n l t k) := by
  unfold simpleM at h
  split at h
  · rename_i hc
    simp only [El.ats_mk, El.t_mk, El.ks_mk, Bool.and_eq_true, decide_eq_true_eq] at hc
    obtain ⟨⟨hf, ht⟩, hk⟩ := hc
    obtain rfl := of_decide_eq_true ht
    obtain rfl := isEmpty_nil hk
    have hf := fits_iff.1 hf
    have k0 : KeysOf [] [] [] := ⟨List.nodup_nil, fun a h => by simp [atOk, lkT] at h⟩
    unfold plainsM at hp
    repeat' split at hp
    all_goals first | (cases hp; done) | skip
    all_goals
      rename_i hname
      try subst hname
      cases hp
    · exact ok_leaf (by decide) right_empty (ats_ok hf k0 (by decide) (by decide) fun x hx => by cases hx)
    · exact ok_leaf (by decide) right_empty (ats_ok hf k0 (by decide) (by decide) fun x hx => by cases hx)
    · exact ok_leaf (by decide) right_empty (ats_ok hf k0 (by decide) (by decide) fun x hx => by cases hx)
    · exact ok_leaf (by decide) right_empty (ats_ok hf k0 (by decide) (by decide) fun x hx => by cases hx)
    · exact ok_leaf (by decide) right_empty (ats_ok hf k0 (by decide) (by decide) fun x hx => by cases hx)
    · refine ok_leaf (by decide) right_empty (ats_ok hf keys_id (by decide) (by decide) fun x hx v hv => ?_)
      simp only [shId, List.append_nil, List.mem_cons, List.not_mem_nil, or_false] at hx
      subst hx; exact right_word hv
    · refine ok_leaf (by decide) right_empty (ats_ok hf keys_h (by decide) (by decide) fun x hx v hv => ?_)
      simp only [shH, List.append_nil, List.mem_cons, List.not_mem_nil, or_false] at hx
      subst hx; exact right_cnt hv
    all_goals
      refine ok_leaf (by decide) right_empty (ats_ok hf keys_both (by decide) (by decide) fun x hx v hv => ?_)
      simp only [shBoth, List.append_nil, List.mem_cons, List.not_mem_nil, or_false] at hx
      rcases hx with rfl | rfl
      · exact right_cnt hv
      · exact right_word hv
  · cases h
theorem read_ok {e : El} {s : Sz} (h : readM e = (s, 0)) : OkE 4 e := by
  obtain ⟨n, l, t, k⟩ := e
  unfold readM at h
  rw [El.n_mk] at h
  refine ⟨?_⟩
  by_cases hn : n = sPresence
  · rw [if_pos hn] at h
    subst hn; exact pres_ok h
  · rw [if_neg hn] at h
    by_cases hq : n = sIq
    · rw [if_pos hq] at h
      subst hq; exact iq_ok h
    · rw [if_neg hq] at h
      split at h
      · rename_i kd must hp
        exact simple_ok hp h
      · cases h
end Go.Proofs.YtoobhfbamikanaaDoor
