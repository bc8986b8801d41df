import Derived.Test.YtoobhfbamikanaaDoorStaLive
set_option linter.unusedSimpArgs false
set_option linter.unusedVariables false
namespace Go.Proofs.YtoobhfbamikanaaDoor
open Go Go.AM Go.RowKit
attribute [local irreducible] aCode aUnr aUnS aOut
def ECutG (H : Prop) (f : El → El) (dp : Int) : List AV → (AV → Prop) → Prop := fun al q => ∃ n l t k, al = [.ag [mkS n, .d (.sl (atsD l)), mkS t, .d (.sl (ksD k))], mkI .i64 dp] ∧ H ∧ FitE (.mk n l t k) ∧ q (elV (f (.mk n l t k)))
noncomputable abbrev GCut (H : Prop) (f : El → El) (dp : Int) : List (FuncId × En) := [(11, .pure (ECutG H f dp))]
noncomputable def rCut_k0 (H : Prop) (f : El → El) (dp : Int) (q : AV → Prop) : Kont := kBlk (0 : Nat) (kSeq (aCode KS (GCut H f dp) (cAt [1, 1, 1, 1, 1] Tryd.b11) (kRet KS (Array.toList (Func.results Tryd.f11)) q)) (kRet KS (Array.toList (Func.results Tryd.f11)) q))
theorem rCut (H : Prop) (f : El → El) (dp : Int) (n : BA) (l : List At) (t : BA) (k : List El) (d : Int) (q : AV → Prop) :
  (aCode KS (GCut H f dp) Tryd.b11 (kRet KS Tryd.f11.results.toList q) ⟨[.ag [mkS n, .d (.sl (atsD l)), mkS t, .d (.sl (ksD k))], mkI .i64 d] ++ List.replicate (Tryd.f11.ntmps - 2) .jk, []⟩) = (
  ((List.length (atsD l)) ≤ LIM) →
  (IntKind.i64 = IntKind.i64) ∧
  (((0 : Int) ≤ (if (8 : Int) < ((List.length (atsD l)) : Int) then (8 : Int) else ((List.length (atsD l)) : Int))) ∧ ((if (8 : Int) < ((List.length (atsD l)) : Int) then (8 : Int) else ((List.length (atsD l)) : Int)) ≤ ((List.length (atsD l)) : Int))) ∧ (
   ((List.length (ksD k)) ≤ LIM) →
   (IntKind.i64 = IntKind.i64) ∧
   (((0 : Int) ≤ (if (20 : Int) < ((List.length (ksD k)) : Int) then (20 : Int) else ((List.length (ksD k)) : Int))) ∧ ((if (20 : Int) < ((List.length (ksD k)) : Int) then (20 : Int) else ((List.length (ksD k)) : Int)) ≤ ((List.length (ksD k)) : Int))) ∧
   ALoop (aCode KS (GCut H f dp) (cAt [1, 1, 1, 1, 0, 1, 0, 0] Tryd.b11)) (rCut_k0 H f dp q) ⟨[AV.ag [mkS n, AV.d (D.sl (atsD l)), mkS t, AV.d (D.sl (ksD k))], mkI .i64 d, AV.rf 0 0, AV.jk, AV.rf 1 0, AV.d (D.sl (List.take (Int.toNat (if (20 : Int) < ((List.length (ksD k)) : Int) then (20 : Int) else ((List.length (ksD k)) : Int))) (ksD k))), mkI .i64 0, AV.rf 0 (0 + 1), AV.d (D.sl (atsD l)), AV.rf 0 (0 + 1), AV.d (D.sl (atsD l)), mkI .i64 ((List.length (atsD l)) : Int), mkI .i64 (if (8 : Int) < ((List.length (atsD l)) : Int) then (8 : Int) else ((List.length (atsD l)) : Int)), AV.d (D.sl (List.take (Int.toNat (if (8 : Int) < ((List.length (atsD l)) : Int) then (8 : Int) else ((List.length (atsD l)) : Int))) (atsD l))), AV.rf 0 (0 + 1), AV.rf 0 (0 + 3), AV.d (D.sl (ksD k)), AV.rf 0 (0 + 3), AV.d (D.sl (ksD k)), mkI .i64 ((List.length (ksD k)) : Int), mkI .i64 (if (20 : Int) < ((List.length (ksD k)) : Int) then (20 : Int) else ((List.length (ksD k)) : Int)), AV.d (D.sl (List.take (Int.toNat (if (20 : Int) < ((List.length (ksD k)) : Int) then (20 : Int) else ((List.length (ksD k)) : Int))) (ksD k))), AV.rf 0 (0 + 3)] ++ (jks 23), [Ob.box [mkS n, AV.d (D.sl (List.take (Int.toNat (if (8 : Int) < ((List.length (atsD l)) : Int) then (8 : Int) else ((List.length (atsD l)) : Int))) (atsD l))), mkS t, AV.nl], Ob.box [mkS (⟨#[]⟩ : ByteArray), AV.nl, mkS (⟨#[]⟩ : ByteArray), AV.nl]]⟩)) := by kernel_rfl
def stCut (n : BA) (l : List At) (t : BA) (k : List El) (d : Int) (i : Int) (ks : List El) : S := ⟨[.jk, mkI .i64 d, .rf 0 0, .jk, .rf 1 0, .d (.sl (ksD k)), mkI .i64 i] ++ jks 39, [.box [mkS n, .d (.sl (atsD l)), mkS t, .vw 2 (ksD ks).length], .box [mkS ⟨#[]⟩, .nl, mkS ⟨#[]⟩, .nl], .row 4 (ksD ks)]⟩
theorem rCut_b {ι : Type} (st : ι → S) (inv : ι → Prop) (μ : ι → Nat) (kk : ι) (H : Prop) (f : El → El) (dp : Int) (n : BA) (l : List At) (t : BA) (k : List El) (d : Int) (i : Int) (ks : List El) (q : AV → Prop) :
  (aCode KS (GCut H f dp) (cAt [1, 1, 1, 1, 0, 1, 0, 0] Tryd.b11) (kFamM [] (maskOf (stCut n l t k d i ks)) st inv μ kk (rCut_k0 H f dp q)) (stCut n l t k d i ks)) = (
  ((List.length (ksD k)) ≤ LIM) →
  bcase (decide (i < ((List.length (ksD k)) : Int))) (
   bcase (decide (d < (5 : Int))) (
    (((0 : Int) ≤ i) ∧ (i < ((List.length (ksD k)) : Int))) ∧
    ((List.length (List.getD (ksD k) (Int.toNat i) [])) = 4) ∧
    (4 ≤ (List.length (List.getD (ksD k) (Int.toNat i) []))) ∧
    (((List.getD (List.getD (ksD k) (Int.toNat i) []) 0 d0) = (D.v (Value.string (strD (List.getD (List.getD (ksD k) (Int.toNat i) []) 0 d0))))) ∧ (((List.getD (List.drop 1 (List.getD (ksD k) (Int.toNat i) [])) 0 d0) = (D.sl (slD (List.getD (List.drop 1 (List.getD (ksD k) (Int.toNat i) [])) 0 d0)))) ∧ (((List.getD (List.drop 1 (List.drop 1 (List.getD (ksD k) (Int.toNat i) []))) 0 d0) = (D.v (Value.string (strD (List.getD (List.drop 1 (List.drop 1 (List.getD (ksD k) (Int.toNat i) []))) 0 d0))))) ∧ (((List.getD (List.drop 1 (List.drop 1 (List.drop 1 (List.getD (ksD k) (Int.toNat i) [])))) 0 d0) = (D.sl (slD (List.getD (List.drop 1 (List.drop 1 (List.drop 1 (List.getD (ksD k) (Int.toNat i) [])))) 0 d0)))) ∧ True)))) ∧
    (∃ (n_1 : ByteArray), ∃ (l_1 : List At), ∃ (t_1 : ByteArray), ∃ (k_1 : List El), ([AV.ag [mkS (strD (List.getD (List.getD (ksD k) (Int.toNat i) []) 0 d0)), AV.d (D.sl (slD (List.getD (List.drop 1 (List.getD (ksD k) (Int.toNat i) [])) 0 d0))), mkS (strD (List.getD (List.drop 1 (List.drop 1 (List.getD (ksD k) (Int.toNat i) []))) 0 d0)), AV.d (D.sl (slD (List.getD (List.drop 1 (List.drop 1 (List.drop 1 (List.getD (ksD k) (Int.toNat i) [])))) 0 d0)))], mkI .i64 (IntKind.wrap .i64 (d + (1 : Int)))] = [AV.ag [mkS n_1, AV.d (D.sl (atsD l_1)), mkS t_1, AV.d (D.sl (ksD k_1))], mkI .i64 dp]) ∧ (H ∧ ((FitE (El.mk n_1 l_1 t_1 k_1)) ∧ ((∀ (c : List D), (c ∈ [[D.v (Value.string (El.n (f (El.mk n_1 l_1 t_1 k_1)))), D.sl (atsD (El.ats (f (El.mk n_1 l_1 t_1 k_1)))), D.v (Value.string (El.t (f (El.mk n_1 l_1 t_1 k_1)))), D.sl (ksD (El.ks (f (El.mk n_1 l_1 t_1 k_1))))]]) → (List.length c) = 4) ∧ (((List.length (ksD ks)) = (List.length (ksD ks))) ∧ ((((List.length (ksD ks)) + 1) ≤ LIM) ∧ (FamNext st inv μ kk ⟨[AV.jk, mkI .i64 d, AV.rf 0 0, AV.jk, AV.rf 1 0, AV.d (D.sl (ksD k)), mkI .i64 (IntKind.wrap .i64 (i + (1 : Int)))] ++ (jks 39), [Ob.box [mkS n, AV.d (D.sl (atsD l)), mkS t, AV.vw 2 ((List.length (ksD ks)) + 1)], Ob.box [mkS (⟨#[]⟩ : ByteArray), AV.nl, mkS (⟨#[]⟩ : ByteArray), AV.nl], Ob.row 4 ((ksD ks) ++ [[D.v (Value.string (El.n (f (El.mk n_1 l_1 t_1 k_1)))), D.sl (atsD (El.ats (f (El.mk n_1 l_1 t_1 k_1)))), D.v (Value.string (El.t (f (El.mk n_1 l_1 t_1 k_1)))), D.sl (ksD (El.ks (f (El.mk n_1 l_1 t_1 k_1))))]]), Ob.row 4 [[D.v (Value.string (El.n (f (El.mk n_1 l_1 t_1 k_1)))), D.sl (atsD (El.ats (f (El.mk n_1 l_1 t_1 k_1)))), D.v (Value.string (El.t (f (El.mk n_1 l_1 t_1 k_1)))), D.sl (ksD (El.ks (f (El.mk n_1 l_1 t_1 k_1))))]]]⟩))))))) ∧ (
     ∃ (n_1 : ByteArray),
     ∃ (l_1 : List At),
     ∃ (t_1 : ByteArray),
     ∃ (k_1 : List El),
     ([AV.ag [mkS (strD (List.getD (List.getD (ksD k) (Int.toNat i) []) 0 d0)), AV.d (D.sl (slD (List.getD (List.drop 1 (List.getD (ksD k) (Int.toNat i) [])) 0 d0))), mkS (strD (List.getD (List.drop 1 (List.drop 1 (List.getD (ksD k) (Int.toNat i) []))) 0 d0)), AV.d (D.sl (slD (List.getD (List.drop 1 (List.drop 1 (List.drop 1 (List.getD (ksD k) (Int.toNat i) [])))) 0 d0)))], mkI .i64 (IntKind.wrap .i64 (d + (1 : Int)))] = [AV.ag [mkS n_1, AV.d (D.sl (atsD l_1)), mkS t_1, AV.d (D.sl (ksD k_1))], mkI .i64 dp]) ∧
     H ∧
     (FitE (El.mk n_1 l_1 t_1 k_1)) ∧
     ((∀ (c : List D), (c ∈ [[D.v (Value.string (El.n (f (El.mk n_1 l_1 t_1 k_1)))), D.sl (atsD (El.ats (f (El.mk n_1 l_1 t_1 k_1)))), D.v (Value.string (El.t (f (El.mk n_1 l_1 t_1 k_1)))), D.sl (ksD (El.ks (f (El.mk n_1 l_1 t_1 k_1))))]]) → (List.length c) = 4) ∧ (((List.length (ksD ks)) = (List.length (ksD ks))) ∧ ((((List.length (ksD ks)) + 1) ≤ LIM) ∧ (FamNext st inv μ kk ⟨[AV.jk, mkI .i64 d, AV.rf 0 0, AV.jk, AV.rf 1 0, AV.d (D.sl (ksD k)), mkI .i64 (IntKind.wrap .i64 (i + (1 : Int)))] ++ (jks 39), [Ob.box [mkS n, AV.d (D.sl (atsD l)), mkS t, AV.vw 2 ((List.length (ksD ks)) + 1)], Ob.box [mkS (⟨#[]⟩ : ByteArray), AV.nl, mkS (⟨#[]⟩ : ByteArray), AV.nl], Ob.row 4 ((ksD ks) ++ [[D.v (Value.string (El.n (f (El.mk n_1 l_1 t_1 k_1)))), D.sl (atsD (El.ats (f (El.mk n_1 l_1 t_1 k_1)))), D.v (Value.string (El.t (f (El.mk n_1 l_1 t_1 k_1)))), D.sl (ksD (El.ks (f (El.mk n_1 l_1 t_1 k_1))))]]), Ob.row 4 [[D.v (Value.string (El.n (f (El.mk n_1 l_1 t_1 k_1)))), D.sl (atsD (El.ats (f (El.mk n_1 l_1 t_1 k_1)))), D.v (Value.string (El.t (f (El.mk n_1 l_1 t_1 k_1)))), D.sl (ksD (El.ks (f (El.mk n_1 l_1 t_1 k_1))))]]]⟩)))) ∧
     (∀ (c : List D), (c ∈ [[D.v (Value.string (El.n (f (El.mk n_1 l_1 t_1 k_1)))), D.sl (atsD (El.ats (f (El.mk n_1 l_1 t_1 k_1)))), D.v (Value.string (El.t (f (El.mk n_1 l_1 t_1 k_1)))), D.sl (ksD (El.ks (f (El.mk n_1 l_1 t_1 k_1))))]]) → (List.length c) = 4) ∧
     ((List.length (ksD ks)) = (List.length (ksD ks))) ∧
     (((List.length (ksD ks)) + 1) ≤ LIM) ∧
     FamNext st inv μ kk ⟨[AV.jk, mkI .i64 d, AV.rf 0 0, AV.jk, AV.rf 1 0, AV.d (D.sl (ksD k)), mkI .i64 (IntKind.wrap .i64 (i + (1 : Int)))] ++ (jks 39), [Ob.box [mkS n, AV.d (D.sl (atsD l)), mkS t, AV.vw 2 ((List.length (ksD ks)) + 1)], Ob.box [mkS (⟨#[]⟩ : ByteArray), AV.nl, mkS (⟨#[]⟩ : ByteArray), AV.nl], Ob.row 4 ((ksD ks) ++ [[D.v (Value.string (El.n (f (El.mk n_1 l_1 t_1 k_1)))), D.sl (atsD (El.ats (f (El.mk n_1 l_1 t_1 k_1)))), D.v (Value.string (El.t (f (El.mk n_1 l_1 t_1 k_1)))), D.sl (ksD (El.ks (f (El.mk n_1 l_1 t_1 k_1))))]]), Ob.row 4 [[D.v (Value.string (El.n (f (El.mk n_1 l_1 t_1 k_1)))), D.sl (atsD (El.ats (f (El.mk n_1 l_1 t_1 k_1)))), D.v (Value.string (El.t (f (El.mk n_1 l_1 t_1 k_1)))), D.sl (ksD (El.ks (f (El.mk n_1 l_1 t_1 k_1))))]]]⟩)) (
    q (AV.ag [mkS n, AV.d (D.sl (atsD l)), mkS t, AV.d (D.sl (List.take (List.length (ksD ks)) (ksD ks)))]))) (
   q (AV.ag [mkS n, AV.d (D.sl (atsD l)), mkS t, AV.d (D.sl (List.take (List.length (ksD ks)) (ksD ks)))]))) := by kernel_rfl
theorem tk20 (k : List El) : List.take (Int.toNat (if (20 : Int) < ((ksD k).length : Int) then 20 else ((ksD k).length : Int))) (ksD k) = ksD (k.take 20) := by
  rw [ksD_len, ksD_eq, ksD_eq, List.map_take]
  split
  · rfl
  · rename_i h
    rw [Int.toNat_natCast, List.take_of_length_le (by simp), List.take_of_length_le (by simp; omega)]
theorem tk8 (l : List At) : List.take (Int.toNat (if (8 : Int) < ((atsD l).length : Int) then 8 else ((atsD l).length : Int))) (atsD l) = atsD (l.take 8) := by
  unfold atsD
  rw [List.length_map, List.map_take]
  split
  · rfl
  · rename_i h
    rw [Int.toNat_natCast, List.take_of_length_le (by simp), List.take_of_length_le (by simp; omega)]
def cutF (f : El → El) (d : Int) (e : El) : El := .mk e.n (e.ats.take 8) e.t (if d < 5 then (e.ks.take 20).map f else [])
theorem ksD_snoc2 (l : List El) (e : El) : ksD (l ++ [e]) = ksD l ++ [[D.v (.string e.n), D.sl (atsD e.ats), D.v (.string e.t), D.sl (ksD e.ks)]] := by
  obtain ⟨n, a, t, k⟩ := e
  rw [ksD_eq, ksD_eq, List.map_append]; simp [elD, El.n, El.ats, El.t, El.ks]
theorem cutWalk (H : Prop) (f : El → El) (dp : Int) (h : PSound Tryd.prog 11 (ECutG H f dp)) (d : Int) (hd : 0 ≤ d ∧ d ≤ 5) (hH : d < 5 → H ∧ dp = d + 1) : PSound Tryd.prog 11 (ECutG True (cutF f d) d) := by
  refine pure_fn (c := Tryd.b11) mixed KS_ok (gsound_pure h gsound_nil) Tryd.func11 rfl rfl Tryd.call11 fun al q ⟨n, l, t, k, h1, _, hf, hq⟩ => ?_
  subst h1
  have hw : IntKind.wrap .i64 (d + 1) = d + 1 := IntWalk.i64_in _ (by omega)
  refine cast (rCut H f dp n l t k d q).symm fun _ => ⟨rfl, by split <;> omega, fun _ => ⟨rfl, by split <;> omega, ?_⟩⟩
  rw [tk20, tk8]
  refine ALoop.openB 0 3 4 (by omega) (ALoop.introM [] (maskOf (stCut n (l.take 8) t (k.take 20) d 0 [])) (fun i : Nat => stCut n (l.take 8) t (k.take 20) d i (((k.take 20).take i).map f)) (fun i => i ≤ (k.take 20).length ∧ (d < 5 ∨ i = 0)) (fun i => (k.take 20).length - i) ⟨[], 0, ?_, Nat.zero_le _, .inr rfl⟩ fun i ⟨hi, hI⟩ => ?_)
  · simp [S.le, S.openB, openNil, sealAll, leL, leA, leO, jks, stCut, S.fits, fitsL, AV.fits, Ob.fits, mkS, mkI, mkB, ksD]
  · have hkl : (((k.take 20).take i).map f).length = i := by rw [List.length_map, List.length_take]; omega
    have hk20 : (k.take 20).length ≤ 20 := by rw [List.length_take]; omega
    have fin : (if d < 5 then (k.take 20).map f else []) = ((k.take 20).take i).map f → q (.ag [mkS n, .d (.sl (atsD (l.take 8))), mkS t, .d (.sl (List.take (ksD (((k.take 20).take i).map f)).length (ksD (((k.take 20).take i).map f))))]) := fun e => by
      rw [List.take_length, ← e]; exact hq
    refine cast (rCut_b _ _ _ i H f dp n (l.take 8) t (k.take 20) d i (((k.take 20).take i).map f) q).symm fun hlim => bcase_dec (fun hlt => bcase_dec (fun h5 => ?_) (fun h5 => ?_)) (fun hge => ?_)
    · rw [ksD_len] at hlt hlim
      have hlt : i < (k.take 20).length := by omega
      have hgd := ksD_getD (k.take 20) i hlt
      have hmem := List.mem_of_mem_take (List.getElem_mem hlt)
      have tk : ((k.take 20).take (i + 1)).map f = ((k.take 20).take i).map f ++ [f (k.take 20)[i]] := by
        rw [List.take_add_one, List.getElem?_eq_getElem hlt]; simp
      generalize (k.take 20)[i] = e at hgd hmem tk
      have hfe : e.fit := fitK_mem (El.fit_ks hf.ok) e hmem
      obtain ⟨en, ea, et, ek⟩ := e
      simp only [elD] at hgd
      obtain ⟨hh, hdp⟩ := hH h5
      have hw2 : IntKind.wrap .i64 (d + 1) = dp := by rw [hw, hdp]
      have hb : (ksD (((k.take 20).take i).map f)).length + 1 ≤ LIM := by rw [ksD_len, hkl]; unfold LIM; omega
      simp only [Int.toNat_natCast, hgd, List.getD_cons_zero, List.drop_succ_cons, List.drop_zero, strD, slD, hw2]
      have st : ∀ s1, S.le s1 (stCut n (l.take 8) t (k.take 20) d ((i + 1 : Nat) : Int) (((k.take 20).take i).map f ++ [f (.mk en ea et ek)])) →
          FamNext (fun i : Nat => stCut n (l.take 8) t (k.take 20) d i (((k.take 20).take i).map f)) (fun i => i ≤ (k.take 20).length ∧ (d < 5 ∨ i = 0)) (fun i => (k.take 20).length - i) i s1 := fun s1 h2 => by
        refine .mk [] (i + 1) ?_ ⟨hlt, .inl h5⟩ (by show (k.take 20).length - (i + 1) < (k.take 20).length - i; omega)
        show S.le s1 (stCut n (l.take 8) t (k.take 20) d ((i + 1 : Nat) : Int) (((k.take 20).take (i + 1)).map f))
        rw [tk]
        exact h2
      refine ⟨⟨by omega, by rw [ksD_len]; omega⟩, rfl, Nat.le_refl _, ⟨by trivial, by trivial, by trivial, by trivial, trivial⟩, ?_⟩
      try refine And.intro ?_ ?_
      all_goals
        refine ⟨en, ea, et, ek, rfl, hh, ⟨hfe⟩, ?_⟩
        try refine And.intro ⟨by simp, by trivial, hb, ?_⟩ ?_
      all_goals
        try refine ⟨by simp, by trivial, hb, ?_⟩
        refine st _ ?_
        rw [wrap_succ hlt hlim]
        simp [S.le, sealAll, leL, leA, leO, jks, stCut, S.fits, fitsL, AV.fits, Ob.fits, KK.isSy, mkS, mkI, mkB, ksD_snoc2]
    · refine fin ?_
      rw [if_neg h5]
      rcases hI with h | h
      · exact absurd h h5
      · subst h; simp
    · rw [ksD_len] at hge
      have e : i = (k.take 20).length := by omega
      refine fin ?_
      rcases hI with h | h
      · rw [if_pos h, e, List.take_length]
      · have hz : k.take 20 = [] := List.eq_nil_of_length_eq_zero (by omega)
        rw [hz]; simp
def cutM : Nat → El → El
  | 0, e => cutF (fun e => e) 5 e
  | d + 1, e => cutF (cutM d) (4 - d) e
theorem cCut : ∀ d : Nat, d ≤ 4 → PSound Tryd.prog 11 (ECutG True (cutM d) (5 - d))
  | 0, _ => cutWalk False (fun e => e) 0 (pure_fn (c := Tryd.b11) mixed KS_ok gsound_nil Tryd.func11 rfl rfl Tryd.call11 fun al q ⟨n, l, t, k, _, h, _⟩ => h.elim) 5 (by omega) (fun h => absurd h (by omega))
  | d + 1, h => by
    have e : (5 : Int) - ((d + 1 : Nat) : Int) = 4 - d := by omega
    rw [e]
    exact cutWalk True (cutM d) (5 - d) (cCut d (by omega)) (4 - d) (by omega) fun _ => ⟨trivial, by omega⟩
end Go.Proofs.YtoobhfbamikanaaDoor
