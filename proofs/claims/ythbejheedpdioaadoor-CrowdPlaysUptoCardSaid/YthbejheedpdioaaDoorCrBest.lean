import Derived.Test.YthbejheedpdioaaDoorCrUse
import Derived.Test.YthbejheedpdioaaDoorBindRank
set_option linter.unusedSimpArgs false
set_option linter.unusedVariables false
namespace Go.Proofs.YthbejheedpdioaaDoor
open Go Go.AM Go.RowKit
set_option maxRecDepth 10000
attribute [local irreducible] aUnr aUnS aCode
noncomputable abbrev GBs : List (FuncId × En) := [(13, .ref (frameE EDv)), (39, .det F11)]
theorem gBs : GSound Tryd.prog GBs := gsound_ref (RSound.frame cDv) (gsound_det c11 gsound_nil)
noncomputable def rBs_k0 (q : AV → (List Ob) → Prop) : Kont := kBlk (0 : Nat) (kSeq (aCode KC GBs (cAt [1, 1, 1, 1] Tryd.b22) (kRetF KC (Array.toList (Func.results Tryd.f22)) q)) (kRetF KC (Array.toList (Func.results Tryd.f22)) q))
theorem rBs (l : FLs) (u : ByteArray) (q : AV → List Ob → Prop) :
  (aCode KC GBs Tryd.b22 (kRetF KC Tryd.f22.results.toList q) ⟨[.rf 0 0, mkS u] ++ List.replicate (Tryd.f22.ntmps - 2) .jk, obC l⟩) = (
  ∃ (l_1 : FLs),
  ∃ (u_1 : ByteArray),
  ([AV.rf 0 0, mkS u] = [AV.rf 0 0, mkS u_1]) ∧
  ([Ob.box [AV.mp (0 + 1)], Ob.bun (famR (FamD.mk KK.str (Shp.map KK.str) l)), Ob.gh [AV.rf 0 0]] = [Ob.box [AV.mp 1], Ob.bun (famR (FamD.mk KK.str (Shp.map KK.str) l_1)), Ob.gh [AV.rf 0 0]]) ∧
  (CrOk l_1) ∧
  ((cntL l_1) ≤ (1000 : Nat)) ∧ (
   ∀ (ks : List ByteArray),
   (SortB ks (List.map (fun (x : Prod Key AV) => Prod.fst x) (devs l_1 u_1))) →
   ((Option.some (Ob.gh [AV.rf 0 0])) = (Option.some (Ob.gh [AV.rf 0 0]))) ∧ (
    ((List.length (strsD ks)) ≤ LIM) →
    ALoop (aCode KC GBs (cAt [1, 1, 1, 0, 1, 0, 0] Tryd.b22)) (rBs_k0 q) ⟨[AV.rf 0 0, mkS u, AV.jk, AV.jk, mkS ⟨#[]⟩, mkB false, AV.d (.sl (strsD ks)), AV.nl, AV.jk, AV.jk, AV.jk, AV.jk, AV.rf 0 0, mkS u, AV.d (.sl (strsD ks)), AV.d (.sl (strsD ks)), mkI .i64 ((List.length (strsD ks)) : Int), mkI .i64 0] ++ (jks 27), [Ob.box [AV.mp (if 1 < 2 then 1 else 4 + (1 - 2))], Ob.bun (famR (FamD.mk KK.str (Shp.map KK.str) l_1)), Ob.gh [AV.rf 0 0], Ob.gone, Ob.gone]⟩))) := by kernel_rfl
def stBs (l : FLs) (u : ByteArray) (ks sh : List (List D)) (i : Int) : S := ⟨[.rf 0 0, mkS u, .jk, .jk, mkS ⟨#[]⟩, mkB false, .d (.sl ks), .vw 5 sh.length, .jk, .jk, .jk, .jk, .rf 0 0, mkS u, .d (.sl ks), .d (.sl ks), mkI .i64 ks.length, mkI .i64 i] ++ jks 27, [cbo, fobC l, .gh [.rf 0 0], .gone, .gone, .row 1 sh]⟩
theorem rBs_b {ι : Type} (st : ι → S) (inv : ι → Prop) (μ : ι → Nat) (kk : ι) (l : FLs) (u : ByteArray) (ks sh : List (List D)) (i : Int) (q : AV → List Ob → Prop) :
  (aCode KC GBs (cAt [1, 1, 1, 0, 1, 0, 0] Tryd.b22) (kFamM [] (maskOf (stBs l u ks sh i)) st inv μ kk (rBs_k0 q)) (stBs l u ks sh i)) = (
  bcase (decide (i < ((List.length ks) : Int))) (
   (((0 : Int) ≤ i) ∧ (i < ((List.length ks) : Int))) ∧
   ((List.length (List.getD ks (Int.toNat i) [])) = 1) ∧
   ((1 : Nat) ≤ (List.length (List.getD ks (Int.toNat i) []))) ∧
   ((List.getD (List.getD ks (Int.toNat i) []) 0 d0) = (D.v (.string (strD (List.getD (List.getD ks (Int.toNat i) []) 0 d0))))) ∧
   bcase (hasF (Key.s u) l) (
    ∃ (b : Nat),
    ((blkF (Key.s u) l) = (Option.some b)) ∧
    ((mkS ⟨#[]⟩) = (mkS ⟨#[]⟩)) ∧ (
     ∃ (r : Rec),
     ((recF b l) = (Option.some r)) ∧
     (∀ (c : List D), (c ∈ [[D.v (.string (getS (Key.s (strD (List.getD (List.getD ks (Int.toNat i) []) 0 d0))) r.m))]]) → (List.length c) = 1) ∧
     ((List.length sh) = (List.length sh)) ∧
     (((List.length sh) + 1) ≤ LIM) ∧
     FamNext st inv μ kk ⟨[AV.rf 0 0, mkS u, AV.jk, AV.jk, mkS ⟨#[]⟩, mkB false, AV.d (.sl ks), AV.vw 5 ((List.length sh) + 1), AV.jk, AV.jk, AV.jk, AV.jk, AV.rf 0 0, mkS u, AV.d (.sl ks), AV.d (.sl ks), mkI .i64 ((List.length ks) : Int), mkI .i64 (IntKind.wrap .i64 (i + (1 : Int)))] ++ (jks 27), [Ob.box [AV.mp 1], Ob.bun (famR (FamD.mk KK.str (Shp.map KK.str) l)), Ob.gh [AV.rf 0 0], Ob.gone, Ob.gone, Ob.row 1 (sh ++ [[D.v (.string (getS (Key.s (strD (List.getD (List.getD ks (Int.toNat i) []) 0 d0))) r.m))]]), Ob.row 1 [[D.v (.string (getS (Key.s (strD (List.getD (List.getD ks (Int.toNat i) []) 0 d0))) r.m))]]]⟩)) (
    (∀ (c : List D), (c ∈ [[D.v (.string ⟨#[]⟩)]]) → (List.length c) = 1) ∧
    ((List.length sh) = (List.length sh)) ∧
    (((List.length sh) + 1) ≤ LIM) ∧
    FamNext st inv μ kk ⟨[AV.rf 0 0, mkS u, AV.jk, AV.jk, mkS ⟨#[]⟩, mkB false, AV.d (.sl ks), AV.vw 5 ((List.length sh) + 1), AV.jk, AV.jk, AV.jk, AV.jk, AV.rf 0 0, mkS u, AV.d (.sl ks), AV.d (.sl ks), mkI .i64 ((List.length ks) : Int), mkI .i64 (IntKind.wrap .i64 (i + (1 : Int)))] ++ (jks 27), [Ob.box [AV.mp 1], Ob.bun (famR (FamD.mk KK.str (Shp.map KK.str) l)), Ob.gh [AV.rf 0 0], Ob.gone, Ob.gone, Ob.row 1 (sh ++ [[D.v (.string ⟨#[]⟩)]]), Ob.row 1 [[D.v (.string ⟨#[]⟩)]]]⟩)) (
   ((ks = (strsD (unSS ks))) ∧ ((List.take (List.length sh) sh) = (strsD (unSS (List.take (List.length sh) sh))))) ∧
   bcase (!(Prod.snd (bestF (unSS ks) (unSS (List.take (List.length sh) sh))))) (
    q (AV.tp [mkS ⟨#[]⟩, mkB false]) [Ob.box [AV.mp 1], Ob.bun (famR (FamD.mk KK.str (Shp.map KK.str) l)), Ob.gh [AV.rf 0 0], Ob.gone, Ob.gone, Ob.row 1 sh]) (
    (((ByteArray.size u) + (ByteArray.size (⟨#[47]⟩ : ByteArray))) ≤ LIM) ∧
    (((ByteArray.size (u ++ (⟨#[47]⟩ : ByteArray))) + (ByteArray.size (Prod.fst (bestF (unSS ks) (unSS (List.take (List.length sh) sh)))))) ≤ LIM) ∧
    q (AV.tp [mkS ((u ++ (⟨#[47]⟩ : ByteArray)) ++ (Prod.fst (bestF (unSS ks) (unSS (List.take (List.length sh) sh))))), mkB true]) [Ob.box [AV.mp 1], Ob.bun (famR (FamD.mk KK.str (Shp.map KK.str) l)), Ob.gh [AV.rf 0 0], Ob.gone, Ob.gone, Ob.row 1 sh]))) := by kernel_rfl
def bsS (u : ByteArray) (r : ByteArray × Bool) : ByteArray := if r.2 = true then u ++ ⟨#[47]⟩ ++ r.1 else ⟨#[]⟩
def bsR (u : ByteArray) (r : ByteArray × Bool) : AV := .tp [mkS (bsS u r), mkB r.2]
def shOf (m : MapL) (ks : List ByteArray) : List ByteArray := ks.map fun d => getS (.s d) m
theorem shOf_len (m : MapL) (ks : List ByteArray) : (shOf m ks).length = ks.length := by simp [shOf]
theorem strsD_app (a : List ByteArray) (d : ByteArray) : strsD a ++ [[D.v (.string d)]] = strsD (a ++ [d]) := by simp [strsD]
theorem bestF_size {ks sh : List ByteArray} {n : Nat} (h : ∀ d ∈ ks, d.size ≤ n) : (bestF ks sh).1.size ≤ n := by
  unfold bestF
  split
  · exact Nat.zero_le _
  · rename_i h0
    have hb := bestTo_lt sh ks.length h0
    show (ks.getD (bestTo sh ks.length) ⟨#[]⟩).size ≤ n
    rw [List.getD_eq_getElem?_getD, List.getElem?_eq_getElem hb]
    exact h _ (List.getElem_mem hb)
def EBs : REnt := fun al o q => ∃ l u, al = [.rf 0 0, mkS u] ∧ o = obC l ∧ CrOk l ∧ cntL l ≤ 1000 ∧ u.size ≤ SZC ∧ ∀ ks, SortB ks ((devs l u).map (·.1)) → q (bsR u (bestF ks (shOf (devs l u) ks))) (obC l)
theorem cBs : RSound Tryd.prog 22 EBs := by
  refine ref_gen trimW trimW_ok (code_bsound (c := Tryd.b22) mixed KC_ok gBs) KC_ok Tryd.func22 rfl rfl Tryd.call22 fun al o q ⟨l, u, h1, h2, hC, hn, hu, hq⟩ => ?_
  subst h1 h2
  refine cast (rBs l u (trimW q)).symm ⟨l, u, rfl, rfl, hC, hn, fun ks hks => ⟨rfl, fun hlim => ALoop.openT 7 1 (by omega) ?_⟩⟩
  have hlim : ks.length ≤ 2147483648 := by rw [strsD_length] at hlim; exact hlim
  have hsz : ∀ d ∈ ks, d.size ≤ SZC := fun d hd => by
    have hm := (hks.perm.mem_iff).1 (List.mem_map_of_mem (f := Key.s) hd)
    obtain ⟨p, hp, he⟩ := List.mem_map.1 hm
    rcases devs_cases hC u with ⟨b, r, h1, h2, h3, h4⟩ | ⟨h2, _⟩
    · rw [h2] at hp
      obtain ⟨d', v, rfl, h5, _⟩ := h4.str p hp
      have : d' = d := Key.s.inj he
      rw [← this]; exact h5
    · rw [h2] at hp; cases hp
  refine ALoop.introM [] (maskOf (stBs l u (strsD ks) [] 0)) (fun j : Nat => stBs l u (strsD ks) (strsD (shOf (devs l u) (ks.take j))) (j : Int)) (fun j => j ≤ ks.length) (fun j => ks.length - j)
    ⟨[], 0, by simp [S.le, sealAll, leL, leA, leO, jks, stBs, S.openT, shOf, strsD, mkI, mkS, mkB, S.fits, fitsL, AV.fits, Ob.fits, fobC, cbo], Nat.zero_le _⟩ fun j hj => ?_
  have hlen : (strsD (shOf (devs l u) (ks.take j))).length = j := by
    have : j ≤ ks.length := hj
    rw [strsD_length, shOf_len, List.length_take]; omega
  refine cast (rBs_b _ _ _ j l u (strsD ks) (strsD (shOf (devs l u) (ks.take j))) (j : Int) (trimW q)).symm (bcase_dec (fun hlt => ?_) (fun hge => ?_))
  · have hlt : j < ks.length := by rw [strsD_length] at hlt; omega
    have w1 : IntKind.wrap .i64 ((j : Int) + 1) = ((j + 1 : Nat) : Int) := by rw [IntWalk.i64_in _ (by omega)]; omega
    have e0 : (strsD ks).getD ((j : Int).toNat) [] = [.v (.string ks[j])] := by rw [Int.toNat_natCast]; exact strsD_getD ks _ hlt |>.trans (by simp [List.getD_eq_getElem?_getD, hlt])
    have e1 : ks.take (j + 1) = ks.take j ++ [ks[j]] := by rw [List.take_add_one, List.getElem?_eq_getElem hlt]; rfl
    have e2 : shOf (devs l u) (ks.take (j + 1)) = shOf (devs l u) (ks.take j) ++ [getS (.s ks[j]) (devs l u)] := by unfold shOf; rw [e1, List.map_append]; rfl
    have hst : ∀ x : ByteArray, x = getS (.s ks[j]) (devs l u) → S.le (sealAll [] ⟨[.rf 0 0, mkS u, .jk, .jk, mkS ⟨#[]⟩, mkB false, .d (.sl (strsD ks)), .vw 5 ((strsD (shOf (devs l u) (ks.take j))).length + 1), .jk, .jk, .jk, .jk, .rf 0 0, mkS u, .d (.sl (strsD ks)), .d (.sl (strsD ks)), mkI .i64 (strsD ks).length, mkI .i64 (j + 1 : Nat)] ++ jks 27,
        [cbo, fobC l, .gh [.rf 0 0], .gone, .gone, .row 1 (strsD (shOf (devs l u) (ks.take j)) ++ [[D.v (.string x)]]), .row 1 [[D.v (.string x)]]]⟩) (stBs l u (strsD ks) (strsD (shOf (devs l u) (ks.take (j + 1)))) ((j + 1 : Nat) : Int)) := fun x hx => by
      rw [e2, hx, strsD_app]
      have hl2 : (strsD (shOf (devs l u) (ks.take j))).length + 1 = (strsD (shOf (devs l u) (ks.take j) ++ [getS (.s ks[j]) (devs l u)])).length := by simp [strsD]
      rw [hl2]
      generalize strsD (shOf (devs l u) (ks.take j) ++ [getS (.s ks[j]) (devs l u)]) = ot
      generalize strsD ks = kd
      simp [sealAll, S.le, leL, leA, leO, jks, stBs, mkI, mkS, mkB, S.fits, fitsL, AV.fits, Ob.fits, fobC, cbo]
    rw [e0, w1]
    refine ⟨⟨by omega, by rw [strsD_length]; omega⟩, rfl, by simp, rfl, ?_⟩
    simp only [List.getD_cons_zero, strD_str]
    refine bcase_mk (fun h => ?_) (fun h => ?_)
    · obtain ⟨b, r, hb, hr, hm⟩ := has_yes hC.nd h
      exact ⟨b, hb, trivial, r, hr, fun c hc => by simp at hc; simp [hc], trivial, by rw [hlen]; unfold LIM; omega, .mk [] (j + 1) (hst _ (by rw [devs_mem hC hm])) hlt (show ks.length - (j + 1) < ks.length - j by omega)⟩
    · exact ⟨fun c hc => by simp at hc; simp [hc], trivial, by rw [hlen]; unfold LIM; omega, .mk [] (j + 1) (hst _ (by rw [devs_no (has_no h)]; rfl)) hlt (show ks.length - (j + 1) < ks.length - j by omega)⟩
  · have hj2 : j = ks.length := by rw [strsD_length] at hge; have : j ≤ ks.length := hj; omega
    subst hj2
    rw [List.take_length] at hlen ⊢
    rw [List.take_length]
    simp only [unSS_strsD]
    have hq := hq ks hks
    have hbs := bestF_size (sh := shOf (devs l u) ks) hsz
    refine ⟨by simp, bcase_mk (fun hb => ?_) (fun hb => ?_)⟩
    · have hb : ¬ (bestF ks (shOf (devs l u) ks)).2 = true := by simpa using hb
      unfold bsR bsS at hq
      rw [if_neg hb, show (bestF ks (shOf (devs l u) ks)).2 = false by simpa using hb] at hq
      exact ⟨_, _, weak_packG [some 0, some 1, some 2] rfl, hq⟩
    · have hb : (bestF ks (shOf (devs l u) ks)).2 = true := by simpa using hb
      unfold bsR bsS at hq
      rw [if_pos hb, hb] at hq
      have s1 : (⟨#[47]⟩ : ByteArray).size = 1 := rfl
      have s2 : (u ++ (⟨#[47]⟩ : ByteArray)).size = u.size + 1 := by rw [ByteArray.size_append]; rfl
      refine ⟨by rw [s1]; unfold SZC at hu; unfold LIM; omega, by rw [s2]; unfold SZC at hu hbs; unfold LIM; omega, _, _, weak_packG [some 0, some 1, some 2] rfl, hq⟩
end Go.Proofs.YthbejheedpdioaaDoor
