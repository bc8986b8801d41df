import Derived.Test.YthbejheedpdioaaDoorCrHear
set_option linter.unusedSimpArgs false
set_option linter.unusedVariables false
set_option maxRecDepth 10000
namespace Go.Proofs.YthbejheedpdioaaDoor
open Go Go.AM Go.RowKit
attribute [local irreducible] aUnr aUnS aCode
noncomputable def rCnt_k0 (q : AV → (List Ob) → Prop) : Kont := kBlk (0 : Nat) (kSeq (aCode KC [] (cAt [1, 1, 1] Tryd.b25) (kRetF KC (Array.toList (Func.results Tryd.f25)) q)) (kRetF KC (Array.toList (Func.results Tryd.f25)) q))
theorem rCnt (l : FLs) (q : AV → List Ob → Prop) :
  (aCode KC [] Tryd.b25 (kRetF KC Tryd.f25.results.toList q) ⟨[.rf 0 0] ++ List.replicate (Tryd.f25.ntmps - 1) .jk, obC l⟩) = (
  ∀ (Z : FrZ),
  ALoop (aCode KC [] (cAt [1, 1, 0, 1, 0, 0] Tryd.b25)) (rCnt_k0 q) ⟨[AV.rf 0 0, AV.jk, mkI .i64 0, mkI .i64 0, AV.jk, AV.jk, AV.rf 0 0, AV.rf 0 0, AV.rf 0 (0 + 0), AV.mp 1, AV.rf 3 0] ++ (jks 9), [Ob.box [AV.mp 1], Ob.bun (frzR (famR (FamD.mk KK.str (Shp.map KK.str) l)) Z), Ob.gh [AV.rf 0 0], Ob.bun (itR (ItD.mk Z (entsF (Shp.map KK.str) l) VK.map false [] Option.none))]⟩) := by kernel_rfl
abbrev itC (Z : FrZ) (ents : List (Key × AV)) (vis : List Nat) (cur : Option (AV × AV)) : Ob := .bun (itR ⟨Z, ents, .map, false, vis, cur⟩)
abbrev fzC (l : FLs) (Z : FrZ) : Ob := .bun (frzR (famR ⟨.str, .map .str, l⟩) Z)
def stCn (l : FLs) (Z : FrZ) (ents : List (Key × AV)) (n : Int) (vis : List Nat) (cur : Option (AV × AV)) : S := ⟨[.rf 0 0, .jk, mkI .i64 0, mkI .i64 n, .jk, .jk, .rf 0 0, .rf 0 0, .rf 0 0, .mp 1, .rf 3 0] ++ jks 9, [cbo, fzC l Z, .gh [.rf 0 0], itC Z ents vis cur]⟩
theorem rCnt_b {ι : Type} (st : ι → S) (inv : ι → Prop) (μ : ι → Nat) (kk : ι) (l : FLs) (Z : FrZ) (ents : List (Key × AV)) (n : Int) (vis : List Nat) (cur : Option (AV × AV)) (q : AV → List Ob → Prop) :
  (aCode KC [] (cAt [1, 1, 0, 1, 0, 0] Tryd.b25) (kFamM [] (maskOf (stCn l Z ents n vis cur)) st inv μ kk (rCnt_k0 q)) (stCn l Z ents n vis cur)) = (
  (Z = Z) ∧
  (∀ (n_1 : Nat), ∀ (k : Key), ∀ (v : AV), ((GetElem?.getElem? ents n_1) = (Option.some (k, v))) → ((n_1 ∈ vis) → False) → ∃ (b : Nat), (v = (AV.d (D.v (.map (Option.some b))))) ∧ ((Z = Z) ∧ (∃ (r : Rec), ((recF b l) = (Option.some r)) ∧ (FamNext st inv μ kk ⟨[AV.rf 0 0, AV.jk, mkI .i64 0, mkI .i64 (IntKind.wrap .i64 (n + ((List.length r.m) : Int))), AV.jk, AV.jk, AV.rf 0 0, AV.rf 0 0, AV.rf 0 0, AV.mp 1, AV.rf 3 0] ++ (jks 9), [Ob.box [AV.mp 1], Ob.bun (frzR (famR (FamD.mk KK.str (Shp.map KK.str) l)) Z), Ob.gh [AV.rf 0 0], Ob.bun (itR (ItD.mk Z ents VK.map false (List.cons n_1 vis) (Option.some (AV.jk, AV.d (D.v (.map (Option.some b)))))))]⟩)))) ∧ (
   (∀ (n_1 : Nat), (n_1 < (List.length ents)) → n_1 ∈ vis) →
   q (mkI .i64 n) [Ob.box [AV.mp 1], Ob.bun (frzR (famR (FamD.mk KK.str (Shp.map KK.str) l)) Z), Ob.gh [AV.rf 0 0], Ob.bun (itR (ItD.mk Z ents VK.map false vis cur))])) := by kernel_rfl
def lenAt (l : FLs) (n : Nat) : Nat := match l[n]? with | some e => e.2.2.m.length | none => 0
def sumV (f : Nat → Nat) (vis : List Nat) : Nat := (vis.map f).sum
theorem sum_range {f : Nat → Nat} : ∀ (l : FLs), (∀ n (h : n < l.length), f n = l[n].2.2.m.length) → ((List.range l.length).map f).sum = cntL l
  | [], _ => rfl
  | e :: l, h => by
    rw [List.length_cons, List.range_succ_eq_map, List.map_cons, List.sum_cons, List.map_map]
    have := sum_range (f := f ∘ Nat.succ) l fun n hn => h (n + 1) (by simpa using hn)
    rw [this, cnt_cons, h 0 (by simp)]
    rfl
theorem all_perm {k : Nat} {vis : List Nat} (hn : vis.Nodup) (hl : ∀ n ∈ vis, n < k) (hall : ∀ n, n < k → n ∈ vis) : vis.Perm (List.range k) :=
  (List.perm_ext_iff_of_nodup hn List.nodup_range).2 fun n => by rw [List.mem_range]; exact ⟨hl n, hall n⟩
theorem sum_all {l : FLs} {vis : List Nat} (hn : vis.Nodup) (hl : ∀ n ∈ vis, n < l.length) (hall : ∀ n, n < l.length → n ∈ vis) : sumV (lenAt l) vis = cntL l := by
  unfold sumV
  rw [((all_perm hn hl hall).map _).sum_nat]
  exact sum_range l fun n h => by simp [lenAt, h]
theorem rest_perm {k : Nat} {vis : List Nat} (hn : vis.Nodup) (hl : ∀ n ∈ vis, n < k) : (vis ++ (List.range k).filter fun n => decide (n ∉ vis)).Perm (List.range k) := by
  refine (List.perm_ext_iff_of_nodup (List.nodup_append.2 ⟨hn, List.nodup_range.sublist List.filter_sublist, fun a ha b hb e => ?_⟩) List.nodup_range).2 fun n => ?_
  · subst e
    have := (List.mem_filter.1 hb).2
    simp [ha] at this
  · rw [List.mem_append, List.mem_filter, List.mem_range]
    constructor
    · rintro (h | ⟨h, _⟩)
      · exact hl n h
      · exact h
    · intro h
      by_cases hv : n ∈ vis
      · exact .inl hv
      · exact .inr ⟨h, by simpa using hv⟩
theorem vis_len {k : Nat} {vis : List Nat} (hn : vis.Nodup) (hl : ∀ n ∈ vis, n < k) : vis.length ≤ k := by
  have := (rest_perm hn hl).length_eq
  rw [List.length_append, List.length_range] at this
  omega
theorem sum_le {l : FLs} {vis : List Nat} (hn : vis.Nodup) (hl : ∀ n ∈ vis, n < l.length) : sumV (lenAt l) vis ≤ cntL l := by
  have h1 := ((rest_perm hn hl).map (lenAt l)).sum_nat
  rw [List.map_append, List.sum_append, sum_range (f := lenAt l) l fun n h => by simp [lenAt, h]] at h1
  unfold sumV
  omega
theorem ents_at {l : FLs} {n : Nat} {k : Key} {v : AV} (h : (entsF (.map .str) l)[n]? = some (k, v)) : ∃ b r, ∃ (hn : n < l.length), l[n] = (k, b, r) ∧ v = .d (.v (.map (some b))) := by
  unfold entsF at h
  rw [List.getElem?_map] at h
  cases hh : l[n]? with
  | none => rw [hh] at h; cases h
  | some e =>
    rw [hh] at h
    obtain ⟨hn, he⟩ := List.getElem?_eq_some_iff.1 hh
    simp only [Option.map_some, Option.some.injEq, Prod.mk.injEq] at h
    exact ⟨e.2.1, e.2.2, hn, by rw [he, ← h.1], h.2.symm⟩
theorem cCnt : RSound Tryd.prog 25 ECnt := by
  refine ref_gen trimW trimW_ok (code_bsound (c := Tryd.b25) mixed KC_ok gsound_nil) KC_ok Tryd.func25 rfl rfl Tryd.call25 fun al o q ⟨l, h1, h2, hC, hn, hq⟩ => ?_
  subst h1 h2
  refine cast (rCnt l (trimW q)).symm fun Z => ?_
  refine ALoop.introM [] (maskOf (stCn l Z (entsF (.map .str) l) 0 [] none)) (fun x : List Nat × Option (AV × AV) => stCn l Z (entsF (.map .str) l) (sumV (lenAt l) x.1 : Nat) x.1 x.2) (fun x => x.1.Nodup ∧ ∀ n ∈ x.1, n < l.length) (fun x => l.length - x.1.length)
    ⟨[], ([], none), by simp [cbo, S.le, sealAll, leL, leA, leO, jks, stCn, mkI, mkS, mkB, S.fits, fitsL, AV.fits, Ob.fits, sumV], List.nodup_nil, fun n hn => by cases hn⟩ fun ⟨vis, cur⟩ ⟨hnd, hlt⟩ => ?_
  refine cast (rCnt_b _ _ _ (vis, cur) l Z (entsF (.map .str) l) (sumV (lenAt l) vis : Nat) vis cur (trimW q)).symm ⟨rfl, fun n k v hv hnv => ?_, fun hall => ?_⟩
  · obtain ⟨b, r, hn1, he, rfl⟩ := ents_at hv
    have hm : (k, b, r) ∈ l := he ▸ List.getElem_mem hn1
    have hnd2 : (n :: vis).Nodup := List.nodup_cons.2 ⟨fun h => hnv h, hnd⟩
    have hlt2 : ∀ m ∈ n :: vis, m < l.length := fun m hm => by
      rcases List.mem_cons.1 hm with rfl | hm
      · exact hn1
      · exact hlt m hm
    have hlen := vis_len hnd2 hlt2
    rw [List.length_cons] at hlen
    have hs := sum_le hnd2 hlt2
    have e1 : sumV (lenAt l) (n :: vis) = r.m.length + sumV (lenAt l) vis := by
      unfold sumV
      rw [List.map_cons, List.sum_cons]
      congr 1
      simp [lenAt, hn1, he]
    have w1 : IntKind.wrap .i64 ((sumV (lenAt l) vis : Nat) + (r.m.length : Int)) = (sumV (lenAt l) (n :: vis) : Nat) := by rw [IntWalk.i64_in _ (by omega)]; omega
    refine ⟨b, rfl, rfl, r, rec_mem hC.nd hm, ?_⟩
    rw [w1]
    refine .mk [] (n :: vis, some (.jk, .d (.v (.map (some b))))) ?_ ⟨hnd2, hlt2⟩ (by show l.length - (vis.length + 1) < l.length - vis.length; omega)
    show S.le _ (stCn l Z (entsF (.map .str) l) (sumV (lenAt l) (n :: vis) : Nat) (n :: vis) (some (.jk, .d (.v (.map (some b))))))
    generalize (sumV (lenAt l) (n :: vis) : Nat) = z
    generalize entsF (.map .str) l = ents
    simp [cbo, S.le, sealAll, leL, leA, leO, jks, stCn, mkI, mkS, mkB, S.fits, fitsL, AV.fits, Ob.fits]
  · have hs := sum_all hnd hlt fun n hn => hall n (by simpa [entsF] using hn)
    rw [hs]
    exact ⟨_, _, (weak_thaw (j := 1) rfl rfl).trans (weak_packG [some 0, some 1, some 2] rfl), hq⟩
end Go.Proofs.YthbejheedpdioaaDoor

namespace Go.Proofs.YthbejheedpdioaaDoor
open Go Go.AM Go.RowKit
attribute [local irreducible] aUnr aUnS aCode
noncomputable abbrev KS : TypeId → Option TK := symK KC [39]
theorem KS_ok : KOk Tryd.prog KS := symK_ok KC_ok [39]
noncomputable def rCt_k0 (q : AV → (List Ob) → Prop) : Kont := kBlk (0 : Nat) (kSeq (aCode KS [] (cAt [1, 1, 1, 1] Tryd.b15) (kRetF KS (Array.toList (Func.results Tryd.f15)) q)) (kRetF KS (Array.toList (Func.results Tryd.f15)) q))
theorem rCt (l : FLs) (q : AV → List Ob → Prop) :
  (aCode KS [] Tryd.b15 (kRetF KS Tryd.f15.results.toList q) ⟨[.rf 0 0] ++ List.replicate (Tryd.f15.ntmps - 1) .jk, obC l⟩) = (
  ∀ (Z : FrZ),
  ALoop (aCode KS [] (cAt [1, 1, 1, 0, 1, 0, 0] Tryd.b15)) (rCt_k0 q) ⟨[AV.rf 0 0, AV.jk, AV.d (D.v (.map Option.none)), AV.mp 3, AV.jk, AV.jk, AV.jk, AV.jk, AV.rf 0 0, mkB false, AV.mp 3, AV.rf 0 0, AV.rf 0 0, AV.rf 0 (0 + 0), AV.mp 1, AV.rf 4 0] ++ (jks 15), [Ob.box [AV.mp 1], Ob.bun (frzR (famR (FamD.mk KK.str (Shp.map KK.str) l)) Z), Ob.gh [AV.rf 0 0], Ob.map KK.ystr [], Ob.bun (itR (ItD.mk Z (entsF (Shp.map KK.str) l) VK.map false [] Option.none))]⟩) := by kernel_rfl
def stCt (l : FLs) (Z : FrZ) (ents : List (Key × AV)) (m : MapL) (vis : List Nat) (cur : Option (AV × AV)) : S := ⟨[.rf 0 0, .jk, .d (.v (.map none)), .mp 3, .jk, .jk, .jk, .jk, .rf 0 0, mkB false, .mp 3, .rf 0 0, .rf 0 0, .rf 0 0, .mp 1, .rf 4 0] ++ jks 15, [cbo, fzC l Z, .gh [.rf 0 0], .map .ystr m, itC Z ents vis cur]⟩
noncomputable def rCt_b_k0 {ι : Type} (st : ι → S) (inv : ι → Prop) (μ : ι → Nat) (kk : ι) (l : FLs) (Z : FrZ) (ents : List (Prod Key AV)) (m : MapL) (vis : List Nat) (cur : Option (Prod AV AV)) (q : AV → (List Ob) → Prop) : Kont := kBlk (2 : Nat) (kBlk (1 : Nat) (kFamM [] (maskOf (stCt l Z ents m vis cur)) st inv μ kk (rCt_k0 q)))
theorem rCt_b {ι : Type} (st : ι → S) (inv : ι → Prop) (μ : ι → Nat) (kk : ι) (l : FLs) (Z : FrZ) (ents : List (Key × AV)) (m : MapL) (vis : List Nat) (cur : Option (AV × AV)) (q : AV → List Ob → Prop) :
  (aCode KS [] (cAt [1, 1, 1, 0, 1, 0, 0] Tryd.b15) (kFamM [] (maskOf (stCt l Z ents m vis cur)) st inv μ kk (rCt_k0 q)) (stCt l Z ents m vis cur)) = (
  (Z = Z) ∧
  (∀ (n : Nat), ∀ (k : Key), ∀ (v : AV), ((GetElem?.getElem? ents n) = (Option.some (k, v))) → ((n ∈ vis) → False) → ∃ (b : Nat), (v = (AV.d (D.v (.map (Option.some b))))) ∧ ((Z = Z) ∧ (∃ (r : Rec), ((recF b l) = (Option.some r)) ∧ (∀ (Z_1 : FrZ), ALoop (aCode KS [] (cAt [1, 1, 1, 0, 1, 0, 0, 1, 1, 0, 1, 1, 0, 0] Tryd.b15)) (rCt_b_k0 st inv μ kk l Z ents m vis cur q) ⟨[AV.rf 0 0, AV.jk, AV.d (D.v (.map Option.none)), AV.mp 3, AV.jk, AV.d (D.v (.map (Option.some b))), AV.jk, AV.jk, AV.rf 0 0, mkB false, AV.mp 3, AV.rf 0 0, AV.rf 0 0, AV.rf 0 0, AV.mp 1, AV.rf 4 0, AV.tp [mkB true, AV.jk, AV.d (D.v (.map (Option.some b)))], mkB true, AV.tp [AV.jk, AV.d (D.v (.map (Option.some b)))], AV.d (D.v (.map (Option.some b))), AV.d (D.v (.map (Option.some b))), AV.rf 5 0] ++ (jks 9), [Ob.box [AV.mp 1], Ob.bun (frzR (frzR (famR (FamD.mk KK.str (Shp.map KK.str) l)) Z) Z_1), Ob.gh [AV.rf 0 0], Ob.map KK.ystr m, Ob.bun (itR (ItD.mk Z ents VK.map false (List.cons n vis) (Option.some (AV.jk, AV.d (D.v (.map (Option.some b))))))), Ob.bun (itR (ItD.mk Z_1 r.m VK.str false [] Option.none))]⟩)))) ∧ (
   (∀ (n : Nat), (n < (List.length ents)) → n ∈ vis) →
   q (AV.mp 3) [Ob.box [AV.mp 1], Ob.bun (frzR (famR (FamD.mk KK.str (Shp.map KK.str) l)) Z), Ob.gh [AV.rf 0 0], Ob.map KK.ystr m, Ob.bun (itR (ItD.mk Z ents VK.map false vis cur))])) := by kernel_rfl
abbrev itS (Z : FrZ) (ents : List (Key × AV)) (vis : List Nat) (cur : Option (AV × AV)) : Ob := .bun (itR ⟨Z, ents, .str, false, vis, cur⟩)
abbrev fz2 (l : FLs) (Z Y : FrZ) : Ob := .bun (frzR (frzR (famR ⟨.str, .map .str, l⟩) Z) Y)
def stCi (l : FLs) (Z Y : FrZ) (ents ents2 : List (Key × AV)) (m : MapL) (vis : List Nat) (cur : Option (AV × AV)) (vis2 : List Nat) (cur2 : Option (AV × AV)) : S := ⟨[.rf 0 0, .jk, .d (.v (.map none)), .mp 3, .jk, .jk, .jk, .jk, .rf 0 0, mkB false, .mp 3, .rf 0 0, .rf 0 0, .rf 0 0, .mp 1, .rf 4 0, .jk, .jk, .jk, .jk, .jk, .rf 5 0] ++ jks 9,
  [cbo, fz2 l Z Y, .gh [.rf 0 0], .map .ystr m, itC Z ents vis cur, itS Y ents2 vis2 cur2]⟩
theorem rCt_i {ι ι2 : Type} (st : ι → S) (inv : ι → Prop) (μ : ι → Nat) (kk : ι) (st2 : ι2 → S) (inv2 : ι2 → Prop) (μ2 : ι2 → Nat) (kk2 : ι2) (l : FLs) (Z Y : FrZ) (ents ents2 : List (Key × AV)) (m0 m : MapL) (vis0 vis : List Nat) (cur0 cur : Option (AV × AV)) (vis2 : List Nat) (cur2 : Option (AV × AV)) (q : AV → List Ob → Prop) :
  (aCode KS [] (cAt [1, 1, 1, 0, 1, 0, 0, 1, 1, 0, 1, 1, 0, 0] Tryd.b15) (kFamM [] (maskOf (stCi l Z Y ents ents2 m vis cur vis2 cur2)) st2 inv2 μ2 kk2 (rCt_b_k0 st inv μ kk l Z ents m0 vis0 cur0 q)) (stCi l Z Y ents ents2 m vis cur vis2 cur2)) = (
  ((Y = Y) ∨ (Z = Y)) ∧
  (∀ (n : Nat), ∀ (k : Key), ∀ (v : AV), ((GetElem?.getElem? ents2 n) = (Option.some (k, v))) → ((n ∈ vis2) → False) → ∃ (s : ByteArray), (v = (mkS s)) ∧ (((Y = Y) ∨ (Z = Y)) ∧ (∃ (n_1 : Int), ((getO (Key.s s) m (mkI .i64 0)) = (mkI .i64 n_1)) ∧ (FamNext st2 inv2 μ2 kk2 ⟨[AV.rf 0 0, AV.jk, AV.d (D.v (.map Option.none)), AV.mp 3, AV.jk, AV.jk, AV.jk, AV.jk, AV.rf 0 0, mkB false, AV.mp 3, AV.rf 0 0, AV.rf 0 0, AV.rf 0 0, AV.mp 1, AV.rf 4 0, AV.jk, AV.jk, AV.jk, AV.jk, AV.jk, AV.rf 5 0] ++ (jks 9), [Ob.box [AV.mp 1], Ob.bun (frzR (frzR (famR (FamD.mk KK.str (Shp.map KK.str) l)) Z) Y), Ob.gh [AV.rf 0 0], Ob.map KK.ystr (setKeyA (Key.s s) (mkI .i64 (IntKind.wrap .i64 (n_1 + (1 : Int)))) m), Ob.bun (itR (ItD.mk Z ents VK.map false vis cur)), Ob.bun (itR (ItD.mk Y ents2 VK.str false (List.cons n vis2) (Option.some (AV.jk, mkS s))))]⟩)))) ∧ (
   (∀ (n : Nat), (n < (List.length ents2)) → n ∈ vis2) →
   FamNext st inv μ kk ⟨[AV.rf 0 0, AV.jk, AV.d (D.v (.map Option.none)), AV.mp 3, AV.jk, AV.jk, AV.jk, AV.jk, AV.rf 0 0, mkB false, AV.mp 3, AV.rf 0 0, AV.rf 0 0, AV.rf 0 0, AV.mp 1, AV.rf 4 0] ++ (jks 15), [Ob.box [AV.mp 1], Ob.bun (frzR (frzR (famR (FamD.mk KK.str (Shp.map KK.str) l)) Z) Y), Ob.gh [AV.rf 0 0], Ob.map KK.ystr m, Ob.bun (itR (ItD.mk Z ents VK.map false vis cur)), Ob.bun (itR (ItD.mk Y ents2 VK.str false vis2 cur2))]⟩)) := by kernel_rfl
structure CtM (m : MapL) (f : ByteArray → Nat) (T : Nat) : Prop where
  nd : (m.map (·.1)).Nodup
  val : ∀ p ∈ m, ∃ d, p = (Key.s d, mkI .i64 (f d)) ∧ d.size ≤ LIM ∧ 0 < f d
  has : ∀ d, 0 < f d → ∃ v, (Key.s d, v) ∈ m
  le : ∀ d, f d ≤ T
  tot : (m.map fun p => intA p.2).sum = T
theorem mem_find {k : Key} {v : AV} : ∀ {m : MapL}, (m.map (·.1)).Nodup → (k, v) ∈ m → findKeyA k m = some v
  | (k', u) :: m, hn, h => by
    rw [List.map_cons, List.nodup_cons] at hn
    simp only [findKeyA]
    rcases List.mem_cons.1 h with h | h
    · cases h; rw [if_pos rfl]
    · rw [if_neg (fun e => hn.1 (by show k' ∈ _; rw [e]; exact List.mem_map_of_mem (f := fun x : Key × AV => x.1) h))]
      exact mem_find hn.2 h
theorem ct_get {m : MapL} {f : ByteArray → Nat} {T : Nat} (h : CtM m f T) (d : ByteArray) : getO (.s d) m (mkI .i64 0) = mkI .i64 (f d) := by
  unfold getO
  cases hf : findKeyA (.s d) m with
  | none =>
    have h0 : f d = 0 := by
      rcases Nat.eq_zero_or_pos (f d) with h0 | h0
      · exact h0
      · obtain ⟨v, hv⟩ := h.has d h0
        rw [mem_find h.nd hv] at hf; cases hf
    rw [h0]; rfl
  | some v =>
    obtain ⟨d', he, _⟩ := h.val _ (find_mem hf)
    have e1 : d = d' := Key.s.inj (Prod.mk.inj he).1
    have e2 : v = mkI .i64 (f d') := (Prod.mk.inj he).2
    rw [e1, e2]; rfl
theorem set_sum {k : Key} {v : AV} : ∀ (m : MapL), ((setKeyA k v m).map fun p => intA p.2).sum + intA (getO k m (mkI .i64 0)) = (m.map fun p => intA p.2).sum + intA v
  | [] => by simp [setKeyA, getO, findKeyA, mkI, intA]
  | (k', u) :: m => by
    by_cases h : k' = k
    · simp [setKeyA, getO, findKeyA, h]; omega
    · have := set_sum (k := k) (v := v) m
      simp only [getO] at this
      simp only [setKeyA, getO, findKeyA, if_neg h, List.map_cons, List.sum_cons]
      omega
theorem set_nd {k : Key} {v : AV} : ∀ {m : MapL}, (m.map (·.1)).Nodup → ((setKeyA k v m).map (·.1)).Nodup
  | [], _ => by simp [setKeyA]
  | (k', u) :: m, hn => by
    rw [List.map_cons, List.nodup_cons] at hn
    simp only [setKeyA]
    split
    · rw [List.map_cons, List.nodup_cons]; exact hn
    · rename_i hne
      rw [List.map_cons, List.nodup_cons]
      refine ⟨fun hm => ?_, set_nd hn.2⟩
      obtain ⟨p, hp, he⟩ := List.mem_map.1 hm
      rcases set_keys p hp with h | h
      · rw [h] at he; exact hne he.symm
      · exact hn.1 (by rw [← he]; exact List.mem_map_of_mem (f := fun x : Key × AV => x.1) h)
theorem set_mem {k : Key} {v : AV} : ∀ {m : MapL}, (m.map (·.1)).Nodup → ∀ p, p ∈ setKeyA k v m ↔ p = (k, v) ∨ (p ∈ m ∧ p.1 ≠ k)
  | [], _, p => by simp [setKeyA]
  | (k', u) :: m, hn, p => by
    rw [List.map_cons, List.nodup_cons] at hn
    simp only [setKeyA]
    by_cases h : k' = k
    · subst h
      simp only [if_true, List.mem_cons]
      constructor
      · rintro (h | h)
        · exact .inl h
        · exact .inr ⟨.inr h, fun e => hn.1 (by show k' ∈ _; rw [← e]; exact List.mem_map_of_mem (f := fun x : Key × AV => x.1) h)⟩
      · rintro (h | ⟨h | h, h2⟩)
        · exact .inl h
        · exact absurd (by rw [h]) h2
        · exact .inr h
    · simp only [if_neg h, List.mem_cons, set_mem hn.2 p]
      constructor
      · rintro (h1 | h1 | ⟨h1, h2⟩)
        · exact .inr ⟨.inl h1, by rw [h1]; exact h⟩
        · exact .inl h1
        · exact .inr ⟨.inr h1, h2⟩
      · rintro (h1 | ⟨h1 | h1, h2⟩)
        · exact .inr (.inl h1)
        · exact .inl h1
        · exact .inr (.inr ⟨h1, h2⟩)
theorem ct_set {m : MapL} {f f' : ByteArray → Nat} {T : Nat} (h : CtM m f T) {d : ByteArray} (hd : d.size ≤ LIM) (hf : ∀ x, f' x = f x + if x = d then 1 else 0) : CtM (setKeyA (.s d) (mkI .i64 (f d + 1 : Nat)) m) f' (T + 1) where
  nd := set_nd h.nd
  val p hp := by
    rcases (set_mem h.nd p).1 hp with rfl | ⟨h1, h2⟩
    · exact ⟨d, by rw [hf d, if_pos rfl], hd, by rw [hf d, if_pos rfl]; omega⟩
    · obtain ⟨d', rfl, h3, h4⟩ := h.val p h1
      have hne : d' ≠ d := fun e => h2 (by rw [e])
      exact ⟨d', by rw [hf d', if_neg hne]; rfl, h3, by rw [hf d']; omega⟩
  has x hx := by
    by_cases e : x = d
    · subst e; exact ⟨_, (set_mem h.nd _).2 (.inl rfl)⟩
    · rw [hf x, if_neg e] at hx
      obtain ⟨v, hv⟩ := h.has x hx
      exact ⟨v, (set_mem h.nd _).2 (.inr ⟨hv, fun e2 => e (Key.s.inj e2)⟩)⟩
  le x := by
    rw [hf x]
    have := h.le x
    split <;> omega
  tot := by
    have h1 := set_sum (k := .s d) (v := mkI .i64 (f d + 1 : Nat)) m
    rw [ct_get h d, h.tot] at h1
    simp only [mkI, intA] at h1 ⊢
    omega
theorem ct_nil {f : ByteArray → Nat} (hf : ∀ d, f d = 0) : CtM [] f 0 where
  nd := List.nodup_nil
  val p hp := by cases hp
  has d hd := by rw [hf d] at hd; omega
  le d := by rw [hf d]; exact Nat.le_refl _
  tot := rfl
theorem CtM.to {m : MapL} {f f' : ByteArray → Nat} {T T' : Nat} (h : CtM m f T) (hf : ∀ d, f d = f' d) (hT : T = T') : CtM m f' T' := by
  have : f = f' := funext hf
  subst this hT
  exact h
def eqAt (m : MapL) (d : ByteArray) (k : Nat) : Nat := match m[k]? with | some p => if strA p.2 = d then 1 else 0 | none => 0
def nSh (m : MapL) (d : ByteArray) : Nat := sumV (eqAt m d) (List.range m.length)
def shAt (l : FLs) (d : ByteArray) (n : Nat) : Nat := match l[n]? with | some e => nSh e.2.2.m d | none => 0
def shN (l : FLs) (d : ByteArray) : Nat := sumV (shAt l d) (List.range l.length)
theorem sumV_perm {f : Nat → Nat} {a b : List Nat} (h : a.Perm b) : sumV f a = sumV f b := (h.map f).sum_nat
theorem sumV_cons (f : Nat → Nat) (n : Nat) (a : List Nat) : sumV f (n :: a) = f n + sumV f a := by unfold sumV; rw [List.map_cons, List.sum_cons]
def ECt : REnt := fun al o q => ∃ l, al = [.rf 0 0] ∧ o = obC l ∧ CrOk l ∧ cntL l ≤ 1000 ∧ ∀ m, CtM m (shN l) (cntL l) → q (.mp 3) [cbo, fobC l, .gh [.rf 0 0], .map .ystr m]
theorem weak_unfz {s : S} {j : Nat} {R : Rep} {Z : FrZ} (hj : s.o[j]? = some (.bun (frzR R Z))) : Weak s ⟨s.t, s.o.set j (.bun R)⟩ := fun w0 own0 X a hs => by
  obtain ⟨hz, hp⟩ := hs.g.rel j _ hj
  exact ⟨X, rfl, swap_srel hs hj rfl hz (ob' := .bun R) rfl (by simp) ⟨hz, hp.1⟩⟩
theorem cCt : RSound Tryd.prog 15 ECt := by
  refine ref_gen trimW trimW_ok (code_bsound (c := Tryd.b15) mixed KS_ok gsound_nil) KS_ok Tryd.func15 rfl rfl Tryd.call15 fun al o q ⟨l, h1, h2, hC, hn, hq⟩ => ?_
  subst h1 h2
  refine cast (rCt l (trimW q)).symm fun Z => ?_
  refine ALoop.introM [] (maskOf (stCt l Z (entsF (.map .str) l) [] [] none)) (fun x : List Nat × Option (AV × AV) × MapL => stCt l Z (entsF (.map .str) l) x.2.2 x.1 x.2.1) (fun x => x.1.Nodup ∧ (∀ n ∈ x.1, n < l.length) ∧ CtM x.2.2 (fun d => sumV (shAt l d) x.1) (sumV (lenAt l) x.1)) (fun x => l.length - x.1.length)
    ⟨[], ([], none, []), by simp [cbo, S.le, sealAll, leL, leA, leO, jks, stCt, mkI, mkS, mkB, S.fits, fitsL, AV.fits, Ob.fits], List.nodup_nil, (fun n hn => by cases hn), ct_nil fun d => rfl⟩ fun ⟨vis, cur, m⟩ ⟨hnd, hlt, hct⟩ => ?_
  refine cast (rCt_b _ _ _ (vis, cur, m) l Z (entsF (.map .str) l) m vis cur (trimW q)).symm ⟨rfl, fun n k v hv hnv => ?_, fun hall => ?_⟩
  · obtain ⟨b, r, hn1, he, rfl⟩ := ents_at hv
    have hm : (k, b, r) ∈ l := he ▸ List.getElem_mem hn1
    have hM := (hC.ms _ hm).2
    have hnd2 : (n :: vis).Nodup := List.nodup_cons.2 ⟨fun h => hnv h, hnd⟩
    have hlt2 : ∀ m ∈ n :: vis, m < l.length := fun m hm => by
      rcases List.mem_cons.1 hm with rfl | hm
      · exact hn1
      · exact hlt m hm
    have hlen := vis_len hnd2 hlt2
    rw [List.length_cons] at hlen
    have hs := sum_le hnd2 hlt2
    have e1 : sumV (lenAt l) (n :: vis) = r.m.length + sumV (lenAt l) vis := by
      rw [sumV_cons]
      congr 1
      simp [lenAt, hn1, he]
    refine ⟨b, rfl, rfl, r, rec_mem hC.nd hm, fun Y => ?_⟩
    refine ALoop.introM [] (maskOf (stCi l Z Y (entsF (.map .str) l) r.m m (n :: vis) (some (.jk, rawM b)) [] none)) (fun x : List Nat × Option (AV × AV) × MapL => stCi l Z Y (entsF (.map .str) l) r.m x.2.2 (n :: vis) (some (.jk, rawM b)) x.1 x.2.1)
      (fun x => x.1.Nodup ∧ (∀ n ∈ x.1, n < r.m.length) ∧ CtM x.2.2 (fun d => sumV (shAt l d) vis + sumV (eqAt r.m d) x.1) (sumV (lenAt l) vis + x.1.length)) (fun x => r.m.length - x.1.length)
      ⟨[], ([], none, m), ?_, List.nodup_nil, (fun n hn => by cases hn), hct.to (fun d => rfl) rfl⟩ fun ⟨vis2, cur2, m2⟩ ⟨hndi, hlti, hcti⟩ => ?_
    · generalize entsF (.map .str) l = ents
      simp [cbo, S.le, sealAll, leL, leA, leO, jks, stCi, mkI, mkS, mkB, S.fits, fitsL, AV.fits, Ob.fits]
    have hndi : vis2.Nodup := hndi
    have hlti : ∀ n ∈ vis2, n < r.m.length := hlti
    have hcti : CtM m2 (fun d => sumV (shAt l d) vis + sumV (eqAt r.m d) vis2) (sumV (lenAt l) vis + vis2.length) := hcti
    refine cast (rCt_i _ _ _ _ _ _ _ (vis2, cur2, m2) l Z Y (entsF (.map .str) l) r.m m m2 vis (n :: vis) cur (some (.jk, rawM b)) vis2 cur2 (trimW q)).symm ⟨.inl rfl, fun i k2 v2 hv2 hnv2 => ?_, fun hall2 => ?_⟩
    · obtain ⟨hi, hie⟩ := List.getElem?_eq_some_iff.1 hv2
      obtain ⟨d, x, hx, _, hxs⟩ := hM.str (k2, v2) (hie ▸ List.getElem_mem hi)
      cases hx
      have hndi2 : (i :: vis2).Nodup := List.nodup_cons.2 ⟨fun h => hnv2 h, hndi⟩
      have hlti2 : ∀ m ∈ i :: vis2, m < r.m.length := fun m hm => by
        rcases List.mem_cons.1 hm with rfl | hm
        · exact hi
        · exact hlti m hm
      have hleni := vis_len hndi2 hlti2
      rw [List.length_cons] at hleni
      refine ⟨x, rfl, .inl rfl, _, ct_get hcti x, ?_⟩
      have hle := hcti.le x
      have w1 : IntKind.wrap .i64 (((sumV (shAt l x) vis + sumV (eqAt r.m x) vis2 : Nat) : Int) + 1) = ((sumV (shAt l x) vis + sumV (eqAt r.m x) vis2 + 1 : Nat) : Int) := by rw [IntWalk.i64_in _ (by omega)]; omega
      rw [w1]
      refine .mk [] (i :: vis2, some (.jk, mkS x), setKeyA (.s x) (mkI .i64 (sumV (shAt l x) vis + sumV (eqAt r.m x) vis2 + 1 : Nat)) m2) ?_ ⟨hndi2, hlti2, ?_⟩ (by show r.m.length - (vis2.length + 1) < r.m.length - vis2.length; omega)
      · show S.le _ (stCi l Z Y (entsF (.map .str) l) r.m (setKeyA (.s x) (mkI .i64 (sumV (shAt l x) vis + sumV (eqAt r.m x) vis2 + 1 : Nat)) m2) (n :: vis) (some (.jk, rawM b)) (i :: vis2) (some (.jk, mkS x)))
        generalize setKeyA (.s x) (mkI .i64 (sumV (shAt l x) vis + sumV (eqAt r.m x) vis2 + 1 : Nat)) m2 = m3
        generalize entsF (.map .str) l = ents
        simp [cbo, S.le, sealAll, leL, leA, leO, jks, stCi, mkI, mkS, mkB, S.fits, fitsL, AV.fits, Ob.fits]
      · exact (ct_set hcti hxs (f' := fun d => sumV (shAt l d) vis + sumV (eqAt r.m d) (i :: vis2)) fun d => by
          rw [sumV_cons]
          have : eqAt r.m d i = if d = x then 1 else 0 := by
            by_cases e : d = x
            · subst e; rw [if_pos rfl]; simp [eqAt, hv2, strA]
            · have e2 : ¬ x = d := fun h => e h.symm
              rw [if_neg e]; simp [eqAt, hv2, strA, e2]
          rw [this]; omega).to (fun d => rfl) (by simp; omega)
    · have hp := all_perm hndi hlti hall2
      have hl2 : vis2.length = r.m.length := by rw [hp.length_eq, List.length_range]
      refine .mkW (n :: vis, some (.jk, rawM b), m2) ?_ ⟨hnd2, hlt2, hcti.to (fun d => ?_) (by rw [e1, hl2]; omega)⟩ (by show l.length - (vis.length + 1) < l.length - vis.length; omega)
      · exact (weak_unfz (j := 1) rfl).trans (weak_packG [some 0, some 1, some 2, some 3, some 4] rfl)
      · rw [sumV_cons, sumV_perm hp]
        have : shAt l d n = nSh r.m d := by simp [shAt, hn1, he]
        rw [this]
        unfold nSh
        omega
  · have hall2 : ∀ n, n < l.length → n ∈ vis := fun n hn => hall n (by simpa [entsF] using hn)
    exact ⟨_, _, (weak_thaw (j := 1) rfl rfl).trans (weak_packG [some 0, some 1, some 2, some 3] rfl), hq m (hct.to (fun d => sumV_perm (all_perm hnd hlt hall2)) (sum_all hnd hlt hall2))⟩
end Go.Proofs.YthbejheedpdioaaDoor
