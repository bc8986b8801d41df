import Derived.Test.YthbejheedpdioaaDoorCrOps
set_option linter.unusedSimpArgs false
set_option linter.unusedVariables false
namespace Go.Proofs.YthbejheedpdioaaDoor
open Go Go.AM Go.RowKit
set_option maxRecDepth 10000
attribute [local irreducible] aUnr aUnS aCode
noncomputable def rCnt_k0 (q : AV → (List Ob) → Prop) : Kont := kBlk (0 : Nat) (kSeq (aCode KC [] (cAt [1, 1, 1] Tryd.b25) (kRetF KC (Array.toList (Func.results Tryd.f25)) q)) (kRetF KC (Array.toList (Func.results Tryd.f25)) q))
theorem rCnt (l : FLs) (q : AV → List Ob → Prop) :
  (aCode KC [] Tryd.b25 (kRetF KC Tryd.f25.results.toList q) ⟨[.rf 0 0] ++ List.replicate (Tryd.f25.ntmps - 1) .jk, obC l⟩) = (
  ∀ (Z : FrZ),
  ALoop (aCode KC [] (cAt [1, 1, 0, 1, 0, 0] Tryd.b25)) (rCnt_k0 q) ⟨[AV.rf 0 0, AV.jk, mkI .i64 0, mkI .i64 0, AV.jk, AV.jk, AV.rf 0 0, AV.rf 0 0, AV.rf 0 (0 + 0), AV.mp 1, AV.rf 3 0] ++ (jks 9), [Ob.box [AV.mp 1], Ob.bun (frzR (famR (FamD.mk KK.str (Shp.map KK.str) l)) Z), Ob.gh [AV.rf 0 0], Ob.bun (itR (ItD.mk Z (entsF (Shp.map KK.str) l) VK.map false [] Option.none))]⟩) := by kernel_rfl
abbrev itC (Z : FrZ) (ents : List (Key × AV)) (vis : List Nat) (cur : Option (AV × AV)) : Ob := .bun (itR ⟨Z, ents, .map, false, vis, cur⟩)
abbrev fzC (l : FLs) (Z : FrZ) : Ob := .bun (frzR (famR ⟨.str, .map .str, l⟩) Z)
def stCn (l : FLs) (Z : FrZ) (ents : List (Key × AV)) (n : Int) (vis : List Nat) (cur : Option (AV × AV)) : S := ⟨[.rf 0 0, .jk, mkI .i64 0, mkI .i64 n, .jk, .jk, .rf 0 0, .rf 0 0, .rf 0 0, .mp 1, .rf 3 0] ++ jks 9, [cbo, fzC l Z, .gh [.rf 0 0], itC Z ents vis cur]⟩
theorem rCnt_b {ι : Type} (st : ι → S) (inv : ι → Prop) (μ : ι → Nat) (kk : ι) (l : FLs) (Z : FrZ) (ents : List (Key × AV)) (n : Int) (vis : List Nat) (cur : Option (AV × AV)) (q : AV → List Ob → Prop) :
  (aCode KC [] (cAt [1, 1, 0, 1, 0, 0] Tryd.b25) (kFamM [] (maskOf (stCn l Z ents n vis cur)) st inv μ kk (rCnt_k0 q)) (stCn l Z ents n vis cur)) = (
  (Z = Z) ∧
  (∀ (n_1 : Nat), ∀ (k : Key), ∀ (v : AV), ((GetElem?.getElem? ents n_1) = (Option.some (k, v))) → ((n_1 ∈ vis) → False) → ∃ (b : Nat), (v = (AV.d (D.v (.map (Option.some b))))) ∧ ((Z = Z) ∧ (∃ (r : Rec), ((recF b l) = (Option.some r)) ∧ (FamNext st inv μ kk ⟨[AV.rf 0 0, AV.jk, mkI .i64 0, mkI .i64 (IntKind.wrap .i64 (n + ((List.length r.m) : Int))), AV.jk, AV.jk, AV.rf 0 0, AV.rf 0 0, AV.rf 0 0, AV.mp 1, AV.rf 3 0] ++ (jks 9), [Ob.box [AV.mp 1], Ob.bun (frzR (famR (FamD.mk KK.str (Shp.map KK.str) l)) Z), Ob.gh [AV.rf 0 0], Ob.bun (itR (ItD.mk Z ents VK.map false (List.cons n_1 vis) (Option.some (AV.jk, AV.d (D.v (.map (Option.some b)))))))]⟩)))) ∧ (
   (∀ (n_1 : Nat), (n_1 < (List.length ents)) → n_1 ∈ vis) →
   q (mkI .i64 n) [Ob.box [AV.mp 1], Ob.bun (frzR (famR (FamD.mk KK.str (Shp.map KK.str) l)) Z), Ob.gh [AV.rf 0 0], Ob.bun (itR (ItD.mk Z ents VK.map false vis cur))])) := by kernel_rfl
def lenAt (l : FLs) (n : Nat) : Nat := match l[n]? with | some e => e.2.2.m.length | none => 0
def sumV (f : Nat → Nat) (vis : List Nat) : Nat := (vis.map f).sum
theorem sum_range {f : Nat → Nat} : ∀ (l : FLs), (∀ n (h : n < l.length), f n = l[n].2.2.m.length) → ((List.range l.length).map f).sum = cntL l
  | [], _ => rfl
  | e :: l, h => by
    rw [List.length_cons, List.range_succ_eq_map, List.map_cons, List.sum_cons, List.map_map]
    have := sum_range (f := f ∘ Nat.succ) l fun n hn => h (n + 1) (by simpa using hn)
    rw [this, cnt_cons, h 0 (by simp)]
    rfl
theorem all_perm {k : Nat} {vis : List Nat} (hn : vis.Nodup) (hl : ∀ n ∈ vis, n < k) (hall : ∀ n, n < k → n ∈ vis) : vis.Perm (List.range k) :=
  (List.perm_ext_iff_of_nodup hn List.nodup_range).2 fun n => by rw [List.mem_range]; exact ⟨hl n, hall n⟩
theorem sum_all {l : FLs} {vis : List Nat} (hn : vis.Nodup) (hl : ∀ n ∈ vis, n < l.length) (hall : ∀ n, n < l.length → n ∈ vis) : sumV (lenAt l) vis = cntL l := by
  unfold sumV
  rw [((all_perm hn hl hall).map _).sum_nat]
  exact sum_range l fun n h => by simp [lenAt, h]
theorem rest_perm {k : Nat} {vis : List Nat} (hn : vis.Nodup) (hl : ∀ n ∈ vis, n < k) : (vis ++ (List.range k).filter fun n => decide (n ∉ vis)).Perm (List.range k) := by
  refine (List.perm_ext_iff_of_nodup (List.nodup_append.2 ⟨hn, List.nodup_range.sublist List.filter_sublist, fun a ha b hb e => ?_⟩) List.nodup_range).2 fun n => ?_
  · subst e
    have := (List.mem_filter.1 hb).2
    simp [ha] at this
  · rw [List.mem_append, List.mem_filter, List.mem_range]
    constructor
    · rintro (h | ⟨h, _⟩)
      · exact hl n h
      · exact h
    · intro h
      by_cases hv : n ∈ vis
      · exact .inl hv
      · exact .inr ⟨h, by simpa using hv⟩
theorem vis_len {k : Nat} {vis : List Nat} (hn : vis.Nodup) (hl : ∀ n ∈ vis, n < k) : vis.length ≤ k := by
  have := (rest_perm hn hl).length_eq
  rw [List.length_append, List.length_range] at this
  omega
theorem sum_le {l : FLs} {vis : List Nat} (hn : vis.Nodup) (hl : ∀ n ∈ vis, n < l.length) : sumV (lenAt l) vis ≤ cntL l := by
  have h1 := ((rest_perm hn hl).map (lenAt l)).sum_nat
  rw [List.map_append, List.sum_append, sum_range (f := lenAt l) l fun n h => by simp [lenAt, h]] at h1
  unfold sumV
  omega
theorem ents_at {l : FLs} {n : Nat} {k : Key} {v : AV} (h : (entsF (.map .str) l)[n]? = some (k, v)) : ∃ b r, ∃ (hn : n < l.length), l[n] = (k, b, r) ∧ v = .d (.v (.map (some b))) := by
  unfold entsF at h
  rw [List.getElem?_map] at h
  cases hh : l[n]? with
  | none => rw [hh] at h; cases h
  | some e =>
    rw [hh] at h
    obtain ⟨hn, he⟩ := List.getElem?_eq_some_iff.1 hh
    simp only [Option.map_some, Option.some.injEq, Prod.mk.injEq] at h
    exact ⟨e.2.1, e.2.2, hn, by rw [he, ← h.1], h.2.symm⟩
theorem cCnt : RSound Tryd.prog 25 ECnt := by
  refine ref_gen trimW trimW_ok (code_bsound (c := Tryd.b25) mixed KC_ok gsound_nil) KC_ok Tryd.func25 rfl rfl Tryd.call25 fun al o q ⟨l, h1, h2, hC, hn, hq⟩ => ?_
  subst h1 h2
  refine cast (rCnt l (trimW q)).symm fun Z => ?_
  refine ALoop.introM [] (maskOf (stCn l Z (entsF (.map .str) l) 0 [] none)) (fun x : List Nat × Option (AV × AV) => stCn l Z (entsF (.map .str) l) (sumV (lenAt l) x.1 : Nat) x.1 x.2) (fun x => x.1.Nodup ∧ ∀ n ∈ x.1, n < l.length) (fun x => l.length - x.1.length)
    ⟨[], ([], none), by simp [cbo, S.le, sealAll, leL, leA, leO, jks, stCn, mkI, mkS, mkB, S.fits, fitsL, AV.fits, Ob.fits, sumV], List.nodup_nil, fun n hn => by cases hn⟩ fun ⟨vis, cur⟩ ⟨hnd, hlt⟩ => ?_
  refine cast (rCnt_b _ _ _ (vis, cur) l Z (entsF (.map .str) l) (sumV (lenAt l) vis : Nat) vis cur (trimW q)).symm ⟨rfl, fun n k v hv hnv => ?_, fun hall => ?_⟩
  · obtain ⟨b, r, hn1, he, rfl⟩ := ents_at hv
    have hm : (k, b, r) ∈ l := he ▸ List.getElem_mem hn1
    have hnd2 : (n :: vis).Nodup := List.nodup_cons.2 ⟨fun h => hnv h, hnd⟩
    have hlt2 : ∀ m ∈ n :: vis, m < l.length := fun m hm => by
      rcases List.mem_cons.1 hm with rfl | hm
      · exact hn1
      · exact hlt m hm
    have hlen := vis_len hnd2 hlt2
    rw [List.length_cons] at hlen
    have hs := sum_le hnd2 hlt2
    have e1 : sumV (lenAt l) (n :: vis) = r.m.length + sumV (lenAt l) vis := by
      unfold sumV
      rw [List.map_cons, List.sum_cons]
      congr 1
      simp [lenAt, hn1, he]
    have w1 : IntKind.wrap .i64 ((sumV (lenAt l) vis : Nat) + (r.m.length : Int)) = (sumV (lenAt l) (n :: vis) : Nat) := by rw [IntWalk.i64_in _ (by omega)]; omega
    refine ⟨b, rfl, rfl, r, rec_mem hC.nd hm, ?_⟩
    rw [w1]
    refine .mk [] (n :: vis, some (.jk, .d (.v (.map (some b))))) ?_ ⟨hnd2, hlt2⟩ (by show l.length - (vis.length + 1) < l.length - vis.length; omega)
    show S.le _ (stCn l Z (entsF (.map .str) l) (sumV (lenAt l) (n :: vis) : Nat) (n :: vis) (some (.jk, .d (.v (.map (some b))))))
    generalize (sumV (lenAt l) (n :: vis) : Nat) = z
    generalize entsF (.map .str) l = ents
    simp [cbo, S.le, sealAll, leL, leA, leO, jks, stCn, mkI, mkS, mkB, S.fits, fitsL, AV.fits, Ob.fits]
  · have hs := sum_all hnd hlt fun n hn => hall n (by simpa [entsF] using hn)
    rw [hs]
    exact ⟨_, _, (weak_thaw (j := 1) rfl rfl).trans (weak_packG [some 0, some 1, some 2] rfl), hq⟩
end Go.Proofs.YthbejheedpdioaaDoor
