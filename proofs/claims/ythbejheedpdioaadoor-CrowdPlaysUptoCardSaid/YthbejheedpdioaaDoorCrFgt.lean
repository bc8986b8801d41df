import Derived.Test.YthbejheedpdioaaDoorCrHear
import Derived.Test.YthbejheedpdioaaDoorCrCount
import Derived.Test.YthbejheedpdioaaDoorShelf
set_option linter.unusedSimpArgs false
set_option linter.unusedVariables false
namespace Go.Proofs.YthbejheedpdioaaDoor
open Go Go.AM Go.RowKit
set_option maxRecDepth 10000
attribute [local irreducible] aUnr aUnS aCode
def E20 : PE := fun al q => ∃ l x, al = [mkSS l, mkS x] ∧ q (mkB (memB x l))
theorem s20 : PSound Tryd.prog 31 E20 := by
  refine ⟨Tryd.call31, fun ext w al vs q hext hT hlen hrel hE => ?_⟩
  obtain ⟨l, x, rfl, hq⟩ := hE
  have hl := inv_strs_len (hrel 0 (by simp))
  have r0 := inv_strs (hrel 0 (by simp))
  have e1 := (inv_str (hrel 1 (by simp))).1
  rcases r0 with ⟨rfl, a, c, e0⟩ | ⟨hne, b, off, cap, e0, hc⟩
  · have := arr2 (by simpa using hlen) e0 e1
    subst this
    refine (Tryd.slices_Contains_string_empty a c x w).mono fun e w' ⟨h1, h2⟩ => ⟨_, _, h1, by simpa [memB] using hq, mkB_rel, h2 ▸ Below.refl _ _⟩
  · have := arr2 (by simpa using hlen) e0 e1
    subst this
    refine (Tryd.slices_Contains_string b off l.length cap l x w (Nat.le_refl _) (Nat.le_trans hl (by decide)) hc).mono fun e w' ⟨h1, h2⟩ => ⟨_, _, h1, ?_, mkB_rel, h2 ▸ Below.refl _ _⟩
    have : Lib.containsS (l.take l.length) x = memB x l := by
      rw [List.take_length, Bool.eq_iff_iff, Lib.containsS_iff, memB_iff]
    rw [this]; exact hq
def F20 : List AV → Option (Prop × AV) := fun al => match al with
  | [.d (.sl es), .d (.v (.string x))] => some (es = strsD (unSS es), mkB (memB x (unSS es)))
  | _ => none
theorem c20 : PSound Tryd.prog 31 (detE F20) := s20.det fun al p r hF hp q hq => by
  unfold F20 at hF; split at hF <;> cases hF
  exact ⟨_, _, by rw [hp]; simp [mkSS, mkS], hq⟩
noncomputable abbrev G30 : List (FuncId × En) := [(31, .det F20)]
theorem r30 (u : ByteArray) (c : Nat) (us : List (List D)) (gh : List AV) (q : AV → List Ob → Prop) :
  (aCode KC G30 Tryd.b30 (kRetF KC Tryd.f30.results.toList q) ⟨[mkS u, rawM c, .rf 0 0] ++ List.replicate (Tryd.f30.ntmps - 3) .jk, [.box [.d (.sl us)], .gh gh]⟩) = (
  (us = (strsD (unSS us))) ∧
  q (mkB (!(memB u (unSS us)))) [Ob.box [AV.d (.sl us)], Ob.gh gh]) := by kernel_rfl
def E30 : REnt := fun al o q => ∃ u c us gh, al = [mkS u, rawM c, .rf 0 0] ∧ o = [.box [.d (.sl (strsD us))], .gh gh] ∧ q (mkB (!memB u us)) o
noncomputable abbrev KT : TypeId → Option TK := symK KC [54]
theorem KT_ok : KOk Tryd.prog KT := symK_ok KC_ok [54]
noncomputable abbrev GDf : List (FuncId × En) := [(30, .ref (frameE E30))]
abbrev ghT : Ob := .gh [.mp 0, .rf 1 0]
noncomputable def rDf_k0 (q : AV → (List Ob) → Prop) : Kont := kBlk (0 : Nat) (kRetF KT (Array.toList (Func.results Tryd.f29)) q)
theorem rDf (l : FLs) (us : List (List D)) (q : AV → List Ob → Prop) :
  (aCode KT GDf Tryd.b29 (kRetF KT Tryd.f29.results.toList q) ⟨[.mp 0, .fn (.func 30) [] [.rf 1 0]] ++ List.replicate (Tryd.f29.ntmps - 2) .jk, [fobC l, .box [.d (.sl us)], ghT]⟩) = (
  (List.Nodup (List.map (fun (x : Prod Key (Prod Nat Rec)) => Prod.fst x) l)) ∧ (
   ∀ (Z : FrZ),
   ALoop (aCode KT GDf (cAt [1, 0, 0] Tryd.b29)) (rDf_k0 q) ⟨[AV.mp 0, AV.fn (Fn.func 30) [] [AV.rf 1 0], AV.jk, AV.jk, AV.jk, AV.jk, AV.mp 0, AV.rf 3 0] ++ (jks 11), [Ob.bun (frdR (FamD.mk KK.str (Shp.map KK.str) l) Z []), Ob.box [AV.d (.sl us)], Ob.gh [AV.mp 0, AV.rf 1 0], Ob.bun (itR (ItD.mk Z (entsF (Shp.map KK.str) l) VK.map true [] Option.none))]⟩)) := by kernel_rfl
abbrev itT (Z : FrZ) (ents : List (Key × AV)) (vis : List Nat) (cur : Option (AV × AV)) : Ob := .bun (itR ⟨Z, ents, .map, true, vis, cur⟩)
def stDf (l : FLs) (us : List (List D)) (Z : FrZ) (dl : List Nat) (ents : List (Key × AV)) (vis : List Nat) (cur : Option (AV × AV)) : S := ⟨[.mp 0, .fn (.func 30) [] [.rf 1 0], .jk, .jk, .jk, .jk, .mp 0, .rf 3 0] ++ jks 11, [.bun (frdR ⟨.str, .map .str, l⟩ Z dl), .box [.d (.sl us)], ghT, itT Z ents vis cur]⟩
theorem rDf_b {ι : Type} (st : ι → S) (inv : ι → Prop) (μ : ι → Nat) (kk : ι) (l : FLs) (us : List (List D)) (Z : FrZ) (dl : List Nat) (ents : List (Key × AV)) (vis : List Nat) (cur : Option (AV × AV)) (q : AV → List Ob → Prop) :
  (aCode KT GDf (cAt [1, 0, 0] Tryd.b29) (kFamM [] (maskOf (stDf l us Z dl ents vis cur)) st inv μ kk (rDf_k0 q)) (stDf l us Z dl ents vis cur)) = (
  ((Z = Z) ∧ (∀ (n : Nat), (n ∈ dl) → n ∈ vis)) ∧
  (∀ (n : Nat), ∀ (k : Key), ∀ (v : AV), ((GetElem?.getElem? ents n) = (Option.some (k, v))) → ((n ∈ vis) → False) → ∃ (b : Nat), (v = (AV.d (D.v (.map (Option.some b))))) ∧ (∃ (d : ByteArray), (k = (Key.s d)) ∧ (((ByteArray.size d) ≤ LIM) ∧ (((Z = Z) ∧ (∀ (n_1 : Nat), ∀ (l_1 : List Nat), ((List.cons n vis) = (List.cons n_1 l_1)) → (n_1 ∈ dl) → False)) ∧ (∃ (u : ByteArray), ∃ (c : Nat), ∃ (us_1 : List ByteArray), ∃ (gh : List AV), ([mkS d, AV.d (D.v (.map (Option.some b))), AV.rf 0 0] = [mkS u, AV.d (D.v (.map (Option.some c))), AV.rf 0 0]) ∧ (([Ob.box [AV.d (.sl us)], Ob.gh [AV.rf 0 0]] = [Ob.box [AV.d (.sl (strsD us_1))], Ob.gh gh]) ∧ (((Option.some (Ob.gh [AV.rf 0 0])) = (Option.some (Ob.gh [AV.rf 0 0]))) ∧ (bcase (!(memB u us_1)) ((Z = Z) ∧ (((mkS d) = (mkS d)) ∧ (FamNext st inv μ kk ⟨[AV.mp 0, AV.fn (Fn.func 30) [] [AV.rf 1 0], AV.jk, AV.jk, AV.jk, AV.jk, AV.mp 0, AV.rf 3 0] ++ (jks 11), [Ob.bun (frdR (FamD.mk KK.str (Shp.map KK.str) (delF (Key.s d) l)) Z (List.cons n dl)), Ob.box [AV.d (.sl us)], Ob.gh [AV.mp 0, AV.rf 1 0], Ob.bun (itR (ItD.mk Z ents VK.map true (List.cons n vis) (Option.some (mkS d, AV.d (D.v (.map (Option.some b))))))), Ob.gone, Ob.gone]⟩))) (FamNext st inv μ kk ⟨[AV.mp 0, AV.fn (Fn.func 30) [] [AV.rf 1 0], AV.jk, AV.jk, AV.jk, AV.jk, AV.mp 0, AV.rf 3 0] ++ (jks 11), [Ob.bun (frdR (FamD.mk KK.str (Shp.map KK.str) l) Z dl), Ob.box [AV.d (.sl us)], Ob.gh [AV.mp 0, AV.rf 1 0], Ob.bun (itR (ItD.mk Z ents VK.map true (List.cons n vis) (Option.some (mkS d, AV.d (D.v (.map (Option.some b))))))), Ob.gone, Ob.gone]⟩))))))))) ∧ (
   (∀ (n : Nat), (n < (List.length ents)) → n ∈ vis) →
   q (AV.tp []) [Ob.bun (frdR (FamD.mk KK.str (Shp.map KK.str) l) Z dl), Ob.box [AV.d (.sl us)], Ob.gh [AV.mp 0, AV.rf 1 0], Ob.bun (itR (ItD.mk Z ents VK.map true vis cur))])) := by kernel_rfl
structure FgR (us : List ByteArray) (l l' : FLs) : Prop where
  ok : CrOk l'
  dv : ∀ w, devs l' w = if memB w us = true then devs l w else []
  cnt : cntL l' ≤ cntL l
def keyS' : Key → ByteArray
  | .s u => u
  | _ => ⟨#[]⟩
structure DfI (us : List ByteArray) (l cl : FLs) (vis dl : List Nat) : Prop where
  ok : CrOk cl
  sub : cl.Sublist l
  mem : ∀ (n : Nat) (h : n < l.length), l[n] ∈ cl ↔ (n ∈ vis → keyS' l[n].1 ∈ us)
  dl : ∀ n ∈ dl, n ∈ vis
  nd : vis.Nodup
  lt : ∀ n ∈ vis, n < l.length
theorem delF_sub {k : Key} : ∀ l : FLs, (delF k l).Sublist l
  | [] => List.Sublist.refl _
  | e :: l => by
    simp only [delF]
    split
    · exact List.sublist_cons_self _ _
    · exact (delF_sub l).cons_cons _
theorem delF_mem {k : Key} : ∀ {l : FLs}, (l.map (·.1)).Nodup → ∀ e, e ∈ delF k l ↔ e ∈ l ∧ e.1 ≠ k
  | [], _, e => by simp [delF]
  | x :: l, h, e => by
    rw [List.map_cons, List.nodup_cons] at h
    simp only [delF]
    by_cases hk : x.1 = k
    · rw [if_pos hk, List.mem_cons]
      constructor
      · exact fun he => ⟨.inr he, fun ek => h.1 (by rw [hk, ← ek]; exact List.mem_map_of_mem (f := fun x : Ent3 => x.1) he)⟩
      · rintro ⟨rfl | he, hn⟩
        · exact absurd hk hn
        · exact he
    · rw [if_neg hk, List.mem_cons, List.mem_cons, delF_mem h.2]
      constructor
      · rintro (rfl | ⟨h1, h2⟩)
        · exact ⟨.inl rfl, hk⟩
        · exact ⟨.inr h1, h2⟩
      · rintro ⟨rfl | h1, h2⟩
        · exact .inl rfl
        · exact .inr ⟨h1, h2⟩
theorem CrOk.sub {l l' : FLs} (h : CrOk l) (hs : l'.Sublist l) : CrOk l' :=
  ⟨h.nd.sublist (hs.map _), h.kd.sublist (hs.map _), fun e he => h.key e (hs.subset he), fun e he => h.ms e (hs.subset he)⟩
theorem cnt_sub {l l' : FLs} (hs : l'.Sublist l) : cntL l' ≤ cntL l := by
  induction hs with
  | slnil => exact Nat.le_refl _
  | cons a _ ih => rw [cnt_cons]; omega
  | cons_cons a _ ih => rw [cnt_cons, cnt_cons]; omega
theorem kd_at {l : FLs} (h : CrOk l) {n m : Nat} (hn : n < l.length) (hm : m < l.length) (e : l[n].1 = l[m].1) : n = m := by
  have hkn := h.kd
  rw [List.Nodup, List.pairwise_iff_getElem] at hkn
  rcases Nat.lt_trichotomy n m with hlt | he | hlt
  · exact absurd (by rw [List.getElem_map, List.getElem_map]; exact e) (hkn n m (by simpa using hn) (by simpa using hm) hlt)
  · exact he
  · exact absurd (by rw [List.getElem_map, List.getElem_map]; exact e.symm) (hkn m n (by simpa using hm) (by simpa using hn) hlt)
theorem df_start {us : List ByteArray} {l : FLs} (h : CrOk l) : DfI us l l [] [] :=
  ⟨h, List.Sublist.refl _, fun n hn => ⟨fun _ h => (by cases h), fun _ => List.getElem_mem hn⟩, fun n hn => (by cases hn), List.nodup_nil, fun n hn => (by cases hn)⟩
theorem df_stay {us : List ByteArray} {l cl : FLs} {vis dl : List Nat} (hC : CrOk l) (h : DfI us l cl vis dl) {n : Nat} (hn : n < l.length) (hv : n ∉ vis) (hu : keyS' l[n].1 ∈ us) : DfI us l cl (n :: vis) dl where
  ok := h.ok
  sub := h.sub
  mem m hm := by
    rw [h.mem m hm]
    by_cases e : m = n
    · subst e; exact ⟨fun _ _ => hu, fun _ _ => hu⟩
    · exact ⟨fun f hm => f ((List.mem_cons.1 hm).resolve_left e), fun f hm => f (List.mem_cons_of_mem _ hm)⟩
  dl m hm := List.mem_cons_of_mem _ (h.dl m hm)
  nd := List.nodup_cons.2 ⟨hv, h.nd⟩
  lt m hm := by
    rcases List.mem_cons.1 hm with rfl | hm
    · exact hn
    · exact h.lt m hm
theorem df_del {us : List ByteArray} {l cl : FLs} {vis dl : List Nat} (hC : CrOk l) (h : DfI us l cl vis dl) {n : Nat} (hn : n < l.length) (hv : n ∉ vis) (hu : keyS' l[n].1 ∉ us) : DfI us l (delF l[n].1 cl) (n :: vis) (n :: dl) where
  ok := h.ok.sub (delF_sub _)
  sub := (delF_sub _).trans h.sub
  mem m hm := by
    rw [delF_mem h.ok.kd, h.mem m hm]
    by_cases e : m = n
    · subst e; exact ⟨fun hx => absurd rfl hx.2, fun f => absurd (f List.mem_cons_self) hu⟩
    · exact ⟨fun f hm => f.1 ((List.mem_cons.1 hm).resolve_left e), fun f => ⟨fun hm => f (List.mem_cons_of_mem _ hm), fun ek => e (kd_at hC hm hn ek)⟩⟩
  dl m hm := by
    rcases List.mem_cons.1 hm with rfl | hm
    · exact List.mem_cons_self
    · exact List.mem_cons_of_mem _ (h.dl m hm)
  nd := List.nodup_cons.2 ⟨hv, h.nd⟩
  lt m hm := by
    rcases List.mem_cons.1 hm with rfl | hm
    · exact hn
    · exact h.lt m hm
theorem df_end {us : List ByteArray} {l cl : FLs} {vis dl : List Nat} (hC : CrOk l) (h : DfI us l cl vis dl) (hall : ∀ n, n < l.length → n ∈ vis) : FgR us l cl where
  ok := h.ok
  cnt := cnt_sub h.sub
  dv w := by
    split
    · rename_i hw
      have hw := (memB_iff _ _).1 hw
      rcases devs_cases hC w with ⟨b, r, hm, hd, _⟩ | ⟨hd, hno⟩
      · obtain ⟨n, hn, he⟩ := List.getElem_of_mem hm
        have : (Key.s w, b, r) ∈ cl := by
          rw [← he]
          refine (h.mem n hn).2 fun _ => ?_
          rw [he]; exact hw
        rw [devs_mem h.ok this, hd]
      · rw [hd]; exact devs_no fun e he => hno e (h.sub.subset he)
    · rename_i hw
      refine devs_no fun e he hk => hw ((memB_iff _ _).2 ?_)
      obtain ⟨n, hn, rfl⟩ := List.getElem_of_mem (h.sub.subset he)
      have := (h.mem n hn).1 he (hall n hn)
      rw [hk] at this; exact this
theorem c30 : RSound Tryd.prog 30 E30 := by
  refine ref_gen trimW trimW_ok (code_bsound (c := Tryd.b30) mixed KC_ok (gsound_det c20 gsound_nil)) KC_ok Tryd.func30 rfl rfl Tryd.call30 fun al o q ⟨u, c, us, gh, h1, h2, hq⟩ => ?_
  subst h1 h2
  refine cast (r30 u c (strsD us) gh (trimW q)).symm ⟨by simp, _, _, .refl _, ?_⟩
  simpa using hq
def EDf : REnt := fun al o q => ∃ l us, al = [.mp 0, .fn (.func 30) [] [.rf 1 0]] ∧ o = [fobC l, .box [.d (.sl (strsD us))], ghT] ∧ CrOk l ∧ ∀ l', FgR us l l' → q (.tp []) [fobC l', .box [.d (.sl (strsD us))], ghT]
theorem cDf : RSound Tryd.prog 29 EDf := by
  refine ref_gen trimW trimW_ok (code_bsound (c := Tryd.b29) mixed KT_ok (gsound_ref (RSound.frame c30) gsound_nil)) KT_ok Tryd.func29 rfl rfl Tryd.call29 fun al o q ⟨l, us, h1, h2, hC, hq⟩ => ?_
  subst h1 h2
  refine cast (rDf l (strsD us) (trimW q)).symm ⟨hC.kd, fun Z => ?_⟩
  refine ALoop.introM [] (maskOf (stDf l (strsD us) Z [] (entsF (.map .str) l) [] none)) (fun x : FLs × List Nat × List Nat × Option (AV × AV) => stDf x.1 (strsD us) Z x.2.1 (entsF (.map .str) l) x.2.2.1 x.2.2.2) (fun x => DfI us l x.1 x.2.2.1 x.2.1) (fun x => l.length - x.2.2.1.length)
    ⟨[], (l, [], [], none), by simp [S.le, sealAll, leL, leA, leO, jks, stDf, mkI, mkS, mkB, S.fits, fitsL, AV.fits, Ob.fits], df_start hC⟩ fun ⟨cl, dl, vis, cur⟩ hI => ?_
  have hI : DfI us l cl vis dl := hI
  refine cast (rDf_b _ _ _ (cl, dl, vis, cur) cl (strsD us) Z dl (entsF (.map .str) l) vis cur (trimW q)).symm ⟨⟨rfl, hI.dl⟩, fun n k v hv hnv => ?_, fun hall => ?_⟩
  · obtain ⟨b, r, hn1, he, rfl⟩ := ents_at hv
    have hm : (k, b, r) ∈ l := he ▸ List.getElem_mem hn1
    obtain ⟨d, hd, hds⟩ := hC.key _ hm
    simp only at hd
    subst hd
    have hlen : vis.length < l.length := by
      have := vis_len (List.nodup_cons.2 ⟨hnv, hI.nd⟩) fun m hm => by
        rcases List.mem_cons.1 hm with rfl | hm
        · exact hn1
        · exact hI.lt m hm
      rwa [List.length_cons] at this
    refine ⟨b, rfl, d, rfl, szc_lim hds, ⟨rfl, fun n1 l1 e hn => ?_⟩, d, b, us, [.rf 0 0], rfl, rfl, rfl, bcase_mk (fun hb => ⟨rfl, rfl, ?_⟩) (fun hb => ?_)⟩
    · obtain ⟨rfl, _⟩ := List.cons.inj e
      exact hnv (hI.dl _ hn)
    · have hu : keyS' l[n].1 ∉ us := by
        rw [he]
        intro h
        have : memB d us = true := (memB_iff _ _).2 h
        rw [this] at hb; cases hb
      have h2 := df_del hC hI hn1 hnv hu
      rw [he] at h2
      refine .mk [] (delF (.s d) cl, n :: dl, n :: vis, some (mkS d, rawM b)) ?_ h2 (by show l.length - (vis.length + 1) < l.length - vis.length; omega)
      show S.le _ (stDf (delF (.s d) cl) (strsD us) Z (n :: dl) (entsF (.map .str) l) (n :: vis) (some (mkS d, rawM b)))
      generalize entsF (.map .str) l = ents
      generalize delF (.s d) cl = cl2
      simp [S.le, sealAll, leL, leA, leO, jks, stDf, mkI, mkS, mkB, S.fits, fitsL, AV.fits, Ob.fits]
    · have hu : keyS' l[n].1 ∈ us := by
        rw [he]
        have : memB d us = true := by simpa using hb
        exact (memB_iff _ _).1 this
      refine .mk [] (cl, dl, n :: vis, some (mkS d, rawM b)) ?_ (df_stay hC hI hn1 hnv hu) (by show l.length - (vis.length + 1) < l.length - vis.length; omega)
      show S.le _ (stDf cl (strsD us) Z dl (entsF (.map .str) l) (n :: vis) (some (mkS d, rawM b)))
      generalize entsF (.map .str) l = ents
      simp [S.le, sealAll, leL, leA, leO, jks, stDf, mkI, mkS, mkB, S.fits, fitsL, AV.fits, Ob.fits]
  · exact ⟨_, _, (weak_thaw (j := 0) rfl rfl).trans (weak_packG [some 0, some 1, some 2] rfl), hq cl (df_end hC hI fun n hn => hall n (by simpa [entsF] using hn))⟩
noncomputable abbrev GFo : List (FuncId × En) := [(29, .ref (frameE EDf))]
theorem rFo (l : FLs) (us : List (List D)) (q : AV → List Ob → Prop) :
  (aCode KC GFo Tryd.b17 (kRetF KC Tryd.f17.results.toList q) ⟨[.rf 0 0, .d (.sl us)] ++ List.replicate (Tryd.f17.ntmps - 2) .jk, obC l⟩) = (
  ∃ (l_1 : FLs),
  ∃ (us_1 : List ByteArray),
  ([AV.mp 0, AV.fn (Fn.func 30) [] [AV.rf (0 + 1) 0]] = [AV.mp 0, AV.fn (Fn.func 30) [] [AV.rf 1 0]]) ∧
  ([Ob.bun (famR (FamD.mk KK.str (Shp.map KK.str) l)), Ob.box [AV.d (.sl us)], Ob.gh [AV.mp 0, AV.rf (0 + 1) 0]] = [Ob.bun (famR (FamD.mk KK.str (Shp.map KK.str) l_1)), Ob.box [AV.d (.sl (strsD us_1))], Ob.gh [AV.mp 0, AV.rf 1 0]]) ∧
  (CrOk l_1) ∧ (
   ∀ (l' : FLs),
   (FgR us_1 l_1 l') →
   ((Option.some (Ob.gh [AV.mp 0, AV.rf 1 0])) = (Option.some (Ob.gh [AV.mp 0, AV.rf (0 + 1) 0]))) ∧
   q (AV.tp []) [Ob.box [AV.mp 1], Ob.bun (famR (FamD.mk KK.str (Shp.map KK.str) l')), Ob.gh [AV.rf 0 0], Ob.box [AV.d (.sl (strsD us_1))], Ob.gone, Ob.gone])) := by kernel_rfl
def EFo : REnt := fun al o q => ∃ l us, al = [.rf 0 0, .d (.sl (strsD us))] ∧ o = obC l ∧ CrOk l ∧ ∀ l', FgR us l l' → q (.tp []) (obC l')
theorem cFo : RSound Tryd.prog 17 EFo := by
  refine ref_gen trimW trimW_ok (code_bsound (c := Tryd.b17) mixed KC_ok (gsound_ref (RSound.frame cDf) gsound_nil)) KC_ok Tryd.func17 rfl rfl Tryd.call17 fun al o q ⟨l, us, h1, h2, hC, hq⟩ => ?_
  subst h1 h2
  exact cast (rFo l (strsD us) (trimW q)).symm ⟨l, us, rfl, rfl, hC, fun l' hl' => ⟨rfl, _, _, weak_packG [some 0, some 1, some 2] rfl, hq l' hl'⟩⟩
end Go.Proofs.YthbejheedpdioaaDoor
