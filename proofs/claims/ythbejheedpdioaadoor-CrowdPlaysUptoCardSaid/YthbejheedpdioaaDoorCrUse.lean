import Derived.Test.YthbejheedpdioaaDoorCrSorted
import Derived.Test.YthbejheedpdioaaDoorCrHear
import Derived.Test.YthbejheedpdioaaDoorCrCount
import Derived.Test.YthbejheedpdioaaDoorAmInl
set_option linter.unusedSimpArgs false
set_option linter.unusedVariables false
namespace Go.Proofs.YthbejheedpdioaaDoor
open Go Go.AM Go.RowKit
set_option maxRecDepth 10000
attribute [local irreducible] aUnr aUnS aCode
noncomputable abbrev GKb : List (FuncId × En) := [(26, .full (keysS 44 45))]
theorem gKb : GSound Tryd.prog GKb := gsound_full cSorted gsound_nil
noncomputable abbrev GKi : List (FuncId × En) := inlΓS KC GKb tabI 4 4
theorem gKi : GSound Tryd.prog GKi := inlS_sound mixed KC_ok gKb tabI_ok 4
theorem rUs (l : FLs) (q : AV → List Ob → Prop) :
  (aUnS KC GKi 4 Tryd.b12 (kRetF KC Tryd.f12.results.toList q) ⟨[.rf 0 0] ++ List.replicate (Tryd.f12.ntmps - 1) .jk, obC l⟩) = (
  (KsOk (List.map (fun (x : Prod Key (Prod Nat Rec)) => Prod.fst x) l)) ∧ (
   ∀ (ks : List ByteArray),
   (SortB ks (List.map (fun (x : Prod Key (Prod Nat Rec)) => Prod.fst x) l)) →
   q (AV.d (.sl (strsD ks))) [Ob.box [AV.mp 1], Ob.bun (famR (FamD.mk KK.str (Shp.map KK.str) l)), Ob.gh [AV.rf 0 0], Ob.gone, Ob.box [AV.mp 1]])) := by kernel_rfl
theorem rDv (l : FLs) (u : ByteArray) (q : AV → List Ob → Prop) :
  (aUnS KC GKi 4 Tryd.b13 (kRetF KC Tryd.f13.results.toList q) ⟨[.rf 0 0, mkS u] ++ List.replicate (Tryd.f13.ntmps - 2) .jk, obC l⟩) = (
  bcase (hasF (Key.s u) l) (
   ∃ (b : Nat),
   ((blkF (Key.s u) l) = (Option.some b)) ∧ (
    ∃ (r : Rec),
    ((recF b l) = (Option.some r)) ∧
    (KsOk (List.map (fun (x : Prod Key AV) => Prod.fst x) r.m)) ∧ (
     ∀ (ks : List ByteArray),
     (SortB ks (List.map (fun (x : Prod Key AV) => Prod.fst x) r.m)) →
     q (AV.d (.sl (strsD ks))) [Ob.box [AV.mp 1], Ob.bun (famR (FamD.mk KK.str (Shp.map KK.str) l)), Ob.gh [AV.rf 0 0], Ob.gone, Ob.box [AV.d (D.v (.map (Option.some b)))]]))) (
   q (AV.d (.sl (strsD []))) [Ob.box [AV.mp 1], Ob.bun (famR (FamD.mk KK.str (Shp.map KK.str) l)), Ob.gh [AV.rf 0 0], Ob.gone, Ob.box [AV.d (D.v (.map Option.none))]])) := by kernel_rfl
theorem len_le {l : FLs} (h : CrOk l) : l.length ≤ cntL l := by
  have go : ∀ l : FLs, (∀ e ∈ l, e.2.2.m ≠ []) → l.length ≤ cntL l := fun l => by
    induction l with
    | nil => intro _; exact Nat.zero_le _
    | cons e l ih =>
      intro hm
      rw [cnt_cons, List.length_cons]
      have h1 := ih fun x hx => hm x (by simp [hx])
      have h2 : 0 < e.2.2.m.length := List.length_pos_iff.2 (hm e (by simp))
      omega
  exact go l fun e he => (h.ms e he).1
theorem mem_cnt {l : FLs} {e : Ent3} (h : e ∈ l) : e.2.2.m.length ≤ cntL l := by
  induction l with
  | nil => cases h
  | cons x l ih =>
    rw [cnt_cons]
    rcases List.mem_cons.1 h with rfl | h
    · omega
    · have := ih h; omega
theorem ks_us {l : FLs} (h : CrOk l) (hn : cntL l ≤ 1000) : KsOk (l.map (·.1)) where
  key k hk := by
    obtain ⟨e, he, rfl⟩ := List.mem_map.1 hk
    obtain ⟨u, h1, h2⟩ := h.key e he
    exact ⟨u, h1, szc_lim h2⟩
  nd := h.kd
  len := by rw [List.length_map]; have := len_le h; omega
theorem ks_m {m : MapL} (h : MOk m) (hn : m.length ≤ 1000) : KsOk (m.map (·.1)) where
  key k hk := by
    obtain ⟨p, hp, rfl⟩ := List.mem_map.1 hk
    obtain ⟨d, v, rfl, hd, _⟩ := h.str p hp
    exact ⟨d, rfl, szc_lim hd⟩
  nd := h.nd
  len := by rw [List.length_map]; exact hn
def EUs : REnt := fun al o q => ∃ l, al = [.rf 0 0] ∧ o = obC l ∧ CrOk l ∧ cntL l ≤ 1000 ∧ ∀ ks, SortB ks (l.map (·.1)) → q (mkSS ks) (obC l)
theorem cUs : RSound Tryd.prog 12 EUs := by
  refine ref_gen trimW trimW_ok (unS_bsound 4 mixed KC_ok gKi Tryd.b12) KC_ok Tryd.func12 rfl rfl Tryd.call12 fun al o q ⟨l, h1, h2, hC, hn, hq⟩ => ?_
  subst h1 h2
  exact cast (rUs l (trimW q)).symm ⟨ks_us hC hn, fun ks hks => ⟨_, _, weak_packG [some 0, some 1, some 2] rfl, hq ks hks⟩⟩
def EDv : REnt := fun al o q => ∃ l u, al = [.rf 0 0, mkS u] ∧ o = obC l ∧ CrOk l ∧ cntL l ≤ 1000 ∧ ∀ ks, SortB ks ((devs l u).map (·.1)) → q (mkSS ks) (obC l)
theorem cDv : RSound Tryd.prog 13 EDv := by
  refine ref_gen trimW trimW_ok (unS_bsound 4 mixed KC_ok gKi Tryd.b13) KC_ok Tryd.func13 rfl rfl Tryd.call13 fun al o q ⟨l, u, h1, h2, hC, hn, hq⟩ => ?_
  subst h1 h2
  refine cast (rDv l u (trimW q)).symm (bcase_mk (fun h => ?_) (fun h => ?_))
  · obtain ⟨b, r, hb, hr, hm⟩ := has_yes hC.nd h
    rw [devs_mem hC hm] at hq
    exact ⟨b, hb, r, hr, ks_m (hC.ms _ hm).2 (by have := mem_cnt hm; simp only at this; omega), fun ks hks => ⟨_, _, weak_packG [some 0, some 1, some 2] rfl, hq ks hks⟩⟩
  · rw [devs_no (has_no h)] at hq
    exact ⟨_, _, weak_packG [some 0, some 1, some 2] rfl, hq [] ⟨.refl _, .nil⟩⟩
end Go.Proofs.YthbejheedpdioaaDoor
