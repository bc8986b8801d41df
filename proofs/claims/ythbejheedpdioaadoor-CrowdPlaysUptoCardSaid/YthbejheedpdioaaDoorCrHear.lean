import Derived.Test.YthbejheedpdioaaDoorBindAddr
import Derived.Test.YthbejheedpdioaaDoorAmTail
import Derived.Test.YthbejheedpdioaaDoorAmUnr
import Derived.Test.YthbejheedpdioaaDoorCrFam
set_option linter.unusedSimpArgs false
set_option linter.unusedVariables false
set_option maxRecDepth 10000
namespace Go.Proofs.YthbejheedpdioaaDoor
open Go Go.AM Go.RowKit
attribute [local irreducible] aUnr aUnS aCode
abbrev REnt := List AV → List Ob → (AV → List Ob → Prop) → Prop
noncomputable abbrev KC : TypeId → Option TK := runK Tryd.K
theorem KC_ok : KOk Tryd.prog KC := runK_ok Tryd.K_ok
def fobC (l : FLs) : Ob := .bun (famR ⟨.str, .map .str, l⟩)
def cbo : Ob := .box [.mp 1]
abbrev obC (l : FLs) : List Ob := [cbo, fobC l, .gh [.rf 0 0]]
abbrev rawM (b : Nat) : AV := .d (.v (.map (some b)))
def ECnt : REnt := fun al o q => ∃ l, al = [.rf 0 0] ∧ o = obC l ∧ CrOk l ∧ cntL l ≤ 1000 ∧ q (mkI .i64 (cntL l : Int)) (obC l)
noncomputable abbrev GSh : List (FuncId × En) := [(23, .det F25)]
theorem gSh : GSound Tryd.prog GSh := gsound_det c25 gsound_nil
theorem rSh (l : FLs) (x : ByteArray) (q : AV → List Ob → Prop) :
  (aCode KC GSh Tryd.b11 (kRetF KC Tryd.f11.results.toList q) ⟨[.rf 0 0, mkS x] ++ List.replicate (Tryd.f11.ntmps - 2) .jk, obC l⟩) = (
  ((ByteArray.size x) ≤ LIM) ∧
  bcase (hasF (Key.s (cutU x)) l) (
   ∃ (b : Nat),
   ((blkF (Key.s (cutU x)) l) = (Option.some b)) ∧
   ((mkS ⟨#[]⟩) = (mkS ⟨#[]⟩)) ∧ (
    ∃ (r : Rec),
    ((recF b l) = (Option.some r)) ∧
    q (AV.tp [mkS (getS (Key.s (cutD x)) r.m), mkB (hasK (Key.s (cutD x)) r.m)]) [Ob.box [AV.mp 1], Ob.bun (famR (FamD.mk KK.str (Shp.map KK.str) l)), Ob.gh [AV.rf 0 0]])) (
   q (AV.tp [mkS ⟨#[]⟩, mkB false]) [Ob.box [AV.mp 1], Ob.bun (famR (FamD.mk KK.str (Shp.map KK.str) l)), Ob.gh [AV.rf 0 0]])) := by kernel_rfl
theorem rLv (l : FLs) (u d : ByteArray) (q : AV → List Ob → Prop) :
  (aCode KC [] Tryd.b24 (kRetF KC Tryd.f24.results.toList q) ⟨[.rf 0 0, mkS u, mkS d] ++ List.replicate (Tryd.f24.ntmps - 3) .jk, obC l⟩) = (
  bcase (decide (d = ⟨#[]⟩)) (
   bcase (hasF (Key.s u) l) (
    ∃ (b : Nat),
    ((blkF (Key.s u) l) = (Option.some b)) ∧ (
     ∃ (r : Rec),
     ((recF b l) = (Option.some r)) ∧
     bcase (hasF (Key.s u) (putM b (Rec.mk r.i r.s []) l)) (
      ∃ (b_1 : Nat),
      ((blkF (Key.s u) (putM b (Rec.mk r.i r.s []) l)) = (Option.some b_1)) ∧ (
       ∃ (r_1 : Rec),
       ((recF b_1 (putM b (Rec.mk r.i r.s []) l)) = (Option.some r_1)) ∧
       bcase (hasF (Key.s u) (putM b_1 (Rec.mk r_1.i r_1.s (delKeyA (Key.s d) r_1.m)) (putM b (Rec.mk r.i r.s []) l))) (
        ∃ (b_2 : Nat),
        ((blkF (Key.s u) (putM b_1 (Rec.mk r_1.i r_1.s (delKeyA (Key.s d) r_1.m)) (putM b (Rec.mk r.i r.s []) l))) = (Option.some b_2)) ∧ (
         ∃ (r_2 : Rec),
         ((recF b_2 (putM b_1 (Rec.mk r_1.i r_1.s (delKeyA (Key.s d) r_1.m)) (putM b (Rec.mk r.i r.s []) l))) = (Option.some r_2)) ∧
         bcase (((List.length r_2.m) : Int) == (0 : Int)) (
          q (AV.tp []) [Ob.box [AV.mp 1], Ob.bun (famR (FamD.mk KK.str (Shp.map KK.str) (delF (Key.s u) (putM b_1 (Rec.mk r_1.i r_1.s (delKeyA (Key.s d) r_1.m)) (putM b (Rec.mk r.i r.s []) l))))), Ob.gh [AV.rf 0 0]]) (
          q (AV.tp []) [Ob.box [AV.mp 1], Ob.bun (famR (FamD.mk KK.str (Shp.map KK.str) (putM b_1 (Rec.mk r_1.i r_1.s (delKeyA (Key.s d) r_1.m)) (putM b (Rec.mk r.i r.s []) l)))), Ob.gh [AV.rf 0 0]]))) (
        q (AV.tp []) [Ob.box [AV.mp 1], Ob.bun (famR (FamD.mk KK.str (Shp.map KK.str) (delF (Key.s u) (putM b_1 (Rec.mk r_1.i r_1.s (delKeyA (Key.s d) r_1.m)) (putM b (Rec.mk r.i r.s []) l))))), Ob.gh [AV.rf 0 0]]))) (
      bcase (hasF (Key.s u) (putM b (Rec.mk r.i r.s []) l)) (
       ∃ (b_1 : Nat),
       ((blkF (Key.s u) (putM b (Rec.mk r.i r.s []) l)) = (Option.some b_1)) ∧ (
        ∃ (r_1 : Rec),
        ((recF b_1 (putM b (Rec.mk r.i r.s []) l)) = (Option.some r_1)) ∧
        bcase (((List.length r_1.m) : Int) == (0 : Int)) (
         q (AV.tp []) [Ob.box [AV.mp 1], Ob.bun (famR (FamD.mk KK.str (Shp.map KK.str) (delF (Key.s u) (putM b (Rec.mk r.i r.s []) l)))), Ob.gh [AV.rf 0 0]]) (
         q (AV.tp []) [Ob.box [AV.mp 1], Ob.bun (famR (FamD.mk KK.str (Shp.map KK.str) (putM b (Rec.mk r.i r.s []) l))), Ob.gh [AV.rf 0 0]]))) (
       q (AV.tp []) [Ob.box [AV.mp 1], Ob.bun (famR (FamD.mk KK.str (Shp.map KK.str) (delF (Key.s u) (putM b (Rec.mk r.i r.s []) l)))), Ob.gh [AV.rf 0 0]])))) (
    bcase (hasF (Key.s u) l) (
     ∃ (b : Nat),
     ((blkF (Key.s u) l) = (Option.some b)) ∧ (
      ∃ (r : Rec),
      ((recF b l) = (Option.some r)) ∧
      bcase (hasF (Key.s u) (putM b (Rec.mk r.i r.s (delKeyA (Key.s d) r.m)) l)) (
       ∃ (b_1 : Nat),
       ((blkF (Key.s u) (putM b (Rec.mk r.i r.s (delKeyA (Key.s d) r.m)) l)) = (Option.some b_1)) ∧ (
        ∃ (r_1 : Rec),
        ((recF b_1 (putM b (Rec.mk r.i r.s (delKeyA (Key.s d) r.m)) l)) = (Option.some r_1)) ∧
        bcase (((List.length r_1.m) : Int) == (0 : Int)) (
         q (AV.tp []) [Ob.box [AV.mp 1], Ob.bun (famR (FamD.mk KK.str (Shp.map KK.str) (delF (Key.s u) (putM b (Rec.mk r.i r.s (delKeyA (Key.s d) r.m)) l)))), Ob.gh [AV.rf 0 0]]) (
         q (AV.tp []) [Ob.box [AV.mp 1], Ob.bun (famR (FamD.mk KK.str (Shp.map KK.str) (putM b (Rec.mk r.i r.s (delKeyA (Key.s d) r.m)) l))), Ob.gh [AV.rf 0 0]]))) (
       q (AV.tp []) [Ob.box [AV.mp 1], Ob.bun (famR (FamD.mk KK.str (Shp.map KK.str) (delF (Key.s u) (putM b (Rec.mk r.i r.s (delKeyA (Key.s d) r.m)) l)))), Ob.gh [AV.rf 0 0]]))) (
     bcase (hasF (Key.s u) l) (
      ∃ (b : Nat),
      ((blkF (Key.s u) l) = (Option.some b)) ∧ (
       ∃ (r : Rec),
       ((recF b l) = (Option.some r)) ∧
       bcase (((List.length r.m) : Int) == (0 : Int)) (
        q (AV.tp []) [Ob.box [AV.mp 1], Ob.bun (famR (FamD.mk KK.str (Shp.map KK.str) (delF (Key.s u) l))), Ob.gh [AV.rf 0 0]]) (
        q (AV.tp []) [Ob.box [AV.mp 1], Ob.bun (famR (FamD.mk KK.str (Shp.map KK.str) l)), Ob.gh [AV.rf 0 0]]))) (
      q (AV.tp []) [Ob.box [AV.mp 1], Ob.bun (famR (FamD.mk KK.str (Shp.map KK.str) (delF (Key.s u) l))), Ob.gh [AV.rf 0 0]])))) (
   bcase (hasF (Key.s u) l) (
    ∃ (b : Nat),
    ((blkF (Key.s u) l) = (Option.some b)) ∧ (
     ∃ (r : Rec),
     ((recF b l) = (Option.some r)) ∧
     bcase (hasF (Key.s u) (putM b (Rec.mk r.i r.s (delKeyA (Key.s d) r.m)) l)) (
      ∃ (b_1 : Nat),
      ((blkF (Key.s u) (putM b (Rec.mk r.i r.s (delKeyA (Key.s d) r.m)) l)) = (Option.some b_1)) ∧ (
       ∃ (r_1 : Rec),
       ((recF b_1 (putM b (Rec.mk r.i r.s (delKeyA (Key.s d) r.m)) l)) = (Option.some r_1)) ∧
       bcase (((List.length r_1.m) : Int) == (0 : Int)) (
        q (AV.tp []) [Ob.box [AV.mp 1], Ob.bun (famR (FamD.mk KK.str (Shp.map KK.str) (delF (Key.s u) (putM b (Rec.mk r.i r.s (delKeyA (Key.s d) r.m)) l)))), Ob.gh [AV.rf 0 0]]) (
        q (AV.tp []) [Ob.box [AV.mp 1], Ob.bun (famR (FamD.mk KK.str (Shp.map KK.str) (putM b (Rec.mk r.i r.s (delKeyA (Key.s d) r.m)) l))), Ob.gh [AV.rf 0 0]]))) (
      q (AV.tp []) [Ob.box [AV.mp 1], Ob.bun (famR (FamD.mk KK.str (Shp.map KK.str) (delF (Key.s u) (putM b (Rec.mk r.i r.s (delKeyA (Key.s d) r.m)) l)))), Ob.gh [AV.rf 0 0]]))) (
    bcase (hasF (Key.s u) l) (
     ∃ (b : Nat),
     ((blkF (Key.s u) l) = (Option.some b)) ∧ (
      ∃ (r : Rec),
      ((recF b l) = (Option.some r)) ∧
      bcase (((List.length r.m) : Int) == (0 : Int)) (
       q (AV.tp []) [Ob.box [AV.mp 1], Ob.bun (famR (FamD.mk KK.str (Shp.map KK.str) (delF (Key.s u) l))), Ob.gh [AV.rf 0 0]]) (
       q (AV.tp []) [Ob.box [AV.mp 1], Ob.bun (famR (FamD.mk KK.str (Shp.map KK.str) l)), Ob.gh [AV.rf 0 0]]))) (
     q (AV.tp []) [Ob.box [AV.mp 1], Ob.bun (famR (FamD.mk KK.str (Shp.map KK.str) (delF (Key.s u) l))), Ob.gh [AV.rf 0 0]])))) := by kernel_rfl
theorem rNw (q : AV → List Ob → Prop) :
  (aCode KC [] Tryd.b9 (kRetF KC Tryd.f9.results.toList q) ⟨[] ++ List.replicate (Tryd.f9.ntmps) .jk, []⟩) = (
  q (AV.rf 1 0) [Ob.map KK.str [], Ob.box [AV.mp 0]]) := by kernel_rfl
end Go.Proofs.YthbejheedpdioaaDoor

namespace Go.Proofs.YthbejheedpdioaaDoor
open Go Go.AM Go.RowKit
attribute [local irreducible] aUnr aUnS aCode
theorem set_has {k : Key} {v : AV} : ∀ (m : MapL), (setKeyA k v m) ≠ [] ∧ (setKeyA k v m).length = m.length + (if hasK k m = true then 0 else 1)
  | [] => ⟨by simp [setKeyA], by simp [setKeyA, hasK, findKeyA]⟩
  | (k', u) :: m => by
    obtain ⟨h1, h2⟩ := set_has (k := k) (v := v) m
    simp only [setKeyA, hasK, findKeyA]
    by_cases h : k' = k
    · simp [h]
    · simp only [if_neg h]
      refine ⟨by simp, ?_⟩
      rw [List.length_cons, h2, List.length_cons]
      unfold hasK
      omega
theorem find_mem {k : Key} : ∀ {m : MapL} {v : AV}, findKeyA k m = some v → (k, v) ∈ m
  | [], v, h => by cases h
  | (k', u) :: m, v, h => by
    simp only [findKeyA] at h
    split at h
    · rename_i e; cases h; subst e; exact List.mem_cons_self
    · exact List.mem_cons_of_mem _ (find_mem h)
theorem set_keys {k : Key} {v : AV} : ∀ {m : MapL}, ∀ p ∈ setKeyA k v m, p = (k, v) ∨ p ∈ m
  | [], p, h => by simp [setKeyA] at h; exact .inl h
  | (k', u) :: m, p, h => by
    simp only [setKeyA] at h
    split at h
    · rename_i e
      rcases List.mem_cons.1 h with h | h
      · subst e; exact .inl h
      · exact .inr (List.mem_cons_of_mem _ h)
    · rcases List.mem_cons.1 h with h | h
      · exact .inr (by rw [h]; exact List.mem_cons_self)
      · rcases set_keys p h with h | h
        · exact .inl h
        · exact .inr (List.mem_cons_of_mem _ h)
theorem set_ok {d v : ByteArray} (hd : d.size ≤ SZC) (hv : v.size ≤ LIM) : ∀ {m : MapL}, MOk m → MOk (setKeyA (.s d) (.d (.v (.string v))) m) := fun {m} h => by
  refine ⟨?_, fun p hp => ?_⟩
  · have key : ∀ (m : MapL), (m.map (·.1)).Nodup → ((setKeyA (.s d) (.d (.v (.string v))) m).map (·.1)).Nodup := fun m => by
      induction m with
      | nil => intro _; simp [setKeyA]
      | cons x m ih =>
        intro hn
        obtain ⟨k', u⟩ := x
        rw [List.map_cons, List.nodup_cons] at hn
        simp only [setKeyA]
        split
        · rw [List.map_cons, List.nodup_cons]; exact hn
        · rename_i hne
          rw [List.map_cons, List.nodup_cons]
          refine ⟨fun hm => ?_, ih hn.2⟩
          obtain ⟨p, hp, he⟩ := List.mem_map.1 hm
          rcases set_keys p hp with h | h
          · rw [h] at he; exact hne he.symm
          · exact hn.1 (by rw [← he]; exact List.mem_map_of_mem (f := fun x : Key × AV => x.1) h)
    exact key m h.nd
  · rcases set_keys p hp with h1 | h1
    · exact ⟨d, v, h1, hd, hv⟩
    · exact h.str p h1
theorem del_sublK {k : Key} : ∀ (m : MapL), (delKeyA k m).Sublist m
  | [] => List.Sublist.refl _
  | (k', u) :: m => by
    simp only [delKeyA]
    split
    · exact List.sublist_cons_self _ _
    · exact (del_sublK m).cons_cons _
theorem del_ok {k : Key} {m : MapL} (h : MOk m) : MOk (delKeyA k m) := ⟨h.nd.sublist ((del_sublK m).map _), fun p hp => h.str p ((del_sublK m).subset hp)⟩
theorem del_put {u : ByteArray} {b : Nat} {r r' : Rec} {l : FLs} (h : CrOk l) (hm : (Key.s u, b, r) ∈ l) : delF (.s u) (putM b r' l) = delF (.s u) l := by
  obtain ⟨l1, l2, e1, e2, _⟩ := put_split (r' := r') h.nd hm
  have hn : ∀ x ∈ l1, x.1 ≠ Key.s u := fun x hx hk => by
    have h2 := h.kd
    rw [e1, List.map_append, List.map_cons, List.nodup_append] at h2
    exact h2.2.2 x.1 (List.mem_map_of_mem (f := fun x : Ent3 => x.1) hx) (Key.s u) (by simp) hk
  have go : ∀ (l1 : FLs) (x : Rec), (∀ x ∈ l1, x.1 ≠ Key.s u) → delF (.s u) (l1 ++ (Key.s u, b, x) :: l2) = l1 ++ l2 := fun l1 x => by
    induction l1 with
    | nil => intro _; simp [delF]
    | cons e l1 ih =>
      intro hn
      simp only [List.cons_append, delF]
      rw [if_neg (hn e (by simp)), ih fun x hx => hn x (by simp [hx])]
  rw [e2, go l1 r' hn]
  rw [e1, go l1 r hn]
def lvM (d : ByteArray) (m : MapL) : MapL := if d = ⟨#[]⟩ then [] else delKeyA (.s d) m
def EShow : REnt := fun al o q => ∃ l x, al = [.rf 0 0, mkS x] ∧ o = obC l ∧ CrOk l ∧ x.size ≤ LIM ∧ q (.tp [mkS (getS (.s (cutD x)) (devs l (cutU x))), mkB (hasK (.s (cutD x)) (devs l (cutU x)))]) (obC l)
theorem cShow : RSound Tryd.prog 11 EShow := by
  refine ref_gen trimW trimW_ok (code_bsound (c := Tryd.b11) mixed KC_ok gSh) KC_ok Tryd.func11 rfl rfl Tryd.call11 fun al o q ⟨l, x, h1, h2, hC, hx, hq⟩ => ?_
  subst h1 h2
  refine cast (rSh l x (trimW q)).symm ⟨hx, bcase_mk (fun h => ?_) (fun h => ?_)⟩
  · obtain ⟨b, r, hb, hr, hm⟩ := has_yes hC.nd h
    rw [devs_mem hC hm] at hq
    exact ⟨b, hb, rfl, r, hr, _, _, weak_packG [some 0, some 1, some 2] rfl, hq⟩
  · rw [devs_no (has_no h)] at hq
    exact ⟨_, _, weak_packG [some 0, some 1, some 2] rfl, hq⟩
def ELv : REnt := fun al o q => ∃ l u d, al = [.rf 0 0, mkS u, mkS d] ∧ o = obC l ∧ CrOk l ∧ ∀ l', ChR u l l' (lvM d (devs l u)) → q (.tp []) (obC l')
theorem cLv : RSound Tryd.prog 24 ELv := by
  refine ref_gen trimW trimW_ok (code_bsound (c := Tryd.b24) mixed KC_ok gsound_nil) KC_ok Tryd.func24 rfl rfl Tryd.call24 fun al o q ⟨l, u, d, h1, h2, hC, hq⟩ => ?_
  subst h1 h2
  refine cast (rLv l u d (trimW q)).symm (bcase_dec (fun hd => ?_) (fun hd => ?_))
  · have e0 : lvM d (devs l u) = [] := if_pos hd
    rw [e0] at hq
    refine bcase_mk (fun h => ?_) (fun h => ?_)
    · obtain ⟨b, r, hb, hr, hm⟩ := has_yes hC.nd h
      refine ⟨b, hb, r, hr, bcaseT (by rw [has_put]; exact h) ⟨b, by rw [blk_put]; exact hb, _, rec_put hr, bcaseT (by rw [has_put, has_put]; exact h) ⟨b, by rw [blk_put, blk_put]; exact hb, _, rec_put (rec_put hr), bcaseT (by simp [delKeyA]) ⟨_, _, weak_packG [some 0, some 1, some 2] rfl, ?_⟩⟩⟩⟩
      rw [put_put, del_put hC hm]
      exact hq _ (ch_del hC u)
    · have hno := has_no h
      refine bcaseF h (bcaseF h ⟨_, _, weak_packG [some 0, some 1, some 2] rfl, hq _ (ch_del hC u)⟩)
  · have e0 : lvM d (devs l u) = delKeyA (.s d) (devs l u) := if_neg hd
    rw [e0] at hq
    refine bcase_mk (fun h => ?_) (fun h => ?_)
    · obtain ⟨b, r, hb, hr, hm⟩ := has_yes hC.nd h
      rw [devs_mem hC hm] at hq
      refine ⟨b, hb, r, hr, bcaseT (by rw [has_put]; exact h) ⟨b, by rw [blk_put]; exact hb, _, rec_put hr, bcase_mk (fun h0 => ?_) (fun h0 => ?_)⟩⟩
      · have h0 : delKeyA (.s d) r.m = [] := by simpa using h0
        refine ⟨_, _, weak_packG [some 0, some 1, some 2] rfl, ?_⟩
        rw [del_put hC hm]
        rw [h0] at hq
        exact hq _ (ch_del hC u)
      · have h0 : delKeyA (.s d) r.m ≠ [] := by simpa using h0
        exact ⟨_, _, weak_packG [some 0, some 1, some 2] rfl, hq _ (ch_put hC hm h0 (del_ok (hC.ms _ hm).2))⟩
    · have hno := has_no h
      rw [devs_no hno] at hq
      exact bcaseF h ⟨_, _, weak_packG [some 0, some 1, some 2] rfl, hq _ (ch_del hC u)⟩
def ENw : List AV → (AV → List Ob → Prop) → Prop := fun al q => al = [] ∧ q (.rf 1 0) [fobC [], .box [.mp 0]]
theorem cNw : NSound Tryd.prog 9 ENw := new_fnN (famO .str (.map .str) 0) (famO_ghost _ _ _) mixed KC_ok gsound_nil Tryd.func9 rfl rfl Tryd.call9 fun al q ⟨h, hq⟩ => by
  subst h
  exact cast (rNw (fun av o => q av (famO .str (.map .str) 0 o))).symm hq
noncomputable abbrev GHe : List (FuncId × En) := [(23, .det F25), (24, .ref (frameE ELv)), (25, .ref (frameE ECnt))]
theorem rHe (l : FLs) (kind : Int) (ty id fr to sh tok rea : ByteArray) (hh ver : Int) (rem : Bool) (its : List (List D)) (q : AV → List Ob → Prop) :
  (aCode KC GHe Tryd.b10 (kRetF KC Tryd.f10.results.toList q) ⟨[.rf 0 0, .ag [mkI .i64 kind, mkS ty, mkS id, mkS fr, mkS to, mkS sh, mkS tok, mkS rea, mkI .u32 hh, mkI .i64 ver, mkB rem, .d (.sl its)]] ++ List.replicate (Tryd.f10.ntmps - 2) .jk, obC l⟩) = (
  ((ByteArray.size fr) ≤ LIM) ∧
  bcase (kind != (1 : Int)) (
   q (mkI .i64 6) [Ob.box [AV.mp 1], Ob.bun (famR (FamD.mk KK.str (Shp.map KK.str) l)), Ob.gh [AV.rf 0 0], Ob.box [mkI .i64 kind, mkS ty, mkS id, mkS fr, mkS to, mkS sh, mkS tok, mkS rea, mkI .u32 hh, mkI .i64 ver, mkB rem, AV.d (.sl its)]]) (
   bcase (!(addrB fr)) (
    q (mkI .i64 6) [Ob.box [AV.mp 1], Ob.bun (famR (FamD.mk KK.str (Shp.map KK.str) l)), Ob.gh [AV.rf 0 0], Ob.box [mkI .i64 kind, mkS ty, mkS id, mkS fr, mkS to, mkS sh, mkS tok, mkS rea, mkI .u32 hh, mkI .i64 ver, mkB rem, AV.d (.sl its)]]) (
    bcase (decide (ty = ⟨#[117, 110, 97, 118, 97, 105, 108, 97, 98, 108, 101]⟩)) (
     ∃ (l_1 : FLs),
     ∃ (u : ByteArray),
     ∃ (d : ByteArray),
     ([AV.rf 0 0, mkS (cutU fr), mkS (cutD fr)] = [AV.rf 0 0, mkS u, mkS d]) ∧
     ([Ob.box [AV.mp (0 + 1)], Ob.bun (famR (FamD.mk KK.str (Shp.map KK.str) l)), Ob.gh [AV.rf 0 0]] = [Ob.box [AV.mp 1], Ob.bun (famR (FamD.mk KK.str (Shp.map KK.str) l_1)), Ob.gh [AV.rf 0 0]]) ∧
     (CrOk l_1) ∧ (
      ∀ (l' : FLs),
      (ChR u l_1 l' (lvM d (devs l_1 u))) →
      ((Option.some (Ob.gh [AV.rf 0 0])) = (Option.some (Ob.gh [AV.rf 0 0]))) ∧
      q (mkI .i64 0) [Ob.box [AV.mp (if 1 < 2 then 1 else 5 + (1 - 2))], Ob.bun (famR (FamD.mk KK.str (Shp.map KK.str) l')), Ob.gh [AV.rf 0 0], Ob.box [mkI .i64 kind, mkS ty, mkS id, mkS fr, mkS to, mkS sh, mkS tok, mkS rea, mkI .u32 hh, mkI .i64 ver, mkB rem, AV.d (.sl its)], Ob.gone, Ob.gone])) (
     bcase (!(decide (ty = ⟨#[]⟩))) (
      q (mkI .i64 6) [Ob.box [AV.mp 1], Ob.bun (famR (FamD.mk KK.str (Shp.map KK.str) l)), Ob.gh [AV.rf 0 0], Ob.box [mkI .i64 kind, mkS ty, mkS id, mkS fr, mkS to, mkS sh, mkS tok, mkS rea, mkI .u32 hh, mkI .i64 ver, mkB rem, AV.d (.sl its)]]) (
      bcase (decide ((cutD fr) = ⟨#[]⟩)) (
       q (mkI .i64 6) [Ob.box [AV.mp 1], Ob.bun (famR (FamD.mk KK.str (Shp.map KK.str) l)), Ob.gh [AV.rf 0 0], Ob.box [mkI .i64 kind, mkS ty, mkS id, mkS fr, mkS to, mkS sh, mkS tok, mkS rea, mkI .u32 hh, mkI .i64 ver, mkB rem, AV.d (.sl its)]]) (
       bcase (hasF (Key.s (cutU fr)) l) (
        ∃ (b : Nat),
        ((blkF (Key.s (cutU fr)) l) = (Option.some b)) ∧
        ((mkS ⟨#[]⟩) = (mkS ⟨#[]⟩)) ∧ (
         ∃ (r : Rec),
         ((recF b l) = (Option.some r)) ∧
         bcase (!(hasK (Key.s (cutD fr)) r.m)) (
          ∃ (l_1 : FLs),
          ([AV.rf 0 0] = [AV.rf 0 0]) ∧
          ([Ob.box [AV.mp (0 + 1)], Ob.bun (famR (FamD.mk KK.str (Shp.map KK.str) l)), Ob.gh [AV.rf 0 0]] = [Ob.box [AV.mp 1], Ob.bun (famR (FamD.mk KK.str (Shp.map KK.str) l_1)), Ob.gh [AV.rf 0 0]]) ∧
          (CrOk l_1) ∧
          ((cntL l_1) ≤ (1000 : Nat)) ∧
          ((Option.some (Ob.gh [AV.rf 0 0])) = (Option.some (Ob.gh [AV.rf 0 0]))) ∧
          bcase (((cntL l_1) : Int) == (64 : Int)) (
           q (mkI .i64 9) [Ob.box [AV.mp (if 1 < 2 then 1 else 5 + (1 - 2))], Ob.bun (famR (FamD.mk KK.str (Shp.map KK.str) l_1)), Ob.gh [AV.rf 0 0], Ob.box [mkI .i64 kind, mkS ty, mkS id, mkS fr, mkS to, mkS sh, mkS tok, mkS rea, mkI .u32 hh, mkI .i64 ver, mkB rem, AV.d (.sl its)], Ob.gone, Ob.gone]) (
           bcase (hasF (Key.s (cutU fr)) l_1) (
            ∃ (b_1 : Nat),
            ((blkF (Key.s (cutU fr)) l_1) = (Option.some b_1)) ∧
            bcase (hasF (Key.s (cutU fr)) l_1) (
             ∃ (b_2 : Nat),
             ((blkF (Key.s (cutU fr)) l_1) = (Option.some b_2)) ∧ (
              ∃ (r_1 : Rec),
              ((recF b_2 l_1) = (Option.some r_1)) ∧
              q (mkI .i64 0) [Ob.box [AV.mp (if 1 < 2 then 1 else 5 + (1 - 2))], Ob.bun (famR (FamD.mk KK.str (Shp.map KK.str) (putM b_2 (Rec.mk r_1.i r_1.s (setKeyA (Key.s (cutD fr)) (mkS sh) r_1.m)) l_1))), Ob.gh [AV.rf 0 0], Ob.box [mkI .i64 kind, mkS ty, mkS id, mkS fr, mkS to, mkS sh, mkS tok, mkS rea, mkI .u32 hh, mkI .i64 ver, mkB rem, AV.d (.sl its)], Ob.gone, Ob.gone])) (
             False)) (
            ((hasF (Key.s (cutU fr)) l_1) = false) ∧ (
             ∀ (b_1 : Nat),
             (∀ (e : Prod Key (Prod Nat Rec)), (e ∈ l_1) → ((Prod.fst (Prod.snd e)) = b_1) → False) →
             bcase (hasF (Key.s (cutU fr)) (l_1 ++ [(Key.s (cutU fr), (b_1, Rec.mk (fun (x : Nat) => (0 : Int)) (fun (x : Nat) => (⟨#[]⟩ : ByteArray)) []))])) (
              ∃ (b_2 : Nat),
              ((blkF (Key.s (cutU fr)) (l_1 ++ [(Key.s (cutU fr), (b_1, Rec.mk (fun (x : Nat) => (0 : Int)) (fun (x : Nat) => (⟨#[]⟩ : ByteArray)) []))])) = (Option.some b_2)) ∧ (
               ∃ (r_1 : Rec),
               ((recF b_2 (l_1 ++ [(Key.s (cutU fr), (b_1, Rec.mk (fun (x : Nat) => (0 : Int)) (fun (x : Nat) => (⟨#[]⟩ : ByteArray)) []))])) = (Option.some r_1)) ∧
               q (mkI .i64 0) [Ob.box [AV.mp (if 1 < 2 then 1 else 5 + (1 - 2))], Ob.bun (famR (FamD.mk KK.str (Shp.map KK.str) (putM b_2 (Rec.mk r_1.i r_1.s (setKeyA (Key.s (cutD fr)) (mkS sh) r_1.m)) (l_1 ++ [(Key.s (cutU fr), (b_1, Rec.mk (fun (x : Nat) => (0 : Int)) (fun (x : Nat) => (⟨#[]⟩ : ByteArray)) []))])))), Ob.gh [AV.rf 0 0], Ob.box [mkI .i64 kind, mkS ty, mkS id, mkS fr, mkS to, mkS sh, mkS tok, mkS rea, mkI .u32 hh, mkI .i64 ver, mkB rem, AV.d (.sl its)], Ob.gone, Ob.gone, Ob.gone])) (
              False))))) (
          bcase (hasF (Key.s (cutU fr)) l) (
           ∃ (b_1 : Nat),
           ((blkF (Key.s (cutU fr)) l) = (Option.some b_1)) ∧
           bcase (hasF (Key.s (cutU fr)) l) (
            ∃ (b_2 : Nat),
            ((blkF (Key.s (cutU fr)) l) = (Option.some b_2)) ∧ (
             ∃ (r_1 : Rec),
             ((recF b_2 l) = (Option.some r_1)) ∧
             q (mkI .i64 0) [Ob.box [AV.mp 1], Ob.bun (famR (FamD.mk KK.str (Shp.map KK.str) (putM b_2 (Rec.mk r_1.i r_1.s (setKeyA (Key.s (cutD fr)) (mkS sh) r_1.m)) l))), Ob.gh [AV.rf 0 0], Ob.box [mkI .i64 kind, mkS ty, mkS id, mkS fr, mkS to, mkS sh, mkS tok, mkS rea, mkI .u32 hh, mkI .i64 ver, mkB rem, AV.d (.sl its)]])) (
            False)) (
           ((hasF (Key.s (cutU fr)) l) = false) ∧ (
            ∀ (b_1 : Nat),
            (∀ (e : Prod Key (Prod Nat Rec)), (e ∈ l) → ((Prod.fst (Prod.snd e)) = b_1) → False) →
            bcase (hasF (Key.s (cutU fr)) (l ++ [(Key.s (cutU fr), (b_1, Rec.mk (fun (x : Nat) => (0 : Int)) (fun (x : Nat) => (⟨#[]⟩ : ByteArray)) []))])) (
             ∃ (b_2 : Nat),
             ((blkF (Key.s (cutU fr)) (l ++ [(Key.s (cutU fr), (b_1, Rec.mk (fun (x : Nat) => (0 : Int)) (fun (x : Nat) => (⟨#[]⟩ : ByteArray)) []))])) = (Option.some b_2)) ∧ (
              ∃ (r_1 : Rec),
              ((recF b_2 (l ++ [(Key.s (cutU fr), (b_1, Rec.mk (fun (x : Nat) => (0 : Int)) (fun (x : Nat) => (⟨#[]⟩ : ByteArray)) []))])) = (Option.some r_1)) ∧
              q (mkI .i64 0) [Ob.box [AV.mp 1], Ob.bun (famR (FamD.mk KK.str (Shp.map KK.str) (putM b_2 (Rec.mk r_1.i r_1.s (setKeyA (Key.s (cutD fr)) (mkS sh) r_1.m)) (l ++ [(Key.s (cutU fr), (b_1, Rec.mk (fun (x : Nat) => (0 : Int)) (fun (x : Nat) => (⟨#[]⟩ : ByteArray)) []))])))), Ob.gh [AV.rf 0 0], Ob.box [mkI .i64 kind, mkS ty, mkS id, mkS fr, mkS to, mkS sh, mkS tok, mkS rea, mkI .u32 hh, mkI .i64 ver, mkB rem, AV.d (.sl its)], Ob.gone])) (
             False)))))) (
        ∃ (l_1 : FLs),
        ([AV.rf 0 0] = [AV.rf 0 0]) ∧
        ([Ob.box [AV.mp (0 + 1)], Ob.bun (famR (FamD.mk KK.str (Shp.map KK.str) l)), Ob.gh [AV.rf 0 0]] = [Ob.box [AV.mp 1], Ob.bun (famR (FamD.mk KK.str (Shp.map KK.str) l_1)), Ob.gh [AV.rf 0 0]]) ∧
        (CrOk l_1) ∧
        ((cntL l_1) ≤ (1000 : Nat)) ∧
        ((Option.some (Ob.gh [AV.rf 0 0])) = (Option.some (Ob.gh [AV.rf 0 0]))) ∧
        bcase (((cntL l_1) : Int) == (64 : Int)) (
         q (mkI .i64 9) [Ob.box [AV.mp (if 1 < 2 then 1 else 5 + (1 - 2))], Ob.bun (famR (FamD.mk KK.str (Shp.map KK.str) l_1)), Ob.gh [AV.rf 0 0], Ob.box [mkI .i64 kind, mkS ty, mkS id, mkS fr, mkS to, mkS sh, mkS tok, mkS rea, mkI .u32 hh, mkI .i64 ver, mkB rem, AV.d (.sl its)], Ob.gone, Ob.gone]) (
         bcase (hasF (Key.s (cutU fr)) l_1) (
          ∃ (b : Nat),
          ((blkF (Key.s (cutU fr)) l_1) = (Option.some b)) ∧
          bcase (hasF (Key.s (cutU fr)) l_1) (
           ∃ (b_1 : Nat),
           ((blkF (Key.s (cutU fr)) l_1) = (Option.some b_1)) ∧ (
            ∃ (r : Rec),
            ((recF b_1 l_1) = (Option.some r)) ∧
            q (mkI .i64 0) [Ob.box [AV.mp (if 1 < 2 then 1 else 5 + (1 - 2))], Ob.bun (famR (FamD.mk KK.str (Shp.map KK.str) (putM b_1 (Rec.mk r.i r.s (setKeyA (Key.s (cutD fr)) (mkS sh) r.m)) l_1))), Ob.gh [AV.rf 0 0], Ob.box [mkI .i64 kind, mkS ty, mkS id, mkS fr, mkS to, mkS sh, mkS tok, mkS rea, mkI .u32 hh, mkI .i64 ver, mkB rem, AV.d (.sl its)], Ob.gone, Ob.gone])) (
           False)) (
          ((hasF (Key.s (cutU fr)) l_1) = false) ∧ (
           ∀ (b : Nat),
           (∀ (e : Prod Key (Prod Nat Rec)), (e ∈ l_1) → ((Prod.fst (Prod.snd e)) = b) → False) →
           bcase (hasF (Key.s (cutU fr)) (l_1 ++ [(Key.s (cutU fr), (b, Rec.mk (fun (x : Nat) => (0 : Int)) (fun (x : Nat) => (⟨#[]⟩ : ByteArray)) []))])) (
            ∃ (b_1 : Nat),
            ((blkF (Key.s (cutU fr)) (l_1 ++ [(Key.s (cutU fr), (b, Rec.mk (fun (x : Nat) => (0 : Int)) (fun (x : Nat) => (⟨#[]⟩ : ByteArray)) []))])) = (Option.some b_1)) ∧ (
             ∃ (r : Rec),
             ((recF b_1 (l_1 ++ [(Key.s (cutU fr), (b, Rec.mk (fun (x : Nat) => (0 : Int)) (fun (x : Nat) => (⟨#[]⟩ : ByteArray)) []))])) = (Option.some r)) ∧
             q (mkI .i64 0) [Ob.box [AV.mp (if 1 < 2 then 1 else 5 + (1 - 2))], Ob.bun (famR (FamD.mk KK.str (Shp.map KK.str) (putM b_1 (Rec.mk r.i r.s (setKeyA (Key.s (cutD fr)) (mkS sh) r.m)) (l_1 ++ [(Key.s (cutU fr), (b, Rec.mk (fun (x : Nat) => (0 : Int)) (fun (x : Nat) => (⟨#[]⟩ : ByteArray)) []))])))), Ob.gh [AV.rf 0 0], Ob.box [mkI .i64 kind, mkS ty, mkS id, mkS fr, mkS to, mkS sh, mkS tok, mkS rea, mkI .u32 hh, mkI .i64 ver, mkB rem, AV.d (.sl its)], Ob.gone, Ob.gone, Ob.gone])) (
            False))))))))))) := by kernel_rfl
end Go.Proofs.YthbejheedpdioaaDoor

namespace Go.Proofs.YthbejheedpdioaaDoor
open Go Go.AM Go.RowKit
attribute [local irreducible] aUnr aUnS aCode
theorem ext_size (s : ByteArray) (a b : Nat) : (s.extract a b).size ≤ s.size := by rw [ByteArray.size_extract]; omega
theorem cutU_size (s : ByteArray) : (cutU s).size ≤ s.size := by
  unfold cutU; split
  · exact ext_size _ _ _
  · exact Nat.le_refl _
theorem cutD_size (s : ByteArray) : (cutD s).size ≤ s.size := by
  unfold cutD; split
  · exact ext_size _ _ _
  · exact Nat.zero_le _
theorem blk_app {u : ByteArray} {b : Nat} {r : Rec} : ∀ {l : FLs}, (∀ e ∈ l, e.1 ≠ Key.s u) → blkF (.s u) (l ++ [(.s u, b, r)]) = some b
  | [], _ => by simp [blkF]
  | e :: l, h => by simp only [List.cons_append, blkF]; rw [if_neg (h e (by simp))]; exact blk_app fun x hx => h x (by simp [hx])
theorem rec_app {k : Key} {b : Nat} {r : Rec} : ∀ {l : FLs}, newF b l → recF b (l ++ [(k, b, r)]) = some r
  | [], _ => by simp [recF]
  | e :: l, h => by simp only [List.cons_append, recF]; rw [if_neg (h e (by simp))]; exact rec_app fun x hx => h x (by simp [hx])
theorem put_app {k : Key} {b : Nat} {r r' : Rec} : ∀ {l : FLs}, newF b l → putM b r' (l ++ [(k, b, r)]) = l ++ [(k, b, r')]
  | [], _ => by simp [putM]
  | e :: l, h => by
    simp only [List.cons_append, putM]; rw [if_neg (h e (by simp)), put_app fun x hx => h x (by simp [hx])]
theorem has_app {u : ByteArray} {b : Nat} {r : Rec} {l : FLs} (h : ∀ e ∈ l, e.1 ≠ Key.s u) : hasF (.s u) (l ++ [(.s u, b, r)]) = true := by unfold hasF; rw [blk_app h]; rfl
abbrev unB : ByteArray := ⟨#[117, 110, 97, 118, 97, 105, 108, 97, 98, 108, 101]⟩
inductive HeR (l : FLs) (kind : Int) (ty fr sh : ByteArray) : Int → FLs → Prop
  | bad (h : kind ≠ 1 ∨ addrB fr = false ∨ (ty ≠ unB ∧ (ty ≠ ⟨#[]⟩ ∨ cutD fr = ⟨#[]⟩))) : HeR l kind ty fr sh 6 l
  | off {l' : FLs} (h1 : kind = 1) (h2 : addrB fr = true) (h3 : ty = unB) (h : ChR (cutU fr) l l' (lvM (cutD fr) (devs l (cutU fr)))) : HeR l kind ty fr sh 0 l'
  | full (h1 : kind = 1) (h2 : addrB fr = true) (h3 : ty = ⟨#[]⟩) (h4 : cutD fr ≠ ⟨#[]⟩) (h5 : hasK (.s (cutD fr)) (devs l (cutU fr)) = false) (h6 : cntL l = 64) : HeR l kind ty fr sh 9 l
  | on {l' : FLs} (h1 : kind = 1) (h2 : addrB fr = true) (h3 : ty = ⟨#[]⟩) (h4 : cutD fr ≠ ⟨#[]⟩) (h5 : hasK (.s (cutD fr)) (devs l (cutU fr)) = true ∨ cntL l ≠ 64) (h : ChR (cutU fr) l l' (setKeyA (.s (cutD fr)) (mkS sh) (devs l (cutU fr)))) : HeR l kind ty fr sh 0 l'
def EHe : REnt := fun al o q => ∃ l kind ty id fr to sh tok rea hh ver rem its, al = [.rf 0 0, .ag [mkI .i64 kind, mkS ty, mkS id, mkS fr, mkS to, mkS sh, mkS tok, mkS rea, mkI .u32 hh, mkI .i64 ver, mkB rem, .d (.sl its)]] ∧ o = obC l ∧ CrOk l ∧ cntL l ≤ 1000 ∧ fr.size ≤ SZC ∧ sh.size ≤ LIM ∧
  ∀ e l', HeR l kind ty fr sh e l' → q (mkI .i64 e) (obC l')
theorem gHe (hc : RSound Tryd.prog 25 ECnt) : GSound Tryd.prog GHe := gsound_det c25 (gsound_ref (RSound.frame cLv) (gsound_ref (RSound.frame hc) gsound_nil))
theorem cHe_of (hc : RSound Tryd.prog 25 ECnt) : RSound Tryd.prog 10 EHe := by
  refine ref_gen trimW trimW_ok (code_bsound (c := Tryd.b10) mixed KC_ok (gHe hc)) KC_ok Tryd.func10 rfl rfl Tryd.call10 fun al o q ⟨l, kind, ty, id, fr, to, sh, tok, rea, hh, ver, rem, its, h1, h2, hC, hn, hfr, hsh, hq⟩ => ?_
  subst h1 h2
  have hus : (cutU fr).size ≤ SZC := Nat.le_trans (cutU_size fr) hfr
  have hds : (cutD fr).size ≤ SZC := Nat.le_trans (cutD_size fr) hfr
  refine cast (rHe l kind ty id fr to sh tok rea hh ver rem its (trimW q)).symm ⟨szc_lim hfr, bcase_mk (fun hk => ⟨_, _, weak_packG [some 0, some 1, some 2] rfl, hq _ _ (.bad (.inl (by simpa using hk)))⟩) (fun hk => ?_)⟩
  have hk : kind = 1 := by simpa using hk
  refine bcase_mk (fun ha => ⟨_, _, weak_packG [some 0, some 1, some 2] rfl, hq _ _ (.bad (.inr (.inl (by simpa using ha))))⟩) (fun ha => ?_)
  have ha : addrB fr = true := by simpa using ha
  refine bcase_dec (fun ht => ⟨l, cutU fr, cutD fr, rfl, rfl, hC, fun l' hl' => ⟨rfl, _, _, weak_packG [some 0, some 1, some 2] rfl, hq _ _ (.off hk ha ht hl')⟩⟩) (fun ht => ?_)
  refine bcase_mk (fun hty => ⟨_, _, weak_packG [some 0, some 1, some 2] rfl, hq _ _ (.bad (.inr (.inr ⟨ht, .inl (by simpa using hty)⟩)))⟩) (fun hty => ?_)
  have hty : ty = ⟨#[]⟩ := by simpa using hty
  refine bcase_dec (fun hd => ⟨_, _, weak_packG [some 0, some 1, some 2] rfl, hq _ _ (.bad (.inr (.inr ⟨ht, .inr hd⟩)))⟩) (fun hd => ?_)
  refine bcase_mk (fun hu => ?_) (fun hu => ?_)
  · obtain ⟨b, r, hb, hr, hm⟩ := has_yes hC.nd hu
    have hdv := devs_mem hC hm
    have hset := set_has (k := Key.s (cutD fr)) (v := mkS sh) r.m
    have hch : ChR (cutU fr) l (putM b ⟨r.i, r.s, setKeyA (Key.s (cutD fr)) (mkS sh) r.m⟩ l) (setKeyA (Key.s (cutD fr)) (mkS sh) (devs l (cutU fr))) := by
      rw [hdv]; exact ch_put hC hm hset.1 (set_ok hds hsh (hC.ms _ hm).2)
    refine ⟨b, hb, rfl, r, hr, bcase_mk (fun hn1 => ?_) (fun hn1 => ?_)⟩
    · have hn1 : hasK (.s (cutD fr)) (devs l (cutU fr)) = false := by rw [hdv]; simpa using hn1
      refine ⟨l, rfl, rfl, hC, hn, rfl, bcase_mk (fun h64 => ?_) (fun h64 => ?_)⟩
      · have h64 : cntL l = 64 := by have : (cntL l : Int) = 64 := by simpa using h64
                                     omega
        exact ⟨_, _, weak_packG [some 0, some 1, some 2] rfl, hq _ _ (.full hk ha hty hd hn1 h64)⟩
      · have h64 : cntL l ≠ 64 := fun e => by rw [e] at h64; exact absurd h64 (by decide)
        exact bcaseT hu ⟨b, hb, bcaseT hu ⟨b, hb, r, hr, _, _, weak_packG [some 0, some 1, some 2] rfl, hq _ _ (.on hk ha hty hd (.inr h64) hch)⟩⟩
    · have hn1 : hasK (.s (cutD fr)) (devs l (cutU fr)) = true := by rw [hdv]; simpa using hn1
      exact bcaseT hu ⟨b, hb, bcaseT hu ⟨b, hb, r, hr, _, _, weak_packG [some 0, some 1, some 2] rfl, hq _ _ (.on hk ha hty hd (.inl hn1) hch)⟩⟩
  · have hno := has_no hu
    have hdv := devs_no hno
    have hn1 : hasK (.s (cutD fr)) (devs l (cutU fr)) = false := by rw [hdv]; rfl
    refine ⟨l, rfl, rfl, hC, hn, rfl, bcase_mk (fun h64 => ?_) (fun h64 => ?_)⟩
    · have h64 : cntL l = 64 := by have : (cntL l : Int) = 64 := by simpa using h64
                                   omega
      exact ⟨_, _, weak_packG [some 0, some 1, some 2] rfl, hq _ _ (.full hk ha hty hd hn1 h64)⟩
    · have h64 : cntL l ≠ 64 := fun e => by rw [e] at h64; exact absurd h64 (by decide)
      refine bcaseF hu ⟨hu, fun b hnb => ?_⟩
      refine bcaseT (has_app hno) ⟨b, blk_app hno, _, rec_app hnb, _, _, weak_packG [some 0, some 1, some 2] rfl, ?_⟩
      rw [put_app hnb]
      refine hq _ _ (.on hk ha hty hd (.inr h64) ?_)
      rw [hdv]
      exact ch_add hC hus hno hnb (set_has []).1 (set_ok hds hsh ⟨by simp, by simp⟩)
end Go.Proofs.YthbejheedpdioaaDoor
