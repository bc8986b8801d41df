import Derived.Test.YthbejheedpdioaaDoorCrTab
set_option linter.unusedSimpArgs false
set_option linter.unusedVariables false
namespace Go.Proofs.YthbejheedpdioaaDoor
open Go Go.AM Go.RowKit
set_option maxRecDepth 10000
attribute [local irreducible] aUnr aUnS aCode
theorem set_has {k : Key} {v : AV} : ∀ (m : MapL), (setKeyA k v m) ≠ [] ∧ (setKeyA k v m).length = m.length + (if hasK k m = true then 0 else 1)
  | [] => ⟨by simp [setKeyA], by simp [setKeyA, hasK, findKeyA]⟩
  | (k', u) :: m => by
    obtain ⟨h1, h2⟩ := set_has (k := k) (v := v) m
    simp only [setKeyA, hasK, findKeyA]
    by_cases h : k' = k
    · simp [h]
    · simp only [if_neg h]
      refine ⟨by simp, ?_⟩
      rw [List.length_cons, h2, List.length_cons]
      unfold hasK
      omega
theorem find_mem {k : Key} : ∀ {m : MapL} {v : AV}, findKeyA k m = some v → (k, v) ∈ m
  | [], v, h => by cases h
  | (k', u) :: m, v, h => by
    simp only [findKeyA] at h
    split at h
    · rename_i e; cases h; subst e; exact List.mem_cons_self
    · exact List.mem_cons_of_mem _ (find_mem h)
theorem set_keys {k : Key} {v : AV} : ∀ {m : MapL}, ∀ p ∈ setKeyA k v m, p = (k, v) ∨ p ∈ m
  | [], p, h => by simp [setKeyA] at h; exact .inl h
  | (k', u) :: m, p, h => by
    simp only [setKeyA] at h
    split at h
    · rename_i e
      rcases List.mem_cons.1 h with h | h
      · subst e; exact .inl h
      · exact .inr (List.mem_cons_of_mem _ h)
    · rcases List.mem_cons.1 h with h | h
      · exact .inr (by rw [h]; exact List.mem_cons_self)
      · rcases set_keys p h with h | h
        · exact .inl h
        · exact .inr (List.mem_cons_of_mem _ h)
theorem set_ok {d v : ByteArray} (hd : d.size ≤ SZC) (hv : v.size ≤ LIM) : ∀ {m : MapL}, MOk m → MOk (setKeyA (.s d) (.d (.v (.string v))) m) := fun {m} h => by
  refine ⟨?_, fun p hp => ?_⟩
  · have key : ∀ (m : MapL), (m.map (·.1)).Nodup → ((setKeyA (.s d) (.d (.v (.string v))) m).map (·.1)).Nodup := fun m => by
      induction m with
      | nil => intro _; simp [setKeyA]
      | cons x m ih =>
        intro hn
        obtain ⟨k', u⟩ := x
        rw [List.map_cons, List.nodup_cons] at hn
        simp only [setKeyA]
        split
        · rw [List.map_cons, List.nodup_cons]; exact hn
        · rename_i hne
          rw [List.map_cons, List.nodup_cons]
          refine ⟨fun hm => ?_, ih hn.2⟩
          obtain ⟨p, hp, he⟩ := List.mem_map.1 hm
          rcases set_keys p hp with h | h
          · rw [h] at he; exact hne he.symm
          · exact hn.1 (by rw [← he]; exact List.mem_map_of_mem (f := fun x : Key × AV => x.1) h)
    exact key m h.nd
  · rcases set_keys p hp with h1 | h1
    · exact ⟨d, v, h1, hd, hv⟩
    · exact h.str p h1
theorem del_sublK {k : Key} : ∀ (m : MapL), (delKeyA k m).Sublist m
  | [] => List.Sublist.refl _
  | (k', u) :: m => by
    simp only [delKeyA]
    split
    · exact List.sublist_cons_self _ _
    · exact (del_sublK m).cons_cons _
theorem del_ok {k : Key} {m : MapL} (h : MOk m) : MOk (delKeyA k m) := ⟨h.nd.sublist ((del_sublK m).map _), fun p hp => h.str p ((del_sublK m).subset hp)⟩
theorem del_put {u : ByteArray} {b : Nat} {r r' : Rec} {l : FLs} (h : CrOk l) (hm : (Key.s u, b, r) ∈ l) : delF (.s u) (putM b r' l) = delF (.s u) l := by
  obtain ⟨l1, l2, e1, e2, _⟩ := put_split (r' := r') h.nd hm
  have hn : ∀ x ∈ l1, x.1 ≠ Key.s u := fun x hx hk => by
    have h2 := h.kd
    rw [e1, List.map_append, List.map_cons, List.nodup_append] at h2
    exact h2.2.2 x.1 (List.mem_map_of_mem (f := fun x : Ent3 => x.1) hx) (Key.s u) (by simp) hk
  have go : ∀ (l1 : FLs) (x : Rec), (∀ x ∈ l1, x.1 ≠ Key.s u) → delF (.s u) (l1 ++ (Key.s u, b, x) :: l2) = l1 ++ l2 := fun l1 x => by
    induction l1 with
    | nil => intro _; simp [delF]
    | cons e l1 ih =>
      intro hn
      simp only [List.cons_append, delF]
      rw [if_neg (hn e (by simp)), ih fun x hx => hn x (by simp [hx])]
  rw [e2, go l1 r' hn]
  rw [e1, go l1 r hn]
def lvM (d : ByteArray) (m : MapL) : MapL := if d = ⟨#[]⟩ then [] else delKeyA (.s d) m
def EShow : REnt := fun al o q => ∃ l x, al = [.rf 0 0, mkS x] ∧ o = obC l ∧ CrOk l ∧ x.size ≤ LIM ∧ q (.tp [mkS (getS (.s (cutD x)) (devs l (cutU x))), mkB (hasK (.s (cutD x)) (devs l (cutU x)))]) (obC l)
theorem cShow : RSound Tryd.prog 11 EShow := by
  refine ref_gen trimW trimW_ok (code_bsound (c := Tryd.b11) mixed KC_ok gSh) KC_ok Tryd.func11 rfl rfl Tryd.call11 fun al o q ⟨l, x, h1, h2, hC, hx, hq⟩ => ?_
  subst h1 h2
  refine cast (rSh l x (trimW q)).symm ⟨hx, bcase_mk (fun h => ?_) (fun h => ?_)⟩
  · obtain ⟨b, r, hb, hr, hm⟩ := has_yes hC.nd h
    rw [devs_mem hC hm] at hq
    exact ⟨b, hb, rfl, r, hr, _, _, weak_packG [some 0, some 1, some 2] rfl, hq⟩
  · rw [devs_no (has_no h)] at hq
    exact ⟨_, _, weak_packG [some 0, some 1, some 2] rfl, hq⟩
def ELv : REnt := fun al o q => ∃ l u d, al = [.rf 0 0, mkS u, mkS d] ∧ o = obC l ∧ CrOk l ∧ ∀ l', ChR u l l' (lvM d (devs l u)) → q (.tp []) (obC l')
theorem cLv : RSound Tryd.prog 24 ELv := by
  refine ref_gen trimW trimW_ok (code_bsound (c := Tryd.b24) mixed KC_ok gsound_nil) KC_ok Tryd.func24 rfl rfl Tryd.call24 fun al o q ⟨l, u, d, h1, h2, hC, hq⟩ => ?_
  subst h1 h2
  refine cast (rLv l u d (trimW q)).symm (bcase_dec (fun hd => ?_) (fun hd => ?_))
  · have e0 : lvM d (devs l u) = [] := if_pos hd
    rw [e0] at hq
    refine bcase_mk (fun h => ?_) (fun h => ?_)
    · obtain ⟨b, r, hb, hr, hm⟩ := has_yes hC.nd h
      refine ⟨b, hb, r, hr, bcaseT (by rw [has_put]; exact h) ⟨b, by rw [blk_put]; exact hb, _, rec_put hr, bcaseT (by rw [has_put, has_put]; exact h) ⟨b, by rw [blk_put, blk_put]; exact hb, _, rec_put (rec_put hr), bcaseT (by simp [delKeyA]) ⟨_, _, weak_packG [some 0, some 1, some 2] rfl, ?_⟩⟩⟩⟩
      rw [put_put, del_put hC hm]
      exact hq _ (ch_del hC u)
    · have hno := has_no h
      refine bcaseF h (bcaseF h ⟨_, _, weak_packG [some 0, some 1, some 2] rfl, hq _ (ch_del hC u)⟩)
  · have e0 : lvM d (devs l u) = delKeyA (.s d) (devs l u) := if_neg hd
    rw [e0] at hq
    refine bcase_mk (fun h => ?_) (fun h => ?_)
    · obtain ⟨b, r, hb, hr, hm⟩ := has_yes hC.nd h
      rw [devs_mem hC hm] at hq
      refine ⟨b, hb, r, hr, bcaseT (by rw [has_put]; exact h) ⟨b, by rw [blk_put]; exact hb, _, rec_put hr, bcase_mk (fun h0 => ?_) (fun h0 => ?_)⟩⟩
      · have h0 : delKeyA (.s d) r.m = [] := by simpa using h0
        refine ⟨_, _, weak_packG [some 0, some 1, some 2] rfl, ?_⟩
        rw [del_put hC hm]
        rw [h0] at hq
        exact hq _ (ch_del hC u)
      · have h0 : delKeyA (.s d) r.m ≠ [] := by simpa using h0
        exact ⟨_, _, weak_packG [some 0, some 1, some 2] rfl, hq _ (ch_put hC hm h0 (del_ok (hC.ms _ hm).2))⟩
    · have hno := has_no h
      rw [devs_no hno] at hq
      exact bcaseF h ⟨_, _, weak_packG [some 0, some 1, some 2] rfl, hq _ (ch_del hC u)⟩
def ENw : List AV → (AV → List Ob → Prop) → Prop := fun al q => al = [] ∧ q (.rf 1 0) [fobC [], .box [.mp 0]]
theorem cNw : NSound Tryd.prog 9 ENw := new_fnN (famO .str (.map .str) 0) (famO_ghost _ _ _) mixed KC_ok gsound_nil Tryd.func9 rfl rfl Tryd.call9 fun al q ⟨h, hq⟩ => by
  subst h
  exact cast (rNw (fun av o => q av (famO .str (.map .str) 0 o))).symm hq
noncomputable abbrev GHe : List (FuncId × En) := [(23, .det F25), (24, .ref (frameE ELv)), (25, .ref (frameE ECnt))]
theorem rHe (l : FLs) (kind : Int) (ty id fr to sh tok rea : ByteArray) (hh ver : Int) (rem : Bool) (its : List (List D)) (q : AV → List Ob → Prop) :
  (aCode KC GHe Tryd.b10 (kRetF KC Tryd.f10.results.toList q) ⟨[.rf 0 0, .ag [mkI .i64 kind, mkS ty, mkS id, mkS fr, mkS to, mkS sh, mkS tok, mkS rea, mkI .u32 hh, mkI .i64 ver, mkB rem, .d (.sl its)]] ++ List.replicate (Tryd.f10.ntmps - 2) .jk, obC l⟩) = (
  ((ByteArray.size fr) ≤ LIM) ∧
  bcase (kind != (1 : Int)) (
   q (mkI .i64 6) [Ob.box [AV.mp 1], Ob.bun (famR (FamD.mk KK.str (Shp.map KK.str) l)), Ob.gh [AV.rf 0 0], Ob.box [mkI .i64 kind, mkS ty, mkS id, mkS fr, mkS to, mkS sh, mkS tok, mkS rea, mkI .u32 hh, mkI .i64 ver, mkB rem, AV.d (.sl its)]]) (
   bcase (!(addrB fr)) (
    q (mkI .i64 6) [Ob.box [AV.mp 1], Ob.bun (famR (FamD.mk KK.str (Shp.map KK.str) l)), Ob.gh [AV.rf 0 0], Ob.box [mkI .i64 kind, mkS ty, mkS id, mkS fr, mkS to, mkS sh, mkS tok, mkS rea, mkI .u32 hh, mkI .i64 ver, mkB rem, AV.d (.sl its)]]) (
    bcase (decide (ty = ⟨#[117, 110, 97, 118, 97, 105, 108, 97, 98, 108, 101]⟩)) (
     ∃ (l_1 : FLs),
     ∃ (u : ByteArray),
     ∃ (d : ByteArray),
     ([AV.rf 0 0, mkS (cutU fr), mkS (cutD fr)] = [AV.rf 0 0, mkS u, mkS d]) ∧
     ([Ob.box [AV.mp (0 + 1)], Ob.bun (famR (FamD.mk KK.str (Shp.map KK.str) l)), Ob.gh [AV.rf 0 0]] = [Ob.box [AV.mp 1], Ob.bun (famR (FamD.mk KK.str (Shp.map KK.str) l_1)), Ob.gh [AV.rf 0 0]]) ∧
     (CrOk l_1) ∧ (
      ∀ (l' : FLs),
      (ChR u l_1 l' (lvM d (devs l_1 u))) →
      ((Option.some (Ob.gh [AV.rf 0 0])) = (Option.some (Ob.gh [AV.rf 0 0]))) ∧
      q (mkI .i64 0) [Ob.box [AV.mp (if 1 < 2 then 1 else 5 + (1 - 2))], Ob.bun (famR (FamD.mk KK.str (Shp.map KK.str) l')), Ob.gh [AV.rf 0 0], Ob.box [mkI .i64 kind, mkS ty, mkS id, mkS fr, mkS to, mkS sh, mkS tok, mkS rea, mkI .u32 hh, mkI .i64 ver, mkB rem, AV.d (.sl its)], Ob.gone, Ob.gone])) (
     bcase (!(decide (ty = ⟨#[]⟩))) (
      q (mkI .i64 6) [Ob.box [AV.mp 1], Ob.bun (famR (FamD.mk KK.str (Shp.map KK.str) l)), Ob.gh [AV.rf 0 0], Ob.box [mkI .i64 kind, mkS ty, mkS id, mkS fr, mkS to, mkS sh, mkS tok, mkS rea, mkI .u32 hh, mkI .i64 ver, mkB rem, AV.d (.sl its)]]) (
      bcase (decide ((cutD fr) = ⟨#[]⟩)) (
       q (mkI .i64 6) [Ob.box [AV.mp 1], Ob.bun (famR (FamD.mk KK.str (Shp.map KK.str) l)), Ob.gh [AV.rf 0 0], Ob.box [mkI .i64 kind, mkS ty, mkS id, mkS fr, mkS to, mkS sh, mkS tok, mkS rea, mkI .u32 hh, mkI .i64 ver, mkB rem, AV.d (.sl its)]]) (
       bcase (hasF (Key.s (cutU fr)) l) (
        ∃ (b : Nat),
        ((blkF (Key.s (cutU fr)) l) = (Option.some b)) ∧
        ((mkS ⟨#[]⟩) = (mkS ⟨#[]⟩)) ∧ (
         ∃ (r : Rec),
         ((recF b l) = (Option.some r)) ∧
         bcase (!(hasK (Key.s (cutD fr)) r.m)) (
          ∃ (l_1 : FLs),
          ([AV.rf 0 0] = [AV.rf 0 0]) ∧
          ([Ob.box [AV.mp (0 + 1)], Ob.bun (famR (FamD.mk KK.str (Shp.map KK.str) l)), Ob.gh [AV.rf 0 0]] = [Ob.box [AV.mp 1], Ob.bun (famR (FamD.mk KK.str (Shp.map KK.str) l_1)), Ob.gh [AV.rf 0 0]]) ∧
          (CrOk l_1) ∧
          ((cntL l_1) ≤ (1000 : Nat)) ∧
          ((Option.some (Ob.gh [AV.rf 0 0])) = (Option.some (Ob.gh [AV.rf 0 0]))) ∧
          bcase (((cntL l_1) : Int) == (64 : Int)) (
           q (mkI .i64 9) [Ob.box [AV.mp (if 1 < 2 then 1 else 5 + (1 - 2))], Ob.bun (famR (FamD.mk KK.str (Shp.map KK.str) l_1)), Ob.gh [AV.rf 0 0], Ob.box [mkI .i64 kind, mkS ty, mkS id, mkS fr, mkS to, mkS sh, mkS tok, mkS rea, mkI .u32 hh, mkI .i64 ver, mkB rem, AV.d (.sl its)], Ob.gone, Ob.gone]) (
           bcase (hasF (Key.s (cutU fr)) l_1) (
            ∃ (b_1 : Nat),
            ((blkF (Key.s (cutU fr)) l_1) = (Option.some b_1)) ∧
            bcase (hasF (Key.s (cutU fr)) l_1) (
             ∃ (b_2 : Nat),
             ((blkF (Key.s (cutU fr)) l_1) = (Option.some b_2)) ∧ (
              ∃ (r_1 : Rec),
              ((recF b_2 l_1) = (Option.some r_1)) ∧
              q (mkI .i64 0) [Ob.box [AV.mp (if 1 < 2 then 1 else 5 + (1 - 2))], Ob.bun (famR (FamD.mk KK.str (Shp.map KK.str) (putM b_2 (Rec.mk r_1.i r_1.s (setKeyA (Key.s (cutD fr)) (mkS sh) r_1.m)) l_1))), Ob.gh [AV.rf 0 0], Ob.box [mkI .i64 kind, mkS ty, mkS id, mkS fr, mkS to, mkS sh, mkS tok, mkS rea, mkI .u32 hh, mkI .i64 ver, mkB rem, AV.d (.sl its)], Ob.gone, Ob.gone])) (
             False)) (
            ((hasF (Key.s (cutU fr)) l_1) = false) ∧ (
             ∀ (b_1 : Nat),
             (∀ (e : Prod Key (Prod Nat Rec)), (e ∈ l_1) → ((Prod.fst (Prod.snd e)) = b_1) → False) →
             bcase (hasF (Key.s (cutU fr)) (l_1 ++ [(Key.s (cutU fr), (b_1, Rec.mk (fun (x : Nat) => (0 : Int)) (fun (x : Nat) => (⟨#[]⟩ : ByteArray)) []))])) (
              ∃ (b_2 : Nat),
              ((blkF (Key.s (cutU fr)) (l_1 ++ [(Key.s (cutU fr), (b_1, Rec.mk (fun (x : Nat) => (0 : Int)) (fun (x : Nat) => (⟨#[]⟩ : ByteArray)) []))])) = (Option.some b_2)) ∧ (
               ∃ (r_1 : Rec),
               ((recF b_2 (l_1 ++ [(Key.s (cutU fr), (b_1, Rec.mk (fun (x : Nat) => (0 : Int)) (fun (x : Nat) => (⟨#[]⟩ : ByteArray)) []))])) = (Option.some r_1)) ∧
               q (mkI .i64 0) [Ob.box [AV.mp (if 1 < 2 then 1 else 5 + (1 - 2))], Ob.bun (famR (FamD.mk KK.str (Shp.map KK.str) (putM b_2 (Rec.mk r_1.i r_1.s (setKeyA (Key.s (cutD fr)) (mkS sh) r_1.m)) (l_1 ++ [(Key.s (cutU fr), (b_1, Rec.mk (fun (x : Nat) => (0 : Int)) (fun (x : Nat) => (⟨#[]⟩ : ByteArray)) []))])))), Ob.gh [AV.rf 0 0], Ob.box [mkI .i64 kind, mkS ty, mkS id, mkS fr, mkS to, mkS sh, mkS tok, mkS rea, mkI .u32 hh, mkI .i64 ver, mkB rem, AV.d (.sl its)], Ob.gone, Ob.gone, Ob.gone])) (
              False))))) (
          bcase (hasF (Key.s (cutU fr)) l) (
           ∃ (b_1 : Nat),
           ((blkF (Key.s (cutU fr)) l) = (Option.some b_1)) ∧
           bcase (hasF (Key.s (cutU fr)) l) (
            ∃ (b_2 : Nat),
            ((blkF (Key.s (cutU fr)) l) = (Option.some b_2)) ∧ (
             ∃ (r_1 : Rec),
             ((recF b_2 l) = (Option.some r_1)) ∧
             q (mkI .i64 0) [Ob.box [AV.mp 1], Ob.bun (famR (FamD.mk KK.str (Shp.map KK.str) (putM b_2 (Rec.mk r_1.i r_1.s (setKeyA (Key.s (cutD fr)) (mkS sh) r_1.m)) l))), Ob.gh [AV.rf 0 0], Ob.box [mkI .i64 kind, mkS ty, mkS id, mkS fr, mkS to, mkS sh, mkS tok, mkS rea, mkI .u32 hh, mkI .i64 ver, mkB rem, AV.d (.sl its)]])) (
            False)) (
           ((hasF (Key.s (cutU fr)) l) = false) ∧ (
            ∀ (b_1 : Nat),
            (∀ (e : Prod Key (Prod Nat Rec)), (e ∈ l) → ((Prod.fst (Prod.snd e)) = b_1) → False) →
            bcase (hasF (Key.s (cutU fr)) (l ++ [(Key.s (cutU fr), (b_1, Rec.mk (fun (x : Nat) => (0 : Int)) (fun (x : Nat) => (⟨#[]⟩ : ByteArray)) []))])) (
             ∃ (b_2 : Nat),
             ((blkF (Key.s (cutU fr)) (l ++ [(Key.s (cutU fr), (b_1, Rec.mk (fun (x : Nat) => (0 : Int)) (fun (x : Nat) => (⟨#[]⟩ : ByteArray)) []))])) = (Option.some b_2)) ∧ (
              ∃ (r_1 : Rec),
              ((recF b_2 (l ++ [(Key.s (cutU fr), (b_1, Rec.mk (fun (x : Nat) => (0 : Int)) (fun (x : Nat) => (⟨#[]⟩ : ByteArray)) []))])) = (Option.some r_1)) ∧
              q (mkI .i64 0) [Ob.box [AV.mp 1], Ob.bun (famR (FamD.mk KK.str (Shp.map KK.str) (putM b_2 (Rec.mk r_1.i r_1.s (setKeyA (Key.s (cutD fr)) (mkS sh) r_1.m)) (l ++ [(Key.s (cutU fr), (b_1, Rec.mk (fun (x : Nat) => (0 : Int)) (fun (x : Nat) => (⟨#[]⟩ : ByteArray)) []))])))), Ob.gh [AV.rf 0 0], Ob.box [mkI .i64 kind, mkS ty, mkS id, mkS fr, mkS to, mkS sh, mkS tok, mkS rea, mkI .u32 hh, mkI .i64 ver, mkB rem, AV.d (.sl its)], Ob.gone])) (
             False)))))) (
        ∃ (l_1 : FLs),
        ([AV.rf 0 0] = [AV.rf 0 0]) ∧
        ([Ob.box [AV.mp (0 + 1)], Ob.bun (famR (FamD.mk KK.str (Shp.map KK.str) l)), Ob.gh [AV.rf 0 0]] = [Ob.box [AV.mp 1], Ob.bun (famR (FamD.mk KK.str (Shp.map KK.str) l_1)), Ob.gh [AV.rf 0 0]]) ∧
        (CrOk l_1) ∧
        ((cntL l_1) ≤ (1000 : Nat)) ∧
        ((Option.some (Ob.gh [AV.rf 0 0])) = (Option.some (Ob.gh [AV.rf 0 0]))) ∧
        bcase (((cntL l_1) : Int) == (64 : Int)) (
         q (mkI .i64 9) [Ob.box [AV.mp (if 1 < 2 then 1 else 5 + (1 - 2))], Ob.bun (famR (FamD.mk KK.str (Shp.map KK.str) l_1)), Ob.gh [AV.rf 0 0], Ob.box [mkI .i64 kind, mkS ty, mkS id, mkS fr, mkS to, mkS sh, mkS tok, mkS rea, mkI .u32 hh, mkI .i64 ver, mkB rem, AV.d (.sl its)], Ob.gone, Ob.gone]) (
         bcase (hasF (Key.s (cutU fr)) l_1) (
          ∃ (b : Nat),
          ((blkF (Key.s (cutU fr)) l_1) = (Option.some b)) ∧
          bcase (hasF (Key.s (cutU fr)) l_1) (
           ∃ (b_1 : Nat),
           ((blkF (Key.s (cutU fr)) l_1) = (Option.some b_1)) ∧ (
            ∃ (r : Rec),
            ((recF b_1 l_1) = (Option.some r)) ∧
            q (mkI .i64 0) [Ob.box [AV.mp (if 1 < 2 then 1 else 5 + (1 - 2))], Ob.bun (famR (FamD.mk KK.str (Shp.map KK.str) (putM b_1 (Rec.mk r.i r.s (setKeyA (Key.s (cutD fr)) (mkS sh) r.m)) l_1))), Ob.gh [AV.rf 0 0], Ob.box [mkI .i64 kind, mkS ty, mkS id, mkS fr, mkS to, mkS sh, mkS tok, mkS rea, mkI .u32 hh, mkI .i64 ver, mkB rem, AV.d (.sl its)], Ob.gone, Ob.gone])) (
           False)) (
          ((hasF (Key.s (cutU fr)) l_1) = false) ∧ (
           ∀ (b : Nat),
           (∀ (e : Prod Key (Prod Nat Rec)), (e ∈ l_1) → ((Prod.fst (Prod.snd e)) = b) → False) →
           bcase (hasF (Key.s (cutU fr)) (l_1 ++ [(Key.s (cutU fr), (b, Rec.mk (fun (x : Nat) => (0 : Int)) (fun (x : Nat) => (⟨#[]⟩ : ByteArray)) []))])) (
            ∃ (b_1 : Nat),
            ((blkF (Key.s (cutU fr)) (l_1 ++ [(Key.s (cutU fr), (b, Rec.mk (fun (x : Nat) => (0 : Int)) (fun (x : Nat) => (⟨#[]⟩ : ByteArray)) []))])) = (Option.some b_1)) ∧ (
             ∃ (r : Rec),
             ((recF b_1 (l_1 ++ [(Key.s (cutU fr), (b, Rec.mk (fun (x : Nat) => (0 : Int)) (fun (x : Nat) => (⟨#[]⟩ : ByteArray)) []))])) = (Option.some r)) ∧
             q (mkI .i64 0) [Ob.box [AV.mp (if 1 < 2 then 1 else 5 + (1 - 2))], Ob.bun (famR (FamD.mk KK.str (Shp.map KK.str) (putM b_1 (Rec.mk r.i r.s (setKeyA (Key.s (cutD fr)) (mkS sh) r.m)) (l_1 ++ [(Key.s (cutU fr), (b, Rec.mk (fun (x : Nat) => (0 : Int)) (fun (x : Nat) => (⟨#[]⟩ : ByteArray)) []))])))), Ob.gh [AV.rf 0 0], Ob.box [mkI .i64 kind, mkS ty, mkS id, mkS fr, mkS to, mkS sh, mkS tok, mkS rea, mkI .u32 hh, mkI .i64 ver, mkB rem, AV.d (.sl its)], Ob.gone, Ob.gone, Ob.gone])) (
            False))))))))))) := by kernel_rfl
end Go.Proofs.YthbejheedpdioaaDoor
