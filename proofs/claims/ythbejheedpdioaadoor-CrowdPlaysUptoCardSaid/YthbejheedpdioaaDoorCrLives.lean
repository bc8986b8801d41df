import Derived.Test.YthbejheedpdioaaDoorCrBest
import Derived.Test.YthbejheedpdioaaDoorAmPart
import Derived.Test.YthbejheedpdioaaDoorCrPlain
set_option linter.unusedSimpArgs false
set_option linter.unusedVariables false
namespace Go.Proofs.YthbejheedpdioaaDoor
open Go Go.AM Go.RowKit
set_option maxRecDepth 10000
attribute [local irreducible] aUnr aUnS aCode
abbrev stzA (kind : Int) (ty id fr to sh tok rea : ByteArray) (hh ver : Int) (rem : Bool) (x : AV) : AV := .ag [mkI .i64 kind, mkS ty, mkS id, mkS fr, mkS to, mkS sh, mkS tok, mkS rea, mkI .u32 hh, mkI .i64 ver, mkB rem, x]
theorem rTe (a b c : ByteArray) (q : AV → Prop) :
  (aCode KC [] Tryd.b16 (kRet KC Tryd.f16.results.toList q) ⟨[mkS a, mkS b, mkS c] ++ List.replicate (Tryd.f16.ntmps - 3) .jk, []⟩) = (
  q (AV.ag [mkI .i64 1, mkS b, mkS ⟨#[]⟩, mkS a, mkS ⟨#[]⟩, mkS c, mkS ⟨#[]⟩, mkS ⟨#[]⟩, mkI .u32 0, mkI .i64 0, mkB false, AV.d (.sl [])])) := by kernel_rfl
def F16 : List AV → Option (Prop × AV) := fun al => match al with
  | [.d (.v (.string a)), .d (.v (.string b)), .d (.v (.string c))] => some (True, stzA 1 b ⟨#[]⟩ a ⟨#[]⟩ c ⟨#[]⟩ ⟨#[]⟩ 0 0 false (.d (.sl [])))
  | _ => none
theorem c16 : PSound Tryd.prog 16 (detE F16) := by
  refine det_fn (c := Tryd.b16) mixed KC_ok gsound_nil Tryd.func16 rfl rfl Tryd.call16 fun al p r q hF hp hq => ?_
  unfold F16 at hF; split at hF <;> cases hF
  exact cast (rTe _ _ _ q).symm hq
noncomputable abbrev GLv : List (FuncId × En) := [(9, .new ENw), (16, .det F16), (10, .ref (frameE EHe)), (22, .ref (frameE EBs)), (12, .ref (frameE EUs)), (13, .ref (frameE EDv)), (15, .ref (frameE ECt)), (11, .ref (frameE EShow))]
theorem rLiv (q : AV → Prop) :
  (aCode KS GLv Tryd.b8 (kRet KS Tryd.f8.results.toList q) ⟨List.replicate (Tryd.f8.ntmps) .jk, []⟩) = (
  (([] : List AV) = []) ∧
  True ∧ (
   ∃ (l : FLs),
   ∃ (kind : Int),
   ∃ (ty : ByteArray),
   ∃ (id : ByteArray),
   ∃ (fr : ByteArray),
   ∃ (to : ByteArray),
   ∃ (sh : ByteArray),
   ∃ (tok : ByteArray),
   ∃ (rea : ByteArray),
   ∃ (hh : Int),
   ∃ (ver : Int),
   ∃ (rem : Bool),
   ∃ (its : List (List D)),
   ([AV.rf 0 0, AV.ag [mkI .i64 1, mkS ⟨#[]⟩, mkS ⟨#[]⟩, mkS ⟨#[97, 110, 110, 47, 112, 97, 100]⟩, mkS ⟨#[]⟩, mkS ⟨#[97, 119, 97, 121]⟩, mkS ⟨#[]⟩, mkS ⟨#[]⟩, mkI .u32 0, mkI .i64 0, mkB false, AV.d (.sl [])]] = [AV.rf 0 0, AV.ag [mkI .i64 kind, mkS ty, mkS id, mkS fr, mkS to, mkS sh, mkS tok, mkS rea, mkI .u32 hh, mkI .i64 ver, mkB rem, AV.d (.sl its)]]) ∧
   ([Ob.box [AV.mp (0 + 1)], Ob.bun (famR (FamD.mk KK.str (Shp.map KK.str) [])), Ob.gh [AV.rf 0 0]] = [Ob.box [AV.mp 1], Ob.bun (famR (FamD.mk KK.str (Shp.map KK.str) l)), Ob.gh [AV.rf 0 0]]) ∧
   (CrOk l) ∧
   ((cntL l) ≤ (1000 : Nat)) ∧
   ((ByteArray.size fr) ≤ SZC) ∧
   ((ByteArray.size sh) ≤ LIM) ∧ (
    ∀ (e : Int),
    ∀ (l' : FLs),
    (HeR l kind ty fr sh e l') →
    ((Option.some (Ob.gh [AV.rf 0 0])) = (Option.some (Ob.gh [AV.rf 0 0]))) ∧
    True ∧ (
     ∃ (l_1 : FLs),
     ∃ (kind_1 : Int),
     ∃ (ty_1 : ByteArray),
     ∃ (id_1 : ByteArray),
     ∃ (fr_1 : ByteArray),
     ∃ (to_1 : ByteArray),
     ∃ (sh_1 : ByteArray),
     ∃ (tok_1 : ByteArray),
     ∃ (rea_1 : ByteArray),
     ∃ (hh_1 : Int),
     ∃ (ver_1 : Int),
     ∃ (rem_1 : Bool),
     ∃ (its_1 : List (List D)),
     ([AV.rf 0 0, AV.ag [mkI .i64 1, mkS ⟨#[]⟩, mkS ⟨#[]⟩, mkS ⟨#[97, 110, 110, 47, 100, 49]⟩, mkS ⟨#[]⟩, mkS ⟨#[]⟩, mkS ⟨#[]⟩, mkS ⟨#[]⟩, mkI .u32 0, mkI .i64 0, mkB false, AV.d (.sl [])]] = [AV.rf 0 0, AV.ag [mkI .i64 kind_1, mkS ty_1, mkS id_1, mkS fr_1, mkS to_1, mkS sh_1, mkS tok_1, mkS rea_1, mkI .u32 hh_1, mkI .i64 ver_1, mkB rem_1, AV.d (.sl its_1)]]) ∧
     ([Ob.box [AV.mp (0 + 1)], Ob.bun (famR (FamD.mk KK.str (Shp.map KK.str) l')), Ob.gh [AV.rf 0 0]] = [Ob.box [AV.mp 1], Ob.bun (famR (FamD.mk KK.str (Shp.map KK.str) l_1)), Ob.gh [AV.rf 0 0]]) ∧
     (CrOk l_1) ∧
     ((cntL l_1) ≤ (1000 : Nat)) ∧
     ((ByteArray.size fr_1) ≤ SZC) ∧
     ((ByteArray.size sh_1) ≤ LIM) ∧ (
      ∀ (e_1 : Int),
      ∀ (l'_1 : FLs),
      (HeR l_1 kind_1 ty_1 fr_1 sh_1 e_1 l'_1) →
      ((Option.some (Ob.gh [AV.rf 0 0])) = (Option.some (Ob.gh [AV.rf 0 0]))) ∧ (
       ∃ (l_2 : FLs),
       ∃ (u : ByteArray),
       ([AV.rf 0 0, mkS ⟨#[97, 110, 110]⟩] = [AV.rf 0 0, mkS u]) ∧
       ([Ob.box [AV.mp (0 + 1)], Ob.bun (famR (FamD.mk KK.str (Shp.map KK.str) l'_1)), Ob.gh [AV.rf 0 0]] = [Ob.box [AV.mp 1], Ob.bun (famR (FamD.mk KK.str (Shp.map KK.str) l_2)), Ob.gh [AV.rf 0 0]]) ∧
       (CrOk l_2) ∧
       ((cntL l_2) ≤ (1000 : Nat)) ∧
       ((ByteArray.size u) ≤ SZC) ∧ (
        ∀ (ks : List ByteArray),
        (SortB ks (List.map (fun (x : Prod Key AV) => Prod.fst x) (devs l_2 u))) →
        ((Option.some (Ob.gh [AV.rf 0 0])) = (Option.some (Ob.gh [AV.rf 0 0]))) ∧
        bcase (e == (0 : Int)) (
         bcase (e_1 == (0 : Int)) (
          bcase (decide ((bsS u (bestF ks (shOf (devs l_2 u) ks))) = ⟨#[97, 110, 110, 47, 100, 49]⟩)) (
           bcase (Prod.snd (bestF ks (shOf (devs l_2 u) ks))) (
            ∃ (l_3 : FLs),
            ([AV.rf 0 0] = [AV.rf 0 0]) ∧
            ([Ob.box [AV.mp (0 + 1)], Ob.bun (famR (FamD.mk KK.str (Shp.map KK.str) l_2)), Ob.gh [AV.rf 0 0]] = [Ob.box [AV.mp 1], Ob.bun (famR (FamD.mk KK.str (Shp.map KK.str) l_3)), Ob.gh [AV.rf 0 0]]) ∧
            (CrOk l_3) ∧
            ((cntL l_3) ≤ (1000 : Nat)) ∧ (
             ∀ (ks_1 : List ByteArray),
             (SortB ks_1 (List.map (fun (x : Prod Key (Prod Nat Rec)) => Prod.fst x) l_3)) →
             ((Option.some (Ob.gh [AV.rf 0 0])) = (Option.some (Ob.gh [AV.rf 0 0]))) ∧ (
              ((List.length (strsD ks_1)) ≤ LIM) →
              bcase (((List.length (strsD ks_1)) : Int) == (1 : Int)) (
               ∃ (l_4 : FLs),
               ∃ (u_1 : ByteArray),
               ([AV.rf 0 0, mkS ⟨#[97, 110, 110]⟩] = [AV.rf 0 0, mkS u_1]) ∧
               ([Ob.box [AV.mp (0 + 1)], Ob.bun (famR (FamD.mk KK.str (Shp.map KK.str) l_3)), Ob.gh [AV.rf 0 0]] = [Ob.box [AV.mp 1], Ob.bun (famR (FamD.mk KK.str (Shp.map KK.str) l_4)), Ob.gh [AV.rf 0 0]]) ∧
               (CrOk l_4) ∧
               ((cntL l_4) ≤ (1000 : Nat)) ∧ (
                ∀ (ks_2 : List ByteArray),
                (SortB ks_2 (List.map (fun (x : Prod Key AV) => Prod.fst x) (devs l_4 u_1))) →
                ((Option.some (Ob.gh [AV.rf 0 0])) = (Option.some (Ob.gh [AV.rf 0 0]))) ∧ (
                 ((List.length (strsD ks_2)) ≤ LIM) →
                 bcase (((List.length (strsD ks_2)) : Int) == (2 : Int)) (
                  ∃ (l_5 : FLs),
                  ([AV.rf 0 0] = [AV.rf 0 0]) ∧
                  ([Ob.box [AV.mp (0 + 1)], Ob.bun (famR (FamD.mk KK.str (Shp.map KK.str) l_4)), Ob.gh [AV.rf 0 0]] = [Ob.box [AV.mp 1], Ob.bun (famR (FamD.mk KK.str (Shp.map KK.str) l_5)), Ob.gh [AV.rf 0 0]]) ∧
                  (CrOk l_5) ∧
                  ((cntL l_5) ≤ (1000 : Nat)) ∧ (
                   ∀ (m : MapL),
                   (CtM m (shN l_5) (cntL l_5)) →
                   ((Option.some (Ob.gh [AV.rf 0 0])) = (Option.some (Ob.gh [AV.rf 0 0]))) ∧ (
                    ∃ (n : Int),
                    ((getO (Key.s (⟨#[97, 119, 97, 121]⟩ : ByteArray)) m (mkI .i64 0)) = (mkI .i64 n)) ∧
                    q (mkB (n == (1 : Int)))))) (
                  q (mkB false))))) (
               q (mkB false))))) (
            q (mkB false))) (
           q (mkB false))) (
          q (mkB false))) (
         q (mkB false))))))))) := by kernel_rfl
abbrev annB : ByteArray := ⟨#[97, 110, 110]⟩
abbrev padB : ByteArray := ⟨#[112, 97, 100]⟩
abbrev d1B : ByteArray := ⟨#[100, 49]⟩
abbrev awB : ByteArray := ⟨#[97, 119, 97, 121]⟩
abbrev apB : ByteArray := ⟨#[97, 110, 110, 47, 112, 97, 100]⟩
abbrev adB : ByteArray := ⟨#[97, 110, 110, 47, 100, 49]⟩
theorem crOk_nil : CrOk [] := ⟨by simp, by simp, fun e he => (by cases he), fun e he => (by cases he)⟩
theorem ap_u : cutU apB = annB := by decide
theorem ap_d : cutD apB = padB := by decide
theorem ad_u : cutU adB = annB := by decide
theorem ad_d : cutD adB = d1B := by decide
theorem ap_a : addrB apB = true := by decide
theorem ad_a : addrB adB = true := by decide
theorem he_on {l l' : FLs} {fr sh : ByteArray} {e : Int} (h : HeR l 1 ⟨#[]⟩ fr sh e l') (ha : addrB fr = true) (hd : cutD fr ≠ ⟨#[]⟩) (hn : cntL l < 64) : e = 0 ∧ ChR (cutU fr) l l' (setKeyA (.s (cutD fr)) (mkS sh) (devs l (cutU fr))) := by
  cases h with
  | bad h => rcases h with h | h | ⟨h, h2 | h2⟩
             · exact absurd rfl h
             · rw [ha] at h; cases h
             · exact absurd rfl h2
             · exact absurd h2 hd
  | off h1 h2 h3 h => exact absurd h3 (by decide)
  | full h1 h2 h3 h4 h5 h6 => omega
  | on h1 h2 h3 h4 h5 h => exact ⟨rfl, h⟩
theorem single_of {ks : List ByteArray} {l : FLs} (hC : CrOk l) (h : SortB ks (l.map (·.1))) {a : ByteArray} (hm : ∀ u, (∃ d, (lk l u d).isSome = true) ↔ u = a) : ks = [a] := by
  have hp : ks.Perm [a] := (List.perm_ext_iff_of_nodup (sortB_nd hC h) (List.nodup_cons.2 ⟨by simp, List.nodup_nil⟩)).2 fun u => by
    rw [sortB_mem h, us_mem hC, hm, List.mem_singleton]
  exact List.perm_singleton.1 hp
structure LvS (l : FLs) : Prop where
  ok : CrOk l
  cnt : cntL l = 2
  dv : devs l annB = [(.s padB, mkS awB), (.s d1B, mkS ⟨#[]⟩)]
  us : ∀ u, (∃ d, (lk l u d).isSome = true) ↔ u = annB
theorem lv_s {l1 l2 : FLs} {e f : Int} (h1 : HeR [] 1 ⟨#[]⟩ apB awB e l1) (h2 : HeR l1 1 ⟨#[]⟩ adB ⟨#[]⟩ f l2) : e = 0 ∧ f = 0 ∧ CrOk l1 ∧ cntL l1 = 1 ∧ LvS l2 := by
  obtain ⟨e1, c1⟩ := he_on h1 ap_a (by decide) (by decide)
  rw [ap_u, ap_d] at c1
  have d0 : devs ([] : FLs) annB = [] := rfl
  have n1 : cntL l1 = 1 := by
    have h1 : cntL l1 + 0 = 0 + 1 := c1.cnt
    omega
  obtain ⟨e2, c2⟩ := he_on h2 ad_a (by decide) (by omega)
  rw [ad_u, ad_d] at c2
  have d1 : devs l1 annB = [(.s padB, mkS awB)] := by rw [c1.dv, if_pos rfl]; rfl
  have d2 : devs l2 annB = [(.s padB, mkS awB), (.s d1B, mkS ⟨#[]⟩)] := by rw [c2.dv, if_pos rfl, d1]; rfl
  refine ⟨e1, e2, c1.ok, n1, c2.ok, ?_, d2, fun u => ?_⟩
  · have := c2.cnt
    rw [d1, n1] at this
    have h2 : cntL l2 + 1 = 1 + 2 := this
    omega
  · constructor
    · rintro ⟨d, hd⟩
      refine Classical.byContradiction fun hu => ?_
      unfold lk at hd
      rw [c2.dv, if_neg hu, c1.dv, if_neg hu] at hd
      cases hd
    · rintro rfl
      exact ⟨padB, by unfold lk; rw [d2]; rfl⟩
theorem lv_best {l : FLs} (h : LvS l) {ks : List ByteArray} (hk : SortB ks ((devs l annB).map (·.1))) : bestF ks (shOf (devs l annB) ks) = (d1B, true) := by
  have : ks = [d1B, padB] := by
    refine perm_sorted (s_perm (hk.perm.trans ?_)) hk.ord (by decide)
    rw [h.dv]
    exact List.Perm.swap _ _ _
  subst this
  rw [h.dv]
  decide
theorem lv_count {l : FLs} (h : LvS l) {ks : List ByteArray} (hk : SortB ks (l.map (·.1))) : shN l awB = 1 := by
  have h1 := single_of h.ok hk h.us
  subst h1
  have h2 := hk.perm.length_eq
  match l, h2 with
  | [(k, b, r)], _ =>
    have hk1 : k = .s annB := by
      have := hk.perm.mem_iff (a := k)
      simpa using this
    subst hk1
    have h3 : devs [(Key.s annB, b, r)] annB = r.m := devs_mem (b := b) h.ok (by simp)
    rw [h.dv] at h3
    show sumV (shAt [(Key.s annB, b, r)] awB) [0] = 1
    show nSh r.m awB + 0 = 1
    rw [← h3]
    rfl
def FLv : List AV → Option (Prop × AV) := fun al => match al with
  | [] => some (True, mkB true)
  | _ => none
theorem gLv : GSound Tryd.prog GLv := gsound_new cNw (gsound_det c16 (gsound_ref (RSound.frame (cHe_of cCnt)) (gsound_ref (RSound.frame cBs) (gsound_ref (RSound.frame cUs) (gsound_ref (RSound.frame cDv) (gsound_ref (RSound.frame cCt) (gsound_ref (RSound.frame cShow) gsound_nil)))))))
theorem cLives : PSound Tryd.prog 8 (detE FLv) := by
  refine det_fn (c := Tryd.b8) mixed KS_ok gLv Tryd.func8 rfl rfl Tryd.call8 fun al p r q hF hp hq => ?_
  unfold FLv at hF; split at hF <;> cases hF
  refine cast (rLiv q).symm ⟨rfl, trivial, _, _, _, _, _, _, _, _, _, _, _, _, _, rfl, rfl, crOk_nil, by decide, by decide, by decide, fun e l1 h1 => ⟨rfl, trivial, ?_⟩⟩
  have hc1 := (he_on h1 ap_a (by decide) (by decide)).2
  have hn1 : cntL l1 = 1 := by
    have h1 : cntL l1 + 0 = 0 + 1 := hc1.cnt
    omega
  refine ⟨_, _, _, _, _, _, _, _, _, _, _, _, _, rfl, rfl, hc1.ok, by omega, by decide, by decide, fun f l2 h2 => ⟨rfl, ?_⟩⟩
  obtain ⟨rfl, rfl, _, _, hS⟩ := lv_s h1 h2
  have hn := hS.cnt
  refine ⟨l2, annB, rfl, rfl, hS.ok, by omega, by decide, fun ks hks => ⟨rfl, ?_⟩⟩
  rw [lv_best hS hks]
  refine bcaseT (by decide) (bcaseT (by decide) (bcaseT (by decide) (bcaseT rfl ⟨l2, rfl, rfl, hS.ok, by omega, fun ks1 hks1 => ⟨rfl, fun _ => bcaseT ?_ ⟨l2, annB, rfl, rfl, hS.ok, by omega, fun ks2 hks2 => ⟨rfl, fun _ => bcaseT ?_ ⟨l2, rfl, rfl, hS.ok, by omega, fun m hm => ⟨rfl, _, ct_get hm _, ?_⟩⟩⟩⟩⟩⟩)))
  · rw [single_of hS.ok hks1 hS.us]; rfl
  · rw [strsD_length, devs_len l2 hks2, hS.dv]; rfl
  · rw [lv_count hS hks1]; exact hq
end Go.Proofs.YthbejheedpdioaaDoor
