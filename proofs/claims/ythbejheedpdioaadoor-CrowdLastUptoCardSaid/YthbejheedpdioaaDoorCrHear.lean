import Derived.Test.YthbejheedpdioaaDoorCrOps
set_option linter.unusedSimpArgs false
set_option linter.unusedVariables false
namespace Go.Proofs.YthbejheedpdioaaDoor
open Go Go.AM Go.RowKit
set_option maxRecDepth 10000
attribute [local irreducible] aUnr aUnS aCode
theorem ext_size (s : ByteArray) (a b : Nat) : (s.extract a b).size ≤ s.size := by rw [ByteArray.size_extract]; omega
theorem cutU_size (s : ByteArray) : (cutU s).size ≤ s.size := by
  unfold cutU; split
  · exact ext_size _ _ _
  · exact Nat.le_refl _
theorem cutD_size (s : ByteArray) : (cutD s).size ≤ s.size := by
  unfold cutD; split
  · exact ext_size _ _ _
  · exact Nat.zero_le _
theorem blk_app {u : ByteArray} {b : Nat} {r : Rec} : ∀ {l : FLs}, (∀ e ∈ l, e.1 ≠ Key.s u) → blkF (.s u) (l ++ [(.s u, b, r)]) = some b
  | [], _ => by simp [blkF]
  | e :: l, h => by simp only [List.cons_append, blkF]; rw [if_neg (h e (by simp))]; exact blk_app fun x hx => h x (by simp [hx])
theorem rec_app {k : Key} {b : Nat} {r : Rec} : ∀ {l : FLs}, newF b l → recF b (l ++ [(k, b, r)]) = some r
  | [], _ => by simp [recF]
  | e :: l, h => by simp only [List.cons_append, recF]; rw [if_neg (h e (by simp))]; exact rec_app fun x hx => h x (by simp [hx])
theorem put_app {k : Key} {b : Nat} {r r' : Rec} : ∀ {l : FLs}, newF b l → putM b r' (l ++ [(k, b, r)]) = l ++ [(k, b, r')]
  | [], _ => by simp [putM]
  | e :: l, h => by
    simp only [List.cons_append, putM]; rw [if_neg (h e (by simp)), put_app fun x hx => h x (by simp [hx])]
theorem has_app {u : ByteArray} {b : Nat} {r : Rec} {l : FLs} (h : ∀ e ∈ l, e.1 ≠ Key.s u) : hasF (.s u) (l ++ [(.s u, b, r)]) = true := by unfold hasF; rw [blk_app h]; rfl
abbrev unB : ByteArray := ⟨#[117, 110, 97, 118, 97, 105, 108, 97, 98, 108, 101]⟩
inductive HeR (l : FLs) (kind : Int) (ty fr sh : ByteArray) : Int → FLs → Prop
  | bad (h : kind ≠ 1 ∨ addrB fr = false ∨ (ty ≠ unB ∧ (ty ≠ ⟨#[]⟩ ∨ cutD fr = ⟨#[]⟩))) : HeR l kind ty fr sh 6 l
  | off {l' : FLs} (h1 : kind = 1) (h2 : addrB fr = true) (h3 : ty = unB) (h : ChR (cutU fr) l l' (lvM (cutD fr) (devs l (cutU fr)))) : HeR l kind ty fr sh 0 l'
  | full (h1 : kind = 1) (h2 : addrB fr = true) (h3 : ty = ⟨#[]⟩) (h4 : cutD fr ≠ ⟨#[]⟩) (h5 : hasK (.s (cutD fr)) (devs l (cutU fr)) = false) (h6 : cntL l = 64) : HeR l kind ty fr sh 9 l
  | on {l' : FLs} (h1 : kind = 1) (h2 : addrB fr = true) (h3 : ty = ⟨#[]⟩) (h4 : cutD fr ≠ ⟨#[]⟩) (h5 : hasK (.s (cutD fr)) (devs l (cutU fr)) = true ∨ cntL l ≠ 64) (h : ChR (cutU fr) l l' (setKeyA (.s (cutD fr)) (mkS sh) (devs l (cutU fr)))) : HeR l kind ty fr sh 0 l'
def EHe : REnt := fun al o q => ∃ l kind ty id fr to sh tok rea hh ver rem its, al = [.rf 0 0, .ag [mkI .i64 kind, mkS ty, mkS id, mkS fr, mkS to, mkS sh, mkS tok, mkS rea, mkI .u32 hh, mkI .i64 ver, mkB rem, .d (.sl its)]] ∧ o = obC l ∧ CrOk l ∧ cntL l ≤ 1000 ∧ fr.size ≤ SZC ∧ sh.size ≤ LIM ∧
  ∀ e l', HeR l kind ty fr sh e l' → q (mkI .i64 e) (obC l')
theorem gHe (hc : RSound Tryd.prog 25 ECnt) : GSound Tryd.prog GHe := gsound_det c25 (gsound_ref (RSound.frame cLv) (gsound_ref (RSound.frame hc) gsound_nil))
theorem cHe_of (hc : RSound Tryd.prog 25 ECnt) : RSound Tryd.prog 10 EHe := by
  refine ref_gen trimW trimW_ok (code_bsound (c := Tryd.b10) mixed KC_ok (gHe hc)) KC_ok Tryd.func10 rfl rfl Tryd.call10 fun al o q ⟨l, kind, ty, id, fr, to, sh, tok, rea, hh, ver, rem, its, h1, h2, hC, hn, hfr, hsh, hq⟩ => ?_
  subst h1 h2
  have hus : (cutU fr).size ≤ SZC := Nat.le_trans (cutU_size fr) hfr
  have hds : (cutD fr).size ≤ SZC := Nat.le_trans (cutD_size fr) hfr
  refine cast (rHe l kind ty id fr to sh tok rea hh ver rem its (trimW q)).symm ⟨szc_lim hfr, bcase_mk (fun hk => ⟨_, _, weak_packG [some 0, some 1, some 2] rfl, hq _ _ (.bad (.inl (by simpa using hk)))⟩) (fun hk => ?_)⟩
  have hk : kind = 1 := by simpa using hk
  refine bcase_mk (fun ha => ⟨_, _, weak_packG [some 0, some 1, some 2] rfl, hq _ _ (.bad (.inr (.inl (by simpa using ha))))⟩) (fun ha => ?_)
  have ha : addrB fr = true := by simpa using ha
  refine bcase_dec (fun ht => ⟨l, cutU fr, cutD fr, rfl, rfl, hC, fun l' hl' => ⟨rfl, _, _, weak_packG [some 0, some 1, some 2] rfl, hq _ _ (.off hk ha ht hl')⟩⟩) (fun ht => ?_)
  refine bcase_mk (fun hty => ⟨_, _, weak_packG [some 0, some 1, some 2] rfl, hq _ _ (.bad (.inr (.inr ⟨ht, .inl (by simpa using hty)⟩)))⟩) (fun hty => ?_)
  have hty : ty = ⟨#[]⟩ := by simpa using hty
  refine bcase_dec (fun hd => ⟨_, _, weak_packG [some 0, some 1, some 2] rfl, hq _ _ (.bad (.inr (.inr ⟨ht, .inr hd⟩)))⟩) (fun hd => ?_)
  refine bcase_mk (fun hu => ?_) (fun hu => ?_)
  · obtain ⟨b, r, hb, hr, hm⟩ := has_yes hC.nd hu
    have hdv := devs_mem hC hm
    have hset := set_has (k := Key.s (cutD fr)) (v := mkS sh) r.m
    have hch : ChR (cutU fr) l (putM b ⟨r.i, r.s, setKeyA (Key.s (cutD fr)) (mkS sh) r.m⟩ l) (setKeyA (Key.s (cutD fr)) (mkS sh) (devs l (cutU fr))) := by
      rw [hdv]; exact ch_put hC hm hset.1 (set_ok hds hsh (hC.ms _ hm).2)
    refine ⟨b, hb, rfl, r, hr, bcase_mk (fun hn1 => ?_) (fun hn1 => ?_)⟩
    · have hn1 : hasK (.s (cutD fr)) (devs l (cutU fr)) = false := by rw [hdv]; simpa using hn1
      refine ⟨l, rfl, rfl, hC, hn, rfl, bcase_mk (fun h64 => ?_) (fun h64 => ?_)⟩
      · have h64 : cntL l = 64 := by have : (cntL l : Int) = 64 := by simpa using h64
                                     omega
        exact ⟨_, _, weak_packG [some 0, some 1, some 2] rfl, hq _ _ (.full hk ha hty hd hn1 h64)⟩
      · have h64 : cntL l ≠ 64 := fun e => by rw [e] at h64; exact absurd h64 (by decide)
        exact bcaseT hu ⟨b, hb, bcaseT hu ⟨b, hb, r, hr, _, _, weak_packG [some 0, some 1, some 2] rfl, hq _ _ (.on hk ha hty hd (.inr h64) hch)⟩⟩
    · have hn1 : hasK (.s (cutD fr)) (devs l (cutU fr)) = true := by rw [hdv]; simpa using hn1
      exact bcaseT hu ⟨b, hb, bcaseT hu ⟨b, hb, r, hr, _, _, weak_packG [some 0, some 1, some 2] rfl, hq _ _ (.on hk ha hty hd (.inl hn1) hch)⟩⟩
  · have hno := has_no hu
    have hdv := devs_no hno
    have hn1 : hasK (.s (cutD fr)) (devs l (cutU fr)) = false := by rw [hdv]; rfl
    refine ⟨l, rfl, rfl, hC, hn, rfl, bcase_mk (fun h64 => ?_) (fun h64 => ?_)⟩
    · have h64 : cntL l = 64 := by have : (cntL l : Int) = 64 := by simpa using h64
                                   omega
      exact ⟨_, _, weak_packG [some 0, some 1, some 2] rfl, hq _ _ (.full hk ha hty hd hn1 h64)⟩
    · have h64 : cntL l ≠ 64 := fun e => by rw [e] at h64; exact absurd h64 (by decide)
      refine bcaseF hu ⟨hu, fun b hnb => ?_⟩
      refine bcaseT (has_app hno) ⟨b, blk_app hno, _, rec_app hnb, _, _, weak_packG [some 0, some 1, some 2] rfl, ?_⟩
      rw [put_app hnb]
      refine hq _ _ (.on hk ha hty hd (.inr h64) ?_)
      rw [hdv]
      exact ch_add hC hus hno hnb (set_has []).1 (set_ok hds hsh ⟨by simp, by simp⟩)
end Go.Proofs.YthbejheedpdioaaDoor
