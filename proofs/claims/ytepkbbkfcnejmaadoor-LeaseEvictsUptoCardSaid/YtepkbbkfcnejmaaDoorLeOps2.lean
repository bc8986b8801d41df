import Derived.Test.YtepkbbkfcnejmaaDoorLeOps
set_option linter.unusedSimpArgs false
set_option linter.unusedVariables false
namespace Go.Proofs.YtepkbbkfcnejmaaDoor
open Go Go.AM Go.RowKit
set_option maxRecDepth 10000
attribute [local irreducible] aUnr aUnS aCode
abbrev obT (l : FLs) (la mo le : Int) : List Ob := [tbo la mo le, fob l, .gh [.rf 0 0]]
structure TbC (l : FLs) (la mo : Int) : Prop where
  t : Tab l la
  h0 : 0 ≤ la
  h1 : la < 1000
  mo : 0 < mo
theorem TbC.ok {l : FLs} {la mo : Int} (h : TbC l la mo) : TabOk l := h.t.ok h.h0 (by have := h.h1; omega)
theorem blk_no {ky : Key} : ∀ {l : FLs}, (∀ e ∈ l, e.1 ≠ ky) → blkF ky l = none
  | [], _ => rfl
  | x :: l, h => by simp only [blkF]; rw [if_neg (h x (by simp))]; exact blk_no fun e he => h e (by simp [he])
theorem has_yes {l : FLs} (hT : TabOk l) {ky : Key} (h : hasF ky l = true) : ∃ b r, blkF ky l = some b ∧ recF b l = some r ∧ (ky, b, r) ∈ l := by
  unfold hasF at h
  cases hb : blkF ky l with
  | none => rw [hb] at h; cases h
  | some b =>
    obtain ⟨r, hr⟩ := blk_mem hb
    exact ⟨b, r, rfl, rec_mem hT.nd hr, hr⟩
theorem has_no {l : FLs} {ky : Key} (h : hasF ky l = false) : ∀ e ∈ l, e.1 ≠ ky := by
  unfold hasF at h
  cases hb : blkF ky l with
  | none => exact blk_none hb
  | some b => rw [hb] at h; cases h
theorem no_has {l : FLs} {ky : Key} (h : ∀ e ∈ l, e.1 ≠ ky) : hasF ky l = false := by
  unfold hasF; rw [blk_no h]; rfl
theorem vict_mem {u : ByteArray} {l : FLs} {v : Ent3} (h : victE u l = some v) : v ∈ selE u l := by
  unfold victE at h
  split at h
  · rename_i y m e
    cases h
    have : minG y m ∈ slpE (selE u l) := by rw [e]; exact minG_mem m y
    exact (List.mem_filter.1 this).1
  · exact List.mem_of_mem_head? h
def ESr : REnt := fun al o q => ∃ l la mo le u d c, al = [.rf 0 0, mkS u, mkS d, mkI .i64 c] ∧ o = obT l la mo le ∧ TbC l la mo ∧ ∀ a g e l' la', StR mo u d c l la a g e l' la' → q (.tp [mkI .i64 a, mkI .i64 g, mkI .i64 e]) (obT l' la' mo le)
theorem cSr : RSound Tryd.prog 10 ESr := by
  refine ref_gen trimW trimW_ok (code_bsound (c := Tryd.b10) mixed KL_ok gTb) KL_ok Tryd.func10 rfl rfl Tryd.call10 fun al o q ⟨l, la, mo, le, u, d, c, h1, h2, hC, hq⟩ => ?_
  subst h1 h2
  have hT := hC.ok
  have er : ∀ e : Int, e ≠ 0 → ¬ StOk u d c l → q (.tp [mkI .i64 0, mkI .i64 0, mkI .i64 e]) (obT l la mo le) := fun e he hs => hq 0 0 e l la (.inr ⟨hs, he, rfl, rfl⟩)
  have hw : IntKind.wrap .i64 (la + 1) = la + 1 := IntWalk.i64_in _ (by have := hC.h0; have := hC.h1; omega)
  refine cast (rTSr l la mo le u d c (trimW q)).symm ⟨trivial, bcase_mk (fun h => ?_) (fun h => ⟨trivial, bcase_mk (fun h2 => ?_) (fun h2 => bcase_dec (fun h3 => ?_) (fun h3 => ?_))⟩)⟩
  · exact ⟨_, _, weak_packG [some 0, some 1, some 2] rfl, er 1 (by decide) fun hs => by rw [hs.1] at h; cases h⟩
  · exact ⟨_, _, weak_packG [some 0, some 1, some 2] rfl, er 1 (by decide) fun hs => by rw [hs.2.1] at h2; cases h2⟩
  · exact ⟨_, _, weak_packG [some 0, some 1, some 2] rfl, er 1 (by decide) fun hs => by have := hs.2.2.1; omega⟩
  have hu : userB u = true := by simpa using h
  have hd : userB d = true := by simpa using h2
  refine ⟨l, la, mo, le, c, rfl, rfl, hT, fun k b r hf => ⟨rfl, _, _, weak_packG [some 0, some 1, some 2] rfl, er 8 (by decide) fun hs => by rw [hs.2.2.2] at hf; cases hf⟩, fun hf => ⟨rfl, l, la, mo, le, u, rfl, rfl, hT, hC.mo, fun hlt => ⟨rfl, ?_⟩, fun hge k b r hv => ⟨rfl, r, ?_⟩⟩⟩
  · rw [hw]
    refine ⟨no_has fun e he hk => ?_, fun b hb => ⟨_, _, weak_packG [some 0, some 1, some 2] rfl, hq _ _ _ _ _ (.inl ⟨⟨hu, hd, by omega, hf⟩, rfl, rfl, rfl, l, b, _, .inl ⟨hlt, rfl, rfl⟩, hb, ⟨rfl, rfl, rfl, rfl, rfl, rfl⟩, rfl⟩)⟩⟩
    have h5 := (hC.t.key e he).2.2
    rw [hk] at h5
    simp only [keyI] at h5
    omega
  · have hm := (List.mem_filter.1 (vict_mem hv)).1
    rw [hw]
    refine ⟨rec_mem hT.nd hm, no_has fun e he hk => ?_, fun b' hb => ⟨_, _, weak_packG [some 0, some 1, some 2] rfl, hq _ _ _ _ _ (.inl ⟨⟨hu, hd, by omega, hf⟩, rfl, rfl, rfl, _, b', _, .inr ⟨hge, _, hv, rfl, rfl⟩, hb, ⟨rfl, rfl, rfl, rfl, rfl, rfl⟩, rfl⟩)⟩⟩
    have h5 := (hC.t.key e ((del_sub _ _).subset he)).2.2
    rw [hk] at h5
    simp only [keyI] at h5
    omega
def EGi : REnt := fun al o q => ∃ l la mo le id tok, al = [.rf 0 0, mkI .i64 id, mkS tok] ∧ o = obT l la mo le ∧ TbC l la mo ∧ ∀ e l', GvR id tok l e l' → q (mkI .i64 e) (obT l' la mo le)
theorem cGi : RSound Tryd.prog 11 EGi := by
  refine ref_gen trimW trimW_ok (code_bsound (c := Tryd.b11) mixed KL_ok gTb) KL_ok Tryd.func11 rfl rfl Tryd.call11 fun al o q ⟨l, la, mo, le, id, tok, h1, h2, hC, hq⟩ => ?_
  subst h1 h2
  have hT := hC.ok
  have er : ∀ e : Int, e ≠ 0 → (∀ b r, ¬ GvOk id tok l b r) → q (mkI .i64 e) (obT l la mo le) := fun e he hs => hq e l (.inr ⟨he, rfl, hs⟩)
  refine cast (rTGi l la mo le id tok (trimW q)).symm (bcase_mk (fun h => ?_) (fun h => ?_))
  · obtain ⟨b, r, hb, hr, hm⟩ := has_yes hT h
    have un : ∀ b' r', GvOk id tok l b' r' → b' = b ∧ r' = r := fun b' r' hg => by have := hT.uni hm _ hg.1 rfl; cases this; exact ⟨rfl, rfl⟩
    refine ⟨b, hb, r, hr, bcase_mk (fun g => ?_) (fun g => ⟨r, hr, bcase_mk (fun g2 => ?_) (fun g2 => ⟨l, la, mo, le, tok, rfl, rfl, hT, fun k b1 r1 hf => ⟨rfl, ?_⟩, fun hf => ⟨rfl, bcase_dec (fun g3 => ?_) (fun g3 => ⟨r, hr, ?_⟩)⟩⟩)⟩)⟩
    · refine ⟨_, _, weak_packG [some 0, some 1, some 2] rfl, er 11 (by decide) fun b' r' hg => ?_⟩
      obtain ⟨rfl, rfl⟩ := un b' r' hg
      have := hg.2.1
      simp only [this] at g
      simp at g
    · refine ⟨_, _, weak_packG [some 0, some 1, some 2] rfl, er 11 (by decide) fun b' r' hg => ?_⟩
      obtain ⟨rfl, rfl⟩ := un b' r' hg
      exact hg.2.2.1 (by simpa using g2)
    · exact ⟨_, _, weak_packG [some 0, some 1, some 2] rfl, er 8 (by decide) fun b' r' hg => by rw [hg.2.2.2.1] at hf; cases hf⟩
    · exact ⟨_, _, weak_packG [some 0, some 1, some 2] rfl, er 1 (by decide) fun b' r' hg => hg.2.2.2.2 g3⟩
    · exact ⟨_, _, weak_packG [some 0, some 1, some 2] rfl, hq _ _ (.inl ⟨b, r, ⟨hm, by simpa using g, by simpa using g2, hf, g3⟩, rfl, rfl⟩)⟩
  · exact ⟨_, _, weak_packG [some 0, some 1, some 2] rfl, er 7 (by decide) fun b' r' hg => has_no h _ hg.1 rfl⟩
def ELo : REnt := fun al o q => ∃ l la mo le id now, al = [.rf 0 0, mkI .i64 id, mkI .i64 now] ∧ o = obT l la mo le ∧ TbC l la mo ∧ (0 ≤ le ∧ le ≤ 1000) ∧ ∀ z e l', LoR le id now l z e l' → q (.tp [mkB z, mkI .i64 e]) (obT l' la mo le)
theorem cLo : RSound Tryd.prog 12 ELo := by
  refine ref_gen trimW trimW_ok (code_bsound (c := Tryd.b12) mixed KL_ok gTb) KL_ok Tryd.func12 rfl rfl Tryd.call12 fun al o q ⟨l, la, mo, le, id, now, h1, h2, hC, hle, hq⟩ => ?_
  subst h1 h2
  have hT := hC.ok
  have er : ∀ e : Int, e ≠ 0 → (∀ b r, ¬ LoOk id now l b r) → q (.tp [mkB false, mkI .i64 e]) (obT l la mo le) := fun e he hs => hq false e l (.inr ⟨he, rfl, hs⟩)
  refine cast (rTLo l la mo le id now (trimW q)).symm (bcase_mk (fun h => ?_) (fun h => ?_))
  · obtain ⟨b, r, hb, hr, hm⟩ := has_yes hT h
    have un : ∀ b' r', LoOk id now l b' r' → b' = b ∧ r' = r := fun b' r' hg => by have := hT.uni hm _ hg.1 rfl; cases this; exact ⟨rfl, rfl⟩
    refine ⟨b, hb, r, hr, bcase_mk (fun g => ?_) (fun g => bcase_dec (fun g2 => ?_) (fun g2 => bcase_dec (fun g3 => ?_) (fun g3 => ⟨r, hr, bcase_dec (fun g4 => ?_) (fun g4 => ⟨r, hr, r.put 4 (mkI .i64 (-1)), rec_put hr, ?_⟩)⟩)))⟩
    · refine ⟨_, _, weak_packG [some 0, some 1, some 2] rfl, er 11 (by decide) fun b' r' hg => ?_⟩
      obtain ⟨rfl, rfl⟩ := un b' r' hg
      exact hg.2.1 (by simpa using g)
    · exact ⟨_, _, weak_packG [some 0, some 1, some 2] rfl, er 1 (by decide) fun b' r' hg => by have := hg.2.2.1; omega⟩
    · exact ⟨_, _, weak_packG [some 0, some 1, some 2] rfl, er 1 (by decide) fun b' r' hg => by have := hg.2.2.2; omega⟩
    · exact ⟨_, _, weak_packG [some 0, some 1, some 2] rfl, hq _ _ _ (.inl ⟨b, r, ⟨hm, by simpa using g, by omega, by omega⟩, rfl, .inl ⟨g4, rfl, rfl⟩⟩)⟩
    · have hw : IntKind.wrap .i64 (now + le) = now + le := IntWalk.i64_in _ (by omega)
      rw [hw]
      exact ⟨_, _, weak_packG [some 0, some 1, some 2] rfl, hq _ _ _ (.inl ⟨b, r, ⟨hm, by simpa using g, by omega, by omega⟩, rfl, .inr ⟨g4, rfl, put_put l⟩⟩)⟩
  · exact ⟨_, _, weak_packG [some 0, some 1, some 2] rfl, er 7 (by decide) fun b' r' hg => has_no h _ hg.1 rfl⟩
abbrev recA (r : Rec) : AV := .ag [mkI .i64 (r.i 0), mkS (r.s 1), mkS (r.s 2), mkS (r.s 3), mkI .i64 (r.i 4), mkI .i64 (r.i 5)]
abbrev recZ : AV := .ag [mkI .i64 0, mkS ⟨#[]⟩, mkS ⟨#[]⟩, mkS ⟨#[]⟩, mkI .i64 0, mkI .i64 0]
def EGe : REnt := fun al o q => ∃ l la mo le id, al = [.rf 0 0, mkI .i64 id] ∧ o = obT l la mo le ∧ TbC l la mo ∧ (∀ b r, (kI id, b, r) ∈ l → q (.tp [recA r, mkB true]) (obT l la mo le)) ∧ ((∀ e ∈ l, e.1 ≠ kI id) → q (.tp [recZ, mkB false]) (obT l la mo le))
theorem cGe : RSound Tryd.prog 13 EGe := by
  refine ref_gen trimW trimW_ok (code_bsound (c := Tryd.b13) mixed KL_ok gTb) KL_ok Tryd.func13 rfl rfl Tryd.call13 fun al o q ⟨l, la, mo, le, id, h1, h2, hC, hq1, hq2⟩ => ?_
  subst h1 h2
  refine cast (rTGe l la mo le id (trimW q)).symm (bcase_mk (fun h => ?_) (fun h => ?_))
  · obtain ⟨b, r, hb, hr, hm⟩ := has_yes hC.ok h
    exact ⟨b, hb, r, hr, _, _, weak_packG [some 0, some 1, some 2] rfl, hq1 b r hm⟩
  · exact ⟨_, _, weak_packG [some 0, some 1, some 2] rfl, hq2 (has_no h)⟩
end Go.Proofs.YtepkbbkfcnejmaaDoor
