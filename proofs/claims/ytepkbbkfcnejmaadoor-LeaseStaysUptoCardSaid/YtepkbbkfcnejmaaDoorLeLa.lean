import Derived.Test.YtepkbbkfcnejmaaDoorLeSo
import Derived.Test.YtepkbbkfcnejmaaDoorLeOps2
set_option linter.unusedSimpArgs false
set_option linter.unusedVariables false
namespace Go.Proofs.YtepkbbkfcnejmaaDoor
open Go Go.AM Go.RowKit
set_option maxRecDepth 10000
attribute [local irreducible] aUnr aUnS aCode
noncomputable abbrev GLa : List (FuncId × En) := (29, .ref (frameE EAlLa)) :: (33, .ref (frameB ESo)) :: GB
theorem gLa : GSound Tryd.prog GLa := gsound_ref (RSound.frame cAlLa) (gsound_ref (RSound.frameB cSo) gB)
noncomputable def rLa_k0 (q : AV → (List Ob) → Prop) : Kont := kBlk (0 : Nat) (kSeq (aCode KL GLa (cAt [1, 1, 1, 1, 1] Tryd.b16) (kRetF KL (Array.toList (Func.results Tryd.f16)) q)) (kRetF KL (Array.toList (Func.results Tryd.f16)) q))
theorem rLa (l : FLs) (la mo le now : Int) (q : AV → List Ob → Prop) :
  (aCode KL GLa Tryd.b16 (kRetF KL Tryd.f16.results.toList q) ⟨[.rf 0 0, mkI .i64 now] ++ List.replicate (Tryd.f16.ntmps - 2) .jk, obT l la mo le⟩) = (
  ∃ (l_1 : FLs),
  ∃ (la_1 : Int),
  ∃ (mo_1 : Int),
  ∃ (le_1 : Int),
  ∃ (c : Int),
  ([AV.rf 0 0, AV.fn (Fn.func 32) [] [AV.rf ((0 + 1) + 1) 0]] = [AV.rf 0 0, AV.fn (Fn.func 32) [] [AV.rf 2 0]]) ∧
  ([Ob.box [AV.mp (0 + 1), mkI .i64 la, mkI .i64 mo, mkI .i64 le], Ob.bun (famR (FamD.mk (KK.int IntKind.i64) (Shp.box SK) l)), Ob.box [mkI .i64 now], Ob.gh [AV.rf 0 0, AV.rf ((0 + 1) + 1) 0]] = [Ob.box [AV.mp 1, mkI .i64 la_1, mkI .i64 mo_1, mkI .i64 le_1], Ob.bun (famR (FamD.mk (KK.int IntKind.i64) (Shp.box SK) l_1)), Ob.box [mkI .i64 c], Ob.gh [AV.rf 0 0, AV.rf 2 0]]) ∧
  (TabOk l_1) ∧ (
   ∀ (es : List (List D)),
   (es = (selL (pLa c) l_1)) →
   ((Option.some (Ob.gh [AV.rf 0 0, AV.rf 2 0])) = (Option.some (Ob.gh [AV.rf 0 0, AV.rf ((0 + 1) + 1) 0]))) ∧ (
    ∃ (l_2 : FLs),
    ∃ (mm : FLs),
    ([AV.vw 0 (List.length es), AV.fn (Fn.func 34) [] []] = [AV.vw 0 (List.length mm), AV.fn (Fn.func 34) [] []]) ∧
    ([Ob.row 1 es, Ob.bun (famR (FamD.mk (KK.int IntKind.i64) (Shp.box SK) l_1)), Ob.gh [AV.vw 0 (List.length es), AV.mp (0 + 1)]] = [Ob.row 1 (List.map rawD mm), Ob.bun (famR (FamD.mk (KK.int IntKind.i64) (Shp.box SK) l_2)), Ob.gh [AV.vw 0 (List.length mm), AV.mp 1]]) ∧
    (RowOk l_2 mm (List.map rawD mm)) ∧ (
     ∀ (mm' : FLs),
     (List.Perm mm' mm) →
     ((Option.some (Ob.gh [AV.vw 0 (List.length mm), AV.mp 1])) = (Option.some (Ob.gh [AV.vw 0 (List.length es), AV.mp (0 + 1)]))) ∧
     ((List.length es) = (List.length (List.map rawD mm'))) ∧
     ALoop (aCode KL GLa (cAt [1, 1, 1, 1, 0, 1, 0, 0] Tryd.b16)) (rLa_k0 q) ⟨[AV.rf 0 0, mkI .i64 now, AV.jk, AV.rf 3 0, AV.nl, AV.vw (if 4 < 3 then 0 else 5 + (4 - 3)) (List.length es), AV.nl, AV.jk, AV.jk, AV.rf 0 0, AV.fn (Fn.func 32) [] [AV.rf 3 0], AV.vw (if 4 < 3 then 0 else 5 + (4 - 3)) (List.length es), AV.vw (if 4 < 3 then 0 else 5 + (4 - 3)) (List.length es), AV.tp [], AV.vw (if 4 < 3 then 0 else 5 + (4 - 3)) (List.length es), mkI .i64 ((List.length es) : Int), mkI .i64 0] ++ (jks 19), [Ob.box [AV.mp (if 1 < 3 then 1 else 5 + (1 - 3)), mkI .i64 la_1, mkI .i64 mo_1, mkI .i64 le_1], Ob.bun (famR (FamD.mk (KK.int IntKind.i64) (Shp.box SK) l_2)), Ob.gh [AV.rf 0 0], Ob.box [mkI .i64 c], Ob.gone, Ob.gone, Ob.row 1 (List.map rawD mm'), Ob.gone, Ob.gone]⟩)))) := by kernel_rfl
def stLa (l : FLs) (la mo le now : Int) (es ot : List (List D)) (i : Int) : S := ⟨[.rf 0 0, mkI .i64 now, .jk, .jk, .nl, .jk, .vw 9 ot.length, .jk, .jk, .jk, .jk, .jk, .jk, .jk, .vw 6 es.length, mkI .i64 es.length, mkI .i64 i] ++ jks 19, [tbo la mo le, fob l, .gh [.rf 0 0], .gone, .gone, .gone, .row 1 es, .gone, .gone, .row 6 ot]⟩
theorem rLa_b {ι : Type} (st : ι → S) (inv : ι → Prop) (μ : ι → Nat) (kk : ι) (l : FLs) (la mo le now : Int) (es ot : List (List D)) (i : Int) (q : AV → List Ob → Prop) :
  (aCode KL GLa (cAt [1, 1, 1, 1, 0, 1, 0, 0] Tryd.b16) (kFamM [] (maskOf (stLa l la mo le now es ot i)) st inv μ kk (rLa_k0 q)) (stLa l la mo le now es ot i)) = (
  bcase (decide (i < ((List.length es) : Int))) (
   (((0 : Int) ≤ i) ∧ (i < ((List.length es) : Int))) ∧
   ((Int.toNat i) < (List.length es)) ∧
   ((0 : Nat) ≤ (List.length (List.getD es (Int.toNat i) []))) ∧ (
    ∃ (b : Nat),
    ((List.getD (List.drop 0 (List.getD es (Int.toNat i) [])) 0 d0) = (D.v (.pointer (Option.some (Addr.mk b (0 : Nat) Option.none))))) ∧ (
     ∃ (r : Rec),
     ((recF b l) = (Option.some r)) ∧
     (∀ (c : List D), (c ∈ [[D.v (.int IntKind.i64 (r.i (0 : Nat))), D.v (.string (r.s ((0 : Nat) + (1 : Nat)))), D.v (.string (r.s (((0 : Nat) + (1 : Nat)) + (1 : Nat)))), D.v (.string (r.s ((((0 : Nat) + (1 : Nat)) + (1 : Nat)) + (1 : Nat)))), D.v (.int IntKind.i64 (r.i (((((0 : Nat) + (1 : Nat)) + (1 : Nat)) + (1 : Nat)) + (1 : Nat)))), D.v (.int IntKind.i64 (r.i ((((((0 : Nat) + (1 : Nat)) + (1 : Nat)) + (1 : Nat)) + (1 : Nat)) + (1 : Nat))))]]) → (List.length c) = 6) ∧
     ((List.length ot) = (List.length ot)) ∧
     (((List.length ot) + 1) ≤ LIM) ∧ (
      ∃ (r_1 : Rec),
      ((recF b l) = (Option.some r_1)) ∧
      FamNext st inv μ kk ⟨[AV.rf 0 0, mkI .i64 now, AV.jk, AV.jk, AV.nl, AV.jk, AV.vw 9 ((List.length ot) + 1), AV.jk, AV.jk, AV.jk, AV.jk, AV.jk, AV.jk, AV.jk, AV.vw 6 (List.length es), mkI .i64 ((List.length es) : Int), mkI .i64 (IntKind.wrap .i64 (i + (1 : Int)))] ++ (jks 19), [Ob.box [AV.mp 1, mkI .i64 la, mkI .i64 mo, mkI .i64 le], Ob.bun (famR (FamD.mk (KK.int IntKind.i64) (Shp.box SK) (delF (Key.i IntKind.i64 (r_1.i (0 : Nat))) l))), Ob.gh [AV.rf 0 0], Ob.gone, Ob.gone, Ob.gone, Ob.row 1 es, Ob.gone, Ob.gone, Ob.row 6 (ot ++ [[D.v (.int IntKind.i64 (r.i (0 : Nat))), D.v (.string (r.s ((0 : Nat) + (1 : Nat)))), D.v (.string (r.s (((0 : Nat) + (1 : Nat)) + (1 : Nat)))), D.v (.string (r.s ((((0 : Nat) + (1 : Nat)) + (1 : Nat)) + (1 : Nat)))), D.v (.int IntKind.i64 (r.i (((((0 : Nat) + (1 : Nat)) + (1 : Nat)) + (1 : Nat)) + (1 : Nat)))), D.v (.int IntKind.i64 (r.i ((((((0 : Nat) + (1 : Nat)) + (1 : Nat)) + (1 : Nat)) + (1 : Nat)) + (1 : Nat))))]]), Ob.row 6 [[D.v (.int IntKind.i64 (r.i (0 : Nat))), D.v (.string (r.s ((0 : Nat) + (1 : Nat)))), D.v (.string (r.s (((0 : Nat) + (1 : Nat)) + (1 : Nat)))), D.v (.string (r.s ((((0 : Nat) + (1 : Nat)) + (1 : Nat)) + (1 : Nat)))), D.v (.int IntKind.i64 (r.i (((((0 : Nat) + (1 : Nat)) + (1 : Nat)) + (1 : Nat)) + (1 : Nat)))), D.v (.int IntKind.i64 (r.i ((((((0 : Nat) + (1 : Nat)) + (1 : Nat)) + (1 : Nat)) + (1 : Nat)) + (1 : Nat))))]]]⟩)))) (
   q (AV.vw 9 (List.length ot)) [Ob.box [AV.mp 1, mkI .i64 la, mkI .i64 mo, mkI .i64 le], Ob.bun (famR (FamD.mk (KK.int IntKind.i64) (Shp.box SK) l)), Ob.gh [AV.rf 0 0], Ob.gone, Ob.gone, Ob.gone, Ob.row 1 es, Ob.gone, Ob.gone, Ob.row 6 ot])) := by kernel_rfl
abbrev recD (r : Rec) : List D := [.v (.int .i64 (r.i 0)), .v (.string (r.s 1)), .v (.string (r.s 2)), .v (.string (r.s 3)), .v (.int .i64 (r.i 4)), .v (.int .i64 (r.i 5))]
structure LaI (l lc : FLs) (rest : FLs) : Prop where
  sub : lc.Sublist l
  inn : ∀ e ∈ rest, e ∈ lc
  nd : rest.Nodup
theorem del_keep {k : Key} : ∀ {l : FLs} {e : Ent3}, e ∈ l → e.1 ≠ k → e ∈ delF k l
  | [], _, h, _ => by cases h
  | x :: l, e, h, hk => by
    simp only [delF]
    split
    · rename_i hx
      rcases List.mem_cons.1 h with rfl | h
      · exact absurd hx hk
      · exact h
    · rcases List.mem_cons.1 h with rfl | h
      · exact List.mem_cons_self
      · exact List.mem_cons_of_mem _ (del_keep h hk)
theorem tab_nodup {l : FLs} {n : Int} (h : Tab l n) : l.Nodup := by
  have := h.nd
  rw [List.Nodup, List.pairwise_map] at this
  exact this.imp fun h e => h (by rw [e])
theorem LaI.step {l lc rest : FLs} {e : Ent3} {n : Int} (hT : Tab l n) (h : LaI l lc (e :: rest)) : LaI l (delF (kI (e.2.2.i 0)) lc) rest := by
  have hn := h.nd
  rw [List.nodup_cons] at hn
  have hTc := hT.sub h.sub
  have he := h.inn e (by simp)
  refine ⟨(del_sub _ _).trans h.sub, fun x hx => del_keep (h.inn x (by simp [hx])) fun hk => hn.1 ?_, hn.2⟩
  have hke : e.1 = kI (e.2.2.i 0) := by rw [hTc.id e he]; exact (hTc.key e he).1
  have : x = e := keys_nd hTc.ord (h.inn x (by simp [hx])) he (by rw [hk, hke])
  rw [← this]; exact hx
def ELa : REnt := fun al o q => ∃ l la mo le now, al = [.rf 0 0, mkI .i64 now] ∧ o = obT l la mo le ∧ TbC l la mo ∧ ∀ l' ot, List.Sublist l' l → q (.vw 3 (List.length (α := List D) ot)) [tbo la mo le, fob l', .gh [.rf 0 0], .row 6 ot]
theorem cLa : RSound Tryd.prog 16 ELa := by
  refine ref_gen trimW trimW_ok (code_bsound (c := Tryd.b16) mixed KL_ok gLa) KL_ok Tryd.func16 rfl rfl Tryd.call16 fun al o q ⟨l, la, mo, le, now, h1, h2, hC, hq⟩ => ?_
  subst h1 h2
  have hT := hC.ok
  obtain ⟨m, hm⟩ : ∃ m, m = l.filter fun e => pLa now e.2.2 := ⟨_, rfl⟩
  have hms : m.Sublist l := by rw [hm]; exact List.filter_sublist
  have hlen : m.length ≤ 1000 := Nat.le_trans hms.length_le hT.ids.len
  refine cast (rLa l la mo le now (trimW q)).symm ⟨l, la, mo, le, now, rfl, rfl, hT, fun es he => ⟨rfl, ?_⟩⟩
  have hes : es = m.map rawD := by rw [he, hm]; rfl
  clear he hm
  subst hes
  have hR : RowOk l m (m.map rawD) := ⟨hT, fun e he => hms.subset he, ⟨[], by simp⟩, hlen⟩
  rw [List.length_map]
  refine ⟨l, m, rfl, rfl, hR, fun mm hp => ⟨rfl, by rw [List.length_map]; exact hp.length_eq.symm, ALoop.openT 6 6 (by omega) ?_⟩⟩
  have hml : mm.length = m.length := hp.length_eq
  have hI0 : LaI l l mm := ⟨List.Sublist.refl _, fun e he => hms.subset (hp.mem_iff.1 he), hp.nodup_iff.2 ((tab_nodup hC.t).sublist hms)⟩
  rw [← hml]
  refine ALoop.introM [] (maskOf (stLa l la mo le now (mm.map rawD) [] 0)) (fun x : Nat × FLs × List (List D) => stLa x.2.1 la mo le now (mm.map rawD) x.2.2 x.1) (fun x => x.1 ≤ mm.length ∧ x.2.2.length = x.1 ∧ LaI l x.2.1 (mm.drop x.1)) (fun x => mm.length - x.1) ⟨[], (0, l, []), by simp [S.le, sealAll, leL, leA, leO, jks, stLa, S.openT, mkI, mkS, mkB, S.fits, fitsL, AV.fits, Ob.fits, fob, tbo], Nat.zero_le _, rfl, hI0⟩ fun ⟨n, lc, ot⟩ ⟨hn, ho, hI⟩ => ?_
  have hn : n ≤ mm.length := hn
  have ho : ot.length = n := ho
  have hI : LaI l lc (mm.drop n) := hI
  refine cast (rLa_b _ _ _ (n, lc, ot) lc la mo le now (mm.map rawD) ot n (trimW q)).symm ?_
  simp only [Int.toNat_natCast, List.length_map]
  refine bcase_dec (fun hlt => ?_) (fun hge => ?_)
  · have hlt : n < mm.length := by omega
    have hg : (mm.map rawD).getD n [] = rawD mm[n] := by
      rw [List.getD_eq_getElem?_getD, List.getElem?_map, List.getElem?_eq_getElem hlt]; rfl
    rw [List.drop_eq_getElem_cons hlt] at hI
    have hmem := hI.inn mm[n] List.mem_cons_self
    have hr : recF mm[n].2.1 lc = some mm[n].2.2 := rec_mem ((hC.t.sub hI.sub).nd) hmem
    rw [wrap_succ hlt (by unfold LIM; omega), hg]
    refine ⟨⟨by omega, by omega⟩, hlt, Nat.zero_le _, mm[n].2.1, rfl, mm[n].2.2, hr, fun c hc => by simp at hc; simp [hc], by first | rfl | trivial, by unfold LIM; omega, mm[n].2.2, hr, ?_⟩
    refine .mk [] (n + 1, delF (kI (mm[n].2.2.i 0)) lc, ot ++ [recD mm[n].2.2]) ?_ ⟨hlt, by simp [ho], hI.step hC.t⟩ (show mm.length - (n + 1) < mm.length - n by omega)
    · simp [sealAll, S.le, leL, leA, leO, jks, stLa, mkI, mkS, mkB, S.fits, fitsL, AV.fits, Ob.fits, fob, tbo]
  · exact ⟨_, _, weak_packG [some 0, some 1, some 2, some 9] rfl, hq lc ot hI.sub⟩
end Go.Proofs.YtepkbbkfcnejmaaDoor
