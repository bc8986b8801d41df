import Derived.Test.YtepkbbkfcnejmaaDoorLeAll
set_option linter.unusedSimpArgs false
set_option linter.unusedVariables false
set_option maxRecDepth 10000
namespace Go.Proofs.YtepkbbkfcnejmaaDoor
open Go Go.AM Go.RowKit
attribute [local irreducible] aUnr aUnS aCode
noncomputable abbrev GOn : List (FuncId × En) := inlΓS KL ((29, .ref (frameE EAlOn)) :: GB) tabI 4 8
noncomputable abbrev GWi : List (FuncId × En) := inlΓS KL ((29, .ref (frameE EAlWi)) :: GB) tabI 4 8
theorem rOn (l : FLs) (la mo le c : Int) (q : AV → List Ob → Prop) :
  (aUnS KL GOn 4 Tryd.b24 (kRetF KL Tryd.f24.results.toList q) ⟨[.rf 0 0, mkI .i64 c] ++ List.replicate (Tryd.f24.ntmps - 2) .jk, [tbo la mo le, fob l, .gh [.rf 0 0]]⟩) = (
  ∃ (l_1 : FLs),
  ∃ (la_1 : Int),
  ∃ (mo_1 : Int),
  ∃ (le_1 : Int),
  ∃ (c_1 : Int),
  ([AV.rf 0 0, AV.fn (Fn.func 40) [] [AV.rf ((0 + 1) + 1) 0]] = [AV.rf 0 0, AV.fn (Fn.func 40) [] [AV.rf 2 0]]) ∧
  ([Ob.box [AV.mp (0 + 1), mkI .i64 la, mkI .i64 mo, mkI .i64 le], Ob.bun (famR (FamD.mk (KK.int IntKind.i64) (Shp.box SK) l)), Ob.box [mkI .i64 c], Ob.gh [AV.rf 0 0, AV.rf ((0 + 1) + 1) 0]] = [Ob.box [AV.mp 1, mkI .i64 la_1, mkI .i64 mo_1, mkI .i64 le_1], Ob.bun (famR (FamD.mk (KK.int IntKind.i64) (Shp.box SK) l_1)), Ob.box [mkI .i64 c_1], Ob.gh [AV.rf 0 0, AV.rf 2 0]]) ∧
  (TabOk l_1) ∧ (
   ∀ (es : List (List D)),
   (es = (selL (pOn c_1) l_1)) →
   ((Option.some (Ob.gh [AV.rf 0 0, AV.rf 2 0])) = (Option.some (Ob.gh [AV.rf 0 0, AV.rf ((0 + 1) + 1) 0]))) ∧
   bcase (decide (((List.length es) : Int) > (0 : Int))) (
    (((0 : Int) ≤ (0 : Int)) ∧ ((0 : Int) < ((List.length es) : Int))) ∧
    ((Int.toNat (0 : Int)) < (List.length es)) ∧
    ((0 : Nat) ≤ (List.length (List.getD es (Int.toNat (0 : Int)) []))) ∧ (
     ∃ (b : Nat),
     ((List.getD (List.drop 0 (List.getD es (Int.toNat (0 : Int)) [])) 0 d0) = (D.v (.pointer (Option.some (Addr.mk b (0 : Nat) Option.none))))) ∧
     q (AV.d (D.v (.pointer (Option.some (Addr.mk b (0 : Nat) Option.none))))) [Ob.box [AV.mp (if 1 < 3 then 1 else 6 + (1 - 3)), mkI .i64 la_1, mkI .i64 mo_1, mkI .i64 le_1], Ob.bun (famR (FamD.mk (KK.int IntKind.i64) (Shp.box SK) l_1)), Ob.gh [AV.rf 0 0], Ob.box [mkI .i64 c_1], Ob.gone, Ob.gone, Ob.gone, Ob.row 1 es])) (
    q (AV.d (D.v (.pointer Option.none))) [Ob.box [AV.mp (if 1 < 3 then 1 else 6 + (1 - 3)), mkI .i64 la_1, mkI .i64 mo_1, mkI .i64 le_1], Ob.bun (famR (FamD.mk (KK.int IntKind.i64) (Shp.box SK) l_1)), Ob.gh [AV.rf 0 0], Ob.box [mkI .i64 c_1], Ob.gone, Ob.gone, Ob.gone, Ob.row 1 es]))) := by kernel_rfl
theorem rWi (l : FLs) (la mo le : Int) (c : ByteArray) (q : AV → List Ob → Prop) :
  (aUnS KL GWi 4 Tryd.b28 (kRetF KL Tryd.f28.results.toList q) ⟨[.rf 0 0, mkS c] ++ List.replicate (Tryd.f28.ntmps - 2) .jk, [tbo la mo le, fob l, .gh [.rf 0 0]]⟩) = (
  ∃ (l_1 : FLs),
  ∃ (la_1 : Int),
  ∃ (mo_1 : Int),
  ∃ (le_1 : Int),
  ∃ (c_1 : ByteArray),
  ([AV.rf 0 0, AV.fn (Fn.func 46) [] [AV.rf ((0 + 1) + 1) 0]] = [AV.rf 0 0, AV.fn (Fn.func 46) [] [AV.rf 2 0]]) ∧
  ([Ob.box [AV.mp (0 + 1), mkI .i64 la, mkI .i64 mo, mkI .i64 le], Ob.bun (famR (FamD.mk (KK.int IntKind.i64) (Shp.box SK) l)), Ob.box [mkS c], Ob.gh [AV.rf 0 0, AV.rf ((0 + 1) + 1) 0]] = [Ob.box [AV.mp 1, mkI .i64 la_1, mkI .i64 mo_1, mkI .i64 le_1], Ob.bun (famR (FamD.mk (KK.int IntKind.i64) (Shp.box SK) l_1)), Ob.box [mkS c_1], Ob.gh [AV.rf 0 0, AV.rf 2 0]]) ∧
  (TabOk l_1) ∧ (
   ∀ (es : List (List D)),
   (es = (selL (pWi c_1) l_1)) →
   ((Option.some (Ob.gh [AV.rf 0 0, AV.rf 2 0])) = (Option.some (Ob.gh [AV.rf 0 0, AV.rf ((0 + 1) + 1) 0]))) ∧
   bcase (decide (((List.length es) : Int) > (0 : Int))) (
    (((0 : Int) ≤ (0 : Int)) ∧ ((0 : Int) < ((List.length es) : Int))) ∧
    ((Int.toNat (0 : Int)) < (List.length es)) ∧
    ((0 : Nat) ≤ (List.length (List.getD es (Int.toNat (0 : Int)) []))) ∧ (
     ∃ (b : Nat),
     ((List.getD (List.drop 0 (List.getD es (Int.toNat (0 : Int)) [])) 0 d0) = (D.v (.pointer (Option.some (Addr.mk b (0 : Nat) Option.none))))) ∧
     q (AV.d (D.v (.pointer (Option.some (Addr.mk b (0 : Nat) Option.none))))) [Ob.box [AV.mp (if 1 < 3 then 1 else 6 + (1 - 3)), mkI .i64 la_1, mkI .i64 mo_1, mkI .i64 le_1], Ob.bun (famR (FamD.mk (KK.int IntKind.i64) (Shp.box SK) l_1)), Ob.gh [AV.rf 0 0], Ob.box [mkS c_1], Ob.gone, Ob.gone, Ob.gone, Ob.row 1 es])) (
    q (AV.d (D.v (.pointer Option.none))) [Ob.box [AV.mp (if 1 < 3 then 1 else 6 + (1 - 3)), mkI .i64 la_1, mkI .i64 mo_1, mkI .i64 le_1], Ob.bun (famR (FamD.mk (KK.int IntKind.i64) (Shp.box SK) l_1)), Ob.gh [AV.rf 0 0], Ob.box [mkS c_1], Ob.gone, Ob.gone, Ob.gone, Ob.row 1 es]))) := by kernel_rfl
theorem gOn : GSound Tryd.prog GOn := inlS_sound mixed KL_ok (gsound_ref (RSound.frame cAlOn) gB) tabI_ok 8
theorem gWi : GSound Tryd.prog GWi := inlS_sound mixed KL_ok (gsound_ref (RSound.frame cAlWi) gB) tabI_ok 8
def firstE (p : Rec → Bool) (l : FLs) : Option (Key × Nat × Rec) := l.find? fun e => p e.2.2
theorem sel_first {p : Rec → Bool} {l : FLs} : (∃ k b r, firstE p l = some (k, b, r) ∧ 0 < (selL p l).length ∧ (selL p l).getD 0 [] = [.v (.pointer (some ⟨b, 0, none⟩))]) ∨ (firstE p l = none ∧ selL p l = []) := by
  unfold firstE selL
  rw [← List.head?_filter]
  cases h : l.filter (fun e => p e.2.2) with
  | nil => exact .inr ⟨rfl, rfl⟩
  | cons e m => obtain ⟨k, b, r⟩ := e; exact .inl ⟨k, b, r, rfl, by simp, rfl⟩
def EFst {α : Type} (mk : α → AV) (p : α → Rec → Bool) : REnt := fun al o q => ∃ l la mo le c, al = [.rf 0 0, mk c] ∧ o = [tbo la mo le, fob l, .gh [.rf 0 0]] ∧ TabOk l ∧ (∀ k b r, firstE (p c) l = some (k, b, r) → q (rawP b) [tbo la mo le, fob l, .gh [.rf 0 0]]) ∧ (firstE (p c) l = none → q nilP [tbo la mo le, fob l, .gh [.rf 0 0]])
theorem cOn : RSound Tryd.prog 24 (EFst (mkI .i64) pOn) := by
  refine ref_gen trimW trimW_ok (unS_bsound 4 mixed KL_ok gOn Tryd.b24) KL_ok Tryd.func24 rfl rfl Tryd.call24 fun al o q ⟨l, la, mo, le, c, h1, h2, hT, hq1, hq2⟩ => ?_
  subst h1 h2
  refine cast (rOn l la mo le c (trimW q)).symm ⟨l, la, mo, le, c, rfl, rfl, hT, fun es he => ⟨rfl, ?_⟩⟩
  subst he
  rcases sel_first (p := pOn c) (l := l) with ⟨k, b, r, h1, h2, h3⟩ | ⟨h1, h2⟩
  · refine bcaseT (decide_eq_true (by omega)) ⟨⟨by omega, by omega⟩, by simpa using h2, Nat.zero_le _, b, ?_, ?_⟩
    · rw [show Int.toNat 0 = 0 from rfl, h3]; rfl
    · exact ⟨_, _, weak_packG [some 0, some 1, some 2] rfl, hq1 k b r h1⟩
  · exact bcaseF (decide_eq_false (by rw [h2]; simp)) ⟨_, _, weak_packG [some 0, some 1, some 2] rfl, hq2 h1⟩
theorem cWi : RSound Tryd.prog 28 (EFst mkS pWi) := by
  refine ref_gen trimW trimW_ok (unS_bsound 4 mixed KL_ok gWi Tryd.b28) KL_ok Tryd.func28 rfl rfl Tryd.call28 fun al o q ⟨l, la, mo, le, c, h1, h2, hT, hq1, hq2⟩ => ?_
  subst h1 h2
  refine cast (rWi l la mo le c (trimW q)).symm ⟨l, la, mo, le, c, rfl, rfl, hT, fun es he => ⟨rfl, ?_⟩⟩
  subst he
  rcases sel_first (p := pWi c) (l := l) with ⟨k, b, r, h1, h2, h3⟩ | ⟨h1, h2⟩
  · refine bcaseT (decide_eq_true (by omega)) ⟨⟨by omega, by omega⟩, by simpa using h2, Nat.zero_le _, b, ?_, ?_⟩
    · rw [show Int.toNat 0 = 0 from rfl, h3]; rfl
    · exact ⟨_, _, weak_packG [some 0, some 1, some 2] rfl, hq1 k b r h1⟩
  · exact bcaseF (decide_eq_false (by rw [h2]; simp)) ⟨_, _, weak_packG [some 0, some 1, some 2] rfl, hq2 h1⟩
end Go.Proofs.YtepkbbkfcnejmaaDoor

namespace Go.Proofs.YtepkbbkfcnejmaaDoor
open Go Go.AM Go.RowKit
attribute [local irreducible] aUnr aUnS aCode
noncomputable abbrev GOf : List (FuncId × En) := (29, .ref (frameE EAlOf)) :: GB
noncomputable def rOf_k0 (q : AV → (List Ob) → Prop) : Kont := kBlk (0 : Nat) (kSeq (aCode KL GOf (cAt [1, 1, 1] Tryd.b14) (kRetF KL (Array.toList (Func.results Tryd.f14)) q)) (kRetF KL (Array.toList (Func.results Tryd.f14)) q))
theorem rOf (l : FLs) (la mo le : Int) (c : ByteArray) (q : AV → List Ob → Prop) :
  (aCode KL GOf Tryd.b14 (kRetF KL Tryd.f14.results.toList q) ⟨[.rf 0 0, mkS c] ++ List.replicate (Tryd.f14.ntmps - 2) .jk, [tbo la mo le, fob l, .gh [.rf 0 0]]⟩) = (
  ∃ (l_1 : FLs),
  ∃ (la_1 : Int),
  ∃ (mo_1 : Int),
  ∃ (le_1 : Int),
  ∃ (c_1 : ByteArray),
  ([AV.rf 0 0, AV.fn (Fn.func 30) [] [AV.rf ((0 + 1) + 1) 0]] = [AV.rf 0 0, AV.fn (Fn.func 30) [] [AV.rf 2 0]]) ∧
  ([Ob.box [AV.mp (0 + 1), mkI .i64 la, mkI .i64 mo, mkI .i64 le], Ob.bun (famR (FamD.mk (KK.int IntKind.i64) (Shp.box SK) l)), Ob.box [mkS c], Ob.gh [AV.rf 0 0, AV.rf ((0 + 1) + 1) 0]] = [Ob.box [AV.mp 1, mkI .i64 la_1, mkI .i64 mo_1, mkI .i64 le_1], Ob.bun (famR (FamD.mk (KK.int IntKind.i64) (Shp.box SK) l_1)), Ob.box [mkS c_1], Ob.gh [AV.rf 0 0, AV.rf 2 0]]) ∧
  (TabOk l_1) ∧ (
   ∀ (es : List (List D)),
   (es = (selL (pOf c_1) l_1)) →
   ((Option.some (Ob.gh [AV.rf 0 0, AV.rf 2 0])) = (Option.some (Ob.gh [AV.rf 0 0, AV.rf ((0 + 1) + 1) 0]))) ∧
   ALoop (aCode KL GOf (cAt [1, 1, 0, 1, 0, 0] Tryd.b14)) (rOf_k0 q) ⟨[AV.rf 0 0, mkS c, AV.jk, AV.rf 3 0, AV.nl, AV.nl, AV.jk, AV.jk, AV.rf 0 0, AV.fn (Fn.func 30) [] [AV.rf 3 0], AV.vw (if 4 < 3 then 0 else 5 + (4 - 3)) (List.length es), mkI .i64 ((List.length es) : Int), mkI .i64 0] ++ (jks 12), [Ob.box [AV.mp (if 1 < 3 then 1 else 5 + (1 - 3)), mkI .i64 la_1, mkI .i64 mo_1, mkI .i64 le_1], Ob.bun (famR (FamD.mk (KK.int IntKind.i64) (Shp.box SK) l_1)), Ob.gh [AV.rf 0 0], Ob.box [mkS c_1], Ob.gone, Ob.gone, Ob.row 1 es]⟩)) := by kernel_rfl
def stOf (l : FLs) (la mo le : Int) (c : ByteArray) (i : Int) (es ids : List (List D)) : S := ⟨[.rf 0 0, mkS c, .jk, .jk, .nl, .vw 7 ids.length, .jk, .jk, .jk, .jk, .vw 6 es.length, mkI .i64 es.length, mkI .i64 i] ++ jks 12, [tbo la mo le, fob l, .gh [.rf 0 0], .gone, .gone, .gone, .row 1 es, .row 1 ids]⟩
theorem rOf_b {ι : Type} (st : ι → S) (inv : ι → Prop) (μ : ι → Nat) (kk : ι) (l : FLs) (la mo le : Int) (c : ByteArray) (i : Int) (es ids : List (List D)) (q : AV → List Ob → Prop) :
  (aCode KL GOf (cAt [1, 1, 0, 1, 0, 0] Tryd.b14) (kFamM [] (maskOf (stOf l la mo le c i es ids)) st inv μ kk (rOf_k0 q)) (stOf l la mo le c i es ids)) = (
  bcase (decide (i < ((List.length es) : Int))) (
   (((0 : Int) ≤ i) ∧ (i < ((List.length es) : Int))) ∧
   ((Int.toNat i) < (List.length es)) ∧
   ((0 : Nat) ≤ (List.length (List.getD es (Int.toNat i) []))) ∧ (
    ∃ (b : Nat),
    ((List.getD (List.drop 0 (List.getD es (Int.toNat i) [])) 0 d0) = (D.v (.pointer (Option.some (Addr.mk b (0 : Nat) Option.none))))) ∧ (
     ∃ (r : Rec),
     ((recF b l) = (Option.some r)) ∧
     (∀ (c_1 : List D), (c_1 ∈ [[D.v (.int IntKind.i64 (r.i (0 : Nat)))]]) → (List.length c_1) = 1) ∧
     ((List.length ids) = (List.length ids)) ∧
     (((List.length ids) + 1) ≤ LIM) ∧
     FamNext st inv μ kk ⟨[AV.rf 0 0, mkS c, AV.jk, AV.jk, AV.nl, AV.vw 7 ((List.length ids) + 1), AV.jk, AV.jk, AV.jk, AV.jk, AV.vw 6 (List.length es), mkI .i64 ((List.length es) : Int), mkI .i64 (IntKind.wrap .i64 (i + (1 : Int)))] ++ (jks 12), [Ob.box [AV.mp 1, mkI .i64 la, mkI .i64 mo, mkI .i64 le], Ob.bun (famR (FamD.mk (KK.int IntKind.i64) (Shp.box SK) l)), Ob.gh [AV.rf 0 0], Ob.gone, Ob.gone, Ob.gone, Ob.row 1 es, Ob.row 1 (ids ++ [[D.v (.int IntKind.i64 (r.i (0 : Nat)))]]), Ob.row 1 [[D.v (.int IntKind.i64 (r.i (0 : Nat)))]]]⟩))) (
   q (AV.vw 7 (List.length ids)) [Ob.box [AV.mp 1, mkI .i64 la, mkI .i64 mo, mkI .i64 le], Ob.bun (famR (FamD.mk (KK.int IntKind.i64) (Shp.box SK) l)), Ob.gh [AV.rf 0 0], Ob.gone, Ob.gone, Ob.gone, Ob.row 1 es, Ob.row 1 ids])) := by kernel_rfl
theorem gOf : GSound Tryd.prog GOf := gsound_ref (RSound.frame cAlOf) gB
abbrev idD (e : Key × Nat × Rec) : List D := [.v (.int .i64 (e.2.2.i 0))]
def idsL (p : Rec → Bool) (l : FLs) : List (List D) := (l.filter fun e => p e.2.2).map idD
theorem rec_mem {l : FLs} (h : (l.map (·.2.1)).Nodup) {e : Key × Nat × Rec} (he : e ∈ l) : recF e.2.1 l = some e.2.2 := by
  obtain ⟨n, hn, rfl⟩ := List.getElem_of_mem he
  exact rec_at h hn
def EOf : REnt := fun al o q => ∃ l la mo le c, al = [.rf 0 0, mkS c] ∧ o = [tbo la mo le, fob l, .gh [.rf 0 0]] ∧ TabOk l ∧ ∀ ids, ids = idsL (pOf c) l → q (.vw 3 ids.length) [tbo la mo le, fob l, .gh [.rf 0 0], .row 1 ids]
theorem cOf : RSound Tryd.prog 14 EOf := by
  refine ref_gen trimW trimW_ok (code_bsound (c := Tryd.b14) mixed KL_ok gOf) KL_ok Tryd.func14 rfl rfl Tryd.call14 fun al o q ⟨l, la, mo, le, c, h1, h2, hT, hq⟩ => ?_
  subst h1 h2
  refine cast (rOf l la mo le c (trimW q)).symm ⟨l, la, mo, le, c, rfl, rfl, hT, fun es he => ⟨rfl, ALoop.openT 5 1 (by omega) ?_⟩⟩
  obtain ⟨m, hm⟩ : ∃ m, m = l.filter fun e => pOf c e.2.2 := ⟨_, rfl⟩
  have hes : es = m.map rawD := by rw [he, hm]; rfl
  have hids : idsL (pOf c) l = m.map idD := by rw [hm]; rfl
  have hml : ∀ e ∈ m, e ∈ l := fun e h => by rw [hm] at h; exact (List.mem_filter.1 h).1
  have hlen : m.length ≤ 1000 := by rw [hm]; exact Nat.le_trans (List.length_filter_le _ _) hT.ids.len
  have hel : es.length = m.length := by rw [hes, List.length_map]
  clear he hm
  refine ALoop.introM [] (maskOf (stOf l la mo le c 0 es [])) (fun n : Nat => stOf l la mo le c n es ((m.take n).map idD)) (fun n => n ≤ m.length) (fun n => m.length - n) ⟨[], 0, by simp [S.le, sealAll, leL, leA, leO, jks, stOf, S.openT, mkI, mkS, mkB, S.fits, fitsL, AV.fits, Ob.fits, fob, tbo], Nat.zero_le _⟩ fun n hn => ?_
  refine cast (rOf_b _ _ _ n l la mo le c n es ((m.take n).map idD) (trimW q)).symm ?_
  simp only [Int.toNat_natCast]
  refine bcase_dec (fun hlt => ?_) (fun hge => ?_)
  · have hlt : n < m.length := by omega
    have hg : es.getD n [] = rawD m[n] := by
      rw [hes, List.getD_eq_getElem?_getD, List.getElem?_map, List.getElem?_eq_getElem hlt]; rfl
    rw [wrap_succ hlt (by unfold LIM; omega), hg]
    refine ⟨⟨by omega, by omega⟩, by omega, Nat.zero_le _, m[n].2.1, rfl, m[n].2.2, rec_mem hT.nd (hml _ (List.getElem_mem hlt)), fun x hx => by simp at hx; simp [hx], trivial, by simp only [List.length_map, List.length_take]; unfold LIM; omega, ?_⟩
    refine .mk [] (n + 1) ?_ hlt (show m.length - (n + 1) < m.length - n by omega)
    have e : (m.take (n + 1)).map idD = (m.take n).map idD ++ [idD m[n]] := by rw [List.take_succ_eq_append_getElem hlt, List.map_append]; rfl
    show S.le _ (stOf l la mo le c (n + 1 : Nat) es ((m.take (n + 1)).map idD))
    rw [e]
    generalize (m.take n).map idD = ids
    simp [sealAll, S.le, leL, leA, leO, jks, stOf, mkI, mkS, mkB, S.fits, fitsL, AV.fits, Ob.fits, fob, tbo]
  · have : n = m.length := by omega
    subst this
    rw [List.take_length]
    exact ⟨_, _, weak_packG [some 0, some 1, some 2, some 7] rfl, hq _ hids.symm⟩
end Go.Proofs.YtepkbbkfcnejmaaDoor
