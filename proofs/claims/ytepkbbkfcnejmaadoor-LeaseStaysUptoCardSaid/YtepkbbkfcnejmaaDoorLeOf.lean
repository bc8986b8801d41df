import Derived.Test.YtepkbbkfcnejmaaDoorLeAll
set_option linter.unusedSimpArgs false
set_option linter.unusedVariables false
set_option maxRecDepth 10000
namespace Go.Proofs.YtepkbbkfcnejmaaDoor
open Go Go.AM Go.RowKit
attribute [local irreducible] aUnr aUnS aCode
noncomputable abbrev GOn : List (FuncId × En) := inlΓS KL ((29, .ref (frameE EAlOn)) :: GB) tabI 4 8
noncomputable abbrev GWi : List (FuncId × En) := inlΓS KL ((29, .ref (frameE EAlWi)) :: GB) tabI 4 8
theorem rOn (l : FLs) (la mo le c : Int) (q : AV → List Ob → Prop) :
  (aUnS KL GOn 4 Tryd.b24 (kRetF KL Tryd.f24.results.toList q) ⟨[.rf 0 0, mkI .i64 c] ++ List.replicate (Tryd.f24.ntmps - 2) .jk, [tbo la mo le, fob l, .gh [.rf 0 0]]⟩) = (
  ∃ (l_1 : FLs),
  ∃ (la_1 : Int),
  ∃ (mo_1 : Int),
  ∃ (le_1 : Int),
  ∃ (c_1 : Int),
  ([AV.rf 0 0, AV.fn (Fn.func 40) [] [AV.rf ((0 + 1) + 1) 0]] = [AV.rf 0 0, AV.fn (Fn.func 40) [] [AV.rf 2 0]]) ∧
  ([Ob.box [AV.mp (0 + 1), mkI .i64 la, mkI .i64 mo, mkI .i64 le], Ob.bun (famR (FamD.mk (KK.int IntKind.i64) (Shp.box SK) l)), Ob.box [mkI .i64 c], Ob.gh [AV.rf 0 0, AV.rf ((0 + 1) + 1) 0]] = [Ob.box [AV.mp 1, mkI .i64 la_1, mkI .i64 mo_1, mkI .i64 le_1], Ob.bun (famR (FamD.mk (KK.int IntKind.i64) (Shp.box SK) l_1)), Ob.box [mkI .i64 c_1], Ob.gh [AV.rf 0 0, AV.rf 2 0]]) ∧
  (TabOk l_1) ∧ (
   ∀ (es : List (List D)),
   (es = (selL (pOn c_1) l_1)) →
   ((Option.some (Ob.gh [AV.rf 0 0, AV.rf 2 0])) = (Option.some (Ob.gh [AV.rf 0 0, AV.rf ((0 + 1) + 1) 0]))) ∧
   bcase (decide (((List.length es) : Int) > (0 : Int))) (
    (((0 : Int) ≤ (0 : Int)) ∧ ((0 : Int) < ((List.length es) : Int))) ∧
    ((Int.toNat (0 : Int)) < (List.length es)) ∧
    ((0 : Nat) ≤ (List.length (List.getD es (Int.toNat (0 : Int)) []))) ∧ (
     ∃ (b : Nat),
     ((List.getD (List.drop 0 (List.getD es (Int.toNat (0 : Int)) [])) 0 d0) = (D.v (.pointer (Option.some (Addr.mk b (0 : Nat) Option.none))))) ∧
     q (AV.d (D.v (.pointer (Option.some (Addr.mk b (0 : Nat) Option.none))))) [Ob.box [AV.mp (if 1 < 3 then 1 else 6 + (1 - 3)), mkI .i64 la_1, mkI .i64 mo_1, mkI .i64 le_1], Ob.bun (famR (FamD.mk (KK.int IntKind.i64) (Shp.box SK) l_1)), Ob.gh [AV.rf 0 0], Ob.box [mkI .i64 c_1], Ob.gone, Ob.gone, Ob.gone, Ob.row 1 es])) (
    q (AV.d (D.v (.pointer Option.none))) [Ob.box [AV.mp (if 1 < 3 then 1 else 6 + (1 - 3)), mkI .i64 la_1, mkI .i64 mo_1, mkI .i64 le_1], Ob.bun (famR (FamD.mk (KK.int IntKind.i64) (Shp.box SK) l_1)), Ob.gh [AV.rf 0 0], Ob.box [mkI .i64 c_1], Ob.gone, Ob.gone, Ob.gone, Ob.row 1 es]))) := by kernel_rfl
theorem rWi (l : FLs) (la mo le : Int) (c : ByteArray) (q : AV → List Ob → Prop) :
  (aUnS KL GWi 4 Tryd.b28 (kRetF KL Tryd.f28.results.toList q) ⟨[.rf 0 0, mkS c] ++ List.replicate (Tryd.f28.ntmps - 2) .jk, [tbo la mo le, fob l, .gh [.rf 0 0]]⟩) = (
  ∃ (l_1 : FLs),
  ∃ (la_1 : Int),
  ∃ (mo_1 : Int),
  ∃ (le_1 : Int),
  ∃ (c_1 : ByteArray),
  ([AV.rf 0 0, AV.fn (Fn.func 46) [] [AV.rf ((0 + 1) + 1) 0]] = [AV.rf 0 0, AV.fn (Fn.func 46) [] [AV.rf 2 0]]) ∧
  ([Ob.box [AV.mp (0 + 1), mkI .i64 la, mkI .i64 mo, mkI .i64 le], Ob.bun (famR (FamD.mk (KK.int IntKind.i64) (Shp.box SK) l)), Ob.box [mkS c], Ob.gh [AV.rf 0 0, AV.rf ((0 + 1) + 1) 0]] = [Ob.box [AV.mp 1, mkI .i64 la_1, mkI .i64 mo_1, mkI .i64 le_1], Ob.bun (famR (FamD.mk (KK.int IntKind.i64) (Shp.box SK) l_1)), Ob.box [mkS c_1], Ob.gh [AV.rf 0 0, AV.rf 2 0]]) ∧
  (TabOk l_1) ∧ (
   ∀ (es : List (List D)),
   (es = (selL (pWi c_1) l_1)) →
   ((Option.some (Ob.gh [AV.rf 0 0, AV.rf 2 0])) = (Option.some (Ob.gh [AV.rf 0 0, AV.rf ((0 + 1) + 1) 0]))) ∧
   bcase (decide (((List.length es) : Int) > (0 : Int))) (
    (((0 : Int) ≤ (0 : Int)) ∧ ((0 : Int) < ((List.length es) : Int))) ∧
    ((Int.toNat (0 : Int)) < (List.length es)) ∧
    ((0 : Nat) ≤ (List.length (List.getD es (Int.toNat (0 : Int)) []))) ∧ (
     ∃ (b : Nat),
     ((List.getD (List.drop 0 (List.getD es (Int.toNat (0 : Int)) [])) 0 d0) = (D.v (.pointer (Option.some (Addr.mk b (0 : Nat) Option.none))))) ∧
     q (AV.d (D.v (.pointer (Option.some (Addr.mk b (0 : Nat) Option.none))))) [Ob.box [AV.mp (if 1 < 3 then 1 else 6 + (1 - 3)), mkI .i64 la_1, mkI .i64 mo_1, mkI .i64 le_1], Ob.bun (famR (FamD.mk (KK.int IntKind.i64) (Shp.box SK) l_1)), Ob.gh [AV.rf 0 0], Ob.box [mkS c_1], Ob.gone, Ob.gone, Ob.gone, Ob.row 1 es])) (
    q (AV.d (D.v (.pointer Option.none))) [Ob.box [AV.mp (if 1 < 3 then 1 else 6 + (1 - 3)), mkI .i64 la_1, mkI .i64 mo_1, mkI .i64 le_1], Ob.bun (famR (FamD.mk (KK.int IntKind.i64) (Shp.box SK) l_1)), Ob.gh [AV.rf 0 0], Ob.box [mkS c_1], Ob.gone, Ob.gone, Ob.gone, Ob.row 1 es]))) := by kernel_rfl
theorem gOn : GSound Tryd.prog GOn := inlS_sound mixed KL_ok (gsound_ref (RSound.frame cAlOn) gB) tabI_ok 8
theorem gWi : GSound Tryd.prog GWi := inlS_sound mixed KL_ok (gsound_ref (RSound.frame cAlWi) gB) tabI_ok 8
def firstE (p : Rec → Bool) (l : FLs) : Option (Key × Nat × Rec) := l.find? fun e => p e.2.2
theorem sel_first {p : Rec → Bool} {l : FLs} : (∃ k b r, firstE p l = some (k, b, r) ∧ 0 < (selL p l).length ∧ (selL p l).getD 0 [] = [.v (.pointer (some ⟨b, 0, none⟩))]) ∨ (firstE p l = none ∧ selL p l = []) := by
  unfold firstE selL
  rw [← List.head?_filter]
  cases h : l.filter (fun e => p e.2.2) with
  | nil => exact .inr ⟨rfl, rfl⟩
  | cons e m => obtain ⟨k, b, r⟩ := e; exact .inl ⟨k, b, r, rfl, by simp, rfl⟩
def EFst {α : Type} (mk : α → AV) (p : α → Rec → Bool) : REnt := fun al o q => ∃ l la mo le c, al = [.rf 0 0, mk c] ∧ o = [tbo la mo le, fob l, .gh [.rf 0 0]] ∧ TabOk l ∧ (∀ k b r, firstE (p c) l = some (k, b, r) → q (rawP b) [tbo la mo le, fob l, .gh [.rf 0 0]]) ∧ (firstE (p c) l = none → q nilP [tbo la mo le, fob l, .gh [.rf 0 0]])
theorem cOn : RSound Tryd.prog 24 (EFst (mkI .i64) pOn) := by
  refine ref_gen trimW trimW_ok (unS_bsound 4 mixed KL_ok gOn Tryd.b24) KL_ok Tryd.func24 rfl rfl Tryd.call24 fun al o q ⟨l, la, mo, le, c, h1, h2, hT, hq1, hq2⟩ => ?_
  subst h1 h2
  refine cast (rOn l la mo le c (trimW q)).symm ⟨l, la, mo, le, c, rfl, rfl, hT, fun es he => ⟨rfl, ?_⟩⟩
  subst he
  rcases sel_first (p := pOn c) (l := l) with ⟨k, b, r, h1, h2, h3⟩ | ⟨h1, h2⟩
  · refine bcaseT (decide_eq_true (by omega)) ⟨⟨by omega, by omega⟩, by simpa using h2, Nat.zero_le _, b, ?_, ?_⟩
    · rw [show Int.toNat 0 = 0 from rfl, h3]; rfl
    · exact ⟨_, _, weak_packG [some 0, some 1, some 2] rfl, hq1 k b r h1⟩
  · exact bcaseF (decide_eq_false (by rw [h2]; simp)) ⟨_, _, weak_packG [some 0, some 1, some 2] rfl, hq2 h1⟩
theorem cWi : RSound Tryd.prog 28 (EFst mkS pWi) := by
  refine ref_gen trimW trimW_ok (unS_bsound 4 mixed KL_ok gWi Tryd.b28) KL_ok Tryd.func28 rfl rfl Tryd.call28 fun al o q ⟨l, la, mo, le, c, h1, h2, hT, hq1, hq2⟩ => ?_
  subst h1 h2
  refine cast (rWi l la mo le c (trimW q)).symm ⟨l, la, mo, le, c, rfl, rfl, hT, fun es he => ⟨rfl, ?_⟩⟩
  subst he
  rcases sel_first (p := pWi c) (l := l) with ⟨k, b, r, h1, h2, h3⟩ | ⟨h1, h2⟩
  · refine bcaseT (decide_eq_true (by omega)) ⟨⟨by omega, by omega⟩, by simpa using h2, Nat.zero_le _, b, ?_, ?_⟩
    · rw [show Int.toNat 0 = 0 from rfl, h3]; rfl
    · exact ⟨_, _, weak_packG [some 0, some 1, some 2] rfl, hq1 k b r h1⟩
  · exact bcaseF (decide_eq_false (by rw [h2]; simp)) ⟨_, _, weak_packG [some 0, some 1, some 2] rfl, hq2 h1⟩
end Go.Proofs.YtepkbbkfcnejmaaDoor

namespace Go.Proofs.YtepkbbkfcnejmaaDoor
open Go Go.AM Go.RowKit
attribute [local irreducible] aUnr aUnS aCode
theorem rec_mem {l : FLs} (h : (l.map (·.2.1)).Nodup) {e : Key × Nat × Rec} (he : e ∈ l) : recF e.2.1 l = some e.2.2 := by
  obtain ⟨n, hn, rfl⟩ := List.getElem_of_mem he
  exact rec_at h hn
end Go.Proofs.YtepkbbkfcnejmaaDoor
