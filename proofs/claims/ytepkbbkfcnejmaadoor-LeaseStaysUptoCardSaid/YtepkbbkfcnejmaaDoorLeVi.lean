import Derived.Test.YtepkbbkfcnejmaaDoorLeDel
import Derived.Test.YtepkbbkfcnejmaaDoorLeTab
set_option linter.unusedSimpArgs false
set_option linter.unusedVariables false
namespace Go.Proofs.YtepkbbkfcnejmaaDoor
open Go Go.AM Go.RowKit
set_option maxRecDepth 10000
attribute [local irreducible] aUnr aUnS aCode
noncomputable abbrev GVi : List (FuncId × En) := inlΓS KL ((29, .ref (frameE EAlVi)) :: (42, .ref (frameB EDl)) :: (45, .ref (frameB EMi)) :: GB) tabI 4 8
theorem gVi : GSound Tryd.prog GVi := inlS_sound mixed KL_ok (gsound_ref (RSound.frame cAlVi) (gsound_ref (RSound.frameB cDl) (gsound_ref (RSound.frameB cMi) gB))) tabI_ok 8
theorem rVi (l : FLs) (la mo le : Int) (u : ByteArray) (q : AV → List Ob → Prop) :
  (aUnS KL GVi 4 Tryd.b25 (kRetF KL Tryd.f25.results.toList q) ⟨[.rf 0 0, mkS u] ++ List.replicate (Tryd.f25.ntmps - 2) .jk, [tbo la mo le, fob l, .gh [.rf 0 0]]⟩) = (
  ∃ (l_1 : FLs),
  ∃ (la_1 : Int),
  ∃ (mo_1 : Int),
  ∃ (le_1 : Int),
  ∃ (c : ByteArray),
  ([AV.rf 0 0, AV.fn (Fn.func 41) [] [AV.rf ((0 + 1) + 1) 0]] = [AV.rf 0 0, AV.fn (Fn.func 41) [] [AV.rf 2 0]]) ∧
  ([Ob.box [AV.mp (0 + 1), mkI .i64 la, mkI .i64 mo, mkI .i64 le], Ob.bun (famR (FamD.mk (KK.int IntKind.i64) (Shp.box SK) l)), Ob.box [mkS u], Ob.gh [AV.rf 0 0, AV.rf ((0 + 1) + 1) 0]] = [Ob.box [AV.mp 1, mkI .i64 la_1, mkI .i64 mo_1, mkI .i64 le_1], Ob.bun (famR (FamD.mk (KK.int IntKind.i64) (Shp.box SK) l_1)), Ob.box [mkS c], Ob.gh [AV.rf 0 0, AV.rf 2 0]]) ∧
  (TabOk l_1) ∧ (
   ∀ (es : List (List D)),
   (es = (selL (pVi c) l_1)) →
   ((Option.some (Ob.gh [AV.rf 0 0, AV.rf 2 0])) = (Option.some (Ob.gh [AV.rf 0 0, AV.rf ((0 + 1) + 1) 0]))) ∧
   bcase (decide (((List.length es) : Int) < mo_1)) (
    q (AV.d (D.v (.pointer Option.none))) [Ob.box [AV.mp (if 1 < 3 then 1 else 5 + (1 - 3)), mkI .i64 la_1, mkI .i64 mo_1, mkI .i64 le_1], Ob.bun (famR (FamD.mk (KK.int IntKind.i64) (Shp.box SK) l_1)), Ob.gh [AV.rf 0 0], Ob.box [mkS c], Ob.gone, Ob.gone, Ob.row 1 es]) (
    ((0 : Nat) < (List.length es)) ∧
    (∀ (c_1 : List D), (c_1 ∈ (List.take (List.length es) es)) → (List.length c_1) = 1) ∧
    ((0 : Nat) = 0) ∧
    ((0 + (List.length (List.take (List.length es) es))) ≤ LIM) ∧ (
     ∃ (l_2 : FLs),
     ∃ (mm : FLs),
     ([AV.vw 0 (0 + (List.length (List.take (List.length es) es))), AV.fn (Fn.func 44) [] []] = [AV.vw 0 (List.length mm), AV.fn (Fn.func 44) [] []]) ∧
     ([Ob.row 1 ([] ++ (List.take (List.length es) es)), Ob.bun (famR (FamD.mk (KK.int IntKind.i64) (Shp.box SK) l_1)), Ob.gh [AV.vw 0 (0 + (List.length (List.take (List.length es) es))), AV.mp (0 + 1)]] = [Ob.row 1 (List.map rawD mm), Ob.bun (famR (FamD.mk (KK.int IntKind.i64) (Shp.box SK) l_2)), Ob.gh [AV.vw 0 (List.length mm), AV.mp 1]]) ∧
     (RowOk l_2 mm (List.map rawD mm)) ∧ (
      ∀ (kp : FLs),
      ∀ (es' : List (List D)),
      (kp = (kpL mm)) →
      (∃ (tl : List (List D)), es' = ((List.map rawD kp) ++ tl)) →
      ((List.length es') = (List.length mm)) →
      ((Option.some (Ob.gh [AV.vw 0 (List.length mm), AV.mp 1])) = (Option.some (Ob.gh [AV.vw 0 (0 + (List.length (List.take (List.length es) es))), AV.mp (0 + 1)]))) ∧
      ((List.length ([] ++ (List.take (List.length es) es))) = (List.length es')) ∧
      bcase (decide (((List.length kp) : Int) > (0 : Int))) (
       ∃ (l_3 : FLs),
       ∃ (x : Prod Key (Prod Nat Rec)),
       ∃ (m : List (Prod Key (Prod Nat Rec))),
       ∃ (es_1 : List (List D)),
       ([AV.vw 0 (List.length kp), AV.fn (Fn.func 34) [] []] = [AV.vw 0 ((List.length m) + 1), AV.fn (Fn.func 34) [] []]) ∧
       ([Ob.row 1 es', Ob.bun (famR (FamD.mk (KK.int IntKind.i64) (Shp.box SK) l_2)), Ob.gh [AV.vw 0 (List.length kp), AV.mp (0 + 1)]] = [Ob.row 1 es_1, Ob.bun (famR (FamD.mk (KK.int IntKind.i64) (Shp.box SK) l_3)), Ob.gh [AV.vw 0 ((List.length m) + 1), AV.mp 1]]) ∧
       (RowOk l_3 (List.cons x m) es_1) ∧ (
        ∀ (k : Key),
        ∀ (b : Nat),
        ∀ (r : Rec),
        ((minG x m) = (k, (b, r))) →
        ((Option.some (Ob.gh [AV.vw 0 ((List.length m) + 1), AV.mp 1])) = (Option.some (Ob.gh [AV.vw 0 (List.length kp), AV.mp (0 + 1)]))) ∧
        ((List.length es') = (List.length es_1)) ∧
        q (AV.d (D.v (.pointer (Option.some (Addr.mk b (0 : Nat) Option.none))))) [Ob.box [AV.mp (if 1 < 3 then 1 else 5 + (1 - 3)), mkI .i64 la_1, mkI .i64 mo_1, mkI .i64 le_1], Ob.bun (famR (FamD.mk (KK.int IntKind.i64) (Shp.box SK) l_3)), Ob.gh [AV.rf 0 0], Ob.box [mkS c], Ob.gone, Ob.gone, Ob.row 1 es, Ob.gone, Ob.row 1 es_1, Ob.gone, Ob.gone, Ob.gone, Ob.gone])) (
       (((0 : Int) ≤ (0 : Int)) ∧ ((0 : Int) < ((List.length es) : Int))) ∧
       ((Int.toNat (0 : Int)) < (List.length es)) ∧
       ((0 : Nat) ≤ (List.length (List.getD es (Int.toNat (0 : Int)) []))) ∧ (
        ∃ (b : Nat),
        ((List.getD (List.drop 0 (List.getD es (Int.toNat (0 : Int)) [])) 0 d0) = (D.v (.pointer (Option.some (Addr.mk b (0 : Nat) Option.none))))) ∧
        q (AV.d (D.v (.pointer (Option.some (Addr.mk b (0 : Nat) Option.none))))) [Ob.box [AV.mp (if 1 < 3 then 1 else 5 + (1 - 3)), mkI .i64 la_1, mkI .i64 mo_1, mkI .i64 le_1], Ob.bun (famR (FamD.mk (KK.int IntKind.i64) (Shp.box SK) l_2)), Ob.gh [AV.rf 0 0], Ob.box [mkS c], Ob.gone, Ob.gone, Ob.row 1 es, Ob.gone, Ob.row 1 es', Ob.gone, Ob.gone]))))))) := by kernel_rfl
def EVi : REnt := fun al o q => ∃ l la mo le u, al = [.rf 0 0, mkS u] ∧ o = [tbo la mo le, fob l, .gh [.rf 0 0]] ∧ TabOk l ∧ 0 < mo ∧ ((selE u l).length < mo → q nilP [tbo la mo le, fob l, .gh [.rf 0 0]]) ∧ (mo ≤ (selE u l).length → ∀ k b r, victE u l = some (k, b, r) → q (rawP b) [tbo la mo le, fob l, .gh [.rf 0 0]])
theorem cVi : RSound Tryd.prog 25 EVi := by
  refine ref_gen trimW trimW_ok (unS_bsound 4 mixed KL_ok gVi Tryd.b25) KL_ok Tryd.func25 rfl rfl Tryd.call25 fun al o q ⟨l, la, mo, le, u, h1, h2, hT, hmo, hq1, hq2⟩ => ?_
  subst h1 h2
  refine cast (rVi l la mo le u (trimW q)).symm ⟨l, la, mo, le, u, rfl, rfl, hT, fun es he => ⟨rfl, ?_⟩⟩
  obtain ⟨m, hm⟩ : ∃ m, m = selE u l := ⟨_, rfl⟩
  have hes : es = m.map rawD := by rw [he, hm]; rfl
  have hml : ∀ e ∈ m, e ∈ l := fun e h => by rw [hm] at h; exact (List.mem_filter.1 h).1
  have hlen : m.length ≤ 1000 := by rw [hm]; exact Nat.le_trans (List.length_filter_le _ _) hT.ids.len
  have hel : es.length = m.length := by rw [hes, List.length_map]
  rw [← hm] at hq1 hq2
  have hv : victE u l = match slpE m with | y :: m' => some (minG y m') | [] => m.head? := by unfold victE; rw [← hm]; cases slpE m <;> rfl
  rw [hv] at hq2
  clear he hm hv
  refine bcase_dec (fun hlt => ?_) (fun hge => ?_)
  · exact ⟨_, _, weak_packG [some 0, some 1, some 2] rfl, hq1 (by omega)⟩
  have hge : mo ≤ m.length := by omega
  replace hq2 := hq2 hge
  rw [List.take_length, Nat.zero_add, hel, List.nil_append]
  have hR : RowOk l m (m.map rawD) := ⟨hT, hml, ⟨[], by simp⟩, hlen⟩
  refine ⟨by omega, fun c hc => ?_, rfl, by unfold LIM; omega, l, m, rfl, by rw [hes], hR, fun kp es' hkp htl hl' => ⟨rfl, by rw [hl', hel], ?_⟩⟩
  · rw [hes] at hc
    obtain ⟨e, _, rfl⟩ := List.mem_map.1 hc
    rfl
  have hsl : slpE m = kp := hkp.symm
  rw [hsl] at hq2
  cases kp with
  | nil =>
    refine bcaseF (by simp) ?_
    cases m with
    | nil => simp at hge; omega
    | cons e m' =>
      obtain ⟨k, b, r⟩ := e
      subst hes
      exact ⟨⟨by omega, by simp only [List.length_cons]; omega⟩, by simp, by simp, b, rfl, _, _, weak_packG [some 0, some 1, some 2] rfl, hq2 k b r rfl⟩
  | cons y m' =>
    refine bcaseT (by simp) ⟨l, y, m', es', rfl, rfl, ⟨hT, fun e he => hml e (List.mem_filter.1 (show e ∈ kpL m by rw [← hkp]; exact he)).1, htl, ?_⟩, fun k b r hmi => ⟨rfl, rfl, _, _, weak_packG [some 0, some 1, some 2] rfl, hq2 k b r (congrArg some hmi)⟩⟩
    have : (kpL m).length ≤ m.length := List.length_filter_le _ _
    rw [← hkp] at this
    omega
end Go.Proofs.YtepkbbkfcnejmaaDoor
