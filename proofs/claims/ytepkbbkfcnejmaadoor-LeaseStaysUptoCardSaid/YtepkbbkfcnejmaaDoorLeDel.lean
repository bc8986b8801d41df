import Derived.Test.YtepkbbkfcnejmaaDoorLeVic
set_option linter.unusedSimpArgs false
set_option linter.unusedVariables false
namespace Go.Proofs.YtepkbbkfcnejmaaDoor
open Go Go.AM Go.RowKit
set_option maxRecDepth 10000
attribute [local irreducible] aUnr aUnS aCode
noncomputable abbrev GDe : List (FuncId × En) := (62, .ref (frameB EIx)) :: GMi
theorem gDe : GSound Tryd.prog GDe := gsound_ref (RSound.frameB cIx) gMi
noncomputable abbrev bDl : Code := Tryd.b42
def opsOf : Code → Array Oper
  | .region _ ops _ => ops
  | _ => #[]
def idOf : Code → Nat
  | .region id _ _ => id
  | _ => 0
def opD : Oper := ⟨none, .move (.const (.bool true)), 0, "", #[], none⟩
noncomputable abbrev tlB : Kont → S → Prop := tailB KL GDe (opsOf (cAt [1, 1, 1, 1, 0] bDl)) ((opsOf (cAt [1, 1, 1, 1, 0] bDl)).toList.take 2) ((opsOf (cAt [1, 1, 1, 1, 0] bDl)).toList.getD 2 opD) ((opsOf (cAt [1, 1, 1, 1, 0] bDl)).toList.getD 3 opD)
noncomputable abbrev bB (q : Kont) : S → Prop := aCode KL GDe (cAt [0] bDl) (kSeq (aCode KL GDe (cAt [1, 0] bDl) (kSeq (aCode KL GDe (cAt [1, 1, 0] bDl) (kSeq (aCode KL GDe (cAt [1, 1, 1, 0] bDl) (kSeq (tlB (kSeq (aCode KL GDe (cAt [1, 1, 1, 1, 1] bDl) q) q)) q)) q)) q)) q)
noncomputable abbrev r11 : Code := cAt [1, 1, 1, 1, 0] bDl
theorem bDl_eq : bDl = .seq (cAt [0] bDl) (.seq (cAt [1, 0] bDl) (.seq (cAt [1, 1, 0] bDl) (.seq (cAt [1, 1, 1, 0] bDl) (.seq (.region (idOf r11) (opsOf r11) false) (cAt [1, 1, 1, 1, 1] bDl))))) := by kernel_rfl
theorem r11_ops : (opsOf r11).toList = (opsOf r11).toList.take 2 ++ [(opsOf r11).toList.getD 2 opD, (opsOf r11).toList.getD 3 opD] := by kernel_rfl
theorem b5_sound : BSound Tryd.prog (.seq (.region (idOf r11) (opsOf r11) false) (cAt [1, 1, 1, 1, 1] bDl)) (fun q => tlB (kSeq (aCode KL GDe (cAt [1, 1, 1, 1, 1] bDl) q) q)) := seq_bsound0 (tail_bsound KL_ok gDe r11_ops) (code_bsound mixed KL_ok gDe (cAt [1, 1, 1, 1, 1] bDl))
theorem bB_sound0 : BSound Tryd.prog (.seq (cAt [0] bDl) (.seq (cAt [1, 0] bDl) (.seq (cAt [1, 1, 0] bDl) (.seq (cAt [1, 1, 1, 0] bDl) (.seq (.region (idOf r11) (opsOf r11) false) (cAt [1, 1, 1, 1, 1] bDl)))))) bB :=
  seq_bsound0 (code_bsound mixed KL_ok gDe (cAt [0] bDl)) (seq_bsound0 (code_bsound mixed KL_ok gDe (cAt [1, 0] bDl)) (seq_bsound0 (code_bsound mixed KL_ok gDe (cAt [1, 1, 0] bDl)) (seq_bsound0 (code_bsound mixed KL_ok gDe (cAt [1, 1, 1, 0] bDl)) b5_sound)))
theorem bsound_eq {P : Program} {c c' : Code} {B : Kont → S → Prop} (h : c = c') (hb : BSound P c' B) : BSound P c B := by subst h; exact hb
theorem bB_sound : BSound Tryd.prog bDl bB := bsound_eq bDl_eq bB_sound0
noncomputable def rDl_k0 (q : AV → (List Ob) → Prop) : Kont := kBlk (0 : Nat) (kSeq (tlB (kSeq (aCode KL GDe (cAt [(1 : Nat), (1 : Nat), (1 : Nat), (1 : Nat), (1 : Nat)] bDl) (kRetF KL (Array.toList (Func.results Tryd.f42)) q)) (kRetF KL (Array.toList (Func.results Tryd.f42)) q))) (kRetF KL (Array.toList (Func.results Tryd.f42)) q))
theorem rDl (l : FLs) (es : List (List D)) (n : Nat) (q : AV → List Ob → Prop) :
  (bB (kRetF KL Tryd.f42.results.toList q) ⟨[.vw 0 n, fnV2] ++ List.replicate (Tryd.f42.ntmps - 2) .jk, vob l es n⟩) = (
  ∃ (l_1 : FLs),
  ∃ (mm : FLs),
  ∃ (es_1 : List (List D)),
  ([AV.vw 0 n, AV.fn (Fn.func 44) [] []] = [AV.vw 0 (List.length mm), AV.fn (Fn.func 44) [] []]) ∧
  ([Ob.row 1 es, Ob.bun (famR (FamD.mk (KK.int IntKind.i64) (Shp.box SK) l)), Ob.gh [AV.vw 0 n, AV.mp (0 + 1)]] = [Ob.row 1 es_1, Ob.bun (famR (FamD.mk (KK.int IntKind.i64) (Shp.box SK) l_1)), Ob.gh [AV.vw 0 (List.length mm), AV.mp 1]]) ∧
  (RowOk l_1 mm es_1) ∧ (
   ∀ (v : Int),
   (((v = (-(1 : Int))) ∧ (∀ (e : Prod Key (Prod Nat Rec)), (e ∈ mm) → (pAw (Prod.snd (Prod.snd e))) = false)) ∨ (∃ (k : Nat), ∃ (h : k < (List.length mm)), (v = (k : Int)) ∧ (((pAw (Prod.snd (Prod.snd (GetElem.getElem mm k h)))) = true) ∧ (∀ (j : Nat), (j < k) → ∀ (h' : j < (List.length mm)), (pAw (Prod.snd (Prod.snd (GetElem.getElem mm j h')))) = false)))) →
   ((Option.some (Ob.gh [AV.vw 0 (List.length mm), AV.mp 1])) = (Option.some (Ob.gh [AV.vw 0 n, AV.mp (0 + 1)]))) ∧
   ((List.length es) = (List.length es_1)) ∧
   bcase (v == (-(1 : Int))) (
    q (AV.vw 0 n) [Ob.row 1 es_1, Ob.bun (famR (FamD.mk (KK.int IntKind.i64) (Shp.box SK) l_1)), Ob.gh [AV.vw 0 n, AV.mp 1], Ob.gone, Ob.gone]) (
    ALoop (aCode KL GDe (cAt [1, 1, 1, 0, 1, 0, 0] bDl)) (rDl_k0 q) ⟨[AV.vw 0 n, AV.fn (Fn.func 44) [] [], AV.jk, AV.jk, AV.nl, mkI .i64 v, mkI .i64 (IntKind.wrap .i64 (v + (1 : Int))), AV.jk, AV.vw 0 n, AV.fn (Fn.func 44) [] [], mkI .i64 v, mkI .i64 v, mkB false, AV.jk, mkI .i64 v, mkI .i64 (IntKind.wrap .i64 (v + (1 : Int)))] ++ (jks 26), [Ob.row 1 es_1, Ob.bun (famR (FamD.mk (KK.int IntKind.i64) (Shp.box SK) l_1)), Ob.gh [AV.vw 0 n, AV.mp 1], Ob.gone, Ob.gone]⟩))) := by kernel_rfl
def stDl (l : FLs) (cur : List (List D)) (n : Nat) (i j : Int) : S := ⟨[.vw 0 n, fnV2, .jk, .jk, .nl, mkI .i64 i, mkI .i64 j] ++ jks 35, [.row 1 cur, fob l, .gh [.vw 0 n, .mp 1], .gone, .gone]⟩
theorem rDl_b {ι : Type} (st : ι → S) (inv : ι → Prop) (μ : ι → Nat) (kk : ι) (l : FLs) (cur : List (List D)) (n : Nat) (i j : Int) (q : AV → List Ob → Prop) :
  (aCode KL GDe (cAt [1, 1, 1, 0, 1, 0, 0] bDl) (kFamM [] (maskOf (stDl l cur n i j)) st inv μ kk (rDl_k0 q)) (stDl l cur n i j)) = (
  bcase (decide (j < (n : Int))) (
   (((0 : Int) ≤ j) ∧ (j < (n : Int))) ∧
   ((Int.toNat j) < (List.length cur)) ∧
   ((0 : Nat) ≤ (List.length (List.getD cur (Int.toNat j) []))) ∧ (
    ∃ (b : Nat),
    ((List.getD (List.drop 0 (List.getD cur (Int.toNat j) [])) 0 d0) = (D.v (.pointer (Option.some (Addr.mk b (0 : Nat) Option.none))))) ∧ (
     ∃ (r : Rec),
     ((recF b l) = (Option.some r)) ∧
     bcase (!(!((r.i (((((0 : Nat) + (1 : Nat)) + (1 : Nat)) + (1 : Nat)) + (1 : Nat))) == (-(1 : Int))))) (
      (((0 : Int) ≤ i) ∧ (i < (n : Int))) ∧
      (((Int.toNat i) < (List.length cur)) ∧ (((0 : Nat) + 1) ≤ (List.length (List.getD cur (Int.toNat i) [])))) ∧
      FamNext st inv μ kk ⟨[AV.vw 0 n, AV.fn (Fn.func 44) [] [], AV.jk, AV.jk, AV.nl, mkI .i64 (IntKind.wrap .i64 (i + (1 : Int))), mkI .i64 (IntKind.wrap .i64 (j + (1 : Int)))] ++ (jks 35), [Ob.row 1 (List.set cur (Int.toNat i) (List.cons (D.v (.pointer (Option.some (Addr.mk b (0 : Nat) Option.none)))) (List.drop 1 (List.getD cur (Int.toNat i) [])))), Ob.bun (famR (FamD.mk (KK.int IntKind.i64) (Shp.box SK) l)), Ob.gh [AV.vw 0 n, AV.mp 1], Ob.gone, Ob.gone, Ob.gone, Ob.gone]⟩) (
      FamNext st inv μ kk ⟨[AV.vw 0 n, AV.fn (Fn.func 44) [] [], AV.jk, AV.jk, AV.nl, mkI .i64 i, mkI .i64 (IntKind.wrap .i64 (j + (1 : Int)))] ++ (jks 35), [Ob.row 1 cur, Ob.bun (famR (FamD.mk (KK.int IntKind.i64) (Shp.box SK) l)), Ob.gh [AV.vw 0 n, AV.mp 1], Ob.gone, Ob.gone, Ob.gone, Ob.gone]⟩)))) (
   (((0 : Int) ≤ i) ∧ ((i ≤ (n : Int)) ∧ (n = (List.length cur)))) ∧
   (((0 : Int) ≤ i) ∧ (i ≤ (n : Int))) ∧
   q (AV.vw 0 (Int.toNat i)) [Ob.row 1 (tailD [D.v (.pointer Option.none)] (Int.toNat i) cur), Ob.bun (famR (FamD.mk (KK.int IntKind.i64) (Shp.box SK) l)), Ob.gh [AV.vw 0 n, AV.mp 1], Ob.gone, Ob.gone])) := by kernel_rfl
def kpE (e : Key × Nat × Rec) : Bool := !pAw e.2.2
def kpL (mm : FLs) : FLs := mm.filter kpE
structure DlI (mm : FLs) (i j : Nat) (cur : List (List D)) : Prop where
  len : cur.length = mm.length
  lt : i < j
  le : j ≤ mm.length
  pre : cur.take i = (kpL (mm.take j)).map rawD
  suf : ∀ (t : Nat) (h : t < mm.length), j ≤ t → cur.getD t [] = rawD mm[t]
  one : ∀ t, t < cur.length → ∃ d, cur.getD t [] = [d]
theorem kp_snoc {mm : FLs} {j : Nat} (h : j < mm.length) : kpL (mm.take (j + 1)) = kpL (mm.take j) ++ (if kpE mm[j] = true then [mm[j]] else []) := by
  unfold kpL
  rw [List.take_succ_eq_append_getElem h, List.filter_append]
  congr 1
  by_cases g : kpE mm[j] = true
  · simp [g]
  · simp [g]
theorem DlI.no {mm : FLs} {i j : Nat} {cur : List (List D)} (h : DlI mm i j cur) (hj : j < mm.length) (hk : kpE mm[j] = false) : DlI mm i (j + 1) cur :=
  ⟨h.len, by have := h.lt; omega, hj, by rw [kp_snoc hj, hk]; simpa using h.pre, fun t ht g => h.suf t ht (by omega), h.one⟩
theorem getD_set_ne {cur : List (List D)} {i t : Nat} {x : List D} (h : i ≠ t) : (cur.set i x).getD t [] = cur.getD t [] := by
  rw [List.getD_eq_getElem?_getD, List.getD_eq_getElem?_getD, List.getElem?_set_ne h]
theorem DlI.yes {mm : FLs} {i j : Nat} {cur : List (List D)} (h : DlI mm i j cur) (hj : j < mm.length) (hk : kpE mm[j] = true) : DlI mm (i + 1) (j + 1) (cur.set i (rawD mm[j])) := by
  have hl := h.len
  have hlt := h.lt
  refine ⟨by rw [List.length_set]; exact hl, by omega, hj, ?_, fun t ht g => ?_, fun t ht => ?_⟩
  · rw [kp_snoc hj, hk, if_pos rfl, List.map_append, ← h.pre, List.take_set, List.take_succ_eq_append_getElem (by omega)]
    rw [List.set_append_right _ _ (by rw [List.length_take]; omega)]
    have : i - (cur.take i).length = 0 := by rw [List.length_take]; omega
    rw [this]; rfl
  · rw [getD_set_ne (by omega)]; exact h.suf t ht (by omega)
  · rw [List.length_set] at ht
    by_cases e : i = t
    · subst e
      exact ⟨_, by rw [List.getD_eq_getElem?_getD, List.getElem?_set_self ht]; rfl⟩
    · rw [getD_set_ne e]; exact h.one t ht
theorem DlI.fin {mm : FLs} {i : Nat} {cur : List (List D)} (h : DlI mm i mm.length cur) : i = (kpL mm).length ∧ (∃ tl, tailD [.v (.pointer none)] i cur = (kpL mm).map rawD ++ tl) ∧ (tailD [.v (.pointer none)] i cur).length = mm.length := by
  have h1 := h.pre
  rw [List.take_length] at h1
  have h2 := congrArg List.length h1
  rw [List.length_take, List.length_map, h.len] at h2
  have := h.lt
  have hle := h.len
  exact ⟨by omega, ⟨_, by unfold tailD; rw [h1]⟩, by unfold tailD; rw [List.length_append, List.length_take, List.length_replicate]; omega⟩
theorem DlI.start {mm : FLs} {k : Nat} (hk : k < mm.length) (hp : pAw mm[k].2.2 = true) (hb : ∀ (j : Nat) (h : j < k) (h' : j < mm.length), pAw mm[j].2.2 = false) : DlI mm k (k + 1) (mm.map rawD) := by
  refine ⟨by simp, by omega, hk, ?_, fun t ht _ => ?_, fun t ht => ?_⟩
  · rw [kp_snoc hk]
    have e : kpE mm[k] = false := by unfold kpE; rw [hp]; rfl
    rw [e]
    have : kpL (mm.take k) = mm.take k := List.filter_eq_self.2 fun x hx => by
      obtain ⟨j, hj, rfl⟩ := List.getElem_of_mem hx
      rw [List.length_take] at hj
      rw [List.getElem_take]
      unfold kpE
      rw [hb j (by omega) (by omega)]; rfl
    rw [this]; simp [List.map_take]
  · rw [List.getD_eq_getElem?_getD, List.getElem?_map, List.getElem?_eq_getElem ht]; rfl
  · rw [List.length_map] at ht
    exact ⟨_, by rw [List.getD_eq_getElem?_getD, List.getElem?_map, List.getElem?_eq_getElem ht]; rfl⟩
def EDl : REnt := fun al o q => ∃ l mm, al = [.vw 0 mm.length, fnV2] ∧ o = vob l (mm.map rawD) mm.length ∧ RowOk l mm (mm.map rawD) ∧ ∀ kp es', kp = kpL mm → (∃ tl, es' = kp.map rawD ++ tl) → es'.length = mm.length → q (.vw 0 kp.length) (vob l es' mm.length)
theorem cDl : RSound Tryd.prog 42 EDl := by
  refine ref_gen trimW trimW_ok bB_sound KL_ok Tryd.func42 rfl rfl Tryd.call42 fun al o q ⟨l, mm, h1, h2, hR, hq⟩ => ?_
  subst h1 h2
  refine cast (rDl l (mm.map rawD) mm.length (trimW q)).symm ⟨l, mm, mm.map rawD, rfl, rfl, hR, fun v hv => ⟨rfl, rfl, ?_⟩⟩
  rcases hv with ⟨rfl, hv⟩ | ⟨k, hk, rfl, hp, hb⟩
  · have e : kpL mm = mm := List.filter_eq_self.2 fun x hx => by unfold kpE; rw [hv x hx]; rfl
    refine bcaseT rfl ⟨_, _, weak_packG [some 0, some 1, some 2] rfl, ?_⟩
    have := hq mm (mm.map rawD) e.symm ⟨[], by simp⟩ (by simp)
    exact this
  refine bcaseF (by simp) ?_
  have hlen := hR.len
  rw [wrap_succ hk (by unfold LIM; omega)]
  refine ALoop.introM [] (maskOf (stDl l (mm.map rawD) mm.length k (k + 1 : Nat))) (fun x : Nat × Nat × List (List D) => stDl l x.2.2 mm.length x.1 x.2.1) (fun x => DlI mm x.1 x.2.1 x.2.2) (fun x => mm.length - x.2.1) ⟨[], (k, k + 1, mm.map rawD), by simp [S.le, sealAll, leL, leA, leO, jks, stDl, mkI, mkS, mkB, S.fits, fitsL, AV.fits, Ob.fits, fob, vob], DlI.start hk hp hb⟩ fun ⟨i, j, cur⟩ hI => ?_
  refine cast (rDl_b _ _ _ (i, j, cur) l cur mm.length i j (trimW q)).symm ?_
  simp only [Int.toNat_natCast]
  have hI : DlI mm i j cur := hI
  have hcl := hI.len
  have hij := hI.lt
  have hjn := hI.le
  refine bcase_dec (fun hlt => ?_) (fun hge => ?_)
  · have hlt : j < mm.length := by omega
    have e1 := hI.suf j hlt (Nat.le_refl _)
    obtain ⟨d, e2⟩ := hI.one i (by omega)
    obtain ⟨_, _, e3⟩ := hR.get hlt
    rw [wrap_succ hlt (by unfold LIM; omega), e1]
    refine ⟨⟨by omega, by omega⟩, by omega, Nat.zero_le _, mm[j].2.1, rfl, mm[j].2.2, e3, bcase_mk (fun h => ?_) (fun h => ?_)⟩
    · rw [wrap_succ (n := i) (m := mm.length) (by omega) (by unfold LIM; omega), e2]
      have hk : kpE mm[j] = true := h
      refine ⟨⟨by omega, by omega⟩, ⟨by omega, Nat.le_refl 1⟩, .mk [] (i + 1, j + 1, cur.set i (rawD mm[j])) ?_ (hI.yes hlt hk) (show mm.length - (j + 1) < mm.length - j by omega)⟩
      simp [sealAll, S.le, leL, leA, leO, jks, stDl, mkI, mkS, mkB, S.fits, fitsL, AV.fits, Ob.fits, fob, vob]
    · have hk : kpE mm[j] = false := h
      refine .mk [] (i, j + 1, cur) ?_ (hI.no hlt hk) (show mm.length - (j + 1) < mm.length - j by omega)
      simp [sealAll, S.le, leL, leA, leO, jks, stDl, mkI, mkS, mkB, S.fits, fitsL, AV.fits, Ob.fits, fob, vob]
  · have : j = mm.length := by omega
    subst this
    obtain ⟨f1, f2, f3⟩ := hI.fin
    refine ⟨⟨by omega, by omega, by omega⟩, ⟨by omega, by omega⟩, _, _, weak_packG [some 0, some 1, some 2] rfl, ?_⟩
    have := hq _ _ rfl f2 f3
    rw [← f1] at this
    exact this
end Go.Proofs.YtepkbbkfcnejmaaDoor
