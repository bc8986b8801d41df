import Derived.Test.YtepkbbkfcnejmaaDoorLeCmp
set_option linter.unusedSimpArgs false
set_option linter.unusedVariables false
namespace Go.Proofs.YtepkbbkfcnejmaaDoor
open Go Go.AM Go.RowKit
set_option maxRecDepth 10000
attribute [local irreducible] aUnr aUnS aCode
abbrev fnV2 : AV := .fn (.func 44) [] []
abbrev fnEa : AV := .fn (.func 34) [] []
noncomputable abbrev GMi : List (FuncId × En) := inlΓS KL GEa tabI 4 8
theorem gMi : GSound Tryd.prog GMi := inlS_sound mixed KL_ok gEa tabI_ok 8
def vob (l : FLs) (es : List (List D)) (n : Nat) : List Ob := [.row 1 es, fob l, .gh [.vw 0 n, .mp 1]]
noncomputable def rIx_k0 (q : AV → (List Ob) → Prop) : Kont := kBlk (0 : Nat) (kSeq (aCode KL GMi (cAt [1, 1] Tryd.b62) (kRetF KL (Array.toList (Func.results Tryd.f62)) q)) (kRetF KL (Array.toList (Func.results Tryd.f62)) q))
theorem rIx (l : FLs) (es : List (List D)) (n : Nat) (q : AV → List Ob → Prop) :
  (aCode KL GMi Tryd.b62 (kRetF KL Tryd.f62.results.toList q) ⟨[.vw 0 n, fnV2] ++ List.replicate (Tryd.f62.ntmps - 2) .jk, vob l es n⟩) = (
  ALoop (aCode KL GMi (cAt [1, 0, 1, 0, 0] Tryd.b62)) (rIx_k0 q) ⟨[AV.vw 0 n, AV.fn (Fn.func 44) [] [], AV.jk, AV.jk, mkI .i64 0, AV.jk, AV.vw 0 n, mkI .i64 (n : Int), mkI .i64 0] ++ (jks 10), [Ob.row 1 es, Ob.bun (famR (FamD.mk (KK.int IntKind.i64) (Shp.box SK) l)), Ob.gh [AV.vw 0 n, AV.mp 1]]⟩) := by kernel_rfl
def stIx (l : FLs) (es : List (List D)) (n : Nat) (i : Int) : S := ⟨[.vw 0 n, fnV2, .jk, .jk, mkI .i64 0, .jk, .jk, mkI .i64 n, mkI .i64 i] ++ jks 10, vob l es n⟩
theorem rIx_b {ι : Type} (st : ι → S) (inv : ι → Prop) (μ : ι → Nat) (kk : ι) (l : FLs) (es : List (List D)) (n : Nat) (i : Int) (q : AV → List Ob → Prop) :
  (aCode KL GMi (cAt [1, 0, 1, 0, 0] Tryd.b62) (kFamM [] (maskOf (stIx l es n i)) st inv μ kk (rIx_k0 q)) (stIx l es n i)) = (
  bcase (decide (i < (n : Int))) (
   (((0 : Int) ≤ i) ∧ (i < (n : Int))) ∧
   ((Int.toNat i) < (List.length es)) ∧
   ((0 : Nat) ≤ (List.length (List.getD es (Int.toNat i) []))) ∧ (
    ∃ (b : Nat),
    ((List.getD (List.drop 0 (List.getD es (Int.toNat i) [])) 0 d0) = (D.v (.pointer (Option.some (Addr.mk b (0 : Nat) Option.none))))) ∧ (
     ∃ (r : Rec),
     ((recF b l) = (Option.some r)) ∧
     bcase (!((r.i (((((0 : Nat) + (1 : Nat)) + (1 : Nat)) + (1 : Nat)) + (1 : Nat))) == (-(1 : Int)))) (
      q (mkI .i64 i) [Ob.row 1 es, Ob.bun (famR (FamD.mk (KK.int IntKind.i64) (Shp.box SK) l)), Ob.gh [AV.vw 0 n, AV.mp 1], Ob.gone, Ob.gone]) (
      FamNext st inv μ kk ⟨[AV.vw 0 n, AV.fn (Fn.func 44) [] [], AV.jk, AV.jk, mkI .i64 0, AV.jk, AV.jk, mkI .i64 (n : Int), mkI .i64 (IntKind.wrap .i64 (i + (1 : Int)))] ++ (jks 10), [Ob.row 1 es, Ob.bun (famR (FamD.mk (KK.int IntKind.i64) (Shp.box SK) l)), Ob.gh [AV.vw 0 n, AV.mp 1], Ob.gone, Ob.gone]⟩)))) (
   q (mkI .i64 (-(1 : Int))) [Ob.row 1 es, Ob.bun (famR (FamD.mk (KK.int IntKind.i64) (Shp.box SK) l)), Ob.gh [AV.vw 0 n, AV.mp 1]])) := by kernel_rfl
noncomputable def rMi_k0 (q : AV → (List Ob) → Prop) : Kont := kBlk (0 : Nat) (kSeq (aCode KL GMi (cAt [1, 1, 1, 1] Tryd.b45) (kRetF KL (Array.toList (Func.results Tryd.f45)) q)) (kRetF KL (Array.toList (Func.results Tryd.f45)) q))
theorem rMi (l : FLs) (es : List (List D)) (n : Nat) (q : AV → List Ob → Prop) :
  (aCode KL GMi Tryd.b45 (kRetF KL Tryd.f45.results.toList q) ⟨[.vw 0 n, fnEa] ++ List.replicate (Tryd.f45.ntmps - 2) .jk, vob l es n⟩) = (
  bcase (decide ((n : Int) < (1 : Int))) (
   False) (
   (((0 : Int) ≤ (0 : Int)) ∧ ((0 : Int) < (n : Int))) ∧
   ((Int.toNat (0 : Int)) < (List.length es)) ∧
   ((0 : Nat) ≤ (List.length (List.getD es (Int.toNat (0 : Int)) []))) ∧ (
    ∃ (b : Nat),
    ((List.getD (List.drop 0 (List.getD es (Int.toNat (0 : Int)) [])) 0 d0) = (D.v (.pointer (Option.some (Addr.mk b (0 : Nat) Option.none))))) ∧
    ALoop (aCode KL GMi (cAt [1, 1, 1, 0, 1, 0, 0] Tryd.b45)) (rMi_k0 q) ⟨[AV.vw 0 n, AV.fn (Fn.func 34) [] [], AV.jk, AV.jk, AV.d (D.v (.pointer Option.none)), AV.d (D.v (.pointer (Option.some (Addr.mk b (0 : Nat) Option.none)))), mkI .i64 1, AV.vw 0 n, mkI .i64 (n : Int), mkB false, AV.jk, AV.vw 0 n, AV.rp 0 1 (Int.toNat (0 : Int)) 0, AV.d (D.v (.pointer (Option.some (Addr.mk b (0 : Nat) Option.none))))] ++ (jks 19), [Ob.row 1 es, Ob.bun (famR (FamD.mk (KK.int IntKind.i64) (Shp.box SK) l)), Ob.gh [AV.vw 0 n, AV.mp 1]]⟩))) := by kernel_rfl
def stMi (l : FLs) (es : List (List D)) (n : Nat) (b : Nat) (i : Int) : S := ⟨[.vw 0 n, fnEa, .jk, .jk, nilP, rawP b, mkI .i64 i] ++ jks 26, vob l es n⟩
theorem rMi_b {ι : Type} (st : ι → S) (inv : ι → Prop) (μ : ι → Nat) (kk : ι) (l : FLs) (es : List (List D)) (n b : Nat) (i : Int) (q : AV → List Ob → Prop) :
  (aCode KL GMi (cAt [1, 1, 1, 0, 1, 0, 0] Tryd.b45) (kFamM [] (maskOf (stMi l es n b i)) st inv μ kk (rMi_k0 q)) (stMi l es n b i)) = (
  bcase (decide (i < (n : Int))) (
   (((0 : Int) ≤ i) ∧ (i < (n : Int))) ∧
   ((Int.toNat i) < (List.length es)) ∧
   ((0 : Nat) ≤ (List.length (List.getD es (Int.toNat i) []))) ∧ (
    ∃ (b_1 : Nat),
    ((List.getD (List.drop 0 (List.getD es (Int.toNat i) [])) 0 d0) = (D.v (.pointer (Option.some (Addr.mk b_1 (0 : Nat) Option.none))))) ∧ (
     ∃ (r : Rec),
     ((recF b_1 l) = (Option.some r)) ∧ (
      ∃ (r_1 : Rec),
      ((recF b l) = (Option.some r_1)) ∧ (
       ∃ (r_2 : Rec),
       ((recF b_1 l) = (Option.some r_2)) ∧ (
        ∃ (r_3 : Rec),
        ((recF b l) = (Option.some r_3)) ∧
        True ∧
        True ∧
        True ∧
        bcase (decide ((orI (cmpI (r.i ((((((0 : Nat) + (1 : Nat)) + (1 : Nat)) + (1 : Nat)) + (1 : Nat)) + (1 : Nat))) (r_1.i ((((((0 : Nat) + (1 : Nat)) + (1 : Nat)) + (1 : Nat)) + (1 : Nat)) + (1 : Nat)))) (cmpI (r_2.i (0 : Nat)) (r_3.i (0 : Nat)))) < (0 : Int))) (
         (((0 : Int) ≤ i) ∧ (i < (n : Int))) ∧
         ((Int.toNat i) < (List.length es)) ∧
         ((0 : Nat) ≤ (List.length (List.getD es (Int.toNat i) []))) ∧ (
          ∃ (b_2 : Nat),
          ((List.getD (List.drop 0 (List.getD es (Int.toNat i) [])) 0 d0) = (D.v (.pointer (Option.some (Addr.mk b_2 (0 : Nat) Option.none))))) ∧
          FamNext st inv μ kk ⟨[AV.vw 0 n, AV.fn (Fn.func 34) [] [], AV.jk, AV.jk, AV.d (D.v (.pointer Option.none)), AV.d (D.v (.pointer (Option.some (Addr.mk b_2 (0 : Nat) Option.none)))), mkI .i64 (IntKind.wrap .i64 (i + (1 : Int)))] ++ (jks 26), [Ob.row 1 es, Ob.bun (famR (FamD.mk (KK.int IntKind.i64) (Shp.box SK) l)), Ob.gh [AV.vw 0 n, AV.mp 1], Ob.gone, Ob.row 1 [[D.v (.int IntKind.i64 (cmpI (r.i ((((((0 : Nat) + (1 : Nat)) + (1 : Nat)) + (1 : Nat)) + (1 : Nat)) + (1 : Nat))) (r_1.i ((((((0 : Nat) + (1 : Nat)) + (1 : Nat)) + (1 : Nat)) + (1 : Nat)) + (1 : Nat)))))], [D.v (.int IntKind.i64 (cmpI (r_2.i (0 : Nat)) (r_3.i (0 : Nat))))]]]⟩)) (
         FamNext st inv μ kk ⟨[AV.vw 0 n, AV.fn (Fn.func 34) [] [], AV.jk, AV.jk, AV.d (D.v (.pointer Option.none)), AV.d (D.v (.pointer (Option.some (Addr.mk b (0 : Nat) Option.none)))), mkI .i64 (IntKind.wrap .i64 (i + (1 : Int)))] ++ (jks 26), [Ob.row 1 es, Ob.bun (famR (FamD.mk (KK.int IntKind.i64) (Shp.box SK) l)), Ob.gh [AV.vw 0 n, AV.mp 1], Ob.gone, Ob.row 1 [[D.v (.int IntKind.i64 (cmpI (r.i ((((((0 : Nat) + (1 : Nat)) + (1 : Nat)) + (1 : Nat)) + (1 : Nat)) + (1 : Nat))) (r_1.i ((((((0 : Nat) + (1 : Nat)) + (1 : Nat)) + (1 : Nat)) + (1 : Nat)) + (1 : Nat)))))], [D.v (.int IntKind.i64 (cmpI (r_2.i (0 : Nat)) (r_3.i (0 : Nat))))]]]⟩))))))) (
   q (AV.d (D.v (.pointer (Option.some (Addr.mk b (0 : Nat) Option.none))))) [Ob.row 1 es, Ob.bun (famR (FamD.mk (KK.int IntKind.i64) (Shp.box SK) l)), Ob.gh [AV.vw 0 n, AV.mp 1]])) := by kernel_rfl
structure RowOk (l mm : FLs) (es : List (List D)) : Prop where
  tab : TabOk l
  sub : ∀ e ∈ mm, e ∈ l
  row : ∃ tl, es = mm.map rawD ++ tl
  len : mm.length ≤ 1000
theorem RowOk.get {l mm : FLs} {es : List (List D)} (h : RowOk l mm es) {n : Nat} (hn : n < mm.length) : es.getD n [] = rawD mm[n] ∧ n < es.length ∧ recF mm[n].2.1 l = some mm[n].2.2 := by
  obtain ⟨tl, rfl⟩ := h.row
  refine ⟨?_, by simp; omega, rec_mem h.tab.nd (h.sub _ (List.getElem_mem hn))⟩
  rw [List.getD_eq_getElem?_getD, List.getElem?_append_left (by simpa using hn), List.getElem?_map, List.getElem?_eq_getElem hn]; rfl
def pAw (r : Rec) : Bool := !(r.i 4 == -1)
def IxR (mm : FLs) (v : Int) : Prop := (v = -1 ∧ ∀ e ∈ mm, pAw e.2.2 = false) ∨ ∃ (k : Nat) (h : k < mm.length), v = k ∧ pAw mm[k].2.2 = true ∧ ∀ (j : Nat) (h : j < k) (h' : j < mm.length), pAw mm[j].2.2 = false
def EIx : REnt := fun al o q => ∃ l mm es, al = [.vw 0 mm.length, fnV2] ∧ o = vob l es mm.length ∧ RowOk l mm es ∧ ∀ v, IxR mm v → q (mkI .i64 v) (vob l es mm.length)
theorem cIx : RSound Tryd.prog 62 EIx := by
  refine ref_gen trimW trimW_ok (code_bsound (c := Tryd.b62) mixed KL_ok gMi) KL_ok Tryd.func62 rfl rfl Tryd.call62 fun al o q ⟨l, mm, es, h1, h2, hR, hq⟩ => ?_
  subst h1 h2
  refine cast (rIx l es mm.length (trimW q)).symm ?_
  refine ALoop.introM [] (maskOf (stIx l es mm.length 0)) (fun n : Nat => stIx l es mm.length n) (fun n => n ≤ mm.length ∧ ∀ (j : Nat) (h : j < n) (h' : j < mm.length), pAw mm[j].2.2 = false) (fun n => mm.length - n) ⟨[], 0, by simp [S.le, sealAll, leL, leA, leO, jks, stIx, mkI, mkS, mkB, S.fits, fitsL, AV.fits, Ob.fits, fob, vob], Nat.zero_le _, fun j h => absurd h (by omega)⟩ fun n ⟨hn, hI⟩ => ?_
  refine cast (rIx_b _ _ _ n l es mm.length n (trimW q)).symm ?_
  simp only [Int.toNat_natCast]
  refine bcase_dec (fun hlt => ?_) (fun hge => ?_)
  · have hlt : n < mm.length := by omega
    obtain ⟨e1, e2, e3⟩ := hR.get hlt
    have hl := hR.len
    rw [wrap_succ hlt (by unfold LIM; omega), e1]
    refine ⟨⟨by omega, by omega⟩, e2, Nat.zero_le _, mm[n].2.1, rfl, mm[n].2.2, e3, bcase_mk (fun h => ?_) (fun h => ?_)⟩
    · exact ⟨_, _, weak_packG [some 0, some 1, some 2] rfl, hq n (.inr ⟨n, hlt, rfl, h, fun j h h' => hI j h h'⟩)⟩
    · refine .mk [] (n + 1) ?_ ⟨hlt, fun j hj h' => ?_⟩ (show mm.length - (n + 1) < mm.length - n by omega)
      · simp [sealAll, S.le, leL, leA, leO, jks, stIx, mkI, mkS, mkB, S.fits, fitsL, AV.fits, Ob.fits, fob, vob]
      · by_cases e : j = n
        · subst e; exact h
        · exact hI j (by omega) h'
  · have : n = mm.length := by omega
    subst this
    refine ⟨_, _, weak_packG [some 0, some 1, some 2] rfl, hq (-1) (.inl ⟨rfl, fun e he => ?_⟩)⟩
    obtain ⟨j, hj, rfl⟩ := List.getElem_of_mem he
    exact hI j hj hj
abbrev Ent3 := Key × Nat × Rec
def lessE (y x : Ent3) : Bool := decide (orI (cmpI (y.2.2.i 5) (x.2.2.i 5)) (cmpI (y.2.2.i 0) (x.2.2.i 0)) < 0)
def minG (x : Ent3) : FLs → Ent3
  | [] => x
  | y :: m => minG (match lessE y x with | true => y | false => x) m
theorem minG_snoc (y : Ent3) : ∀ (m : FLs) (x : Ent3), minG x (m ++ [y]) = match lessE y (minG x m) with | true => y | false => minG x m
  | [], x => rfl
  | z :: m, x => by simp only [List.cons_append, minG]; exact minG_snoc y m _
theorem minG_mem : ∀ (m : FLs) (x : Ent3), minG x m ∈ x :: m
  | [], x => by simp [minG]
  | y :: m, x => by
    simp only [minG]
    have := minG_mem m (match lessE y x with | true => y | false => x)
    rcases List.mem_cons.1 this with h | h
    · rw [h]
      cases lessE y x <;> simp
    · exact List.mem_cons_of_mem _ (List.mem_cons_of_mem _ h)
def EMi : REnt := fun al o q => ∃ l x m es, al = [.vw 0 (m.length + 1), fnEa] ∧ o = vob l es (m.length + 1) ∧ RowOk l (x :: m) es ∧ ∀ k b r, minG x m = (k, b, r) → q (rawP b) (vob l es (m.length + 1))
theorem cMi : RSound Tryd.prog 45 EMi := by
  refine ref_gen trimW trimW_ok (code_bsound (c := Tryd.b45) mixed KL_ok gMi) KL_ok Tryd.func45 rfl rfl Tryd.call45 fun al o q ⟨l, x, m, es, h1, h2, hR, hq⟩ => ?_
  subst h1 h2
  have hlen := hR.len
  simp only [List.length_cons] at hlen
  obtain ⟨e1, e2, e3⟩ := hR.get (n := 0) (by simp)
  refine cast (rMi l es (m.length + 1) (trimW q)).symm (bcaseF (decide_eq_false (by omega)) ⟨⟨by omega, by omega⟩, by simpa using e2, Nat.zero_le _, x.2.1, ?_, ?_⟩)
  · rw [show Int.toNat 0 = 0 from rfl, e1]; rfl
  refine ALoop.introM [] (maskOf (stMi l es (m.length + 1) x.2.1 1)) (fun j : Nat => stMi l es (m.length + 1) (minG x (m.take j)).2.1 (j + 1 : Nat)) (fun j => j ≤ m.length) (fun j => m.length - j) ⟨[], 0, by simp [S.le, sealAll, leL, leA, leO, jks, stMi, minG, mkI, mkS, mkB, S.fits, fitsL, AV.fits, Ob.fits, fob, vob], Nat.zero_le _⟩ fun j hj => ?_
  refine cast (rMi_b _ _ _ j l es (m.length + 1) (minG x (m.take j)).2.1 (j + 1 : Nat) (trimW q)).symm ?_
  simp only [Int.toNat_natCast]
  refine bcase_dec (fun hlt => ?_) (fun hge => ?_)
  · have hlt : j < m.length := by omega
    obtain ⟨f1, f2, f3⟩ := hR.get (n := j + 1) (by simpa using hlt)
    simp only [List.getElem_cons_succ] at f1 f3
    have hmem : minG x (m.take j) ∈ l := hR.sub _ (by
      rcases List.mem_cons.1 (minG_mem (m.take j) x) with h | h
      · rw [h]; simp
      · exact List.mem_cons_of_mem _ (List.mem_of_mem_take h))
    have f4 := rec_mem hR.tab.nd hmem
    have hs : minG x (m.take (j + 1)) = match lessE m[j] (minG x (m.take j)) with | true => m[j] | false => minG x (m.take j) := by
      rw [List.take_succ_eq_append_getElem hlt, minG_snoc]
    rw [wrap_succ (n := j + 1) (m := m.length + 1) (by omega) (by unfold LIM; omega), f1]
    have fin : ∀ s : S, s.le (stMi l es (m.length + 1) (minG x (m.take (j + 1))).2.1 (j + 1 + 1 : Nat)) → FamNext (fun j : Nat => stMi l es (m.length + 1) (minG x (m.take j)).2.1 (j + 1 : Nat)) (fun j => j ≤ m.length) (fun j => m.length - j) j s := fun s hs => .mk [] (j + 1) (by simpa [sealAll] using hs) hlt (by show m.length - (j + 1) < m.length - j; omega)
    refine ⟨⟨by omega, by omega⟩, f2, Nat.zero_le _, m[j].2.1, rfl, m[j].2.2, f3, _, f4, m[j].2.2, f3, _, f4, trivial, trivial, trivial, bcase_mk (fun h => ⟨⟨by omega, by omega⟩, f2, Nat.zero_le _, m[j].2.1, rfl, fin _ ?_⟩) (fun h => fin _ ?_)⟩
    · have h : lessE m[j] (minG x (m.take j)) = true := h
      rw [hs, h]
      simp [S.le, leL, leA, leO, jks, stMi, mkI, mkS, mkB, S.fits, fitsL, AV.fits, Ob.fits, fob, vob]
    · have h : lessE m[j] (minG x (m.take j)) = false := h
      rw [hs, h]
      simp [S.le, leL, leA, leO, jks, stMi, mkI, mkS, mkB, S.fits, fitsL, AV.fits, Ob.fits, fob, vob]
  · have : j = m.length := by omega
    subst this
    rw [List.take_length]
    exact ⟨_, _, weak_packG [some 0, some 1, some 2] rfl, hq _ _ _ rfl⟩
end Go.Proofs.YtepkbbkfcnejmaaDoor
