import Derived.Test.YtepkbbkfcnejmaaDoorLeOps2
import Derived.Test.YtepkbbkfcnejmaaDoorLeKi
import Derived.Test.YtepkbbkfcnejmaaDoorLeLa
set_option linter.unusedSimpArgs false
set_option linter.unusedVariables false
set_option maxRecDepth 10000
namespace Go.Proofs.YtepkbbkfcnejmaaDoor
open Go Go.AM Go.RowKit
structure BoI (mo : Int) (l : FLs) (la : Int) : Prop where
  tab : Tab l la
  h0 : 0 ≤ la
  cnt : ∀ u, ((selE u l).length : Int) ≤ mo
theorem BoI.nil {mo : Int} (h : 0 ≤ mo) : BoI mo [] 0 := ⟨Tab.nil, Int.le_refl _, fun u => by simpa [selE] using h⟩
theorem BoI.sub {mo la : Int} {l l' : FLs} (h : BoI mo l la) (hs : List.Sublist l' l) : BoI mo l' la :=
  ⟨h.tab.sub hs, h.h0, fun u => by
    have h1 : (selE u l').length ≤ (selE u l).length := (hs.filter _).length_le
    have := h.cnt u
    omega⟩
theorem BoI.put {mo la : Int} {l : FLs} (h : BoI mo l la) {k : Key} {b : Nat} {r r' : Rec} (hm : (k, b, r) ∈ l) (h0 : r'.i 0 = r.i 0) (h1 : r'.s 1 = r.s 1) : BoI mo (putM b r' l) la := by
  refine ⟨h.tab.put hm h0, h.h0, fun u => ?_⟩
  obtain ⟨l1, l2, e1, e2, _⟩ := put_split (r' := r') h.tab.nd hm
  have hc := h.cnt u
  have hp : pVi u r' = pVi u r := by unfold pVi; rw [h1]
  have : (selE u (putM b r' l)).length = (selE u l).length := by
    rw [e2, e1]
    unfold selE
    simp only [List.filter_append, List.length_append, List.filter_cons, hp]
    split <;> simp
  rw [this]; exact hc
theorem sel_del {u : ByteArray} {l : FLs} {la : Int} (hT : Tab l la) {v : Ent3} (hv : v ∈ selE u l) : (selE u (delF (kI (v.2.2.i 0)) l)).length + 1 = (selE u l).length := by
  obtain ⟨hvl, hp⟩ := List.mem_filter.1 hv
  have hk : v.1 = kI (v.2.2.i 0) := by rw [hT.id v hvl]; exact (hT.key v hvl).1
  obtain ⟨k, b, r⟩ := v
  simp only at hk hp ⊢
  subst hk
  obtain ⟨l1, l2, e1, e2, _⟩ := del_split (hT.uni hvl) hvl
  rw [e2]
  have h1 : (selE u l).length = (selE u (l1 ++ (kI (r.i 0), b, r) :: l2)).length := by rw [← e1]
  rw [h1]
  unfold selE
  simp only [List.filter_append, List.length_append, List.filter_cons, hp, if_true, List.length_cons]
  omega
theorem BoI.start {mo la a g e la' c : Int} {l l' : FLs} {u d : ByteArray} (h : BoI mo l la) (hmo : 0 < mo) (hs : StR mo u d c l la a g e l' la') : BoI mo l' la' ∧ la ≤ la' ∧ la' ≤ la + 1 := by
  rcases hs with ⟨_, _, _, rfl, l1, b, r, hv, hb, ⟨r0, r1, _⟩, rfl⟩ | ⟨_, _, rfl, rfl⟩
  · refine ⟨⟨?_, by have := h.h0; omega, fun w => ?_⟩, by omega, by omega⟩
    · rcases hv with ⟨_, _, rfl⟩ | ⟨_, v, _, _, rfl⟩
      · exact h.tab.add h.h0 hb r0
      · exact (h.tab.del _).add h.h0 hb r0
    · have happ : (selE w (l1 ++ [(kI (la + 1), b, r)])).length = (selE w l1).length + if pVi w r = true then 1 else 0 := by
        unfold selE
        simp only [List.filter_append, List.length_append, List.filter_cons, List.filter_nil]
        split <;> simp
      rw [happ]
      have hw := h.cnt w
      rcases hv with ⟨hlt, _, rfl⟩ | ⟨_, v, hv, rfl, rfl⟩
      · by_cases hp : pVi w r = true
        · have : w = u := by unfold pVi at hp; rw [r1] at hp; exact (of_decide_eq_true hp).symm
          subst this
          rw [if_pos hp]; omega
        · rw [if_neg hp]; omega
      · by_cases hp : pVi w r = true
        · have : w = u := by unfold pVi at hp; rw [r1] at hp; exact (of_decide_eq_true hp).symm
          subst this
          rw [if_pos hp]
          have := sel_del h.tab (vict_mem hv)
          omega
        · rw [if_neg hp]
          have h1 : (selE w (delF (kI (v.2.2.i 0)) l)).length ≤ (selE w l).length := ((del_sub _ l).filter _).length_le
          omega
  · exact ⟨h, by omega, by omega⟩
theorem BoI.give {mo la id e : Int} {l l' : FLs} {tok : ByteArray} (h : BoI mo l la) (hs : GvR id tok l e l') : BoI mo l' la := by
  rcases hs with ⟨b, r, ⟨hm, _⟩, _, rfl⟩ | ⟨_, rfl, _⟩
  · exact h.put hm rfl rfl
  · exact h
theorem BoI.lose {mo la le id now e : Int} {z : Bool} {l l' : FLs} (h : BoI mo l la) (hs : LoR le id now l z e l') : BoI mo l' la := by
  rcases hs with ⟨b, r, ⟨hm, _⟩, _, ⟨_, _, rfl⟩ | ⟨_, _, rfl⟩⟩ | ⟨_, rfl, _⟩
  · exact h.sub (del_sub _ _)
  · exact h.put hm rfl rfl
  · exact h
theorem BoI.resume {mo la c now a z e : Int} {l l' : FLs} {tok : ByteArray} (h : BoI mo l la) (hs : RsR tok c now l a z e l') : BoI mo l' la ∧
    (e = 0 → (∀ b r, (kI a, b, r) ∈ l' → r.s 3 = tok ∧ r.i 4 = c ∧ r.i 5 = 0) ∧ ∃ b r, (kI a, b, r) ∈ l') := by
  rcases hs with ⟨_, k, b, r, hf, rfl, _, _, rfl⟩ | ⟨he, rfl⟩
  · obtain ⟨hm, hp⟩ := first_mem hf
    have hB := h.put (r' := (r.put 4 (mkI .i64 c)).put 5 (mkI .i64 0)) hm rfl rfl
    have hk : k = kI (r.i 0) := by
      have h1 := h.tab.id _ hm
      have h2 := (h.tab.key _ hm).1
      simp only at h1 h2
      rw [h1]; exact h2
    obtain ⟨l1, l2, _, e2, _⟩ := put_split (r' := (r.put 4 (mkI .i64 c)).put 5 (mkI .i64 0)) h.tab.nd hm
    have hin : (kI (r.i 0), b, (r.put 4 (mkI .i64 c)).put 5 (mkI .i64 0)) ∈ putM b ((r.put 4 (mkI .i64 c)).put 5 (mkI .i64 0)) l := by rw [e2, ← hk]; simp
    refine ⟨hB, fun _ => ⟨fun b2 r2 h2 => ?_, _, _, hin⟩⟩
    have := hB.tab.uni hin _ h2 rfl
    cases this
    unfold pWi at hp
    simp only [Bool.and_eq_true, decide_eq_true_eq] at hp
    exact ⟨hp.1, rfl, rfl⟩
  · exact ⟨h, fun h0 => absurd h0 he⟩
end Go.Proofs.YtepkbbkfcnejmaaDoor

namespace Go.Proofs.YtepkbbkfcnejmaaDoor
open Go Go.AM Go.RowKit
attribute [local irreducible] aUnr aUnS aCode
noncomputable abbrev GAa : List (FuncId × En) := [(13, .ref (frameE EGe))]
theorem gAa : GSound Tryd.prog GAa := gsound_ref (RSound.frame cGe) gsound_nil
noncomputable def rAa_k0 (q : AV → (List Ob) → Prop) : Kont := kBlk (0 : Nat) (kSeq (aCode KL GAa (cAt [1, 1, 1] Tryd.b19) (kRetF KL (Array.toList (Func.results Tryd.f19)) q)) (kRetF KL (Array.toList (Func.results Tryd.f19)) q))
theorem rAa (l : FLs) (la mo le n : Int) (q : AV → List Ob → Prop) :
  (aCode KL GAa Tryd.b19 (kRetF KL Tryd.f19.results.toList q) ⟨[.rf 0 0, mkI .i64 n] ++ List.replicate (Tryd.f19.ntmps - 2) .jk, obT l la mo le⟩) = (
  ALoop (aCode KL GAa (cAt [1, 1, 0, 1, 0, 0] Tryd.b19)) (rAa_k0 q) ⟨[AV.rf 0 0, mkI .i64 n, AV.jk, AV.jk, AV.nl, AV.nl, mkI .i64 1] ++ (jks 19), [Ob.box [AV.mp 1, mkI .i64 la, mkI .i64 mo, mkI .i64 le], Ob.bun (famR (FamD.mk (KK.int IntKind.i64) (Shp.box SK) l)), Ob.gh [AV.rf 0 0]]⟩) := by kernel_rfl
def stAa (l : FLs) (la mo le n : Int) (ot : List (List D)) (i : Int) : S := ⟨[.rf 0 0, mkI .i64 n, .jk, .jk, .nl, .vw 3 ot.length, mkI .i64 i] ++ jks 19, [tbo la mo le, fob l, .gh [.rf 0 0], .row 6 ot]⟩
theorem rAa_b {ι : Type} (st : ι → S) (inv : ι → Prop) (μ : ι → Nat) (kk : ι) (l : FLs) (la mo le n : Int) (ot : List (List D)) (i : Int) (q : AV → List Ob → Prop) :
  (aCode KL GAa (cAt [1, 1, 0, 1, 0, 0] Tryd.b19) (kFamM [] (maskOf (stAa l la mo le n ot i)) st inv μ kk (rAa_k0 q)) (stAa l la mo le n ot i)) = (
  bcase (decide (i ≤ n)) (
   ∃ (l_1 : FLs),
   ∃ (la_1 : Int),
   ∃ (mo_1 : Int),
   ∃ (le_1 : Int),
   ∃ (id : Int),
   ([AV.rf 0 0, mkI .i64 i] = [AV.rf 0 0, mkI .i64 id]) ∧
   ([Ob.box [AV.mp (0 + 1), mkI .i64 la, mkI .i64 mo, mkI .i64 le], Ob.bun (famR (FamD.mk (KK.int IntKind.i64) (Shp.box SK) l)), Ob.gh [AV.rf 0 0]] = [Ob.box [AV.mp 1, mkI .i64 la_1, mkI .i64 mo_1, mkI .i64 le_1], Ob.bun (famR (FamD.mk (KK.int IntKind.i64) (Shp.box SK) l_1)), Ob.gh [AV.rf 0 0]]) ∧
   (TbC l_1 la_1 mo_1) ∧
   (∀ (b : Nat), ∀ (r : Rec), ((Key.i IntKind.i64 id, (b, r)) ∈ l_1) → ((Option.some (Ob.gh [AV.rf 0 0])) = (Option.some (Ob.gh [AV.rf 0 0]))) ∧ ((∀ (c : List D), (c ∈ [[D.v (.int IntKind.i64 (r.i (0 : Nat))), D.v (.string (r.s (1 : Nat))), D.v (.string (r.s (2 : Nat))), D.v (.string (r.s (3 : Nat))), D.v (.int IntKind.i64 (r.i (4 : Nat))), D.v (.int IntKind.i64 (r.i (5 : Nat)))]]) → (List.length c) = 6) ∧ (((List.length ot) = (List.length ot)) ∧ ((((List.length ot) + 1) ≤ LIM) ∧ (FamNext st inv μ kk ⟨[AV.rf 0 0, mkI .i64 n, AV.jk, AV.jk, AV.nl, AV.vw 3 ((List.length ot) + 1), mkI .i64 (IntKind.wrap .i64 (i + (1 : Int)))] ++ (jks 19), [Ob.box [AV.mp (if 1 < 2 then 1 else 5 + (1 - 2)), mkI .i64 la_1, mkI .i64 mo_1, mkI .i64 le_1], Ob.bun (famR (FamD.mk (KK.int IntKind.i64) (Shp.box SK) l_1)), Ob.gh [AV.rf 0 0], Ob.row 6 (ot ++ [[D.v (.int IntKind.i64 (r.i (0 : Nat))), D.v (.string (r.s (1 : Nat))), D.v (.string (r.s (2 : Nat))), D.v (.string (r.s (3 : Nat))), D.v (.int IntKind.i64 (r.i (4 : Nat))), D.v (.int IntKind.i64 (r.i (5 : Nat)))]]), Ob.gone, Ob.gone, Ob.box [mkI .i64 (r.i (0 : Nat)), mkS (r.s (1 : Nat)), mkS (r.s (2 : Nat)), mkS (r.s (3 : Nat)), mkI .i64 (r.i (4 : Nat)), mkI .i64 (r.i (5 : Nat))], Ob.row 6 [[D.v (.int IntKind.i64 (r.i (0 : Nat))), D.v (.string (r.s (1 : Nat))), D.v (.string (r.s (2 : Nat))), D.v (.string (r.s (3 : Nat))), D.v (.int IntKind.i64 (r.i (4 : Nat))), D.v (.int IntKind.i64 (r.i (5 : Nat)))]]]⟩))))) ∧ (
    (∀ (e : Prod Key (Prod Nat Rec)), (e ∈ l_1) → ((Prod.fst e) = (Key.i IntKind.i64 id)) → False) →
    ((Option.some (Ob.gh [AV.rf 0 0])) = (Option.some (Ob.gh [AV.rf 0 0]))) ∧
    FamNext st inv μ kk ⟨[AV.rf 0 0, mkI .i64 n, AV.jk, AV.jk, AV.nl, AV.vw 3 (List.length ot), mkI .i64 (IntKind.wrap .i64 (i + (1 : Int)))] ++ (jks 19), [Ob.box [AV.mp (if 1 < 2 then 1 else 5 + (1 - 2)), mkI .i64 la_1, mkI .i64 mo_1, mkI .i64 le_1], Ob.bun (famR (FamD.mk (KK.int IntKind.i64) (Shp.box SK) l_1)), Ob.gh [AV.rf 0 0], Ob.row 6 ot, Ob.gone, Ob.gone, Ob.box [mkI .i64 0, mkS ⟨#[]⟩, mkS ⟨#[]⟩, mkS ⟨#[]⟩, mkI .i64 0, mkI .i64 0]]⟩)) (
   q (AV.vw 3 (List.length ot)) [Ob.box [AV.mp 1, mkI .i64 la, mkI .i64 mo, mkI .i64 le], Ob.bun (famR (FamD.mk (KK.int IntKind.i64) (Shp.box SK) l)), Ob.gh [AV.rf 0 0], Ob.row 6 ot])) := by kernel_rfl
def allD (l : FLs) : Nat → List (List D)
  | 0 => []
  | n + 1 => allD l n ++ (match blkF (kI ((n : Int) + 1)) l with
    | some b => (match recF b l with | some r => [recD r] | none => [])
    | none => [])
theorem allD_yes {l : FLs} {la : Int} (hT : Tab l la) {n : Nat} {b : Nat} {r : Rec} (h : (kI ((n : Int) + 1), b, r) ∈ l) : allD l (n + 1) = allD l n ++ [recD r] := by
  have h1 : recF b l = some r := rec_mem hT.nd h
  simp only [allD, hT.blk_of h, h1]
theorem allD_no {l : FLs} {n : Nat} (h : ∀ e ∈ l, e.1 ≠ kI ((n : Int) + 1)) : allD l (n + 1) = allD l n := by
  simp only [allD, blk_no h, List.append_nil]
theorem allD_len (l : FLs) : ∀ n, (allD l n).length ≤ n
  | 0 => Nat.le_refl _
  | n + 1 => by
    have := allD_len l n
    simp only [allD]
    split
    · split <;> simp <;> omega
    · simp; omega
def EAa : REnt := fun al o q => ∃ l la mo le, ∃ n : Nat, al = [.rf 0 0, mkI .i64 n] ∧ o = obT l la mo le ∧ TbC l la mo ∧ n ≤ 1000 ∧ ∀ ess, ess = allD l n → q (.vw 3 ess.length) [tbo la mo le, fob l, .gh [.rf 0 0], .row 6 ess]
theorem cAa : RSound Tryd.prog 19 EAa := by
  refine ref_gen trimW trimW_ok (code_bsound (c := Tryd.b19) mixed KL_ok gAa) KL_ok Tryd.func19 rfl rfl Tryd.call19 fun al o q ⟨l, la, mo, le, n, h1, h2, hC, hn, hq⟩ => ?_
  subst h1 h2
  refine cast (rAa l la mo le n (trimW q)).symm (ALoop.openT 5 6 (by omega) ?_)
  refine ALoop.introM [] (maskOf (stAa l la mo le n [] 1)) (fun j : Nat => stAa l la mo le n (allD l j) ((j : Int) + 1)) (fun j => j ≤ n) (fun j => n - j) ⟨[], 0, by simp [S.le, sealAll, leL, leA, leO, jks, stAa, S.openT, allD, mkI, mkS, mkB, S.fits, fitsL, AV.fits, Ob.fits, fob, tbo], Nat.zero_le _⟩ fun j hj => ?_
  refine cast (rAa_b _ _ _ j l la mo le n (allD l j) ((j : Int) + 1) (trimW q)).symm (bcase_dec (fun hlt => ?_) (fun hge => ?_))
  · have hlt : j < n := by omega
    have hl := allD_len l j
    have w1 : IntKind.wrap .i64 ((j : Int) + 1 + 1) = ((j + 1 : Nat) : Int) + 1 := by rw [IntWalk.i64_in _ (by omega)]; omega
    rw [w1]
    refine ⟨l, la, mo, le, (j : Int) + 1, rfl, rfl, hC, fun b r hm => ⟨rfl, fun c hc => by simp at hc; simp [hc], rfl, by unfold LIM; omega, .mk [] (j + 1) ?_ hlt (show n - (j + 1) < n - j by omega)⟩, fun hno => ⟨rfl, .mk [] (j + 1) ?_ hlt (show n - (j + 1) < n - j by omega)⟩⟩
    · have e := allD_yes hC.t hm
      show S.le _ (stAa l la mo le n (allD l (j + 1)) (((j + 1 : Nat) : Int) + 1))
      rw [e]
      generalize allD l j = ot
      simp [sealAll, S.le, leL, leA, leO, jks, stAa, mkI, mkS, mkB, S.fits, fitsL, AV.fits, Ob.fits, fob, tbo]
    · have e := allD_no hno
      show S.le _ (stAa l la mo le n (allD l (j + 1)) (((j + 1 : Nat) : Int) + 1))
      rw [e]
      generalize allD l j = ot
      simp [sealAll, S.le, leL, leA, leO, jks, stAa, mkI, mkS, mkB, S.fits, fitsL, AV.fits, Ob.fits, fob, tbo]
  · have : j = n := by have : j ≤ n := hj; omega
    subst this
    exact ⟨_, _, weak_packG [some 0, some 1, some 2, some 3] rfl, hq _ rfl⟩
end Go.Proofs.YtepkbbkfcnejmaaDoor

namespace Go.Proofs.YtepkbbkfcnejmaaDoor
open Go Go.AM Go.RowKit
attribute [local irreducible] aUnr aUnS aCode
noncomputable abbrev GSt : List (FuncId × En) := [(8, .det FLv), (20, .det FKi), (18, .det FEl), (9, .new ENw), (10, .ref (frameE ESr)), (11, .ref (frameE EGi)), (12, .ref (frameE ELo)), (15, .ref (frameE ERe)), (16, .ref (frameE ELa)), (21, .ref (frameE EEn)), (19, .ref (frameE EAa))]
theorem gSt : GSound Tryd.prog GSt := gsound_det cLv (gsound_det cKi (gsound_det cEl (gsound_new cNw (gsound_ref (RSound.frame cSr) (gsound_ref (RSound.frame cGi) (gsound_ref (RSound.frame cLo) (gsound_ref (RSound.frame cRe) (gsound_ref (RSound.frame cLa) (gsound_ref (RSound.frame cEn) (gsound_ref (RSound.frame cAa) gsound_nil))))))))))
noncomputable def rSt_k0 (q : AV → Prop) : Kont := kBlk (0 : Nat) (kSeq (aCode KL GSt (cAt [1, 1, 1, 1, 1, 1] Tryd.b5) (kRet KL (Array.toList (Func.results Tryd.f5)) q)) (kRet KL (Array.toList (Func.results Tryd.f5)) q))
theorem rSt (scr : List (List D)) (q : AV → Prop) :
  (aCode KL GSt Tryd.b5 (kRet KL Tryd.f5.results.toList q) ⟨[.d (.sl scr)] ++ List.replicate (Tryd.f5.ntmps - 1) .jk, []⟩) = (
  True ∧ (
   ∃ (a : Int),
   ∃ (b : Int),
   ([mkI .i64 3, mkI .i64 20] = [mkI .i64 a, mkI .i64 b]) ∧ (
    ∀ (M : Int),
    ∀ (L : Int),
    (M = (lim16 a)) →
    (L = (lim1000 b)) →
    True ∧
    ALoop (aCode KL GSt (cAt [1, 1, 1, 1, 1, 0, 1, 0, 0] Tryd.b5)) (rSt_k0 q) ⟨[AV.d (.sl (List.take (120 : Nat) scr)), AV.jk, mkB false, AV.rf (0 + 1) 0, mkI .i64 0, mkI .i64 0, AV.jk, AV.jk, AV.jk, AV.jk, AV.jk, mkB true, mkB false, AV.rf (0 + 1) 0, AV.d (.sl scr), AV.d (.sl (List.take (120 : Nat) scr))] ++ (jks 103), [Ob.bun (famR (FamD.mk (KK.int IntKind.i64) (Shp.box SK) [])), Ob.box [AV.mp (0 + 0), mkI .i64 0, mkI .i64 M, mkI .i64 L]]⟩))) := by kernel_rfl
def toSt (l : FLs) (la : Int) : List Ob := [fob l, .box [.mp 0, mkI .i64 la, mkI .i64 3, mkI .i64 20]]
def stSt (es : List (List D)) (now i : Int) (l : FLs) (la : Int) : S := ⟨[.d (.sl es), .jk, mkB false, .rf 1 0, mkI .i64 now, mkI .i64 i] ++ jks 113, toSt l la⟩
noncomputable def rSt_b_k0 {ι : Type} (st : ι → S) (inv : ι → Prop) (μ : ι → Nat) (kk : ι) (es : List (List D)) (now : Int) (i : Int) (l : FLs) (la : Int) (q : AV → Prop) : Kont := kBlk (3 : Nat) (kBlk (1 : Nat) (kSeq (aCode KL GSt (cAt [1, 1, 1, 1, 1, 0, 1, 0, 0, 1, 1] Tryd.b5) (kFamM [] (maskOf (stSt es now i l la)) st inv μ kk (rSt_k0 q))) (kFamM [] (maskOf (stSt es now i l la)) st inv μ kk (rSt_k0 q))))
theorem rSt_b {ι : Type} (st : ι → S) (inv : ι → Prop) (μ : ι → Nat) (kk : ι) (es : List (List D)) (now i : Int) (l : FLs) (la : Int) (q : AV → Prop) :
  (aCode KL GSt (cAt [1, 1, 1, 1, 1, 0, 1, 0, 0] Tryd.b5) (kFamM [] (maskOf (stSt es now i l la)) st inv μ kk (rSt_k0 q)) (stSt es now i l la)) = (
  ((List.length es) ≤ LIM) →
  bcase (decide (i < ((List.length es) : Int))) (
   (((0 : Int) ≤ i) ∧ (i < ((List.length es) : Int))) ∧
   ((List.length (List.getD es (Int.toNat i) [])) = 7) ∧
   (7 ≤ (List.length (List.getD es (Int.toNat i) []))) ∧
   (((List.getD (List.getD es (Int.toNat i) []) 0 d0) = (D.v (.int IntKind.i64 (intD (List.getD (List.getD es (Int.toNat i) []) 0 d0))))) ∧ (((List.getD (List.drop 1 (List.getD es (Int.toNat i) [])) 0 d0) = (D.v (.int IntKind.i64 (intD (List.getD (List.drop 1 (List.getD es (Int.toNat i) [])) 0 d0))))) ∧ (((List.getD (List.drop 1 (List.drop 1 (List.getD es (Int.toNat i) []))) 0 d0) = (D.v (.int IntKind.i64 (intD (List.getD (List.drop 1 (List.drop 1 (List.getD es (Int.toNat i) []))) 0 d0))))) ∧ (((List.getD (List.drop 1 (List.drop 1 (List.drop 1 (List.getD es (Int.toNat i) [])))) 0 d0) = (D.v (.int IntKind.i64 (intD (List.getD (List.drop 1 (List.drop 1 (List.drop 1 (List.getD es (Int.toNat i) [])))) 0 d0))))) ∧ (((List.getD (List.drop 1 (List.drop 1 (List.drop 1 (List.drop 1 (List.getD es (Int.toNat i) []))))) 0 d0) = (D.v (.string (strD (List.getD (List.drop 1 (List.drop 1 (List.drop 1 (List.drop 1 (List.getD es (Int.toNat i) []))))) 0 d0))))) ∧ (((List.getD (List.drop 1 (List.drop 1 (List.drop 1 (List.drop 1 (List.drop 1 (List.getD es (Int.toNat i) [])))))) 0 d0) = (D.v (.string (strD (List.getD (List.drop 1 (List.drop 1 (List.drop 1 (List.drop 1 (List.drop 1 (List.getD es (Int.toNat i) [])))))) 0 d0))))) ∧ (((List.getD (List.drop 1 (List.drop 1 (List.drop 1 (List.drop 1 (List.drop 1 (List.drop 1 (List.getD es (Int.toNat i) []))))))) 0 d0) = (D.v (.string (strD (List.getD (List.drop 1 (List.drop 1 (List.drop 1 (List.drop 1 (List.drop 1 (List.drop 1 (List.getD es (Int.toNat i) []))))))) 0 d0))))) ∧ True))))))) ∧
   (((10 : Int) = (0 : Int)) → False) ∧ (
    ∃ (l_1 : FLs),
    ∃ (la_1 : Int),
    ∃ (mo : Int),
    ∃ (le : Int),
    ∃ (n : Nat),
    ([AV.rf 0 0, mkI .i64 i] = [AV.rf 0 0, mkI .i64 (n : Int)]) ∧
    ([Ob.box [AV.mp (0 + 1), mkI .i64 la, mkI .i64 3, mkI .i64 20], Ob.bun (famR (FamD.mk (KK.int IntKind.i64) (Shp.box SK) l)), Ob.gh [AV.rf 0 0]] = [Ob.box [AV.mp 1, mkI .i64 la_1, mkI .i64 mo, mkI .i64 le], Ob.bun (famR (FamD.mk (KK.int IntKind.i64) (Shp.box SK) l_1)), Ob.gh [AV.rf 0 0]]) ∧
    (TbC l_1 la_1 mo) ∧
    (n ≤ (1000 : Nat)) ∧ (
     ∀ (ess : List (List D)),
     (ess = (allD l_1 n)) →
     ((Option.some (Ob.gh [AV.rf 0 0])) = (Option.some (Ob.gh [AV.rf 0 0]))) ∧
     True ∧
     bcase ((kindI (intD (List.getD (List.getD es (Int.toNat i) []) 0 d0))) == (0 : Int)) (
      ∃ (l_2 : FLs),
      ∃ (la_2 : Int),
      ∃ (mo_1 : Int),
      ∃ (le_1 : Int),
      ∃ (u : ByteArray),
      ∃ (d : ByteArray),
      ∃ (c : Int),
      ([AV.rf 0 0, mkS (strD (List.getD (List.drop 1 (List.drop 1 (List.drop 1 (List.drop 1 (List.getD es (Int.toNat i) []))))) 0 d0)), mkS (strD (List.getD (List.drop 1 (List.drop 1 (List.drop 1 (List.drop 1 (List.drop 1 (List.getD es (Int.toNat i) [])))))) 0 d0)), mkI .i64 (intD (List.getD (List.drop 1 (List.drop 1 (List.getD es (Int.toNat i) []))) 0 d0))] = [AV.rf 0 0, mkS u, mkS d, mkI .i64 c]) ∧
      ([Ob.box [AV.mp (0 + 1), mkI .i64 la_1, mkI .i64 mo, mkI .i64 le], Ob.bun (famR (FamD.mk (KK.int IntKind.i64) (Shp.box SK) l_1)), Ob.gh [AV.rf 0 0]] = [Ob.box [AV.mp 1, mkI .i64 la_2, mkI .i64 mo_1, mkI .i64 le_1], Ob.bun (famR (FamD.mk (KK.int IntKind.i64) (Shp.box SK) l_2)), Ob.gh [AV.rf 0 0]]) ∧
      (TbC l_2 la_2 mo_1) ∧ (
       ∀ (a : Int),
       ∀ (g : Int),
       ∀ (e : Int),
       ∀ (l' : FLs),
       ∀ (la' : Int),
       (((((userB u) = true) ∧ (((userB d) = true) ∧ (((0 : Int) ≤ c) ∧ ((firstE (pOn c) l_2) = Option.none)))) ∧ ((e = (0 : Int)) ∧ ((a = (la_2 + (1 : Int))) ∧ ((la' = (la_2 + (1 : Int))) ∧ (∃ (l1 : FLs), ∃ (b : Nat), ∃ (r : Rec), (((((List.length (selE u l_2)) : Int) < mo_1) ∧ ((g = (0 : Int)) ∧ (l1 = l_2))) ∨ ((mo_1 ≤ ((List.length (selE u l_2)) : Int)) ∧ (∃ (v : Ent3), ((victE u l_2) = (Option.some v)) ∧ ((g = ((Prod.snd (Prod.snd v)).i (0 : Nat))) ∧ (l1 = (delF (Key.i IntKind.i64 g) l_2)))))) ∧ ((∀ (e_1 : Prod Key (Prod Nat Rec)), (e_1 ∈ l1) → ((Prod.fst (Prod.snd e_1)) = b) → False) ∧ ((((r.i (0 : Nat)) = (la_2 + (1 : Int))) ∧ (((r.s (1 : Nat)) = u) ∧ (((r.s (2 : Nat)) = d) ∧ (((r.s (3 : Nat)) = ⟨#[]⟩) ∧ (((r.i (4 : Nat)) = c) ∧ ((r.i (5 : Nat)) = (0 : Int))))))) ∧ (l' = (l1 ++ [(Key.i IntKind.i64 (la_2 + (1 : Int)), (b, r))]))))))))) ∨ (((((userB u) = true) ∧ (((userB d) = true) ∧ (((0 : Int) ≤ c) ∧ ((firstE (pOn c) l_2) = Option.none)))) → False) ∧ (((e = (0 : Int)) → False) ∧ ((l' = l_2) ∧ (la' = la_2))))) →
       ((Option.some (Ob.gh [AV.rf 0 0])) = (Option.some (Ob.gh [AV.rf 0 0]))) ∧
       bcase (e == (0 : Int)) (
        FamNext st inv μ kk ⟨[AV.d (.sl es), AV.jk, mkB false, AV.rf 1 0, mkI .i64 (IntKind.wrap .i64 (now + (IntKind.wrap .i64 (Int.tmod (IntKind.wrap .u64 (intD (List.getD (List.drop 1 (List.drop 1 (List.drop 1 (List.getD es (Int.toNat i) [])))) 0 d0))) (10 : Int))))), mkI .i64 (IntKind.wrap .i64 (i + (1 : Int)))] ++ (jks 113), [Ob.bun (famR (FamD.mk (KK.int IntKind.i64) (Shp.box SK) l')), Ob.box [AV.mp (if 1 < 2 then 0 else 7 + (1 - 2)), mkI .i64 la', mkI .i64 mo_1, mkI .i64 le_1], Ob.box [mkI .i64 (intD (List.getD (List.getD es (Int.toNat i) []) 0 d0)), mkI .i64 (intD (List.getD (List.drop 1 (List.getD es (Int.toNat i) [])) 0 d0)), mkI .i64 (intD (List.getD (List.drop 1 (List.drop 1 (List.getD es (Int.toNat i) []))) 0 d0)), mkI .i64 (intD (List.getD (List.drop 1 (List.drop 1 (List.drop 1 (List.getD es (Int.toNat i) [])))) 0 d0)), mkS (strD (List.getD (List.drop 1 (List.drop 1 (List.drop 1 (List.drop 1 (List.getD es (Int.toNat i) []))))) 0 d0)), mkS (strD (List.getD (List.drop 1 (List.drop 1 (List.drop 1 (List.drop 1 (List.drop 1 (List.getD es (Int.toNat i) [])))))) 0 d0)), mkS (strD (List.getD (List.drop 1 (List.drop 1 (List.drop 1 (List.drop 1 (List.drop 1 (List.drop 1 (List.getD es (Int.toNat i) []))))))) 0 d0))], Ob.gone, Ob.gone, Ob.row 6 ess, Ob.gone, Ob.gone]⟩) (
        ∃ (l_3 : FLs),
        ∃ (la_3 : Int),
        ∃ (mo_2 : Int),
        ∃ (le_2 : Int),
        ∃ (n_1 : Nat),
        ([AV.rf 0 0, mkI .i64 i] = [AV.rf 0 0, mkI .i64 (n_1 : Int)]) ∧
        ([Ob.box [AV.mp (0 + 1), mkI .i64 la', mkI .i64 mo_1, mkI .i64 le_1], Ob.bun (famR (FamD.mk (KK.int IntKind.i64) (Shp.box SK) l')), Ob.gh [AV.rf 0 0]] = [Ob.box [AV.mp 1, mkI .i64 la_3, mkI .i64 mo_2, mkI .i64 le_2], Ob.bun (famR (FamD.mk (KK.int IntKind.i64) (Shp.box SK) l_3)), Ob.gh [AV.rf 0 0]]) ∧
        (TbC l_3 la_3 mo_2) ∧
        (n_1 ≤ (1000 : Nat)) ∧ (
         ∀ (ess_1 : List (List D)),
         (ess_1 = (allD l_3 n_1)) →
         ((Option.some (Ob.gh [AV.rf 0 0])) = (Option.some (Ob.gh [AV.rf 0 0]))) ∧
         bcase (((List.length ess_1) : Int) != ((List.length ess) : Int)) (
          q (mkB false)) (
          ALoop (aCode KL GSt (cAt [1, 1, 1, 1, 1, 0, 1, 0, 0, 1, 0, 0, 1, 1, 1, 1, 1, 1, 1, 1, 1, 0, 0] Tryd.b5)) (rSt_b_k0 st inv μ kk es now i l la q) ⟨[AV.d (.sl es), AV.jk, mkB false, AV.rf 1 0, mkI .i64 (IntKind.wrap .i64 (now + (IntKind.wrap .i64 (Int.tmod (IntKind.wrap .u64 (intD (List.getD (List.drop 1 (List.drop 1 (List.drop 1 (List.getD es (Int.toNat i) [])))) 0 d0))) (10 : Int))))), mkI .i64 i, AV.rf 2 0, AV.vw (if 3 < 2 then 0 else 4 + (3 - 2)) (List.length ess), mkI .i64 e, AV.vw (if 3 < 2 then 0 else 9 + (3 - 2)) (List.length ess_1), mkI .i64 0, AV.jk, AV.jk, AV.jk, AV.jk, AV.jk, mkI .i64 i, AV.d (.sl es), mkI .i64 ((List.length es) : Int), mkB true, AV.jk, AV.jk, AV.d (.sl es), mkI .i64 i, AV.ep (List.getD es (Int.toNat i) []), AV.ag [mkI .i64 (intD (List.getD (List.getD es (Int.toNat i) []) 0 d0)), mkI .i64 (intD (List.getD (List.drop 1 (List.getD es (Int.toNat i) [])) 0 d0)), mkI .i64 (intD (List.getD (List.drop 1 (List.drop 1 (List.getD es (Int.toNat i) []))) 0 d0)), mkI .i64 (intD (List.getD (List.drop 1 (List.drop 1 (List.drop 1 (List.getD es (Int.toNat i) [])))) 0 d0)), mkS (strD (List.getD (List.drop 1 (List.drop 1 (List.drop 1 (List.drop 1 (List.getD es (Int.toNat i) []))))) 0 d0)), mkS (strD (List.getD (List.drop 1 (List.drop 1 (List.drop 1 (List.drop 1 (List.drop 1 (List.getD es (Int.toNat i) [])))))) 0 d0)), mkS (strD (List.getD (List.drop 1 (List.drop 1 (List.drop 1 (List.drop 1 (List.drop 1 (List.drop 1 (List.getD es (Int.toNat i) []))))))) 0 d0))], mkI .i64 now, AV.rf 2 (0 + 3), mkI .i64 (intD (List.getD (List.drop 1 (List.drop 1 (List.drop 1 (List.getD es (Int.toNat i) [])))) 0 d0)), mkI .u64 (IntKind.wrap .u64 (intD (List.getD (List.drop 1 (List.drop 1 (List.drop 1 (List.getD es (Int.toNat i) [])))) 0 d0))), mkI .u64 (Int.tmod (IntKind.wrap .u64 (intD (List.getD (List.drop 1 (List.drop 1 (List.drop 1 (List.getD es (Int.toNat i) [])))) 0 d0))) (10 : Int)), mkI .i64 (IntKind.wrap .i64 (Int.tmod (IntKind.wrap .u64 (intD (List.getD (List.drop 1 (List.drop 1 (List.drop 1 (List.getD es (Int.toNat i) [])))) 0 d0))) (10 : Int))), mkI .i64 (IntKind.wrap .i64 (now + (IntKind.wrap .i64 (Int.tmod (IntKind.wrap .u64 (intD (List.getD (List.drop 1 (List.drop 1 (List.drop 1 (List.getD es (Int.toNat i) [])))) 0 d0))) (10 : Int))))), AV.rf 1 0, mkI .i64 i, AV.vw (if 3 < 2 then 0 else 4 + (3 - 2)) (List.length ess), AV.ag [mkI .i64 (intD (List.getD (List.getD es (Int.toNat i) []) 0 d0)), mkI .i64 (intD (List.getD (List.drop 1 (List.getD es (Int.toNat i) [])) 0 d0)), mkI .i64 (intD (List.getD (List.drop 1 (List.drop 1 (List.getD es (Int.toNat i) []))) 0 d0)), mkI .i64 (intD (List.getD (List.drop 1 (List.drop 1 (List.drop 1 (List.getD es (Int.toNat i) [])))) 0 d0)), mkS (strD (List.getD (List.drop 1 (List.drop 1 (List.drop 1 (List.drop 1 (List.getD es (Int.toNat i) []))))) 0 d0)), mkS (strD (List.getD (List.drop 1 (List.drop 1 (List.drop 1 (List.drop 1 (List.drop 1 (List.getD es (Int.toNat i) [])))))) 0 d0)), mkS (strD (List.getD (List.drop 1 (List.drop 1 (List.drop 1 (List.drop 1 (List.drop 1 (List.drop 1 (List.getD es (Int.toNat i) []))))))) 0 d0))], mkI .i64 (kindI (intD (List.getD (List.getD es (Int.toNat i) []) 0 d0))), mkB true, mkB ((kindI (intD (List.getD (List.getD es (Int.toNat i) []) 0 d0))) == (0 : Int)), AV.tp [mkI .i64 a, mkI .i64 g, mkI .i64 e], AV.rf 1 0, AV.rf 2 (0 + 4), mkS (strD (List.getD (List.drop 1 (List.drop 1 (List.drop 1 (List.drop 1 (List.getD es (Int.toNat i) []))))) 0 d0)), AV.rf 2 (0 + 5), mkS (strD (List.getD (List.drop 1 (List.drop 1 (List.drop 1 (List.drop 1 (List.drop 1 (List.getD es (Int.toNat i) [])))))) 0 d0)), AV.rf 2 (0 + 2), mkI .i64 (intD (List.getD (List.drop 1 (List.drop 1 (List.getD es (Int.toNat i) []))) 0 d0)), AV.tp [mkI .i64 a, mkI .i64 g, mkI .i64 e], mkI .i64 a, mkI .i64 g, mkI .i64 e] ++ (jks 42 ++ ([mkI .i64 e, mkB false, AV.rf 1 0, mkI .i64 i, AV.vw (if 3 < 2 then 0 else 9 + (3 - 2)) (List.length ess_1), AV.vw (if 3 < 2 then 0 else 9 + (3 - 2)) (List.length ess_1), mkI .i64 ((List.length ess_1) : Int), AV.vw (if 3 < 2 then 0 else 4 + (3 - 2)) (List.length ess), mkI .i64 ((List.length ess) : Int), mkB false] ++ (jks 15))), [Ob.bun (famR (FamD.mk (KK.int IntKind.i64) (Shp.box SK) l_3)), Ob.box [AV.mp (if 1 < 2 then 0 else 9 + (1 - 2)), mkI .i64 la_3, mkI .i64 mo_2, mkI .i64 le_2], Ob.box [mkI .i64 (intD (List.getD (List.getD es (Int.toNat i) []) 0 d0)), mkI .i64 (intD (List.getD (List.drop 1 (List.getD es (Int.toNat i) [])) 0 d0)), mkI .i64 (intD (List.getD (List.drop 1 (List.drop 1 (List.getD es (Int.toNat i) []))) 0 d0)), mkI .i64 (intD (List.getD (List.drop 1 (List.drop 1 (List.drop 1 (List.getD es (Int.toNat i) [])))) 0 d0)), mkS (strD (List.getD (List.drop 1 (List.drop 1 (List.drop 1 (List.drop 1 (List.getD es (Int.toNat i) []))))) 0 d0)), mkS (strD (List.getD (List.drop 1 (List.drop 1 (List.drop 1 (List.drop 1 (List.drop 1 (List.getD es (Int.toNat i) [])))))) 0 d0)), mkS (strD (List.getD (List.drop 1 (List.drop 1 (List.drop 1 (List.drop 1 (List.drop 1 (List.drop 1 (List.getD es (Int.toNat i) []))))))) 0 d0))], Ob.gone, Ob.gone, Ob.row 6 ess, Ob.gone, Ob.gone, Ob.gone, Ob.gone, Ob.row 6 ess_1]⟩))))) (
      bcase ((kindI (intD (List.getD (List.getD es (Int.toNat i) []) 0 d0))) == (1 : Int)) (
       ∃ (l_2 : FLs),
       ∃ (la_2 : Int),
       ∃ (mo_1 : Int),
       ∃ (le_1 : Int),
       ∃ (id : Int),
       ∃ (tok : ByteArray),
       ([AV.rf 0 0, mkI .i64 (intD (List.getD (List.drop 1 (List.getD es (Int.toNat i) [])) 0 d0)), mkS (strD (List.getD (List.drop 1 (List.drop 1 (List.drop 1 (List.drop 1 (List.drop 1 (List.drop 1 (List.getD es (Int.toNat i) []))))))) 0 d0))] = [AV.rf 0 0, mkI .i64 id, mkS tok]) ∧
       ([Ob.box [AV.mp (0 + 1), mkI .i64 la_1, mkI .i64 mo, mkI .i64 le], Ob.bun (famR (FamD.mk (KK.int IntKind.i64) (Shp.box SK) l_1)), Ob.gh [AV.rf 0 0]] = [Ob.box [AV.mp 1, mkI .i64 la_2, mkI .i64 mo_1, mkI .i64 le_1], Ob.bun (famR (FamD.mk (KK.int IntKind.i64) (Shp.box SK) l_2)), Ob.gh [AV.rf 0 0]]) ∧
       (TbC l_2 la_2 mo_1) ∧ (
        ∀ (e : Int),
        ∀ (l' : FLs),
        ((∃ (b : Nat), ∃ (r : Rec), (((Key.i IntKind.i64 id, (b, r)) ∈ l_2) ∧ (((r.s (3 : Nat)) = ⟨#[]⟩) ∧ ((((r.i (4 : Nat)) = (-(1 : Int))) → False) ∧ (((firstE (pWi tok) l_2) = Option.none) ∧ ((tok = ⟨#[]⟩) → False))))) ∧ ((e = (0 : Int)) ∧ (l' = (putM b (Rec.put r (3 : Nat) (mkS tok)) l_2)))) ∨ (((e = (0 : Int)) → False) ∧ ((l' = l_2) ∧ (∀ (b : Nat), ∀ (r : Rec), (((Key.i IntKind.i64 id, (b, r)) ∈ l_2) ∧ (((r.s (3 : Nat)) = ⟨#[]⟩) ∧ ((((r.i (4 : Nat)) = (-(1 : Int))) → False) ∧ (((firstE (pWi tok) l_2) = Option.none) ∧ ((tok = ⟨#[]⟩) → False))))) → False)))) →
        ((Option.some (Ob.gh [AV.rf 0 0])) = (Option.some (Ob.gh [AV.rf 0 0]))) ∧
        bcase (e == (0 : Int)) (
         FamNext st inv μ kk ⟨[AV.d (.sl es), AV.jk, mkB false, AV.rf 1 0, mkI .i64 (IntKind.wrap .i64 (now + (IntKind.wrap .i64 (Int.tmod (IntKind.wrap .u64 (intD (List.getD (List.drop 1 (List.drop 1 (List.drop 1 (List.getD es (Int.toNat i) [])))) 0 d0))) (10 : Int))))), mkI .i64 (IntKind.wrap .i64 (i + (1 : Int)))] ++ (jks 113), [Ob.bun (famR (FamD.mk (KK.int IntKind.i64) (Shp.box SK) l')), Ob.box [AV.mp (if 1 < 2 then 0 else 7 + (1 - 2)), mkI .i64 la_2, mkI .i64 mo_1, mkI .i64 le_1], Ob.box [mkI .i64 (intD (List.getD (List.getD es (Int.toNat i) []) 0 d0)), mkI .i64 (intD (List.getD (List.drop 1 (List.getD es (Int.toNat i) [])) 0 d0)), mkI .i64 (intD (List.getD (List.drop 1 (List.drop 1 (List.getD es (Int.toNat i) []))) 0 d0)), mkI .i64 (intD (List.getD (List.drop 1 (List.drop 1 (List.drop 1 (List.getD es (Int.toNat i) [])))) 0 d0)), mkS (strD (List.getD (List.drop 1 (List.drop 1 (List.drop 1 (List.drop 1 (List.getD es (Int.toNat i) []))))) 0 d0)), mkS (strD (List.getD (List.drop 1 (List.drop 1 (List.drop 1 (List.drop 1 (List.drop 1 (List.getD es (Int.toNat i) [])))))) 0 d0)), mkS (strD (List.getD (List.drop 1 (List.drop 1 (List.drop 1 (List.drop 1 (List.drop 1 (List.drop 1 (List.getD es (Int.toNat i) []))))))) 0 d0))], Ob.gone, Ob.gone, Ob.row 6 ess, Ob.gone, Ob.gone]⟩) (
         ∃ (l_3 : FLs),
         ∃ (la_3 : Int),
         ∃ (mo_2 : Int),
         ∃ (le_2 : Int),
         ∃ (n_1 : Nat),
         ([AV.rf 0 0, mkI .i64 i] = [AV.rf 0 0, mkI .i64 (n_1 : Int)]) ∧
         ([Ob.box [AV.mp (0 + 1), mkI .i64 la_2, mkI .i64 mo_1, mkI .i64 le_1], Ob.bun (famR (FamD.mk (KK.int IntKind.i64) (Shp.box SK) l')), Ob.gh [AV.rf 0 0]] = [Ob.box [AV.mp 1, mkI .i64 la_3, mkI .i64 mo_2, mkI .i64 le_2], Ob.bun (famR (FamD.mk (KK.int IntKind.i64) (Shp.box SK) l_3)), Ob.gh [AV.rf 0 0]]) ∧
         (TbC l_3 la_3 mo_2) ∧
         (n_1 ≤ (1000 : Nat)) ∧ (
          ∀ (ess_1 : List (List D)),
          (ess_1 = (allD l_3 n_1)) →
          ((Option.some (Ob.gh [AV.rf 0 0])) = (Option.some (Ob.gh [AV.rf 0 0]))) ∧
          bcase (((List.length ess_1) : Int) != ((List.length ess) : Int)) (
           q (mkB false)) (
           ALoop (aCode KL GSt (cAt [1, 1, 1, 1, 1, 0, 1, 0, 0, 1, 0, 0, 1, 1, 1, 1, 1, 1, 1, 1, 1, 0, 0] Tryd.b5)) (rSt_b_k0 st inv μ kk es now i l la q) ⟨[AV.d (.sl es), AV.jk, mkB false, AV.rf 1 0, mkI .i64 (IntKind.wrap .i64 (now + (IntKind.wrap .i64 (Int.tmod (IntKind.wrap .u64 (intD (List.getD (List.drop 1 (List.drop 1 (List.drop 1 (List.getD es (Int.toNat i) [])))) 0 d0))) (10 : Int))))), mkI .i64 i, AV.rf 2 0, AV.vw (if 3 < 2 then 0 else 4 + (3 - 2)) (List.length ess), mkI .i64 e, AV.vw (if 3 < 2 then 0 else 9 + (3 - 2)) (List.length ess_1), mkI .i64 0, AV.jk, AV.jk, AV.jk, AV.jk, AV.jk, mkI .i64 i, AV.d (.sl es), mkI .i64 ((List.length es) : Int), mkB true, AV.jk, AV.jk, AV.d (.sl es), mkI .i64 i, AV.ep (List.getD es (Int.toNat i) []), AV.ag [mkI .i64 (intD (List.getD (List.getD es (Int.toNat i) []) 0 d0)), mkI .i64 (intD (List.getD (List.drop 1 (List.getD es (Int.toNat i) [])) 0 d0)), mkI .i64 (intD (List.getD (List.drop 1 (List.drop 1 (List.getD es (Int.toNat i) []))) 0 d0)), mkI .i64 (intD (List.getD (List.drop 1 (List.drop 1 (List.drop 1 (List.getD es (Int.toNat i) [])))) 0 d0)), mkS (strD (List.getD (List.drop 1 (List.drop 1 (List.drop 1 (List.drop 1 (List.getD es (Int.toNat i) []))))) 0 d0)), mkS (strD (List.getD (List.drop 1 (List.drop 1 (List.drop 1 (List.drop 1 (List.drop 1 (List.getD es (Int.toNat i) [])))))) 0 d0)), mkS (strD (List.getD (List.drop 1 (List.drop 1 (List.drop 1 (List.drop 1 (List.drop 1 (List.drop 1 (List.getD es (Int.toNat i) []))))))) 0 d0))], mkI .i64 now, AV.rf 2 (0 + 3), mkI .i64 (intD (List.getD (List.drop 1 (List.drop 1 (List.drop 1 (List.getD es (Int.toNat i) [])))) 0 d0)), mkI .u64 (IntKind.wrap .u64 (intD (List.getD (List.drop 1 (List.drop 1 (List.drop 1 (List.getD es (Int.toNat i) [])))) 0 d0))), mkI .u64 (Int.tmod (IntKind.wrap .u64 (intD (List.getD (List.drop 1 (List.drop 1 (List.drop 1 (List.getD es (Int.toNat i) [])))) 0 d0))) (10 : Int)), mkI .i64 (IntKind.wrap .i64 (Int.tmod (IntKind.wrap .u64 (intD (List.getD (List.drop 1 (List.drop 1 (List.drop 1 (List.getD es (Int.toNat i) [])))) 0 d0))) (10 : Int))), mkI .i64 (IntKind.wrap .i64 (now + (IntKind.wrap .i64 (Int.tmod (IntKind.wrap .u64 (intD (List.getD (List.drop 1 (List.drop 1 (List.drop 1 (List.getD es (Int.toNat i) [])))) 0 d0))) (10 : Int))))), AV.rf 1 0, mkI .i64 i, AV.vw (if 3 < 2 then 0 else 4 + (3 - 2)) (List.length ess), AV.ag [mkI .i64 (intD (List.getD (List.getD es (Int.toNat i) []) 0 d0)), mkI .i64 (intD (List.getD (List.drop 1 (List.getD es (Int.toNat i) [])) 0 d0)), mkI .i64 (intD (List.getD (List.drop 1 (List.drop 1 (List.getD es (Int.toNat i) []))) 0 d0)), mkI .i64 (intD (List.getD (List.drop 1 (List.drop 1 (List.drop 1 (List.getD es (Int.toNat i) [])))) 0 d0)), mkS (strD (List.getD (List.drop 1 (List.drop 1 (List.drop 1 (List.drop 1 (List.getD es (Int.toNat i) []))))) 0 d0)), mkS (strD (List.getD (List.drop 1 (List.drop 1 (List.drop 1 (List.drop 1 (List.drop 1 (List.getD es (Int.toNat i) [])))))) 0 d0)), mkS (strD (List.getD (List.drop 1 (List.drop 1 (List.drop 1 (List.drop 1 (List.drop 1 (List.drop 1 (List.getD es (Int.toNat i) []))))))) 0 d0))], mkI .i64 (kindI (intD (List.getD (List.getD es (Int.toNat i) []) 0 d0))), mkB false, mkB ((kindI (intD (List.getD (List.getD es (Int.toNat i) []) 0 d0))) == (0 : Int))] ++ (jks 12 ++ ([mkB true, mkB ((kindI (intD (List.getD (List.getD es (Int.toNat i) []) 0 d0))) == (1 : Int)), AV.rf 1 0, AV.rf 2 (0 + 1), mkI .i64 (intD (List.getD (List.drop 1 (List.getD es (Int.toNat i) [])) 0 d0)), AV.rf 2 (0 + 6), mkS (strD (List.getD (List.drop 1 (List.drop 1 (List.drop 1 (List.drop 1 (List.drop 1 (List.drop 1 (List.getD es (Int.toNat i) []))))))) 0 d0)), mkI .i64 e] ++ (jks 34 ++ ([mkI .i64 e, mkB false, AV.rf 1 0, mkI .i64 i, AV.vw (if 3 < 2 then 0 else 9 + (3 - 2)) (List.length ess_1), AV.vw (if 3 < 2 then 0 else 9 + (3 - 2)) (List.length ess_1), mkI .i64 ((List.length ess_1) : Int), AV.vw (if 3 < 2 then 0 else 4 + (3 - 2)) (List.length ess), mkI .i64 ((List.length ess) : Int), mkB false] ++ (jks 15))))), [Ob.bun (famR (FamD.mk (KK.int IntKind.i64) (Shp.box SK) l_3)), Ob.box [AV.mp (if 1 < 2 then 0 else 9 + (1 - 2)), mkI .i64 la_3, mkI .i64 mo_2, mkI .i64 le_2], Ob.box [mkI .i64 (intD (List.getD (List.getD es (Int.toNat i) []) 0 d0)), mkI .i64 (intD (List.getD (List.drop 1 (List.getD es (Int.toNat i) [])) 0 d0)), mkI .i64 (intD (List.getD (List.drop 1 (List.drop 1 (List.getD es (Int.toNat i) []))) 0 d0)), mkI .i64 (intD (List.getD (List.drop 1 (List.drop 1 (List.drop 1 (List.getD es (Int.toNat i) [])))) 0 d0)), mkS (strD (List.getD (List.drop 1 (List.drop 1 (List.drop 1 (List.drop 1 (List.getD es (Int.toNat i) []))))) 0 d0)), mkS (strD (List.getD (List.drop 1 (List.drop 1 (List.drop 1 (List.drop 1 (List.drop 1 (List.getD es (Int.toNat i) [])))))) 0 d0)), mkS (strD (List.getD (List.drop 1 (List.drop 1 (List.drop 1 (List.drop 1 (List.drop 1 (List.drop 1 (List.getD es (Int.toNat i) []))))))) 0 d0))], Ob.gone, Ob.gone, Ob.row 6 ess, Ob.gone, Ob.gone, Ob.gone, Ob.gone, Ob.row 6 ess_1]⟩))))) (
       bcase ((kindI (intD (List.getD (List.getD es (Int.toNat i) []) 0 d0))) == (2 : Int)) (
        ∃ (l_2 : FLs),
        ∃ (la_2 : Int),
        ∃ (mo_1 : Int),
        ∃ (le_1 : Int),
        ∃ (id : Int),
        ∃ (now_1 : Int),
        ([AV.rf 0 0, mkI .i64 (intD (List.getD (List.drop 1 (List.getD es (Int.toNat i) [])) 0 d0)), mkI .i64 (IntKind.wrap .i64 (now + (IntKind.wrap .i64 (Int.tmod (IntKind.wrap .u64 (intD (List.getD (List.drop 1 (List.drop 1 (List.drop 1 (List.getD es (Int.toNat i) [])))) 0 d0))) (10 : Int)))))] = [AV.rf 0 0, mkI .i64 id, mkI .i64 now_1]) ∧
        ([Ob.box [AV.mp (0 + 1), mkI .i64 la_1, mkI .i64 mo, mkI .i64 le], Ob.bun (famR (FamD.mk (KK.int IntKind.i64) (Shp.box SK) l_1)), Ob.gh [AV.rf 0 0]] = [Ob.box [AV.mp 1, mkI .i64 la_2, mkI .i64 mo_1, mkI .i64 le_1], Ob.bun (famR (FamD.mk (KK.int IntKind.i64) (Shp.box SK) l_2)), Ob.gh [AV.rf 0 0]]) ∧
        (TbC l_2 la_2 mo_1) ∧
        (((0 : Int) ≤ le_1) ∧ (le_1 ≤ (1000 : Int))) ∧ (
         ∀ (z : Bool),
         ∀ (e : Int),
         ∀ (l' : FLs),
         ((∃ (b : Nat), ∃ (r : Rec), (((Key.i IntKind.i64 id, (b, r)) ∈ l_2) ∧ ((((r.i (4 : Nat)) = (-(1 : Int))) → False) ∧ (((0 : Int) ≤ now_1) ∧ (now_1 ≤ (1099511627776 : Int))))) ∧ ((e = (0 : Int)) ∧ ((((r.s (3 : Nat)) = ⟨#[]⟩) ∧ ((z = false) ∧ (l' = (delF (Key.i IntKind.i64 id) l_2)))) ∨ ((((r.s (3 : Nat)) = ⟨#[]⟩) → False) ∧ ((z = true) ∧ (l' = (putM b (Rec.put (Rec.put r (4 : Nat) (mkI .i64 (-(1 : Int)))) (5 : Nat) (mkI .i64 (now_1 + le_1))) l_2))))))) ∨ (((e = (0 : Int)) → False) ∧ ((l' = l_2) ∧ (∀ (b : Nat), ∀ (r : Rec), (((Key.i IntKind.i64 id, (b, r)) ∈ l_2) ∧ ((((r.i (4 : Nat)) = (-(1 : Int))) → False) ∧ (((0 : Int) ≤ now_1) ∧ (now_1 ≤ (1099511627776 : Int))))) → False)))) →
         ((Option.some (Ob.gh [AV.rf 0 0])) = (Option.some (Ob.gh [AV.rf 0 0]))) ∧
         bcase (e == (0 : Int)) (
          FamNext st inv μ kk ⟨[AV.d (.sl es), AV.jk, mkB false, AV.rf 1 0, mkI .i64 (IntKind.wrap .i64 (now + (IntKind.wrap .i64 (Int.tmod (IntKind.wrap .u64 (intD (List.getD (List.drop 1 (List.drop 1 (List.drop 1 (List.getD es (Int.toNat i) [])))) 0 d0))) (10 : Int))))), mkI .i64 (IntKind.wrap .i64 (i + (1 : Int)))] ++ (jks 113), [Ob.bun (famR (FamD.mk (KK.int IntKind.i64) (Shp.box SK) l')), Ob.box [AV.mp (if 1 < 2 then 0 else 7 + (1 - 2)), mkI .i64 la_2, mkI .i64 mo_1, mkI .i64 le_1], Ob.box [mkI .i64 (intD (List.getD (List.getD es (Int.toNat i) []) 0 d0)), mkI .i64 (intD (List.getD (List.drop 1 (List.getD es (Int.toNat i) [])) 0 d0)), mkI .i64 (intD (List.getD (List.drop 1 (List.drop 1 (List.getD es (Int.toNat i) []))) 0 d0)), mkI .i64 (intD (List.getD (List.drop 1 (List.drop 1 (List.drop 1 (List.getD es (Int.toNat i) [])))) 0 d0)), mkS (strD (List.getD (List.drop 1 (List.drop 1 (List.drop 1 (List.drop 1 (List.getD es (Int.toNat i) []))))) 0 d0)), mkS (strD (List.getD (List.drop 1 (List.drop 1 (List.drop 1 (List.drop 1 (List.drop 1 (List.getD es (Int.toNat i) [])))))) 0 d0)), mkS (strD (List.getD (List.drop 1 (List.drop 1 (List.drop 1 (List.drop 1 (List.drop 1 (List.drop 1 (List.getD es (Int.toNat i) []))))))) 0 d0))], Ob.gone, Ob.gone, Ob.row 6 ess, Ob.gone, Ob.gone]⟩) (
          ∃ (l_3 : FLs),
          ∃ (la_3 : Int),
          ∃ (mo_2 : Int),
          ∃ (le_2 : Int),
          ∃ (n_1 : Nat),
          ([AV.rf 0 0, mkI .i64 i] = [AV.rf 0 0, mkI .i64 (n_1 : Int)]) ∧
          ([Ob.box [AV.mp (0 + 1), mkI .i64 la_2, mkI .i64 mo_1, mkI .i64 le_1], Ob.bun (famR (FamD.mk (KK.int IntKind.i64) (Shp.box SK) l')), Ob.gh [AV.rf 0 0]] = [Ob.box [AV.mp 1, mkI .i64 la_3, mkI .i64 mo_2, mkI .i64 le_2], Ob.bun (famR (FamD.mk (KK.int IntKind.i64) (Shp.box SK) l_3)), Ob.gh [AV.rf 0 0]]) ∧
          (TbC l_3 la_3 mo_2) ∧
          (n_1 ≤ (1000 : Nat)) ∧ (
           ∀ (ess_1 : List (List D)),
           (ess_1 = (allD l_3 n_1)) →
           ((Option.some (Ob.gh [AV.rf 0 0])) = (Option.some (Ob.gh [AV.rf 0 0]))) ∧
           bcase (((List.length ess_1) : Int) != ((List.length ess) : Int)) (
            q (mkB false)) (
            ALoop (aCode KL GSt (cAt [1, 1, 1, 1, 1, 0, 1, 0, 0, 1, 0, 0, 1, 1, 1, 1, 1, 1, 1, 1, 1, 0, 0] Tryd.b5)) (rSt_b_k0 st inv μ kk es now i l la q) ⟨[AV.d (.sl es), AV.jk, mkB false, AV.rf 1 0, mkI .i64 (IntKind.wrap .i64 (now + (IntKind.wrap .i64 (Int.tmod (IntKind.wrap .u64 (intD (List.getD (List.drop 1 (List.drop 1 (List.drop 1 (List.getD es (Int.toNat i) [])))) 0 d0))) (10 : Int))))), mkI .i64 i, AV.rf 2 0, AV.vw (if 3 < 2 then 0 else 4 + (3 - 2)) (List.length ess), mkI .i64 e, AV.vw (if 3 < 2 then 0 else 9 + (3 - 2)) (List.length ess_1), mkI .i64 0, AV.jk, AV.jk, AV.jk, AV.jk, AV.jk, mkI .i64 i, AV.d (.sl es), mkI .i64 ((List.length es) : Int), mkB true, AV.jk, AV.jk, AV.d (.sl es), mkI .i64 i, AV.ep (List.getD es (Int.toNat i) []), AV.ag [mkI .i64 (intD (List.getD (List.getD es (Int.toNat i) []) 0 d0)), mkI .i64 (intD (List.getD (List.drop 1 (List.getD es (Int.toNat i) [])) 0 d0)), mkI .i64 (intD (List.getD (List.drop 1 (List.drop 1 (List.getD es (Int.toNat i) []))) 0 d0)), mkI .i64 (intD (List.getD (List.drop 1 (List.drop 1 (List.drop 1 (List.getD es (Int.toNat i) [])))) 0 d0)), mkS (strD (List.getD (List.drop 1 (List.drop 1 (List.drop 1 (List.drop 1 (List.getD es (Int.toNat i) []))))) 0 d0)), mkS (strD (List.getD (List.drop 1 (List.drop 1 (List.drop 1 (List.drop 1 (List.drop 1 (List.getD es (Int.toNat i) [])))))) 0 d0)), mkS (strD (List.getD (List.drop 1 (List.drop 1 (List.drop 1 (List.drop 1 (List.drop 1 (List.drop 1 (List.getD es (Int.toNat i) []))))))) 0 d0))], mkI .i64 now, AV.rf 2 (0 + 3), mkI .i64 (intD (List.getD (List.drop 1 (List.drop 1 (List.drop 1 (List.getD es (Int.toNat i) [])))) 0 d0)), mkI .u64 (IntKind.wrap .u64 (intD (List.getD (List.drop 1 (List.drop 1 (List.drop 1 (List.getD es (Int.toNat i) [])))) 0 d0))), mkI .u64 (Int.tmod (IntKind.wrap .u64 (intD (List.getD (List.drop 1 (List.drop 1 (List.drop 1 (List.getD es (Int.toNat i) [])))) 0 d0))) (10 : Int)), mkI .i64 (IntKind.wrap .i64 (Int.tmod (IntKind.wrap .u64 (intD (List.getD (List.drop 1 (List.drop 1 (List.drop 1 (List.getD es (Int.toNat i) [])))) 0 d0))) (10 : Int))), mkI .i64 (IntKind.wrap .i64 (now + (IntKind.wrap .i64 (Int.tmod (IntKind.wrap .u64 (intD (List.getD (List.drop 1 (List.drop 1 (List.drop 1 (List.getD es (Int.toNat i) [])))) 0 d0))) (10 : Int))))), AV.rf 1 0, mkI .i64 i, AV.vw (if 3 < 2 then 0 else 4 + (3 - 2)) (List.length ess), AV.ag [mkI .i64 (intD (List.getD (List.getD es (Int.toNat i) []) 0 d0)), mkI .i64 (intD (List.getD (List.drop 1 (List.getD es (Int.toNat i) [])) 0 d0)), mkI .i64 (intD (List.getD (List.drop 1 (List.drop 1 (List.getD es (Int.toNat i) []))) 0 d0)), mkI .i64 (intD (List.getD (List.drop 1 (List.drop 1 (List.drop 1 (List.getD es (Int.toNat i) [])))) 0 d0)), mkS (strD (List.getD (List.drop 1 (List.drop 1 (List.drop 1 (List.drop 1 (List.getD es (Int.toNat i) []))))) 0 d0)), mkS (strD (List.getD (List.drop 1 (List.drop 1 (List.drop 1 (List.drop 1 (List.drop 1 (List.getD es (Int.toNat i) [])))))) 0 d0)), mkS (strD (List.getD (List.drop 1 (List.drop 1 (List.drop 1 (List.drop 1 (List.drop 1 (List.drop 1 (List.getD es (Int.toNat i) []))))))) 0 d0))], mkI .i64 (kindI (intD (List.getD (List.getD es (Int.toNat i) []) 0 d0))), mkB false, mkB ((kindI (intD (List.getD (List.getD es (Int.toNat i) []) 0 d0))) == (0 : Int))] ++ (jks 12 ++ ([mkB false, mkB ((kindI (intD (List.getD (List.getD es (Int.toNat i) []) 0 d0))) == (1 : Int)), AV.jk, AV.jk, AV.jk, AV.jk, AV.jk, AV.jk, mkB true, mkB ((kindI (intD (List.getD (List.getD es (Int.toNat i) []) 0 d0))) == (2 : Int)), AV.tp [mkB z, mkI .i64 e], AV.rf 1 0, AV.rf 2 (0 + 1), mkI .i64 (intD (List.getD (List.drop 1 (List.getD es (Int.toNat i) [])) 0 d0)), mkI .i64 (IntKind.wrap .i64 (now + (IntKind.wrap .i64 (Int.tmod (IntKind.wrap .u64 (intD (List.getD (List.drop 1 (List.drop 1 (List.drop 1 (List.getD es (Int.toNat i) [])))) 0 d0))) (10 : Int))))), AV.tp [mkB z, mkI .i64 e], mkB z, mkI .i64 e] ++ (jks 24 ++ ([mkI .i64 e, mkB false, AV.rf 1 0, mkI .i64 i, AV.vw (if 3 < 2 then 0 else 9 + (3 - 2)) (List.length ess_1), AV.vw (if 3 < 2 then 0 else 9 + (3 - 2)) (List.length ess_1), mkI .i64 ((List.length ess_1) : Int), AV.vw (if 3 < 2 then 0 else 4 + (3 - 2)) (List.length ess), mkI .i64 ((List.length ess) : Int), mkB false] ++ (jks 15))))), [Ob.bun (famR (FamD.mk (KK.int IntKind.i64) (Shp.box SK) l_3)), Ob.box [AV.mp (if 1 < 2 then 0 else 9 + (1 - 2)), mkI .i64 la_3, mkI .i64 mo_2, mkI .i64 le_2], Ob.box [mkI .i64 (intD (List.getD (List.getD es (Int.toNat i) []) 0 d0)), mkI .i64 (intD (List.getD (List.drop 1 (List.getD es (Int.toNat i) [])) 0 d0)), mkI .i64 (intD (List.getD (List.drop 1 (List.drop 1 (List.getD es (Int.toNat i) []))) 0 d0)), mkI .i64 (intD (List.getD (List.drop 1 (List.drop 1 (List.drop 1 (List.getD es (Int.toNat i) [])))) 0 d0)), mkS (strD (List.getD (List.drop 1 (List.drop 1 (List.drop 1 (List.drop 1 (List.getD es (Int.toNat i) []))))) 0 d0)), mkS (strD (List.getD (List.drop 1 (List.drop 1 (List.drop 1 (List.drop 1 (List.drop 1 (List.getD es (Int.toNat i) [])))))) 0 d0)), mkS (strD (List.getD (List.drop 1 (List.drop 1 (List.drop 1 (List.drop 1 (List.drop 1 (List.drop 1 (List.getD es (Int.toNat i) []))))))) 0 d0))], Ob.gone, Ob.gone, Ob.row 6 ess, Ob.gone, Ob.gone, Ob.gone, Ob.gone, Ob.row 6 ess_1]⟩))))) (
        bcase ((kindI (intD (List.getD (List.getD es (Int.toNat i) []) 0 d0))) == (3 : Int)) (
         ∃ (l_2 : FLs),
         ∃ (la_2 : Int),
         ∃ (mo_1 : Int),
         ∃ (le_1 : Int),
         ∃ (tok : ByteArray),
         ∃ (c : Int),
         ∃ (now_1 : Int),
         ([AV.rf 0 0, mkS (strD (List.getD (List.drop 1 (List.drop 1 (List.drop 1 (List.drop 1 (List.drop 1 (List.drop 1 (List.getD es (Int.toNat i) []))))))) 0 d0)), mkI .i64 (intD (List.getD (List.drop 1 (List.drop 1 (List.getD es (Int.toNat i) []))) 0 d0)), mkI .i64 (IntKind.wrap .i64 (now + (IntKind.wrap .i64 (Int.tmod (IntKind.wrap .u64 (intD (List.getD (List.drop 1 (List.drop 1 (List.drop 1 (List.getD es (Int.toNat i) [])))) 0 d0))) (10 : Int)))))] = [AV.rf 0 0, mkS tok, mkI .i64 c, mkI .i64 now_1]) ∧
         ([Ob.box [AV.mp (0 + 1), mkI .i64 la_1, mkI .i64 mo, mkI .i64 le], Ob.bun (famR (FamD.mk (KK.int IntKind.i64) (Shp.box SK) l_1)), Ob.gh [AV.rf 0 0]] = [Ob.box [AV.mp 1, mkI .i64 la_2, mkI .i64 mo_1, mkI .i64 le_1], Ob.bun (famR (FamD.mk (KK.int IntKind.i64) (Shp.box SK) l_2)), Ob.gh [AV.rf 0 0]]) ∧
         (TbC l_2 la_2 mo_1) ∧ (
          ∀ (a : Int),
          ∀ (z : Int),
          ∀ (e : Int),
          ∀ (l' : FLs),
          (((e = (0 : Int)) ∧ (∃ (k : Key), ∃ (b : Nat), ∃ (r : Rec), ((firstE (pWi tok) l_2) = (Option.some (k, (b, r)))) ∧ ((a = (r.i (0 : Nat))) ∧ ((z = (r.i (4 : Nat))) ∧ (((firstE (pOn c) l_2) = Option.none) ∧ (l' = (putM b (Rec.put (Rec.put r (4 : Nat) (mkI .i64 c)) (5 : Nat) (mkI .i64 0)) l_2))))))) ∨ (((e = (0 : Int)) → False) ∧ (l' = l_2))) →
          ((Option.some (Ob.gh [AV.rf 0 0])) = (Option.some (Ob.gh [AV.rf 0 0]))) ∧
          bcase (e == (0 : Int)) (
           FamNext st inv μ kk ⟨[AV.d (.sl es), AV.jk, mkB false, AV.rf 1 0, mkI .i64 (IntKind.wrap .i64 (now + (IntKind.wrap .i64 (Int.tmod (IntKind.wrap .u64 (intD (List.getD (List.drop 1 (List.drop 1 (List.drop 1 (List.getD es (Int.toNat i) [])))) 0 d0))) (10 : Int))))), mkI .i64 (IntKind.wrap .i64 (i + (1 : Int)))] ++ (jks 113), [Ob.bun (famR (FamD.mk (KK.int IntKind.i64) (Shp.box SK) l')), Ob.box [AV.mp (if 1 < 2 then 0 else 7 + (1 - 2)), mkI .i64 la_2, mkI .i64 mo_1, mkI .i64 le_1], Ob.box [mkI .i64 (intD (List.getD (List.getD es (Int.toNat i) []) 0 d0)), mkI .i64 (intD (List.getD (List.drop 1 (List.getD es (Int.toNat i) [])) 0 d0)), mkI .i64 (intD (List.getD (List.drop 1 (List.drop 1 (List.getD es (Int.toNat i) []))) 0 d0)), mkI .i64 (intD (List.getD (List.drop 1 (List.drop 1 (List.drop 1 (List.getD es (Int.toNat i) [])))) 0 d0)), mkS (strD (List.getD (List.drop 1 (List.drop 1 (List.drop 1 (List.drop 1 (List.getD es (Int.toNat i) []))))) 0 d0)), mkS (strD (List.getD (List.drop 1 (List.drop 1 (List.drop 1 (List.drop 1 (List.drop 1 (List.getD es (Int.toNat i) [])))))) 0 d0)), mkS (strD (List.getD (List.drop 1 (List.drop 1 (List.drop 1 (List.drop 1 (List.drop 1 (List.drop 1 (List.getD es (Int.toNat i) []))))))) 0 d0))], Ob.gone, Ob.gone, Ob.row 6 ess, Ob.gone, Ob.gone]⟩) (
           ∃ (l_3 : FLs),
           ∃ (la_3 : Int),
           ∃ (mo_2 : Int),
           ∃ (le_2 : Int),
           ∃ (n_1 : Nat),
           ([AV.rf 0 0, mkI .i64 i] = [AV.rf 0 0, mkI .i64 (n_1 : Int)]) ∧
           ([Ob.box [AV.mp (0 + 1), mkI .i64 la_2, mkI .i64 mo_1, mkI .i64 le_1], Ob.bun (famR (FamD.mk (KK.int IntKind.i64) (Shp.box SK) l')), Ob.gh [AV.rf 0 0]] = [Ob.box [AV.mp 1, mkI .i64 la_3, mkI .i64 mo_2, mkI .i64 le_2], Ob.bun (famR (FamD.mk (KK.int IntKind.i64) (Shp.box SK) l_3)), Ob.gh [AV.rf 0 0]]) ∧
           (TbC l_3 la_3 mo_2) ∧
           (n_1 ≤ (1000 : Nat)) ∧ (
            ∀ (ess_1 : List (List D)),
            (ess_1 = (allD l_3 n_1)) →
            ((Option.some (Ob.gh [AV.rf 0 0])) = (Option.some (Ob.gh [AV.rf 0 0]))) ∧
            bcase (((List.length ess_1) : Int) != ((List.length ess) : Int)) (
             q (mkB false)) (
             ALoop (aCode KL GSt (cAt [1, 1, 1, 1, 1, 0, 1, 0, 0, 1, 0, 0, 1, 1, 1, 1, 1, 1, 1, 1, 1, 0, 0] Tryd.b5)) (rSt_b_k0 st inv μ kk es now i l la q) ⟨[AV.d (.sl es), AV.jk, mkB false, AV.rf 1 0, mkI .i64 (IntKind.wrap .i64 (now + (IntKind.wrap .i64 (Int.tmod (IntKind.wrap .u64 (intD (List.getD (List.drop 1 (List.drop 1 (List.drop 1 (List.getD es (Int.toNat i) [])))) 0 d0))) (10 : Int))))), mkI .i64 i, AV.rf 2 0, AV.vw (if 3 < 2 then 0 else 4 + (3 - 2)) (List.length ess), mkI .i64 e, AV.vw (if 3 < 2 then 0 else 9 + (3 - 2)) (List.length ess_1), mkI .i64 0, AV.jk, AV.jk, AV.jk, AV.jk, AV.jk, mkI .i64 i, AV.d (.sl es), mkI .i64 ((List.length es) : Int), mkB true, AV.jk, AV.jk, AV.d (.sl es), mkI .i64 i, AV.ep (List.getD es (Int.toNat i) []), AV.ag [mkI .i64 (intD (List.getD (List.getD es (Int.toNat i) []) 0 d0)), mkI .i64 (intD (List.getD (List.drop 1 (List.getD es (Int.toNat i) [])) 0 d0)), mkI .i64 (intD (List.getD (List.drop 1 (List.drop 1 (List.getD es (Int.toNat i) []))) 0 d0)), mkI .i64 (intD (List.getD (List.drop 1 (List.drop 1 (List.drop 1 (List.getD es (Int.toNat i) [])))) 0 d0)), mkS (strD (List.getD (List.drop 1 (List.drop 1 (List.drop 1 (List.drop 1 (List.getD es (Int.toNat i) []))))) 0 d0)), mkS (strD (List.getD (List.drop 1 (List.drop 1 (List.drop 1 (List.drop 1 (List.drop 1 (List.getD es (Int.toNat i) [])))))) 0 d0)), mkS (strD (List.getD (List.drop 1 (List.drop 1 (List.drop 1 (List.drop 1 (List.drop 1 (List.drop 1 (List.getD es (Int.toNat i) []))))))) 0 d0))], mkI .i64 now, AV.rf 2 (0 + 3), mkI .i64 (intD (List.getD (List.drop 1 (List.drop 1 (List.drop 1 (List.getD es (Int.toNat i) [])))) 0 d0)), mkI .u64 (IntKind.wrap .u64 (intD (List.getD (List.drop 1 (List.drop 1 (List.drop 1 (List.getD es (Int.toNat i) [])))) 0 d0))), mkI .u64 (Int.tmod (IntKind.wrap .u64 (intD (List.getD (List.drop 1 (List.drop 1 (List.drop 1 (List.getD es (Int.toNat i) [])))) 0 d0))) (10 : Int)), mkI .i64 (IntKind.wrap .i64 (Int.tmod (IntKind.wrap .u64 (intD (List.getD (List.drop 1 (List.drop 1 (List.drop 1 (List.getD es (Int.toNat i) [])))) 0 d0))) (10 : Int))), mkI .i64 (IntKind.wrap .i64 (now + (IntKind.wrap .i64 (Int.tmod (IntKind.wrap .u64 (intD (List.getD (List.drop 1 (List.drop 1 (List.drop 1 (List.getD es (Int.toNat i) [])))) 0 d0))) (10 : Int))))), AV.rf 1 0, mkI .i64 i, AV.vw (if 3 < 2 then 0 else 4 + (3 - 2)) (List.length ess), AV.ag [mkI .i64 (intD (List.getD (List.getD es (Int.toNat i) []) 0 d0)), mkI .i64 (intD (List.getD (List.drop 1 (List.getD es (Int.toNat i) [])) 0 d0)), mkI .i64 (intD (List.getD (List.drop 1 (List.drop 1 (List.getD es (Int.toNat i) []))) 0 d0)), mkI .i64 (intD (List.getD (List.drop 1 (List.drop 1 (List.drop 1 (List.getD es (Int.toNat i) [])))) 0 d0)), mkS (strD (List.getD (List.drop 1 (List.drop 1 (List.drop 1 (List.drop 1 (List.getD es (Int.toNat i) []))))) 0 d0)), mkS (strD (List.getD (List.drop 1 (List.drop 1 (List.drop 1 (List.drop 1 (List.drop 1 (List.getD es (Int.toNat i) [])))))) 0 d0)), mkS (strD (List.getD (List.drop 1 (List.drop 1 (List.drop 1 (List.drop 1 (List.drop 1 (List.drop 1 (List.getD es (Int.toNat i) []))))))) 0 d0))], mkI .i64 (kindI (intD (List.getD (List.getD es (Int.toNat i) []) 0 d0))), mkB false, mkB ((kindI (intD (List.getD (List.getD es (Int.toNat i) []) 0 d0))) == (0 : Int))] ++ (jks 12 ++ ([mkB false, mkB ((kindI (intD (List.getD (List.getD es (Int.toNat i) []) 0 d0))) == (1 : Int)), AV.jk, AV.jk, AV.jk, AV.jk, AV.jk, AV.jk, mkB false, mkB ((kindI (intD (List.getD (List.getD es (Int.toNat i) []) 0 d0))) == (2 : Int))] ++ (jks 8 ++ ([mkB true, mkB ((kindI (intD (List.getD (List.getD es (Int.toNat i) []) 0 d0))) == (3 : Int)), AV.tp [mkI .i64 a, mkI .i64 z, mkI .i64 e], AV.rf 1 0, AV.rf 2 (0 + 6), mkS (strD (List.getD (List.drop 1 (List.drop 1 (List.drop 1 (List.drop 1 (List.drop 1 (List.drop 1 (List.getD es (Int.toNat i) []))))))) 0 d0)), AV.rf 2 (0 + 2), mkI .i64 (intD (List.getD (List.drop 1 (List.drop 1 (List.getD es (Int.toNat i) []))) 0 d0)), mkI .i64 (IntKind.wrap .i64 (now + (IntKind.wrap .i64 (Int.tmod (IntKind.wrap .u64 (intD (List.getD (List.drop 1 (List.drop 1 (List.drop 1 (List.getD es (Int.toNat i) [])))) 0 d0))) (10 : Int))))), AV.tp [mkI .i64 a, mkI .i64 z, mkI .i64 e], mkI .i64 a, mkI .i64 z, mkI .i64 e] ++ (jks 11 ++ ([mkI .i64 e, mkB false, AV.rf 1 0, mkI .i64 i, AV.vw (if 3 < 2 then 0 else 9 + (3 - 2)) (List.length ess_1), AV.vw (if 3 < 2 then 0 else 9 + (3 - 2)) (List.length ess_1), mkI .i64 ((List.length ess_1) : Int), AV.vw (if 3 < 2 then 0 else 4 + (3 - 2)) (List.length ess), mkI .i64 ((List.length ess) : Int), mkB false] ++ (jks 15))))))), [Ob.bun (famR (FamD.mk (KK.int IntKind.i64) (Shp.box SK) l_3)), Ob.box [AV.mp (if 1 < 2 then 0 else 9 + (1 - 2)), mkI .i64 la_3, mkI .i64 mo_2, mkI .i64 le_2], Ob.box [mkI .i64 (intD (List.getD (List.getD es (Int.toNat i) []) 0 d0)), mkI .i64 (intD (List.getD (List.drop 1 (List.getD es (Int.toNat i) [])) 0 d0)), mkI .i64 (intD (List.getD (List.drop 1 (List.drop 1 (List.getD es (Int.toNat i) []))) 0 d0)), mkI .i64 (intD (List.getD (List.drop 1 (List.drop 1 (List.drop 1 (List.getD es (Int.toNat i) [])))) 0 d0)), mkS (strD (List.getD (List.drop 1 (List.drop 1 (List.drop 1 (List.drop 1 (List.getD es (Int.toNat i) []))))) 0 d0)), mkS (strD (List.getD (List.drop 1 (List.drop 1 (List.drop 1 (List.drop 1 (List.drop 1 (List.getD es (Int.toNat i) [])))))) 0 d0)), mkS (strD (List.getD (List.drop 1 (List.drop 1 (List.drop 1 (List.drop 1 (List.drop 1 (List.drop 1 (List.getD es (Int.toNat i) []))))))) 0 d0))], Ob.gone, Ob.gone, Ob.row 6 ess, Ob.gone, Ob.gone, Ob.gone, Ob.gone, Ob.row 6 ess_1]⟩))))) (
         bcase ((kindI (intD (List.getD (List.getD es (Int.toNat i) []) 0 d0))) == (4 : Int)) (
          ∃ (l_2 : FLs),
          ∃ (la_2 : Int),
          ∃ (mo_1 : Int),
          ∃ (le_1 : Int),
          ∃ (now_1 : Int),
          ([AV.rf 0 0, mkI .i64 (IntKind.wrap .i64 (now + (IntKind.wrap .i64 (Int.tmod (IntKind.wrap .u64 (intD (List.getD (List.drop 1 (List.drop 1 (List.drop 1 (List.getD es (Int.toNat i) [])))) 0 d0))) (10 : Int)))))] = [AV.rf 0 0, mkI .i64 now_1]) ∧
          ([Ob.box [AV.mp (0 + 1), mkI .i64 la_1, mkI .i64 mo, mkI .i64 le], Ob.bun (famR (FamD.mk (KK.int IntKind.i64) (Shp.box SK) l_1)), Ob.gh [AV.rf 0 0]] = [Ob.box [AV.mp 1, mkI .i64 la_2, mkI .i64 mo_1, mkI .i64 le_1], Ob.bun (famR (FamD.mk (KK.int IntKind.i64) (Shp.box SK) l_2)), Ob.gh [AV.rf 0 0]]) ∧
          (TbC l_2 la_2 mo_1) ∧ (
           ∀ (l' : List (Prod Key (Prod Nat Rec))),
           ∀ (ot : List (List D)),
           (List.Sublist l' l_2) →
           ((Option.some (Ob.gh [AV.rf 0 0])) = (Option.some (Ob.gh [AV.rf 0 0]))) ∧
           FamNext st inv μ kk ⟨[AV.d (.sl es), AV.jk, mkB false, AV.rf 1 0, mkI .i64 (IntKind.wrap .i64 (now + (IntKind.wrap .i64 (Int.tmod (IntKind.wrap .u64 (intD (List.getD (List.drop 1 (List.drop 1 (List.drop 1 (List.getD es (Int.toNat i) [])))) 0 d0))) (10 : Int))))), mkI .i64 (IntKind.wrap .i64 (i + (1 : Int)))] ++ (jks 113), [Ob.bun (famR (FamD.mk (KK.int IntKind.i64) (Shp.box SK) l')), Ob.box [AV.mp (if 1 < 2 then 0 else 7 + (1 - 2)), mkI .i64 la_2, mkI .i64 mo_1, mkI .i64 le_1], Ob.box [mkI .i64 (intD (List.getD (List.getD es (Int.toNat i) []) 0 d0)), mkI .i64 (intD (List.getD (List.drop 1 (List.getD es (Int.toNat i) [])) 0 d0)), mkI .i64 (intD (List.getD (List.drop 1 (List.drop 1 (List.getD es (Int.toNat i) []))) 0 d0)), mkI .i64 (intD (List.getD (List.drop 1 (List.drop 1 (List.drop 1 (List.getD es (Int.toNat i) [])))) 0 d0)), mkS (strD (List.getD (List.drop 1 (List.drop 1 (List.drop 1 (List.drop 1 (List.getD es (Int.toNat i) []))))) 0 d0)), mkS (strD (List.getD (List.drop 1 (List.drop 1 (List.drop 1 (List.drop 1 (List.drop 1 (List.getD es (Int.toNat i) [])))))) 0 d0)), mkS (strD (List.getD (List.drop 1 (List.drop 1 (List.drop 1 (List.drop 1 (List.drop 1 (List.drop 1 (List.getD es (Int.toNat i) []))))))) 0 d0))], Ob.gone, Ob.gone, Ob.row 6 ess, Ob.gone, Ob.gone, Ob.row 6 ot]⟩)) (
          bcase ((kindI (intD (List.getD (List.getD es (Int.toNat i) []) 0 d0))) == (5 : Int)) (
           ∃ (l_2 : FLs),
           ∃ (la_2 : Int),
           ∃ (mo_1 : Int),
           ∃ (le_1 : Int),
           ∃ (id : Int),
           ([AV.rf 0 0, mkI .i64 (intD (List.getD (List.drop 1 (List.getD es (Int.toNat i) [])) 0 d0))] = [AV.rf 0 0, mkI .i64 id]) ∧
           ([Ob.box [AV.mp (0 + 1), mkI .i64 la_1, mkI .i64 mo, mkI .i64 le], Ob.bun (famR (FamD.mk (KK.int IntKind.i64) (Shp.box SK) l_1)), Ob.gh [AV.rf 0 0]] = [Ob.box [AV.mp 1, mkI .i64 la_2, mkI .i64 mo_1, mkI .i64 le_1], Ob.bun (famR (FamD.mk (KK.int IntKind.i64) (Shp.box SK) l_2)), Ob.gh [AV.rf 0 0]]) ∧
           (TbC l_2 la_2 mo_1) ∧ (
            ∀ (e : Int),
            ∀ (l' : FLs),
            (((e = (0 : Int)) ∧ (l' = (delF (Key.i IntKind.i64 id) l_2))) ∨ (((e = (0 : Int)) → False) ∧ (l' = l_2))) →
            ((Option.some (Ob.gh [AV.rf 0 0])) = (Option.some (Ob.gh [AV.rf 0 0]))) ∧
            bcase (e == (0 : Int)) (
             FamNext st inv μ kk ⟨[AV.d (.sl es), AV.jk, mkB false, AV.rf 1 0, mkI .i64 (IntKind.wrap .i64 (now + (IntKind.wrap .i64 (Int.tmod (IntKind.wrap .u64 (intD (List.getD (List.drop 1 (List.drop 1 (List.drop 1 (List.getD es (Int.toNat i) [])))) 0 d0))) (10 : Int))))), mkI .i64 (IntKind.wrap .i64 (i + (1 : Int)))] ++ (jks 113), [Ob.bun (famR (FamD.mk (KK.int IntKind.i64) (Shp.box SK) l')), Ob.box [AV.mp (if 1 < 2 then 0 else 7 + (1 - 2)), mkI .i64 la_2, mkI .i64 mo_1, mkI .i64 le_1], Ob.box [mkI .i64 (intD (List.getD (List.getD es (Int.toNat i) []) 0 d0)), mkI .i64 (intD (List.getD (List.drop 1 (List.getD es (Int.toNat i) [])) 0 d0)), mkI .i64 (intD (List.getD (List.drop 1 (List.drop 1 (List.getD es (Int.toNat i) []))) 0 d0)), mkI .i64 (intD (List.getD (List.drop 1 (List.drop 1 (List.drop 1 (List.getD es (Int.toNat i) [])))) 0 d0)), mkS (strD (List.getD (List.drop 1 (List.drop 1 (List.drop 1 (List.drop 1 (List.getD es (Int.toNat i) []))))) 0 d0)), mkS (strD (List.getD (List.drop 1 (List.drop 1 (List.drop 1 (List.drop 1 (List.drop 1 (List.getD es (Int.toNat i) [])))))) 0 d0)), mkS (strD (List.getD (List.drop 1 (List.drop 1 (List.drop 1 (List.drop 1 (List.drop 1 (List.drop 1 (List.getD es (Int.toNat i) []))))))) 0 d0))], Ob.gone, Ob.gone, Ob.row 6 ess, Ob.gone, Ob.gone]⟩) (
             ∃ (l_3 : FLs),
             ∃ (la_3 : Int),
             ∃ (mo_2 : Int),
             ∃ (le_2 : Int),
             ∃ (n_1 : Nat),
             ([AV.rf 0 0, mkI .i64 i] = [AV.rf 0 0, mkI .i64 (n_1 : Int)]) ∧
             ([Ob.box [AV.mp (0 + 1), mkI .i64 la_2, mkI .i64 mo_1, mkI .i64 le_1], Ob.bun (famR (FamD.mk (KK.int IntKind.i64) (Shp.box SK) l')), Ob.gh [AV.rf 0 0]] = [Ob.box [AV.mp 1, mkI .i64 la_3, mkI .i64 mo_2, mkI .i64 le_2], Ob.bun (famR (FamD.mk (KK.int IntKind.i64) (Shp.box SK) l_3)), Ob.gh [AV.rf 0 0]]) ∧
             (TbC l_3 la_3 mo_2) ∧
             (n_1 ≤ (1000 : Nat)) ∧ (
              ∀ (ess_1 : List (List D)),
              (ess_1 = (allD l_3 n_1)) →
              ((Option.some (Ob.gh [AV.rf 0 0])) = (Option.some (Ob.gh [AV.rf 0 0]))) ∧
              bcase (((List.length ess_1) : Int) != ((List.length ess) : Int)) (
               q (mkB false)) (
               ALoop (aCode KL GSt (cAt [1, 1, 1, 1, 1, 0, 1, 0, 0, 1, 0, 0, 1, 1, 1, 1, 1, 1, 1, 1, 1, 0, 0] Tryd.b5)) (rSt_b_k0 st inv μ kk es now i l la q) ⟨[AV.d (.sl es), AV.jk, mkB false, AV.rf 1 0, mkI .i64 (IntKind.wrap .i64 (now + (IntKind.wrap .i64 (Int.tmod (IntKind.wrap .u64 (intD (List.getD (List.drop 1 (List.drop 1 (List.drop 1 (List.getD es (Int.toNat i) [])))) 0 d0))) (10 : Int))))), mkI .i64 i, AV.rf 2 0, AV.vw (if 3 < 2 then 0 else 4 + (3 - 2)) (List.length ess), mkI .i64 e, AV.vw (if 3 < 2 then 0 else 9 + (3 - 2)) (List.length ess_1), mkI .i64 0, AV.jk, AV.jk, AV.jk, AV.jk, AV.jk, mkI .i64 i, AV.d (.sl es), mkI .i64 ((List.length es) : Int), mkB true, AV.jk, AV.jk, AV.d (.sl es), mkI .i64 i, AV.ep (List.getD es (Int.toNat i) []), AV.ag [mkI .i64 (intD (List.getD (List.getD es (Int.toNat i) []) 0 d0)), mkI .i64 (intD (List.getD (List.drop 1 (List.getD es (Int.toNat i) [])) 0 d0)), mkI .i64 (intD (List.getD (List.drop 1 (List.drop 1 (List.getD es (Int.toNat i) []))) 0 d0)), mkI .i64 (intD (List.getD (List.drop 1 (List.drop 1 (List.drop 1 (List.getD es (Int.toNat i) [])))) 0 d0)), mkS (strD (List.getD (List.drop 1 (List.drop 1 (List.drop 1 (List.drop 1 (List.getD es (Int.toNat i) []))))) 0 d0)), mkS (strD (List.getD (List.drop 1 (List.drop 1 (List.drop 1 (List.drop 1 (List.drop 1 (List.getD es (Int.toNat i) [])))))) 0 d0)), mkS (strD (List.getD (List.drop 1 (List.drop 1 (List.drop 1 (List.drop 1 (List.drop 1 (List.drop 1 (List.getD es (Int.toNat i) []))))))) 0 d0))], mkI .i64 now, AV.rf 2 (0 + 3), mkI .i64 (intD (List.getD (List.drop 1 (List.drop 1 (List.drop 1 (List.getD es (Int.toNat i) [])))) 0 d0)), mkI .u64 (IntKind.wrap .u64 (intD (List.getD (List.drop 1 (List.drop 1 (List.drop 1 (List.getD es (Int.toNat i) [])))) 0 d0))), mkI .u64 (Int.tmod (IntKind.wrap .u64 (intD (List.getD (List.drop 1 (List.drop 1 (List.drop 1 (List.getD es (Int.toNat i) [])))) 0 d0))) (10 : Int)), mkI .i64 (IntKind.wrap .i64 (Int.tmod (IntKind.wrap .u64 (intD (List.getD (List.drop 1 (List.drop 1 (List.drop 1 (List.getD es (Int.toNat i) [])))) 0 d0))) (10 : Int))), mkI .i64 (IntKind.wrap .i64 (now + (IntKind.wrap .i64 (Int.tmod (IntKind.wrap .u64 (intD (List.getD (List.drop 1 (List.drop 1 (List.drop 1 (List.getD es (Int.toNat i) [])))) 0 d0))) (10 : Int))))), AV.rf 1 0, mkI .i64 i, AV.vw (if 3 < 2 then 0 else 4 + (3 - 2)) (List.length ess), AV.ag [mkI .i64 (intD (List.getD (List.getD es (Int.toNat i) []) 0 d0)), mkI .i64 (intD (List.getD (List.drop 1 (List.getD es (Int.toNat i) [])) 0 d0)), mkI .i64 (intD (List.getD (List.drop 1 (List.drop 1 (List.getD es (Int.toNat i) []))) 0 d0)), mkI .i64 (intD (List.getD (List.drop 1 (List.drop 1 (List.drop 1 (List.getD es (Int.toNat i) [])))) 0 d0)), mkS (strD (List.getD (List.drop 1 (List.drop 1 (List.drop 1 (List.drop 1 (List.getD es (Int.toNat i) []))))) 0 d0)), mkS (strD (List.getD (List.drop 1 (List.drop 1 (List.drop 1 (List.drop 1 (List.drop 1 (List.getD es (Int.toNat i) [])))))) 0 d0)), mkS (strD (List.getD (List.drop 1 (List.drop 1 (List.drop 1 (List.drop 1 (List.drop 1 (List.drop 1 (List.getD es (Int.toNat i) []))))))) 0 d0))], mkI .i64 (kindI (intD (List.getD (List.getD es (Int.toNat i) []) 0 d0))), mkB false, mkB ((kindI (intD (List.getD (List.getD es (Int.toNat i) []) 0 d0))) == (0 : Int))] ++ (jks 12 ++ ([mkB false, mkB ((kindI (intD (List.getD (List.getD es (Int.toNat i) []) 0 d0))) == (1 : Int)), AV.jk, AV.jk, AV.jk, AV.jk, AV.jk, AV.jk, mkB false, mkB ((kindI (intD (List.getD (List.getD es (Int.toNat i) []) 0 d0))) == (2 : Int))] ++ (jks 8 ++ ([mkB false, mkB ((kindI (intD (List.getD (List.getD es (Int.toNat i) []) 0 d0))) == (3 : Int))] ++ (jks 11 ++ ([mkB false, mkB ((kindI (intD (List.getD (List.getD es (Int.toNat i) []) 0 d0))) == (4 : Int)), AV.jk, AV.jk, AV.jk, mkB true, mkB ((kindI (intD (List.getD (List.getD es (Int.toNat i) []) 0 d0))) == (5 : Int)), AV.rf 1 0, AV.rf 2 (0 + 1), mkI .i64 (intD (List.getD (List.drop 1 (List.getD es (Int.toNat i) [])) 0 d0)), mkI .i64 e, mkI .i64 e, mkB false, AV.rf 1 0, mkI .i64 i, AV.vw (if 3 < 2 then 0 else 9 + (3 - 2)) (List.length ess_1), AV.vw (if 3 < 2 then 0 else 9 + (3 - 2)) (List.length ess_1), mkI .i64 ((List.length ess_1) : Int), AV.vw (if 3 < 2 then 0 else 4 + (3 - 2)) (List.length ess), mkI .i64 ((List.length ess) : Int), mkB false] ++ (jks 15))))))), [Ob.bun (famR (FamD.mk (KK.int IntKind.i64) (Shp.box SK) l_3)), Ob.box [AV.mp (if 1 < 2 then 0 else 9 + (1 - 2)), mkI .i64 la_3, mkI .i64 mo_2, mkI .i64 le_2], Ob.box [mkI .i64 (intD (List.getD (List.getD es (Int.toNat i) []) 0 d0)), mkI .i64 (intD (List.getD (List.drop 1 (List.getD es (Int.toNat i) [])) 0 d0)), mkI .i64 (intD (List.getD (List.drop 1 (List.drop 1 (List.getD es (Int.toNat i) []))) 0 d0)), mkI .i64 (intD (List.getD (List.drop 1 (List.drop 1 (List.drop 1 (List.getD es (Int.toNat i) [])))) 0 d0)), mkS (strD (List.getD (List.drop 1 (List.drop 1 (List.drop 1 (List.drop 1 (List.getD es (Int.toNat i) []))))) 0 d0)), mkS (strD (List.getD (List.drop 1 (List.drop 1 (List.drop 1 (List.drop 1 (List.drop 1 (List.getD es (Int.toNat i) [])))))) 0 d0)), mkS (strD (List.getD (List.drop 1 (List.drop 1 (List.drop 1 (List.drop 1 (List.drop 1 (List.drop 1 (List.getD es (Int.toNat i) []))))))) 0 d0))], Ob.gone, Ob.gone, Ob.row 6 ess, Ob.gone, Ob.gone, Ob.gone, Ob.gone, Ob.row 6 ess_1]⟩))))) (
           FamNext st inv μ kk ⟨[AV.d (.sl es), AV.jk, mkB false, AV.rf 1 0, mkI .i64 (IntKind.wrap .i64 (now + (IntKind.wrap .i64 (Int.tmod (IntKind.wrap .u64 (intD (List.getD (List.drop 1 (List.drop 1 (List.drop 1 (List.getD es (Int.toNat i) [])))) 0 d0))) (10 : Int))))), mkI .i64 (IntKind.wrap .i64 (i + (1 : Int)))] ++ (jks 113), [Ob.bun (famR (FamD.mk (KK.int IntKind.i64) (Shp.box SK) l_1)), Ob.box [AV.mp (if 1 < 2 then 0 else 4 + (1 - 2)), mkI .i64 la_1, mkI .i64 mo, mkI .i64 le], Ob.box [mkI .i64 (intD (List.getD (List.getD es (Int.toNat i) []) 0 d0)), mkI .i64 (intD (List.getD (List.drop 1 (List.getD es (Int.toNat i) [])) 0 d0)), mkI .i64 (intD (List.getD (List.drop 1 (List.drop 1 (List.getD es (Int.toNat i) []))) 0 d0)), mkI .i64 (intD (List.getD (List.drop 1 (List.drop 1 (List.drop 1 (List.getD es (Int.toNat i) [])))) 0 d0)), mkS (strD (List.getD (List.drop 1 (List.drop 1 (List.drop 1 (List.drop 1 (List.getD es (Int.toNat i) []))))) 0 d0)), mkS (strD (List.getD (List.drop 1 (List.drop 1 (List.drop 1 (List.drop 1 (List.drop 1 (List.getD es (Int.toNat i) [])))))) 0 d0)), mkS (strD (List.getD (List.drop 1 (List.drop 1 (List.drop 1 (List.drop 1 (List.drop 1 (List.drop 1 (List.getD es (Int.toNat i) []))))))) 0 d0))], Ob.gone, Ob.gone, Ob.row 6 ess]⟩))))))))) (
   q (mkB true))) := by kernel_rfl
def stSc (es : List (List D)) (now i : Int) (l : FLs) (la : Int) (ess : List (List D)) (k : Int) : S := ⟨[.d (.sl es), .jk, mkB false, .rf 1 0, mkI .i64 now, mkI .i64 i, .jk, .vw 5 ess.length, .jk, .vw 10 ess.length, mkI .i64 k] ++ jks 108, toSt l la ++ [.gone, .gone, .gone, .row 6 ess, .gone, .gone, .gone, .gone, .row 6 ess]⟩
theorem rSt_c {ι κ : Type} (st2 : κ → S) (inv2 : κ → Prop) (μ2 : κ → Nat) (kk2 : κ) (st : ι → S) (inv : ι → Prop) (μ : ι → Nat) (kk : ι) (es : List (List D)) (now0 now i : Int) (l0 l : FLs) (la0 la : Int) (ess : List (List D)) (k : Int) (q : AV → Prop) :
  (aCode KL GSt (cAt [1, 1, 1, 1, 1, 0, 1, 0, 0, 1, 0, 0, 1, 1, 1, 1, 1, 1, 1, 1, 1, 0, 0] Tryd.b5) (kFamM [] (maskOf (stSc es now i l la ess k)) st2 inv2 μ2 kk2 (rSt_b_k0 st inv μ kk es now0 i l0 la0 q)) (stSc es now i l la ess k)) = (
  bcase (decide (k < ((List.length ess) : Int))) (
   (((0 : Int) ≤ k) ∧ (k < ((List.length ess) : Int))) ∧
   ((Int.toNat k) < (List.length ess)) ∧
   ((0 : Nat) ≤ (List.length (List.getD ess (Int.toNat k) []))) ∧
   (6 ≤ (List.length (List.drop 0 (List.getD ess (Int.toNat k) [])))) ∧
   (((List.getD (List.drop 0 (List.getD ess (Int.toNat k) [])) 0 d0) = (D.v (.int IntKind.i64 (intD (List.getD (List.drop 0 (List.getD ess (Int.toNat k) [])) 0 d0))))) ∧ (((List.getD (List.drop 1 (List.drop 0 (List.getD ess (Int.toNat k) []))) 0 d0) = (D.v (.string (strD (List.getD (List.drop 1 (List.drop 0 (List.getD ess (Int.toNat k) []))) 0 d0))))) ∧ (((List.getD (List.drop 1 (List.drop 1 (List.drop 0 (List.getD ess (Int.toNat k) [])))) 0 d0) = (D.v (.string (strD (List.getD (List.drop 1 (List.drop 1 (List.drop 0 (List.getD ess (Int.toNat k) [])))) 0 d0))))) ∧ (((List.getD (List.drop 1 (List.drop 1 (List.drop 1 (List.drop 0 (List.getD ess (Int.toNat k) []))))) 0 d0) = (D.v (.string (strD (List.getD (List.drop 1 (List.drop 1 (List.drop 1 (List.drop 0 (List.getD ess (Int.toNat k) []))))) 0 d0))))) ∧ (((List.getD (List.drop 1 (List.drop 1 (List.drop 1 (List.drop 1 (List.drop 0 (List.getD ess (Int.toNat k) [])))))) 0 d0) = (D.v (.int IntKind.i64 (intD (List.getD (List.drop 1 (List.drop 1 (List.drop 1 (List.drop 1 (List.drop 0 (List.getD ess (Int.toNat k) [])))))) 0 d0))))) ∧ (((List.getD (List.drop 1 (List.drop 1 (List.drop 1 (List.drop 1 (List.drop 1 (List.drop 0 (List.getD ess (Int.toNat k) []))))))) 0 d0) = (D.v (.int IntKind.i64 (intD (List.getD (List.drop 1 (List.drop 1 (List.drop 1 (List.drop 1 (List.drop 1 (List.drop 0 (List.getD ess (Int.toNat k) []))))))) 0 d0))))) ∧ True)))))) ∧
   (((0 : Int) ≤ k) ∧ (k < ((List.length ess) : Int))) ∧
   ((Int.toNat k) < (List.length ess)) ∧
   ((0 : Nat) ≤ (List.length (List.getD ess (Int.toNat k) []))) ∧
   (6 ≤ (List.length (List.drop 0 (List.getD ess (Int.toNat k) [])))) ∧
   (((List.getD (List.drop 0 (List.getD ess (Int.toNat k) [])) 0 d0) = (D.v (.int IntKind.i64 (intD (List.getD (List.drop 0 (List.getD ess (Int.toNat k) [])) 0 d0))))) ∧ (((List.getD (List.drop 1 (List.drop 0 (List.getD ess (Int.toNat k) []))) 0 d0) = (D.v (.string (strD (List.getD (List.drop 1 (List.drop 0 (List.getD ess (Int.toNat k) []))) 0 d0))))) ∧ (((List.getD (List.drop 1 (List.drop 1 (List.drop 0 (List.getD ess (Int.toNat k) [])))) 0 d0) = (D.v (.string (strD (List.getD (List.drop 1 (List.drop 1 (List.drop 0 (List.getD ess (Int.toNat k) [])))) 0 d0))))) ∧ (((List.getD (List.drop 1 (List.drop 1 (List.drop 1 (List.drop 0 (List.getD ess (Int.toNat k) []))))) 0 d0) = (D.v (.string (strD (List.getD (List.drop 1 (List.drop 1 (List.drop 1 (List.drop 0 (List.getD ess (Int.toNat k) []))))) 0 d0))))) ∧ (((List.getD (List.drop 1 (List.drop 1 (List.drop 1 (List.drop 1 (List.drop 0 (List.getD ess (Int.toNat k) [])))))) 0 d0) = (D.v (.int IntKind.i64 (intD (List.getD (List.drop 1 (List.drop 1 (List.drop 1 (List.drop 1 (List.drop 0 (List.getD ess (Int.toNat k) [])))))) 0 d0))))) ∧ (((List.getD (List.drop 1 (List.drop 1 (List.drop 1 (List.drop 1 (List.drop 1 (List.drop 0 (List.getD ess (Int.toNat k) []))))))) 0 d0) = (D.v (.int IntKind.i64 (intD (List.getD (List.drop 1 (List.drop 1 (List.drop 1 (List.drop 1 (List.drop 1 (List.drop 0 (List.getD ess (Int.toNat k) []))))))) 0 d0))))) ∧ True)))))) ∧
   bcase (!(Bool.and ((intD (List.getD (List.drop 0 (List.getD ess (Int.toNat k) [])) 0 d0)) == (intD (List.getD (List.drop 0 (List.getD ess (Int.toNat k) [])) 0 d0))) (Bool.and (decide ((strD (List.getD (List.drop 1 (List.drop 0 (List.getD ess (Int.toNat k) []))) 0 d0)) = (strD (List.getD (List.drop 1 (List.drop 0 (List.getD ess (Int.toNat k) []))) 0 d0)))) (Bool.and (decide ((strD (List.getD (List.drop 1 (List.drop 1 (List.drop 0 (List.getD ess (Int.toNat k) [])))) 0 d0)) = (strD (List.getD (List.drop 1 (List.drop 1 (List.drop 0 (List.getD ess (Int.toNat k) [])))) 0 d0)))) (Bool.and (decide ((strD (List.getD (List.drop 1 (List.drop 1 (List.drop 1 (List.drop 0 (List.getD ess (Int.toNat k) []))))) 0 d0)) = (strD (List.getD (List.drop 1 (List.drop 1 (List.drop 1 (List.drop 0 (List.getD ess (Int.toNat k) []))))) 0 d0)))) (Bool.and ((intD (List.getD (List.drop 1 (List.drop 1 (List.drop 1 (List.drop 1 (List.drop 0 (List.getD ess (Int.toNat k) [])))))) 0 d0)) == (intD (List.getD (List.drop 1 (List.drop 1 (List.drop 1 (List.drop 1 (List.drop 0 (List.getD ess (Int.toNat k) [])))))) 0 d0))) (Bool.and ((intD (List.getD (List.drop 1 (List.drop 1 (List.drop 1 (List.drop 1 (List.drop 1 (List.drop 0 (List.getD ess (Int.toNat k) []))))))) 0 d0)) == (intD (List.getD (List.drop 1 (List.drop 1 (List.drop 1 (List.drop 1 (List.drop 1 (List.drop 0 (List.getD ess (Int.toNat k) []))))))) 0 d0))) true))))))) (
    q (mkB false)) (
    FamNext st2 inv2 μ2 kk2 ⟨[AV.d (.sl es), AV.jk, mkB false, AV.rf 1 0, mkI .i64 now, mkI .i64 i, AV.jk, AV.vw 5 (List.length ess), AV.jk, AV.vw 10 (List.length ess), mkI .i64 (IntKind.wrap .i64 (k + (1 : Int)))] ++ (jks 108), [Ob.bun (famR (FamD.mk (KK.int IntKind.i64) (Shp.box SK) l)), Ob.box [AV.mp 0, mkI .i64 la, mkI .i64 3, mkI .i64 20], Ob.gone, Ob.gone, Ob.gone, Ob.row 6 ess, Ob.gone, Ob.gone, Ob.gone, Ob.gone, Ob.row 6 ess]⟩)) (
   FamNext st inv μ kk ⟨[AV.d (.sl es), AV.jk, mkB false, AV.rf 1 0, mkI .i64 now, mkI .i64 (IntKind.wrap .i64 (i + (1 : Int)))] ++ (jks 113), [Ob.bun (famR (FamD.mk (KK.int IntKind.i64) (Shp.box SK) l)), Ob.box [AV.mp 0, mkI .i64 la, mkI .i64 3, mkI .i64 20], Ob.gone, Ob.gone, Ob.gone, Ob.row 6 ess, Ob.gone, Ob.gone, Ob.gone, Ob.gone, Ob.row 6 ess]⟩)) := by kernel_rfl
theorem allD_mem {l : FLs} : ∀ {n : Nat} {c : List D}, c ∈ allD l n → ∃ r, c = recD r
  | 0, c, h => (List.not_mem_nil h).elim
  | n + 1, c, h => by
    simp only [allD] at h
    rcases List.mem_append.1 h with h | h
    · exact allD_mem h
    · split at h
      · split at h
        · simp only [List.mem_singleton] at h; exact ⟨_, h⟩
        · exact (List.not_mem_nil h).elim
      · exact (List.not_mem_nil h).elim
def FSt : List AV → Option (Prop × AV) := fun al => match al with
  | [.d (.sl es)] => some (∃ s : List OpS, es = opsL s, mkB true)
  | _ => none
structure StX where
  i : Nat
  now : Int
  l : FLs
  la : Int
structure StS (n : Nat) (x : StX) : Prop where
  b : BoI 3 x.l x.la
  i : x.i ≤ n
  la : x.la ≤ x.i
theorem op_at2 {s : List OpS} {i : Nat} (h : i < s.length) : (opsL s).getD i [] = opD7 s[i] := by
  unfold opsL
  rw [List.getD_eq_getElem?_getD, List.getElem?_map, List.getElem?_eq_getElem h]; rfl
theorem BoI.endd {mo la id e : Int} {l l' : FLs} (h : BoI mo l la) (hs : EnR id l e l') : BoI mo l' la := by
  rcases hs with ⟨_, rfl⟩ | ⟨_, rfl⟩
  · exact h.sub (del_sub _ _)
  · exact h
theorem cSt : PSound Tryd.prog 5 (detE FSt) := by
  refine det_fn (c := Tryd.b5) mixed KL_ok gSt Tryd.func5 rfl rfl Tryd.call5 fun al p r q hF hp hq => ?_
  unfold FSt at hF; split at hF <;> cases hF
  rename_i es
  obtain ⟨scr, rfl⟩ := hp
  refine cast (rSt (opsL scr) q).symm ⟨trivial, _, _, rfl, fun M L hM hL => ⟨trivial, ?_⟩⟩
  have hL : L = 20 := hL
  have hM : M = 3 := hM
  subst hL hM
  have htk : (opsL scr).take 120 = opsL (scr.take 120) := by unfold opsL; rw [List.map_take]
  rw [htk]
  have hs120 : (scr.take 120).length ≤ 120 := by rw [List.length_take]; omega
  generalize scr.take 120 = scr at *
  have hel : (opsL scr).length = scr.length := by unfold opsL; rw [List.length_map]
  clear htk
  refine ALoop.introM [] (maskOf (stSt (opsL scr) 0 0 [] 0)) (fun x : StX => stSt (opsL scr) x.now x.i x.l x.la) (fun x => StS scr.length x) (fun x => scr.length - x.i) ⟨[], ⟨0, 0, [], 0⟩, by simp [sealAll, S.le, leL, leA, leO, jks, stSc, stSt, toSt, mkI, mkS, mkB, S.fits, fitsL, AV.fits, Ob.fits, fob], ⟨BoI.nil (by omega), Nat.zero_le _, Int.le_refl _⟩⟩ fun ⟨i, now, l, la⟩ hI => ?_
  have hB : BoI 3 l la := hI.b
  have hin : i ≤ scr.length := hI.i
  have hla : la ≤ (i : Int) := hI.la
  have hla0 := hB.h0
  clear hI
  refine cast (rSt_b _ _ _ (StX.mk i now l la) (opsL scr) now i l la q).symm fun hlim => ?_
  refine bcase_dec (fun hlt => ?_) (fun hge => hq)
  have hlt : i < scr.length := by rw [hel] at hlt; omega
  have he : List.getD (opsL scr) (Int.toNat (i : Int)) [] = opD7 scr[i] := by rw [Int.toNat_natCast]; exact op_at2 hlt
  have hC : ∀ (l1 : FLs) (la1 : Int), BoI 3 l1 la1 → la1 ≤ (i : Int) + 1 → TbC l1 la1 3 := fun l1 la1 h h1 => ⟨h.tab, h.h0, by omega, by omega⟩
  have hC0 := hC l la hB (by omega)
  have w1 : IntKind.wrap .i64 ((i : Int) + 1) = (i + 1 : Nat) := by rw [IntWalk.i64_in _ (by omega)]; omega
  refine ⟨⟨by omega, by rw [hel]; omega⟩, by rw [he]; rfl, by rw [he]; exact Nat.le_refl 7, by rw [he]; exact ⟨rfl, rfl, rfl, rfl, rfl, rfl, rfl, trivial⟩, by decide, l, la, 3, 20, i, rfl, rfl, hC0, by omega, fun ess hes => ⟨rfl, trivial, ?_⟩⟩
  clear he
  have inner : ∀ (nw : Int) (s : S), s.le (stSc (opsL scr) nw i l la ess 0) →
      ALoop (aCode KL GSt (cAt [1, 1, 1, 1, 1, 0, 1, 0, 0, 1, 0, 0, 1, 1, 1, 1, 1, 1, 1, 1, 1, 0, 0] Tryd.b5)) (rSt_b_k0 (fun x : StX => stSt (opsL scr) x.now x.i x.l x.la) (fun x => StS scr.length x) (fun x => scr.length - x.i) (StX.mk i now l la) (opsL scr) now i l la q) s := by
    intro nw s hs
    refine .weak (stSc (opsL scr) nw i l la ess 0) (weak_le hs) ?_
    clear hs
    refine ALoop.introM [] (maskOf (stSc (opsL scr) nw i l la ess 0)) (fun k : Nat => stSc (opsL scr) nw i l la ess k) (fun k => k ≤ ess.length) (fun k => ess.length - k) ⟨[], 0, by simp [sealAll, S.le, leL, leA, leO, jks, stSc, stSt, toSt, mkI, mkS, mkB, S.fits, fitsL, AV.fits, Ob.fits, fob], Nat.zero_le _⟩ fun k hk => ?_
    have hk : k ≤ ess.length := hk
    have hle : ess.length ≤ 1000 := by have := allD_len l i; rw [← hes] at this; omega
    refine cast (rSt_c _ _ _ k _ _ _ (StX.mk i now l la) (opsL scr) now nw i l l la la ess k q).symm (bcase_dec (fun hlt2 => ?_) (fun hge2 => ?_))
    · have hlt2 : k < ess.length := by omega
      have w2 : IntKind.wrap .i64 ((k : Int) + 1) = (k + 1 : Nat) := by rw [IntWalk.i64_in _ (by omega)]; omega
      rw [w2]
      obtain ⟨r, hr⟩ := allD_mem (l := l) (n := i) (c := List.getD ess (Int.toNat (k : Int)) []) (by rw [← hes, Int.toNat_natCast]; exact getD_mem hlt2)
      have c6 : 6 ≤ (List.length (List.drop 0 (List.getD ess (Int.toNat (k : Int)) []))) := by rw [hr]; exact Nat.le_refl 6
      refine ⟨⟨by omega, by omega⟩, by rw [Int.toNat_natCast]; exact hlt2, Nat.zero_le _, c6, by rw [hr]; exact ⟨rfl, rfl, rfl, rfl, rfl, rfl, trivial⟩, ⟨by omega, by omega⟩, by rw [Int.toNat_natCast]; exact hlt2, Nat.zero_le _, c6, by rw [hr]; exact ⟨rfl, rfl, rfl, rfl, rfl, rfl, trivial⟩, bcaseF (by simp) (.mk [] (k + 1) (by simp [sealAll, S.le, leL, leA, leO, jks, stSc, stSt, toSt, mkI, mkS, mkB, S.fits, fitsL, AV.fits, Ob.fits, fob]) hlt2 (show ess.length - (k + 1) < ess.length - k by omega))⟩
    · rw [w1]
      exact .mk [] ⟨i + 1, nw, l, la⟩ (by simp [sealAll, S.le, leL, leA, leO, jks, stSc, stSt, toSt, mkI, mkS, mkB, S.fits, fitsL, AV.fits, Ob.fits, fob]) ⟨hB, hlt, by show la ≤ ((i + 1 : Nat) : Int); omega⟩ (show scr.length - (i + 1) < scr.length - i by omega)
  have next : ∀ (nw : Int) (l1 : FLs) (la1 : Int) (s : S), BoI 3 l1 la1 → la1 ≤ (i : Int) + 1 → s.le (stSt (opsL scr) nw (i + 1 : Nat) l1 la1) → FamNext (fun x : StX => stSt (opsL scr) x.now x.i x.l x.la) (fun x => StS scr.length x) (fun x => scr.length - x.i) (StX.mk i now l la) s := fun nw l1 la1 s h h1 hs =>
    .mk [] ⟨i + 1, nw, l1, la1⟩ hs ⟨h, hlt, by show la1 ≤ ((i + 1 : Nat) : Int); omega⟩ (show scr.length - (i + 1) < scr.length - i by omega)
  rw [w1]
  generalize intD (List.getD (List.getD (opsL scr) (Int.toNat (i : Int)) []) 0 d0) = k0 at *
  generalize intD (List.getD (List.drop 1 (List.getD (opsL scr) (Int.toNat (i : Int)) [])) 0 d0) = k1 at *
  generalize intD (List.getD (List.drop 1 (List.drop 1 (List.getD (opsL scr) (Int.toNat (i : Int)) []))) 0 d0) = k2 at *
  generalize intD (List.getD (List.drop 1 (List.drop 1 (List.drop 1 (List.getD (opsL scr) (Int.toNat (i : Int)) [])))) 0 d0) = k3 at *
  generalize strD (List.getD (List.drop 1 (List.drop 1 (List.drop 1 (List.drop 1 (List.getD (opsL scr) (Int.toNat (i : Int)) []))))) 0 d0) = k4 at *
  generalize strD (List.getD (List.drop 1 (List.drop 1 (List.drop 1 (List.drop 1 (List.drop 1 (List.getD (opsL scr) (Int.toNat (i : Int)) [])))))) 0 d0) = k5 at *
  generalize strD (List.getD (List.drop 1 (List.drop 1 (List.drop 1 (List.drop 1 (List.drop 1 (List.drop 1 (List.getD (opsL scr) (Int.toNat (i : Int)) []))))))) 0 d0) = k6 at *
  generalize IntKind.wrap .i64 (now + IntKind.wrap .i64 (Int.tmod (IntKind.wrap .u64 k3) 10)) = nw at *
  refine bcase_mk (fun _ => ?_) (fun _ => bcase_mk (fun _ => ?_) (fun _ => bcase_mk (fun _ => ?_) (fun _ => bcase_mk (fun _ => ?_) (fun _ => bcase_mk (fun _ => ?_) (fun _ => bcase_mk (fun _ => ?_) (fun _ => ?_))))))
  · refine ⟨l, la, 3, 20, k4, k5, k2, rfl, rfl, hC0, fun a g e l' la' hs => ⟨rfl, bcase_mk (fun h0 => ?_) (fun h0 => ?_)⟩⟩
    · have hs : StR 3 k4 k5 k2 l la a g e l' la' := hs
      obtain ⟨hB1, h1, h2⟩ := hB.start (by omega) hs
      exact next nw l' la' _ hB1 (by omega) (by simp [sealAll, S.le, leL, leA, leO, jks, stSc, stSt, toSt, mkI, mkS, mkB, S.fits, fitsL, AV.fits, Ob.fits, fob])
    · have h0 : e ≠ 0 := by simpa using h0
      rcases hs with ⟨_, h, _⟩ | ⟨_, _, rfl, rfl⟩
      · exact absurd h h0
      refine ⟨l', la', 3, 20, i, rfl, rfl, hC0, by omega, fun ess1 he1 => ⟨rfl, ?_⟩⟩
      have : ess1 = ess := by rw [he1, hes]
      subst this
      exact bcaseF (by simp) (inner nw _ (by simp [sealAll, S.le, leL, leA, leO, jks, stSc, stSt, toSt, mkI, mkS, mkB, S.fits, fitsL, AV.fits, Ob.fits, fob]))
  · refine ⟨l, la, 3, 20, k1, k6, rfl, rfl, hC0, fun e l' hs => ⟨rfl, bcase_mk (fun h0 => ?_) (fun h0 => ?_)⟩⟩
    · have hs : GvR k1 k6 l e l' := hs
      exact next nw l' la _ (hB.give hs) (by omega) (by simp [sealAll, S.le, leL, leA, leO, jks, stSc, stSt, toSt, mkI, mkS, mkB, S.fits, fitsL, AV.fits, Ob.fits, fob])
    · have h0 : e ≠ 0 := by simpa using h0
      rcases hs with ⟨_, _, _, h, _⟩ | ⟨_, rfl, _⟩
      · exact absurd h h0
      refine ⟨l', la, 3, 20, i, rfl, rfl, hC0, by omega, fun ess1 he1 => ⟨rfl, ?_⟩⟩
      have : ess1 = ess := by rw [he1, hes]
      subst this
      exact bcaseF (by simp) (inner nw _ (by simp [sealAll, S.le, leL, leA, leO, jks, stSc, stSt, toSt, mkI, mkS, mkB, S.fits, fitsL, AV.fits, Ob.fits, fob]))
  · refine ⟨l, la, 3, 20, k1, nw, rfl, rfl, hC0, by decide, fun z e l' hs => ⟨rfl, bcase_mk (fun h0 => ?_) (fun h0 => ?_)⟩⟩
    · have hs : LoR 20 k1 nw l z e l' := hs
      exact next nw l' la _ (hB.lose hs) (by omega) (by simp [sealAll, S.le, leL, leA, leO, jks, stSc, stSt, toSt, mkI, mkS, mkB, S.fits, fitsL, AV.fits, Ob.fits, fob])
    · have h0 : e ≠ 0 := by simpa using h0
      rcases hs with ⟨_, _, _, h, _⟩ | ⟨_, rfl, _⟩
      · exact absurd h h0
      refine ⟨l', la, 3, 20, i, rfl, rfl, hC0, by omega, fun ess1 he1 => ⟨rfl, ?_⟩⟩
      have : ess1 = ess := by rw [he1, hes]
      subst this
      exact bcaseF (by simp) (inner nw _ (by simp [sealAll, S.le, leL, leA, leO, jks, stSc, stSt, toSt, mkI, mkS, mkB, S.fits, fitsL, AV.fits, Ob.fits, fob]))
  · refine ⟨l, la, 3, 20, k6, k2, nw, rfl, rfl, hC0, fun a z e l' hs => ⟨rfl, bcase_mk (fun h0 => ?_) (fun h0 => ?_)⟩⟩
    · have hs : RsR k6 k2 nw l a z e l' := hs
      exact next nw l' la _ (hB.resume hs).1 (by omega) (by simp [sealAll, S.le, leL, leA, leO, jks, stSc, stSt, toSt, mkI, mkS, mkB, S.fits, fitsL, AV.fits, Ob.fits, fob])
    · have h0 : e ≠ 0 := by simpa using h0
      rcases hs with ⟨h, _⟩ | ⟨_, rfl⟩
      · exact absurd h h0
      refine ⟨l', la, 3, 20, i, rfl, rfl, hC0, by omega, fun ess1 he1 => ⟨rfl, ?_⟩⟩
      have : ess1 = ess := by rw [he1, hes]
      subst this
      exact bcaseF (by simp) (inner nw _ (by simp [sealAll, S.le, leL, leA, leO, jks, stSc, stSt, toSt, mkI, mkS, mkB, S.fits, fitsL, AV.fits, Ob.fits, fob]))
  · refine ⟨l, la, 3, 20, nw, rfl, rfl, hC0, fun l' ot hs => ⟨rfl, ?_⟩⟩
    exact next nw l' la _ (hB.sub hs) (by omega) (by simp [sealAll, S.le, leL, leA, leO, jks, stSc, stSt, toSt, mkI, mkS, mkB, S.fits, fitsL, AV.fits, Ob.fits, fob])
  · refine ⟨l, la, 3, 20, k1, rfl, rfl, hC0, fun e l' hs => ⟨rfl, bcase_mk (fun h0 => ?_) (fun h0 => ?_)⟩⟩
    · have hs : EnR k1 l e l' := hs
      exact next nw l' la _ (hB.endd hs) (by omega) (by simp [sealAll, S.le, leL, leA, leO, jks, stSc, stSt, toSt, mkI, mkS, mkB, S.fits, fitsL, AV.fits, Ob.fits, fob])
    · have h0 : e ≠ 0 := by simpa using h0
      rcases hs with ⟨h, _⟩ | ⟨_, rfl⟩
      · exact absurd h h0
      refine ⟨l', la, 3, 20, i, rfl, rfl, hC0, by omega, fun ess1 he1 => ⟨rfl, ?_⟩⟩
      have : ess1 = ess := by rw [he1, hes]
      subst this
      exact bcaseF (by simp) (inner nw _ (by simp [sealAll, S.le, leL, leA, leO, jks, stSc, stSt, toSt, mkI, mkS, mkB, S.fits, fitsL, AV.fits, Ob.fits, fob]))
  · exact next nw l la _ hB (by omega) (by simp [sealAll, S.le, leL, leA, leO, jks, stSc, stSt, toSt, mkI, mkS, mkB, S.fits, fitsL, AV.fits, Ob.fits, fob])
theorem hSt : ∀ as', TyArgs Tryd.prog Tryd.f5.params.toList as' → ∃ p, FSt as' = some (p, mkB true) ∧ p := by
  intro as' h
  rw [Tryd.params5] at h
  obtain ⟨b, rfl, hb⟩ := tyargs1 h
  obtain ⟨s, rfl, _⟩ := arg_ops hb
  exact ⟨_, rfl, s, rfl⟩
end Go.Proofs.YtepkbbkfcnejmaaDoor
