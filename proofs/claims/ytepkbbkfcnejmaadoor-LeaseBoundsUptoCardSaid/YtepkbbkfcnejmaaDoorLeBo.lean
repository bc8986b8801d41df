import Derived.Test.YtepkbbkfcnejmaaDoorLeOps2
import Derived.Test.YtepkbbkfcnejmaaDoorLeKi
import Derived.Test.YtepkbbkfcnejmaaDoorLeLa
set_option linter.unusedSimpArgs false
set_option linter.unusedVariables false
set_option maxRecDepth 10000
namespace Go.Proofs.YtepkbbkfcnejmaaDoor
open Go Go.AM Go.RowKit
structure BoI (mo : Int) (l : FLs) (la : Int) : Prop where
  tab : Tab l la
  h0 : 0 ≤ la
  cnt : ∀ u, ((selE u l).length : Int) ≤ mo
theorem BoI.nil {mo : Int} (h : 0 ≤ mo) : BoI mo [] 0 := ⟨Tab.nil, Int.le_refl _, fun u => by simpa [selE] using h⟩
theorem BoI.sub {mo la : Int} {l l' : FLs} (h : BoI mo l la) (hs : List.Sublist l' l) : BoI mo l' la :=
  ⟨h.tab.sub hs, h.h0, fun u => by
    have h1 : (selE u l').length ≤ (selE u l).length := (hs.filter _).length_le
    have := h.cnt u
    omega⟩
theorem BoI.put {mo la : Int} {l : FLs} (h : BoI mo l la) {k : Key} {b : Nat} {r r' : Rec} (hm : (k, b, r) ∈ l) (h0 : r'.i 0 = r.i 0) (h1 : r'.s 1 = r.s 1) : BoI mo (putM b r' l) la := by
  refine ⟨h.tab.put hm h0, h.h0, fun u => ?_⟩
  obtain ⟨l1, l2, e1, e2, _⟩ := put_split (r' := r') h.tab.nd hm
  have hc := h.cnt u
  have hp : pVi u r' = pVi u r := by unfold pVi; rw [h1]
  have : (selE u (putM b r' l)).length = (selE u l).length := by
    rw [e2, e1]
    unfold selE
    simp only [List.filter_append, List.length_append, List.filter_cons, hp]
    split <;> simp
  rw [this]; exact hc
theorem sel_del {u : ByteArray} {l : FLs} {la : Int} (hT : Tab l la) {v : Ent3} (hv : v ∈ selE u l) : (selE u (delF (kI (v.2.2.i 0)) l)).length + 1 = (selE u l).length := by
  obtain ⟨hvl, hp⟩ := List.mem_filter.1 hv
  have hk : v.1 = kI (v.2.2.i 0) := by rw [hT.id v hvl]; exact (hT.key v hvl).1
  obtain ⟨k, b, r⟩ := v
  simp only at hk hp ⊢
  subst hk
  obtain ⟨l1, l2, e1, e2, _⟩ := del_split (hT.uni hvl) hvl
  rw [e2]
  have h1 : (selE u l).length = (selE u (l1 ++ (kI (r.i 0), b, r) :: l2)).length := by rw [← e1]
  rw [h1]
  unfold selE
  simp only [List.filter_append, List.length_append, List.filter_cons, hp, if_true, List.length_cons]
  omega
theorem BoI.start {mo la a g e la' c : Int} {l l' : FLs} {u d : ByteArray} (h : BoI mo l la) (hmo : 0 < mo) (hs : StR mo u d c l la a g e l' la') : BoI mo l' la' ∧ la ≤ la' ∧ la' ≤ la + 1 := by
  rcases hs with ⟨_, _, _, rfl, l1, b, r, hv, hb, ⟨r0, r1, _⟩, rfl⟩ | ⟨_, _, rfl, rfl⟩
  · refine ⟨⟨?_, by have := h.h0; omega, fun w => ?_⟩, by omega, by omega⟩
    · rcases hv with ⟨_, _, rfl⟩ | ⟨_, v, _, _, rfl⟩
      · exact h.tab.add h.h0 hb r0
      · exact (h.tab.del _).add h.h0 hb r0
    · have happ : (selE w (l1 ++ [(kI (la + 1), b, r)])).length = (selE w l1).length + if pVi w r = true then 1 else 0 := by
        unfold selE
        simp only [List.filter_append, List.length_append, List.filter_cons, List.filter_nil]
        split <;> simp
      rw [happ]
      have hw := h.cnt w
      rcases hv with ⟨hlt, _, rfl⟩ | ⟨_, v, hv, rfl, rfl⟩
      · by_cases hp : pVi w r = true
        · have : w = u := by unfold pVi at hp; rw [r1] at hp; exact (of_decide_eq_true hp).symm
          subst this
          rw [if_pos hp]; omega
        · rw [if_neg hp]; omega
      · by_cases hp : pVi w r = true
        · have : w = u := by unfold pVi at hp; rw [r1] at hp; exact (of_decide_eq_true hp).symm
          subst this
          rw [if_pos hp]
          have := sel_del h.tab (vict_mem hv)
          omega
        · rw [if_neg hp]
          have h1 : (selE w (delF (kI (v.2.2.i 0)) l)).length ≤ (selE w l).length := ((del_sub _ l).filter _).length_le
          omega
  · exact ⟨h, by omega, by omega⟩
theorem BoI.give {mo la id e : Int} {l l' : FLs} {tok : ByteArray} (h : BoI mo l la) (hs : GvR id tok l e l') : BoI mo l' la := by
  rcases hs with ⟨b, r, ⟨hm, _⟩, _, rfl⟩ | ⟨_, rfl, _⟩
  · exact h.put hm rfl rfl
  · exact h
theorem BoI.lose {mo la le id now e : Int} {z : Bool} {l l' : FLs} (h : BoI mo l la) (hs : LoR le id now l z e l') : BoI mo l' la := by
  rcases hs with ⟨b, r, ⟨hm, _⟩, _, ⟨_, _, rfl⟩ | ⟨_, _, rfl⟩⟩ | ⟨_, rfl, _⟩
  · exact h.sub (del_sub _ _)
  · exact h.put hm rfl rfl
  · exact h
theorem BoI.resume {mo la c now a z e : Int} {l l' : FLs} {tok : ByteArray} (h : BoI mo l la) (hs : RsR tok c now l a z e l') : BoI mo l' la ∧
    (e = 0 → (∀ b r, (kI a, b, r) ∈ l' → r.s 3 = tok ∧ r.i 4 = c ∧ r.i 5 = 0) ∧ ∃ b r, (kI a, b, r) ∈ l') := by
  rcases hs with ⟨_, k, b, r, hf, rfl, _, _, rfl⟩ | ⟨he, rfl⟩
  · obtain ⟨hm, hp⟩ := first_mem hf
    have hB := h.put (r' := (r.put 4 (mkI .i64 c)).put 5 (mkI .i64 0)) hm rfl rfl
    have hk : k = kI (r.i 0) := by
      have h1 := h.tab.id _ hm
      have h2 := (h.tab.key _ hm).1
      simp only at h1 h2
      rw [h1]; exact h2
    obtain ⟨l1, l2, _, e2, _⟩ := put_split (r' := (r.put 4 (mkI .i64 c)).put 5 (mkI .i64 0)) h.tab.nd hm
    have hin : (kI (r.i 0), b, (r.put 4 (mkI .i64 c)).put 5 (mkI .i64 0)) ∈ putM b ((r.put 4 (mkI .i64 c)).put 5 (mkI .i64 0)) l := by rw [e2, ← hk]; simp
    refine ⟨hB, fun _ => ⟨fun b2 r2 h2 => ?_, _, _, hin⟩⟩
    have := hB.tab.uni hin _ h2 rfl
    cases this
    unfold pWi at hp
    simp only [Bool.and_eq_true, decide_eq_true_eq] at hp
    exact ⟨hp.1, rfl, rfl⟩
  · exact ⟨h, fun h0 => absurd h0 he⟩
def onN (l : FLs) (c : Int) : Nat := (l.filter fun e => decide (0 ≤ e.2.2.i 4 ∧ e.2.2.i 4 < c)).length
theorem onN_le (l : FLs) (c : Int) : onN l c ≤ l.length := List.length_filter_le _ _
theorem filter_lt {α : Type} {p q : α → Bool} : ∀ {l : List α}, (∀ e ∈ l, p e = true → q e = true) → (l.filter p).length ≤ (l.filter q).length ∧ ∀ e ∈ l, q e = true → p e = false → (l.filter p).length + 1 ≤ (l.filter q).length
  | [], _ => ⟨by simp, fun e he => by cases he⟩
  | x :: l, h => by
    obtain ⟨h1, h2⟩ := filter_lt (l := l) fun e he => h e (by simp [he])
    have hx := h x (by simp)
    refine ⟨?_, fun e he hq hp => ?_⟩
    · simp only [List.filter_cons]
      by_cases a : p x = true
      · rw [if_pos a, if_pos (hx a)]; simpa using h1
      · rw [if_neg a]; split <;> (try simp only [List.length_cons]) <;> omega
    · simp only [List.filter_cons]
      rcases List.mem_cons.1 he with rfl | he
      · rw [if_pos hq, if_neg (by rw [hp]; simp)]; simp only [List.length_cons]; omega
      · have := h2 e he hq hp
        by_cases a : p x = true
        · rw [if_pos a, if_pos (hx a)]; simp only [List.length_cons]; omega
        · rw [if_neg a]; split <;> (try simp only [List.length_cons]) <;> omega
theorem onN_mono (l : FLs) (c : Int) : onN l c ≤ onN l (c + 1) := (filter_lt fun e _ h => by
  simp only [decide_eq_true_eq] at h ⊢; omega).1
theorem onN_step {l : FLs} {c : Int} (hc : 0 ≤ c) {k : Key} {b : Nat} {r : Rec} (h : firstE (pOn c) l = some (k, b, r)) : onN l c + 1 ≤ onN l (c + 1) := by
  obtain ⟨hm, hp⟩ := first_mem h
  unfold pOn at hp
  have hp : r.i 4 = c := by simp only [Bool.and_eq_true, beq_iff_eq] at hp; exact hp.1
  refine (filter_lt fun e _ h => by simp only [decide_eq_true_eq] at h ⊢; omega).2 _ hm ?_ ?_
  · exact decide_eq_true (by show 0 ≤ r.i 4 ∧ r.i 4 < c + 1; omega)
  · exact decide_eq_false (by show ¬ (0 ≤ r.i 4 ∧ r.i 4 < c); omega)
end Go.Proofs.YtepkbbkfcnejmaaDoor

namespace Go.Proofs.YtepkbbkfcnejmaaDoor
open Go Go.AM Go.RowKit
attribute [local irreducible] aUnr aUnS aCode
noncomputable abbrev GBo : List (FuncId × En) := [(8, .det FLv), (20, .det FKi), (18, .det FEl), (9, .new ENw), (10, .ref (frameE ESr)), (11, .ref (frameE EGi)), (12, .ref (frameE ELo)), (13, .ref (frameE EGe)), (14, .ref (frameE EOf)), (15, .ref (frameE ERe)), (16, .ref (frameE ELa)), (22, .ref (frameE EOc)), (17, .ref (frameE ELe))]
theorem gBo : GSound Tryd.prog GBo := gsound_det cLv (gsound_det cKi (gsound_det cEl (gsound_new cNw (gsound_ref (RSound.frame cSr) (gsound_ref (RSound.frame cGi) (gsound_ref (RSound.frame cLo) (gsound_ref (RSound.frame cGe) (gsound_ref (RSound.frame cOf) (gsound_ref (RSound.frame cRe) (gsound_ref (RSound.frame cLa) (gsound_ref (RSound.frame cOc) (gsound_ref (RSound.frame cLe) gsound_nil))))))))))))
noncomputable def rBo_k0 (q : AV → Prop) : Kont := kBlk (0 : Nat) (kSeq (aCode KL GBo (cAt [1, 1, 1, 1, 1, 1, 1] Tryd.b6) (kRet KL (Array.toList (Func.results Tryd.f6)) q)) (kRet KL (Array.toList (Func.results Tryd.f6)) q))
theorem rBo (most : Int) (scr : List (List D)) (q : AV → Prop) :
  (aCode KL GBo Tryd.b6 (kRet KL Tryd.f6.results.toList q) ⟨[mkI .i64 most, .d (.sl scr)] ++ List.replicate (Tryd.f6.ntmps - 2) .jk, []⟩) = (
  True ∧ (
   ∃ (a : Int),
   ∃ (b : Int),
   ([mkI .i64 most, mkI .i64 20] = [mkI .i64 a, mkI .i64 b]) ∧ (
    ∀ (M : Int),
    ∀ (L : Int),
    (M = (lim16 a)) →
    (L = (lim1000 b)) →
    (IntKind.i64 = IntKind.i64) ∧
    (IntKind.i64 = IntKind.i64) ∧
    True ∧
    ALoop (aCode KL GBo (cAt [1, 1, 1, 1, 1, 1, 0, 1, 0, 0] Tryd.b6)) (rBo_k0 q) ⟨[mkI .i64 (if (16 : Int) < (if (1 : Int) > most then (1 : Int) else most) then (16 : Int) else if (1 : Int) > most then (1 : Int) else most), AV.d (.sl (List.take (120 : Nat) scr)), AV.jk, AV.jk, mkB false, AV.rf (0 + 1) 0, mkI .i64 0, mkI .i64 0] ++ (jks 10 ++ ([mkB true, mkB false, mkI .i64 most, AV.rf (0 + 1) 0, mkI .i64 most, mkI .i64 (if (1 : Int) > most then (1 : Int) else most), mkI .i64 (if (16 : Int) < (if (1 : Int) > most then (1 : Int) else most) then (16 : Int) else if (1 : Int) > most then (1 : Int) else most), AV.d (.sl scr), AV.d (.sl (List.take (120 : Nat) scr))] ++ (jks 117))), [Ob.bun (famR (FamD.mk (KK.int IntKind.i64) (Shp.box SK) [])), Ob.box [AV.mp (0 + 0), mkI .i64 0, mkI .i64 M, mkI .i64 L]]⟩))) := by kernel_rfl
def toB (l : FLs) (la mo : Int) : List Ob := [fob l, .box [.mp 0, mkI .i64 la, mkI .i64 mo, mkI .i64 20]]
def stBo (Mx : Int) (es : List (List D)) (now i : Int) (l : FLs) (la mo : Int) : S := ⟨[mkI .i64 Mx, .d (.sl es), .jk, .jk, mkB false, .rf 1 0, mkI .i64 now, mkI .i64 i] ++ jks 136, toB l la mo⟩
noncomputable def rBo_b_k0 {ι : Type} (st : ι → S) (inv : ι → Prop) (μ : ι → Nat) (kk : ι) (Mx : Int) (es : List (List D)) (now : Int) (i : Int) (l : FLs) (la : Int) (mo : Int) (q : AV → Prop) : Kont := kBlk (3 : Nat) (kSeq (aCode KL GBo (cAt [1, 1, 1, 1, 1, 1, 0, 1, 0, 0, 1, 0, 0, 1, 1, 1, 1, 1] Tryd.b6) (kBlk (1 : Nat) (kSeq (aCode KL GBo (cAt [1, 1, 1, 1, 1, 1, 0, 1, 0, 0, 1, 1] Tryd.b6) (kFamM [] (maskOf (stBo Mx es now i l la mo)) st inv μ kk (rBo_k0 q))) (kFamM [] (maskOf (stBo Mx es now i l la mo)) st inv μ kk (rBo_k0 q))))) (kBlk (1 : Nat) (kSeq (aCode KL GBo (cAt [1, 1, 1, 1, 1, 1, 0, 1, 0, 0, 1, 1] Tryd.b6) (kFamM [] (maskOf (stBo Mx es now i l la mo)) st inv μ kk (rBo_k0 q))) (kFamM [] (maskOf (stBo Mx es now i l la mo)) st inv μ kk (rBo_k0 q)))))
theorem rBo_b {ι : Type} (st : ι → S) (inv : ι → Prop) (μ : ι → Nat) (kk : ι) (Mx : Int) (es : List (List D)) (now i : Int) (l : FLs) (la mo : Int) (q : AV → Prop) :
  (aCode KL GBo (cAt [1, 1, 1, 1, 1, 1, 0, 1, 0, 0] Tryd.b6) (kFamM [] (maskOf (stBo Mx es now i l la mo)) st inv μ kk (rBo_k0 q)) (stBo Mx es now i l la mo)) = (
  ((List.length es) ≤ LIM) →
  bcase (decide (i < ((List.length es) : Int))) (
   (((0 : Int) ≤ i) ∧ (i < ((List.length es) : Int))) ∧
   ((List.length (List.getD es (Int.toNat i) [])) = 7) ∧
   (7 ≤ (List.length (List.getD es (Int.toNat i) []))) ∧
   (((List.getD (List.getD es (Int.toNat i) []) 0 d0) = (D.v (.int IntKind.i64 (intD (List.getD (List.getD es (Int.toNat i) []) 0 d0))))) ∧ (((List.getD (List.drop 1 (List.getD es (Int.toNat i) [])) 0 d0) = (D.v (.int IntKind.i64 (intD (List.getD (List.drop 1 (List.getD es (Int.toNat i) [])) 0 d0))))) ∧ (((List.getD (List.drop 1 (List.drop 1 (List.getD es (Int.toNat i) []))) 0 d0) = (D.v (.int IntKind.i64 (intD (List.getD (List.drop 1 (List.drop 1 (List.getD es (Int.toNat i) []))) 0 d0))))) ∧ (((List.getD (List.drop 1 (List.drop 1 (List.drop 1 (List.getD es (Int.toNat i) [])))) 0 d0) = (D.v (.int IntKind.i64 (intD (List.getD (List.drop 1 (List.drop 1 (List.drop 1 (List.getD es (Int.toNat i) [])))) 0 d0))))) ∧ (((List.getD (List.drop 1 (List.drop 1 (List.drop 1 (List.drop 1 (List.getD es (Int.toNat i) []))))) 0 d0) = (D.v (.string (strD (List.getD (List.drop 1 (List.drop 1 (List.drop 1 (List.drop 1 (List.getD es (Int.toNat i) []))))) 0 d0))))) ∧ (((List.getD (List.drop 1 (List.drop 1 (List.drop 1 (List.drop 1 (List.drop 1 (List.getD es (Int.toNat i) [])))))) 0 d0) = (D.v (.string (strD (List.getD (List.drop 1 (List.drop 1 (List.drop 1 (List.drop 1 (List.drop 1 (List.getD es (Int.toNat i) [])))))) 0 d0))))) ∧ (((List.getD (List.drop 1 (List.drop 1 (List.drop 1 (List.drop 1 (List.drop 1 (List.drop 1 (List.getD es (Int.toNat i) []))))))) 0 d0) = (D.v (.string (strD (List.getD (List.drop 1 (List.drop 1 (List.drop 1 (List.drop 1 (List.drop 1 (List.drop 1 (List.getD es (Int.toNat i) []))))))) 0 d0))))) ∧ True))))))) ∧
   (((10 : Int) = (0 : Int)) → False) ∧
   True ∧
   bcase ((kindI (intD (List.getD (List.getD es (Int.toNat i) []) 0 d0))) == (0 : Int)) (
    ∃ (l_1 : FLs),
    ∃ (la_1 : Int),
    ∃ (mo_1 : Int),
    ∃ (le : Int),
    ∃ (u : ByteArray),
    ∃ (d : ByteArray),
    ∃ (c : Int),
    ([AV.rf 0 0, mkS (strD (List.getD (List.drop 1 (List.drop 1 (List.drop 1 (List.drop 1 (List.getD es (Int.toNat i) []))))) 0 d0)), mkS (strD (List.getD (List.drop 1 (List.drop 1 (List.drop 1 (List.drop 1 (List.drop 1 (List.getD es (Int.toNat i) [])))))) 0 d0)), mkI .i64 (intD (List.getD (List.drop 1 (List.drop 1 (List.getD es (Int.toNat i) []))) 0 d0))] = [AV.rf 0 0, mkS u, mkS d, mkI .i64 c]) ∧
    ([Ob.box [AV.mp (0 + 1), mkI .i64 la, mkI .i64 mo, mkI .i64 20], Ob.bun (famR (FamD.mk (KK.int IntKind.i64) (Shp.box SK) l)), Ob.gh [AV.rf 0 0]] = [Ob.box [AV.mp 1, mkI .i64 la_1, mkI .i64 mo_1, mkI .i64 le], Ob.bun (famR (FamD.mk (KK.int IntKind.i64) (Shp.box SK) l_1)), Ob.gh [AV.rf 0 0]]) ∧
    (TbC l_1 la_1 mo_1) ∧ (
     ∀ (a : Int),
     ∀ (g : Int),
     ∀ (e : Int),
     ∀ (l' : FLs),
     ∀ (la' : Int),
     (((((userB u) = true) ∧ (((userB d) = true) ∧ (((0 : Int) ≤ c) ∧ ((firstE (pOn c) l_1) = Option.none)))) ∧ ((e = (0 : Int)) ∧ ((a = (la_1 + (1 : Int))) ∧ ((la' = (la_1 + (1 : Int))) ∧ (∃ (l1 : FLs), ∃ (b : Nat), ∃ (r : Rec), (((((List.length (selE u l_1)) : Int) < mo_1) ∧ ((g = (0 : Int)) ∧ (l1 = l_1))) ∨ ((mo_1 ≤ ((List.length (selE u l_1)) : Int)) ∧ (∃ (v : Ent3), ((victE u l_1) = (Option.some v)) ∧ ((g = ((Prod.snd (Prod.snd v)).i (0 : Nat))) ∧ (l1 = (delF (Key.i IntKind.i64 g) l_1)))))) ∧ ((∀ (e_1 : Prod Key (Prod Nat Rec)), (e_1 ∈ l1) → ((Prod.fst (Prod.snd e_1)) = b) → False) ∧ ((((r.i (0 : Nat)) = (la_1 + (1 : Int))) ∧ (((r.s (1 : Nat)) = u) ∧ (((r.s (2 : Nat)) = d) ∧ (((r.s (3 : Nat)) = ⟨#[]⟩) ∧ (((r.i (4 : Nat)) = c) ∧ ((r.i (5 : Nat)) = (0 : Int))))))) ∧ (l' = (l1 ++ [(Key.i IntKind.i64 (la_1 + (1 : Int)), (b, r))]))))))))) ∨ (((((userB u) = true) ∧ (((userB d) = true) ∧ (((0 : Int) ≤ c) ∧ ((firstE (pOn c) l_1) = Option.none)))) → False) ∧ (((e = (0 : Int)) → False) ∧ ((l' = l_1) ∧ (la' = la_1))))) →
     ((Option.some (Ob.gh [AV.rf 0 0])) = (Option.some (Ob.gh [AV.rf 0 0]))) ∧ (
      ∃ (l_2 : FLs),
      ∃ (la_2 : Int),
      ∃ (mo_2 : Int),
      ∃ (le_1 : Int),
      ∃ (c_1 : ByteArray),
      ([AV.rf 0 0, mkS (strD (List.getD (List.drop 1 (List.drop 1 (List.drop 1 (List.drop 1 (List.getD es (Int.toNat i) []))))) 0 d0))] = [AV.rf 0 0, mkS c_1]) ∧
      ([Ob.box [AV.mp (0 + 1), mkI .i64 la', mkI .i64 mo_1, mkI .i64 le], Ob.bun (famR (FamD.mk (KK.int IntKind.i64) (Shp.box SK) l')), Ob.gh [AV.rf 0 0]] = [Ob.box [AV.mp 1, mkI .i64 la_2, mkI .i64 mo_2, mkI .i64 le_1], Ob.bun (famR (FamD.mk (KK.int IntKind.i64) (Shp.box SK) l_2)), Ob.gh [AV.rf 0 0]]) ∧
      (TabOk l_2) ∧ (
       ∀ (ids : List (List D)),
       (ids = (idsL (pOf c_1) l_2)) →
       ((Option.some (Ob.gh [AV.rf 0 0])) = (Option.some (Ob.gh [AV.rf 0 0]))) ∧
       bcase (decide (((List.length ids) : Int) > Mx)) (
        q (mkB false)) (
        ALoop (aCode KL GBo (cAt [1, 1, 1, 1, 1, 1, 0, 1, 0, 0, 1, 0, 0, 1, 1, 1, 1, 0, 1, 0, 0] Tryd.b6)) (rBo_b_k0 st inv μ kk Mx es now i l la mo q) ⟨[mkI .i64 Mx, AV.d (.sl es), AV.jk, AV.jk, mkB false, AV.rf 1 0, mkI .i64 (IntKind.wrap .i64 (now + (IntKind.wrap .i64 (Int.tmod (IntKind.wrap .u64 (intD (List.getD (List.drop 1 (List.drop 1 (List.drop 1 (List.getD es (Int.toNat i) [])))) 0 d0))) (10 : Int))))), mkI .i64 i, AV.rf 2 0, AV.jk, AV.jk, AV.jk, AV.jk, AV.jk, mkI .i64 0, mkI .i64 0] ++ (jks 11 ++ ([mkI .i64 i, AV.d (.sl es), mkI .i64 ((List.length es) : Int), mkB true, AV.jk, AV.jk, AV.d (.sl es), mkI .i64 i, AV.ep (List.getD es (Int.toNat i) []), AV.ag [mkI .i64 (intD (List.getD (List.getD es (Int.toNat i) []) 0 d0)), mkI .i64 (intD (List.getD (List.drop 1 (List.getD es (Int.toNat i) [])) 0 d0)), mkI .i64 (intD (List.getD (List.drop 1 (List.drop 1 (List.getD es (Int.toNat i) []))) 0 d0)), mkI .i64 (intD (List.getD (List.drop 1 (List.drop 1 (List.drop 1 (List.getD es (Int.toNat i) [])))) 0 d0)), mkS (strD (List.getD (List.drop 1 (List.drop 1 (List.drop 1 (List.drop 1 (List.getD es (Int.toNat i) []))))) 0 d0)), mkS (strD (List.getD (List.drop 1 (List.drop 1 (List.drop 1 (List.drop 1 (List.drop 1 (List.getD es (Int.toNat i) [])))))) 0 d0)), mkS (strD (List.getD (List.drop 1 (List.drop 1 (List.drop 1 (List.drop 1 (List.drop 1 (List.drop 1 (List.getD es (Int.toNat i) []))))))) 0 d0))], mkI .i64 now, AV.rf 2 (0 + 3), mkI .i64 (intD (List.getD (List.drop 1 (List.drop 1 (List.drop 1 (List.getD es (Int.toNat i) [])))) 0 d0)), mkI .u64 (IntKind.wrap .u64 (intD (List.getD (List.drop 1 (List.drop 1 (List.drop 1 (List.getD es (Int.toNat i) [])))) 0 d0))), mkI .u64 (Int.tmod (IntKind.wrap .u64 (intD (List.getD (List.drop 1 (List.drop 1 (List.drop 1 (List.getD es (Int.toNat i) [])))) 0 d0))) (10 : Int)), mkI .i64 (IntKind.wrap .i64 (Int.tmod (IntKind.wrap .u64 (intD (List.getD (List.drop 1 (List.drop 1 (List.drop 1 (List.getD es (Int.toNat i) [])))) 0 d0))) (10 : Int))), mkI .i64 (IntKind.wrap .i64 (now + (IntKind.wrap .i64 (Int.tmod (IntKind.wrap .u64 (intD (List.getD (List.drop 1 (List.drop 1 (List.drop 1 (List.getD es (Int.toNat i) [])))) 0 d0))) (10 : Int))))), AV.ag [mkI .i64 (intD (List.getD (List.getD es (Int.toNat i) []) 0 d0)), mkI .i64 (intD (List.getD (List.drop 1 (List.getD es (Int.toNat i) [])) 0 d0)), mkI .i64 (intD (List.getD (List.drop 1 (List.drop 1 (List.getD es (Int.toNat i) []))) 0 d0)), mkI .i64 (intD (List.getD (List.drop 1 (List.drop 1 (List.drop 1 (List.getD es (Int.toNat i) [])))) 0 d0)), mkS (strD (List.getD (List.drop 1 (List.drop 1 (List.drop 1 (List.drop 1 (List.getD es (Int.toNat i) []))))) 0 d0)), mkS (strD (List.getD (List.drop 1 (List.drop 1 (List.drop 1 (List.drop 1 (List.drop 1 (List.getD es (Int.toNat i) [])))))) 0 d0)), mkS (strD (List.getD (List.drop 1 (List.drop 1 (List.drop 1 (List.drop 1 (List.drop 1 (List.drop 1 (List.getD es (Int.toNat i) []))))))) 0 d0))], mkI .i64 (kindI (intD (List.getD (List.getD es (Int.toNat i) []) 0 d0))), mkB true, mkB ((kindI (intD (List.getD (List.getD es (Int.toNat i) []) 0 d0))) == (0 : Int)), AV.rf 1 0, AV.rf 2 (0 + 4), mkS (strD (List.getD (List.drop 1 (List.drop 1 (List.drop 1 (List.drop 1 (List.getD es (Int.toNat i) []))))) 0 d0)), AV.rf 2 (0 + 5), mkS (strD (List.getD (List.drop 1 (List.drop 1 (List.drop 1 (List.drop 1 (List.drop 1 (List.getD es (Int.toNat i) [])))))) 0 d0)), AV.rf 2 (0 + 2), mkI .i64 (intD (List.getD (List.drop 1 (List.drop 1 (List.getD es (Int.toNat i) []))) 0 d0)), AV.tp [mkI .i64 a, mkI .i64 g, mkI .i64 e], AV.rf 1 0, AV.rf 2 (0 + 4), mkS (strD (List.getD (List.drop 1 (List.drop 1 (List.drop 1 (List.drop 1 (List.getD es (Int.toNat i) []))))) 0 d0)), AV.vw (if 3 < 2 then 0 else 6 + (3 - 2)) (List.length ids), mkI .i64 ((List.length ids) : Int), mkI .i64 Mx, mkB false] ++ (jks 81))), [Ob.bun (famR (FamD.mk (KK.int IntKind.i64) (Shp.box SK) l_2)), Ob.box [AV.mp (if 1 < 2 then 0 else 6 + (1 - 2)), mkI .i64 la_2, mkI .i64 mo_2, mkI .i64 le_1], Ob.box [mkI .i64 (intD (List.getD (List.getD es (Int.toNat i) []) 0 d0)), mkI .i64 (intD (List.getD (List.drop 1 (List.getD es (Int.toNat i) [])) 0 d0)), mkI .i64 (intD (List.getD (List.drop 1 (List.drop 1 (List.getD es (Int.toNat i) []))) 0 d0)), mkI .i64 (intD (List.getD (List.drop 1 (List.drop 1 (List.drop 1 (List.getD es (Int.toNat i) [])))) 0 d0)), mkS (strD (List.getD (List.drop 1 (List.drop 1 (List.drop 1 (List.drop 1 (List.getD es (Int.toNat i) []))))) 0 d0)), mkS (strD (List.getD (List.drop 1 (List.drop 1 (List.drop 1 (List.drop 1 (List.drop 1 (List.getD es (Int.toNat i) [])))))) 0 d0)), mkS (strD (List.getD (List.drop 1 (List.drop 1 (List.drop 1 (List.drop 1 (List.drop 1 (List.drop 1 (List.getD es (Int.toNat i) []))))))) 0 d0))], Ob.gone, Ob.gone, Ob.gone, Ob.gone, Ob.row 1 ids]⟩))))) (
    bcase ((kindI (intD (List.getD (List.getD es (Int.toNat i) []) 0 d0))) == (1 : Int)) (
     ∃ (l_1 : FLs),
     ∃ (la_1 : Int),
     ∃ (mo_1 : Int),
     ∃ (le : Int),
     ∃ (id : Int),
     ∃ (tok : ByteArray),
     ([AV.rf 0 0, mkI .i64 (intD (List.getD (List.drop 1 (List.getD es (Int.toNat i) [])) 0 d0)), mkS (strD (List.getD (List.drop 1 (List.drop 1 (List.drop 1 (List.drop 1 (List.drop 1 (List.drop 1 (List.getD es (Int.toNat i) []))))))) 0 d0))] = [AV.rf 0 0, mkI .i64 id, mkS tok]) ∧
     ([Ob.box [AV.mp (0 + 1), mkI .i64 la, mkI .i64 mo, mkI .i64 20], Ob.bun (famR (FamD.mk (KK.int IntKind.i64) (Shp.box SK) l)), Ob.gh [AV.rf 0 0]] = [Ob.box [AV.mp 1, mkI .i64 la_1, mkI .i64 mo_1, mkI .i64 le], Ob.bun (famR (FamD.mk (KK.int IntKind.i64) (Shp.box SK) l_1)), Ob.gh [AV.rf 0 0]]) ∧
     (TbC l_1 la_1 mo_1) ∧ (
      ∀ (e : Int),
      ∀ (l' : FLs),
      ((∃ (b : Nat), ∃ (r : Rec), (((Key.i IntKind.i64 id, (b, r)) ∈ l_1) ∧ (((r.s (3 : Nat)) = ⟨#[]⟩) ∧ ((((r.i (4 : Nat)) = (-(1 : Int))) → False) ∧ (((firstE (pWi tok) l_1) = Option.none) ∧ ((tok = ⟨#[]⟩) → False))))) ∧ ((e = (0 : Int)) ∧ (l' = (putM b (Rec.put r (3 : Nat) (mkS tok)) l_1)))) ∨ (((e = (0 : Int)) → False) ∧ ((l' = l_1) ∧ (∀ (b : Nat), ∀ (r : Rec), (((Key.i IntKind.i64 id, (b, r)) ∈ l_1) ∧ (((r.s (3 : Nat)) = ⟨#[]⟩) ∧ ((((r.i (4 : Nat)) = (-(1 : Int))) → False) ∧ (((firstE (pWi tok) l_1) = Option.none) ∧ ((tok = ⟨#[]⟩) → False))))) → False)))) →
      ((Option.some (Ob.gh [AV.rf 0 0])) = (Option.some (Ob.gh [AV.rf 0 0]))) ∧
      ALoop (aCode KL GBo (cAt [1, 1, 1, 1, 1, 1, 0, 1, 0, 0, 1, 0, 0, 1, 1, 1, 1, 0, 1, 0, 0] Tryd.b6)) (rBo_b_k0 st inv μ kk Mx es now i l la mo q) ⟨[mkI .i64 Mx, AV.d (.sl es), AV.jk, AV.jk, mkB false, AV.rf 1 0, mkI .i64 (IntKind.wrap .i64 (now + (IntKind.wrap .i64 (Int.tmod (IntKind.wrap .u64 (intD (List.getD (List.drop 1 (List.drop 1 (List.drop 1 (List.getD es (Int.toNat i) [])))) 0 d0))) (10 : Int))))), mkI .i64 i, AV.rf 2 0, AV.jk, AV.jk, AV.jk, AV.jk, AV.jk, mkI .i64 0, mkI .i64 0] ++ (jks 11 ++ ([mkI .i64 i, AV.d (.sl es), mkI .i64 ((List.length es) : Int), mkB true, AV.jk, AV.jk, AV.d (.sl es), mkI .i64 i, AV.ep (List.getD es (Int.toNat i) []), AV.ag [mkI .i64 (intD (List.getD (List.getD es (Int.toNat i) []) 0 d0)), mkI .i64 (intD (List.getD (List.drop 1 (List.getD es (Int.toNat i) [])) 0 d0)), mkI .i64 (intD (List.getD (List.drop 1 (List.drop 1 (List.getD es (Int.toNat i) []))) 0 d0)), mkI .i64 (intD (List.getD (List.drop 1 (List.drop 1 (List.drop 1 (List.getD es (Int.toNat i) [])))) 0 d0)), mkS (strD (List.getD (List.drop 1 (List.drop 1 (List.drop 1 (List.drop 1 (List.getD es (Int.toNat i) []))))) 0 d0)), mkS (strD (List.getD (List.drop 1 (List.drop 1 (List.drop 1 (List.drop 1 (List.drop 1 (List.getD es (Int.toNat i) [])))))) 0 d0)), mkS (strD (List.getD (List.drop 1 (List.drop 1 (List.drop 1 (List.drop 1 (List.drop 1 (List.drop 1 (List.getD es (Int.toNat i) []))))))) 0 d0))], mkI .i64 now, AV.rf 2 (0 + 3), mkI .i64 (intD (List.getD (List.drop 1 (List.drop 1 (List.drop 1 (List.getD es (Int.toNat i) [])))) 0 d0)), mkI .u64 (IntKind.wrap .u64 (intD (List.getD (List.drop 1 (List.drop 1 (List.drop 1 (List.getD es (Int.toNat i) [])))) 0 d0))), mkI .u64 (Int.tmod (IntKind.wrap .u64 (intD (List.getD (List.drop 1 (List.drop 1 (List.drop 1 (List.getD es (Int.toNat i) [])))) 0 d0))) (10 : Int)), mkI .i64 (IntKind.wrap .i64 (Int.tmod (IntKind.wrap .u64 (intD (List.getD (List.drop 1 (List.drop 1 (List.drop 1 (List.getD es (Int.toNat i) [])))) 0 d0))) (10 : Int))), mkI .i64 (IntKind.wrap .i64 (now + (IntKind.wrap .i64 (Int.tmod (IntKind.wrap .u64 (intD (List.getD (List.drop 1 (List.drop 1 (List.drop 1 (List.getD es (Int.toNat i) [])))) 0 d0))) (10 : Int))))), AV.ag [mkI .i64 (intD (List.getD (List.getD es (Int.toNat i) []) 0 d0)), mkI .i64 (intD (List.getD (List.drop 1 (List.getD es (Int.toNat i) [])) 0 d0)), mkI .i64 (intD (List.getD (List.drop 1 (List.drop 1 (List.getD es (Int.toNat i) []))) 0 d0)), mkI .i64 (intD (List.getD (List.drop 1 (List.drop 1 (List.drop 1 (List.getD es (Int.toNat i) [])))) 0 d0)), mkS (strD (List.getD (List.drop 1 (List.drop 1 (List.drop 1 (List.drop 1 (List.getD es (Int.toNat i) []))))) 0 d0)), mkS (strD (List.getD (List.drop 1 (List.drop 1 (List.drop 1 (List.drop 1 (List.drop 1 (List.getD es (Int.toNat i) [])))))) 0 d0)), mkS (strD (List.getD (List.drop 1 (List.drop 1 (List.drop 1 (List.drop 1 (List.drop 1 (List.drop 1 (List.getD es (Int.toNat i) []))))))) 0 d0))], mkI .i64 (kindI (intD (List.getD (List.getD es (Int.toNat i) []) 0 d0))), mkB false, mkB ((kindI (intD (List.getD (List.getD es (Int.toNat i) []) 0 d0))) == (0 : Int))] ++ (jks 15 ++ ([mkB true, mkB ((kindI (intD (List.getD (List.getD es (Int.toNat i) []) 0 d0))) == (1 : Int)), AV.rf 1 0, AV.rf 2 (0 + 1), mkI .i64 (intD (List.getD (List.drop 1 (List.getD es (Int.toNat i) [])) 0 d0)), AV.rf 2 (0 + 6), mkS (strD (List.getD (List.drop 1 (List.drop 1 (List.drop 1 (List.drop 1 (List.drop 1 (List.drop 1 (List.getD es (Int.toNat i) []))))))) 0 d0)), mkI .i64 e] ++ (jks 73))))), [Ob.bun (famR (FamD.mk (KK.int IntKind.i64) (Shp.box SK) l')), Ob.box [AV.mp (if 1 < 2 then 0 else 4 + (1 - 2)), mkI .i64 la_1, mkI .i64 mo_1, mkI .i64 le], Ob.box [mkI .i64 (intD (List.getD (List.getD es (Int.toNat i) []) 0 d0)), mkI .i64 (intD (List.getD (List.drop 1 (List.getD es (Int.toNat i) [])) 0 d0)), mkI .i64 (intD (List.getD (List.drop 1 (List.drop 1 (List.getD es (Int.toNat i) []))) 0 d0)), mkI .i64 (intD (List.getD (List.drop 1 (List.drop 1 (List.drop 1 (List.getD es (Int.toNat i) [])))) 0 d0)), mkS (strD (List.getD (List.drop 1 (List.drop 1 (List.drop 1 (List.drop 1 (List.getD es (Int.toNat i) []))))) 0 d0)), mkS (strD (List.getD (List.drop 1 (List.drop 1 (List.drop 1 (List.drop 1 (List.drop 1 (List.getD es (Int.toNat i) [])))))) 0 d0)), mkS (strD (List.getD (List.drop 1 (List.drop 1 (List.drop 1 (List.drop 1 (List.drop 1 (List.drop 1 (List.getD es (Int.toNat i) []))))))) 0 d0))], Ob.gone, Ob.gone]⟩)) (
     bcase ((kindI (intD (List.getD (List.getD es (Int.toNat i) []) 0 d0))) == (2 : Int)) (
      ∃ (l_1 : FLs),
      ∃ (la_1 : Int),
      ∃ (mo_1 : Int),
      ∃ (le : Int),
      ∃ (id : Int),
      ∃ (now_1 : Int),
      ([AV.rf 0 0, mkI .i64 (intD (List.getD (List.drop 1 (List.getD es (Int.toNat i) [])) 0 d0)), mkI .i64 (IntKind.wrap .i64 (now + (IntKind.wrap .i64 (Int.tmod (IntKind.wrap .u64 (intD (List.getD (List.drop 1 (List.drop 1 (List.drop 1 (List.getD es (Int.toNat i) [])))) 0 d0))) (10 : Int)))))] = [AV.rf 0 0, mkI .i64 id, mkI .i64 now_1]) ∧
      ([Ob.box [AV.mp (0 + 1), mkI .i64 la, mkI .i64 mo, mkI .i64 20], Ob.bun (famR (FamD.mk (KK.int IntKind.i64) (Shp.box SK) l)), Ob.gh [AV.rf 0 0]] = [Ob.box [AV.mp 1, mkI .i64 la_1, mkI .i64 mo_1, mkI .i64 le], Ob.bun (famR (FamD.mk (KK.int IntKind.i64) (Shp.box SK) l_1)), Ob.gh [AV.rf 0 0]]) ∧
      (TbC l_1 la_1 mo_1) ∧
      (((0 : Int) ≤ le) ∧ (le ≤ (1000 : Int))) ∧ (
       ∀ (z : Bool),
       ∀ (e : Int),
       ∀ (l' : FLs),
       ((∃ (b : Nat), ∃ (r : Rec), (((Key.i IntKind.i64 id, (b, r)) ∈ l_1) ∧ ((((r.i (4 : Nat)) = (-(1 : Int))) → False) ∧ (((0 : Int) ≤ now_1) ∧ (now_1 ≤ (1099511627776 : Int))))) ∧ ((e = (0 : Int)) ∧ ((((r.s (3 : Nat)) = ⟨#[]⟩) ∧ ((z = false) ∧ (l' = (delF (Key.i IntKind.i64 id) l_1)))) ∨ ((((r.s (3 : Nat)) = ⟨#[]⟩) → False) ∧ ((z = true) ∧ (l' = (putM b (Rec.put (Rec.put r (4 : Nat) (mkI .i64 (-(1 : Int)))) (5 : Nat) (mkI .i64 (now_1 + le))) l_1))))))) ∨ (((e = (0 : Int)) → False) ∧ ((l' = l_1) ∧ (∀ (b : Nat), ∀ (r : Rec), (((Key.i IntKind.i64 id, (b, r)) ∈ l_1) ∧ ((((r.i (4 : Nat)) = (-(1 : Int))) → False) ∧ (((0 : Int) ≤ now_1) ∧ (now_1 ≤ (1099511627776 : Int))))) → False)))) →
       ((Option.some (Ob.gh [AV.rf 0 0])) = (Option.some (Ob.gh [AV.rf 0 0]))) ∧
       ALoop (aCode KL GBo (cAt [1, 1, 1, 1, 1, 1, 0, 1, 0, 0, 1, 0, 0, 1, 1, 1, 1, 0, 1, 0, 0] Tryd.b6)) (rBo_b_k0 st inv μ kk Mx es now i l la mo q) ⟨[mkI .i64 Mx, AV.d (.sl es), AV.jk, AV.jk, mkB false, AV.rf 1 0, mkI .i64 (IntKind.wrap .i64 (now + (IntKind.wrap .i64 (Int.tmod (IntKind.wrap .u64 (intD (List.getD (List.drop 1 (List.drop 1 (List.drop 1 (List.getD es (Int.toNat i) [])))) 0 d0))) (10 : Int))))), mkI .i64 i, AV.rf 2 0, AV.jk, AV.jk, AV.jk, AV.jk, AV.jk, mkI .i64 0, mkI .i64 0] ++ (jks 11 ++ ([mkI .i64 i, AV.d (.sl es), mkI .i64 ((List.length es) : Int), mkB true, AV.jk, AV.jk, AV.d (.sl es), mkI .i64 i, AV.ep (List.getD es (Int.toNat i) []), AV.ag [mkI .i64 (intD (List.getD (List.getD es (Int.toNat i) []) 0 d0)), mkI .i64 (intD (List.getD (List.drop 1 (List.getD es (Int.toNat i) [])) 0 d0)), mkI .i64 (intD (List.getD (List.drop 1 (List.drop 1 (List.getD es (Int.toNat i) []))) 0 d0)), mkI .i64 (intD (List.getD (List.drop 1 (List.drop 1 (List.drop 1 (List.getD es (Int.toNat i) [])))) 0 d0)), mkS (strD (List.getD (List.drop 1 (List.drop 1 (List.drop 1 (List.drop 1 (List.getD es (Int.toNat i) []))))) 0 d0)), mkS (strD (List.getD (List.drop 1 (List.drop 1 (List.drop 1 (List.drop 1 (List.drop 1 (List.getD es (Int.toNat i) [])))))) 0 d0)), mkS (strD (List.getD (List.drop 1 (List.drop 1 (List.drop 1 (List.drop 1 (List.drop 1 (List.drop 1 (List.getD es (Int.toNat i) []))))))) 0 d0))], mkI .i64 now, AV.rf 2 (0 + 3), mkI .i64 (intD (List.getD (List.drop 1 (List.drop 1 (List.drop 1 (List.getD es (Int.toNat i) [])))) 0 d0)), mkI .u64 (IntKind.wrap .u64 (intD (List.getD (List.drop 1 (List.drop 1 (List.drop 1 (List.getD es (Int.toNat i) [])))) 0 d0))), mkI .u64 (Int.tmod (IntKind.wrap .u64 (intD (List.getD (List.drop 1 (List.drop 1 (List.drop 1 (List.getD es (Int.toNat i) [])))) 0 d0))) (10 : Int)), mkI .i64 (IntKind.wrap .i64 (Int.tmod (IntKind.wrap .u64 (intD (List.getD (List.drop 1 (List.drop 1 (List.drop 1 (List.getD es (Int.toNat i) [])))) 0 d0))) (10 : Int))), mkI .i64 (IntKind.wrap .i64 (now + (IntKind.wrap .i64 (Int.tmod (IntKind.wrap .u64 (intD (List.getD (List.drop 1 (List.drop 1 (List.drop 1 (List.getD es (Int.toNat i) [])))) 0 d0))) (10 : Int))))), AV.ag [mkI .i64 (intD (List.getD (List.getD es (Int.toNat i) []) 0 d0)), mkI .i64 (intD (List.getD (List.drop 1 (List.getD es (Int.toNat i) [])) 0 d0)), mkI .i64 (intD (List.getD (List.drop 1 (List.drop 1 (List.getD es (Int.toNat i) []))) 0 d0)), mkI .i64 (intD (List.getD (List.drop 1 (List.drop 1 (List.drop 1 (List.getD es (Int.toNat i) [])))) 0 d0)), mkS (strD (List.getD (List.drop 1 (List.drop 1 (List.drop 1 (List.drop 1 (List.getD es (Int.toNat i) []))))) 0 d0)), mkS (strD (List.getD (List.drop 1 (List.drop 1 (List.drop 1 (List.drop 1 (List.drop 1 (List.getD es (Int.toNat i) [])))))) 0 d0)), mkS (strD (List.getD (List.drop 1 (List.drop 1 (List.drop 1 (List.drop 1 (List.drop 1 (List.drop 1 (List.getD es (Int.toNat i) []))))))) 0 d0))], mkI .i64 (kindI (intD (List.getD (List.getD es (Int.toNat i) []) 0 d0))), mkB false, mkB ((kindI (intD (List.getD (List.getD es (Int.toNat i) []) 0 d0))) == (0 : Int))] ++ (jks 15 ++ ([mkB false, mkB ((kindI (intD (List.getD (List.getD es (Int.toNat i) []) 0 d0))) == (1 : Int)), AV.jk, AV.jk, AV.jk, AV.jk, AV.jk, AV.jk, mkB true, mkB ((kindI (intD (List.getD (List.getD es (Int.toNat i) []) 0 d0))) == (2 : Int)), AV.rf 1 0, AV.rf 2 (0 + 1), mkI .i64 (intD (List.getD (List.drop 1 (List.getD es (Int.toNat i) [])) 0 d0)), mkI .i64 (IntKind.wrap .i64 (now + (IntKind.wrap .i64 (Int.tmod (IntKind.wrap .u64 (intD (List.getD (List.drop 1 (List.drop 1 (List.drop 1 (List.getD es (Int.toNat i) [])))) 0 d0))) (10 : Int))))), AV.tp [mkB z, mkI .i64 e]] ++ (jks 66))))), [Ob.bun (famR (FamD.mk (KK.int IntKind.i64) (Shp.box SK) l')), Ob.box [AV.mp (if 1 < 2 then 0 else 4 + (1 - 2)), mkI .i64 la_1, mkI .i64 mo_1, mkI .i64 le], Ob.box [mkI .i64 (intD (List.getD (List.getD es (Int.toNat i) []) 0 d0)), mkI .i64 (intD (List.getD (List.drop 1 (List.getD es (Int.toNat i) [])) 0 d0)), mkI .i64 (intD (List.getD (List.drop 1 (List.drop 1 (List.getD es (Int.toNat i) []))) 0 d0)), mkI .i64 (intD (List.getD (List.drop 1 (List.drop 1 (List.drop 1 (List.getD es (Int.toNat i) [])))) 0 d0)), mkS (strD (List.getD (List.drop 1 (List.drop 1 (List.drop 1 (List.drop 1 (List.getD es (Int.toNat i) []))))) 0 d0)), mkS (strD (List.getD (List.drop 1 (List.drop 1 (List.drop 1 (List.drop 1 (List.drop 1 (List.getD es (Int.toNat i) [])))))) 0 d0)), mkS (strD (List.getD (List.drop 1 (List.drop 1 (List.drop 1 (List.drop 1 (List.drop 1 (List.drop 1 (List.getD es (Int.toNat i) []))))))) 0 d0))], Ob.gone, Ob.gone]⟩)) (
      bcase ((kindI (intD (List.getD (List.getD es (Int.toNat i) []) 0 d0))) == (3 : Int)) (
       ∃ (l_1 : FLs),
       ∃ (la_1 : Int),
       ∃ (mo_1 : Int),
       ∃ (le : Int),
       ∃ (tok : ByteArray),
       ∃ (c : Int),
       ∃ (now_1 : Int),
       ([AV.rf 0 0, mkS (strD (List.getD (List.drop 1 (List.drop 1 (List.drop 1 (List.drop 1 (List.drop 1 (List.drop 1 (List.getD es (Int.toNat i) []))))))) 0 d0)), mkI .i64 (intD (List.getD (List.drop 1 (List.drop 1 (List.getD es (Int.toNat i) []))) 0 d0)), mkI .i64 (IntKind.wrap .i64 (now + (IntKind.wrap .i64 (Int.tmod (IntKind.wrap .u64 (intD (List.getD (List.drop 1 (List.drop 1 (List.drop 1 (List.getD es (Int.toNat i) [])))) 0 d0))) (10 : Int)))))] = [AV.rf 0 0, mkS tok, mkI .i64 c, mkI .i64 now_1]) ∧
       ([Ob.box [AV.mp (0 + 1), mkI .i64 la, mkI .i64 mo, mkI .i64 20], Ob.bun (famR (FamD.mk (KK.int IntKind.i64) (Shp.box SK) l)), Ob.gh [AV.rf 0 0]] = [Ob.box [AV.mp 1, mkI .i64 la_1, mkI .i64 mo_1, mkI .i64 le], Ob.bun (famR (FamD.mk (KK.int IntKind.i64) (Shp.box SK) l_1)), Ob.gh [AV.rf 0 0]]) ∧
       (TbC l_1 la_1 mo_1) ∧ (
        ∀ (a : Int),
        ∀ (z : Int),
        ∀ (e : Int),
        ∀ (l' : FLs),
        (((e = (0 : Int)) ∧ (∃ (k : Key), ∃ (b : Nat), ∃ (r : Rec), ((firstE (pWi tok) l_1) = (Option.some (k, (b, r)))) ∧ ((a = (r.i (0 : Nat))) ∧ ((z = (r.i (4 : Nat))) ∧ (((firstE (pOn c) l_1) = Option.none) ∧ (l' = (putM b (Rec.put (Rec.put r (4 : Nat) (mkI .i64 c)) (5 : Nat) (mkI .i64 0)) l_1))))))) ∨ (((e = (0 : Int)) → False) ∧ (l' = l_1))) →
        ((Option.some (Ob.gh [AV.rf 0 0])) = (Option.some (Ob.gh [AV.rf 0 0]))) ∧ (
         ∃ (l_2 : FLs),
         ∃ (la_2 : Int),
         ∃ (mo_2 : Int),
         ∃ (le_1 : Int),
         ∃ (id : Int),
         ([AV.rf 0 0, mkI .i64 a] = [AV.rf 0 0, mkI .i64 id]) ∧
         ([Ob.box [AV.mp (0 + 1), mkI .i64 la_1, mkI .i64 mo_1, mkI .i64 le], Ob.bun (famR (FamD.mk (KK.int IntKind.i64) (Shp.box SK) l')), Ob.gh [AV.rf 0 0]] = [Ob.box [AV.mp 1, mkI .i64 la_2, mkI .i64 mo_2, mkI .i64 le_1], Ob.bun (famR (FamD.mk (KK.int IntKind.i64) (Shp.box SK) l_2)), Ob.gh [AV.rf 0 0]]) ∧
         (TbC l_2 la_2 mo_2) ∧
         (∀ (b : Nat), ∀ (r : Rec), ((Key.i IntKind.i64 id, (b, r)) ∈ l_2) → ((Option.some (Ob.gh [AV.rf 0 0])) = (Option.some (Ob.gh [AV.rf 0 0]))) ∧ (bcase (e == (0 : Int)) (bcase (!(decide ((r.s (3 : Nat)) = (strD (List.getD (List.drop 1 (List.drop 1 (List.drop 1 (List.drop 1 (List.drop 1 (List.drop 1 (List.getD es (Int.toNat i) []))))))) 0 d0))))) (q (mkB false)) (bcase ((r.i (4 : Nat)) != (intD (List.getD (List.drop 1 (List.drop 1 (List.getD es (Int.toNat i) []))) 0 d0))) (q (mkB false)) (bcase ((r.i (5 : Nat)) != (0 : Int)) (q (mkB false)) (ALoop (aCode KL GBo (cAt [1, 1, 1, 1, 1, 1, 0, 1, 0, 0, 1, 0, 0, 1, 1, 1, 1, 0, 1, 0, 0] Tryd.b6)) (rBo_b_k0 st inv μ kk Mx es now i l la mo q) ⟨[mkI .i64 Mx, AV.d (.sl es), AV.jk, AV.jk, mkB false, AV.rf 1 0, mkI .i64 (IntKind.wrap .i64 (now + (IntKind.wrap .i64 (Int.tmod (IntKind.wrap .u64 (intD (List.getD (List.drop 1 (List.drop 1 (List.drop 1 (List.getD es (Int.toNat i) [])))) 0 d0))) (10 : Int))))), mkI .i64 i, AV.rf 2 0, mkI .i64 a, mkI .i64 z, mkI .i64 e, AV.rf 7 0, mkB true, mkI .i64 0, mkI .i64 0] ++ (jks 11 ++ ([mkI .i64 i, AV.d (.sl es), mkI .i64 ((List.length es) : Int), mkB true, AV.jk, AV.jk, AV.d (.sl es), mkI .i64 i, AV.ep (List.getD es (Int.toNat i) []), AV.ag [mkI .i64 (intD (List.getD (List.getD es (Int.toNat i) []) 0 d0)), mkI .i64 (intD (List.getD (List.drop 1 (List.getD es (Int.toNat i) [])) 0 d0)), mkI .i64 (intD (List.getD (List.drop 1 (List.drop 1 (List.getD es (Int.toNat i) []))) 0 d0)), mkI .i64 (intD (List.getD (List.drop 1 (List.drop 1 (List.drop 1 (List.getD es (Int.toNat i) [])))) 0 d0)), mkS (strD (List.getD (List.drop 1 (List.drop 1 (List.drop 1 (List.drop 1 (List.getD es (Int.toNat i) []))))) 0 d0)), mkS (strD (List.getD (List.drop 1 (List.drop 1 (List.drop 1 (List.drop 1 (List.drop 1 (List.getD es (Int.toNat i) [])))))) 0 d0)), mkS (strD (List.getD (List.drop 1 (List.drop 1 (List.drop 1 (List.drop 1 (List.drop 1 (List.drop 1 (List.getD es (Int.toNat i) []))))))) 0 d0))], mkI .i64 now, AV.rf 2 (0 + 3), mkI .i64 (intD (List.getD (List.drop 1 (List.drop 1 (List.drop 1 (List.getD es (Int.toNat i) [])))) 0 d0)), mkI .u64 (IntKind.wrap .u64 (intD (List.getD (List.drop 1 (List.drop 1 (List.drop 1 (List.getD es (Int.toNat i) [])))) 0 d0))), mkI .u64 (Int.tmod (IntKind.wrap .u64 (intD (List.getD (List.drop 1 (List.drop 1 (List.drop 1 (List.getD es (Int.toNat i) [])))) 0 d0))) (10 : Int)), mkI .i64 (IntKind.wrap .i64 (Int.tmod (IntKind.wrap .u64 (intD (List.getD (List.drop 1 (List.drop 1 (List.drop 1 (List.getD es (Int.toNat i) [])))) 0 d0))) (10 : Int))), mkI .i64 (IntKind.wrap .i64 (now + (IntKind.wrap .i64 (Int.tmod (IntKind.wrap .u64 (intD (List.getD (List.drop 1 (List.drop 1 (List.drop 1 (List.getD es (Int.toNat i) [])))) 0 d0))) (10 : Int))))), AV.ag [mkI .i64 (intD (List.getD (List.getD es (Int.toNat i) []) 0 d0)), mkI .i64 (intD (List.getD (List.drop 1 (List.getD es (Int.toNat i) [])) 0 d0)), mkI .i64 (intD (List.getD (List.drop 1 (List.drop 1 (List.getD es (Int.toNat i) []))) 0 d0)), mkI .i64 (intD (List.getD (List.drop 1 (List.drop 1 (List.drop 1 (List.getD es (Int.toNat i) [])))) 0 d0)), mkS (strD (List.getD (List.drop 1 (List.drop 1 (List.drop 1 (List.drop 1 (List.getD es (Int.toNat i) []))))) 0 d0)), mkS (strD (List.getD (List.drop 1 (List.drop 1 (List.drop 1 (List.drop 1 (List.drop 1 (List.getD es (Int.toNat i) [])))))) 0 d0)), mkS (strD (List.getD (List.drop 1 (List.drop 1 (List.drop 1 (List.drop 1 (List.drop 1 (List.drop 1 (List.getD es (Int.toNat i) []))))))) 0 d0))], mkI .i64 (kindI (intD (List.getD (List.getD es (Int.toNat i) []) 0 d0))), mkB false, mkB ((kindI (intD (List.getD (List.getD es (Int.toNat i) []) 0 d0))) == (0 : Int))] ++ (jks 15 ++ ([mkB false, mkB ((kindI (intD (List.getD (List.getD es (Int.toNat i) []) 0 d0))) == (1 : Int)), AV.jk, AV.jk, AV.jk, AV.jk, AV.jk, AV.jk, mkB false, mkB ((kindI (intD (List.getD (List.getD es (Int.toNat i) []) 0 d0))) == (2 : Int)), AV.jk, AV.jk, AV.jk, AV.jk, AV.jk, mkB true, mkB ((kindI (intD (List.getD (List.getD es (Int.toNat i) []) 0 d0))) == (3 : Int)), AV.tp [mkI .i64 a, mkI .i64 z, mkI .i64 e], AV.rf 1 0, AV.rf 2 (0 + 6), mkS (strD (List.getD (List.drop 1 (List.drop 1 (List.drop 1 (List.drop 1 (List.drop 1 (List.drop 1 (List.getD es (Int.toNat i) []))))))) 0 d0)), AV.rf 2 (0 + 2), mkI .i64 (intD (List.getD (List.drop 1 (List.drop 1 (List.getD es (Int.toNat i) []))) 0 d0)), mkI .i64 (IntKind.wrap .i64 (now + (IntKind.wrap .i64 (Int.tmod (IntKind.wrap .u64 (intD (List.getD (List.drop 1 (List.drop 1 (List.drop 1 (List.getD es (Int.toNat i) [])))) 0 d0))) (10 : Int))))), AV.tp [mkI .i64 a, mkI .i64 z, mkI .i64 e], mkI .i64 a, mkI .i64 z, mkI .i64 e, AV.tp [AV.ag [mkI .i64 (r.i (0 : Nat)), mkS (r.s (1 : Nat)), mkS (r.s (2 : Nat)), mkS (r.s (3 : Nat)), mkI .i64 (r.i (4 : Nat)), mkI .i64 (r.i (5 : Nat))], mkB true], AV.rf 1 0, mkI .i64 a, AV.tp [AV.ag [mkI .i64 (r.i (0 : Nat)), mkS (r.s (1 : Nat)), mkS (r.s (2 : Nat)), mkS (r.s (3 : Nat)), mkI .i64 (r.i (4 : Nat)), mkI .i64 (r.i (5 : Nat))], mkB true], AV.ag [mkI .i64 (r.i (0 : Nat)), mkS (r.s (1 : Nat)), mkS (r.s (2 : Nat)), mkS (r.s (3 : Nat)), mkI .i64 (r.i (4 : Nat)), mkI .i64 (r.i (5 : Nat))], mkB true, mkI .i64 e, mkB (e == (0 : Int)), mkB true, mkB true, mkB (!true), mkB false, AV.rf 7 (0 + 3), mkS (r.s (3 : Nat)), AV.rf 2 (0 + 6), mkS (strD (List.getD (List.drop 1 (List.drop 1 (List.drop 1 (List.drop 1 (List.drop 1 (List.drop 1 (List.getD es (Int.toNat i) []))))))) 0 d0)), mkB (!(decide ((r.s (3 : Nat)) = (strD (List.getD (List.drop 1 (List.drop 1 (List.drop 1 (List.drop 1 (List.drop 1 (List.drop 1 (List.getD es (Int.toNat i) []))))))) 0 d0))))), mkB (!(decide ((r.s (3 : Nat)) = (strD (List.getD (List.drop 1 (List.drop 1 (List.drop 1 (List.drop 1 (List.drop 1 (List.drop 1 (List.getD es (Int.toNat i) []))))))) 0 d0))))), mkB false, AV.rf 7 (0 + 4), mkI .i64 (r.i (4 : Nat)), AV.rf 2 (0 + 2), mkI .i64 (intD (List.getD (List.drop 1 (List.drop 1 (List.getD es (Int.toNat i) []))) 0 d0)), mkB ((r.i (4 : Nat)) != (intD (List.getD (List.drop 1 (List.drop 1 (List.getD es (Int.toNat i) []))) 0 d0))), mkB ((r.i (4 : Nat)) != (intD (List.getD (List.drop 1 (List.drop 1 (List.getD es (Int.toNat i) []))) 0 d0))), mkB false, AV.rf 7 (0 + 5), mkI .i64 (r.i (5 : Nat)), mkB ((r.i (5 : Nat)) != (0 : Int)), mkB ((r.i (5 : Nat)) != (0 : Int)), mkB false] ++ (jks 22))))), [Ob.bun (famR (FamD.mk (KK.int IntKind.i64) (Shp.box SK) l_2)), Ob.box [AV.mp (if 1 < 2 then 0 else 6 + (1 - 2)), mkI .i64 la_2, mkI .i64 mo_2, mkI .i64 le_1], Ob.box [mkI .i64 (intD (List.getD (List.getD es (Int.toNat i) []) 0 d0)), mkI .i64 (intD (List.getD (List.drop 1 (List.getD es (Int.toNat i) [])) 0 d0)), mkI .i64 (intD (List.getD (List.drop 1 (List.drop 1 (List.getD es (Int.toNat i) []))) 0 d0)), mkI .i64 (intD (List.getD (List.drop 1 (List.drop 1 (List.drop 1 (List.getD es (Int.toNat i) [])))) 0 d0)), mkS (strD (List.getD (List.drop 1 (List.drop 1 (List.drop 1 (List.drop 1 (List.getD es (Int.toNat i) []))))) 0 d0)), mkS (strD (List.getD (List.drop 1 (List.drop 1 (List.drop 1 (List.drop 1 (List.drop 1 (List.getD es (Int.toNat i) [])))))) 0 d0)), mkS (strD (List.getD (List.drop 1 (List.drop 1 (List.drop 1 (List.drop 1 (List.drop 1 (List.drop 1 (List.getD es (Int.toNat i) []))))))) 0 d0))], Ob.gone, Ob.gone, Ob.gone, Ob.gone, Ob.box [mkI .i64 (r.i (0 : Nat)), mkS (r.s (1 : Nat)), mkS (r.s (2 : Nat)), mkS (r.s (3 : Nat)), mkI .i64 (r.i (4 : Nat)), mkI .i64 (r.i (5 : Nat))]]⟩)))) (ALoop (aCode KL GBo (cAt [1, 1, 1, 1, 1, 1, 0, 1, 0, 0, 1, 0, 0, 1, 1, 1, 1, 0, 1, 0, 0] Tryd.b6)) (rBo_b_k0 st inv μ kk Mx es now i l la mo q) ⟨[mkI .i64 Mx, AV.d (.sl es), AV.jk, AV.jk, mkB false, AV.rf 1 0, mkI .i64 (IntKind.wrap .i64 (now + (IntKind.wrap .i64 (Int.tmod (IntKind.wrap .u64 (intD (List.getD (List.drop 1 (List.drop 1 (List.drop 1 (List.getD es (Int.toNat i) [])))) 0 d0))) (10 : Int))))), mkI .i64 i, AV.rf 2 0, mkI .i64 a, mkI .i64 z, mkI .i64 e, AV.rf 7 0, mkB true, mkI .i64 0, mkI .i64 0] ++ (jks 11 ++ ([mkI .i64 i, AV.d (.sl es), mkI .i64 ((List.length es) : Int), mkB true, AV.jk, AV.jk, AV.d (.sl es), mkI .i64 i, AV.ep (List.getD es (Int.toNat i) []), AV.ag [mkI .i64 (intD (List.getD (List.getD es (Int.toNat i) []) 0 d0)), mkI .i64 (intD (List.getD (List.drop 1 (List.getD es (Int.toNat i) [])) 0 d0)), mkI .i64 (intD (List.getD (List.drop 1 (List.drop 1 (List.getD es (Int.toNat i) []))) 0 d0)), mkI .i64 (intD (List.getD (List.drop 1 (List.drop 1 (List.drop 1 (List.getD es (Int.toNat i) [])))) 0 d0)), mkS (strD (List.getD (List.drop 1 (List.drop 1 (List.drop 1 (List.drop 1 (List.getD es (Int.toNat i) []))))) 0 d0)), mkS (strD (List.getD (List.drop 1 (List.drop 1 (List.drop 1 (List.drop 1 (List.drop 1 (List.getD es (Int.toNat i) [])))))) 0 d0)), mkS (strD (List.getD (List.drop 1 (List.drop 1 (List.drop 1 (List.drop 1 (List.drop 1 (List.drop 1 (List.getD es (Int.toNat i) []))))))) 0 d0))], mkI .i64 now, AV.rf 2 (0 + 3), mkI .i64 (intD (List.getD (List.drop 1 (List.drop 1 (List.drop 1 (List.getD es (Int.toNat i) [])))) 0 d0)), mkI .u64 (IntKind.wrap .u64 (intD (List.getD (List.drop 1 (List.drop 1 (List.drop 1 (List.getD es (Int.toNat i) [])))) 0 d0))), mkI .u64 (Int.tmod (IntKind.wrap .u64 (intD (List.getD (List.drop 1 (List.drop 1 (List.drop 1 (List.getD es (Int.toNat i) [])))) 0 d0))) (10 : Int)), mkI .i64 (IntKind.wrap .i64 (Int.tmod (IntKind.wrap .u64 (intD (List.getD (List.drop 1 (List.drop 1 (List.drop 1 (List.getD es (Int.toNat i) [])))) 0 d0))) (10 : Int))), mkI .i64 (IntKind.wrap .i64 (now + (IntKind.wrap .i64 (Int.tmod (IntKind.wrap .u64 (intD (List.getD (List.drop 1 (List.drop 1 (List.drop 1 (List.getD es (Int.toNat i) [])))) 0 d0))) (10 : Int))))), AV.ag [mkI .i64 (intD (List.getD (List.getD es (Int.toNat i) []) 0 d0)), mkI .i64 (intD (List.getD (List.drop 1 (List.getD es (Int.toNat i) [])) 0 d0)), mkI .i64 (intD (List.getD (List.drop 1 (List.drop 1 (List.getD es (Int.toNat i) []))) 0 d0)), mkI .i64 (intD (List.getD (List.drop 1 (List.drop 1 (List.drop 1 (List.getD es (Int.toNat i) [])))) 0 d0)), mkS (strD (List.getD (List.drop 1 (List.drop 1 (List.drop 1 (List.drop 1 (List.getD es (Int.toNat i) []))))) 0 d0)), mkS (strD (List.getD (List.drop 1 (List.drop 1 (List.drop 1 (List.drop 1 (List.drop 1 (List.getD es (Int.toNat i) [])))))) 0 d0)), mkS (strD (List.getD (List.drop 1 (List.drop 1 (List.drop 1 (List.drop 1 (List.drop 1 (List.drop 1 (List.getD es (Int.toNat i) []))))))) 0 d0))], mkI .i64 (kindI (intD (List.getD (List.getD es (Int.toNat i) []) 0 d0))), mkB false, mkB ((kindI (intD (List.getD (List.getD es (Int.toNat i) []) 0 d0))) == (0 : Int))] ++ (jks 15 ++ ([mkB false, mkB ((kindI (intD (List.getD (List.getD es (Int.toNat i) []) 0 d0))) == (1 : Int)), AV.jk, AV.jk, AV.jk, AV.jk, AV.jk, AV.jk, mkB false, mkB ((kindI (intD (List.getD (List.getD es (Int.toNat i) []) 0 d0))) == (2 : Int)), AV.jk, AV.jk, AV.jk, AV.jk, AV.jk, mkB true, mkB ((kindI (intD (List.getD (List.getD es (Int.toNat i) []) 0 d0))) == (3 : Int)), AV.tp [mkI .i64 a, mkI .i64 z, mkI .i64 e], AV.rf 1 0, AV.rf 2 (0 + 6), mkS (strD (List.getD (List.drop 1 (List.drop 1 (List.drop 1 (List.drop 1 (List.drop 1 (List.drop 1 (List.getD es (Int.toNat i) []))))))) 0 d0)), AV.rf 2 (0 + 2), mkI .i64 (intD (List.getD (List.drop 1 (List.drop 1 (List.getD es (Int.toNat i) []))) 0 d0)), mkI .i64 (IntKind.wrap .i64 (now + (IntKind.wrap .i64 (Int.tmod (IntKind.wrap .u64 (intD (List.getD (List.drop 1 (List.drop 1 (List.drop 1 (List.getD es (Int.toNat i) [])))) 0 d0))) (10 : Int))))), AV.tp [mkI .i64 a, mkI .i64 z, mkI .i64 e], mkI .i64 a, mkI .i64 z, mkI .i64 e, AV.tp [AV.ag [mkI .i64 (r.i (0 : Nat)), mkS (r.s (1 : Nat)), mkS (r.s (2 : Nat)), mkS (r.s (3 : Nat)), mkI .i64 (r.i (4 : Nat)), mkI .i64 (r.i (5 : Nat))], mkB true], AV.rf 1 0, mkI .i64 a, AV.tp [AV.ag [mkI .i64 (r.i (0 : Nat)), mkS (r.s (1 : Nat)), mkS (r.s (2 : Nat)), mkS (r.s (3 : Nat)), mkI .i64 (r.i (4 : Nat)), mkI .i64 (r.i (5 : Nat))], mkB true], AV.ag [mkI .i64 (r.i (0 : Nat)), mkS (r.s (1 : Nat)), mkS (r.s (2 : Nat)), mkS (r.s (3 : Nat)), mkI .i64 (r.i (4 : Nat)), mkI .i64 (r.i (5 : Nat))], mkB true, mkI .i64 e, mkB (e == (0 : Int)), mkB false, AV.tp [], AV.tp [], AV.tp [], AV.tp [], AV.tp [], AV.tp [], AV.tp [], AV.tp [], AV.tp [], AV.tp [], AV.tp [], AV.tp [], AV.tp [], AV.tp [], AV.tp [], AV.tp [], AV.tp [], AV.tp [], AV.tp [], AV.tp [], AV.tp [], mkB false] ++ (jks 22))))), [Ob.bun (famR (FamD.mk (KK.int IntKind.i64) (Shp.box SK) l_2)), Ob.box [AV.mp (if 1 < 2 then 0 else 6 + (1 - 2)), mkI .i64 la_2, mkI .i64 mo_2, mkI .i64 le_1], Ob.box [mkI .i64 (intD (List.getD (List.getD es (Int.toNat i) []) 0 d0)), mkI .i64 (intD (List.getD (List.drop 1 (List.getD es (Int.toNat i) [])) 0 d0)), mkI .i64 (intD (List.getD (List.drop 1 (List.drop 1 (List.getD es (Int.toNat i) []))) 0 d0)), mkI .i64 (intD (List.getD (List.drop 1 (List.drop 1 (List.drop 1 (List.getD es (Int.toNat i) [])))) 0 d0)), mkS (strD (List.getD (List.drop 1 (List.drop 1 (List.drop 1 (List.drop 1 (List.getD es (Int.toNat i) []))))) 0 d0)), mkS (strD (List.getD (List.drop 1 (List.drop 1 (List.drop 1 (List.drop 1 (List.drop 1 (List.getD es (Int.toNat i) [])))))) 0 d0)), mkS (strD (List.getD (List.drop 1 (List.drop 1 (List.drop 1 (List.drop 1 (List.drop 1 (List.drop 1 (List.getD es (Int.toNat i) []))))))) 0 d0))], Ob.gone, Ob.gone, Ob.gone, Ob.gone, Ob.box [mkI .i64 (r.i (0 : Nat)), mkS (r.s (1 : Nat)), mkS (r.s (2 : Nat)), mkS (r.s (3 : Nat)), mkI .i64 (r.i (4 : Nat)), mkI .i64 (r.i (5 : Nat))]]⟩))) ∧ (
          (∀ (e_1 : Prod Key (Prod Nat Rec)), (e_1 ∈ l_2) → ((Prod.fst e_1) = (Key.i IntKind.i64 id)) → False) →
          ((Option.some (Ob.gh [AV.rf 0 0])) = (Option.some (Ob.gh [AV.rf 0 0]))) ∧
          bcase (e == (0 : Int)) (
           q (mkB false)) (
           ALoop (aCode KL GBo (cAt [1, 1, 1, 1, 1, 1, 0, 1, 0, 0, 1, 0, 0, 1, 1, 1, 1, 0, 1, 0, 0] Tryd.b6)) (rBo_b_k0 st inv μ kk Mx es now i l la mo q) ⟨[mkI .i64 Mx, AV.d (.sl es), AV.jk, AV.jk, mkB false, AV.rf 1 0, mkI .i64 (IntKind.wrap .i64 (now + (IntKind.wrap .i64 (Int.tmod (IntKind.wrap .u64 (intD (List.getD (List.drop 1 (List.drop 1 (List.drop 1 (List.getD es (Int.toNat i) [])))) 0 d0))) (10 : Int))))), mkI .i64 i, AV.rf 2 0, mkI .i64 a, mkI .i64 z, mkI .i64 e, AV.rf 7 0, mkB false, mkI .i64 0, mkI .i64 0] ++ (jks 11 ++ ([mkI .i64 i, AV.d (.sl es), mkI .i64 ((List.length es) : Int), mkB true, AV.jk, AV.jk, AV.d (.sl es), mkI .i64 i, AV.ep (List.getD es (Int.toNat i) []), AV.ag [mkI .i64 (intD (List.getD (List.getD es (Int.toNat i) []) 0 d0)), mkI .i64 (intD (List.getD (List.drop 1 (List.getD es (Int.toNat i) [])) 0 d0)), mkI .i64 (intD (List.getD (List.drop 1 (List.drop 1 (List.getD es (Int.toNat i) []))) 0 d0)), mkI .i64 (intD (List.getD (List.drop 1 (List.drop 1 (List.drop 1 (List.getD es (Int.toNat i) [])))) 0 d0)), mkS (strD (List.getD (List.drop 1 (List.drop 1 (List.drop 1 (List.drop 1 (List.getD es (Int.toNat i) []))))) 0 d0)), mkS (strD (List.getD (List.drop 1 (List.drop 1 (List.drop 1 (List.drop 1 (List.drop 1 (List.getD es (Int.toNat i) [])))))) 0 d0)), mkS (strD (List.getD (List.drop 1 (List.drop 1 (List.drop 1 (List.drop 1 (List.drop 1 (List.drop 1 (List.getD es (Int.toNat i) []))))))) 0 d0))], mkI .i64 now, AV.rf 2 (0 + 3), mkI .i64 (intD (List.getD (List.drop 1 (List.drop 1 (List.drop 1 (List.getD es (Int.toNat i) [])))) 0 d0)), mkI .u64 (IntKind.wrap .u64 (intD (List.getD (List.drop 1 (List.drop 1 (List.drop 1 (List.getD es (Int.toNat i) [])))) 0 d0))), mkI .u64 (Int.tmod (IntKind.wrap .u64 (intD (List.getD (List.drop 1 (List.drop 1 (List.drop 1 (List.getD es (Int.toNat i) [])))) 0 d0))) (10 : Int)), mkI .i64 (IntKind.wrap .i64 (Int.tmod (IntKind.wrap .u64 (intD (List.getD (List.drop 1 (List.drop 1 (List.drop 1 (List.getD es (Int.toNat i) [])))) 0 d0))) (10 : Int))), mkI .i64 (IntKind.wrap .i64 (now + (IntKind.wrap .i64 (Int.tmod (IntKind.wrap .u64 (intD (List.getD (List.drop 1 (List.drop 1 (List.drop 1 (List.getD es (Int.toNat i) [])))) 0 d0))) (10 : Int))))), AV.ag [mkI .i64 (intD (List.getD (List.getD es (Int.toNat i) []) 0 d0)), mkI .i64 (intD (List.getD (List.drop 1 (List.getD es (Int.toNat i) [])) 0 d0)), mkI .i64 (intD (List.getD (List.drop 1 (List.drop 1 (List.getD es (Int.toNat i) []))) 0 d0)), mkI .i64 (intD (List.getD (List.drop 1 (List.drop 1 (List.drop 1 (List.getD es (Int.toNat i) [])))) 0 d0)), mkS (strD (List.getD (List.drop 1 (List.drop 1 (List.drop 1 (List.drop 1 (List.getD es (Int.toNat i) []))))) 0 d0)), mkS (strD (List.getD (List.drop 1 (List.drop 1 (List.drop 1 (List.drop 1 (List.drop 1 (List.getD es (Int.toNat i) [])))))) 0 d0)), mkS (strD (List.getD (List.drop 1 (List.drop 1 (List.drop 1 (List.drop 1 (List.drop 1 (List.drop 1 (List.getD es (Int.toNat i) []))))))) 0 d0))], mkI .i64 (kindI (intD (List.getD (List.getD es (Int.toNat i) []) 0 d0))), mkB false, mkB ((kindI (intD (List.getD (List.getD es (Int.toNat i) []) 0 d0))) == (0 : Int))] ++ (jks 15 ++ ([mkB false, mkB ((kindI (intD (List.getD (List.getD es (Int.toNat i) []) 0 d0))) == (1 : Int)), AV.jk, AV.jk, AV.jk, AV.jk, AV.jk, AV.jk, mkB false, mkB ((kindI (intD (List.getD (List.getD es (Int.toNat i) []) 0 d0))) == (2 : Int)), AV.jk, AV.jk, AV.jk, AV.jk, AV.jk, mkB true, mkB ((kindI (intD (List.getD (List.getD es (Int.toNat i) []) 0 d0))) == (3 : Int)), AV.tp [mkI .i64 a, mkI .i64 z, mkI .i64 e], AV.rf 1 0, AV.rf 2 (0 + 6), mkS (strD (List.getD (List.drop 1 (List.drop 1 (List.drop 1 (List.drop 1 (List.drop 1 (List.drop 1 (List.getD es (Int.toNat i) []))))))) 0 d0)), AV.rf 2 (0 + 2), mkI .i64 (intD (List.getD (List.drop 1 (List.drop 1 (List.getD es (Int.toNat i) []))) 0 d0)), mkI .i64 (IntKind.wrap .i64 (now + (IntKind.wrap .i64 (Int.tmod (IntKind.wrap .u64 (intD (List.getD (List.drop 1 (List.drop 1 (List.drop 1 (List.getD es (Int.toNat i) [])))) 0 d0))) (10 : Int))))), AV.tp [mkI .i64 a, mkI .i64 z, mkI .i64 e], mkI .i64 a, mkI .i64 z, mkI .i64 e, AV.tp [AV.ag [mkI .i64 0, mkS ⟨#[]⟩, mkS ⟨#[]⟩, mkS ⟨#[]⟩, mkI .i64 0, mkI .i64 0], mkB false], AV.rf 1 0, mkI .i64 a, AV.tp [AV.ag [mkI .i64 0, mkS ⟨#[]⟩, mkS ⟨#[]⟩, mkS ⟨#[]⟩, mkI .i64 0, mkI .i64 0], mkB false], AV.ag [mkI .i64 0, mkS ⟨#[]⟩, mkS ⟨#[]⟩, mkS ⟨#[]⟩, mkI .i64 0, mkI .i64 0], mkB false, mkI .i64 e, mkB (e == (0 : Int)), mkB false, AV.tp [], AV.tp [], AV.tp [], AV.tp [], AV.tp [], AV.tp [], AV.tp [], AV.tp [], AV.tp [], AV.tp [], AV.tp [], AV.tp [], AV.tp [], AV.tp [], AV.tp [], AV.tp [], AV.tp [], AV.tp [], AV.tp [], AV.tp [], AV.tp [], mkB false] ++ (jks 22))))), [Ob.bun (famR (FamD.mk (KK.int IntKind.i64) (Shp.box SK) l_2)), Ob.box [AV.mp (if 1 < 2 then 0 else 6 + (1 - 2)), mkI .i64 la_2, mkI .i64 mo_2, mkI .i64 le_1], Ob.box [mkI .i64 (intD (List.getD (List.getD es (Int.toNat i) []) 0 d0)), mkI .i64 (intD (List.getD (List.drop 1 (List.getD es (Int.toNat i) [])) 0 d0)), mkI .i64 (intD (List.getD (List.drop 1 (List.drop 1 (List.getD es (Int.toNat i) []))) 0 d0)), mkI .i64 (intD (List.getD (List.drop 1 (List.drop 1 (List.drop 1 (List.getD es (Int.toNat i) [])))) 0 d0)), mkS (strD (List.getD (List.drop 1 (List.drop 1 (List.drop 1 (List.drop 1 (List.getD es (Int.toNat i) []))))) 0 d0)), mkS (strD (List.getD (List.drop 1 (List.drop 1 (List.drop 1 (List.drop 1 (List.drop 1 (List.getD es (Int.toNat i) [])))))) 0 d0)), mkS (strD (List.getD (List.drop 1 (List.drop 1 (List.drop 1 (List.drop 1 (List.drop 1 (List.drop 1 (List.getD es (Int.toNat i) []))))))) 0 d0))], Ob.gone, Ob.gone, Ob.gone, Ob.gone, Ob.box [mkI .i64 0, mkS ⟨#[]⟩, mkS ⟨#[]⟩, mkS ⟨#[]⟩, mkI .i64 0, mkI .i64 0]]⟩))))) (
       bcase ((kindI (intD (List.getD (List.getD es (Int.toNat i) []) 0 d0))) == (4 : Int)) (
        ∃ (l_1 : FLs),
        ∃ (la_1 : Int),
        ∃ (mo_1 : Int),
        ∃ (le : Int),
        ∃ (now_1 : Int),
        ([AV.rf 0 0, mkI .i64 (IntKind.wrap .i64 (now + (IntKind.wrap .i64 (Int.tmod (IntKind.wrap .u64 (intD (List.getD (List.drop 1 (List.drop 1 (List.drop 1 (List.getD es (Int.toNat i) [])))) 0 d0))) (10 : Int)))))] = [AV.rf 0 0, mkI .i64 now_1]) ∧
        ([Ob.box [AV.mp (0 + 1), mkI .i64 la, mkI .i64 mo, mkI .i64 20], Ob.bun (famR (FamD.mk (KK.int IntKind.i64) (Shp.box SK) l)), Ob.gh [AV.rf 0 0]] = [Ob.box [AV.mp 1, mkI .i64 la_1, mkI .i64 mo_1, mkI .i64 le], Ob.bun (famR (FamD.mk (KK.int IntKind.i64) (Shp.box SK) l_1)), Ob.gh [AV.rf 0 0]]) ∧
        (TbC l_1 la_1 mo_1) ∧ (
         ∀ (l' : List (Prod Key (Prod Nat Rec))),
         ∀ (ot : List (List D)),
         (List.Sublist l' l_1) →
         ((Option.some (Ob.gh [AV.rf 0 0])) = (Option.some (Ob.gh [AV.rf 0 0]))) ∧
         ALoop (aCode KL GBo (cAt [1, 1, 1, 1, 1, 1, 0, 1, 0, 0, 1, 0, 0, 1, 1, 1, 1, 0, 1, 0, 0] Tryd.b6)) (rBo_b_k0 st inv μ kk Mx es now i l la mo q) ⟨[mkI .i64 Mx, AV.d (.sl es), AV.jk, AV.jk, mkB false, AV.rf 1 0, mkI .i64 (IntKind.wrap .i64 (now + (IntKind.wrap .i64 (Int.tmod (IntKind.wrap .u64 (intD (List.getD (List.drop 1 (List.drop 1 (List.drop 1 (List.getD es (Int.toNat i) [])))) 0 d0))) (10 : Int))))), mkI .i64 i, AV.rf 2 0, AV.jk, AV.jk, AV.jk, AV.jk, AV.jk, mkI .i64 0, mkI .i64 0] ++ (jks 11 ++ ([mkI .i64 i, AV.d (.sl es), mkI .i64 ((List.length es) : Int), mkB true, AV.jk, AV.jk, AV.d (.sl es), mkI .i64 i, AV.ep (List.getD es (Int.toNat i) []), AV.ag [mkI .i64 (intD (List.getD (List.getD es (Int.toNat i) []) 0 d0)), mkI .i64 (intD (List.getD (List.drop 1 (List.getD es (Int.toNat i) [])) 0 d0)), mkI .i64 (intD (List.getD (List.drop 1 (List.drop 1 (List.getD es (Int.toNat i) []))) 0 d0)), mkI .i64 (intD (List.getD (List.drop 1 (List.drop 1 (List.drop 1 (List.getD es (Int.toNat i) [])))) 0 d0)), mkS (strD (List.getD (List.drop 1 (List.drop 1 (List.drop 1 (List.drop 1 (List.getD es (Int.toNat i) []))))) 0 d0)), mkS (strD (List.getD (List.drop 1 (List.drop 1 (List.drop 1 (List.drop 1 (List.drop 1 (List.getD es (Int.toNat i) [])))))) 0 d0)), mkS (strD (List.getD (List.drop 1 (List.drop 1 (List.drop 1 (List.drop 1 (List.drop 1 (List.drop 1 (List.getD es (Int.toNat i) []))))))) 0 d0))], mkI .i64 now, AV.rf 2 (0 + 3), mkI .i64 (intD (List.getD (List.drop 1 (List.drop 1 (List.drop 1 (List.getD es (Int.toNat i) [])))) 0 d0)), mkI .u64 (IntKind.wrap .u64 (intD (List.getD (List.drop 1 (List.drop 1 (List.drop 1 (List.getD es (Int.toNat i) [])))) 0 d0))), mkI .u64 (Int.tmod (IntKind.wrap .u64 (intD (List.getD (List.drop 1 (List.drop 1 (List.drop 1 (List.getD es (Int.toNat i) [])))) 0 d0))) (10 : Int)), mkI .i64 (IntKind.wrap .i64 (Int.tmod (IntKind.wrap .u64 (intD (List.getD (List.drop 1 (List.drop 1 (List.drop 1 (List.getD es (Int.toNat i) [])))) 0 d0))) (10 : Int))), mkI .i64 (IntKind.wrap .i64 (now + (IntKind.wrap .i64 (Int.tmod (IntKind.wrap .u64 (intD (List.getD (List.drop 1 (List.drop 1 (List.drop 1 (List.getD es (Int.toNat i) [])))) 0 d0))) (10 : Int))))), AV.ag [mkI .i64 (intD (List.getD (List.getD es (Int.toNat i) []) 0 d0)), mkI .i64 (intD (List.getD (List.drop 1 (List.getD es (Int.toNat i) [])) 0 d0)), mkI .i64 (intD (List.getD (List.drop 1 (List.drop 1 (List.getD es (Int.toNat i) []))) 0 d0)), mkI .i64 (intD (List.getD (List.drop 1 (List.drop 1 (List.drop 1 (List.getD es (Int.toNat i) [])))) 0 d0)), mkS (strD (List.getD (List.drop 1 (List.drop 1 (List.drop 1 (List.drop 1 (List.getD es (Int.toNat i) []))))) 0 d0)), mkS (strD (List.getD (List.drop 1 (List.drop 1 (List.drop 1 (List.drop 1 (List.drop 1 (List.getD es (Int.toNat i) [])))))) 0 d0)), mkS (strD (List.getD (List.drop 1 (List.drop 1 (List.drop 1 (List.drop 1 (List.drop 1 (List.drop 1 (List.getD es (Int.toNat i) []))))))) 0 d0))], mkI .i64 (kindI (intD (List.getD (List.getD es (Int.toNat i) []) 0 d0))), mkB false, mkB ((kindI (intD (List.getD (List.getD es (Int.toNat i) []) 0 d0))) == (0 : Int))] ++ (jks 15 ++ ([mkB false, mkB ((kindI (intD (List.getD (List.getD es (Int.toNat i) []) 0 d0))) == (1 : Int)), AV.jk, AV.jk, AV.jk, AV.jk, AV.jk, AV.jk, mkB false, mkB ((kindI (intD (List.getD (List.getD es (Int.toNat i) []) 0 d0))) == (2 : Int)), AV.jk, AV.jk, AV.jk, AV.jk, AV.jk, mkB false, mkB ((kindI (intD (List.getD (List.getD es (Int.toNat i) []) 0 d0))) == (3 : Int))] ++ (jks 42 ++ ([mkB true, mkB ((kindI (intD (List.getD (List.getD es (Int.toNat i) []) 0 d0))) == (4 : Int)), AV.rf 1 0, mkI .i64 (IntKind.wrap .i64 (now + (IntKind.wrap .i64 (Int.tmod (IntKind.wrap .u64 (intD (List.getD (List.drop 1 (List.drop 1 (List.drop 1 (List.getD es (Int.toNat i) [])))) 0 d0))) (10 : Int))))), AV.vw (if 3 < 2 then 0 else 4 + (3 - 2)) (List.length ot)] ++ (jks 17))))))), [Ob.bun (famR (FamD.mk (KK.int IntKind.i64) (Shp.box SK) l')), Ob.box [AV.mp (if 1 < 2 then 0 else 4 + (1 - 2)), mkI .i64 la_1, mkI .i64 mo_1, mkI .i64 le], Ob.box [mkI .i64 (intD (List.getD (List.getD es (Int.toNat i) []) 0 d0)), mkI .i64 (intD (List.getD (List.drop 1 (List.getD es (Int.toNat i) [])) 0 d0)), mkI .i64 (intD (List.getD (List.drop 1 (List.drop 1 (List.getD es (Int.toNat i) []))) 0 d0)), mkI .i64 (intD (List.getD (List.drop 1 (List.drop 1 (List.drop 1 (List.getD es (Int.toNat i) [])))) 0 d0)), mkS (strD (List.getD (List.drop 1 (List.drop 1 (List.drop 1 (List.drop 1 (List.getD es (Int.toNat i) []))))) 0 d0)), mkS (strD (List.getD (List.drop 1 (List.drop 1 (List.drop 1 (List.drop 1 (List.drop 1 (List.getD es (Int.toNat i) [])))))) 0 d0)), mkS (strD (List.getD (List.drop 1 (List.drop 1 (List.drop 1 (List.drop 1 (List.drop 1 (List.drop 1 (List.getD es (Int.toNat i) []))))))) 0 d0))], Ob.gone, Ob.gone, Ob.row 6 ot]⟩)) (
        ALoop (aCode KL GBo (cAt [1, 1, 1, 1, 1, 1, 0, 1, 0, 0, 1, 0, 0, 1, 1, 1, 1, 0, 1, 0, 0] Tryd.b6)) (rBo_b_k0 st inv μ kk Mx es now i l la mo q) ⟨[mkI .i64 Mx, AV.d (.sl es), AV.jk, AV.jk, mkB false, AV.rf 1 0, mkI .i64 (IntKind.wrap .i64 (now + (IntKind.wrap .i64 (Int.tmod (IntKind.wrap .u64 (intD (List.getD (List.drop 1 (List.drop 1 (List.drop 1 (List.getD es (Int.toNat i) [])))) 0 d0))) (10 : Int))))), mkI .i64 i, AV.rf 2 0, AV.jk, AV.jk, AV.jk, AV.jk, AV.jk, mkI .i64 0, mkI .i64 0] ++ (jks 11 ++ ([mkI .i64 i, AV.d (.sl es), mkI .i64 ((List.length es) : Int), mkB true, AV.jk, AV.jk, AV.d (.sl es), mkI .i64 i, AV.ep (List.getD es (Int.toNat i) []), AV.ag [mkI .i64 (intD (List.getD (List.getD es (Int.toNat i) []) 0 d0)), mkI .i64 (intD (List.getD (List.drop 1 (List.getD es (Int.toNat i) [])) 0 d0)), mkI .i64 (intD (List.getD (List.drop 1 (List.drop 1 (List.getD es (Int.toNat i) []))) 0 d0)), mkI .i64 (intD (List.getD (List.drop 1 (List.drop 1 (List.drop 1 (List.getD es (Int.toNat i) [])))) 0 d0)), mkS (strD (List.getD (List.drop 1 (List.drop 1 (List.drop 1 (List.drop 1 (List.getD es (Int.toNat i) []))))) 0 d0)), mkS (strD (List.getD (List.drop 1 (List.drop 1 (List.drop 1 (List.drop 1 (List.drop 1 (List.getD es (Int.toNat i) [])))))) 0 d0)), mkS (strD (List.getD (List.drop 1 (List.drop 1 (List.drop 1 (List.drop 1 (List.drop 1 (List.drop 1 (List.getD es (Int.toNat i) []))))))) 0 d0))], mkI .i64 now, AV.rf 2 (0 + 3), mkI .i64 (intD (List.getD (List.drop 1 (List.drop 1 (List.drop 1 (List.getD es (Int.toNat i) [])))) 0 d0)), mkI .u64 (IntKind.wrap .u64 (intD (List.getD (List.drop 1 (List.drop 1 (List.drop 1 (List.getD es (Int.toNat i) [])))) 0 d0))), mkI .u64 (Int.tmod (IntKind.wrap .u64 (intD (List.getD (List.drop 1 (List.drop 1 (List.drop 1 (List.getD es (Int.toNat i) [])))) 0 d0))) (10 : Int)), mkI .i64 (IntKind.wrap .i64 (Int.tmod (IntKind.wrap .u64 (intD (List.getD (List.drop 1 (List.drop 1 (List.drop 1 (List.getD es (Int.toNat i) [])))) 0 d0))) (10 : Int))), mkI .i64 (IntKind.wrap .i64 (now + (IntKind.wrap .i64 (Int.tmod (IntKind.wrap .u64 (intD (List.getD (List.drop 1 (List.drop 1 (List.drop 1 (List.getD es (Int.toNat i) [])))) 0 d0))) (10 : Int))))), AV.ag [mkI .i64 (intD (List.getD (List.getD es (Int.toNat i) []) 0 d0)), mkI .i64 (intD (List.getD (List.drop 1 (List.getD es (Int.toNat i) [])) 0 d0)), mkI .i64 (intD (List.getD (List.drop 1 (List.drop 1 (List.getD es (Int.toNat i) []))) 0 d0)), mkI .i64 (intD (List.getD (List.drop 1 (List.drop 1 (List.drop 1 (List.getD es (Int.toNat i) [])))) 0 d0)), mkS (strD (List.getD (List.drop 1 (List.drop 1 (List.drop 1 (List.drop 1 (List.getD es (Int.toNat i) []))))) 0 d0)), mkS (strD (List.getD (List.drop 1 (List.drop 1 (List.drop 1 (List.drop 1 (List.drop 1 (List.getD es (Int.toNat i) [])))))) 0 d0)), mkS (strD (List.getD (List.drop 1 (List.drop 1 (List.drop 1 (List.drop 1 (List.drop 1 (List.drop 1 (List.getD es (Int.toNat i) []))))))) 0 d0))], mkI .i64 (kindI (intD (List.getD (List.getD es (Int.toNat i) []) 0 d0))), mkB false, mkB ((kindI (intD (List.getD (List.getD es (Int.toNat i) []) 0 d0))) == (0 : Int))] ++ (jks 15 ++ ([mkB false, mkB ((kindI (intD (List.getD (List.getD es (Int.toNat i) []) 0 d0))) == (1 : Int)), AV.jk, AV.jk, AV.jk, AV.jk, AV.jk, AV.jk, mkB false, mkB ((kindI (intD (List.getD (List.getD es (Int.toNat i) []) 0 d0))) == (2 : Int)), AV.jk, AV.jk, AV.jk, AV.jk, AV.jk, mkB false, mkB ((kindI (intD (List.getD (List.getD es (Int.toNat i) []) 0 d0))) == (3 : Int))] ++ (jks 42 ++ ([mkB false, mkB ((kindI (intD (List.getD (List.getD es (Int.toNat i) []) 0 d0))) == (4 : Int))] ++ (jks 20))))))), [Ob.bun (famR (FamD.mk (KK.int IntKind.i64) (Shp.box SK) l)), Ob.box [AV.mp 0, mkI .i64 la, mkI .i64 mo, mkI .i64 20], Ob.box [mkI .i64 (intD (List.getD (List.getD es (Int.toNat i) []) 0 d0)), mkI .i64 (intD (List.getD (List.drop 1 (List.getD es (Int.toNat i) [])) 0 d0)), mkI .i64 (intD (List.getD (List.drop 1 (List.drop 1 (List.getD es (Int.toNat i) []))) 0 d0)), mkI .i64 (intD (List.getD (List.drop 1 (List.drop 1 (List.drop 1 (List.getD es (Int.toNat i) [])))) 0 d0)), mkS (strD (List.getD (List.drop 1 (List.drop 1 (List.drop 1 (List.drop 1 (List.getD es (Int.toNat i) []))))) 0 d0)), mkS (strD (List.getD (List.drop 1 (List.drop 1 (List.drop 1 (List.drop 1 (List.drop 1 (List.getD es (Int.toNat i) [])))))) 0 d0)), mkS (strD (List.getD (List.drop 1 (List.drop 1 (List.drop 1 (List.drop 1 (List.drop 1 (List.drop 1 (List.getD es (Int.toNat i) []))))))) 0 d0))]]⟩)))))) (
   q (mkB true))) := by kernel_rfl
def stBc (Mx : Int) (es : List (List D)) (now i : Int) (l : FLs) (la mo on c : Int) : S := ⟨[mkI .i64 Mx, .d (.sl es), .jk, .jk, mkB false, .rf 1 0, mkI .i64 now, mkI .i64 i] ++ jks 6 ++ [mkI .i64 on, mkI .i64 c] ++ jks 128, toB l la mo⟩
theorem rBo_c {ι κ : Type} (st2 : κ → S) (inv2 : κ → Prop) (μ2 : κ → Nat) (kk2 : κ) (st : ι → S) (inv : ι → Prop) (μ : ι → Nat) (kk : ι) (Mx : Int) (es : List (List D)) (now0 now i : Int) (l0 l : FLs) (la0 mo0 la mo on c : Int) (q : AV → Prop) :
  (aCode KL GBo (cAt [1, 1, 1, 1, 1, 1, 0, 1, 0, 0, 1, 0, 0, 1, 1, 1, 1, 0, 1, 0, 0] Tryd.b6) (kFamM [] (maskOf (stBc Mx es now i l la mo on c)) st2 inv2 μ2 kk2 (rBo_b_k0 st inv μ kk Mx es now0 i l0 la0 mo0 q)) (stBc Mx es now i l la mo on c)) = (
  bcase (decide (c < (16 : Int))) (
   ∃ (l_1 : FLs),
   ∃ (la_1 : Int),
   ∃ (mo_1 : Int),
   ∃ (le : Int),
   ∃ (c_1 : Int),
   ([AV.rf 0 0, mkI .i64 c] = [AV.rf 0 0, mkI .i64 c_1]) ∧
   ([Ob.box [AV.mp (0 + 1), mkI .i64 la, mkI .i64 mo, mkI .i64 20], Ob.bun (famR (FamD.mk (KK.int IntKind.i64) (Shp.box SK) l)), Ob.gh [AV.rf 0 0]] = [Ob.box [AV.mp 1, mkI .i64 la_1, mkI .i64 mo_1, mkI .i64 le], Ob.bun (famR (FamD.mk (KK.int IntKind.i64) (Shp.box SK) l_1)), Ob.gh [AV.rf 0 0]]) ∧
   (TbC l_1 la_1 mo_1) ∧
   (∀ (k : Key), ∀ (b : Nat), ∀ (r : Rec), ((firstE (pOn c_1) l_1) = (Option.some (k, (b, r)))) → ((Option.some (Ob.gh [AV.rf 0 0])) = (Option.some (Ob.gh [AV.rf 0 0]))) ∧ (FamNext st2 inv2 μ2 kk2 ⟨[mkI .i64 Mx, AV.d (.sl es), AV.jk, AV.jk, mkB false, AV.rf 1 0, mkI .i64 now, mkI .i64 i, AV.jk, AV.jk, AV.jk, AV.jk, AV.jk, AV.jk, mkI .i64 (IntKind.wrap .i64 (on + (1 : Int))), mkI .i64 (IntKind.wrap .i64 (c + (1 : Int)))] ++ (jks 128), [Ob.bun (famR (FamD.mk (KK.int IntKind.i64) (Shp.box SK) l_1)), Ob.box [AV.mp (if 1 < 2 then 0 else 3 + (1 - 2)), mkI .i64 la_1, mkI .i64 mo_1, mkI .i64 le], Ob.gone, Ob.gone]⟩)) ∧ (
    ((firstE (pOn c_1) l_1) = Option.none) →
    ((Option.some (Ob.gh [AV.rf 0 0])) = (Option.some (Ob.gh [AV.rf 0 0]))) ∧
    FamNext st2 inv2 μ2 kk2 ⟨[mkI .i64 Mx, AV.d (.sl es), AV.jk, AV.jk, mkB false, AV.rf 1 0, mkI .i64 now, mkI .i64 i, AV.jk, AV.jk, AV.jk, AV.jk, AV.jk, AV.jk, mkI .i64 on, mkI .i64 (IntKind.wrap .i64 (c + (1 : Int)))] ++ (jks 128), [Ob.bun (famR (FamD.mk (KK.int IntKind.i64) (Shp.box SK) l_1)), Ob.box [AV.mp (if 1 < 2 then 0 else 3 + (1 - 2)), mkI .i64 la_1, mkI .i64 mo_1, mkI .i64 le], Ob.gone, Ob.gone]⟩)) (
   ∃ (l_1 : FLs),
   ∃ (la_1 : Int),
   ∃ (mo_1 : Int),
   ∃ (le : Int),
   ([AV.rf 0 0] = [AV.rf 0 0]) ∧
   ([Ob.box [AV.mp (0 + 1), mkI .i64 la, mkI .i64 mo, mkI .i64 20], Ob.bun (famR (FamD.mk (KK.int IntKind.i64) (Shp.box SK) l)), Ob.gh [AV.rf 0 0]] = [Ob.box [AV.mp 1, mkI .i64 la_1, mkI .i64 mo_1, mkI .i64 le], Ob.bun (famR (FamD.mk (KK.int IntKind.i64) (Shp.box SK) l_1)), Ob.gh [AV.rf 0 0]]) ∧
   (TbC l_1 la_1 mo_1) ∧
   ((Option.some (Ob.gh [AV.rf 0 0])) = (Option.some (Ob.gh [AV.rf 0 0]))) ∧
   bcase (decide (on > ((List.length l_1) : Int))) (
    q (mkB false)) (
    FamNext st inv μ kk ⟨[mkI .i64 Mx, AV.d (.sl es), AV.jk, AV.jk, mkB false, AV.rf 1 0, mkI .i64 now, mkI .i64 (IntKind.wrap .i64 (i + (1 : Int)))] ++ (jks 136), [Ob.bun (famR (FamD.mk (KK.int IntKind.i64) (Shp.box SK) l_1)), Ob.box [AV.mp (if 1 < 2 then 0 else 3 + (1 - 2)), mkI .i64 la_1, mkI .i64 mo_1, mkI .i64 le], Ob.gone, Ob.gone]⟩))) := by kernel_rfl
def FBo : List AV → Option (Prop × AV) := fun al => match al with
  | [.d (.v (.int .i64 most)), .d (.sl es)] => some (∃ s : List OpS, es = opsL s, mkB true)
  | _ => none
structure BoX where
  i : Nat
  now : Int
  l : FLs
  la : Int
structure BoS (M : Int) (n : Nat) (x : BoX) : Prop where
  b : BoI M x.l x.la
  i : x.i ≤ n
  la : x.la ≤ x.i
theorem op_at {s : List OpS} {i : Nat} (h : i < s.length) : (opsL s).getD i [] = opD7 s[i] := by
  unfold opsL
  rw [List.getD_eq_getElem?_getD, List.getElem?_map, List.getElem?_eq_getElem h]; rfl
theorem cBo : PSound Tryd.prog 6 (detE FBo) := by
  refine det_fn (c := Tryd.b6) mixed KL_ok gBo Tryd.func6 rfl rfl Tryd.call6 fun al p r q hF hp hq => ?_
  unfold FBo at hF; split at hF <;> cases hF
  rename_i most es
  obtain ⟨scr, rfl⟩ := hp
  refine cast (rBo most (opsL scr) q).symm ⟨trivial, _, _, rfl, fun M L hM hL => ⟨rfl, rfl, trivial, ?_⟩⟩
  have hL : L = 20 := hL
  have hMl := lim16_in most
  have hM : M = lim16 most := hM
  rw [← hM] at hMl
  have hMx : (if (16 : Int) < (if (1 : Int) > most then (1 : Int) else most) then (16 : Int) else (if (1 : Int) > most then (1 : Int) else most)) = M := hM.symm
  subst hL
  rw [hMx]
  have htk : (opsL scr).take 120 = opsL (scr.take 120) := by unfold opsL; rw [List.map_take]
  rw [htk]
  have hs120 : (scr.take 120).length ≤ 120 := by rw [List.length_take]; omega
  generalize scr.take 120 = scr at *
  have hel : (opsL scr).length = scr.length := by unfold opsL; rw [List.length_map]
  clear hM hMx htk
  refine ALoop.introM [] (maskOf (stBo M (opsL scr) 0 0 [] 0 M)) (fun x : BoX => stBo M (opsL scr) x.now x.i x.l x.la M) (fun x => BoS M scr.length x) (fun x => scr.length - x.i) ⟨[], ⟨0, 0, [], 0⟩, by simp [S.le, sealAll, leL, leA, leO, jks, stBo, toB, mkI, mkS, mkB, S.fits, fitsL, AV.fits, Ob.fits, fob], ⟨BoI.nil (by omega), Nat.zero_le _, Int.le_refl _⟩⟩ fun ⟨i, now, l, la⟩ hI => ?_
  have hB : BoI M l la := hI.b
  have hin : i ≤ scr.length := hI.i
  have hla : la ≤ (i : Int) := hI.la
  have hla0 := hB.h0
  clear hI
  refine cast (rBo_b _ _ _ (BoX.mk i now l la) M (opsL scr) now i l la M q).symm fun hlim => ?_
  refine bcase_dec (fun hlt => ?_) (fun hge => hq)
  have hlt : i < scr.length := by rw [hel] at hlt; omega
  have he : List.getD (opsL scr) (Int.toNat (i : Int)) [] = opD7 scr[i] := by rw [Int.toNat_natCast]; exact op_at hlt
  refine ⟨⟨by omega, by rw [hel]; omega⟩, by rw [he]; rfl, by rw [he]; exact Nat.le_refl 7, by rw [he]; exact ⟨rfl, rfl, rfl, rfl, rfl, rfl, rfl, trivial⟩, by decide, trivial, ?_⟩
  have w1 : IntKind.wrap .i64 ((i : Int) + 1) = (i + 1 : Nat) := by rw [IntWalk.i64_in _ (by omega)]; omega
  have w16 : ∀ c : Nat, c < 16 → IntKind.wrap .i64 ((c : Int) + 1) = (c + 1 : Nat) := fun c hc => by rw [IntWalk.i64_in _ (by omega)]; omega
  have inner : ∀ (nw : Int) (l1 : FLs) (la1 : Int), BoI M l1 la1 → la1 ≤ (i : Int) + 1 →
      ALoop (aCode KL GBo (cAt [1, 1, 1, 1, 1, 1, 0, 1, 0, 0, 1, 0, 0, 1, 1, 1, 1, 0, 1, 0, 0] Tryd.b6)) (rBo_b_k0 (fun x : BoX => stBo M (opsL scr) x.now x.i x.l x.la M) (fun x => BoS M scr.length x) (fun x => scr.length - x.i) (BoX.mk i now l la) M (opsL scr) now i l la M q) (stBc M (opsL scr) nw i l1 la1 M 0 0) := by
    intro nw l1 la1 hB1 hla1
    have hB10 := hB1.h0
    have hC : TbC l1 la1 M := ⟨hB1.tab, hB10, by omega, by omega⟩
    refine ALoop.introM [] (maskOf (stBc M (opsL scr) nw i l1 la1 M 0 0)) (fun x : Nat × Nat => stBc M (opsL scr) nw i l1 la1 M x.1 x.2) (fun x => x.1 ≤ onN l1 x.2 ∧ x.2 ≤ 16) (fun x => 16 - x.2) ⟨[], (0, 0), by simp [S.le, sealAll, leL, leA, leO, jks, stBc, toB, mkI, mkS, mkB, S.fits, fitsL, AV.fits, Ob.fits, fob], Nat.zero_le _, Nat.zero_le _⟩ fun ⟨on, c⟩ ⟨hon, hc⟩ => ?_
    have hon : on ≤ onN l1 c := hon
    have hc : c ≤ 16 := hc
    have hl120 : l1.length ≤ 1000 := hC.ok.ids.len
    refine cast (rBo_c _ _ _ (on, c) _ _ _ (BoX.mk i now l la) M (opsL scr) now nw i l l1 la M la1 M on c q).symm (bcase_dec (fun hlt2 => ?_) (fun hge2 => ?_))
    · have hlt2 : c < 16 := by omega
      have hon2 := onN_le l1 c
      have w2 : IntKind.wrap .i64 ((on : Int) + 1) = (on + 1 : Nat) := by rw [IntWalk.i64_in _ (by omega)]; omega
      rw [w16 c hlt2, w2]
      refine ⟨l1, la1, M, 20, c, rfl, rfl, hC, fun k b r hf => ⟨rfl, .mk [] (on + 1, c + 1) ?_ ⟨?_, hlt2⟩ (show 16 - (c + 1) < 16 - c by omega)⟩, fun hf => ⟨rfl, .mk [] (on, c + 1) ?_ ⟨?_, hlt2⟩ (show 16 - (c + 1) < 16 - c by omega)⟩⟩
      · simp [sealAll, S.le, leL, leA, leO, jks, stBc, toB, mkI, mkS, mkB, S.fits, fitsL, AV.fits, Ob.fits, fob]
      · have := onN_step (by omega) hf
        show on + 1 ≤ onN l1 ((c + 1 : Nat) : Int)
        have e : ((c + 1 : Nat) : Int) = (c : Int) + 1 := by omega
        rw [e]; omega
      · simp [sealAll, S.le, leL, leA, leO, jks, stBc, toB, mkI, mkS, mkB, S.fits, fitsL, AV.fits, Ob.fits, fob]
      · have := onN_mono l1 c
        show on ≤ onN l1 ((c + 1 : Nat) : Int)
        have e : ((c + 1 : Nat) : Int) = (c : Int) + 1 := by omega
        rw [e]; omega
    · have hon2 := onN_le l1 c
      refine ⟨l1, la1, M, 20, rfl, rfl, hC, rfl, bcaseF (decide_eq_false (by omega)) ?_⟩
      rw [w1]
      refine .mk [] ⟨i + 1, nw, l1, la1⟩ ?_ ⟨hB1, hlt, by show la1 ≤ ((i + 1 : Nat) : Int); omega⟩ (show scr.length - (i + 1) < scr.length - i by omega)
      simp [sealAll, S.le, leL, leA, leO, jks, stBo, toB, mkI, mkS, mkB, S.fits, fitsL, AV.fits, Ob.fits, fob]
  clear he
  generalize intD (List.getD (List.getD (opsL scr) (Int.toNat (i : Int)) []) 0 d0) = k0 at *
  generalize intD (List.getD (List.drop 1 (List.getD (opsL scr) (Int.toNat (i : Int)) [])) 0 d0) = k1 at *
  generalize intD (List.getD (List.drop 1 (List.drop 1 (List.getD (opsL scr) (Int.toNat (i : Int)) []))) 0 d0) = k2 at *
  generalize intD (List.getD (List.drop 1 (List.drop 1 (List.drop 1 (List.getD (opsL scr) (Int.toNat (i : Int)) [])))) 0 d0) = k3 at *
  generalize strD (List.getD (List.drop 1 (List.drop 1 (List.drop 1 (List.drop 1 (List.getD (opsL scr) (Int.toNat (i : Int)) []))))) 0 d0) = k4 at *
  generalize strD (List.getD (List.drop 1 (List.drop 1 (List.drop 1 (List.drop 1 (List.drop 1 (List.getD (opsL scr) (Int.toNat (i : Int)) [])))))) 0 d0) = k5 at *
  generalize strD (List.getD (List.drop 1 (List.drop 1 (List.drop 1 (List.drop 1 (List.drop 1 (List.drop 1 (List.getD (opsL scr) (Int.toNat (i : Int)) []))))))) 0 d0) = k6 at *
  generalize IntKind.wrap .i64 (now + IntKind.wrap .i64 (Int.tmod (IntKind.wrap .u64 k3) 10)) = nw at *
  have hC : ∀ (l1 : FLs) (la1 : Int), BoI M l1 la1 → la1 ≤ (i : Int) + 1 → TbC l1 la1 M := fun l1 la1 h h1 => ⟨h.tab, h.h0, by omega, by omega⟩
  have hC0 := hC l la hB (by omega)
  refine bcase_mk (fun _ => ?_) (fun _ => bcase_mk (fun _ => ?_) (fun _ => bcase_mk (fun _ => ?_) (fun _ => bcase_mk (fun _ => ?_) (fun _ => bcase_mk (fun _ => ?_) (fun _ => ?_)))))
  · refine ⟨l, la, M, 20, k4, k5, k2, rfl, rfl, hC0, fun a g e l' la' hs => ?_⟩
    have hs : StR M k4 k5 k2 l la a g e l' la' := hs
    obtain ⟨hB1, h1, h2⟩ := hB.start (by omega) hs
    clear hs
    have hC1 := hC l' la' hB1 (by omega)
    refine ⟨rfl, l', la', M, 20, k4, rfl, rfl, hC1.ok, fun ids hid => ⟨rfl, bcaseF (decide_eq_false ?_) ?_⟩⟩
    · have h3 := hB1.cnt k4
      have h4 : ids.length = (selE k4 l').length := by rw [hid]; unfold idsL; rw [List.length_map]; rfl
      omega
    · exact .weak (stBc M (opsL scr) nw i l' la' M 0 0) (weak_le (by simp [S.le, leL, leA, leO, jks, stBc, toB, mkI, mkS, mkB, S.fits, fitsL, AV.fits, Ob.fits, fob])) (inner nw l' la' hB1 (by omega))
  · refine ⟨l, la, M, 20, k1, k6, rfl, rfl, hC0, fun e l' hs => ?_⟩
    have hs : GvR k1 k6 l e l' := hs
    have hB1 := hB.give hs
    clear hs
    exact ⟨rfl, .weak (stBc M (opsL scr) nw i l' la M 0 0) (weak_le (by simp [S.le, leL, leA, leO, jks, stBc, toB, mkI, mkS, mkB, S.fits, fitsL, AV.fits, Ob.fits, fob])) (inner nw l' la hB1 (by omega))⟩
  · refine ⟨l, la, M, 20, k1, nw, rfl, rfl, hC0, by decide, fun z e l' hs => ?_⟩
    have hs : LoR 20 k1 nw l z e l' := hs
    have hB1 := hB.lose hs
    clear hs
    exact ⟨rfl, .weak (stBc M (opsL scr) nw i l' la M 0 0) (weak_le (by simp [S.le, leL, leA, leO, jks, stBc, toB, mkI, mkS, mkB, S.fits, fitsL, AV.fits, Ob.fits, fob])) (inner nw l' la hB1 (by omega))⟩
  · refine ⟨l, la, M, 20, k6, k2, nw, rfl, rfl, hC0, fun a z e l' hs => ?_⟩
    have hs : RsR k6 k2 nw l a z e l' := hs
    obtain ⟨hB1, hG⟩ := hB.resume hs
    clear hs
    have wk := inner nw l' la hB1 (by omega)
    refine ⟨rfl, l', la, M, 20, a, rfl, rfl, hC l' la hB1 (by omega), fun b r hm => ⟨rfl, bcase_mk (fun h0 => ?_) (fun h0 => ?_)⟩, fun hno => ⟨rfl, bcase_mk (fun h0 => ?_) (fun h0 => ?_)⟩⟩
    · have h0 : e = 0 := by simpa using h0
      obtain ⟨g1, g2, g3⟩ := (hG h0).1 b r hm
      refine bcaseF (by rw [decide_eq_true g1]; rfl) (bcaseF (by simp [g2]) (bcaseF (by simp [g3]) ?_))
      exact .weak (stBc M (opsL scr) nw i l' la M 0 0) (weak_le (by simp [S.le, leL, leA, leO, jks, stBc, toB, mkI, mkS, mkB, S.fits, fitsL, AV.fits, Ob.fits, fob])) wk
    · exact .weak (stBc M (opsL scr) nw i l' la M 0 0) (weak_le (by simp [S.le, leL, leA, leO, jks, stBc, toB, mkI, mkS, mkB, S.fits, fitsL, AV.fits, Ob.fits, fob])) wk
    · have h0 : e = 0 := by simpa using h0
      obtain ⟨b, r, hm⟩ := (hG h0).2
      exact absurd rfl (hno _ hm)
    · exact .weak (stBc M (opsL scr) nw i l' la M 0 0) (weak_le (by simp [S.le, leL, leA, leO, jks, stBc, toB, mkI, mkS, mkB, S.fits, fitsL, AV.fits, Ob.fits, fob])) wk
  · refine ⟨l, la, M, 20, nw, rfl, rfl, hC0, fun l' ot hs => ⟨rfl, ?_⟩⟩
    exact .weak (stBc M (opsL scr) nw i l' la M 0 0) (weak_le (by simp [S.le, leL, leA, leO, jks, stBc, toB, mkI, mkS, mkB, S.fits, fitsL, AV.fits, Ob.fits, fob])) (inner nw l' la (hB.sub hs) (by omega))
  · exact .weak (stBc M (opsL scr) nw i l la M 0 0) (weak_le (by simp [S.le, leL, leA, leO, jks, stBc, toB, mkI, mkS, mkB, S.fits, fitsL, AV.fits, Ob.fits, fob])) (inner nw l la hB (by omega))
theorem hBo : ∀ as', TyArgs Tryd.prog Tryd.f6.params.toList as' → ∃ p, FBo as' = some (p, mkB true) ∧ p := by
  intro as' h
  rw [Tryd.params6] at h
  obtain ⟨a, b, rfl, ha, hb⟩ := tyargs2 h
  obtain ⟨x, rfl, hx⟩ := arg_int Tryd.underlying3 ha
  obtain ⟨s, rfl, _⟩ := arg_ops hb
  exact ⟨_, rfl, s, rfl⟩
end Go.Proofs.YtepkbbkfcnejmaaDoor
