import Derived.Test.YtfdmmgiefhhnoaaGreatDoorStaRead
set_option linter.unusedSimpArgs false
set_option linter.unusedVariables false
namespace Go.Proofs.YtfdmmgiefhhnoaaGreatDoor
open Go Go.AM Go.RowKit
attribute [local irreducible] aCode
noncomputable def rEq_k0 (q : AV → Prop) : Kont := kBlk (0 : Nat) (kSeq (aCode KS [] (cAt [1, 1, 1] Tryz.b19) (kRet KS (Array.toList (Func.results Tryz.f19)) q)) (kRet KS (Array.toList (Func.results Tryz.f19)) q))
theorem rEq (a b : List It) (q : AV → Prop) :
 (aCode KS [] Tryz.b19 (kRet KS Tryz.f19.results.toList q) ⟨[.d (.sl (itsD a)), .d (.sl (itsD b))] ++ List.replicate (Tryz.f19.ntmps - 2) .jk, []⟩) = (
 ((List.length (itsD a)) ≤ LIM) →
 ((List.length (itsD b)) ≤ LIM) →
 bcase (((List.length (itsD a)) : Int) != ((List.length (itsD b)) : Int)) (
 q (mkB false)) (
 ((List.length (itsD a)) ≤ LIM) →
 ALoop (aCode KS [] (cAt [1, 1, 0, 1, 0, 0] Tryz.b19)) (rEq_k0 q) ⟨[.d (.sl (itsD a)), .d (.sl (itsD b)), .jk, .jk, mkB false, .jk, .d (.sl (itsD a)), mkI .i64 ((List.length (itsD a)) : Int), .d (.sl (itsD b)), mkI .i64 ((List.length (itsD b)) : Int), mkB false, .d (.sl (itsD a)), mkI .i64 ((List.length (itsD a)) : Int), mkI .i64 0] ++ (jks 12), []⟩)) := by kernel_rfl
def stEq (a b : List It) (i : Int) : S := ⟨[.d (.sl (itsD a)), .d (.sl (itsD b))] ++ jks 9 ++ [.d (.sl (itsD a)), mkI .i64 (itsD a).length, mkI .i64 i] ++ jks 12, []⟩
theorem rEq_b {ι : Type} (st : ι → S) (inv : ι → Prop) (μ : ι → Nat) (kk : ι) (a b : List It) (i : Int) (q : AV → Prop) :
 (aCode KS [] (cAt [1, 1, 0, 1, 0, 0] Tryz.b19) (kFamM [] (maskOf (stEq a b i)) st inv μ kk (rEq_k0 q)) (stEq a b i)) = (
 bcase (decide (i < ((List.length (itsD a)) : Int))) (
 (((0 : Int) ≤ i) ∧ (i < ((List.length (itsD a)) : Int))) ∧
 ((List.length (List.getD (itsD a) (Int.toNat i) [])) = 4) ∧
 (4 ≤ (List.length (List.getD (itsD a) (Int.toNat i) []))) ∧
 (((List.getD (List.getD (itsD a) (Int.toNat i) []) 0 d0) = (D.v (.string (strD (List.getD (List.getD (itsD a) (Int.toNat i) []) 0 d0))))) ∧ (((List.getD (List.drop 1 (List.getD (itsD a) (Int.toNat i) [])) 0 d0) = (D.v (.string (strD (List.getD (List.drop 1 (List.getD (itsD a) (Int.toNat i) [])) 0 d0))))) ∧ (((List.getD (List.drop 1 (List.drop 1 (List.getD (itsD a) (Int.toNat i) []))) 0 d0) = (D.v (.int IntKind.i64 (intD (List.getD (List.drop 1 (List.drop 1 (List.getD (itsD a) (Int.toNat i) []))) 0 d0))))) ∧ (((List.getD (List.drop 1 (List.drop 1 (List.drop 1 (List.getD (itsD a) (Int.toNat i) [])))) 0 d0) = (D.v (.bool (boolD (List.getD (List.drop 1 (List.drop 1 (List.drop 1 (List.getD (itsD a) (Int.toNat i) [])))) 0 d0))))) ∧ True)))) ∧
 (((0 : Int) ≤ i) ∧ (i < ((List.length (itsD b)) : Int))) ∧
 ((List.length (List.getD (itsD b) (Int.toNat i) [])) = 4) ∧
 (4 ≤ (List.length (List.getD (itsD b) (Int.toNat i) []))) ∧
 (((List.getD (List.getD (itsD b) (Int.toNat i) []) 0 d0) = (D.v (.string (strD (List.getD (List.getD (itsD b) (Int.toNat i) []) 0 d0))))) ∧ (((List.getD (List.drop 1 (List.getD (itsD b) (Int.toNat i) [])) 0 d0) = (D.v (.string (strD (List.getD (List.drop 1 (List.getD (itsD b) (Int.toNat i) [])) 0 d0))))) ∧ (((List.getD (List.drop 1 (List.drop 1 (List.getD (itsD b) (Int.toNat i) []))) 0 d0) = (D.v (.int IntKind.i64 (intD (List.getD (List.drop 1 (List.drop 1 (List.getD (itsD b) (Int.toNat i) []))) 0 d0))))) ∧ (((List.getD (List.drop 1 (List.drop 1 (List.drop 1 (List.getD (itsD b) (Int.toNat i) [])))) 0 d0) = (D.v (.bool (boolD (List.getD (List.drop 1 (List.drop 1 (List.drop 1 (List.getD (itsD b) (Int.toNat i) [])))) 0 d0))))) ∧ True)))) ∧
 bcase (!(Bool.and (decide ((strD (List.getD (List.getD (itsD a) (Int.toNat i) []) 0 d0)) = (strD (List.getD (List.getD (itsD b) (Int.toNat i) []) 0 d0)))) (Bool.and (decide ((strD (List.getD (List.drop 1 (List.getD (itsD a) (Int.toNat i) [])) 0 d0)) = (strD (List.getD (List.drop 1 (List.getD (itsD b) (Int.toNat i) [])) 0 d0)))) (Bool.and ((intD (List.getD (List.drop 1 (List.drop 1 (List.getD (itsD a) (Int.toNat i) []))) 0 d0)) == (intD (List.getD (List.drop 1 (List.drop 1 (List.getD (itsD b) (Int.toNat i) []))) 0 d0))) (Bool.and ((boolD (List.getD (List.drop 1 (List.drop 1 (List.drop 1 (List.getD (itsD a) (Int.toNat i) [])))) 0 d0)) == (boolD (List.getD (List.drop 1 (List.drop 1 (List.drop 1 (List.getD (itsD b) (Int.toNat i) [])))) 0 d0))) true))))) (
 q (mkB false)) (
 FamNext st inv μ kk ⟨[.d (.sl (itsD a)), .d (.sl (itsD b))] ++ (jks 9 ++ ([.d (.sl (itsD a)), mkI .i64 ((List.length (itsD a)) : Int), mkI .i64 (IntKind.wrap .i64 (i + (1 : Int)))] ++ (jks 12))), []⟩)) (
 q (mkB true))) := by kernel_rfl
def EEqI : List AV → (AV → Prop) → Prop := fun al q => ∃ a b, al = [.d (.sl (itsD a)), .d (.sl (itsD b))] ∧ q (mkB (decide (a = b)))
theorem itsD_getD (l : List It) (n : Nat) (h : n < l.length) : (itsD l).getD n [] = itD l[n] := by
  simp [itsD, List.getD_eq_getElem?_getD, h]
theorem itsD_len (l : List It) : (itsD l).length = l.length := by simp [itsD]
theorem cEqI : PSound Tryz.prog 19 EEqI := by
  refine pure_fn (c := Tryz.b19) mixed KS_ok gsound_nil Tryz.func19 rfl rfl Tryz.call19 fun al q ⟨a, b, h1, hq⟩ => ?_
  subst h1
  have no : a ≠ b → q (mkB false) := fun h => by rw [decide_eq_false h] at hq; exact hq
  refine cast (rEq a b q).symm (fun ha hb => bcase_mk (fun hne => ?_) (fun he _ => ?_))
  · exact no fun e => by subst e; simp at hne
  · have hl : a.length = b.length := by
      simp only [itsD_len] at he
      have := (bne_eq_false_iff_eq).1 he
      omega
    have hlim : a.length ≤ LIM := by rw [itsD_len] at ha; exact ha
    refine ALoop.introM [] (maskOf (stEq a b 0)) (fun i : Nat => stEq a b i) (fun i => i ≤ a.length ∧ a.take i = b.take i) (fun i => a.length - i) ⟨[], 0, ?_, Nat.zero_le _, rfl⟩ fun i ⟨hi, hI⟩ => ?_
    · simp [S.le, sealAll, leL, leA, leO, jks, stEq, S.fits, fitsL, AV.fits, Ob.fits, mkI, mkB]
    · refine cast (rEq_b _ _ _ i a b i q).symm (bcase_dec (fun hlt => ?_) (fun hge => ?_))
      · rw [itsD_len] at hlt
        have hlt : i < a.length := by omega
        have hlb : i < b.length := by omega
        have tka : a.take (i + 1) = a.take i ++ [a[i]] := by rw [List.take_add_one, List.getElem?_eq_getElem hlt]; rfl
        have tkb : b.take (i + 1) = b.take i ++ [b[i]] := by rw [List.take_add_one, List.getElem?_eq_getElem hlb]; rfl
        have same : a = b → a[i] = b[i] := fun e => by subst e; rfl
        have ea := itsD_getD a i hlt
        have eb := itsD_getD b i hlb
        have hla := itsD_len a
        have hlb2 := itsD_len b
        generalize hxa : a[i] = xa at *
        generalize hxb : b[i] = xb at *
        obtain ⟨c, n, s, k⟩ := xa
        obtain ⟨c2, n2, s2, k2⟩ := xb
        simp only [itD] at ea eb
        simp only [Int.toNat_natCast, ea, eb, List.getD_cons_zero, List.drop_succ_cons, List.drop_zero, strD, intD, boolD]
        refine ⟨⟨by omega, by omega⟩, rfl, Nat.le_refl _, ⟨by trivial, by trivial, by trivial, by trivial, trivial⟩, ⟨by omega, by omega⟩, rfl, Nat.le_refl _, ⟨by trivial, by trivial, by trivial, by trivial, trivial⟩, bcase_mk (fun g => ?_) (fun g => ?_)⟩
        · refine no fun e => ?_
          have := same e
          simp only [It.mk.injEq] at this
          obtain ⟨rfl, rfl, rfl, rfl⟩ := this
          simp at g
        · have hx : c = c2 ∧ n = n2 ∧ s = s2 ∧ k = k2 := by simpa using g
          refine .mk [] (i + 1) ?_ ⟨hlt, ?_⟩ (by show a.length - (i + 1) < a.length - i; omega)
          · rw [wrap_succ hlt hlim]
            simp [S.le, sealAll, leL, leA, leO, jks, stEq, S.fits, fitsL, AV.fits, Ob.fits, mkI, mkB]
          · rw [tka, tkb, hI, hx.1, hx.2.1, hx.2.2.1, hx.2.2.2]
      · rw [itsD_len] at hge
        have : i = a.length := by omega
        subst this
        rw [List.take_length, hl, List.take_length] at hI
        rw [decide_eq_true hI] at hq
        exact hq
noncomputable abbrev GSame : List (FuncId × En) := [(19, .pure EEqI)]
theorem rSame (s t : Sz) (q : AV → Prop) :
 (aCode KS GSame Tryz.b8 (kRet KS Tryz.f8.results.toList q) ⟨[szV s, szV t] ++ List.replicate (Tryz.f8.ntmps - 2) .jk, []⟩) = (
 ∃ (a : List It),
 ∃ (b : List It),
 ([AV.d (.sl (itsD (Sz.its s))), AV.d (.sl (itsD (Sz.its t)))] = [AV.d (.sl (itsD a)), AV.d (.sl (itsD b))]) ∧
 bcase (!(decide (a = b))) (
 q (mkB false)) (
 bcase (decide ((Sz.ty s) = (Sz.ty t))) (
 bcase (decide ((Sz.id s) = (Sz.id t))) (
 bcase (decide ((Sz.from_ s) = (Sz.from_ t))) (
 bcase (decide ((Sz.to_ s) = (Sz.to_ t))) (
 bcase (decide ((Sz.show_ s) = (Sz.show_ t))) (
 bcase (decide ((Sz.tok s) = (Sz.tok t))) (
 bcase (decide ((Sz.rea s) = (Sz.rea t))) (
 bcase ((Sz.kind s) == (Sz.kind t)) (
 bcase ((Sz.h s) == (Sz.h t)) (
 bcase ((Sz.ver s) == (Sz.ver t)) (
 q (mkB ((Sz.rem s) == (Sz.rem t)))) (
 q (mkB false))) (
 q (mkB false))) (
 q (mkB false))) (
 q (mkB false))) (
 q (mkB false))) (
 q (mkB false))) (
 q (mkB false))) (
 q (mkB false))) (
 q (mkB false))) (
 q (mkB false)))) := by kernel_rfl
theorem rWithN (n t name v : BA) (q : AV → List Ob → Prop) :
 (aCode KS [] Tryz.b28 (kRetF KS Tryz.f28.results.toList q) ⟨[.ag [mkS n, .nl, mkS t, .nl], mkS name, mkS v] ++ List.replicate (Tryz.f28.ntmps - 3) .jk, [.gh []]⟩) = (
 bcase (!(decide (v = ⟨#[]⟩))) (
 (∀ (c : List D), (c ∈ [[D.v (.string name), D.v (.string v)]]) → (List.length c) = 2) ∧
 (1 ≤ LIM) ∧
 q (AV.ag [mkS n, AV.vw 4 1, mkS t, AV.nl]) [Ob.gh [], Ob.box [mkS n, AV.vw 4 1, mkS t, AV.nl], Ob.box [mkS n, AV.vw 4 1, mkS t, AV.nl], Ob.row 2 [[D.v (.string name), D.v (.string v)]], Ob.row 2 [[D.v (.string name), D.v (.string v)]]]) (
 q (AV.ag [mkS n, AV.nl, mkS t, AV.nl]) [Ob.gh [], Ob.box [mkS n, AV.nl, mkS t, AV.nl], Ob.box [mkS n, AV.nl, mkS t, AV.nl]])) := by kernel_rfl
theorem rWithV (n t name v : BA) (l : List At) (q : AV → List Ob → Prop) :
 (aCode KS [] Tryz.b28 (kRetF KS Tryz.f28.results.toList q) ⟨[.ag [mkS n, .vw 0 (atsD l).length, mkS t, .nl], mkS name, mkS v] ++ List.replicate (Tryz.f28.ntmps - 3) .jk, [.row 2 (atsD l), .gh []]⟩) = (
 bcase (!(decide (v = ⟨#[]⟩))) (
 (∀ (c : List D), (c ∈ [[D.v (.string name), D.v (.string v)]]) → (List.length c) = 2) ∧
 ((List.length (atsD l)) = (List.length (atsD l))) ∧
 (((List.length (atsD l)) + 1) ≤ LIM) ∧
 q (AV.ag [mkS n, AV.vw 0 ((List.length (atsD l)) + 1), mkS t, AV.nl]) [Ob.row 2 ((atsD l) ++ [[D.v (.string name), D.v (.string v)]]), Ob.gh [], Ob.box [mkS n, AV.vw 0 ((List.length (atsD l)) + 1), mkS t, AV.nl], Ob.box [mkS n, AV.vw 0 ((List.length (atsD l)) + 1), mkS t, AV.nl], Ob.row 2 [[D.v (.string name), D.v (.string v)]]]) (
 q (AV.ag [mkS n, AV.vw 0 (List.length (atsD l)), mkS t, AV.nl]) [Ob.row 2 (atsD l), Ob.gh [], Ob.box [mkS n, AV.vw 0 (List.length (atsD l)), mkS t, AV.nl], Ob.box [mkS n, AV.vw 0 (List.length (atsD l)), mkS t, AV.nl]])) := by kernel_rfl
def sameM (s t : Sz) : Bool := decide (s = t)
def ESame : List AV → (AV → Prop) → Prop := fun al q => ∃ s t, al = [szV s, szV t] ∧ q (mkB (sameM s t))
theorem cSame : PSound Tryz.prog 8 ESame := by
  refine pure_fn (c := Tryz.b8) mixed KS_ok (gsound_pure cEqI gsound_nil) Tryz.func8 rfl rfl Tryz.call8 fun al q ⟨s, t, h1, hq⟩ => ?_
  subst h1
  obtain ⟨a1, a2, a3, a4, a5, a6, a7, a8, a9, a10, a11, a12⟩ := s
  obtain ⟨b1, b2, b3, b4, b5, b6, b7, b8, b9, b10, b11, b12⟩ := t
  refine cast (rSame ⟨a1, a2, a3, a4, a5, a6, a7, a8, a9, a10, a11, a12⟩ ⟨b1, b2, b3, b4, b5, b6, b7, b8, b9, b10, b11, b12⟩ q).symm ⟨a12, b12, rfl, ?_⟩
  have fin : ∀ r : Bool, sameM ⟨a1, a2, a3, a4, a5, a6, a7, a8, a9, a10, a11, a12⟩ ⟨b1, b2, b3, b4, b5, b6, b7, b8, b9, b10, b11, b12⟩ = r → q (mkB r) := fun r h => by rw [h] at hq; exact hq
  refine bcase_mk (fun h => fin _ ?_) (fun h => bcase_dec (fun h2 => bcase_dec (fun h3 => bcase_dec (fun h4 => bcase_dec (fun h5 => bcase_dec (fun h6 => bcase_dec (fun h7 => bcase_dec (fun h8 => bcase_mk (fun h9 => bcase_mk (fun h10 => bcase_mk (fun h11 => fin _ ?_) (fun h11 => fin _ ?_)) (fun h10 => fin _ ?_)) (fun h9 => fin _ ?_)) (fun h8 => fin _ ?_)) (fun h7 => fin _ ?_)) (fun h6 => fin _ ?_)) (fun h5 => fin _ ?_)) (fun h4 => fin _ ?_)) (fun h3 => fin _ ?_)) (fun h2 => fin _ ?_))
  all_goals
    simp only [sameM, Sz.mk.injEq]
    first
      | (simp_all; done)
      | (rw [Bool.eq_iff_iff]; simp_all; done)
def withL (l : List At) (name v : BA) : List At := if v = ⟨#[]⟩ then l else l ++ [(name, v)]
def openA (s : S) (i j sz : Nat) : S := match s.t[i]? with
  | some (.ag cs) => match cs[j]? with
    | some .nl => ⟨s.t.set i (.ag (cs.set j (.vw s.o.length 0))), s.o ++ [.row sz []]⟩
    | _ => s
  | _ => s
theorem openA_srel {w0 : World} {own0 : O0} {X : Cx} {s : S} {a : Act} (hs : SRel w0 own0 X s a) (i j sz : Nat) (hz : 0 < sz) : ∃ X', X'.w = X.w ∧ SRel w0 own0 X' (openA s i j sz) a := by
  unfold openA
  split
  · rename_i cs hi
    split
    · rename_i hj
      have hp := pushz_srel hs hz
      rw [show killT none s.t = s.t from rfl] at hp
      obtain ⟨hil, hie⟩ := List.getElem?_eq_some_iff.1 hi
      refine ⟨X.pushz, rfl, by rw [hp.len]; simp, fun k hk => ?_, hp.defers, hp.g, hp.ext, hp.fr, hp.new, hp.gh, hp.tab⟩
      have hk' : k < s.t.length := by simpa using hk
      rw [List.getElem_set]
      split
      · rename_i e
        subst e
        have hv := hp.slot i hil
        rw [hie] at hv
        obtain ⟨arr, e1, e2, e3⟩ := inv_ag hv
        rw [e1]
        refine .ag (by simpa using e2) fun m hm => ?_
        have hm' : m < cs.length := by simpa using hm
        rw [List.getElem_set]
        split
        · rename_i e
          subst e
          obtain ⟨hjl, hje⟩ := List.getElem?_eq_some_iff.1 hj
          have h4 := e3 j hjl
          rw [hje] at h4
          rw [inv_nl h4, ← hs.g.n]
          exact .vz (by simp [Cx.pushz]) (by simp [Cx.pushz])
        · exact e3 m hm'
      · exact hp.slot k hk'
    · exact ⟨X, rfl, hs⟩
  · exact ⟨X, rfl, hs⟩
theorem weak_openA (s : S) (i j sz : Nat) (hz : 0 < sz) : Weak s (openA s i j sz) := fun w0 own0 X a hs => openA_srel hs i j sz hz
def withK : List AV → Nat
  | .ag [_, .nl, _, _] :: _ => 1
  | .ag [_, .vw _ _, _, _] :: _ => 2
  | _ => 0
def EWith : REnt := fun al o q => match withK al with
  | 1 => ∃ n t name v, al = [.ag [mkS n, .nl, mkS t, .nl], mkS name, mkS v] ∧ o = [.gh []] ∧ q (.ag [mkS n, .vw 1 (atsD (withL [] name v)).length, mkS t, .nl]) [.gh [], .row 2 (atsD (withL [] name v))]
  | 2 => ∃ n t name v l, al = [.ag [mkS n, .vw 0 (atsD l).length, mkS t, .nl], mkS name, mkS v] ∧ o = [.row 2 (atsD l), .gh []] ∧ l.length < 16 ∧ q (.ag [mkS n, .vw 0 (atsD (withL l name v)).length, mkS t, .nl]) [.row 2 (atsD (withL l name v)), .gh []]
  | _ => False
theorem cWith : RSound Tryz.prog 28 EWith := by
  refine ref_gen trimW trimW_ok (code_bsound (c := Tryz.b28) mixed KS_ok gsound_nil) KS_ok Tryz.func28 rfl rfl Tryz.call28 fun al o q h => ?_
  unfold EWith at h
  split at h
  · obtain ⟨n, t, name, v, rfl, rfl, h⟩ := h
    refine cast (rWithN n t name v (trimW q)).symm (bcase_mk (fun g => ?_) (fun g => ?_))
    · have g : ¬ v = ⟨#[]⟩ := by simpa using g
      have e : atsD (withL [] name v) = [[.v (.string name), .v (.string v)]] := by simp [withL, g, atsD, atD]
      rw [e] at h
      exact ⟨by simp, by unfold LIM; omega, _, _, weak_packG [some 0, some 4] rfl, h⟩
    · have g : v = ⟨#[]⟩ := by simpa using g
      have e : atsD (withL [] name v) = [] := by simp [withL, g, atsD]
      rw [e] at h
      exact ⟨_, _, (weak_packG [some 0] rfl).trans (weak_openA ⟨[.ag [mkS n, .nl, mkS t, .nl]], [.gh []]⟩ 0 1 2 (by omega)), h⟩
  · obtain ⟨n, t, name, v, l, rfl, rfl, hl, h⟩ := h
    refine cast (rWithV n t name v l (trimW q)).symm (bcase_mk (fun g => ?_) (fun g => ?_))
    · have g : ¬ v = ⟨#[]⟩ := by simpa using g
      have e : atsD (withL l name v) = atsD l ++ [[.v (.string name), .v (.string v)]] := by simp [withL, g, atsD, atD]
      rw [e] at h
      rw [List.length_append] at h
      exact ⟨by simp, rfl, by simp only [atsD, List.length_map]; unfold LIM; omega, _, _, weak_packG [some 0, some 1] rfl, h⟩
    · have g : v = ⟨#[]⟩ := by simpa using g
      have e : withL l name v = l := by simp [withL, g]
      rw [e] at h
      exact ⟨_, _, weak_packG [some 0, some 1] rfl, h⟩
  · exact h.elim
noncomputable abbrev GLs : List (FuncId × En) := [(28, .ref (frameX EWith)), (30, .det FTxt)]
noncomputable def rLs_k0 (q : AV → Prop) : Kont := kBlk (0 : Nat) (kSeq (aCode KS GLs (cAt [1, 1, 1, 1, 1] Tryz.b29) (kRet KS (Array.toList (Func.results Tryz.f29)) q)) (kRet KS (Array.toList (Func.results Tryz.f29)) q))
theorem rLs (s : Sz) (q : AV → Prop) :
 (aCode KS GLs Tryz.b29 (kRet KS Tryz.f29.results.toList q) ⟨[szV s] ++ List.replicate (Tryz.f29.ntmps - 1) .jk, []⟩) = (
 bcase (decide ((Sz.ver s) > (0 : Int))) (
 (((0 : Int) ≤ (IntKind.wrap .u32 (Sz.ver s))) ∧ ((IntKind.wrap .u32 (Sz.ver s)) ≤ (4294967295 : Int))) ∧ (
 ∃ (n : ByteArray),
 ∃ (t : ByteArray),
 ∃ (name : ByteArray),
 ∃ (v : ByteArray),
 ([AV.ag [mkS ⟨#[113, 117, 101, 114, 121]⟩, AV.nl, mkS ⟨#[]⟩, AV.nl], mkS ⟨#[118, 101, 114]⟩, mkS (decS (Int.toNat (IntKind.wrap .u32 (Sz.ver s))))] = [AV.ag [mkS n, AV.nl, mkS t, AV.nl], mkS name, mkS v]) ∧
 ([Ob.gh []] = [Ob.gh []]) ∧
 ((Option.some (Ob.gh [])) = (Option.some (Ob.gh []))) ∧ (
 ((List.length (itsD (Sz.its s))) ≤ LIM) →
 ALoop (aCode KS GLs (cAt [1, 1, 1, 1, 0, 1, 0, 0] Tryz.b29)) (rLs_k0 q) ⟨[.ag [mkI .i64 (Sz.kind s), mkS (Sz.ty s), mkS (Sz.id s), mkS (Sz.from_ s), mkS (Sz.to_ s), mkS (Sz.show_ s), mkS (Sz.tok s), mkS (Sz.rea s), mkI .u32 (Sz.h s), mkI .i64 (Sz.ver s), mkB (Sz.rem s), .d (.sl (itsD (Sz.its s)))], .rf 0 0, .rf 1 0, .rf 2 0, .vw 6 4, .jk, .jk, .jk, .jk, .ag [mkS ⟨#[113, 117, 101, 114, 121]⟩, .nl, mkS ⟨#[]⟩, .nl], .rf 0 (0 + 9), mkI .i64 (Sz.ver s), mkB true, .ag [mkS ⟨#[113, 117, 101, 114, 121]⟩, .nl, mkS ⟨#[]⟩, .nl], .rf 0 (0 + 9), mkI .i64 (Sz.ver s), mkI .u32 (IntKind.wrap .u32 (Sz.ver s)), mkS (decS (Int.toNat (IntKind.wrap .u32 (Sz.ver s)))), .ag [mkS n, .vw (if 1 < 0 then 0 else 4 + (1 - 0)) (List.length (atsD (withL [] name v))), mkS t, .nl], .vw 6 4, .rf 0 (0 + 11), .d (.sl (itsD (Sz.its s))), mkI .i64 ((List.length (itsD (Sz.its s))) : Int), mkI .i64 0] ++ (jks 32), [.box [mkI .i64 (Sz.kind s), mkS (Sz.ty s), mkS (Sz.id s), mkS (Sz.from_ s), mkS (Sz.to_ s), mkS (Sz.show_ s), mkS (Sz.tok s), mkS (Sz.rea s), mkI .u32 (Sz.h s), mkI .i64 (Sz.ver s), mkB (Sz.rem s), .d (.sl (itsD (Sz.its s)))], .box [mkS ⟨#[]⟩, .nl, mkS ⟨#[]⟩, .nl], .box [mkS n, .vw (if 1 < 0 then 0 else 4 + (1 - 0)) (List.length (atsD (withL [] name v))), mkS t, .nl], .gone, .gone, .row 2 (atsD (withL [] name v)), .row 1 [[D.v (.string ⟨#[]⟩)], [D.v (.string ⟨#[116, 111]⟩)], [D.v (.string ⟨#[102, 114, 111, 109]⟩)], [D.v (.string ⟨#[98, 111, 116, 104]⟩)]]]⟩))) (
 ((List.length (itsD (Sz.its s))) ≤ LIM) →
 ALoop (aCode KS GLs (cAt [1, 1, 1, 1, 0, 1, 0, 0] Tryz.b29)) (rLs_k0 q) ⟨[.ag [mkI .i64 (Sz.kind s), mkS (Sz.ty s), mkS (Sz.id s), mkS (Sz.from_ s), mkS (Sz.to_ s), mkS (Sz.show_ s), mkS (Sz.tok s), mkS (Sz.rea s), mkI .u32 (Sz.h s), mkI .i64 (Sz.ver s), mkB (Sz.rem s), .d (.sl (itsD (Sz.its s)))], .rf 0 0, .rf 1 0, .rf 2 0, .vw 3 4, .jk, .jk, .jk, .jk, .ag [mkS ⟨#[113, 117, 101, 114, 121]⟩, .nl, mkS ⟨#[]⟩, .nl], .rf 0 (0 + 9), mkI .i64 (Sz.ver s), mkB false, .jk, .jk, .jk, .jk, .jk, .jk, .vw 3 4, .rf 0 (0 + 11), .d (.sl (itsD (Sz.its s))), mkI .i64 ((List.length (itsD (Sz.its s))) : Int), mkI .i64 0] ++ (jks 32), [.box [mkI .i64 (Sz.kind s), mkS (Sz.ty s), mkS (Sz.id s), mkS (Sz.from_ s), mkS (Sz.to_ s), mkS (Sz.show_ s), mkS (Sz.tok s), mkS (Sz.rea s), mkI .u32 (Sz.h s), mkI .i64 (Sz.ver s), mkB (Sz.rem s), .d (.sl (itsD (Sz.its s)))], .box [mkS ⟨#[]⟩, .nl, mkS ⟨#[]⟩, .nl], .box [mkS ⟨#[113, 117, 101, 114, 121]⟩, .nl, mkS ⟨#[]⟩, .nl], .row 1 [[D.v (.string ⟨#[]⟩)], [D.v (.string ⟨#[116, 111]⟩)], [D.v (.string ⟨#[102, 114, 111, 109]⟩)], [D.v (.string ⟨#[98, 111, 116, 104]⟩)]]]⟩)) := by kernel_rfl
def wordsD : List (List D) := [[.v (.string ⟨#[]⟩)], [.v (.string kTo)], [.v (.string kFrom)], [.v (.string sBoth)]]
def stLs (s : Sz) (va : List At) (ks : List El) (i : Int) : S := ⟨[.jk, .rf 0 0, .rf 1 0, .rf 2 0, .vw 3 4] ++ jks 16 ++ [.d (.sl (itsD s.its)), mkI .i64 (itsD s.its).length, mkI .i64 i] ++ jks 32,
  [.box [mkI .i64 s.kind, mkS s.ty, mkS s.id, mkS s.from_, mkS s.to_, mkS s.show_, mkS s.tok, mkS s.rea, mkI .u32 s.h, mkI .i64 s.ver, mkB s.rem, .d (.sl (itsD s.its))], .box [mkS ⟨#[]⟩, .nl, mkS ⟨#[]⟩, .nl], .box [mkS sQuery, .d (.sl (atsD va)), mkS ⟨#[]⟩, .vw 4 (ksD ks).length], .row 1 wordsD, .row 4 (ksD ks)]⟩
noncomputable abbrev rLs_b_c (s : Sz) (i : Int) : BA := (strD (List.getD (List.getD (itsD (Sz.its s)) (Int.toNat i) []) 0 d0))
noncomputable abbrev rLs_b_n (s : Sz) (i : Int) : BA := (strD (List.getD (List.drop 1 (List.getD (itsD (Sz.its s)) (Int.toNat i) [])) 0 d0))
noncomputable abbrev rLs_b_z (s : Sz) (i : Int) : Int := (intD (List.getD (List.drop 1 (List.drop 1 (List.getD (itsD (Sz.its s)) (Int.toNat i) []))) 0 d0))
noncomputable abbrev rLs_b_k (s : Sz) (i : Int) : Bool := (boolD (List.getD (List.drop 1 (List.drop 1 (List.drop 1 (List.getD (itsD (Sz.its s)) (Int.toNat i) [])))) 0 d0))
noncomputable abbrev rLs_b_e0 {ι : Type} (st : ι → S) (inv : ι → Prop) (μ : ι → Nat) (kk : ι) (s : Sz) (va : List At) (ks : List El) (i : Int) (name_1 : ByteArray) (v_1 : ByteArray) (l : List At) (n_2 : ByteArray) (t_2 : ByteArray) (name_2 : ByteArray) (v_2 : ByteArray) (l_1 : List At) : Prop := (([Ob.row 2 (atsD (withL l name_1 v_1)), Ob.gh []] = [Ob.row 2 (atsD l_1), Ob.gh []]) ∧ (((List.length l_1) < (16 : Nat)) ∧ (((Option.some (Ob.gh [])) = (Option.some (Ob.gh []))) ∧ (((mkS (rLs_b_n s i)) = (mkS (rLs_b_n s i))) ∧ (((mkS (rLs_b_n s i)) = (mkS (rLs_b_n s i))) ∧ (bcase (rLs_b_k s i) (∃ (n_3 : ByteArray), ∃ (t_3 : ByteArray), ∃ (name_3 : ByteArray), ∃ (v_3 : ByteArray), ∃ (l_2 : List At), ([AV.ag [mkS n_2, AV.vw 0 (List.length (atsD (withL l_1 name_2 v_2))), mkS t_2, AV.nl], mkS ⟨#[97, 115, 107]⟩, mkS ⟨#[115, 117, 98, 115, 99, 114, 105, 98, 101]⟩] = [AV.ag [mkS n_3, AV.vw 0 (List.length (atsD l_2)), mkS t_3, AV.nl], mkS name_3, mkS v_3]) ∧ (([Ob.row 2 (atsD (withL l_1 name_2 v_2)), Ob.gh []] = [Ob.row 2 (atsD l_2), Ob.gh []]) ∧ (((List.length l_2) < (16 : Nat)) ∧ (((Option.some (Ob.gh [])) = (Option.some (Ob.gh []))) ∧ ((∀ (c : List D), (c ∈ [[D.v (.string n_3), D.sl (List.take (List.length (atsD (withL l_2 name_3 v_3))) (atsD (withL l_2 name_3 v_3))), D.v (.string t_3), D.sl []]]) → (List.length c) = 4) ∧ (((List.length (ksD ks)) = (List.length (ksD ks))) ∧ ((((List.length (ksD ks)) + 1) ≤ LIM) ∧ (FamNext st inv μ kk ⟨[.jk, .rf 0 0, .rf 1 0, .rf 2 0, .vw 3 4] ++ (jks 16 ++ ([.d (.sl (itsD (Sz.its s))), mkI .i64 ((List.length (itsD (Sz.its s))) : Int), mkI .i64 (IntKind.wrap .i64 (i + (1 : Int)))] ++ (jks 32))), [.box [mkI .i64 (Sz.kind s), mkS (Sz.ty s), mkS (Sz.id s), mkS (Sz.from_ s), mkS (Sz.to_ s), mkS (Sz.show_ s), mkS (Sz.tok s), mkS (Sz.rea s), mkI .u32 (Sz.h s), mkI .i64 (Sz.ver s), mkB (Sz.rem s), .d (.sl (itsD (Sz.its s)))], .box [mkS ⟨#[]⟩, .nl, mkS ⟨#[]⟩, .nl], .box [mkS sQuery, .d (.sl (atsD va)), mkS ⟨#[]⟩, .vw 4 ((List.length (ksD ks)) + 1)], .row 1 [[D.v (.string ⟨#[]⟩)], [D.v (.string kTo)], [D.v (.string kFrom)], [D.v (.string sBoth)]], .row 4 ((ksD ks) ++ [[D.v (.string n_3), D.sl (List.take (List.length (atsD (withL l_2 name_3 v_3))) (atsD (withL l_2 name_3 v_3))), D.v (.string t_3), D.sl []]]), .box [mkS (rLs_b_c s i), mkS (rLs_b_n s i), mkI .i64 (rLs_b_z s i), mkB (rLs_b_k s i)], .gone, .gone, .gone, .gone, .gone, .gone, .gone, .box [mkS n_3, .d (.sl (List.take (List.length (atsD (withL l_2 name_3 v_3))) (atsD (withL l_2 name_3 v_3)))), mkS t_3, .nl], .gone, .gone, .row 4 [[D.v (.string n_3), D.sl (List.take (List.length (atsD (withL l_2 name_3 v_3))) (atsD (withL l_2 name_3 v_3))), D.v (.string t_3), D.sl []]]]⟩)))))))) ((∀ (c : List D), (c ∈ [[D.v (.string n_2), D.sl (List.take (List.length (atsD (withL l_1 name_2 v_2))) (atsD (withL l_1 name_2 v_2))), D.v (.string t_2), D.sl []]]) → (List.length c) = 4) ∧ (((List.length (ksD ks)) = (List.length (ksD ks))) ∧ ((((List.length (ksD ks)) + 1) ≤ LIM) ∧ (FamNext st inv μ kk ⟨[.jk, .rf 0 0, .rf 1 0, .rf 2 0, .vw 3 4] ++ (jks 16 ++ ([.d (.sl (itsD (Sz.its s))), mkI .i64 ((List.length (itsD (Sz.its s))) : Int), mkI .i64 (IntKind.wrap .i64 (i + (1 : Int)))] ++ (jks 32))), [.box [mkI .i64 (Sz.kind s), mkS (Sz.ty s), mkS (Sz.id s), mkS (Sz.from_ s), mkS (Sz.to_ s), mkS (Sz.show_ s), mkS (Sz.tok s), mkS (Sz.rea s), mkI .u32 (Sz.h s), mkI .i64 (Sz.ver s), mkB (Sz.rem s), .d (.sl (itsD (Sz.its s)))], .box [mkS ⟨#[]⟩, .nl, mkS ⟨#[]⟩, .nl], .box [mkS sQuery, .d (.sl (atsD va)), mkS ⟨#[]⟩, .vw 4 ((List.length (ksD ks)) + 1)], .row 1 [[D.v (.string ⟨#[]⟩)], [D.v (.string kTo)], [D.v (.string kFrom)], [D.v (.string sBoth)]], .row 4 ((ksD ks) ++ [[D.v (.string n_2), D.sl (List.take (List.length (atsD (withL l_1 name_2 v_2))) (atsD (withL l_1 name_2 v_2))), D.v (.string t_2), D.sl []]]), .box [mkS (rLs_b_c s i), mkS (rLs_b_n s i), mkI .i64 (rLs_b_z s i), mkB (rLs_b_k s i)], .gone, .gone, .gone, .gone, .gone, .gone, .gone, .box [mkS n_2, .d (.sl (List.take (List.length (atsD (withL l_1 name_2 v_2))) (atsD (withL l_1 name_2 v_2)))), mkS t_2, .nl], .row 4 [[D.v (.string n_2), D.sl (List.take (List.length (atsD (withL l_1 name_2 v_2))) (atsD (withL l_1 name_2 v_2))), D.v (.string t_2), D.sl []]]]⟩))))))))))
noncomputable abbrev rLs_b_e1 {ι : Type} (st : ι → S) (inv : ι → Prop) (μ : ι → Nat) (kk : ι) (s : Sz) (va : List At) (ks : List El) (i : Int) (name_1 : ByteArray) (v_1 : ByteArray) (l : List At) (n_2 : ByteArray) (t_2 : ByteArray) (name_2 : ByteArray) (v_2 : ByteArray) (l_1 : List At) : Prop := (([Ob.row 2 (atsD (withL l name_1 v_1)), Ob.gh []] = [Ob.row 2 (atsD l_1), Ob.gh []]) ∧ (((List.length l_1) < (16 : Nat)) ∧ (((Option.some (Ob.gh [])) = (Option.some (Ob.gh []))) ∧ (((mkS (rLs_b_n s i)) = (mkS (rLs_b_n s i))) ∧ (((mkS (rLs_b_n s i)) = (mkS (rLs_b_n s i))) ∧ (bcase (rLs_b_k s i) (∃ (n_3 : ByteArray), ∃ (t_3 : ByteArray), ∃ (name_3 : ByteArray), ∃ (v_3 : ByteArray), ∃ (l_2 : List At), ([AV.ag [mkS n_2, AV.vw 0 (List.length (atsD (withL l_1 name_2 v_2))), mkS t_2, AV.nl], mkS ⟨#[97, 115, 107]⟩, mkS ⟨#[115, 117, 98, 115, 99, 114, 105, 98, 101]⟩] = [AV.ag [mkS n_3, AV.vw 0 (List.length (atsD l_2)), mkS t_3, AV.nl], mkS name_3, mkS v_3]) ∧ (([Ob.row 2 (atsD (withL l_1 name_2 v_2)), Ob.gh []] = [Ob.row 2 (atsD l_2), Ob.gh []]) ∧ (((List.length l_2) < (16 : Nat)) ∧ (((Option.some (Ob.gh [])) = (Option.some (Ob.gh []))) ∧ ((∀ (c : List D), (c ∈ [[D.v (.string n_3), D.sl (List.take (List.length (atsD (withL l_2 name_3 v_3))) (atsD (withL l_2 name_3 v_3))), D.v (.string t_3), D.sl []]]) → (List.length c) = 4) ∧ (((List.length (ksD ks)) = (List.length (ksD ks))) ∧ ((((List.length (ksD ks)) + 1) ≤ LIM) ∧ (FamNext st inv μ kk ⟨[.jk, .rf 0 0, .rf 1 0, .rf 2 0, .vw 3 4] ++ (jks 16 ++ ([.d (.sl (itsD (Sz.its s))), mkI .i64 ((List.length (itsD (Sz.its s))) : Int), mkI .i64 (IntKind.wrap .i64 (i + (1 : Int)))] ++ (jks 32))), [.box [mkI .i64 (Sz.kind s), mkS (Sz.ty s), mkS (Sz.id s), mkS (Sz.from_ s), mkS (Sz.to_ s), mkS (Sz.show_ s), mkS (Sz.tok s), mkS (Sz.rea s), mkI .u32 (Sz.h s), mkI .i64 (Sz.ver s), mkB (Sz.rem s), .d (.sl (itsD (Sz.its s)))], .box [mkS ⟨#[]⟩, .nl, mkS ⟨#[]⟩, .nl], .box [mkS sQuery, .d (.sl (atsD va)), mkS ⟨#[]⟩, .vw 4 ((List.length (ksD ks)) + 1)], .row 1 [[D.v (.string ⟨#[]⟩)], [D.v (.string kTo)], [D.v (.string kFrom)], [D.v (.string sBoth)]], .row 4 ((ksD ks) ++ [[D.v (.string n_3), D.sl (List.take (List.length (atsD (withL l_2 name_3 v_3))) (atsD (withL l_2 name_3 v_3))), D.v (.string t_3), D.sl []]]), .box [mkS (rLs_b_c s i), mkS (rLs_b_n s i), mkI .i64 (rLs_b_z s i), mkB (rLs_b_k s i)], .gone, .gone, .gone, .gone, .gone, .box [mkS n_3, .d (.sl (List.take (List.length (atsD (withL l_2 name_3 v_3))) (atsD (withL l_2 name_3 v_3)))), mkS t_3, .nl], .gone, .gone, .gone, .gone, .row 4 [[D.v (.string n_3), D.sl (List.take (List.length (atsD (withL l_2 name_3 v_3))) (atsD (withL l_2 name_3 v_3))), D.v (.string t_3), D.sl []]]]⟩)))))))) ((∀ (c : List D), (c ∈ [[D.v (.string n_2), D.sl (List.take (List.length (atsD (withL l_1 name_2 v_2))) (atsD (withL l_1 name_2 v_2))), D.v (.string t_2), D.sl []]]) → (List.length c) = 4) ∧ (((List.length (ksD ks)) = (List.length (ksD ks))) ∧ ((((List.length (ksD ks)) + 1) ≤ LIM) ∧ (FamNext st inv μ kk ⟨[.jk, .rf 0 0, .rf 1 0, .rf 2 0, .vw 3 4] ++ (jks 16 ++ ([.d (.sl (itsD (Sz.its s))), mkI .i64 ((List.length (itsD (Sz.its s))) : Int), mkI .i64 (IntKind.wrap .i64 (i + (1 : Int)))] ++ (jks 32))), [.box [mkI .i64 (Sz.kind s), mkS (Sz.ty s), mkS (Sz.id s), mkS (Sz.from_ s), mkS (Sz.to_ s), mkS (Sz.show_ s), mkS (Sz.tok s), mkS (Sz.rea s), mkI .u32 (Sz.h s), mkI .i64 (Sz.ver s), mkB (Sz.rem s), .d (.sl (itsD (Sz.its s)))], .box [mkS ⟨#[]⟩, .nl, mkS ⟨#[]⟩, .nl], .box [mkS sQuery, .d (.sl (atsD va)), mkS ⟨#[]⟩, .vw 4 ((List.length (ksD ks)) + 1)], .row 1 [[D.v (.string ⟨#[]⟩)], [D.v (.string kTo)], [D.v (.string kFrom)], [D.v (.string sBoth)]], .row 4 ((ksD ks) ++ [[D.v (.string n_2), D.sl (List.take (List.length (atsD (withL l_1 name_2 v_2))) (atsD (withL l_1 name_2 v_2))), D.v (.string t_2), D.sl []]]), .box [mkS (rLs_b_c s i), mkS (rLs_b_n s i), mkI .i64 (rLs_b_z s i), mkB (rLs_b_k s i)], .gone, .gone, .gone, .gone, .gone, .box [mkS n_2, .d (.sl (List.take (List.length (atsD (withL l_1 name_2 v_2))) (atsD (withL l_1 name_2 v_2)))), mkS t_2, .nl], .gone, .gone, .row 4 [[D.v (.string n_2), D.sl (List.take (List.length (atsD (withL l_1 name_2 v_2))) (atsD (withL l_1 name_2 v_2))), D.v (.string t_2), D.sl []]]]⟩))))))))))
noncomputable abbrev rLs_b_e2 {ι : Type} (st : ι → S) (inv : ι → Prop) (μ : ι → Nat) (kk : ι) (s : Sz) (va : List At) (ks : List El) (i : Int) (name_1 : ByteArray) (v_1 : ByteArray) (l : List At) (n_2 : ByteArray) (t_2 : ByteArray) (name_2 : ByteArray) (v_2 : ByteArray) (l_1 : List At) : Prop := (([Ob.row 2 (atsD (withL l name_1 v_1)), Ob.gh []] = [Ob.row 2 (atsD l_1), Ob.gh []]) ∧ (((List.length l_1) < (16 : Nat)) ∧ (((Option.some (Ob.gh [])) = (Option.some (Ob.gh []))) ∧ (((mkS (rLs_b_n s i)) = (mkS (rLs_b_n s i))) ∧ (((mkS (rLs_b_n s i)) = (mkS (rLs_b_n s i))) ∧ (bcase (rLs_b_k s i) (∃ (n_3 : ByteArray), ∃ (t_3 : ByteArray), ∃ (name_3 : ByteArray), ∃ (v_3 : ByteArray), ∃ (l_2 : List At), ([AV.ag [mkS n_2, AV.vw 0 (List.length (atsD (withL l_1 name_2 v_2))), mkS t_2, AV.nl], mkS ⟨#[97, 115, 107]⟩, mkS ⟨#[115, 117, 98, 115, 99, 114, 105, 98, 101]⟩] = [AV.ag [mkS n_3, AV.vw 0 (List.length (atsD l_2)), mkS t_3, AV.nl], mkS name_3, mkS v_3]) ∧ (([Ob.row 2 (atsD (withL l_1 name_2 v_2)), Ob.gh []] = [Ob.row 2 (atsD l_2), Ob.gh []]) ∧ (((List.length l_2) < (16 : Nat)) ∧ (((Option.some (Ob.gh [])) = (Option.some (Ob.gh []))) ∧ ((∀ (c : List D), (c ∈ [[D.v (.string n_3), D.sl (List.take (List.length (atsD (withL l_2 name_3 v_3))) (atsD (withL l_2 name_3 v_3))), D.v (.string t_3), D.sl []]]) → (List.length c) = 4) ∧ (((List.length (ksD ks)) = (List.length (ksD ks))) ∧ ((((List.length (ksD ks)) + 1) ≤ LIM) ∧ (FamNext st inv μ kk ⟨[.jk, .rf 0 0, .rf 1 0, .rf 2 0, .vw 3 4] ++ (jks 16 ++ ([.d (.sl (itsD (Sz.its s))), mkI .i64 ((List.length (itsD (Sz.its s))) : Int), mkI .i64 (IntKind.wrap .i64 (i + (1 : Int)))] ++ (jks 32))), [.box [mkI .i64 (Sz.kind s), mkS (Sz.ty s), mkS (Sz.id s), mkS (Sz.from_ s), mkS (Sz.to_ s), mkS (Sz.show_ s), mkS (Sz.tok s), mkS (Sz.rea s), mkI .u32 (Sz.h s), mkI .i64 (Sz.ver s), mkB (Sz.rem s), .d (.sl (itsD (Sz.its s)))], .box [mkS ⟨#[]⟩, .nl, mkS ⟨#[]⟩, .nl], .box [mkS sQuery, .d (.sl (atsD va)), mkS ⟨#[]⟩, .vw 4 ((List.length (ksD ks)) + 1)], .row 1 [[D.v (.string ⟨#[]⟩)], [D.v (.string kTo)], [D.v (.string kFrom)], [D.v (.string sBoth)]], .row 4 ((ksD ks) ++ [[D.v (.string n_3), D.sl (List.take (List.length (atsD (withL l_2 name_3 v_3))) (atsD (withL l_2 name_3 v_3))), D.v (.string t_3), D.sl []]]), .box [mkS (rLs_b_c s i), mkS (rLs_b_n s i), mkI .i64 (rLs_b_z s i), mkB (rLs_b_k s i)], .gone, .gone, .gone, .box [mkS n_3, .d (.sl (List.take (List.length (atsD (withL l_2 name_3 v_3))) (atsD (withL l_2 name_3 v_3)))), mkS t_3, .nl], .gone, .gone, .gone, .gone, .gone, .gone, .row 4 [[D.v (.string n_3), D.sl (List.take (List.length (atsD (withL l_2 name_3 v_3))) (atsD (withL l_2 name_3 v_3))), D.v (.string t_3), D.sl []]]]⟩)))))))) ((∀ (c : List D), (c ∈ [[D.v (.string n_2), D.sl (List.take (List.length (atsD (withL l_1 name_2 v_2))) (atsD (withL l_1 name_2 v_2))), D.v (.string t_2), D.sl []]]) → (List.length c) = 4) ∧ (((List.length (ksD ks)) = (List.length (ksD ks))) ∧ ((((List.length (ksD ks)) + 1) ≤ LIM) ∧ (FamNext st inv μ kk ⟨[.jk, .rf 0 0, .rf 1 0, .rf 2 0, .vw 3 4] ++ (jks 16 ++ ([.d (.sl (itsD (Sz.its s))), mkI .i64 ((List.length (itsD (Sz.its s))) : Int), mkI .i64 (IntKind.wrap .i64 (i + (1 : Int)))] ++ (jks 32))), [.box [mkI .i64 (Sz.kind s), mkS (Sz.ty s), mkS (Sz.id s), mkS (Sz.from_ s), mkS (Sz.to_ s), mkS (Sz.show_ s), mkS (Sz.tok s), mkS (Sz.rea s), mkI .u32 (Sz.h s), mkI .i64 (Sz.ver s), mkB (Sz.rem s), .d (.sl (itsD (Sz.its s)))], .box [mkS ⟨#[]⟩, .nl, mkS ⟨#[]⟩, .nl], .box [mkS sQuery, .d (.sl (atsD va)), mkS ⟨#[]⟩, .vw 4 ((List.length (ksD ks)) + 1)], .row 1 [[D.v (.string ⟨#[]⟩)], [D.v (.string kTo)], [D.v (.string kFrom)], [D.v (.string sBoth)]], .row 4 ((ksD ks) ++ [[D.v (.string n_2), D.sl (List.take (List.length (atsD (withL l_1 name_2 v_2))) (atsD (withL l_1 name_2 v_2))), D.v (.string t_2), D.sl []]]), .box [mkS (rLs_b_c s i), mkS (rLs_b_n s i), mkI .i64 (rLs_b_z s i), mkB (rLs_b_k s i)], .gone, .gone, .gone, .box [mkS n_2, .d (.sl (List.take (List.length (atsD (withL l_1 name_2 v_2))) (atsD (withL l_1 name_2 v_2)))), mkS t_2, .nl], .gone, .gone, .gone, .gone, .row 4 [[D.v (.string n_2), D.sl (List.take (List.length (atsD (withL l_1 name_2 v_2))) (atsD (withL l_1 name_2 v_2))), D.v (.string t_2), D.sl []]]]⟩))))))))))
noncomputable abbrev rLs_b_e3 {ι : Type} (st : ι → S) (inv : ι → Prop) (μ : ι → Nat) (kk : ι) (s : Sz) (va : List At) (ks : List El) (i : Int) (n_2 : ByteArray) (t_2 : ByteArray) (name_2 : ByteArray) (v_2 : ByteArray) (l_1 : List At) : Prop := (
        ∃ (n_3 : ByteArray),
        ∃ (t_3 : ByteArray),
        ∃ (name_3 : ByteArray),
        ∃ (v_3 : ByteArray),
        ∃ (l_2 : List At),
        ([AV.ag [mkS n_2, AV.vw 0 (List.length (atsD (withL l_1 name_2 v_2))), mkS t_2, AV.nl], mkS ⟨#[97, 115, 107]⟩, mkS ⟨#[115, 117, 98, 115, 99, 114, 105, 98, 101]⟩] = [AV.ag [mkS n_3, AV.vw 0 (List.length (atsD l_2)), mkS t_3, AV.nl], mkS name_3, mkS v_3]) ∧
        ([Ob.row 2 (atsD (withL l_1 name_2 v_2)), Ob.gh []] = [Ob.row 2 (atsD l_2), Ob.gh []]) ∧
        ((List.length l_2) < (16 : Nat)) ∧
        ((Option.some (Ob.gh [])) = (Option.some (Ob.gh []))) ∧
        (∀ (c : List D), (c ∈ [[D.v (.string n_3), D.sl (List.take (List.length (atsD (withL l_2 name_3 v_3))) (atsD (withL l_2 name_3 v_3))), D.v (.string t_3), D.sl []]]) → (List.length c) = 4) ∧
        ((List.length (ksD ks)) = (List.length (ksD ks))) ∧
        (((List.length (ksD ks)) + 1) ≤ LIM) ∧
        FamNext st inv μ kk ⟨[.jk, .rf 0 0, .rf 1 0, .rf 2 0, .vw 3 4] ++ (jks 16 ++ ([.d (.sl (itsD (Sz.its s))), mkI .i64 ((List.length (itsD (Sz.its s))) : Int), mkI .i64 (IntKind.wrap .i64 (i + (1 : Int)))] ++ (jks 32))), [.box [mkI .i64 (Sz.kind s), mkS (Sz.ty s), mkS (Sz.id s), mkS (Sz.from_ s), mkS (Sz.to_ s), mkS (Sz.show_ s), mkS (Sz.tok s), mkS (Sz.rea s), mkI .u32 (Sz.h s), mkI .i64 (Sz.ver s), mkB (Sz.rem s), .d (.sl (itsD (Sz.its s)))], .box [mkS ⟨#[]⟩, .nl, mkS ⟨#[]⟩, .nl], .box [mkS sQuery, .d (.sl (atsD va)), mkS ⟨#[]⟩, .vw 4 ((List.length (ksD ks)) + 1)], .row 1 [[D.v (.string ⟨#[]⟩)], [D.v (.string kTo)], [D.v (.string kFrom)], [D.v (.string sBoth)]], .row 4 ((ksD ks) ++ [[D.v (.string n_3), D.sl (List.take (List.length (atsD (withL l_2 name_3 v_3))) (atsD (withL l_2 name_3 v_3))), D.v (.string t_3), D.sl []]]), .box [mkS (rLs_b_c s i), mkS (rLs_b_n s i), mkI .i64 (rLs_b_z s i), mkB (rLs_b_k s i)], .box [mkS n_3, .d (.sl (List.take (List.length (atsD (withL l_2 name_3 v_3))) (atsD (withL l_2 name_3 v_3)))), mkS t_3, .nl], .gone, .gone, .gone, .gone, .gone, .gone, .gone, .gone, .gone, .row 4 [[D.v (.string n_3), D.sl (List.take (List.length (atsD (withL l_2 name_3 v_3))) (atsD (withL l_2 name_3 v_3))), D.v (.string t_3), D.sl []]]]⟩)
noncomputable abbrev rLs_b_e4 {ι : Type} (st : ι → S) (inv : ι → Prop) (μ : ι → Nat) (kk : ι) (s : Sz) (va : List At) (ks : List El) (i : Int) (n_2 : ByteArray) (t_2 : ByteArray) (name_2 : ByteArray) (v_2 : ByteArray) (l_1 : List At) : Prop := (
        (∀ (c : List D), (c ∈ [[D.v (.string n_2), D.sl (List.take (List.length (atsD (withL l_1 name_2 v_2))) (atsD (withL l_1 name_2 v_2))), D.v (.string t_2), D.sl []]]) → (List.length c) = 4) ∧
        ((List.length (ksD ks)) = (List.length (ksD ks))) ∧
        (((List.length (ksD ks)) + 1) ≤ LIM) ∧
        FamNext st inv μ kk ⟨[.jk, .rf 0 0, .rf 1 0, .rf 2 0, .vw 3 4] ++ (jks 16 ++ ([.d (.sl (itsD (Sz.its s))), mkI .i64 ((List.length (itsD (Sz.its s))) : Int), mkI .i64 (IntKind.wrap .i64 (i + (1 : Int)))] ++ (jks 32))), [.box [mkI .i64 (Sz.kind s), mkS (Sz.ty s), mkS (Sz.id s), mkS (Sz.from_ s), mkS (Sz.to_ s), mkS (Sz.show_ s), mkS (Sz.tok s), mkS (Sz.rea s), mkI .u32 (Sz.h s), mkI .i64 (Sz.ver s), mkB (Sz.rem s), .d (.sl (itsD (Sz.its s)))], .box [mkS ⟨#[]⟩, .nl, mkS ⟨#[]⟩, .nl], .box [mkS sQuery, .d (.sl (atsD va)), mkS ⟨#[]⟩, .vw 4 ((List.length (ksD ks)) + 1)], .row 1 [[D.v (.string ⟨#[]⟩)], [D.v (.string kTo)], [D.v (.string kFrom)], [D.v (.string sBoth)]], .row 4 ((ksD ks) ++ [[D.v (.string n_2), D.sl (List.take (List.length (atsD (withL l_1 name_2 v_2))) (atsD (withL l_1 name_2 v_2))), D.v (.string t_2), D.sl []]]), .box [mkS (rLs_b_c s i), mkS (rLs_b_n s i), mkI .i64 (rLs_b_z s i), mkB (rLs_b_k s i)], .box [mkS n_2, .d (.sl (List.take (List.length (atsD (withL l_1 name_2 v_2))) (atsD (withL l_1 name_2 v_2)))), mkS t_2, .nl], .gone, .gone, .gone, .gone, .gone, .gone, .gone, .row 4 [[D.v (.string n_2), D.sl (List.take (List.length (atsD (withL l_1 name_2 v_2))) (atsD (withL l_1 name_2 v_2))), D.v (.string t_2), D.sl []]]]⟩)
theorem rLs_b {ι : Type} (st : ι → S) (inv : ι → Prop) (μ : ι → Nat) (kk : ι) (s : Sz) (va : List At) (ks : List El) (i : Int) (q : AV → Prop) :
 (aCode KS GLs (cAt [1, 1, 1, 1, 0, 1, 0, 0] Tryz.b29) (kFamM [] (maskOf (stLs s va ks i)) st inv μ kk (rLs_k0 q)) (stLs s va ks i)) = (
 bcase (decide (i < ((List.length (itsD (Sz.its s))) : Int))) (
 (((0 : Int) ≤ i) ∧ (i < ((List.length (itsD (Sz.its s))) : Int))) ∧
 ((List.length (List.getD (itsD (Sz.its s)) (Int.toNat i) [])) = 4) ∧
 (4 ≤ (List.length (List.getD (itsD (Sz.its s)) (Int.toNat i) []))) ∧
 (((List.getD (List.getD (itsD (Sz.its s)) (Int.toNat i) []) 0 d0) = (D.v (.string (rLs_b_c s i)))) ∧ (((List.getD (List.drop 1 (List.getD (itsD (Sz.its s)) (Int.toNat i) [])) 0 d0) = (D.v (.string (rLs_b_n s i)))) ∧ (((List.getD (List.drop 1 (List.drop 1 (List.getD (itsD (Sz.its s)) (Int.toNat i) []))) 0 d0) = (D.v (.int IntKind.i64 (rLs_b_z s i)))) ∧ (((List.getD (List.drop 1 (List.drop 1 (List.drop 1 (List.getD (itsD (Sz.its s)) (Int.toNat i) [])))) 0 d0) = (D.v (.bool (rLs_b_k s i)))) ∧ True)))) ∧
 (((0 : Int) ≤ (andZ IntKind.i64 (rLs_b_z s i) (3 : Int))) ∧ ((andZ IntKind.i64 (rLs_b_z s i) (3 : Int)) < ((4 : Nat) : Int))) ∧
 ((Int.toNat (andZ IntKind.i64 (rLs_b_z s i) (3 : Int))) < 4) ∧
 ((0 : Nat) ≤ (List.length (List.getD [[D.v (.string ⟨#[]⟩)], [D.v (.string kTo)], [D.v (.string kFrom)], [D.v (.string sBoth)]] (Int.toNat (andZ IntKind.i64 (rLs_b_z s i) (3 : Int))) []))) ∧
 ((1 : Nat) ≤ (List.length (List.drop 0 (List.getD [[D.v (.string ⟨#[]⟩)], [D.v (.string kTo)], [D.v (.string kFrom)], [D.v (.string sBoth)]] (Int.toNat (andZ IntKind.i64 (rLs_b_z s i) (3 : Int))) [])))) ∧
 ((List.getD (List.drop 0 (List.getD [[D.v (.string ⟨#[]⟩)], [D.v (.string kTo)], [D.v (.string kFrom)], [D.v (.string sBoth)]] (Int.toNat (andZ IntKind.i64 (rLs_b_z s i) (3 : Int))) [])) 0 d0) = (D.v (.string (strD (List.getD (List.drop 0 (List.getD [[D.v (.string ⟨#[]⟩)], [D.v (.string kTo)], [D.v (.string kFrom)], [D.v (.string sBoth)]] (Int.toNat (andZ IntKind.i64 (rLs_b_z s i) (3 : Int))) [])) 0 d0))))) ∧
 bcase (Sz.rem s) (
 (Nat.le (ByteArray.size (rLs_b_n s i)) LIM) ∧
 (∃ (n : ByteArray), ∃ (t : ByteArray), ∃ (name : ByteArray), ∃ (v : ByteArray), ([AV.ag [mkS ⟨#[105, 116, 101, 109]⟩, AV.nl, mkS ⟨#[]⟩, AV.nl], mkS ⟨#[106, 105, 100]⟩, mkS (rLs_b_c s i)] = [AV.ag [mkS n, AV.nl, mkS t, AV.nl], mkS name, mkS v]) ∧ (([Ob.gh []] = [Ob.gh []]) ∧ (((Option.some (Ob.gh [])) = (Option.some (Ob.gh []))) ∧ (((mkS (rLs_b_n s i)) = (mkS (rLs_b_n s i))) ∧ ((∃ (n_1 : ByteArray), ∃ (t_1 : ByteArray), ∃ (name_1 : ByteArray), ∃ (v_1 : ByteArray), ∃ (l : List At), ([AV.ag [mkS n, AV.vw 0 (List.length (atsD (withL [] name v))), mkS t, AV.nl], mkS ⟨#[110, 97, 109, 101]⟩, mkS (rLs_b_n s i)] = [AV.ag [mkS n_1, AV.vw 0 (List.length (atsD l)), mkS t_1, AV.nl], mkS name_1, mkS v_1]) ∧ (([Ob.row 2 (atsD (withL [] name v)), Ob.gh []] = [Ob.row 2 (atsD l), Ob.gh []]) ∧ (((List.length l) < (16 : Nat)) ∧ (((Option.some (Ob.gh [])) = (Option.some (Ob.gh []))) ∧ (((mkS (rLs_b_n s i)) = (mkS (rLs_b_n s i))) ∧ ((∃ (n_2 : ByteArray), ∃ (t_2 : ByteArray), ∃ (name_2 : ByteArray), ∃ (v_2 : ByteArray), ∃ (l_1 : List At), ([AV.ag [mkS n_1, AV.vw 0 (List.length (atsD (withL l name_1 v_1))), mkS t_1, AV.nl], mkS ⟨#[115, 117, 98, 115, 99, 114, 105, 112, 116, 105, 111, 110]⟩, mkS ⟨#[114, 101, 109, 111, 118, 101]⟩] = [AV.ag [mkS n_2, AV.vw 0 (List.length (atsD l_1)), mkS t_2, AV.nl], mkS name_2, mkS v_2]) ∧ (rLs_b_e0 st inv μ kk s va ks i name_1 v_1 l n_2 t_2 name_2 v_2 l_1)) ∧ (∃ (n_2 : ByteArray), ∃ (t_2 : ByteArray), ∃ (name_2 : ByteArray), ∃ (v_2 : ByteArray), ∃ (l_1 : List At), ([AV.ag [mkS n_1, AV.vw 0 (List.length (atsD (withL l name_1 v_1))), mkS t_1, AV.nl], mkS ⟨#[115, 117, 98, 115, 99, 114, 105, 112, 116, 105, 111, 110]⟩, mkS ⟨#[114, 101, 109, 111, 118, 101]⟩] = [AV.ag [mkS n_2, AV.vw 0 (List.length (atsD l_1)), mkS t_2, AV.nl], mkS name_2, mkS v_2]) ∧ (rLs_b_e1 st inv μ kk s va ks i name_1 v_1 l n_2 t_2 name_2 v_2 l_1)))))))) ∧ (∃ (n_1 : ByteArray), ∃ (t_1 : ByteArray), ∃ (name_1 : ByteArray), ∃ (v_1 : ByteArray), ∃ (l : List At), ([AV.ag [mkS n, AV.vw 0 (List.length (atsD (withL [] name v))), mkS t, AV.nl], mkS ⟨#[110, 97, 109, 101]⟩, mkS (rLs_b_n s i)] = [AV.ag [mkS n_1, AV.vw 0 (List.length (atsD l)), mkS t_1, AV.nl], mkS name_1, mkS v_1]) ∧ (([Ob.row 2 (atsD (withL [] name v)), Ob.gh []] = [Ob.row 2 (atsD l), Ob.gh []]) ∧ (((List.length l) < (16 : Nat)) ∧ (((Option.some (Ob.gh [])) = (Option.some (Ob.gh []))) ∧ (((mkS (rLs_b_n s i)) = (mkS (rLs_b_n s i))) ∧ (∃ (n_2 : ByteArray), ∃ (t_2 : ByteArray), ∃ (name_2 : ByteArray), ∃ (v_2 : ByteArray), ∃ (l_1 : List At), ([AV.ag [mkS n_1, AV.vw 0 (List.length (atsD (withL l name_1 v_1))), mkS t_1, AV.nl], mkS ⟨#[115, 117, 98, 115, 99, 114, 105, 112, 116, 105, 111, 110]⟩, mkS ⟨#[114, 101, 109, 111, 118, 101]⟩] = [AV.ag [mkS n_2, AV.vw 0 (List.length (atsD l_1)), mkS t_2, AV.nl], mkS name_2, mkS v_2]) ∧ (rLs_b_e2 st inv μ kk s va ks i name_1 v_1 l n_2 t_2 name_2 v_2 l_1)))))))))))) ∧ (
 ∃ (n : ByteArray),
 ∃ (t : ByteArray),
 ∃ (name : ByteArray),
 ∃ (v : ByteArray),
 ([AV.ag [mkS ⟨#[105, 116, 101, 109]⟩, AV.nl, mkS ⟨#[]⟩, AV.nl], mkS ⟨#[106, 105, 100]⟩, mkS (rLs_b_c s i)] = [AV.ag [mkS n, AV.nl, mkS t, AV.nl], mkS name, mkS v]) ∧
 ([Ob.gh []] = [Ob.gh []]) ∧
 ((Option.some (Ob.gh [])) = (Option.some (Ob.gh []))) ∧
 ((mkS (rLs_b_n s i)) = (mkS (rLs_b_n s i))) ∧ (
 ∃ (n_1 : ByteArray),
 ∃ (t_1 : ByteArray),
 ∃ (name_1 : ByteArray),
 ∃ (v_1 : ByteArray),
 ∃ (l : List At),
 ([AV.ag [mkS n, AV.vw 0 (List.length (atsD (withL [] name v))), mkS t, AV.nl], mkS ⟨#[110, 97, 109, 101]⟩, mkS (rLs_b_n s i)] = [AV.ag [mkS n_1, AV.vw 0 (List.length (atsD l)), mkS t_1, AV.nl], mkS name_1, mkS v_1]) ∧
 ([Ob.row 2 (atsD (withL [] name v)), Ob.gh []] = [Ob.row 2 (atsD l), Ob.gh []]) ∧
 ((List.length l) < (16 : Nat)) ∧
 ((Option.some (Ob.gh [])) = (Option.some (Ob.gh []))) ∧
 ((mkS (rLs_b_n s i)) = (mkS (rLs_b_n s i))) ∧ (
 ∃ (n_2 : ByteArray),
 ∃ (t_2 : ByteArray),
 ∃ (name_2 : ByteArray),
 ∃ (v_2 : ByteArray),
 ∃ (l_1 : List At),
 ([AV.ag [mkS n_1, AV.vw 0 (List.length (atsD (withL l name_1 v_1))), mkS t_1, AV.nl], mkS ⟨#[115, 117, 98, 115, 99, 114, 105, 112, 116, 105, 111, 110]⟩, mkS ⟨#[114, 101, 109, 111, 118, 101]⟩] = [AV.ag [mkS n_2, AV.vw 0 (List.length (atsD l_1)), mkS t_2, AV.nl], mkS name_2, mkS v_2]) ∧
 ([Ob.row 2 (atsD (withL l name_1 v_1)), Ob.gh []] = [Ob.row 2 (atsD l_1), Ob.gh []]) ∧
 ((List.length l_1) < (16 : Nat)) ∧
 ((Option.some (Ob.gh [])) = (Option.some (Ob.gh []))) ∧
 ((mkS (rLs_b_n s i)) = (mkS (rLs_b_n s i))) ∧
 ((mkS (rLs_b_n s i)) = (mkS (rLs_b_n s i))) ∧
 bcase (rLs_b_k s i) (rLs_b_e3 st inv μ kk s va ks i n_2 t_2 name_2 v_2 l_1) (rLs_b_e4 st inv μ kk s va ks i n_2 t_2 name_2 v_2 l_1))))) (
 (Nat.le (ByteArray.size (rLs_b_n s i)) LIM) ∧
 (∃ (n : ByteArray), ∃ (t : ByteArray), ∃ (name : ByteArray), ∃ (v : ByteArray), ([AV.ag [mkS ⟨#[105, 116, 101, 109]⟩, AV.nl, mkS ⟨#[]⟩, AV.nl], mkS ⟨#[106, 105, 100]⟩, mkS (rLs_b_c s i)] = [AV.ag [mkS n, AV.nl, mkS t, AV.nl], mkS name, mkS v]) ∧ (([Ob.gh []] = [Ob.gh []]) ∧ (((Option.some (Ob.gh [])) = (Option.some (Ob.gh []))) ∧ (((mkS (rLs_b_n s i)) = (mkS (rLs_b_n s i))) ∧ ((∃ (n_1 : ByteArray), ∃ (t_1 : ByteArray), ∃ (name_1 : ByteArray), ∃ (v_1 : ByteArray), ∃ (l : List At), ([AV.ag [mkS n, AV.vw 0 (List.length (atsD (withL [] name v))), mkS t, AV.nl], mkS ⟨#[110, 97, 109, 101]⟩, mkS (rLs_b_n s i)] = [AV.ag [mkS n_1, AV.vw 0 (List.length (atsD l)), mkS t_1, AV.nl], mkS name_1, mkS v_1]) ∧ (([Ob.row 2 (atsD (withL [] name v)), Ob.gh []] = [Ob.row 2 (atsD l), Ob.gh []]) ∧ (((List.length l) < (16 : Nat)) ∧ (((Option.some (Ob.gh [])) = (Option.some (Ob.gh []))) ∧ (((mkS (rLs_b_n s i)) = (mkS (rLs_b_n s i))) ∧ ((∃ (n_2 : ByteArray), ∃ (t_2 : ByteArray), ∃ (name_2 : ByteArray), ∃ (v_2 : ByteArray), ∃ (l_1 : List At), ([AV.ag [mkS n_1, AV.vw 0 (List.length (atsD (withL l name_1 v_1))), mkS t_1, AV.nl], mkS ⟨#[115, 117, 98, 115, 99, 114, 105, 112, 116, 105, 111, 110]⟩, mkS (strD (List.getD (List.drop 0 (List.getD [[D.v (.string ⟨#[]⟩)], [D.v (.string kTo)], [D.v (.string kFrom)], [D.v (.string sBoth)]] (Int.toNat (andZ IntKind.i64 (rLs_b_z s i) (3 : Int))) [])) 0 d0))] = [AV.ag [mkS n_2, AV.vw 0 (List.length (atsD l_1)), mkS t_2, AV.nl], mkS name_2, mkS v_2]) ∧ (rLs_b_e0 st inv μ kk s va ks i name_1 v_1 l n_2 t_2 name_2 v_2 l_1)) ∧ (∃ (n_2 : ByteArray), ∃ (t_2 : ByteArray), ∃ (name_2 : ByteArray), ∃ (v_2 : ByteArray), ∃ (l_1 : List At), ([AV.ag [mkS n_1, AV.vw 0 (List.length (atsD (withL l name_1 v_1))), mkS t_1, AV.nl], mkS ⟨#[115, 117, 98, 115, 99, 114, 105, 112, 116, 105, 111, 110]⟩, mkS (strD (List.getD (List.drop 0 (List.getD [[D.v (.string ⟨#[]⟩)], [D.v (.string kTo)], [D.v (.string kFrom)], [D.v (.string sBoth)]] (Int.toNat (andZ IntKind.i64 (rLs_b_z s i) (3 : Int))) [])) 0 d0))] = [AV.ag [mkS n_2, AV.vw 0 (List.length (atsD l_1)), mkS t_2, AV.nl], mkS name_2, mkS v_2]) ∧ (rLs_b_e1 st inv μ kk s va ks i name_1 v_1 l n_2 t_2 name_2 v_2 l_1)))))))) ∧ (∃ (n_1 : ByteArray), ∃ (t_1 : ByteArray), ∃ (name_1 : ByteArray), ∃ (v_1 : ByteArray), ∃ (l : List At), ([AV.ag [mkS n, AV.vw 0 (List.length (atsD (withL [] name v))), mkS t, AV.nl], mkS ⟨#[110, 97, 109, 101]⟩, mkS (rLs_b_n s i)] = [AV.ag [mkS n_1, AV.vw 0 (List.length (atsD l)), mkS t_1, AV.nl], mkS name_1, mkS v_1]) ∧ (([Ob.row 2 (atsD (withL [] name v)), Ob.gh []] = [Ob.row 2 (atsD l), Ob.gh []]) ∧ (((List.length l) < (16 : Nat)) ∧ (((Option.some (Ob.gh [])) = (Option.some (Ob.gh []))) ∧ (((mkS (rLs_b_n s i)) = (mkS (rLs_b_n s i))) ∧ (∃ (n_2 : ByteArray), ∃ (t_2 : ByteArray), ∃ (name_2 : ByteArray), ∃ (v_2 : ByteArray), ∃ (l_1 : List At), ([AV.ag [mkS n_1, AV.vw 0 (List.length (atsD (withL l name_1 v_1))), mkS t_1, AV.nl], mkS ⟨#[115, 117, 98, 115, 99, 114, 105, 112, 116, 105, 111, 110]⟩, mkS (strD (List.getD (List.drop 0 (List.getD [[D.v (.string ⟨#[]⟩)], [D.v (.string kTo)], [D.v (.string kFrom)], [D.v (.string sBoth)]] (Int.toNat (andZ IntKind.i64 (rLs_b_z s i) (3 : Int))) [])) 0 d0))] = [AV.ag [mkS n_2, AV.vw 0 (List.length (atsD l_1)), mkS t_2, AV.nl], mkS name_2, mkS v_2]) ∧ (rLs_b_e2 st inv μ kk s va ks i name_1 v_1 l n_2 t_2 name_2 v_2 l_1)))))))))))) ∧ (
 ∃ (n : ByteArray),
 ∃ (t : ByteArray),
 ∃ (name : ByteArray),
 ∃ (v : ByteArray),
 ([AV.ag [mkS ⟨#[105, 116, 101, 109]⟩, AV.nl, mkS ⟨#[]⟩, AV.nl], mkS ⟨#[106, 105, 100]⟩, mkS (rLs_b_c s i)] = [AV.ag [mkS n, AV.nl, mkS t, AV.nl], mkS name, mkS v]) ∧
 ([Ob.gh []] = [Ob.gh []]) ∧
 ((Option.some (Ob.gh [])) = (Option.some (Ob.gh []))) ∧
 ((mkS (rLs_b_n s i)) = (mkS (rLs_b_n s i))) ∧ (
 ∃ (n_1 : ByteArray),
 ∃ (t_1 : ByteArray),
 ∃ (name_1 : ByteArray),
 ∃ (v_1 : ByteArray),
 ∃ (l : List At),
 ([AV.ag [mkS n, AV.vw 0 (List.length (atsD (withL [] name v))), mkS t, AV.nl], mkS ⟨#[110, 97, 109, 101]⟩, mkS (rLs_b_n s i)] = [AV.ag [mkS n_1, AV.vw 0 (List.length (atsD l)), mkS t_1, AV.nl], mkS name_1, mkS v_1]) ∧
 ([Ob.row 2 (atsD (withL [] name v)), Ob.gh []] = [Ob.row 2 (atsD l), Ob.gh []]) ∧
 ((List.length l) < (16 : Nat)) ∧
 ((Option.some (Ob.gh [])) = (Option.some (Ob.gh []))) ∧
 ((mkS (rLs_b_n s i)) = (mkS (rLs_b_n s i))) ∧ (
 ∃ (n_2 : ByteArray),
 ∃ (t_2 : ByteArray),
 ∃ (name_2 : ByteArray),
 ∃ (v_2 : ByteArray),
 ∃ (l_1 : List At),
 ([AV.ag [mkS n_1, AV.vw 0 (List.length (atsD (withL l name_1 v_1))), mkS t_1, AV.nl], mkS ⟨#[115, 117, 98, 115, 99, 114, 105, 112, 116, 105, 111, 110]⟩, mkS (strD (List.getD (List.drop 0 (List.getD [[D.v (.string ⟨#[]⟩)], [D.v (.string kTo)], [D.v (.string kFrom)], [D.v (.string sBoth)]] (Int.toNat (andZ IntKind.i64 (rLs_b_z s i) (3 : Int))) [])) 0 d0))] = [AV.ag [mkS n_2, AV.vw 0 (List.length (atsD l_1)), mkS t_2, AV.nl], mkS name_2, mkS v_2]) ∧
 ([Ob.row 2 (atsD (withL l name_1 v_1)), Ob.gh []] = [Ob.row 2 (atsD l_1), Ob.gh []]) ∧
 ((List.length l_1) < (16 : Nat)) ∧
 ((Option.some (Ob.gh [])) = (Option.some (Ob.gh []))) ∧
 ((mkS (rLs_b_n s i)) = (mkS (rLs_b_n s i))) ∧
 ((mkS (rLs_b_n s i)) = (mkS (rLs_b_n s i))) ∧
 bcase (rLs_b_k s i) (rLs_b_e3 st inv μ kk s va ks i n_2 t_2 name_2 v_2 l_1) (rLs_b_e4 st inv μ kk s va ks i n_2 t_2 name_2 v_2 l_1)))))) (
 q (AV.ag [mkS sQuery, AV.d (.sl (atsD va)), mkS ⟨#[]⟩, AV.d (.sl (List.take (List.length (ksD ks)) (ksD ks)))]))) := by kernel_rfl
def subW (i : Int) (r : Bool) : BA := match r with
  | true => sRemove
  | false => strD ((wordsD.getD (andZ .i64 i 3).toNat []).getD 0 d0)
def itemE (r : Bool) (x : It) : El := .mk sItem (if x.a then withL (withL (withL (withL [] kJid x.c) kName x.n) kSub (subW x.s r)) kAsk sSubscribe else withL (withL (withL [] kJid x.c) kName x.n) kSub (subW x.s r)) ⟨#[]⟩ []
def listedA (s : Sz) : List At := if s.ver > 0 then withL [] kVer (decS (IntKind.wrap .u32 s.ver).toNat) else []
def listedK (s : Sz) : List El := s.its.map (itemE s.rem)
structure FitS (s : Sz) : Prop where
  its : s.its.length ≤ LIM
  it : ∀ x ∈ s.its, x.n.size ≤ LIM ∧ x.c.size ≤ LIM
  ty : s.ty.size ≤ LIM
  id : s.id.size ≤ LIM
  from_ : s.from_.size ≤ LIM
  to_ : s.to_.size ≤ LIM
  show_ : s.show_.size ≤ LIM
  tok : s.tok.size ≤ LIM
  rea : s.rea.size ≤ LIM
  h : 0 ≤ s.h ∧ s.h ≤ 4294967295
def EListed : List AV → (AV → Prop) → Prop := fun al q => ∃ s, al = [szV s] ∧ FitS s ∧ q (.ag [mkS sQuery, .d (.sl (atsD (listedA s))), mkS ⟨#[]⟩, .d (.sl (ksD (listedK s)))])
noncomputable abbrev GDr : List (FuncId × En) := [(28, .ref (frameX EWith)), (30, .det FTxt), (29, .pure EListed)]
theorem rDr1 (ty id f t sh tk re : BA) (h v : Int) (r : Bool) (xs : List It) (q : AV → Prop) :
 (aCode KS GDr Tryz.b13 (kRet KS Tryz.f13.results.toList q) ⟨[szV ⟨1, ty, id, f, t, sh, tk, re, h, v, r, xs⟩] ++ List.replicate (Tryz.f13.ntmps - 1) .jk, []⟩) = (
 (((0 : Int) ≤ (1 : Int)) ∧ ((1 : Int) < ((15 : Nat) : Int))) ∧
 ((Int.toNat (1 : Int)) < 15) ∧
 ((0 : Nat) ≤ 1) ∧
 ((1 : Nat) ≤ 1) ∧
 ((D.v (.string ⟨#[112, 114, 101, 115, 101, 110, 99, 101]⟩)) = (D.v (.string (strD (D.v (.string ⟨#[112, 114, 101, 115, 101, 110, 99, 101]⟩)))))) ∧
 (Nat.le (ByteArray.size f) LIM) ∧
 (Nat.le (ByteArray.size t) LIM) ∧ (
 ∃ (n : ByteArray),
 ∃ (t_1 : ByteArray),
 ∃ (name : ByteArray),
 ∃ (v_1 : ByteArray),
 ([AV.ag [mkS (strD (D.v (.string ⟨#[112, 114, 101, 115, 101, 110, 99, 101]⟩))), AV.nl, mkS ⟨#[]⟩, AV.nl], mkS ⟨#[116, 121, 112, 101]⟩, mkS ty] = [AV.ag [mkS n, AV.nl, mkS t_1, AV.nl], mkS name, mkS v_1]) ∧
 ([Ob.gh []] = [Ob.gh []]) ∧
 ((Option.some (Ob.gh [])) = (Option.some (Ob.gh []))) ∧
 ((mkS t) = (mkS t)) ∧
 ((mkS f) = (mkS f)) ∧ (
 ∃ (n_1 : ByteArray),
 ∃ (t_2 : ByteArray),
 ∃ (name_1 : ByteArray),
 ∃ (v_2 : ByteArray),
 ∃ (l : List At),
 ([AV.ag [mkS n, AV.vw 0 (List.length (atsD (withL [] name v_1))), mkS t_1, AV.nl], mkS ⟨#[102, 114, 111, 109]⟩, mkS f] = [AV.ag [mkS n_1, AV.vw 0 (List.length (atsD l)), mkS t_2, AV.nl], mkS name_1, mkS v_2]) ∧
 ([Ob.row 2 (atsD (withL [] name v_1)), Ob.gh []] = [Ob.row 2 (atsD l), Ob.gh []]) ∧
 ((List.length l) < (16 : Nat)) ∧
 ((Option.some (Ob.gh [])) = (Option.some (Ob.gh []))) ∧
 ((mkS t) = (mkS t)) ∧
 ((mkS f) = (mkS f)) ∧ (
 ∃ (n_2 : ByteArray),
 ∃ (t_3 : ByteArray),
 ∃ (name_2 : ByteArray),
 ∃ (v_3 : ByteArray),
 ∃ (l_1 : List At),
 ([AV.ag [mkS n_1, AV.vw 0 (List.length (atsD (withL l name_1 v_2))), mkS t_2, AV.nl], mkS ⟨#[116, 111]⟩, mkS t] = [AV.ag [mkS n_2, AV.vw 0 (List.length (atsD l_1)), mkS t_3, AV.nl], mkS name_2, mkS v_3]) ∧
 ([Ob.row 2 (atsD (withL l name_1 v_2)), Ob.gh []] = [Ob.row 2 (atsD l_1), Ob.gh []]) ∧
 ((List.length l_1) < (16 : Nat)) ∧
 ((Option.some (Ob.gh [])) = (Option.some (Ob.gh []))) ∧
 ((mkS t) = (mkS t)) ∧
 ((mkS f) = (mkS f)) ∧
 ((mkS t) = (mkS t)) ∧
 ((mkS f) = (mkS f)) ∧
 bcase (!(decide (sh = ⟨#[]⟩))) (
 q (AV.ag [mkS n_2, AV.d (.sl (List.take (List.length (atsD (withL l_1 name_2 v_3))) (atsD (withL l_1 name_2 v_3)))), mkS t_3, AV.d (.sl [[D.v (.string ⟨#[115, 104, 111, 119]⟩), D.sl [], D.v (.string sh), D.sl []]])])) (
 q (AV.ag [mkS n_2, AV.d (.sl (List.take (List.length (atsD (withL l_1 name_2 v_3))) (atsD (withL l_1 name_2 v_3)))), mkS t_3, AV.d (.sl [])])))))) := by kernel_rfl
theorem rDr2 (ty id f t sh tk re : BA) (h v : Int) (r : Bool) (xs : List It) (q : AV → Prop) :
 (aCode KS GDr Tryz.b13 (kRet KS Tryz.f13.results.toList q) ⟨[szV ⟨2, ty, id, f, t, sh, tk, re, h, v, r, xs⟩] ++ List.replicate (Tryz.f13.ntmps - 1) .jk, []⟩) = (
 (((0 : Int) ≤ (2 : Int)) ∧ ((2 : Int) < ((15 : Nat) : Int))) ∧
 ((Int.toNat (2 : Int)) < 15) ∧
 ((0 : Nat) ≤ 1) ∧
 ((1 : Nat) ≤ 1) ∧
 ((D.v (.string ⟨#[105, 113]⟩)) = (D.v (.string (strD (D.v (.string ⟨#[105, 113]⟩)))))) ∧
 (((0 : Int) ≤ (IntKind.wrap .i64 ((2 : Int) - (2 : Int)))) ∧ ((IntKind.wrap .i64 ((2 : Int) - (2 : Int))) < ((4 : Nat) : Int))) ∧
 ((Int.toNat (IntKind.wrap .i64 ((2 : Int) - (2 : Int)))) < 4) ∧
 ((0 : Nat) ≤ 1) ∧
 ((1 : Nat) ≤ 1) ∧
 ((D.v (.string ⟨#[103, 101, 116]⟩)) = (D.v (.string (strD (D.v (.string ⟨#[103, 101, 116]⟩)))))) ∧
 (Nat.le (ByteArray.size id) LIM) ∧ (
 ∃ (n : ByteArray),
 ∃ (t_1 : ByteArray),
 ∃ (name : ByteArray),
 ∃ (v_1 : ByteArray),
 ([AV.ag [mkS (strD (D.v (.string ⟨#[105, 113]⟩))), AV.nl, mkS ⟨#[]⟩, AV.nl], mkS ⟨#[116, 121, 112, 101]⟩, mkS (strD (D.v (.string ⟨#[103, 101, 116]⟩)))] = [AV.ag [mkS n, AV.nl, mkS t_1, AV.nl], mkS name, mkS v_1]) ∧
 ([Ob.gh []] = [Ob.gh []]) ∧
 ((Option.some (Ob.gh [])) = (Option.some (Ob.gh []))) ∧
 ((mkS id) = (mkS id)) ∧ (
 ∃ (n_1 : ByteArray),
 ∃ (t_2 : ByteArray),
 ∃ (name_1 : ByteArray),
 ∃ (v_2 : ByteArray),
 ∃ (l : List At),
 ([AV.ag [mkS n, AV.vw 0 (List.length (atsD (withL [] name v_1))), mkS t_1, AV.nl], mkS ⟨#[105, 100]⟩, mkS id] = [AV.ag [mkS n_1, AV.vw 0 (List.length (atsD l)), mkS t_2, AV.nl], mkS name_1, mkS v_2]) ∧
 ([Ob.row 2 (atsD (withL [] name v_1)), Ob.gh []] = [Ob.row 2 (atsD l), Ob.gh []]) ∧
 ((List.length l) < (16 : Nat)) ∧
 ((Option.some (Ob.gh [])) = (Option.some (Ob.gh []))) ∧
 ((mkS id) = (mkS id)) ∧
 ((mkS id) = (mkS id)) ∧ (
 ∃ (s : Sz),
 ([AV.ag [mkI .i64 2, mkS ty, mkS id, mkS f, mkS t, mkS sh, mkS tk, mkS re, mkI .u32 h, mkI .i64 v, mkB r, AV.d (.sl (itsD xs))]] = [AV.ag [mkI .i64 (Sz.kind s), mkS (Sz.ty s), mkS (Sz.id s), mkS (Sz.from_ s), mkS (Sz.to_ s), mkS (Sz.show_ s), mkS (Sz.tok s), mkS (Sz.rea s), mkI .u32 (Sz.h s), mkI .i64 (Sz.ver s), mkB (Sz.rem s), AV.d (.sl (itsD (Sz.its s)))]]) ∧
 (FitS s) ∧
 q (AV.ag [mkS n_1, AV.d (.sl (List.take (List.length (atsD (withL l name_1 v_2))) (atsD (withL l name_1 v_2)))), mkS t_2, AV.d (.sl [[D.v (.string sQuery), D.sl (atsD (listedA s)), D.v (.string ⟨#[]⟩), D.sl (ksD (listedK s))]])]))))) := by kernel_rfl
theorem rDr3 (ty id f t sh tk re : BA) (h v : Int) (r : Bool) (xs : List It) (q : AV → Prop) :
 (aCode KS GDr Tryz.b13 (kRet KS Tryz.f13.results.toList q) ⟨[szV ⟨3, ty, id, f, t, sh, tk, re, h, v, r, xs⟩] ++ List.replicate (Tryz.f13.ntmps - 1) .jk, []⟩) = (
 (((0 : Int) ≤ (3 : Int)) ∧ ((3 : Int) < ((15 : Nat) : Int))) ∧
 ((Int.toNat (3 : Int)) < 15) ∧
 ((0 : Nat) ≤ 1) ∧
 ((1 : Nat) ≤ 1) ∧
 ((D.v (.string ⟨#[105, 113]⟩)) = (D.v (.string (strD (D.v (.string ⟨#[105, 113]⟩)))))) ∧
 (((0 : Int) ≤ (IntKind.wrap .i64 ((3 : Int) - (2 : Int)))) ∧ ((IntKind.wrap .i64 ((3 : Int) - (2 : Int))) < ((4 : Nat) : Int))) ∧
 ((Int.toNat (IntKind.wrap .i64 ((3 : Int) - (2 : Int)))) < 4) ∧
 ((0 : Nat) ≤ 1) ∧
 ((1 : Nat) ≤ 1) ∧
 ((D.v (.string ⟨#[115, 101, 116]⟩)) = (D.v (.string (strD (D.v (.string ⟨#[115, 101, 116]⟩)))))) ∧
 (Nat.le (ByteArray.size id) LIM) ∧ (
 ∃ (n : ByteArray),
 ∃ (t_1 : ByteArray),
 ∃ (name : ByteArray),
 ∃ (v_1 : ByteArray),
 ([AV.ag [mkS (strD (D.v (.string ⟨#[105, 113]⟩))), AV.nl, mkS ⟨#[]⟩, AV.nl], mkS ⟨#[116, 121, 112, 101]⟩, mkS (strD (D.v (.string ⟨#[115, 101, 116]⟩)))] = [AV.ag [mkS n, AV.nl, mkS t_1, AV.nl], mkS name, mkS v_1]) ∧
 ([Ob.gh []] = [Ob.gh []]) ∧
 ((Option.some (Ob.gh [])) = (Option.some (Ob.gh []))) ∧
 ((mkS id) = (mkS id)) ∧ (
 ∃ (n_1 : ByteArray),
 ∃ (t_2 : ByteArray),
 ∃ (name_1 : ByteArray),
 ∃ (v_2 : ByteArray),
 ∃ (l : List At),
 ([AV.ag [mkS n, AV.vw 0 (List.length (atsD (withL [] name v_1))), mkS t_1, AV.nl], mkS ⟨#[105, 100]⟩, mkS id] = [AV.ag [mkS n_1, AV.vw 0 (List.length (atsD l)), mkS t_2, AV.nl], mkS name_1, mkS v_2]) ∧
 ([Ob.row 2 (atsD (withL [] name v_1)), Ob.gh []] = [Ob.row 2 (atsD l), Ob.gh []]) ∧
 ((List.length l) < (16 : Nat)) ∧
 ((Option.some (Ob.gh [])) = (Option.some (Ob.gh []))) ∧
 ((mkS id) = (mkS id)) ∧
 ((mkS id) = (mkS id)) ∧ (
 ∃ (s : Sz),
 ([AV.ag [mkI .i64 3, mkS ty, mkS id, mkS f, mkS t, mkS sh, mkS tk, mkS re, mkI .u32 h, mkI .i64 v, mkB r, AV.d (.sl (itsD xs))]] = [AV.ag [mkI .i64 (Sz.kind s), mkS (Sz.ty s), mkS (Sz.id s), mkS (Sz.from_ s), mkS (Sz.to_ s), mkS (Sz.show_ s), mkS (Sz.tok s), mkS (Sz.rea s), mkI .u32 (Sz.h s), mkI .i64 (Sz.ver s), mkB (Sz.rem s), AV.d (.sl (itsD (Sz.its s)))]]) ∧
 (FitS s) ∧
 q (AV.ag [mkS n_1, AV.d (.sl (List.take (List.length (atsD (withL l name_1 v_2))) (atsD (withL l name_1 v_2)))), mkS t_2, AV.d (.sl [[D.v (.string sQuery), D.sl (atsD (listedA s)), D.v (.string ⟨#[]⟩), D.sl (ksD (listedK s))]])]))))) := by kernel_rfl
theorem rDr4 (ty id f t sh tk re : BA) (h v : Int) (r : Bool) (xs : List It) (q : AV → Prop) :
 (aCode KS GDr Tryz.b13 (kRet KS Tryz.f13.results.toList q) ⟨[szV ⟨4, ty, id, f, t, sh, tk, re, h, v, r, xs⟩] ++ List.replicate (Tryz.f13.ntmps - 1) .jk, []⟩) = (
 (((0 : Int) ≤ (4 : Int)) ∧ ((4 : Int) < ((15 : Nat) : Int))) ∧
 ((Int.toNat (4 : Int)) < 15) ∧
 ((0 : Nat) ≤ 1) ∧
 ((1 : Nat) ≤ 1) ∧
 ((D.v (.string ⟨#[105, 113]⟩)) = (D.v (.string (strD (D.v (.string ⟨#[105, 113]⟩)))))) ∧
 (((0 : Int) ≤ (IntKind.wrap .i64 ((4 : Int) - (2 : Int)))) ∧ ((IntKind.wrap .i64 ((4 : Int) - (2 : Int))) < ((4 : Nat) : Int))) ∧
 ((Int.toNat (IntKind.wrap .i64 ((4 : Int) - (2 : Int)))) < 4) ∧
 ((0 : Nat) ≤ 1) ∧
 ((1 : Nat) ≤ 1) ∧
 ((D.v (.string ⟨#[114, 101, 115, 117, 108, 116]⟩)) = (D.v (.string (strD (D.v (.string ⟨#[114, 101, 115, 117, 108, 116]⟩)))))) ∧
 (Nat.le (ByteArray.size id) LIM) ∧ (
 ∃ (n : ByteArray),
 ∃ (t_1 : ByteArray),
 ∃ (name : ByteArray),
 ∃ (v_1 : ByteArray),
 ([AV.ag [mkS (strD (D.v (.string ⟨#[105, 113]⟩))), AV.nl, mkS ⟨#[]⟩, AV.nl], mkS ⟨#[116, 121, 112, 101]⟩, mkS (strD (D.v (.string ⟨#[114, 101, 115, 117, 108, 116]⟩)))] = [AV.ag [mkS n, AV.nl, mkS t_1, AV.nl], mkS name, mkS v_1]) ∧
 ([Ob.gh []] = [Ob.gh []]) ∧
 ((Option.some (Ob.gh [])) = (Option.some (Ob.gh []))) ∧
 ((mkS id) = (mkS id)) ∧ (
 ∃ (n_1 : ByteArray),
 ∃ (t_2 : ByteArray),
 ∃ (name_1 : ByteArray),
 ∃ (v_2 : ByteArray),
 ∃ (l : List At),
 ([AV.ag [mkS n, AV.vw 0 (List.length (atsD (withL [] name v_1))), mkS t_1, AV.nl], mkS ⟨#[105, 100]⟩, mkS id] = [AV.ag [mkS n_1, AV.vw 0 (List.length (atsD l)), mkS t_2, AV.nl], mkS name_1, mkS v_2]) ∧
 ([Ob.row 2 (atsD (withL [] name v_1)), Ob.gh []] = [Ob.row 2 (atsD l), Ob.gh []]) ∧
 ((List.length l) < (16 : Nat)) ∧
 ((Option.some (Ob.gh [])) = (Option.some (Ob.gh []))) ∧
 ((mkS id) = (mkS id)) ∧
 ((mkS id) = (mkS id)) ∧
 bcase (decide (v > (0 : Int))) (
 ∃ (s : Sz),
 ([AV.ag [mkI .i64 4, mkS ty, mkS id, mkS f, mkS t, mkS sh, mkS tk, mkS re, mkI .u32 h, mkI .i64 v, mkB r, AV.d (.sl (itsD xs))]] = [AV.ag [mkI .i64 (Sz.kind s), mkS (Sz.ty s), mkS (Sz.id s), mkS (Sz.from_ s), mkS (Sz.to_ s), mkS (Sz.show_ s), mkS (Sz.tok s), mkS (Sz.rea s), mkI .u32 (Sz.h s), mkI .i64 (Sz.ver s), mkB (Sz.rem s), AV.d (.sl (itsD (Sz.its s)))]]) ∧
 (FitS s) ∧
 q (AV.ag [mkS n_1, AV.d (.sl (List.take (List.length (atsD (withL l name_1 v_2))) (atsD (withL l name_1 v_2)))), mkS t_2, AV.d (.sl [[D.v (.string sQuery), D.sl (atsD (listedA s)), D.v (.string ⟨#[]⟩), D.sl (ksD (listedK s))]])])) (
 q (AV.ag [mkS n_1, AV.d (.sl (List.take (List.length (atsD (withL l name_1 v_2))) (atsD (withL l name_1 v_2)))), mkS t_2, AV.d (.sl [])]))))) := by kernel_rfl
theorem rDr5 (ty id f t sh tk re : BA) (h v : Int) (r : Bool) (xs : List It) (q : AV → Prop) :
 (aCode KS GDr Tryz.b13 (kRet KS Tryz.f13.results.toList q) ⟨[szV ⟨5, ty, id, f, t, sh, tk, re, h, v, r, xs⟩] ++ List.replicate (Tryz.f13.ntmps - 1) .jk, []⟩) = (
 (((0 : Int) ≤ (5 : Int)) ∧ ((5 : Int) < ((15 : Nat) : Int))) ∧
 ((Int.toNat (5 : Int)) < 15) ∧
 ((0 : Nat) ≤ 1) ∧
 ((1 : Nat) ≤ 1) ∧
 ((D.v (.string ⟨#[105, 113]⟩)) = (D.v (.string (strD (D.v (.string ⟨#[105, 113]⟩)))))) ∧
 (((0 : Int) ≤ (IntKind.wrap .i64 ((5 : Int) - (2 : Int)))) ∧ ((IntKind.wrap .i64 ((5 : Int) - (2 : Int))) < ((4 : Nat) : Int))) ∧
 ((Int.toNat (IntKind.wrap .i64 ((5 : Int) - (2 : Int)))) < 4) ∧
 ((0 : Nat) ≤ 1) ∧
 ((1 : Nat) ≤ 1) ∧
 ((D.v (.string ⟨#[101, 114, 114, 111, 114]⟩)) = (D.v (.string (strD (D.v (.string ⟨#[101, 114, 114, 111, 114]⟩)))))) ∧
 (Nat.le (ByteArray.size id) LIM) ∧ (
 ∃ (n : ByteArray),
 ∃ (t_1 : ByteArray),
 ∃ (name : ByteArray),
 ∃ (v_1 : ByteArray),
 ([AV.ag [mkS (strD (D.v (.string ⟨#[105, 113]⟩))), AV.nl, mkS ⟨#[]⟩, AV.nl], mkS ⟨#[116, 121, 112, 101]⟩, mkS (strD (D.v (.string ⟨#[101, 114, 114, 111, 114]⟩)))] = [AV.ag [mkS n, AV.nl, mkS t_1, AV.nl], mkS name, mkS v_1]) ∧
 ([Ob.gh []] = [Ob.gh []]) ∧
 ((Option.some (Ob.gh [])) = (Option.some (Ob.gh []))) ∧
 ((mkS id) = (mkS id)) ∧ (
 ∃ (n_1 : ByteArray),
 ∃ (t_2 : ByteArray),
 ∃ (name_1 : ByteArray),
 ∃ (v_2 : ByteArray),
 ∃ (l : List At),
 ([AV.ag [mkS n, AV.vw 0 (List.length (atsD (withL [] name v_1))), mkS t_1, AV.nl], mkS ⟨#[105, 100]⟩, mkS id] = [AV.ag [mkS n_1, AV.vw 0 (List.length (atsD l)), mkS t_2, AV.nl], mkS name_1, mkS v_2]) ∧
 ([Ob.row 2 (atsD (withL [] name v_1)), Ob.gh []] = [Ob.row 2 (atsD l), Ob.gh []]) ∧
 ((List.length l) < (16 : Nat)) ∧
 ((Option.some (Ob.gh [])) = (Option.some (Ob.gh []))) ∧
 ((mkS id) = (mkS id)) ∧
 ((mkS id) = (mkS id)) ∧
 q (AV.ag [mkS n_1, AV.d (.sl (List.take (List.length (atsD (withL l name_1 v_2))) (atsD (withL l name_1 v_2)))), mkS t_2, AV.d (.sl [[D.v (.string ⟨#[101, 114, 114, 111, 114]⟩), D.sl [], D.v (.string re), D.sl []]])])))) := by kernel_rfl
theorem rDr6 (ty id f t sh tk re : BA) (h v : Int) (r : Bool) (xs : List It) (q : AV → Prop) :
 (aCode KS GDr Tryz.b13 (kRet KS Tryz.f13.results.toList q) ⟨[szV ⟨6, ty, id, f, t, sh, tk, re, h, v, r, xs⟩] ++ List.replicate (Tryz.f13.ntmps - 1) .jk, []⟩) = (
 (((0 : Int) ≤ (6 : Int)) ∧ ((6 : Int) < ((15 : Nat) : Int))) ∧
 ((Int.toNat (6 : Int)) < 15) ∧
 ((0 : Nat) ≤ 1) ∧
 ((1 : Nat) ≤ 1) ∧
 ((D.v (.string ⟨#[101, 110, 97, 98, 108, 101]⟩)) = (D.v (.string (strD (D.v (.string ⟨#[101, 110, 97, 98, 108, 101]⟩)))))) ∧
 q (AV.ag [mkS (strD (D.v (.string ⟨#[101, 110, 97, 98, 108, 101]⟩))), AV.d (.sl []), mkS ⟨#[]⟩, AV.d (.sl [])])) := by kernel_rfl
theorem rDr7 (ty id f t sh tk re : BA) (h v : Int) (r : Bool) (xs : List It) (q : AV → Prop) :
 (aCode KS GDr Tryz.b13 (kRet KS Tryz.f13.results.toList q) ⟨[szV ⟨7, ty, id, f, t, sh, tk, re, h, v, r, xs⟩] ++ List.replicate (Tryz.f13.ntmps - 1) .jk, []⟩) = (
 (((0 : Int) ≤ (7 : Int)) ∧ ((7 : Int) < ((15 : Nat) : Int))) ∧
 ((Int.toNat (7 : Int)) < 15) ∧
 ((0 : Nat) ≤ 1) ∧
 ((1 : Nat) ≤ 1) ∧
 ((D.v (.string ⟨#[101, 110, 97, 98, 108, 101, 100]⟩)) = (D.v (.string (strD (D.v (.string ⟨#[101, 110, 97, 98, 108, 101, 100]⟩)))))) ∧ (
 ∃ (n : ByteArray),
 ∃ (t_1 : ByteArray),
 ∃ (name : ByteArray),
 ∃ (v_1 : ByteArray),
 ([AV.ag [mkS (strD (D.v (.string ⟨#[101, 110, 97, 98, 108, 101, 100]⟩))), AV.nl, mkS ⟨#[]⟩, AV.nl], mkS ⟨#[105, 100]⟩, mkS tk] = [AV.ag [mkS n, AV.nl, mkS t_1, AV.nl], mkS name, mkS v_1]) ∧
 ([Ob.gh []] = [Ob.gh []]) ∧
 ((Option.some (Ob.gh [])) = (Option.some (Ob.gh []))) ∧
 q (AV.ag [mkS n, AV.d (.sl (List.take (List.length (atsD (withL [] name v_1))) (atsD (withL [] name v_1)))), mkS t_1, AV.d (.sl [])]))) := by kernel_rfl
theorem rDr8 (ty id f t sh tk re : BA) (h v : Int) (r : Bool) (xs : List It) (q : AV → Prop) :
 (aCode KS GDr Tryz.b13 (kRet KS Tryz.f13.results.toList q) ⟨[szV ⟨8, ty, id, f, t, sh, tk, re, h, v, r, xs⟩] ++ List.replicate (Tryz.f13.ntmps - 1) .jk, []⟩) = (
 (((0 : Int) ≤ (8 : Int)) ∧ ((8 : Int) < ((15 : Nat) : Int))) ∧
 ((Int.toNat (8 : Int)) < 15) ∧
 ((0 : Nat) ≤ 1) ∧
 ((1 : Nat) ≤ 1) ∧
 ((D.v (.string ⟨#[114]⟩)) = (D.v (.string (strD (D.v (.string ⟨#[114]⟩)))))) ∧
 q (AV.ag [mkS (strD (D.v (.string ⟨#[114]⟩))), AV.d (.sl []), mkS ⟨#[]⟩, AV.d (.sl [])])) := by kernel_rfl
theorem rDr9 (ty id f t sh tk re : BA) (h v : Int) (r : Bool) (xs : List It) (q : AV → Prop) :
 (aCode KS GDr Tryz.b13 (kRet KS Tryz.f13.results.toList q) ⟨[szV ⟨9, ty, id, f, t, sh, tk, re, h, v, r, xs⟩] ++ List.replicate (Tryz.f13.ntmps - 1) .jk, []⟩) = (
 (((0 : Int) ≤ (9 : Int)) ∧ ((9 : Int) < ((15 : Nat) : Int))) ∧
 ((Int.toNat (9 : Int)) < 15) ∧
 ((0 : Nat) ≤ 1) ∧
 ((1 : Nat) ≤ 1) ∧
 ((D.v (.string ⟨#[97]⟩)) = (D.v (.string (strD (D.v (.string ⟨#[97]⟩)))))) ∧
 (((0 : Int) ≤ h) ∧ (h ≤ (4294967295 : Int))) ∧ (
 ∃ (n : ByteArray),
 ∃ (t_1 : ByteArray),
 ∃ (name : ByteArray),
 ∃ (v_1 : ByteArray),
 ([AV.ag [mkS (strD (D.v (.string ⟨#[97]⟩))), AV.nl, mkS ⟨#[]⟩, AV.nl], mkS ⟨#[104]⟩, mkS (decS (Int.toNat h))] = [AV.ag [mkS n, AV.nl, mkS t_1, AV.nl], mkS name, mkS v_1]) ∧
 ([Ob.gh []] = [Ob.gh []]) ∧
 ((Option.some (Ob.gh [])) = (Option.some (Ob.gh []))) ∧
 q (AV.ag [mkS n, AV.d (.sl (List.take (List.length (atsD (withL [] name v_1))) (atsD (withL [] name v_1)))), mkS t_1, AV.d (.sl [])]))) := by kernel_rfl
theorem rDr10 (ty id f t sh tk re : BA) (h v : Int) (r : Bool) (xs : List It) (q : AV → Prop) :
 (aCode KS GDr Tryz.b13 (kRet KS Tryz.f13.results.toList q) ⟨[szV ⟨10, ty, id, f, t, sh, tk, re, h, v, r, xs⟩] ++ List.replicate (Tryz.f13.ntmps - 1) .jk, []⟩) = (
 (((0 : Int) ≤ (10 : Int)) ∧ ((10 : Int) < ((15 : Nat) : Int))) ∧
 ((Int.toNat (10 : Int)) < 15) ∧
 ((0 : Nat) ≤ 1) ∧
 ((1 : Nat) ≤ 1) ∧
 ((D.v (.string ⟨#[114, 101, 115, 117, 109, 101]⟩)) = (D.v (.string (strD (D.v (.string ⟨#[114, 101, 115, 117, 109, 101]⟩)))))) ∧
 (Nat.le (ByteArray.size tk) LIM) ∧
 (((0 : Int) ≤ h) ∧ (h ≤ (4294967295 : Int))) ∧ (
 ∃ (n : ByteArray),
 ∃ (t_1 : ByteArray),
 ∃ (name : ByteArray),
 ∃ (v_1 : ByteArray),
 ([AV.ag [mkS (strD (D.v (.string ⟨#[114, 101, 115, 117, 109, 101]⟩))), AV.nl, mkS ⟨#[]⟩, AV.nl], mkS ⟨#[104]⟩, mkS (decS (Int.toNat h))] = [AV.ag [mkS n, AV.nl, mkS t_1, AV.nl], mkS name, mkS v_1]) ∧
 ([Ob.gh []] = [Ob.gh []]) ∧
 ((Option.some (Ob.gh [])) = (Option.some (Ob.gh []))) ∧
 ((mkS tk) = (mkS tk)) ∧ (
 ∃ (n_1 : ByteArray),
 ∃ (t_2 : ByteArray),
 ∃ (name_1 : ByteArray),
 ∃ (v_2 : ByteArray),
 ∃ (l : List At),
 ([AV.ag [mkS n, AV.vw 0 (List.length (atsD (withL [] name v_1))), mkS t_1, AV.nl], mkS ⟨#[112, 114, 101, 118, 105, 100]⟩, mkS tk] = [AV.ag [mkS n_1, AV.vw 0 (List.length (atsD l)), mkS t_2, AV.nl], mkS name_1, mkS v_2]) ∧
 ([Ob.row 2 (atsD (withL [] name v_1)), Ob.gh []] = [Ob.row 2 (atsD l), Ob.gh []]) ∧
 ((List.length l) < (16 : Nat)) ∧
 ((Option.some (Ob.gh [])) = (Option.some (Ob.gh []))) ∧
 ((mkS tk) = (mkS tk)) ∧
 ((mkS tk) = (mkS tk)) ∧
 q (AV.ag [mkS n_1, AV.d (.sl (List.take (List.length (atsD (withL l name_1 v_2))) (atsD (withL l name_1 v_2)))), mkS t_2, AV.d (.sl [])])))) := by kernel_rfl
theorem rDr11 (ty id f t sh tk re : BA) (h v : Int) (r : Bool) (xs : List It) (q : AV → Prop) :
 (aCode KS GDr Tryz.b13 (kRet KS Tryz.f13.results.toList q) ⟨[szV ⟨11, ty, id, f, t, sh, tk, re, h, v, r, xs⟩] ++ List.replicate (Tryz.f13.ntmps - 1) .jk, []⟩) = (
 (((0 : Int) ≤ (11 : Int)) ∧ ((11 : Int) < ((15 : Nat) : Int))) ∧
 ((Int.toNat (11 : Int)) < 15) ∧
 ((0 : Nat) ≤ 1) ∧
 ((1 : Nat) ≤ 1) ∧
 ((D.v (.string ⟨#[114, 101, 115, 117, 109, 101, 100]⟩)) = (D.v (.string (strD (D.v (.string ⟨#[114, 101, 115, 117, 109, 101, 100]⟩)))))) ∧
 (Nat.le (ByteArray.size tk) LIM) ∧
 (((0 : Int) ≤ h) ∧ (h ≤ (4294967295 : Int))) ∧ (
 ∃ (n : ByteArray),
 ∃ (t_1 : ByteArray),
 ∃ (name : ByteArray),
 ∃ (v_1 : ByteArray),
 ([AV.ag [mkS (strD (D.v (.string ⟨#[114, 101, 115, 117, 109, 101, 100]⟩))), AV.nl, mkS ⟨#[]⟩, AV.nl], mkS ⟨#[104]⟩, mkS (decS (Int.toNat h))] = [AV.ag [mkS n, AV.nl, mkS t_1, AV.nl], mkS name, mkS v_1]) ∧
 ([Ob.gh []] = [Ob.gh []]) ∧
 ((Option.some (Ob.gh [])) = (Option.some (Ob.gh []))) ∧
 ((mkS tk) = (mkS tk)) ∧ (
 ∃ (n_1 : ByteArray),
 ∃ (t_2 : ByteArray),
 ∃ (name_1 : ByteArray),
 ∃ (v_2 : ByteArray),
 ∃ (l : List At),
 ([AV.ag [mkS n, AV.vw 0 (List.length (atsD (withL [] name v_1))), mkS t_1, AV.nl], mkS ⟨#[112, 114, 101, 118, 105, 100]⟩, mkS tk] = [AV.ag [mkS n_1, AV.vw 0 (List.length (atsD l)), mkS t_2, AV.nl], mkS name_1, mkS v_2]) ∧
 ([Ob.row 2 (atsD (withL [] name v_1)), Ob.gh []] = [Ob.row 2 (atsD l), Ob.gh []]) ∧
 ((List.length l) < (16 : Nat)) ∧
 ((Option.some (Ob.gh [])) = (Option.some (Ob.gh []))) ∧
 ((mkS tk) = (mkS tk)) ∧
 ((mkS tk) = (mkS tk)) ∧
 q (AV.ag [mkS n_1, AV.d (.sl (List.take (List.length (atsD (withL l name_1 v_2))) (atsD (withL l name_1 v_2)))), mkS t_2, AV.d (.sl [])])))) := by kernel_rfl
theorem rDr12 (ty id f t sh tk re : BA) (h v : Int) (r : Bool) (xs : List It) (q : AV → Prop) :
 (aCode KS GDr Tryz.b13 (kRet KS Tryz.f13.results.toList q) ⟨[szV ⟨12, ty, id, f, t, sh, tk, re, h, v, r, xs⟩] ++ List.replicate (Tryz.f13.ntmps - 1) .jk, []⟩) = (
 (((0 : Int) ≤ (12 : Int)) ∧ ((12 : Int) < ((15 : Nat) : Int))) ∧
 ((Int.toNat (12 : Int)) < 15) ∧
 ((0 : Nat) ≤ 1) ∧
 ((1 : Nat) ≤ 1) ∧
 ((D.v (.string ⟨#[102, 97, 105, 108, 101, 100]⟩)) = (D.v (.string (strD (D.v (.string ⟨#[102, 97, 105, 108, 101, 100]⟩)))))) ∧
 q (AV.ag [mkS (strD (D.v (.string ⟨#[102, 97, 105, 108, 101, 100]⟩))), AV.d (.sl []), mkS ⟨#[]⟩, AV.d (.sl [])])) := by kernel_rfl
theorem rDr13 (ty id f t sh tk re : BA) (h v : Int) (r : Bool) (xs : List It) (q : AV → Prop) :
 (aCode KS GDr Tryz.b13 (kRet KS Tryz.f13.results.toList q) ⟨[szV ⟨13, ty, id, f, t, sh, tk, re, h, v, r, xs⟩] ++ List.replicate (Tryz.f13.ntmps - 1) .jk, []⟩) = (
 (((0 : Int) ≤ (13 : Int)) ∧ ((13 : Int) < ((15 : Nat) : Int))) ∧
 ((Int.toNat (13 : Int)) < 15) ∧
 ((0 : Nat) ≤ 1) ∧
 ((1 : Nat) ≤ 1) ∧
 ((D.v (.string ⟨#[97, 99, 116, 105, 118, 101]⟩)) = (D.v (.string (strD (D.v (.string ⟨#[97, 99, 116, 105, 118, 101]⟩)))))) ∧
 q (AV.ag [mkS (strD (D.v (.string ⟨#[97, 99, 116, 105, 118, 101]⟩))), AV.d (.sl []), mkS ⟨#[]⟩, AV.d (.sl [])])) := by kernel_rfl
theorem rDr14 (ty id f t sh tk re : BA) (h v : Int) (r : Bool) (xs : List It) (q : AV → Prop) :
 (aCode KS GDr Tryz.b13 (kRet KS Tryz.f13.results.toList q) ⟨[szV ⟨14, ty, id, f, t, sh, tk, re, h, v, r, xs⟩] ++ List.replicate (Tryz.f13.ntmps - 1) .jk, []⟩) = (
 (((0 : Int) ≤ (14 : Int)) ∧ ((14 : Int) < ((15 : Nat) : Int))) ∧
 ((Int.toNat (14 : Int)) < 15) ∧
 ((0 : Nat) ≤ 1) ∧
 ((1 : Nat) ≤ 1) ∧
 ((D.v (.string ⟨#[105, 110, 97, 99, 116, 105, 118, 101]⟩)) = (D.v (.string (strD (D.v (.string ⟨#[105, 110, 97, 99, 116, 105, 118, 101]⟩)))))) ∧
 q (AV.ag [mkS (strD (D.v (.string ⟨#[105, 110, 97, 99, 116, 105, 118, 101]⟩))), AV.d (.sl []), mkS ⟨#[]⟩, AV.d (.sl [])])) := by kernel_rfl
def kidsP (sh : BA) : List El := if sh = ⟨#[]⟩ then [] else [.mk sShow [] sh []]
def drawnM (s : Sz) : El := match s.kind with
  | 1 => .mk sPresence (withL (withL (withL [] kType s.ty) kFrom s.from_) kTo s.to_) ⟨#[]⟩ (kidsP s.show_)
  | 2 => .mk sIq (withL (withL [] kType sGet) kId s.id) ⟨#[]⟩ [.mk sQuery (listedA s) ⟨#[]⟩ (listedK s)]
  | 3 => .mk sIq (withL (withL [] kType sSet) kId s.id) ⟨#[]⟩ [.mk sQuery (listedA s) ⟨#[]⟩ (listedK s)]
  | 4 => .mk sIq (withL (withL [] kType sResult) kId s.id) ⟨#[]⟩ (if s.ver > 0 then [.mk sQuery (listedA s) ⟨#[]⟩ (listedK s)] else [])
  | 5 => .mk sIq (withL (withL [] kType sError) kId s.id) ⟨#[]⟩ [.mk sError [] s.rea []]
  | 6 => .mk sEnable [] ⟨#[]⟩ []
  | 7 => .mk sEnabled (withL [] kId s.tok) ⟨#[]⟩ []
  | 8 => .mk sR [] ⟨#[]⟩ []
  | 9 => .mk sA (withL [] kH (decS s.h.toNat)) ⟨#[]⟩ []
  | 10 => .mk sResume (withL (withL [] kH (decS s.h.toNat)) kPrev s.tok) ⟨#[]⟩ []
  | 11 => .mk sResumed (withL (withL [] kH (decS s.h.toNat)) kPrev s.tok) ⟨#[]⟩ []
  | 12 => .mk sFailed [] ⟨#[]⟩ []
  | 13 => .mk sActive [] ⟨#[]⟩ []
  | 14 => .mk sInactive [] ⟨#[]⟩ []
  | _ => .mk ⟨#[]⟩ [] ⟨#[]⟩ []
def EDrawn : List AV → (AV → Prop) → Prop := fun al q => ∃ s, al = [szV s] ∧ FitS s ∧ (1 ≤ s.kind ∧ s.kind ≤ 14) ∧ q (elV (drawnM s))
theorem withL_len (l : List At) (n v : BA) : (withL l n v).length ≤ l.length + 1 := by
  unfold withL; split <;> simp
theorem gdr_ok (h : PSound Tryz.prog 29 EListed) : GSound Tryz.prog GDr := gsound_ref (RSound.frameX cWith) (gsound_det cTxt (gsound_pure h gsound_nil))
theorem cDrawn (hL : PSound Tryz.prog 29 EListed) : PSound Tryz.prog 13 EDrawn := by
  refine pure_fn (c := Tryz.b13) mixed KS_ok (gdr_ok hL) Tryz.func13 rfl rfl Tryz.call13 fun al q ⟨s, h1, hf, hk, hq⟩ => ?_
  subst h1
  obtain ⟨kind, ty, id, f, t, sh, tk, re, h, v, r, xs⟩ := s
  have l1 : ∀ (l : List At) (n v : BA), l.length < 8 → (withL l n v).length < 9 := fun l n v h => by have := withL_len l n v; omega
  have l2 : ∀ (l : List At) (n v m w : BA), l.length < 7 → (withL (withL l n v) m w).length < 16 := fun l n v m w h => by have := withL_len (withL l n v) m w; have := withL_len l n v; omega
  have tk0 : ∀ (l : List (List D)), List.take l.length l = l := fun l => List.take_length
  have hk : kind = 1 ∨ kind = 2 ∨ kind = 3 ∨ kind = 4 ∨ kind = 5 ∨ kind = 6 ∨ kind = 7 ∨ kind = 8 ∨ kind = 9 ∨ kind = 10 ∨ kind = 11 ∨ kind = 12 ∨ kind = 13 ∨ kind = 14 := by
    have := hk.1; have := hk.2; simp only at *; omega
  rcases hk with rfl | rfl | rfl | rfl | rfl | rfl | rfl | rfl | rfl | rfl | rfl | rfl | rfl | rfl
  · refine cast (rDr1 ty id f t sh tk re h v r xs q).symm ⟨⟨by omega, by omega⟩, by decide, Nat.zero_le _, Nat.le_refl _, rfl, hf.from_, hf.to_, _, _, _, _, rfl, rfl, rfl, rfl, rfl, _, _, _, _, withL [] kType ty, rfl, rfl, by have := withL_len [] kType ty; simp at this; omega, rfl, rfl, rfl, _, _, _, _, withL (withL [] kType ty) kFrom f, rfl, rfl, l2 _ _ _ _ _ (by simp), rfl, rfl, rfl, rfl, rfl, bcase_mk (fun g => ?_) (fun g => ?_)⟩
    · rw [tk0]
      have g : ¬ sh = ⟨#[]⟩ := by simpa using g
      have e : kidsP sh = [.mk sShow [] sh []] := if_neg g
      simp only [drawnM, e] at hq
      exact hq
    · rw [tk0]
      have g : sh = ⟨#[]⟩ := by simpa using g
      have e : kidsP sh = [] := if_pos g
      simp only [drawnM, e] at hq
      exact hq
  · refine cast (rDr2 ty id f t sh tk re h v r xs q).symm ⟨⟨by omega, by omega⟩, by decide, Nat.zero_le _, Nat.le_refl _, rfl, by decide, by decide, Nat.zero_le _, Nat.le_refl _, rfl, hf.id, _, _, _, _, rfl, rfl, rfl, rfl, _, _, _, _, withL [] kType sGet, rfl, rfl, by have := withL_len [] kType sGet; simp at this; omega, rfl, rfl, rfl, _, rfl, hf, ?_⟩
    rw [tk0]
    exact hq
  · refine cast (rDr3 ty id f t sh tk re h v r xs q).symm ⟨⟨by omega, by omega⟩, by decide, Nat.zero_le _, Nat.le_refl _, rfl, by decide, by decide, Nat.zero_le _, Nat.le_refl _, rfl, hf.id, _, _, _, _, rfl, rfl, rfl, rfl, _, _, _, _, withL [] kType sSet, rfl, rfl, by have := withL_len [] kType sSet; simp at this; omega, rfl, rfl, rfl, _, rfl, hf, ?_⟩
    rw [tk0]
    exact hq
  · refine cast (rDr4 ty id f t sh tk re h v r xs q).symm ⟨⟨by omega, by omega⟩, by decide, Nat.zero_le _, Nat.le_refl _, rfl, by decide, by decide, Nat.zero_le _, Nat.le_refl _, rfl, hf.id, _, _, _, _, rfl, rfl, rfl, rfl, _, _, _, _, withL [] kType sResult, rfl, rfl, by have := withL_len [] kType sResult; simp at this; omega, rfl, rfl, rfl, bcase_dec (fun g => ⟨_, rfl, hf, ?_⟩) (fun g => ?_)⟩
    · rw [tk0]
      simp only [drawnM, if_pos g] at hq
      exact hq
    · rw [tk0]
      simp only [drawnM, if_neg g] at hq
      exact hq
  · refine cast (rDr5 ty id f t sh tk re h v r xs q).symm ⟨⟨by omega, by omega⟩, by decide, Nat.zero_le _, Nat.le_refl _, rfl, by decide, by decide, Nat.zero_le _, Nat.le_refl _, rfl, hf.id, _, _, _, _, rfl, rfl, rfl, rfl, _, _, _, _, withL [] kType sError, rfl, rfl, by have := withL_len [] kType sError; simp at this; omega, rfl, rfl, rfl, ?_⟩
    rw [tk0]
    exact hq
  · exact cast (rDr6 ty id f t sh tk re h v r xs q).symm ⟨⟨by omega, by omega⟩, by decide, Nat.zero_le _, Nat.le_refl _, rfl, hq⟩
  · refine cast (rDr7 ty id f t sh tk re h v r xs q).symm ⟨⟨by omega, by omega⟩, by decide, Nat.zero_le _, Nat.le_refl _, rfl, _, _, _, _, rfl, rfl, rfl, ?_⟩
    rw [tk0]
    exact hq
  · exact cast (rDr8 ty id f t sh tk re h v r xs q).symm ⟨⟨by omega, by omega⟩, by decide, Nat.zero_le _, Nat.le_refl _, rfl, hq⟩
  · refine cast (rDr9 ty id f t sh tk re h v r xs q).symm ⟨⟨by omega, by omega⟩, by decide, Nat.zero_le _, Nat.le_refl _, rfl, hf.h, _, _, _, _, rfl, rfl, rfl, ?_⟩
    rw [tk0]
    exact hq
  · refine cast (rDr10 ty id f t sh tk re h v r xs q).symm ⟨⟨by omega, by omega⟩, by decide, Nat.zero_le _, Nat.le_refl _, rfl, hf.tok, hf.h, _, _, _, _, rfl, rfl, rfl, rfl, _, _, _, _, withL [] kH (decS h.toNat), rfl, rfl, by have := withL_len [] kH (decS h.toNat); simp at this; omega, rfl, rfl, rfl, ?_⟩
    rw [tk0]
    exact hq
  · refine cast (rDr11 ty id f t sh tk re h v r xs q).symm ⟨⟨by omega, by omega⟩, by decide, Nat.zero_le _, Nat.le_refl _, rfl, hf.tok, hf.h, _, _, _, _, rfl, rfl, rfl, rfl, _, _, _, _, withL [] kH (decS h.toNat), rfl, rfl, by have := withL_len [] kH (decS h.toNat); simp at this; omega, rfl, rfl, rfl, ?_⟩
    rw [tk0]
    exact hq
  · exact cast (rDr12 ty id f t sh tk re h v r xs q).symm ⟨⟨by omega, by omega⟩, by decide, Nat.zero_le _, Nat.le_refl _, rfl, hq⟩
  · exact cast (rDr13 ty id f t sh tk re h v r xs q).symm ⟨⟨by omega, by omega⟩, by decide, Nat.zero_le _, Nat.le_refl _, rfl, hq⟩
  · exact cast (rDr14 ty id f t sh tk re h v r xs q).symm ⟨⟨by omega, by omega⟩, by decide, Nat.zero_le _, Nat.le_refl _, rfl, hq⟩
theorem dupA {p : Prop} (h : p) : p ∧ p := ⟨h, h⟩
theorem and3 (z : Int) : 0 ≤ andZ .i64 z 3 ∧ andZ .i64 z 3 < 4 := by
  have h : (BitVec.ofInt IntKind.i64.bits z &&& BitVec.ofInt IntKind.i64.bits 3).toNat ≤ 3 := by
    rw [BitVec.toNat_and]
    exact Nat.le_trans Nat.and_le_right (by decide)
  unfold andZ
  rw [IntWalk.i64_in _ (by omega)]
  omega
theorem words_at (z : Int) : wordsD.getD (andZ .i64 z 3).toNat [] = [.v (.string (subW z false))] := by
  unfold subW
  have h := and3 z
  generalize andZ .i64 z 3 = y at *
  have : y = 0 ∨ y = 1 ∨ y = 2 ∨ y = 3 := by omega
  rcases this with rfl | rfl | rfl | rfl <;> rfl
theorem ksD_snoc (l : List El) (n a : _) (t : BA) : ksD (l ++ [El.mk n a t []]) = ksD l ++ [[D.v (.string n), D.sl (atsD a), D.v (.string t), D.sl []]] := by
  rw [ksD_eq, ksD_eq, List.map_append]; rfl
theorem itemE_mk (r : Bool) (x : It) : itemE r x = .mk sItem (if x.a then withL (withL (withL (withL [] kJid x.c) kName x.n) kSub (subW x.s r)) kAsk sSubscribe else withL (withL (withL [] kJid x.c) kName x.n) kSub (subW x.s r)) ⟨#[]⟩ [] := rfl
theorem cListed : PSound Tryz.prog 29 EListed := by
  refine pure_fn (c := Tryz.b29) mixed KS_ok (gsound_ref (RSound.frameX cWith) (gsound_det cTxt gsound_nil)) Tryz.func29 rfl rfl Tryz.call29 fun al q ⟨s, h1, hf, hq⟩ => ?_
  subst h1
  have lim := hf.its
  have lp : ∀ s0 : S, Weak s0 (stLs s (listedA s) [] 0) → ALoop (aCode KS GLs (cAt [1, 1, 1, 1, 0, 1, 0, 0] Tryz.b29)) (rLs_k0 q) s0 := fun s0 hw => by
    refine ALoop.weak _ hw (ALoop.introM [] (maskOf (stLs s (listedA s) [] 0)) (fun i : Nat => stLs s (listedA s) ((listedK s).take i) i) (fun i => i ≤ s.its.length) (fun i => s.its.length - i) ⟨[], 0, ?_, Nat.zero_le _⟩ fun i hi => ?_)
    · simp [S.le, sealAll, leL, leA, leO, jks, stLs, S.fits, fitsL, AV.fits, Ob.fits, KK.isSy, mkSS, mkS, mkI, mkB, ksD, listedK]
    · refine cast (rLs_b _ _ _ i s (listedA s) ((listedK s).take i) i q).symm (bcase_dec (fun hlt => ?_) (fun hge => ?_))
      · rw [itsD_len] at hlt
        have hlt : i < s.its.length := by omega
        have ea := itsD_getD s.its i hlt
        have hl2 := itsD_len s.its
        have tk : (listedK s).take (i + 1) = (listedK s).take i ++ [itemE s.rem s.its[i]] := by
          rw [List.take_add_one, List.getElem?_eq_getElem (by simpa [listedK] using hlt)]
          simp [listedK]
        have hfx := hf.it s.its[i] (List.getElem_mem hlt)
        have hkl : (ksD ((listedK s).take i)).length = i := by rw [ksD_len, List.length_take]; simp [listedK]; omega
        generalize s.its[i] = x at *
        obtain ⟨c, n, z, k⟩ := x
        rw [itemE_mk] at tk
        have st : ∀ a s1, (if k then withL (withL (withL (withL [] kJid c) kName n) kSub (subW z s.rem)) kAsk sSubscribe else withL (withL (withL [] kJid c) kName n) kSub (subW z s.rem)) = a →
            S.le s1 (stLs s (listedA s) ((listedK s).take i ++ [.mk sItem a ⟨#[]⟩ []]) ((i + 1 : Nat) : Int)) →
            FamNext (fun i : Nat => stLs s (listedA s) ((listedK s).take i) i) (fun i => i ≤ s.its.length) (fun i => s.its.length - i) i s1 := fun a s1 h1 h2 => by
          refine .mk [] (i + 1) ?_ hlt (by show s.its.length - (i + 1) < s.its.length - i; omega)
          show S.le s1 (stLs s (listedA s) ((listedK s).take (i + 1)) ((i + 1 : Nat) : Int))
          rw [tk]
          subst h1
          exact h2
        simp only [itD] at ea
        have hw := words_at z
        have h3 := and3 z
        have hsz := wrap_succ hlt lim
        unfold wordsD at hw
        simp only [rLs_b_e0, rLs_b_e1, rLs_b_e2, rLs_b_e3, rLs_b_e4, rLs_b_c, rLs_b_n, rLs_b_z, rLs_b_k, Int.toNat_natCast, ea, List.getD_cons_zero, List.drop_succ_cons, List.drop_zero, strD, intD, boolD, hw]
        refine ⟨⟨by omega, by omega⟩, rfl, Nat.le_refl _, ⟨by trivial, by trivial, by trivial, by trivial, trivial⟩, h3, by omega, Nat.zero_le _, Nat.le_refl _, by trivial, ?_⟩
        have hkb : (ksD ((listedK s).take i)).length + 1 ≤ LIM := by rw [hkl]; exact Nat.le_trans hlt lim
        refine bcase_mk (fun hr => ?_) (fun hr => ?_)
        · rw [hr] at st
          refine ⟨hfx.1, ?_⟩
          try refine And.intro ?_ ?_
          all_goals
            refine ⟨_, _, _, _, rfl, by trivial, by trivial, by trivial, ?_⟩
            try refine And.intro ?_ ?_
          all_goals
            refine ⟨_, _, _, _, withL [] kJid c, rfl, rfl, by have := withL_len [] kJid c; simp at this; omega, by trivial, by trivial, ?_⟩
            try refine And.intro ?_ ?_
          all_goals
            refine ⟨_, _, _, _, withL (withL [] kJid c) kName n, rfl, rfl, by have := withL_len [] kJid c; have := withL_len (withL [] kJid c) kName n; simp at *; omega, by trivial, by trivial, by trivial, bcase_mk (fun hk => ⟨_, _, _, _, withL (withL (withL [] kJid c) kName n) kSub (subW z true), rfl, rfl, by have := withL_len [] kJid c; have := withL_len (withL [] kJid c) kName n; have := withL_len (withL (withL [] kJid c) kName n) kSub (subW z true); simp at *; omega, by trivial, by simp, by trivial, hkb, ?_⟩) (fun hk => ⟨by simp, by trivial, hkb, ?_⟩)⟩
            · refine st _ _ (by rw [if_pos hk]) ?_
              rw [List.take_length, hsz]
              simp [S.le, sealAll, leL, leA, leO, jks, stLs, S.fits, fitsL, AV.fits, Ob.fits, KK.isSy, mkSS, mkS, mkI, mkB, ksD_snoc, wordsD, sItem] <;> exact .inl rfl
            · refine st _ _ (by rw [if_neg (by rw [hk]; simp)]) ?_
              rw [List.take_length, hsz]
              simp [S.le, sealAll, leL, leA, leO, jks, stLs, S.fits, fitsL, AV.fits, Ob.fits, KK.isSy, mkSS, mkS, mkI, mkB, ksD_snoc, wordsD, sItem] <;> exact .inl rfl
        · rw [hr] at st
          refine ⟨hfx.1, ?_⟩
          try refine And.intro ?_ ?_
          all_goals
            refine ⟨_, _, _, _, rfl, by trivial, by trivial, by trivial, ?_⟩
            try refine And.intro ?_ ?_
          all_goals
            refine ⟨_, _, _, _, withL [] kJid c, rfl, rfl, by have := withL_len [] kJid c; simp at this; omega, by trivial, by trivial, ?_⟩
            try refine And.intro ?_ ?_
          all_goals
            refine ⟨_, _, _, _, withL (withL [] kJid c) kName n, rfl, rfl, by have := withL_len [] kJid c; have := withL_len (withL [] kJid c) kName n; simp at *; omega, by trivial, by trivial, by trivial, bcase_mk (fun hk => ⟨_, _, _, _, withL (withL (withL [] kJid c) kName n) kSub (subW z false), rfl, rfl, by have := withL_len [] kJid c; have := withL_len (withL [] kJid c) kName n; have := withL_len (withL (withL [] kJid c) kName n) kSub (subW z false); simp at *; omega, by trivial, by simp, by trivial, hkb, ?_⟩) (fun hk => ⟨by simp, by trivial, hkb, ?_⟩)⟩
            · refine st _ _ (by rw [if_pos hk]) ?_
              rw [List.take_length, hsz]
              simp [S.le, sealAll, leL, leA, leO, jks, stLs, S.fits, fitsL, AV.fits, Ob.fits, KK.isSy, mkSS, mkS, mkI, mkB, ksD_snoc, wordsD, sItem] <;> exact .inl rfl
            · refine st _ _ (by rw [if_neg (by rw [hk]; simp)]) ?_
              rw [List.take_length, hsz]
              simp [S.le, sealAll, leL, leA, leO, jks, stLs, S.fits, fitsL, AV.fits, Ob.fits, KK.isSy, mkSS, mkS, mkI, mkB, ksD_snoc, wordsD, sItem] <;> exact .inl rfl
      · rw [itsD_len] at hge
        have : i = s.its.length := by omega
        subst this
        have e : (listedK s).take s.its.length = listedK s := List.take_of_length_le (by simp [listedK])
        rw [e, List.take_length]
        exact hq
  refine cast (rLs s q).symm (bcase_dec (fun g => ⟨by rw [IntKind.wrap_u32]; omega, _, _, _, _, rfl, rfl, rfl, fun _ => lp _ ?_⟩) (fun g _ => lp _ ?_))
  · have e : listedA s = withL [] kVer (decS (IntKind.wrap .u32 s.ver).toNat) := if_pos g
    rw [e]
    refine (weak_openB _ 2 3 4 (by omega)).trans ((weak_packG [some 0, some 1, some 2, some 6, some 7, some 5] rfl).trans ((weak_seal _ [5]).trans (weak_le ?_)))
    simp [S.le, S.openB, openNil, S.packG, renL, AV.ren, inG, posG, Ob.ren, sealAll, S.sealR, subL, AV.sub, Ob.subO, List.take_length, leL, leA, leO, jks, stLs, S.fits, fitsL, AV.fits, Ob.fits, KK.isSy, mkSS, mkS, mkI, mkB, ksD, wordsD, sQuery, kTo, kFrom, sBoth] <;> exact .inl rfl
  · have e : listedA s = [] := if_neg g
    rw [e]
    refine (weak_openB _ 2 3 4 (by omega)).trans ((weak_openB _ 2 1 2 (by omega)).trans ((weak_seal _ [5]).trans (weak_le ?_)))
    simp [S.le, S.openB, openNil, S.packG, renL, AV.ren, inG, posG, Ob.ren, sealAll, S.sealR, subL, AV.sub, Ob.subO, List.take_length, leL, leA, leO, jks, stLs, S.fits, fitsL, AV.fits, Ob.fits, KK.isSy, mkSS, mkS, mkI, mkB, ksD, wordsD, sQuery, kTo, kFrom, sBoth, atsD]
end Go.Proofs.YtfdmmgiefhhnoaaGreatDoor
