import Derived.Test.YtfdmmgiefhhnoaaGreatDoorStaLive
import Derived.Test.YtfdmmgiefhhnoaaGreatDoorFrame4
import Derived.Test.YtfdmmgiefhhnoaaGreatDoorStaRef2
set_option linter.unusedSimpArgs false
set_option linter.unusedVariables false
namespace Go.Proofs.YtfdmmgiefhhnoaaGreatDoor
open Go Go.AM Go.RowKit
theorem tyargs2 {P : Program} {t u : TypeId} : ∀ {as' : List AV}, TyArgs P [t, u] as' → ∃ a b, as' = [a, b] ∧ TyArg P t a ∧ TyArg P u b
  | [], h => h.elim
  | [_], h => h.2.elim
  | [a, b], h => ⟨a, b, rfl, h.1, h.2.1⟩
  | _ :: _ :: _ :: _, h => h.2.2.elim
theorem tyS {P : Program} {n : Nat} {t : TypeId} {ds : List D} (hu : P.underlying t = some .string) (h : Ty P n t ds) : ∃ s : BA, ds = [.v (.string s)] ∧ s.size ≤ 1048576 := by
  cases n with
  | zero => exact h.elim
  | succ n => unfold Ty at h; rw [hu] at h; exact h
theorem tyI {P : Program} {n : Nat} {t : TypeId} {k : IntKind} {ds : List D} (hu : P.underlying t = some (.int k)) (h : Ty P n t ds) : ∃ i : Int, ds = [.v (.int k i)] ∧ (Lit.int k i).wf = true := by
  cases n with
  | zero => exact h.elim
  | succ n => unfold Ty at h; rw [hu] at h; exact h
theorem tyB {P : Program} {n : Nat} {t : TypeId} {ds : List D} (hu : P.underlying t = some .bool) (h : Ty P n t ds) : ∃ b : Bool, ds = [.v (.bool b)] := by
  cases n with
  | zero => exact h.elim
  | succ n => unfold Ty at h; rw [hu] at h; exact h
theorem tyL {P : Program} {n : Nat} {t e : TypeId} {ds : List D} (hu : P.underlying t = some (.slice e)) (h : Ty P n t ds) : ∃ es : List (List D), ds = [.sl es] ∧ es.length ≤ 1048576 ∧ ∃ m, m < n ∧ ∀ c ∈ es, Ty P m e c := by
  cases n with
  | zero => exact h.elim
  | succ n =>
    unfold Ty at h; rw [hu] at h
    obtain ⟨es, h1, h2, h3⟩ := h
    exact ⟨es, h1, h2, n, by omega, h3⟩
theorem tySt {P : Program} {n : Nat} {t : TypeId} {fs : Array Field} {ts : List TypeId} {ds : List D} (hu : P.underlying t = some (.struct fs)) (hf : fs.toList.map (·.type) = ts) (h : Ty P n t ds) : ∃ m, m < n ∧ TyL (Ty P m) ts ds := by
  cases n with
  | zero => exact h.elim
  | succ n =>
    unfold Ty at h; rw [hu] at h
    exact ⟨n, by omega, hf ▸ h⟩
theorem lim_of {n : Nat} (h : n ≤ 1048576) : n ≤ LIM := by unfold LIM; omega
theorem ty_it {n : Nat} {ds : List D} (h : Ty Tryz.prog n 50 ds) : ∃ x : It, ds = itD x ∧ (x.n.size ≤ LIM ∧ x.c.size ≤ LIM) := by
  obtain ⟨m, _, h⟩ := tySt (ts := [9, 9, 3, 4]) Tryz.underlying50 rfl h
  obtain ⟨_, _, rfl, h1, _, _, rfl, h2, _, _, rfl, h3, _, _, rfl, h4, rfl⟩ := h
  obtain ⟨c, rfl, hc⟩ := tyS Tryz.underlying9 h1
  obtain ⟨n, rfl, hn⟩ := tyS Tryz.underlying9 h2
  obtain ⟨s, rfl, _⟩ := tyI Tryz.underlying3 h3
  obtain ⟨b, rfl⟩ := tyB Tryz.underlying4 h4
  exact ⟨⟨c, n, s, b⟩, rfl, lim_of hn, lim_of hc⟩
theorem arg_sz {a : AV} (h : TyArg Tryz.prog 25 a) : ∃ s : Sz, a = szV s ∧ FitS s := by
  obtain ⟨m, ds, g1, h0⟩ := h
  obtain ⟨m, _, h⟩ := tySt (ts := [3, 9, 9, 9, 9, 9, 9, 9, 22, 3, 4, 23]) Tryz.underlying25 rfl g1
  obtain ⟨_, _, rfl, h1, _, _, rfl, h2, _, _, rfl, h3, _, _, rfl, h4, _, _, rfl, h5, _, _, rfl, h6, _, _, rfl, h7, _, _, rfl, h8, _, _, rfl, h9, _, _, rfl, h10, _, _, rfl, h11, _, _, rfl, h12, rfl⟩ := h
  obtain ⟨kind, rfl, _⟩ := tyI Tryz.underlying3 h1
  obtain ⟨ty, rfl, f2⟩ := tyS Tryz.underlying9 h2
  obtain ⟨id, rfl, f3⟩ := tyS Tryz.underlying9 h3
  obtain ⟨fr, rfl, f4⟩ := tyS Tryz.underlying9 h4
  obtain ⟨to_, rfl, f5⟩ := tyS Tryz.underlying9 h5
  obtain ⟨sh, rfl, f6⟩ := tyS Tryz.underlying9 h6
  obtain ⟨tk, rfl, f7⟩ := tyS Tryz.underlying9 h7
  obtain ⟨re, rfl, f8⟩ := tyS Tryz.underlying9 h8
  obtain ⟨hh, rfl, f9⟩ := tyI Tryz.underlying22 h9
  obtain ⟨v, rfl, _⟩ := tyI Tryz.underlying3 h10
  obtain ⟨r, rfl⟩ := tyB Tryz.underlying4 h11
  obtain ⟨es, rfl, hel, m4, _, he⟩ := tyL Tryz.underlying23 h12
  obtain ⟨xs, rfl, hx⟩ := list_of itD (fun x : It => x.n.size ≤ LIM ∧ x.c.size ≤ LIM) es fun c hc => ty_it (he c hc)
  refine ⟨⟨kind, ty, id, fr, to_, sh, tk, re, hh, v, r, xs⟩, by rw [h0, show aggB Tryz.prog 25 = true by unfold aggB; rw [Tryz.underlying25]]; rfl, ⟨lim_of (by simpa using hel), hx, lim_of f2, lim_of f3, lim_of f4, lim_of f5, lim_of f6, lim_of f7, lim_of f8, ?_⟩⟩
  simp only [Lit.wf, Bool.and_eq_true, decide_eq_true_eq] at f9
  have e1 : IntKind.u32.min = 0 := rfl
  have e2 : IntKind.u32.max = 4294967295 := rfl
  exact ⟨by rw [← e1]; exact f9.1, by rw [← e2]; exact f9.2⟩
end Go.Proofs.YtfdmmgiefhhnoaaGreatDoor

namespace Go.Proofs.YtfdmmgiefhhnoaaGreatDoor
open Go Go.AM Go.RowKit
attribute [local irreducible] aCode
theorem ksD_snoc3 (l : List El) (e : El) : ksD (l ++ [e]) = ksD l ++ [[D.v (.string e.n), D.sl (atsD e.ats), D.v (.string e.t), D.sl (ksD e.ks)]] := by
  obtain ⟨n, a, t, k⟩ := e
  rw [ksD_eq, ksD_eq, List.map_append]; simp [elD, El.n, El.ats, El.t, El.ks]
theorem tsn {α : Type} {l : List α} {n : Nat} (h : n < l.length) : l.take (n + 1) = l.take n ++ [l[n]] := by rw [List.take_add_one, List.getElem?_eq_getElem h]; rfl
theorem qOk_bad {s : Sz} (h : ∃ x ∈ s.its, itOk s.rem x = false) : ¬ qOk s := fun g => by
  obtain ⟨x, hx, hn⟩ := h
  have := g.2.2.2 x hx
  rw [hn] at this; cases this
theorem cQry : PSound Tryz.prog 33 EQry := by
  refine pure_fn (c := Tryz.b33) mixed KS_ok (gsound_pure cItm (gsound_pure cTxA gsound_nil)) Tryz.func33 rfl rfl Tryz.call33 fun al q ⟨s, h1, hf, hq⟩ => ?_
  subst h1
  have no : ¬ qOk s → ∀ L K, q (AV.tp [AV.ag [mkS sQuery, .d (.sl L), mkS ⟨#[]⟩, .d (.sl K)], mkB false]) := fun h L K => hq _ _ _ _ false (by simp [h]) (by simp)
  have lim := hf.its
  have lp : 0 ≤ s.ver → s.ver ≤ 1000000 → s.its.length ≤ 16 → ∀ s0 : S, Weak s0 (stQ s (listedA s) [] 0) → ALoop (aCode KS GQry (cAt [1, 1, 1, 1, 0, 1, 0, 0] Tryz.b33)) (rQry_k0 q) s0 := fun hv0 hv1 h16 s0 hw => by
    refine ALoop.weak _ hw (ALoop.introM [] (maskOf (stQ s (listedA s) [] 0)) (fun i : Nat => stQ s (listedA s) (ksD ((listedK s).take i)) i) (fun i => i ≤ s.its.length ∧ ∀ x ∈ s.its.take i, itOk s.rem x = true) (fun i => s.its.length - i) ⟨[], 0, ?_, Nat.zero_le _, by simp⟩ fun i ⟨hi, hI⟩ => ?_)
    · simp [S.le, sealAll, leL, leA, leO, jks, stQ, szO, S.fits, fitsL, AV.fits, Ob.fits, KK.isSy, mkSS, mkS, mkI, mkB, ksD]
    · refine cast (rQry_b _ _ _ i s (listedA s) (ksD ((listedK s).take i)) i q).symm fun hlm => bcase_dec (fun hlt => ?_) (fun hge => ?_)
      · rw [itsD_len] at hlt hlm
        have hlt : i < s.its.length := by omega
        have ea := itsD_getD s.its i hlt
        have hl2 := itsD_len s.its
        have tk : (listedK s).take (i + 1) = (listedK s).take i ++ [itemE s.rem s.its[i]] := by
          rw [List.take_add_one, List.getElem?_eq_getElem (by simpa [listedK] using hlt)]
          simp [listedK]
        have tki : s.its.take (i + 1) = s.its.take i ++ [s.its[i]] := tsn hlt
        have hmem := List.getElem_mem hlt
        have hfx := hf.it s.its[i] hmem
        have hkl : (ksD ((listedK s).take i)).length = i := by rw [ksD_len, List.length_take]; simp [listedK]; omega
        have hsz := wrap_succ hlt lim
        generalize s.its[i] = x at *
        obtain ⟨c, n, z, a⟩ := x
        simp only [itD] at ea
        simp only [Int.toNat_natCast, ea, List.getD_cons_zero, List.drop_succ_cons, List.drop_zero, strD, intD, boolD]
        refine ⟨⟨by omega, by omega⟩, rfl, Nat.le_refl _, ⟨by trivial, by trivial, by trivial, by trivial, trivial⟩, ?_⟩
        try refine And.intro ?_ ?_
        all_goals
          refine ⟨c, n, z, a, s.rem, rfl, hfx.1, fun n' L t K b hb he => bcase_mk (fun h => no (qOk_bad ⟨_, hmem, ?_⟩) _ _) (fun h => ?_)⟩
          · rw [← hb]; simpa using h
          · have hbt : b = true := by simpa using h
            obtain ⟨rfl, rfl, rfl, hK⟩ := he hbt
            try obtain rfl := hK
            refine ⟨by simp, by trivial, by rw [hkl]; exact Nat.le_trans hlt lim, .mk [] (i + 1) ?_ ⟨hlt, fun x hx => ?_⟩ (by show s.its.length - (i + 1) < s.its.length - i; omega)⟩
            · rw [hsz, tk, ksD_snoc3]
              simp [S.le, sealAll, leL, leA, leO, jks, stQ, szO, S.fits, fitsL, AV.fits, Ob.fits, KK.isSy, mkSS, mkS, mkI, mkB] <;> exact .inl rfl
            · rw [tki] at hx
              rcases List.mem_append.1 hx with hx | hx
              · exact hI x hx
              · rw [List.mem_singleton.1 hx, ← hb]; exact hbt
      · rw [itsD_len] at hge
        have : i = s.its.length := by omega
        subst this
        have e : (listedK s).take s.its.length = listedK s := List.take_of_length_le (by simp [listedK])
        rw [List.take_length] at hI
        rw [e, List.take_length]
        exact hq _ _ _ _ true (by simp only [true_iff]; exact ⟨hv0, hv1, h16, hI⟩) fun _ => ⟨rfl, rfl, rfl, rfl⟩
  refine cast (rQry s q).symm (bcase_dec (fun h => no (fun g => by have := g.1; omega) [] []) (fun h => bcase_dec (fun h2 => no (fun g => by have := g.2.1; omega) [] []) (fun h2 _ => bcase_dec (fun h3 => no (fun g => by have := g.2.2.1; rw [itsD_len] at h3; omega) [] []) (fun h3 => ?_))))
  rw [itsD_len] at h3
  have lp := lp (by omega) (by omega) (by omega)
  refine bcase_dec (fun g => ?_) (fun g => lp _ ?_)
  · have e : listedA s = [(kVer, decS (IntKind.wrap .u32 s.ver).toNat)] := by
      unfold listedA withL
      rw [if_pos g, if_neg (dec_ne _)]; rfl
    have hw : 0 ≤ IntKind.wrap .u32 s.ver ∧ IntKind.wrap .u32 s.ver ≤ 4294967295 := by rw [IntKind.wrap_u32]; omega
    have e0 : rQry_e0 s q (IntKind.wrap .u32 s.ver) := by
      refine ⟨by simp, by unfold LIM; omega, lp _ ?_⟩
      rw [e]
      refine (weak_openB _ 2 3 4 (by omega)).trans ((weak_packG [some 0, some 1, some 2, some 5, some 4] rfl).trans ((weak_seal _ [4]).trans (weak_le ?_)))
      simp [S.le, S.openB, openNil, S.packG, renL, AV.ren, inG, posG, Ob.ren, sealAll, S.sealR, subL, AV.sub, Ob.subO, List.take_length, leL, leA, leO, jks, stQ, szO, szV, S.fits, fitsL, AV.fits, Ob.fits, KK.isSy, mkSS, mkS, mkI, mkB, atsD, atD, ksD] <;> exact .inl rfl
    exact ⟨⟨_, rfl, hw, e0⟩, _, rfl, hw, e0, e0, e0⟩
  · have e : listedA s = [] := if_neg g
    rw [e]
    refine (weak_openB _ 2 3 4 (by omega)).trans ((weak_openB _ 2 1 2 (by omega)).trans ((weak_seal _ [4]).trans (weak_le ?_)))
    simp [S.le, S.openB, openNil, S.packG, renL, AV.ren, inG, posG, Ob.ren, sealAll, S.sealR, subL, AV.sub, Ob.subO, List.take_length, leL, leA, leO, jks, stQ, szO, szV, S.fits, fitsL, AV.fits, Ob.fits, KK.isSy, mkSS, mkS, mkI, mkB, atsD, ksD] <;> exact .inl rfl
theorem cBare : PSound Tryz.prog 14 EBare := by
  refine pure_fn (c := Tryz.b14) mixed KS_ok gsound_nil Tryz.func14 rfl rfl Tryz.call14 fun al q ⟨s, h1, hf, hq⟩ => ?_
  subst h1
  have hq := hq _ rfl
  obtain ⟨kind, ty, id, f, t, sh, tk, re, h, v, r, xs⟩ := s
  have f1 : f.size ≤ LIM := hf.from_
  have f2 : t.size ≤ LIM := hf.to_
  have f3 : sh.size ≤ LIM := hf.show_
  have f4 : re.size ≤ LIM := hf.rea
  refine cast (rBare ⟨kind, ty, id, f, t, sh, tk, re, h, v, r, xs⟩ q).symm (bcase_mk (fun h1 => ?_) (fun h1 => (bcase_mk (fun h2 => ?_) (fun h2 => (bcase_mk (fun h3 => ?_) (fun h3 => (bcase_mk (fun h4 => ?_) (fun h4 => (bcase_mk (fun h5 => ?_) (fun h5 => (bcase_mk (fun h7 => ?_) (fun h7 => (bcase_mk (fun h9 => ?_) (fun h9 => (bcase_mk (fun h10 => ?_) (fun h10 => (bcase_mk (fun h11 => ?_) (fun h11 => ?_))))))))))))))))))
  · obtain rfl : kind = 1 := by simpa using h1
    exact ⟨f1, f2, f3, rfl, rfl, rfl, rfl, rfl, rfl, rfl, rfl, rfl, rfl, rfl, rfl, hq⟩
  · obtain rfl : kind = 2 := by simpa using h2
    cases r <;> exact hq
  · obtain rfl : kind = 3 := by simpa using h3
    cases r <;> exact hq
  · obtain rfl : kind = 4 := by simpa using h4
    cases r <;> exact hq
  · obtain rfl : kind = 5 := by simpa using h5
    exact ⟨f4, rfl, rfl, hq⟩
  · obtain rfl : kind = 7 := by simpa using h7
    exact hq
  · obtain rfl : kind = 9 := by simpa using h9
    exact hq
  · obtain rfl : kind = 10 := by simpa using h10
    exact ⟨trivial, rfl, rfl, hq⟩
  · obtain rfl : kind = 11 := by simpa using h11
    exact ⟨trivial, rfl, rfl, hq⟩
  · have e : bareM ⟨kind, ty, id, f, t, sh, tk, re, h, v, r, xs⟩ = { kind := kind } := by
      simp only [beq_eq_false_iff_ne] at *
      unfold bareM
      simp only
      rw [if_neg h1, if_neg (by rintro (e | e | e) <;> contradiction), if_neg h5, if_neg h7, if_neg h9, if_neg (by rintro (e | e) <;> contradiction)]
    rw [e] at hq
    exact hq
theorem cRSm : PSound Tryz.prog 9 ERSm := by
  refine pure_fn (c := Tryz.b9) mixed KS_ok gsound_nil Tryz.func9 rfl rfl Tryz.call9 fun al q ⟨s, t, h1, ⟨hs, ht⟩, hq⟩ => ?_
  subst h1
  have no : s ≠ t → q (mkB false) := fun h => by
    have e : sameM s t = false := decide_eq_false h
    rw [e] at hq; exact hq
  have ng : ∀ {b : Bool}, (s = t → b = false) → b = true → q (mkB false) := fun h1 h2 => no fun e => by rw [h1 e] at h2; cases h2
  refine cast (rRSm s t q).symm ?_
  refine bcase_mk (ng fun e => by subst e; simp) (fun g1 => ?_)
  refine bcase_mk (ng fun e => by subst e; simp) (fun g2 => ?_)
  refine bcase_mk (ng fun e => by subst e; simp) (fun g3 => ?_)
  refine bcase_mk (ng fun e => by subst e; simp) (fun g4 => ?_)
  refine bcase_mk (ng fun e => by subst e; simp) (fun g5 => ?_)
  refine bcase_mk (ng fun e => by subst e; simp) (fun g6 => ?_)
  refine bcase_mk (ng fun e => by subst e; simp) (fun g7 => ?_)
  refine bcase_mk (ng fun e => by subst e; simp) (fun g8 => ?_)
  refine bcase_mk (ng fun e => by subst e; simp) (fun g9 => ?_)
  refine bcase_mk (ng fun e => by subst e; simp) (fun g10 => ?_)
  refine bcase_mk (ng fun e => by subst e; simp) (fun g11 => ?_)
  refine fun _ _ => bcase_mk (ng fun e => by subst e; simp) (fun g12 => ?_)
  rw [itsD_len, itsD_len] at g12
  have hl : s.its.length = t.its.length := by
    have := (bne_eq_false_iff_eq).1 g12
    omega
  have same : s.its = t.its → s = t := fun e => by
    obtain ⟨a1, a2, a3, a4, a5, a6, a7, a8, a9, a10, a11, a12⟩ := s
    obtain ⟨b1, b2, b3, b4, b5, b6, b7, b8, b9, b10, b11, b12⟩ := t
    simp at *
    simp_all
  have ne : s.its ≠ t.its → q (mkB false) := fun h => no fun e => h (by rw [e])
  refine ALoop.introM [] (maskOf (stRSm s t 0)) (fun i : Nat => stRSm s t i) (fun i => i ≤ s.its.length ∧ s.its.take i = t.its.take i) (fun i => s.its.length - i) ⟨[], 0, ?_, Nat.zero_le _, rfl⟩ fun i ⟨hi, hI⟩ => ?_
  · simp [S.le, sealAll, leL, leA, leO, jks, stRSm, szO, szV, S.fits, fitsL, AV.fits, Ob.fits, mkI, mkB]
  · refine cast (rRSm_b _ _ _ i s t i q).symm fun hlm => bcase_dec (fun hlt => ?_) (fun hge => ?_)
    · rw [itsD_len] at hlt hlm
      have hlt : i < s.its.length := by omega
      have hlb : i < t.its.length := by omega
      have tka := tsn hlt
      have tkb := tsn hlb
      have nx : s.its = t.its → s.its[i] = t.its[i] := fun e => by simp only [e]
      have ea := itsD_getD s.its i hlt
      have eb := itsD_getD t.its i hlb
      have hla := itsD_len s.its
      have hlb2 := itsD_len t.its
      have hsz := wrap_succ hlt hs
      generalize s.its[i] = xa at *
      generalize t.its[i] = xb at *
      obtain ⟨c, n, z, k⟩ := xa
      obtain ⟨c2, n2, z2, k2⟩ := xb
      simp only [itD] at ea eb
      simp only [Int.toNat_natCast, ea, eb, List.getD_cons_zero, List.drop_succ_cons, List.drop_zero, strD, intD, boolD]
      refine ⟨⟨by omega, by omega⟩, rfl, Nat.le_refl _, ⟨by trivial, by trivial, by trivial, by trivial, trivial⟩, ⟨by omega, by omega⟩, rfl, Nat.le_refl _, ⟨by trivial, by trivial, by trivial, by trivial, trivial⟩, bcase_mk (fun g => ?_) (fun g => ?_)⟩
      · refine ne fun e => ?_
        have := nx e
        simp only [It.mk.injEq] at this
        obtain ⟨rfl, rfl, rfl, rfl⟩ := this
        simp at g
      · have hx : c = c2 ∧ n = n2 ∧ z = z2 ∧ k = k2 := by simpa using g
        refine .mk [] (i + 1) ?_ ⟨hlt, ?_⟩ (by show s.its.length - (i + 1) < s.its.length - i; omega)
        · rw [hsz]
          simp [S.le, sealAll, leL, leA, leO, jks, stRSm, szO, S.fits, fitsL, AV.fits, Ob.fits, mkI, mkB]
        · rw [tka, tkb, hI, hx.1, hx.2.1, hx.2.2.1, hx.2.2.2]
    · rw [itsD_len] at hge
      have : i = s.its.length := by omega
      subst this
      rw [List.take_length, hl, List.take_length] at hI
      have e : sameM s t = true := decide_eq_true (same hI)
      rw [e] at hq
      exact hq
end Go.Proofs.YtfdmmgiefhhnoaaGreatDoor

namespace Go.Proofs.YtfdmmgiefhhnoaaGreatDoor
open Go Go.AM Go.RowKit
attribute [local irreducible] aCode
theorem bc_t {p r : Prop} : bcase true p r = p := rfl
theorem bc_f {p r : Prop} : bcase false p r = r := rfl
theorem mem_cons0 (x : BA) (l : List BA) : memB x (⟨#[]⟩ :: l) = true ↔ x = ⟨#[]⟩ ∨ memB x l = true := by rw [memB_iff, memB_iff, List.mem_cons]
theorem cPrs : PSound Tryz.prog 15 EPrs := by
  refine pure_fn (c := Tryz.b15) mixed KS_ok (gsound_det cAm (gsound_det cAd gsound_nil)) Tryz.func15 rfl rfl Tryz.call15 fun al q ⟨s, h1, ⟨hk, hf⟩, hq⟩ => ?_
  subst h1
  have no : ¬ presOk s → q (AV.tp [AV.ag [mkS sPresence, .d (.sl []), mkS ⟨#[]⟩, .d (.sl [])], mkB false]) := fun h => hq _ _ _ _ false (by simp [h]) (by simp)
  have t1 : memB s.ty [⟨#[]⟩, sUnav, sSubscribe, sSubscribed, sUnsub, sUnsubd] = true ↔ s.ty = ⟨#[]⟩ ∨ typesB s.ty = true := mem_cons0 _ _
  have t2 : memB s.show_ [⟨#[]⟩, sAway, sChat, sDnd, sXa] = true ↔ s.show_ = ⟨#[]⟩ ∨ showsB s.show_ = true := mem_cons0 _ _
  obtain ⟨kind, ty, id, f, t, sh, tk, re, h, v, r, xs⟩ := s
  obtain rfl : kind = 1 := hk
  simp only at t1 t2
  have yes : presOk ⟨1, ty, id, f, t, sh, tk, re, h, v, r, xs⟩ → ∀ L K, L = atsD (withL (withL (withL [] kType ty) kFrom f) kTo t) → K = ksD (kidsP sh) → q (AV.tp [AV.ag [mkS sPresence, .d (.sl L), mkS ⟨#[]⟩, .d (.sl K)], mkB true]) := fun ho L K h1 h2 => hq _ _ _ _ true (by simp [ho]) fun _ => ⟨rfl, h1, rfl, h2⟩
  refine cast (rPrs ⟨1, ty, id, f, t, sh, tk, re, h, v, r, xs⟩ q).symm ⟨rfl, bcase_mk (fun m1 => no fun g => ?_) (fun m1 => ⟨rfl, bcase_mk (fun m2 => no fun g => ?_) (fun m2 => ?_)⟩)⟩
  · have : memB ty [⟨#[]⟩, sUnav, sSubscribe, sSubscribed, sUnsub, sUnsubd] = true := t1.2 g.1
    have m1 : (!memB ty [⟨#[]⟩, sUnav, sSubscribe, sSubscribed, sUnsub, sUnsubd]) = true := m1
    rw [this] at m1; cases m1
  · have : memB sh [⟨#[]⟩, sAway, sChat, sDnd, sXa] = true := t2.2 g.2.1
    have m2 : (!memB sh [⟨#[]⟩, sAway, sChat, sDnd, sXa]) = true := m2
    rw [this] at m2; cases m2
  · have m1 : (!memB ty [⟨#[]⟩, sUnav, sSubscribe, sSubscribed, sUnsub, sUnsubd]) = false := m1
    have m2 : (!memB sh [⟨#[]⟩, sAway, sChat, sDnd, sXa]) = false := m2
    have o1 := t1.1 (by simpa using m1)
    have o2 := t2.1 (by simpa using m2)
    clear m1 m2 t1 t2
    have rest : (ty = ⟨#[]⟩ ∨ sh = ⟨#[]⟩) → ∀ X : Prop, (presOk ⟨1, ty, id, f, t, sh, tk, re, h, v, r, xs⟩ → X) → f.size ≤ LIM ∧ bcase (!addrE f) (q (AV.tp [AV.ag [mkS sPresence, .d (.sl []), mkS ⟨#[]⟩, .d (.sl [])], mkB false])) (t.size ≤ LIM ∧ bcase (!addrE t) (q (AV.tp [AV.ag [mkS sPresence, .d (.sl []), mkS ⟨#[]⟩, .d (.sl [])], mkB false])) X) := fun o3 X hX => by
      refine ⟨hf.from_, bcase_mk (fun a1 => no fun g => ?_) (fun a1 => ⟨hf.to_, bcase_mk (fun a2 => no fun g => ?_) (fun a2 => hX ⟨o1, o2, o3, by simpa using a1, by simpa using a2⟩)⟩)⟩
      · have : addrE f = true := g.2.2.2.1
        rw [this] at a1; cases a1
      · have : addrE t = true := g.2.2.2.2
        rw [this] at a2; cases a2
    refine bcase_mk (fun g1 => bcase_mk (fun g2 => no fun g => ?_) (fun g2 => rest (.inr (by simpa using g2)) _ fun ho => ?_)) (fun g1 => rest (.inl (by simpa using g1)) _ fun ho => ?_)
    · rcases g.2.2.1 with e | e
      · have e : ty = ⟨#[]⟩ := e
        rw [e] at g1; simp at g1
      · have e : sh = ⟨#[]⟩ := e
        rw [e] at g2; simp at g2
    all_goals
      have yes := yes ho
      clear rest no hq
      repeat' first
        | (refine bcase_mk (fun g => ?_) (fun g => ?_))
        | (refine ⟨by simp, rfl, by unfold LIM; omega, ?_⟩)
        | (refine ⟨by simp, by unfold LIM; omega, ?_⟩)
        | (refine yes _ _ ?_ ?_)
      all_goals first
        | (simp_all [withL, atsD, atD]; done)
        | (simp_all [kidsP, ksD, elD, atsD]; done)
theorem cIqR : PSound Tryz.prog 16 EIqR := by
  refine pure_fn (c := Tryz.b16) mixed KS_ok (gsound_pure cQry (gsound_det cWd gsound_nil)) Tryz.func16 rfl rfl Tryz.call16 fun al q ⟨s, h1, ⟨hk, hf⟩, hq⟩ => ?_
  subst h1
  have no : ¬ iqOk s → ∀ L K, q (AV.tp [AV.ag [mkS sIq, .d (.sl L), mkS ⟨#[]⟩, .d (.sl K)], mkB false]) := fun h L K => hq _ _ _ _ false (by simp [h]) (by simp)
  have two : ∀ w id : BA, w ≠ ⟨#[]⟩ → wordB id = true → atsD (withL (withL [] kType w) kId id) = [[.v (.string kType), .v (.string w)], [.v (.string kId), .v (.string id)]] := fun w id hw hid => by
    simp [withL, hw, word_ne hid, atsD, atD]
  have hlen := itsD_len s.its
  obtain ⟨kind, ty, id, f, t, sh, tk, re, h, v, r, xs⟩ := s
  have hkk : kind = 2 ∨ kind = 3 ∨ kind = 4 ∨ kind = 5 := by have := hk.1; have := hk.2; simp only at *; omega
  simp only at hlen
  have len0 : ∀ m : Nat, (((itsD xs).length : Int) == (m : Int)) = true ↔ xs.length = m := fun m => by rw [hlen, beq_iff_eq]; omega
  rcases hkk with rfl | rfl | rfl | rfl
  · refine cast (rIqR ⟨2, ty, id, f, t, sh, tk, re, h, v, r, xs⟩ q).symm ?_
    simp only [rIqR_e0, show ((2 : Int) == 5) = false from rfl, show ((2 : Int) == 4) = false from rfl, show ((2 : Int) == 2) = true from rfl, bc_t, bc_f]
    refine ⟨⟨by decide, by decide⟩, by decide, by decide, by decide, by rfl, ?_⟩
    try refine And.intro ?_ ?_
    all_goals
      refine ⟨_, rfl, hf, fun n L t' K b hb he => ⟨hf.id, bcase_mk (fun g => no (fun o => ?_) _ _) (fun g => bcase_mk (fun g2 => no (fun o => ?_) _ _) (fun g2 _ => ?_))⟩⟩
      · have := o.1
        rw [this] at g; cases g
      · have := hb.2 o.2.1
        rw [this] at g2; cases g2
      · have hid : wordB id = true := by simpa using g
        have hbt : b = true := by simpa using g2
        obtain ⟨rfl, rfl, rfl, rfl⟩ := he hbt
        refine hq _ _ _ _ _ ((len0 0).trans ⟨fun e => ⟨hid, hb.1 hbt, fun e => absurd e (by simp), fun e => absurd e (by simp), fun _ => e, fun e => absurd e (by simp)⟩, fun o => o.2.2.2.2.1 rfl⟩) fun _ => ⟨rfl, (two sGet id (by decide) hid).symm, rfl, rfl⟩
  · refine cast (rIqR ⟨3, ty, id, f, t, sh, tk, re, h, v, r, xs⟩ q).symm ?_
    simp only [rIqR_e0, show ((3 : Int) == 5) = false from rfl, show ((3 : Int) == 4) = false from rfl, show ((3 : Int) == 2) = false from rfl, bc_t, bc_f]
    refine ⟨⟨by decide, by decide⟩, by decide, by decide, by decide, by rfl, ?_⟩
    try refine And.intro ?_ ?_
    all_goals
      refine ⟨_, rfl, hf, fun n L t' K b hb he => ⟨hf.id, bcase_mk (fun g => no (fun o => ?_) _ _) (fun g => bcase_mk (fun g2 => no (fun o => ?_) _ _) (fun g2 _ => ?_))⟩⟩
      · have := o.1
        rw [this] at g; cases g
      · have := hb.2 o.2.1
        rw [this] at g2; cases g2
      · have hid : wordB id = true := by simpa using g
        have hbt : b = true := by simpa using g2
        obtain ⟨rfl, rfl, rfl, rfl⟩ := he hbt
        refine hq _ _ _ _ _ ((len0 1).trans ⟨fun e => ⟨hid, hb.1 hbt, fun e => absurd e (by simp), fun e => absurd e (by simp), fun e => absurd e (by simp), fun _ => e⟩, fun o => o.2.2.2.2.2 rfl⟩) fun _ => ⟨rfl, (two sSet id (by decide) hid).symm, rfl, rfl⟩
  · refine cast (rIqR ⟨4, ty, id, f, t, sh, tk, re, h, v, r, xs⟩ q).symm ?_
    simp only [rIqR_e0, show ((4 : Int) == 5) = false from rfl, show ((4 : Int) == 4) = true from rfl, show ((4 : Int) == 2) = false from rfl, bc_t, bc_f]
    refine ⟨⟨by decide, by decide⟩, by decide, by decide, by decide, by rfl, ?_⟩
    try refine And.intro ?_ ?_
    all_goals
      refine ⟨_, rfl, hf, fun n L t' K b hb he => ⟨hf.id, bcase_mk (fun g => no (fun o => ?_) _ _) (fun g => bcase_mk (fun g2 => no (fun o => ?_) _ _) (fun g2 => ?_))⟩⟩
      · have := o.1
        rw [this] at g; cases g
      · have := hb.2 o.2.1
        rw [this] at g2; cases g2
      · have hid : wordB id = true := by simpa using g
        have hbt : b = true := by simpa using g2
        have hqo := hb.1 hbt
        obtain ⟨rfl, rfl, rfl, rfl⟩ := he hbt
        refine bcase_mk (fun g3 _ => ?_) (fun g3 => ?_)
        · have hv : v = 0 := by simpa using g3
          subst hv
          exact hq _ _ _ _ _ ((len0 0).trans ⟨fun e => ⟨hid, hqo, fun e => absurd e (by simp), fun _ _ => e, fun e => absurd e (by simp), fun e => absurd e (by simp)⟩, fun o => o.2.2.2.1 rfl rfl⟩) fun _ => ⟨rfl, (two sResult id (by decide) hid).symm, rfl, rfl⟩
        · have hv : ¬ v = 0 := by simpa using g3
          have hv0 : 0 ≤ v := hqo.1
          have hpos : v > 0 := by omega
          have fin := hq _ _ _ _ true (by simp only [true_iff]; exact ⟨hid, hqo, fun e => absurd e (by simp), fun _ e => absurd e hv, fun e => absurd e (by simp), fun e => absurd e (by simp)⟩) fun _ => ⟨rfl, (two sResult id (by decide) hid).symm, rfl, (congrArg ksD (if_pos hpos : (if v > 0 then [El.mk sQuery (listedA ⟨4, ty, id, f, t, sh, tk, re, h, v, r, xs⟩) ⟨#[]⟩ (listedK ⟨4, ty, id, f, t, sh, tk, re, h, v, r, xs⟩)] else []) = _)).symm⟩
          exact ⟨fin, fin⟩
  · refine cast (rIqR ⟨5, ty, id, f, t, sh, tk, re, h, v, r, xs⟩ q).symm ?_
    simp only [rIqR_e0, show ((5 : Int) == 5) = true from rfl, bc_t, bc_f]
    refine ⟨⟨by decide, by decide⟩, by decide, by decide, by decide, by rfl, ?_⟩
    try refine And.intro ?_ ?_
    all_goals
      refine ⟨_, rfl, hf, fun n L t' K b hb he => ⟨hf.id, bcase_mk (fun g => no (fun o => ?_) _ _) (fun g => bcase_mk (fun g2 => no (fun o => ?_) _ _) (fun g2 => ⟨hf.rea, bcase_mk (fun g3 => bcase_mk (fun g4 _ => ?_) (fun g4 => dupA (no (fun o => ?_) _ _))) (fun g3 => dupA (no (fun o => ?_) _ _))⟩))⟩⟩
      · have := o.1
        rw [this] at g; cases g
      · have := hb.2 o.2.1
        rw [this] at g2; cases g2
      · have hid : wordB id = true := by simpa using g
        have hbt : b = true := by simpa using g2
        have hv : v = 0 := by simpa using g4
        exact hq _ _ _ _ _ ((len0 0).trans ⟨fun e => ⟨hid, hb.1 hbt, fun _ => ⟨g3, hv, e⟩, fun e => absurd e (by simp), fun e => absurd e (by simp), fun e => absurd e (by simp)⟩, fun o => (o.2.2.1 rfl).2.2⟩) fun _ => ⟨rfl, (two sError id (by decide) hid).symm, rfl, rfl⟩
      · have : v = 0 := (o.2.2.1 rfl).2.1
        rw [this] at g4; cases g4
      · have : wordB re = true := (o.2.2.1 rfl).1
        rw [this] at g3; cases g3
end Go.Proofs.YtfdmmgiefhhnoaaGreatDoor

namespace Go.Proofs.YtfdmmgiefhhnoaaGreatDoor
open Go Go.AM Go.RowKit
attribute [local irreducible] aCode
def EWriteA : List AV → (AV → Prop) → Prop := fun al q => ∃ s, al = [szV s] ∧ FitS s ∧ ∀ n l t k c, writeM s = (.mk n l t k, c) → q (.tp [.ag [mkS n, .d (.sl (atsD l)), mkS t, .d (.sl (ksD k))], mkI .i64 c])
theorem cWriteA : PSound Tryz.prog 5 EWriteA := cWrite.mono fun al q ⟨s, h1, h2, h3⟩ => ⟨s, h1, h2, by
  have := h3 (writeM s).1.n (writeM s).1.ats (writeM s).1.t (writeM s).1.ks (writeM s).2 (by cases writeM s with | mk e c => cases e; rfl)
  exact this⟩
theorem cRW : PSound Tryz.prog 6 EWriteA := by
  refine pure_fn (c := Tryz.b6) mixed KS_ok (gsound_pure cRSm (gsound_pure cBare (gsound_pure cPrs (gsound_pure cIqR (gsound_det cWd (gsound_pure cTxA gsound_nil)))))) Tryz.func6 rfl rfl Tryz.call6 fun al q ⟨s, h1, hf, hq⟩ => ?_
  subst h1
  have no : ¬ ((1 ≤ s.kind ∧ s.kind ≤ 14) ∧ s = bareM s ∧ kindOk s) → q (AV.tp [AV.ag [mkS ⟨#[]⟩, .d (.sl []), mkS ⟨#[]⟩, .d (.sl [])], mkI .i64 1]) := fun h => hq _ _ _ _ 1 (write_no hf.h h)
  have yes : (1 ≤ s.kind ∧ s.kind ≤ 14) → s = bareM s → kindOk s → ∀ n L t K, IsEl n L t K (drawnM s) → q (AV.tp [AV.ag [mkS n, .d (.sl L), mkS t, .d (.sl K)], mkI .i64 0]) := fun hk hb ho n L t K ⟨e1, e2, e3, e4⟩ => by
    subst e1 e2 e3 e4
    exact hq _ _ _ _ 0 (by rw [write_yes hf.h hk hb ho]; cases drawnM s; rfl)
  refine cast (rRW s q).symm (bcase_dec (fun h => no fun g => by omega) (fun h1 => bcase_dec (fun h => no fun g => by omega) (fun h2 => ⟨s, rfl, hf, fun t ht => ⟨s, t, rfl, ?_, bcase_mk (fun g => no fun o => ?_) (fun g => ?_)⟩⟩)))
  · refine ⟨hf.its, ?_⟩
    subst ht
    unfold bareM
    repeat' split
    all_goals first | exact hf.its | exact Nat.zero_le _
  · have e : sameM s t = true := decide_eq_true (o.2.1.trans ht.symm)
    rw [e] at g; cases g
  · have hb : s = bareM s := by
      have : sameM s t = true := by simpa using g
      rw [← ht]
      exact of_decide_eq_true this
    clear ht g t
    have hk : 1 ≤ s.kind ∧ s.kind ≤ 14 := ⟨by omega, by omega⟩
    have yes := yes hk hb
    have no : ¬ kindOk s → q (AV.tp [AV.ag [mkS ⟨#[]⟩, .d (.sl []), mkS ⟨#[]⟩, .d (.sl [])], mkI .i64 1]) := fun h => no fun g => h g.2.2
    have hfh := hf.h
    have hft := hf.tok
    have one : ∀ k v : BA, wordB v = true → atsD (withL [] k v) = [[.v (.string k), .v (.string v)]] := fun k v h => by simp [withL, word_ne h, atsD, atD]
    have hh1 : atsD (withL [] kH (decS s.h.toNat)) = [[.v (.string kH), .v (.string (decS s.h.toNat))]] := by simp [withL, dec_ne, atsD, atD]
    have hh2 : ∀ v : BA, wordB v = true → atsD (withL (withL [] kH (decS s.h.toNat)) kPrev v) = [[.v (.string kH), .v (.string (decS s.h.toNat))], [.v (.string kPrev), .v (.string v)]] := fun v h => by simp [withL, dec_ne, word_ne h, atsD, atD]
    have idx : (0 ≤ s.kind ∧ s.kind < ((15 : Nat) : Int)) ∧ s.kind.toNat < 15 := ⟨⟨by omega, by omega⟩, by omega⟩
    obtain ⟨kind, ty, id, f, t, sh, tk, re, h, v, r, xs⟩ := s
    have hk14 : kind = 1 ∨ kind = 2 ∨ kind = 3 ∨ kind = 4 ∨ kind = 5 ∨ kind = 6 ∨ kind = 7 ∨ kind = 8 ∨ kind = 9 ∨ kind = 10 ∨ kind = 11 ∨ kind = 12 ∨ kind = 13 ∨ kind = 14 := by
      have := hk.1; have := hk.2; simp only at *; omega
    refine ⟨idx.1, idx.2, ?_⟩
    clear idx
    rcases hk14 with rfl | rfl | rfl | rfl | rfl | rfl | rfl | rfl | rfl | rfl | rfl | rfl | rfl | rfl
    all_goals
      refine ⟨Nat.zero_le _, Nat.le_refl 1, by rfl, ?_⟩
    · exact ⟨_, rfl, ⟨rfl, hf⟩, fun n L t' K b hb' he => bcase_mk (fun g => no fun o => by have := hb'.2 (o.1 rfl); rw [this] at g; cases g) (fun g => by
        have hbt : b = true := by simpa using g
        exact yes ⟨fun _ => hb'.1 hbt, fun h => absurd h (by simp), fun h => absurd h (by simp)⟩ _ _ _ _ (he hbt))⟩
    · exact ⟨_, rfl, ⟨⟨by simp, by simp⟩, hf⟩, fun n L t' K b hb' he => bcase_mk (fun g => no fun o => by have := hb'.2 (o.2.1 (by simp)); rw [this] at g; cases g) (fun g => by
        have hbt : b = true := by simpa using g
        exact yes ⟨fun h => absurd h (by simp), fun _ => hb'.1 hbt, fun h => absurd h (by simp)⟩ _ _ _ _ (he hbt))⟩
    · exact ⟨_, rfl, ⟨⟨by simp, by simp⟩, hf⟩, fun n L t' K b hb' he => bcase_mk (fun g => no fun o => by have := hb'.2 (o.2.1 (by simp)); rw [this] at g; cases g) (fun g => by
        have hbt : b = true := by simpa using g
        exact yes ⟨fun h => absurd h (by simp), fun _ => hb'.1 hbt, fun h => absurd h (by simp)⟩ _ _ _ _ (he hbt))⟩
    · exact ⟨_, rfl, ⟨⟨by simp, by simp⟩, hf⟩, fun n L t' K b hb' he => bcase_mk (fun g => no fun o => by have := hb'.2 (o.2.1 (by simp)); rw [this] at g; cases g) (fun g => by
        have hbt : b = true := by simpa using g
        exact yes ⟨fun h => absurd h (by simp), fun _ => hb'.1 hbt, fun h => absurd h (by simp)⟩ _ _ _ _ (he hbt))⟩
    · exact ⟨_, rfl, ⟨⟨by simp, by simp⟩, hf⟩, fun n L t' K b hb' he => bcase_mk (fun g => no fun o => by have := hb'.2 (o.2.1 (by simp)); rw [this] at g; cases g) (fun g => by
        have hbt : b = true := by simpa using g
        exact yes ⟨fun h => absurd h (by simp), fun _ => hb'.1 hbt, fun h => absurd h (by simp)⟩ _ _ _ _ (he hbt))⟩
    · exact yes ⟨fun h => absurd h (by simp), fun h => absurd h (by simp), fun h => absurd h (by simp)⟩ _ _ _ _ ⟨rfl, rfl, rfl, rfl⟩
    · exact ⟨hft, bcase_mk (fun g => no fun o => by have : wordB tk = true := o.2.2 (by simp); rw [this] at g; cases g) (fun g => by
        have hw : wordB tk = true := by simpa using g
        exact yes ⟨fun h => absurd h (by simp), fun h => absurd h (by simp), fun _ => hw⟩ _ _ _ _ ⟨rfl, (one kId tk hw).symm, rfl, rfl⟩)⟩
    · exact yes ⟨fun h => absurd h (by simp), fun h => absurd h (by simp), fun h => absurd h (by simp)⟩ _ _ _ _ ⟨rfl, rfl, rfl, rfl⟩
    · exact ⟨_, rfl, hfh, yes ⟨fun h => absurd h (by simp), fun h => absurd h (by simp), fun h => absurd h (by simp)⟩ _ _ _ _ ⟨rfl, hh1.symm, rfl, rfl⟩⟩
    · exact ⟨_, rfl, hfh, hft, bcase_mk (fun g => no fun o => by have : wordB tk = true := o.2.2 (by simp); rw [this] at g; cases g) (fun g => by
        have hw : wordB tk = true := by simpa using g
        exact yes ⟨fun h => absurd h (by simp), fun h => absurd h (by simp), fun _ => hw⟩ _ _ _ _ ⟨rfl, (hh2 tk hw).symm, rfl, rfl⟩)⟩
    · exact ⟨_, rfl, hfh, hft, bcase_mk (fun g => no fun o => by have : wordB tk = true := o.2.2 (by simp); rw [this] at g; cases g) (fun g => by
        have hw : wordB tk = true := by simpa using g
        exact yes ⟨fun h => absurd h (by simp), fun h => absurd h (by simp), fun _ => hw⟩ _ _ _ _ ⟨rfl, (hh2 tk hw).symm, rfl, rfl⟩)⟩
    · exact yes ⟨fun h => absurd h (by simp), fun h => absurd h (by simp), fun h => absurd h (by simp)⟩ _ _ _ _ ⟨rfl, rfl, rfl, rfl⟩
    · exact yes ⟨fun h => absurd h (by simp), fun h => absurd h (by simp), fun h => absurd h (by simp)⟩ _ _ _ _ ⟨rfl, rfl, rfl, rfl⟩
    · exact yes ⟨fun h => absurd h (by simp), fun h => absurd h (by simp), fun h => absurd h (by simp)⟩ _ _ _ _ ⟨rfl, rfl, rfl, rfl⟩
theorem cRs : ∀ N, PSound Tryz.prog 7 (ERs N) := by
  intro N
  induction N with
  | zero => exact pure_fn (c := Tryz.b7) mixed KS_ok gsound_nil Tryz.func7 rfl rfl Tryz.call7 fun al q ⟨n, l, t, k, _, h, _⟩ => absurd h (by omega)
  | succ N ih =>
    refine pure_fn (c := Tryz.b7) mixed KS_ok (gsound_pure ih gsound_nil) Tryz.func7 rfl rfl Tryz.call7 fun al q ⟨n, l, t, k, h1, hN, hq⟩ => ?_
    subst h1
    have kids : ∀ s0 : S, S.le s0 (stRs2 n l t k 0) → ALoop (aCode KS (GRs N) (cAt [1, 1, 1, 0, 1, 0, 0] Tryz.b7)) (rRs_b_k0 N q) s0 := fun s0 hs0 => by
      refine ALoop.introM [] (maskOf (stRs2 n l t k 0)) (fun j : Nat => stRs2 n l t k j) (fun j => j ≤ k.length) (fun j => k.length - j) ⟨[], 0, hs0, Nat.zero_le _⟩ fun j hj => ?_
      refine cast (rRs_c _ _ _ j N n l t k j q).symm fun hlim => bcase_dec (fun hlt => ?_) (fun hge => hq)
      rw [ksD_len] at hlt
      have hlt : j < k.length := by omega
      have hgd := ksD_getD k j hlt
      have hmem := List.getElem_mem hlt
      generalize k[j] = e at hgd hmem
      have hsz : SizeOf.sizeOf e < N := by
        have := List.sizeOf_lt_of_mem hmem
        simp only [El.mk.sizeOf_spec] at hN
        omega
      obtain ⟨en, ea, et, ek⟩ := e
      simp only [elD] at hgd
      simp only [Int.toNat_natCast, hgd, List.getD_cons_zero, List.drop_succ_cons, List.drop_zero, strD, slD]
      rw [ksD_len] at hlim
      refine ⟨⟨by omega, by rw [ksD_len]; omega⟩, rfl, Nat.le_refl _, ⟨by trivial, by trivial, by trivial, by trivial, trivial⟩, ⟨by omega, by rw [ksD_len]; omega⟩, rfl, Nat.le_refl _, ⟨by trivial, by trivial, by trivial, by trivial, trivial⟩, en, ea, et, ek, rfl, hsz, .mk [] (j + 1) ?_ hlt (by show k.length - (j + 1) < k.length - j; omega)⟩
      rw [wrap_succ hlt hlim]
      simp [S.le, sealAll, leL, leA, leO, jks, stRs2, elO, S.fits, fitsL, AV.fits, Ob.fits, mkS, mkI, mkB]
    refine cast (rRs N n l t k q).symm (bcaseF (by simp) (bcaseF (by simp) fun _ hlim => bcaseF (by simp) fun _ _ => bcaseF (by simp) (ALoop.introM [] (maskOf (stRs n l t k 0)) (fun i : Nat => stRs n l t k i) (fun i => i ≤ l.length) (fun i => l.length - i) ⟨[], 0, ?_, Nat.zero_le _⟩ fun i hi => ?_)))
    · simp [S.le, sealAll, leL, leA, leO, jks, stRs, elO, elA, S.fits, fitsL, AV.fits, Ob.fits, mkS, mkI, mkB]
    · refine cast (rRs_b _ _ _ i N n l t k i q).symm fun _ => bcase_dec (fun hlt => ?_) (fun hge => kids _ ?_)
      · rw [atsD_len] at hlt hlim
        have hlt : i < l.length := by omega
        have gi := atsD_getD l i hlt
        simp only [atD] at gi
        simp only [Int.toNat_natCast, gi, List.getD_cons_zero, List.drop_succ_cons, List.drop_zero, strD]
        refine ⟨⟨by omega, by rw [atsD_len]; omega⟩, rfl, Nat.le_refl _, ⟨by trivial, by trivial, trivial⟩, ⟨by omega, by rw [atsD_len]; omega⟩, rfl, Nat.le_refl _, ⟨by trivial, by trivial, trivial⟩, bcaseF (by simp) (.mk [] (i + 1) ?_ hlt (by show l.length - (i + 1) < l.length - i; omega))⟩
        rw [wrap_succ hlt hlim]
        simp [S.le, sealAll, leL, leA, leO, jks, stRs, elO, S.fits, fitsL, AV.fits, Ob.fits, mkS, mkI, mkB]
      · simp [S.le, sealAll, leL, leA, leO, jks, stRs2, elO, S.fits, fitsL, AV.fits, Ob.fits, mkS, mkI, mkB]
def ERsA : List AV → (AV → Prop) → Prop := fun al q => ∃ n l t k, al = [.ag [mkS n, .d (.sl (atsD l)), mkS t, .d (.sl (ksD k))], .ag [mkS n, .d (.sl (atsD l)), mkS t, .d (.sl (ksD k))]] ∧ q (mkB true)
theorem cRsA : PSound Tryz.prog 7 ERsA := (PSound.exA cRs).mono fun al q ⟨n, l, t, k, h1, h2⟩ => ⟨SizeOf.sizeOf (El.mk n l t k) + 1, n, l, t, k, h1, by omega, h2⟩
def szC (s : Sz) : AV := .ag [mkI .i64 (Sz.kind s), mkS (Sz.ty s), mkS (Sz.id s), mkS (Sz.from_ s), mkS (Sz.to_ s), mkS (Sz.show_ s), mkS (Sz.tok s), mkS (Sz.rea s), mkI .u32 (Sz.h s), mkI .i64 (Sz.ver s), mkB (Sz.rem s), AV.d (.sl (List.take (Int.toNat (if (20 : Int) < ((List.length (itsD (Sz.its s))) : Int) then (20 : Int) else ((List.length (itsD (Sz.its s))) : Int))) (itsD (Sz.its s))))]
noncomputable abbrev GSW : List (FuncId × En) := [(4, .pure ELive), (5, .pure EWriteA), (6, .pure EWriteA), (7, .pure ERsA), (8, .pure ESame), (9, .pure ERSm), (10, .pure ECounts)]
theorem rSW (s t : Sz) (q : AV → Prop) :
 (aCode KS GSW Tryz.b3 (kRet KS Tryz.f3.results.toList q) ⟨[szV s, szV t] ++ List.replicate (Tryz.f3.ntmps - 2) .jk, []⟩) = (
 (([] : List AV) = []) ∧ (
 ((List.length (itsD (Sz.its s))) ≤ LIM) →
 (IntKind.i64 = IntKind.i64) ∧
 (((0 : Int) ≤ (if (20 : Int) < ((List.length (itsD (Sz.its s))) : Int) then (20 : Int) else ((List.length (itsD (Sz.its s))) : Int))) ∧ ((if (20 : Int) < ((List.length (itsD (Sz.its s))) : Int) then (20 : Int) else ((List.length (itsD (Sz.its s))) : Int)) ≤ ((List.length (itsD (Sz.its s))) : Int))) ∧ (
 ((List.length (itsD (Sz.its t))) ≤ LIM) →
 (IntKind.i64 = IntKind.i64) ∧
 (((0 : Int) ≤ (if (20 : Int) < ((List.length (itsD (Sz.its t))) : Int) then (20 : Int) else ((List.length (itsD (Sz.its t))) : Int))) ∧ ((if (20 : Int) < ((List.length (itsD (Sz.its t))) : Int) then (20 : Int) else ((List.length (itsD (Sz.its t))) : Int)) ≤ ((List.length (itsD (Sz.its t))) : Int))) ∧ (
 ∃ (s_1 : Sz),
 ([szC s] = [szV s_1]) ∧
 (FitS s_1) ∧ (
 ∀ (n : BA),
 ∀ (l : List At),
 ∀ (t_1 : BA),
 ∀ (k : List El),
 ∀ (c : Int),
 ((writeM s_1) = (El.mk n l t_1 k, c)) →
 ∃ (s_2 : Sz),
 ([szC s] = [szV s_2]) ∧
 (FitS s_2) ∧ (
 ∀ (n_1 : BA),
 ∀ (l_1 : List At),
 ∀ (t_2 : BA),
 ∀ (k_1 : List El),
 ∀ (c_1 : Int),
 ((writeM s_2) = (El.mk n_1 l_1 t_2 k_1, c_1)) →
 bcase ((Sz.kind s) == (1 : Int)) (
 bcase (c == c_1) (
 ∃ (n_2 : ByteArray),
 ∃ (l_2 : List At),
 ∃ (t_3 : ByteArray),
 ∃ (k_2 : List El),
 ([elA n l t_1 k, elA n_1 l_1 t_2 k_1] = [elA n_2 l_2 t_3 k_2, elA n_2 l_2 t_3 k_2]) ∧ (
 ∃ (s_3 : Sz),
 ∃ (t_4 : Sz),
 ([szC s, szC t] = [szV s_3, szV t_4]) ∧ (
 ∃ (s_4 : Sz),
 ∃ (t_5 : Sz),
 ([szC s, szC t] = [szV s_4, szV t_5]) ∧
 (((List.length (Sz.its s_4)) ≤ LIM) ∧ ((List.length (Sz.its t_5)) ≤ LIM)) ∧
 bcase ((sameM s_3 t_4) == (sameM s_4 t_5)) (
 ∃ (s_5 : Sz),
 ([szC s] = [szV s_5]) ∧
 q (mkB ((countsM s_5) == true))) (
 q (mkB false))))) (
 q (mkB false))) (
 bcase ((Sz.kind s) == (2 : Int)) (
 bcase (c == c_1) (
 ∃ (n_2 : ByteArray),
 ∃ (l_2 : List At),
 ∃ (t_3 : ByteArray),
 ∃ (k_2 : List El),
 ([elA n l t_1 k, elA n_1 l_1 t_2 k_1] = [elA n_2 l_2 t_3 k_2, elA n_2 l_2 t_3 k_2]) ∧ (
 ∃ (s_3 : Sz),
 ∃ (t_4 : Sz),
 ([szC s, szC t] = [szV s_3, szV t_4]) ∧ (
 ∃ (s_4 : Sz),
 ∃ (t_5 : Sz),
 ([szC s, szC t] = [szV s_4, szV t_5]) ∧
 (((List.length (Sz.its s_4)) ≤ LIM) ∧ ((List.length (Sz.its t_5)) ≤ LIM)) ∧
 bcase ((sameM s_3 t_4) == (sameM s_4 t_5)) (
 ∃ (s_5 : Sz),
 ([szC s] = [szV s_5]) ∧
 q (mkB ((countsM s_5) == true))) (
 q (mkB false))))) (
 q (mkB false))) (
 bcase ((Sz.kind s) == (3 : Int)) (
 bcase (c == c_1) (
 ∃ (n_2 : ByteArray),
 ∃ (l_2 : List At),
 ∃ (t_3 : ByteArray),
 ∃ (k_2 : List El),
 ([elA n l t_1 k, elA n_1 l_1 t_2 k_1] = [elA n_2 l_2 t_3 k_2, elA n_2 l_2 t_3 k_2]) ∧ (
 ∃ (s_3 : Sz),
 ∃ (t_4 : Sz),
 ([szC s, szC t] = [szV s_3, szV t_4]) ∧ (
 ∃ (s_4 : Sz),
 ∃ (t_5 : Sz),
 ([szC s, szC t] = [szV s_4, szV t_5]) ∧
 (((List.length (Sz.its s_4)) ≤ LIM) ∧ ((List.length (Sz.its t_5)) ≤ LIM)) ∧
 bcase ((sameM s_3 t_4) == (sameM s_4 t_5)) (
 ∃ (s_5 : Sz),
 ([szC s] = [szV s_5]) ∧
 q (mkB ((countsM s_5) == true))) (
 q (mkB false))))) (
 q (mkB false))) (
 bcase ((Sz.kind s) == (4 : Int)) (
 bcase (c == c_1) (
 ∃ (n_2 : ByteArray),
 ∃ (l_2 : List At),
 ∃ (t_3 : ByteArray),
 ∃ (k_2 : List El),
 ([elA n l t_1 k, elA n_1 l_1 t_2 k_1] = [elA n_2 l_2 t_3 k_2, elA n_2 l_2 t_3 k_2]) ∧ (
 ∃ (s_3 : Sz),
 ∃ (t_4 : Sz),
 ([szC s, szC t] = [szV s_3, szV t_4]) ∧ (
 ∃ (s_4 : Sz),
 ∃ (t_5 : Sz),
 ([szC s, szC t] = [szV s_4, szV t_5]) ∧
 (((List.length (Sz.its s_4)) ≤ LIM) ∧ ((List.length (Sz.its t_5)) ≤ LIM)) ∧
 bcase ((sameM s_3 t_4) == (sameM s_4 t_5)) (
 ∃ (s_5 : Sz),
 ([szC s] = [szV s_5]) ∧
 q (mkB ((countsM s_5) == true))) (
 q (mkB false))))) (
 q (mkB false))) (
 bcase (c == c_1) (
 ∃ (n_2 : ByteArray),
 ∃ (l_2 : List At),
 ∃ (t_3 : ByteArray),
 ∃ (k_2 : List El),
 ([elA n l t_1 k, elA n_1 l_1 t_2 k_1] = [elA n_2 l_2 t_3 k_2, elA n_2 l_2 t_3 k_2]) ∧ (
 ∃ (s_3 : Sz),
 ∃ (t_4 : Sz),
 ([szC s, szC t] = [szV s_3, szV t_4]) ∧ (
 ∃ (s_4 : Sz),
 ∃ (t_5 : Sz),
 ([szC s, szC t] = [szV s_4, szV t_5]) ∧
 (((List.length (Sz.its s_4)) ≤ LIM) ∧ ((List.length (Sz.its t_5)) ≤ LIM)) ∧
 bcase ((sameM s_3 t_4) == (sameM s_4 t_5)) (
 ∃ (s_5 : Sz),
 ([szC s] = [szV s_5]) ∧
 q (mkB ((countsM s_5) == ((Sz.kind s) == (5 : Int))))) (
 q (mkB false))))) (
 q (mkB false)))))))))))) := by kernel_rfl
theorem szC_eq (s : Sz) : szC s = szV { s with its := s.its.take 20 } := by
  have e : List.take (Int.toNat (if (20 : Int) < ((itsD s.its).length : Int) then 20 else ((itsD s.its).length : Int))) (itsD s.its) = itsD (s.its.take 20) := by
    unfold itsD
    rw [List.length_map, List.map_take]
    split
    · rfl
    · rename_i h
      rw [Int.toNat_natCast, List.take_of_length_le (by simp), List.take_of_length_le (by simp; omega)]
  unfold szC
  rw [e]; rfl
theorem fit20 {s : Sz} (hs : FitS s) : FitS { s with its := s.its.take 20 } := ⟨by show (s.its.take 20).length ≤ LIM; have := hs.its; rw [List.length_take]; omega, fun x hx => hs.it x (List.mem_of_mem_take hx), hs.ty, hs.id, hs.from_, hs.to_, hs.show_, hs.tok, hs.rea, hs.h⟩
def FSW : List AV → Option (Prop × AV) := fun al => match al with
  | [x, y] => some (∃ s t, x = szV s ∧ y = szV t ∧ FitS s ∧ FitS t, mkB true)
  | _ => none
theorem cSW : PSound Tryz.prog 3 (detE FSW) := by
  refine det_fn (c := Tryz.b3) mixed KS_ok (gsound_pure cLive (gsound_pure cWriteA (gsound_pure cRW (gsound_pure cRsA (gsound_pure cSame (gsound_pure cRSm (gsound_pure cCounts gsound_nil))))))) Tryz.func3 rfl rfl Tryz.call3 fun al p r q hF hp hq => ?_
  unfold FSW at hF; split at hF <;> cases hF
  obtain ⟨s, t, rfl, rfl, hs, ht⟩ := hp
  have hs' := fit20 hs
  have ht' := fit20 ht
  have e1 : [szC s] = [szV { s with its := s.its.take 20 }] := by rw [szC_eq]
  have e2 : [szC s, szC t] = [szV { s with its := s.its.take 20 }, szV { t with its := t.its.take 20 }] := by rw [szC_eq, szC_eq]
  refine cast (rSW s t q).symm ⟨rfl, fun _ => ⟨rfl, by split <;> omega, fun _ => ⟨rfl, by split <;> omega, _, e1, hs', fun n l u k c hw => ⟨_, e1, hs', fun n1 l1 u1 k1 c1 hw1 => ?_⟩⟩⟩⟩
  have hh := hw.symm.trans hw1
  simp only [Prod.mk.injEq, El.mk.injEq] at hh
  obtain ⟨⟨rfl, rfl, rfl, rfl⟩, rfl⟩ := hh
  have cy : (1 ≤ s.kind ∧ s.kind ≤ 5) → countsM { s with its := s.its.take 20 } = true := fun ⟨h1, h2⟩ => by
    unfold countsM; simp only [decide_eq_true h1, decide_eq_true h2, Bool.and_self]
  have cn : ¬ (1 ≤ s.kind ∧ s.kind ≤ 5) → countsM { s with its := s.its.take 20 } = false := fun h => by
    unfold countsM
    by_cases h1 : 1 ≤ s.kind
    · rw [decide_eq_false (show ¬ s.kind ≤ 5 from fun h2 => h ⟨h1, h2⟩), Bool.and_false]
    · rw [decide_eq_false (show ¬ 1 ≤ s.kind from h1), Bool.false_and]
  have core : ∀ b : Bool, countsM { s with its := s.its.take 20 } = b → bcase (c == c) (∃ n_2 l_2 t_3 k_2, [elA n l u k, elA n l u k] = [elA n_2 l_2 t_3 k_2, elA n_2 l_2 t_3 k_2] ∧ ∃ s_3 t_4, [szC s, szC t] = [szV s_3, szV t_4] ∧ ∃ s_4 t_5, [szC s, szC t] = [szV s_4, szV t_5] ∧ (s_4.its.length ≤ LIM ∧ t_5.its.length ≤ LIM) ∧ bcase (sameM s_3 t_4 == sameM s_4 t_5) (∃ s_5, [szC s] = [szV s_5] ∧ q (mkB (countsM s_5 == b))) (q (mkB false))) (q (mkB false)) := fun b hb =>
    bcaseT (by simp) ⟨_, _, _, _, rfl, _, _, e2, _, _, e2, ⟨hs'.its, ht'.its⟩, bcaseT (by simp) ⟨_, e1, by rw [hb, beq_self_eq_true]; exact hq⟩⟩
  refine bcase_mk (fun g => core true (cy ?_)) (fun g1 => bcase_mk (fun g => core true (cy ?_)) (fun g2 => bcase_mk (fun g => core true (cy ?_)) (fun g3 => bcase_mk (fun g => core true (cy ?_)) (fun g4 => ?_))))
  · have : s.kind = 1 := by simpa using g
    omega
  · have : s.kind = 2 := by simpa using g
    omega
  · have : s.kind = 3 := by simpa using g
    omega
  · have : s.kind = 4 := by simpa using g
    omega
  · have e : countsM { s with its := s.its.take 20 } = (s.kind == (5 : Int)) := by
      simp only [beq_eq_false_iff_ne] at *
      by_cases h5 : s.kind = 5
      · rw [cy (by omega)]; simp [h5]
      · rw [cn (by omega)]; simp [h5]
    exact core _ e
theorem hSW : ∀ as', TyArgs Tryz.prog Tryz.f3.params.toList as' → ∃ p, FSW as' = some (p, mkB true) ∧ p := by
  intro as' h
  rw [Tryz.params3] at h
  obtain ⟨a, b, rfl, ha, hb⟩ := tyargs2 h
  obtain ⟨s, rfl, hs⟩ := arg_sz ha
  obtain ⟨t, rfl, ht⟩ := arg_sz hb
  exact ⟨_, rfl, s, t, rfl, rfl, hs, ht⟩
end Go.Proofs.YtfdmmgiefhhnoaaGreatDoor
