import Derived.Test.YtldcalmoboeeiaaDoorRosLaw1
import Derived.Test.YtldcalmoboeeiaaDoorFrame4
set_option linter.unusedSimpArgs false
set_option linter.unusedVariables false
namespace Go.Proofs.YtldcalmoboeeiaaDoor
open Go Go.AM Go.RowKit
attribute [local irreducible] aCode aUnr aUnS aOut
def unBools (es : List (List D)) : List Bool := es.map fun c => boolD (c.getD 0 d0)
theorem boolsD_getD (l : List Bool) (n : Nat) (h : n < l.length) : (boolsD l).getD n [] = [.v (.bool l[n])] := by
  simp [boolsD, List.getD_eq_getElem?_getD, h]
theorem boolsD_len (l : List Bool) : (boolsD l).length = l.length := by simp [boolsD]
def FFull : List AV → Option (Prop × AV) := fun al => match al with
  | [.d (.sl es), .d (.v (.int .i64 g))] => some (es = boolsD (unBools es), mkB true)
  | _ => none
theorem cFull : PSound Tryd.prog 4 (detE FFull) := by
  refine det_fn (c := Tryd.b4) mixed Tryd.K_ok gfull_ok Tryd.func4 rfl rfl Tryd.call4 fun al p r q hF hp hq => ?_
  unfold FFull at hF; split at hF <;> cases hF
  rename_i es g
  generalize unBools es = l at hp
  subst hp
  refine cast (rFull l g q).symm ⟨rfl, rfl, rfl, rfl, rfl, rfl, ALoop.introM [] (maskOf (stF l g 1 [] [] (v0 u8))) (fun s : Nat × Sds × Nms × Vss => stF l g s.1 s.2.1 s.2.2.1 s.2.2.2) (fun s => InvF s.1 s.2.2.1) (fun s => 8 - s.1) ⟨[], (1, [], [], v0 u8), ?_, ⟨by decide, by decide, by simp [uniq], fun c => rfl⟩⟩ ?_⟩
  · simp [S.le, sealAll, leL, leA, leO, jks, stF, lawO, S.fits, fitsL, AV.fits, Ob.fits, KK.isSy, mkSS, mkS, mkI, mkB, sdE, nmE, encM, vsE, v0, u8, sK, nAnn, nBob, nCy, nDee, nEve, nFlo, nGus, nHal]
  · rintro ⟨i, sd, nm, vs⟩ hI
    have hI : InvF i nm := hI
    refine cast (rFull_b _ _ _ _ l g i sd nm vs q).symm (bcase_dec (fun hlt hl => ?_) (fun hge => ?_))
    · have hlt : i < 8 := by omega
      have hw : IntKind.i64.wrap ((i : Int) + 1) = ((i + 1 : Nat) : Int) := by rw [IntWalk.i64_in _ (by omega)]; omega
      have hu : i < u8.length := hlt
      have hgd := strsD_getD u8 i hu
      have ec : strD (.v (.string (u8.getD i ⟨#[]⟩))) = u8.getD i ⟨#[]⟩ := rfl
      have go : ∀ r : Out, (r.e = if i = 7 then 9 else 0) ∧ InvF (i + 1) r.nm → ∀ (st : Nat × Sds × Nms × Vss → S) (inv : Nat × Sds × Nms × Vss → Prop) (μ : Nat × Sds × Nms × Vss → Nat) (s' : S), (FamNext st inv μ (i, sd, nm, vs) s') →
          bcase (!((r.e == 0) == decide ((i : Int) ≤ 6))) (q (mkB false)) (bcase (decide ((i : Int) > 6)) (bcase (r.e != 9) (q (mkB false)) (FamNext st inv μ (i, sd, nm, vs) s')) (FamNext st inv μ (i, sd, nm, vs) s')) := by
        intro r ⟨he, _⟩ st inv μ s' hF
        by_cases e7 : i = 7
        · subst e7
          rw [he]
          exact hF
        · rw [if_neg e7] at he
          have e1 : decide ((i : Int) ≤ 6) = true := by simp; omega
          have e2 : decide ((i : Int) > 6) = false := by simp; omega
          rw [he, e1, e2]
          exact hF
      have nx : ∀ (r : Out) (o : List Ob), InvF (i + 1) r.nm → FamNext (fun s : Nat × Sds × Nms × Vss => stF l g s.1 s.2.1 s.2.2.1 s.2.2.2) (fun s => InvF s.1 s.2.2.1) (fun s => 8 - s.1) (i, sd, nm, vs) ⟨[.d (.sl (boolsD l)), mkI .i64 g, .jk, .jk, mkB false, .rf 17 0, mkSS u8, mkI .i64 (IntKind.wrap .i64 ((i : Int) + 1))] ++ jks 97, lawO u8 r.sd r.nm r.vs ++ o⟩ := fun r o hr => by
        refine .mk [] (i + 1, r.sd, r.nm, r.vs) ?_ hr (by show 8 - (i + 1) < 8 - i; omega)
        rw [hw]
        simp [S.le, sealAll, leL, leA, leO, jks, stF, lawO, S.fits, fitsL, AV.fits, Ob.fits, KK.isSy, mkSS, mkS, mkI, mkB]
      simp only [Int.toNat_natCast, hgd, List.getD_cons_zero, ec]
      have nmB : ∀ r, nameO u8 sd nm vs nAnn (u8.getD i ⟨#[]⟩) wX = r → (r.e = if i = 7 then 9 else 0) ∧ InvF (i + 1) r.nm := fun r hr => full_name hI hlt sd vs hr
      have acB : ∀ r, actO u8 sd nm vs nAnn (u8.getD i ⟨#[]⟩) 1 = r → (r.e = if i = 7 then 9 else 0) ∧ InvF (i + 1) r.nm := fun r hr => full_act hI hlt sd vs hr
      have cond : ((0 : Int) ≤ (i : Int)) ∧ ((i : Int) < 8) := ⟨by omega, by omega⟩
      refine bcase_dec (fun hl2 => ?_) (fun _ => ⟨cond, by trivial, Nat.le_refl _, by trivial, u8, sd, nm, vs, nAnn, _, wX, rfl, rfl, fun r hr => ⟨by trivial, go r (nmB r hr) _ _ _ _ (nx r [.gone, .gone] (nmB r hr).2)⟩⟩)
      have hl3 : i < l.length := by rw [boolsD_len] at hl2; omega
      have hb := boolsD_getD l i hl3
      simp only [hb, List.getD_cons_zero]
      refine ⟨⟨by omega, hl2⟩, by trivial, Nat.le_refl _, by trivial, bcase_mk (fun _ => ?_) (fun _ => ?_)⟩
      · exact ⟨cond, by trivial, Nat.le_refl _, by trivial, u8, sd, nm, vs, nAnn, _, 1, rfl, rfl, fun r hr => ⟨by trivial, go r (acB r hr) _ _ _ _ (nx r [.gone, .gone] (acB r hr).2)⟩⟩
      · exact ⟨cond, by trivial, Nat.le_refl _, by trivial, u8, sd, nm, vs, nAnn, _, wX, rfl, rfl, fun r hr => ⟨by trivial, go r (nmB r hr) _ _ _ _ (nx r [.gone, .gone] (nmB r hr).2)⟩⟩
    · have e : i = 8 := by have := hI.hi; omega
      subst e
      obtain ⟨m, hm, em⟩ := modK_nat (n := 6) (by decide) g
      have em : IntKind.wrap .i64 (Int.tmod (IntKind.wrap .u64 g) 6) = (m : Int) := em
      have hw : IntKind.i64.wrap (1 + (m : Int)) = ((1 + m : Nat) : Int) := by rw [IntWalk.i64_in _ (by omega)]; omega
      have hu : 1 + m < u8.length := by show 1 + m < 8; omega
      have hgd := strsD_getD u8 (1 + m) hu
      have ec : strD (.v (.string (u8.getD (1 + m) ⟨#[]⟩))) = u8.getD (1 + m) ⟨#[]⟩ := rfl
      simp only [em, hw, Int.toNat_natCast, hgd, List.getD_cons_zero, ec]
      refine ⟨by decide, ⟨by omega, by omega⟩, by trivial, Nat.le_refl _, by trivial, u8, sd, nm, vs, nAnn, _, rfl, rfl, fun r hr => ⟨by trivial, by decide, by trivial, Nat.le_refl _, by trivial, u8, r.sd, r.nm, r.vs, nAnn, nHal, wX, rfl, rfl, fun r1 hr1 => ⟨by trivial, u8, r1.sd, r1.nm, r1.vs, nAnn, rfl, rfl, by kernel_rfl, fun l1 n1 hl1 hn1 => ⟨by trivial, ?_⟩⟩⟩⟩
      obtain ⟨e1, e2, e3⟩ := full_end hI hm sd vs hr hr1
      have e4 : ((itsD l1).length : Int) = 6 := by rw [itsD_len, ← hl1, e3]; rfl
      rw [e1, e2]
      refine fun _ => ?_
      rw [e4]
      exact hq
theorem ty_args2 {P : Program} {t u : TypeId} {al : List AV} (h : TyArgs P [t, u] al) : ∃ a b, al = [a, b] ∧ (∃ ds, Ty P 12 t ds ∧ a = argAV (aggB P t) ds) ∧ ∃ ds, Ty P 12 u ds ∧ b = argAV (aggB P u) ds := by
  match al, h with
  | [a, b], ⟨ha, hb, _⟩ => exact ⟨a, b, rfl, ha, hb⟩
theorem ty_bools {P : Program} {n : Nat} {es : List (List D)} {e : TypeId} (hu : P.underlying e = some .bool) (h : ∀ c ∈ es, Ty P (n + 1) e c) : ∃ l : List Bool, es = boolsD l := by
  obtain ⟨l, h, _⟩ := list_of (fun b : Bool => [D.v (.bool b)]) (fun _ => True) es fun c hc => by
    have := h c hc
    unfold Ty at this; rw [hu] at this
    obtain ⟨b, e⟩ := this
    exact ⟨b, e, trivial⟩
  exact ⟨l, h⟩
theorem arg_bools {P : Program} {t e : TypeId} {a : AV} (hu : P.underlying t = some (.slice e)) (he : P.underlying e = some .bool) (h : ∃ ds, Ty P 12 t ds ∧ a = argAV (aggB P t) ds) : ∃ l : List Bool, a = .d (.sl (boolsD l)) := by
  obtain ⟨es, rfl, hl, hs⟩ := arg_slice hu h
  obtain ⟨l, rfl⟩ := ty_bools he hs
  exact ⟨l, rfl⟩
theorem hFull : ∀ al, TyArgs Tryd.prog Tryd.f4.params.toList al → ∃ p, FFull al = some (p, mkB true) ∧ p := by
  intro al h
  rw [Tryd.params4] at h
  obtain ⟨a, b, rfl, ha, hb⟩ := ty_args2 h
  obtain ⟨l, rfl⟩ := arg_bools Tryd.underlying48 Tryd.underlying4 ha
  obtain ⟨g, rfl, _⟩ := arg_int Tryd.underlying3 hb
  refine ⟨_, rfl, ?_⟩
  simp [boolsD, unBools, boolD]
end Go.Proofs.YtldcalmoboeeiaaDoor
