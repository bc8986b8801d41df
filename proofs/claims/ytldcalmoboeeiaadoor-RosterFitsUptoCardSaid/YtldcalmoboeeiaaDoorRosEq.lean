import Derived.Test.YtldcalmoboeeiaaDoorRosAct
set_option linter.unusedSimpArgs false
set_option linter.unusedVariables false
namespace Go.Proofs.YtldcalmoboeeiaaDoor
open Go Go.AM Go.RowKit
attribute [local irreducible] aCode aUnr aUnS aOut
noncomputable def rEq_k0 (q : AV → Prop) : Kont := kBlk (0 : Nat) (kSeq (aCode Tryd.K [] (cAt [1, 1, 1] Tryd.b63) (kRet Tryd.K (Array.toList (Func.results Tryd.f63)) q)) (kRet Tryd.K (Array.toList (Func.results Tryd.f63)) q))
theorem rEq (a b : List It) (q : AV → Prop) :
  (aCode Tryd.K [] Tryd.b63 (kRet Tryd.K Tryd.f63.results.toList q) ⟨[.d (.sl (itsD a)), .d (.sl (itsD b))] ++ List.replicate (Tryd.f63.ntmps - 2) .jk, []⟩) = (
  ((List.length (itsD a)) ≤ LIM) →
  ((List.length (itsD b)) ≤ LIM) →
  bcase (((List.length (itsD a)) : Int) != ((List.length (itsD b)) : Int)) (
   q (mkB false)) (
   ((List.length (itsD a)) ≤ LIM) →
   ALoop (aCode Tryd.K [] (cAt [1, 1, 0, 1, 0, 0] Tryd.b63)) (rEq_k0 q) ⟨[AV.d (.sl (itsD a)), AV.d (.sl (itsD b)), AV.jk, AV.jk, mkB false, AV.jk, AV.d (.sl (itsD a)), mkI .i64 ((List.length (itsD a)) : Int), AV.d (.sl (itsD b)), mkI .i64 ((List.length (itsD b)) : Int), mkB false, AV.d (.sl (itsD a)), mkI .i64 ((List.length (itsD a)) : Int), mkI .i64 (0 : Int), AV.jk, AV.jk, AV.jk, AV.jk, AV.jk, AV.jk, AV.jk, AV.jk, AV.jk, AV.jk, AV.jk, AV.jk], []⟩)) := by kernel_rfl
def stE (a b : List It) (i : Int) : S := ⟨[.d (.sl (itsD a)), .d (.sl (itsD b))] ++ jks 10 ++ [mkI .i64 a.length, mkI .i64 i] ++ jks 12, []⟩
theorem rEq_b {ι : Type} (st : ι → S) (inv : ι → Prop) (μ : ι → Nat) (k : ι) (a b : List It) (i : Int) (q : AV → Prop) :
  (aCode Tryd.K [] (cAt [1, 1, 0, 1, 0, 0] Tryd.b63) (kFamM [] (maskOf (stE a b i)) st inv μ k (rEq_k0 q)) (stE a b i)) = (
  bcase (decide (i < ((List.length a) : Int))) (
   (((0 : Int) ≤ i) ∧ (i < ((List.length (itsD a)) : Int))) ∧
   ((List.length (List.getD (itsD a) (Int.toNat i) [])) = 4) ∧
   (4 ≤ (List.length (List.getD (itsD a) (Int.toNat i) []))) ∧
   (((List.getD (List.getD (itsD a) (Int.toNat i) []) (0 : Nat) d0) = (D.v (.string (strD (List.getD (List.getD (itsD a) (Int.toNat i) []) (0 : Nat) d0))))) ∧ (((List.getD (List.drop (1 : Nat) (List.getD (itsD a) (Int.toNat i) [])) (0 : Nat) d0) = (D.v (.string (strD (List.getD (List.drop (1 : Nat) (List.getD (itsD a) (Int.toNat i) [])) (0 : Nat) d0))))) ∧ (((List.getD (List.drop (1 : Nat) (List.drop (1 : Nat) (List.getD (itsD a) (Int.toNat i) []))) (0 : Nat) d0) = (D.v (.int .i64 (intD (List.getD (List.drop (1 : Nat) (List.drop (1 : Nat) (List.getD (itsD a) (Int.toNat i) []))) (0 : Nat) d0))))) ∧ (((List.getD (List.drop (1 : Nat) (List.drop (1 : Nat) (List.drop (1 : Nat) (List.getD (itsD a) (Int.toNat i) [])))) (0 : Nat) d0) = (D.v (.bool (boolD (List.getD (List.drop (1 : Nat) (List.drop (1 : Nat) (List.drop (1 : Nat) (List.getD (itsD a) (Int.toNat i) [])))) (0 : Nat) d0))))) ∧ True)))) ∧
   (((0 : Int) ≤ i) ∧ (i < ((List.length (itsD b)) : Int))) ∧
   ((List.length (List.getD (itsD b) (Int.toNat i) [])) = 4) ∧
   (4 ≤ (List.length (List.getD (itsD b) (Int.toNat i) []))) ∧
   (((List.getD (List.getD (itsD b) (Int.toNat i) []) (0 : Nat) d0) = (D.v (.string (strD (List.getD (List.getD (itsD b) (Int.toNat i) []) (0 : Nat) d0))))) ∧ (((List.getD (List.drop (1 : Nat) (List.getD (itsD b) (Int.toNat i) [])) (0 : Nat) d0) = (D.v (.string (strD (List.getD (List.drop (1 : Nat) (List.getD (itsD b) (Int.toNat i) [])) (0 : Nat) d0))))) ∧ (((List.getD (List.drop (1 : Nat) (List.drop (1 : Nat) (List.getD (itsD b) (Int.toNat i) []))) (0 : Nat) d0) = (D.v (.int .i64 (intD (List.getD (List.drop (1 : Nat) (List.drop (1 : Nat) (List.getD (itsD b) (Int.toNat i) []))) (0 : Nat) d0))))) ∧ (((List.getD (List.drop (1 : Nat) (List.drop (1 : Nat) (List.drop (1 : Nat) (List.getD (itsD b) (Int.toNat i) [])))) (0 : Nat) d0) = (D.v (.bool (boolD (List.getD (List.drop (1 : Nat) (List.drop (1 : Nat) (List.drop (1 : Nat) (List.getD (itsD b) (Int.toNat i) [])))) (0 : Nat) d0))))) ∧ True)))) ∧
   bcase (!(Bool.and (decide ((strD (List.getD (List.getD (itsD a) (Int.toNat i) []) (0 : Nat) d0)) = (strD (List.getD (List.getD (itsD b) (Int.toNat i) []) (0 : Nat) d0)))) (Bool.and (decide ((strD (List.getD (List.drop (1 : Nat) (List.getD (itsD a) (Int.toNat i) [])) (0 : Nat) d0)) = (strD (List.getD (List.drop (1 : Nat) (List.getD (itsD b) (Int.toNat i) [])) (0 : Nat) d0)))) (Bool.and ((intD (List.getD (List.drop (1 : Nat) (List.drop (1 : Nat) (List.getD (itsD a) (Int.toNat i) []))) (0 : Nat) d0)) == (intD (List.getD (List.drop (1 : Nat) (List.drop (1 : Nat) (List.getD (itsD b) (Int.toNat i) []))) (0 : Nat) d0))) (Bool.and ((boolD (List.getD (List.drop (1 : Nat) (List.drop (1 : Nat) (List.drop (1 : Nat) (List.getD (itsD a) (Int.toNat i) [])))) (0 : Nat) d0)) == (boolD (List.getD (List.drop (1 : Nat) (List.drop (1 : Nat) (List.drop (1 : Nat) (List.getD (itsD b) (Int.toNat i) [])))) (0 : Nat) d0))) true))))) (
    q (mkB false)) (
    FamNext st inv μ k ⟨[AV.d (.sl (itsD a)), AV.d (.sl (itsD b)), AV.jk, AV.jk, AV.jk, AV.jk, AV.jk, AV.jk, AV.jk, AV.jk, AV.jk, AV.jk, mkI .i64 ((List.length a) : Int), mkI .i64 (IntKind.wrap .i64 (i + (1 : Int))), AV.jk, AV.jk, AV.jk, AV.jk, AV.jk, AV.jk, AV.jk, AV.jk, AV.jk, AV.jk, AV.jk, AV.jk], []⟩)) (
   q (mkB true))) := by kernel_rfl
def unIt (c : List D) : It := ⟨strD (c.getD 0 d0), strD (c.getD 1 d0), intD (c.getD 2 d0), boolD (c.getD 3 d0)⟩
def unIts (l : List (List D)) : List It := l.map unIt
theorem unIts_its (l : List It) : unIts (itsD l) = l := by
  unfold unIts itsD
  rw [List.map_map]
  exact (List.map_congr_left fun x _ => rfl).trans (List.map_id l)
theorem itEq (x y : It) : (Bool.and (decide (x.c = y.c)) (Bool.and (decide (x.n = y.n)) (Bool.and (x.s == y.s) (Bool.and (x.a == y.a) true)))) = decide (x = y) := by
  obtain ⟨a, b, c, d⟩ := x
  obtain ⟨a', b', c', d'⟩ := y
  rw [Bool.eq_iff_iff]
  simp
theorem itsD_getD (l : List It) (n : Nat) (h : n < l.length) : (itsD l).getD n [] = itD l[n] := by
  simp [itsD, List.getD_eq_getElem?_getD, h]
def FEq : List AV → Option (Prop × AV) := fun al => match al with
  | [.d (.sl x), .d (.sl y)] => some (x = itsD (unIts x) ∧ y = itsD (unIts y), mkB (decide (unIts x = unIts y)))
  | _ => none
theorem cEq : PSound Tryd.prog 63 (detE FEq) := by
  refine det_fn (c := Tryd.b63) mixed Tryd.K_ok gsound_nil Tryd.func63 rfl rfl Tryd.call63 fun al p r q hF hp hq => ?_
  unfold FEq at hF; split at hF <;> cases hF
  rename_i x y
  obtain ⟨h1, h2⟩ := hp
  generalize unIts x = a at h1 hq
  generalize unIts y = b at h2 hq
  subst h1 h2
  refine cast (rEq a b q).symm fun hla _ => bcase_mk (fun hne => ?_) (fun heq _ => ?_)
  · have hne : ¬ a = b := fun e => by subst e; simp at hne
    simpa [hne] using hq
  · have hlen : a.length = b.length := by
      rw [itsD_len, itsD_len] at heq
      have : (a.length : Int) = b.length := by simpa using heq
      omega
    rw [itsD_len] at hla
    refine ALoop.introM [] (maskOf (stE a b 0)) (fun n : Nat => stE a b n) (fun n => n ≤ a.length ∧ ∀ k, k < n → a[k]? = b[k]?) (fun n => a.length - n) ⟨[], 0, ?_, Nat.zero_le _, by simp⟩ fun n ⟨hn, hI⟩ => ?_
    · simp [S.le, sealAll, leL, jks, stE, itsD_len]
    · refine cast (rEq_b _ _ _ n a b n q).symm (bcase_dec (fun hlt => ?_) (fun hge => ?_))
      · have hlt : n < a.length := by omega
        have hltb : n < b.length := by omega
        have ga := itsD_getD a n hlt
        have gb := itsD_getD b n hltb
        simp only [Int.toNat_natCast, ga, gb]
        refine ⟨⟨by omega, by rw [itsD_len]; omega⟩, rfl, Nat.le_refl _, ⟨rfl, rfl, rfl, rfl, trivial⟩, ⟨by omega, by rw [itsD_len]; omega⟩, rfl, Nat.le_refl _, ⟨rfl, rfl, rfl, rfl, trivial⟩, ?_⟩
        show bcase (!(Bool.and (decide (a[n].c = b[n].c)) (Bool.and (decide (a[n].n = b[n].n)) (Bool.and (a[n].s == b[n].s) (Bool.and (a[n].a == b[n].a) true))))) _ _
        rw [itEq]
        refine bcase_mk (fun hd => ?_) (fun hd => ?_)
        · have hd : ¬ a[n] = b[n] := by simpa using hd
          have hne : ¬ a = b := fun e => hd (by subst e; rfl)
          simpa [hne] using hq
        · have hd : a[n] = b[n] := by simpa using hd
          refine .mk [] (n + 1) ?_ ⟨by omega, fun k hk => ?_⟩ (by omega)
          · rw [wrap_succ hlt hla]
            simp [S.le, sealAll, leL, jks, stE]
          · rcases Nat.lt_or_ge k n with h | h
            · exact hI k h
            · have : k = n := by omega
              subst this
              rw [List.getElem?_eq_getElem hlt, List.getElem?_eq_getElem hltb, hd]
      · have e : n = a.length := by omega
        have : a = b := by
          apply List.ext_getElem? 
          intro k
          rcases Nat.lt_or_ge k n with h | h
          · exact hI k h
          · rw [List.getElem?_eq_none (by omega), List.getElem?_eq_none (by omega)]
        simpa [this] using hq
end Go.Proofs.YtldcalmoboeeiaaDoor
