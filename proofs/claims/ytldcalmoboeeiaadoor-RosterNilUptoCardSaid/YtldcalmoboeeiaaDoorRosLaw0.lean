import Derived.Test.YtldcalmoboeeiaaDoorRosOps
import Derived.Test.YtldcalmoboeeiaaDoorRosNew2
set_option linter.unusedSimpArgs false
set_option linter.unusedVariables false
namespace Go.Proofs.YtldcalmoboeeiaaDoor
open Go Go.AM Go.RowKit
attribute [local irreducible] aCode aUnr aUnS aOut
def pickK (n : Nat) (k : Int) : Int := IntKind.wrap .i64 (Int.tmod (IntKind.wrap .u64 k) (IntKind.wrap .u64 (IntKind.wrap .i64 ((n : Int) + 2))))
def wNobody : BA := ⟨#[110, 111, 98, 111, 100, 121]⟩
def wNo : BA := ⟨#[78, 111]⟩
def pickM (us : List BA) (k : Int) : BA := if pickK us.length k < us.length then us.getD (pickK us.length k).toNat ⟨#[]⟩ else if pickK us.length k = us.length then wNobody else wNo
def FPick : List AV → Option (Prop × AV) := fun al => match al with
  | [.d (.sl es), .d (.v (.int .i64 k))] => some (es = strsD (unSS es) ∧ es.length ≤ 1000, mkS (pickM (unSS es) k))
  | _ => none
theorem rPick (us : List BA) (k : Int) (q : AV → Prop) :
  (aCode Tryd.K [] Tryd.b19 (kRet Tryd.K Tryd.f19.results.toList q) ⟨[mkSS us, mkI .i64 k] ++ List.replicate (Tryd.f19.ntmps - 2) .jk, []⟩) = (
  ((List.length (strsD us)) ≤ LIM) →
  (((IntKind.wrap IntKind.u64 (IntKind.wrap IntKind.i64 (((List.length (strsD us)) : Int) + (2 : Int)))) = (0 : Int)) → False) ∧ (
   ((List.length (strsD us)) ≤ LIM) →
   bcase (decide ((IntKind.wrap IntKind.i64 (Int.tmod (IntKind.wrap IntKind.u64 k) (IntKind.wrap IntKind.u64 (IntKind.wrap IntKind.i64 (((List.length (strsD us)) : Int) + (2 : Int)))))) < ((List.length (strsD us)) : Int))) (
    (((0 : Int) ≤ (IntKind.wrap IntKind.i64 (Int.tmod (IntKind.wrap IntKind.u64 k) (IntKind.wrap IntKind.u64 (IntKind.wrap IntKind.i64 (((List.length (strsD us)) : Int) + (2 : Int))))))) ∧ ((IntKind.wrap IntKind.i64 (Int.tmod (IntKind.wrap IntKind.u64 k) (IntKind.wrap IntKind.u64 (IntKind.wrap IntKind.i64 (((List.length (strsD us)) : Int) + (2 : Int)))))) < ((List.length (strsD us)) : Int))) ∧
    ((List.length (List.getD (strsD us) (Int.toNat (IntKind.wrap IntKind.i64 (Int.tmod (IntKind.wrap IntKind.u64 k) (IntKind.wrap IntKind.u64 (IntKind.wrap IntKind.i64 (((List.length (strsD us)) : Int) + (2 : Int))))))) [])) = 1) ∧
    ((1 : Nat) ≤ (List.length (List.getD (strsD us) (Int.toNat (IntKind.wrap IntKind.i64 (Int.tmod (IntKind.wrap IntKind.u64 k) (IntKind.wrap IntKind.u64 (IntKind.wrap IntKind.i64 (((List.length (strsD us)) : Int) + (2 : Int))))))) []))) ∧
    ((List.getD (List.getD (strsD us) (Int.toNat (IntKind.wrap IntKind.i64 (Int.tmod (IntKind.wrap IntKind.u64 k) (IntKind.wrap IntKind.u64 (IntKind.wrap IntKind.i64 (((List.length (strsD us)) : Int) + (2 : Int))))))) []) (0 : Nat) d0) = (D.v (Value.string (strD (List.getD (List.getD (strsD us) (Int.toNat (IntKind.wrap IntKind.i64 (Int.tmod (IntKind.wrap IntKind.u64 k) (IntKind.wrap IntKind.u64 (IntKind.wrap IntKind.i64 (((List.length (strsD us)) : Int) + (2 : Int))))))) []) (0 : Nat) d0))))) ∧
    q (mkS (strD (List.getD (List.getD (strsD us) (Int.toNat (IntKind.wrap IntKind.i64 (Int.tmod (IntKind.wrap IntKind.u64 k) (IntKind.wrap IntKind.u64 (IntKind.wrap IntKind.i64 (((List.length (strsD us)) : Int) + (2 : Int))))))) []) (0 : Nat) d0)))) (
    ((List.length (strsD us)) ≤ LIM) →
    bcase ((IntKind.wrap IntKind.i64 (Int.tmod (IntKind.wrap IntKind.u64 k) (IntKind.wrap IntKind.u64 (IntKind.wrap IntKind.i64 (((List.length (strsD us)) : Int) + (2 : Int)))))) == ((List.length (strsD us)) : Int)) (
     q (mkS wNobody)) (
     q (mkS wNo))))) := by kernel_rfl
def kindM (k : Int) : Int := IntKind.wrap .i64 (Int.tmod (IntKind.wrap .u64 k) 3)
def FKind : List AV → Option (Prop × AV) := fun al => match al with
  | [.ag [.d (.v (.int .i64 k)), .d (.v (.int .i64 a)), .d (.v (.int .i64 b)), .d (.v (.int .i64 c)), .d (.v (.string x))]] => some (True, mkI .i64 (kindM k))
  | _ => none
theorem rKind (k a b c : Int) (x : BA) (q : AV → Prop) :
  (aCode Tryd.K [] Tryd.b44 (kRet Tryd.K Tryd.f44.results.toList q) ⟨[.ag [mkI .i64 k, mkI .i64 a, mkI .i64 b, mkI .i64 c, mkS x]] ++ List.replicate (Tryd.f44.ntmps - 1) .jk, []⟩) = (
  (((3 : Int) = (0 : Int)) → False) ∧
  q (mkI IntKind.i64 (IntKind.wrap IntKind.i64 (Int.tmod (IntKind.wrap IntKind.u64 k) (3 : Int))))) := by kernel_rfl
theorem pickK_rng {n : Nat} (h : n ≤ 1000) (k : Int) : 0 ≤ pickK n k ∧ pickK n k ≤ (n : Int) + 1 := by
  unfold pickK
  have e1 : IntKind.wrap .i64 ((n : Int) + 2) = (n : Int) + 2 := IntWalk.i64_in _ (by omega)
  have e2 : IntKind.wrap .u64 ((n : Int) + 2) = (n : Int) + 2 := IntWalk.u64_in _ (by omega)
  rw [e1, e2]
  have h0 : 0 ≤ IntKind.wrap .u64 k := by rw [IntKind.wrap_u64]; omega
  generalize IntKind.wrap .u64 k = m at h0
  have h1 := Int.tmod_nonneg ((n : Int) + 2) h0
  have h2 := Int.tmod_lt_of_pos m (b := (n : Int) + 2) (by omega)
  rw [IntWalk.i64_in _ (by omega)]
  omega
theorem cPick : PSound Tryd.prog 19 (detE FPick) := by
  refine det_fn (c := Tryd.b19) mixed Tryd.K_ok gsound_nil Tryd.func19 rfl rfl Tryd.call19 fun al p r q hF hp hq => ?_
  unfold FPick at hF; split at hF <;> cases hF
  rename_i es k
  obtain ⟨h1, h2⟩ := hp
  generalize unSS es = us at h1 hq
  subst h1
  rw [strsD_length] at h2
  have hr := pickK_rng h2 k
  refine cast (rPick us k q).symm fun _ => ?_
  have e : IntKind.wrap IntKind.i64 (Int.tmod (IntKind.wrap IntKind.u64 k) (IntKind.wrap IntKind.u64 (IntKind.wrap IntKind.i64 ((us.length : Int) + 2)))) = pickK us.length k := rfl
  refine ⟨fun h0 => ?_, fun _ => ?_⟩
  · have e1 : IntKind.wrap .i64 ((us.length : Int) + 2) = (us.length : Int) + 2 := IntWalk.i64_in _ (by omega)
    have e2 : IntKind.wrap .u64 ((us.length : Int) + 2) = (us.length : Int) + 2 := IntWalk.u64_in _ (by omega)
    rw [strsD_length, e1, e2] at h0
    omega
  · simp only [strsD_length, e]
    unfold pickM at hq
    refine bcase_dec (fun hlt => ?_) (fun hge _ => bcase_mk (fun h3 => ?_) (fun h3 => ?_))
    · rw [if_pos hlt] at hq
      have hn : (pickK us.length k).toNat < us.length := by omega
      have hg := strsD_getD us _ hn
      simp only [hg]
      exact ⟨⟨by omega, by omega⟩, rfl, Nat.le_refl _, rfl, hq⟩
    · rw [if_neg hge, if_pos (by simpa using h3)] at hq; exact hq
    · rw [if_neg hge, if_neg (by simpa using h3)] at hq; exact hq
theorem cKind : PSound Tryd.prog 44 (detE FKind) := by
  refine det_fn (c := Tryd.b44) mixed Tryd.K_ok gsound_nil Tryd.func44 rfl rfl Tryd.call44 fun al p r q hF hp hq => ?_
  unfold FKind at hF; split at hF <;> cases hF
  exact cast (rKind _ _ _ _ _ q).symm ⟨by decide, hq⟩
/-- A step. -/
structure Op where
  k : Int
  a : Int
  b : Int
  c : Int
  x : BA
def opV (o : Op) : AV := .ag [mkI .i64 o.k, mkI .i64 o.a, mkI .i64 o.b, mkI .i64 o.c, mkS o.x]
theorem pick_size {ul : List BA} (h : ∀ s ∈ ul, s.size ≤ 1000) (k : Int) : (pickM ul k).size ≤ LIM := by
  unfold pickM
  split
  · rcases Nat.lt_or_ge (pickK ul.length k).toNat ul.length with h1 | h1
    · rw [List.getD_eq_getElem?_getD, List.getElem?_eq_getElem h1]
      exact Nat.le_trans (h _ (List.getElem_mem h1)) (by decide)
    · rw [List.getD_eq_getElem?_getD, List.getElem?_eq_none h1]; decide
  · split <;> decide
end Go.Proofs.YtldcalmoboeeiaaDoor
