import Derived.Test.YtchpfeblinnoiaaGreatDoorTrMod
import Derived.Test.YtchpfeblinnoiaaGreatDoorTrTkRE
set_option linter.unusedSimpArgs false
set_option linter.unusedVariables false
set_option maxRecDepth 10000
namespace Go.Proofs.YtchpfeblinnoiaaGreatDoor
open Go Go.AM Go.RowKit
attribute [local irreducible] aUnr aUnS aCode
theorem wTk0 (t : TokA) (cnt : Int) (ov : Bool) (err : Int) (q : AV → List Ob → Prop) (hk : OkT ⟨[], cnt, ov, err⟩ t) (hq : q (resA (takeM ⟨[], cnt, ov, err⟩ t)) (bunS (takeM ⟨[], cnt, ov, err⟩ t).1)) :
    aUnS Tryz.K GTkI 4 Tryz.b11 (kRetF Tryz.K Tryz.f11.results.toList (trimW q)) ⟨[.rf 0 0, tokV t] ++ List.replicate (Tryz.f11.ntmps - 2) .jk, expO ⟨[], cnt, ov, err⟩⟩ := by
  have hL : decide (([] : List El).length > 4) = false := rfl
  refine cast (rTk0 t cnt ov err (trimW q)).symm ?_
  refine bcase_mk (fun h1 => ?_) (fun h1 => ?_)
  · simp only [takeM, oneM, manyM, popM, failM, h1, cond_true, cond_false, Bool.not_true, Bool.not_false, decide_true, decide_false, lastE, onLast, List.dropLast, hL] at hq
    exact leafP [2] hq (by kernel_rfl) (by kernel_rfl)
  · refine bcase_mk (fun h2 => ?_) (fun h2 => ?_)
    · subst h2
      simp only [takeM, oneM, manyM, popM, failM, h1, cond_true, cond_false, Bool.not_true, Bool.not_false, decide_true, decide_false, lastE, onLast, List.dropLast, hL] at hq
      exact leafP [2] hq (by kernel_rfl) (by kernel_rfl)
    · subst h2
      refine bcase_mk (fun h3 => ?_) (fun h3 => ?_)
      · simp only [takeM, oneM, manyM, popM, failM, h1, h3, cond_true, cond_false, Bool.not_true, Bool.not_false, decide_true, decide_false, lastE, onLast, List.dropLast, hL] at hq
        exact leafP [2] hq (by kernel_rfl) (by kernel_rfl)
      · refine bcase_mk (fun h4 => ?_) (fun h4 => ?_)
        · simp only [takeM, oneM, manyM, popM, failM, h1, h3, h4, cond_true, cond_false, Bool.not_true, Bool.not_false, decide_true, decide_false, lastE, onLast, List.dropLast, hL] at hq
          exact leafP [2] hq (by kernel_rfl) (by kernel_rfl)
        · refine bcase_mk (fun h5 => ?_) (fun h5 => ?_)
          · simp only [takeM, oneM, manyM, popM, failM, h1, h3, h4, h5, cond_true, cond_false, Bool.not_true, Bool.not_false, decide_true, decide_false, lastE, onLast, List.dropLast, hL] at hq
            exact leafP [2] hq (by kernel_rfl) (by kernel_rfl)
          · refine bcase_mk (fun h6 => ?_) (fun h6 => ?_)
            · refine ⟨hk.ats, (by decide), (by unfold LIM; omega), hk.ats, ?_⟩
              simp only [takeM, oneM, manyM, popM, failM, h1, h3, h4, h5, h6, cond_true, cond_false, Bool.not_true, Bool.not_false, decide_true, decide_false, lastE, onLast, List.dropLast, hL] at hq
              simp only [bunS, bldL, bldE, refsE, bump, setKid, newE0, List.cons_append, List.nil_append, List.length_append, List.length_set, List.length_cons, List.length_nil, Nat.zero_add] at hq
              exact leafO 13 [2, 13, 16] hq (by kernel_rfl) (by kernel_rfl)
            · simp [bne, h6] at h5
end Go.Proofs.YtchpfeblinnoiaaGreatDoor

namespace Go.Proofs.YtchpfeblinnoiaaGreatDoor
open Go Go.AM Go.RowKit
attribute [local irreducible] aUnr aUnS aCode
theorem wTk1 (t : TokA) (cnt : Int) (ov : Bool) (err : Int) (e1 : El) (q : AV → List Ob → Prop) (hk : OkT ⟨[e1], cnt, ov, err⟩ t) (hq : q (resA (takeM ⟨[e1], cnt, ov, err⟩ t)) (bunS (takeM ⟨[e1], cnt, ov, err⟩ t).1)) :
    aUnS Tryz.K GTkI 4 Tryz.b11 (kRetF Tryz.K Tryz.f11.results.toList (trimW q)) ⟨[.rf 0 0, tokV t] ++ List.replicate (Tryz.f11.ntmps - 2) .jk, expO ⟨[e1], cnt, ov, err⟩⟩ := by
  have hL : decide (([e1] : List El).length > 4) = false := rfl
  refine cast (rTk1 t cnt ov err e1 (trimW q)).symm ?_
  refine bcase_mk (fun h1 => ?_) (fun h1 => ?_)
  · simp only [takeM, oneM, manyM, popM, failM, h1, cond_true, cond_false, Bool.not_true, Bool.not_false, decide_true, decide_false, lastE, onLast, List.dropLast, hL] at hq
    exact leafP [2, 3, 4] hq (by kernel_rfl) (by kernel_rfl)
  · refine bcase_mk (fun h2 => ?_) (fun h2 => ?_)
    · subst h2
      simp only [takeM, oneM, manyM, popM, failM, h1, cond_true, cond_false, Bool.not_true, Bool.not_false, decide_true, decide_false, lastE, onLast, List.dropLast, hL] at hq
      exact leafP [2, 3, 4] hq (by kernel_rfl) (by kernel_rfl)
    · subst h2
      refine bcase_mk (fun h3 => ?_) (fun h3 => ?_)
      · simp only [takeM, oneM, manyM, popM, failM, h1, h3, cond_true, cond_false, Bool.not_true, Bool.not_false, decide_true, decide_false, lastE, onLast, List.dropLast, hL] at hq
        exact leafP [2, 3, 4] hq (by kernel_rfl) (by kernel_rfl)
      · refine bcase_mk (fun h4 => ?_) (fun h4 => ?_)
        · simp only [takeM, oneM, manyM, popM, failM, h1, h3, h4, cond_true, cond_false, Bool.not_true, Bool.not_false, decide_true, decide_false, lastE, onLast, List.dropLast, hL] at hq
          exact leafP [2, 3, 4] hq (by kernel_rfl) (by kernel_rfl)
        · refine bcase_mk (fun h5 => ?_) (fun h5 => ?_)
          · refine ⟨hk.ats, (by decide), (by unfold LIM; omega), ?_⟩
            simp only [takeM, oneM, manyM, popM, failM, h1, h3, h4, h5, cond_true, cond_false, Bool.not_true, Bool.not_false, decide_true, decide_false, lastE, onLast, List.dropLast, hL] at hq
            simp only [bunS, bldL, bldE, refsE, bump, setKid, newE0, List.cons_append, List.nil_append, List.length_append, List.length_set, List.length_cons, List.length_nil, Nat.zero_add] at hq
            exact leafO 15 [2, 3, 4, 15, 18] hq (by kernel_rfl) (by kernel_rfl)
          · refine bcase_mk (fun h6 => ?_) (fun h6 => ?_)
            · refine ⟨(by decide), (by decide), ?_⟩
              refine bcase_mk (fun h7 => ?_) (fun h7 => ?_)
              · replace h7 := neqT h7
                simp only [takeM, oneM, manyM, popM, failM, h1, h3, h4, h5, h6, h7, cond_true, cond_false, Bool.not_true, Bool.not_false, decide_true, decide_false, lastE, onLast, List.dropLast, hL] at hq
                exact leafP [2, 3, 4] hq (by kernel_rfl) (by kernel_rfl)
              · replace h7 := neqF h7
                refine ⟨(by decide), ?_⟩
                simp only [takeM, oneM, manyM, popM, failM, h1, h3, h4, h5, h6, h7, cond_true, cond_false, Bool.not_true, Bool.not_false, decide_true, decide_false, lastE, onLast, List.dropLast, hL] at hq
                exact leafP [2] hq (by kernel_rfl) (by kernel_rfl)
            · refine ⟨rfl, ?_⟩
              refine bcase_mk (fun h8 => ?_) (fun h8 => ?_)
              · replace h8 := neqT h8
                simp only [takeM, oneM, manyM, popM, failM, h1, h3, h4, h5, h6, h8, cond_true, cond_false, Bool.not_true, Bool.not_false, decide_true, decide_false, lastE, onLast, List.dropLast, hL] at hq
                exact leafP [2, 3, 4] hq (by kernel_rfl) (by kernel_rfl)
              · replace h8 := neqF h8
                simp only [takeM, oneM, manyM, popM, failM, h1, h3, h4, h5, h6, h8, cond_true, cond_false, Bool.not_true, Bool.not_false, decide_true, decide_false, lastE, onLast, List.dropLast, hL] at hq
                exact leafP [2, 3, 4] hq (by kernel_rfl) (by kernel_rfl)
end Go.Proofs.YtchpfeblinnoiaaGreatDoor

namespace Go.Proofs.YtchpfeblinnoiaaGreatDoor
open Go Go.AM Go.RowKit
attribute [local irreducible] aUnr aUnS aCode
theorem wTk2 (t : TokA) (cnt : Int) (ov : Bool) (err : Int) (e1 e2 : El) (q : AV → List Ob → Prop) (hk : OkT ⟨[e1, e2], cnt, ov, err⟩ t) (hq : q (resA (takeM ⟨[e1, e2], cnt, ov, err⟩ t)) (bunS (takeM ⟨[e1, e2], cnt, ov, err⟩ t).1)) :
    aUnS Tryz.K GTkI 4 Tryz.b11 (kRetF Tryz.K Tryz.f11.results.toList (trimW q)) ⟨[.rf 0 0, tokV t] ++ List.replicate (Tryz.f11.ntmps - 2) .jk, expO ⟨[e1, e2], cnt, ov, err⟩⟩ := by
  have hL : decide (([e1, e2] : List El).length > 4) = false := rfl
  refine cast (rTk2 t cnt ov err e1 e2 (trimW q)).symm ?_
  refine bcase_mk (fun h1 => ?_) (fun h1 => ?_)
  · simp only [takeM, oneM, manyM, popM, failM, h1, cond_true, cond_false, Bool.not_true, Bool.not_false, decide_true, decide_false, lastE, onLast, List.dropLast, hL] at hq
    exact leafP [2, 3, 4, 5, 6] hq (by kernel_rfl) (by kernel_rfl)
  · refine bcase_mk (fun h2 => ?_) (fun h2 => ?_)
    · subst h2
      simp only [takeM, oneM, manyM, popM, failM, h1, cond_true, cond_false, Bool.not_true, Bool.not_false, decide_true, decide_false, lastE, onLast, List.dropLast, hL] at hq
      exact leafP [2, 3, 4, 5, 6] hq (by kernel_rfl) (by kernel_rfl)
    · subst h2
      refine bcase_mk (fun h3 => ?_) (fun h3 => ?_)
      · simp only [takeM, oneM, manyM, popM, failM, h1, h3, cond_true, cond_false, Bool.not_true, Bool.not_false, decide_true, decide_false, lastE, onLast, List.dropLast, hL] at hq
        exact leafP [2, 3, 4, 5, 6] hq (by kernel_rfl) (by kernel_rfl)
      · refine bcase_mk (fun h4 => ?_) (fun h4 => ?_)
        · simp only [takeM, oneM, manyM, popM, failM, h1, h3, h4, cond_true, cond_false, Bool.not_true, Bool.not_false, decide_true, decide_false, lastE, onLast, List.dropLast, hL] at hq
          exact leafP [2, 3, 4, 5, 6] hq (by kernel_rfl) (by kernel_rfl)
        · refine bcase_mk (fun h5 => ?_) (fun h5 => ?_)
          · simp only [takeM, oneM, manyM, popM, failM, h1, h3, h4, h5, cond_true, cond_false, Bool.not_true, Bool.not_false, decide_true, decide_false, lastE, onLast, List.dropLast, hL] at hq
            exact leafP [2, 3, 4, 5, 6] hq (by kernel_rfl) (by kernel_rfl)
          · refine bcase_mk (fun h6 => ?_) (fun h6 => ?_)
            · refine ⟨hk.ats, (by decide), (by decide), ?_⟩
              refine bcase_mk (fun h7 => ?_) (fun h7 => ?_)
              · simp only [takeM, oneM, manyM, popM, failM, h1, h3, h4, h5, h6, h7, cond_true, cond_false, Bool.not_true, Bool.not_false, decide_true, decide_false, lastE, onLast, List.dropLast, hL] at hq
                exact leafP [2, 3, 4, 5, 6] hq (by kernel_rfl) (by kernel_rfl)
              · refine ⟨(by decide), (by decide), (by decide), (by decide), (by simp), rfl, (by have := hk.k16 e2 (by simp); unfold LIM; omega), (by decide), (by unfold LIM; omega), ?_⟩
                simp only [takeM, oneM, manyM, popM, failM, h1, h3, h4, h5, h6, h7, cond_true, cond_false, Bool.not_true, Bool.not_false, decide_true, decide_false, lastE, onLast, List.dropLast, hL] at hq
                simp only [bunS, bldL, bldE, refsE, bump, setKid, newE0, List.cons_append, List.nil_append, List.length_append, List.length_set, List.length_cons, List.length_nil, Nat.zero_add] at hq
                exact leafO 17 [2, 3, 4, 5, 6, 17, 24] hq (by kernel_rfl) (by kernel_rfl)
            · refine bcase_mk (fun h8 => ?_) (fun h8 => ?_)
              · refine ⟨(by decide), (by decide), ?_⟩
                refine bcase_mk (fun h9 => ?_) (fun h9 => ?_)
                · replace h9 := neqT h9
                  simp only [takeM, oneM, manyM, popM, failM, h1, h3, h4, h5, h6, h8, h9, cond_true, cond_false, Bool.not_true, Bool.not_false, decide_true, decide_false, lastE, onLast, List.dropLast, hL] at hq
                  exact leafP [2, 3, 4, 5, 6] hq (by kernel_rfl) (by kernel_rfl)
                · replace h9 := neqF h9
                  refine ⟨(by decide), ?_⟩
                  simp only [takeM, oneM, manyM, popM, failM, h1, h3, h4, h5, h6, h8, h9, cond_true, cond_false, Bool.not_true, Bool.not_false, decide_true, decide_false, lastE, onLast, List.dropLast, hL] at hq
                  exact leafS 6 [2, 3, 4] hq (by kernel_rfl) (by kernel_rfl)
              · refine ⟨?_, ?_⟩
                · refine ⟨(by decide), (by decide), (hk.tx e2 (by simp)), ?_⟩
                  simp only [takeM, oneM, manyM, popM, failM, h1, h3, h4, h5, h6, h8, cond_true, cond_false, Bool.not_true, Bool.not_false, decide_true, decide_false, lastE, onLast, List.dropLast, hL] at hq
                  exact leafP [2, 3, 4, 5, 6] hq (by kernel_rfl) (by kernel_rfl)
                · refine ⟨(by decide), (by decide), (hk.tx e2 (by simp)), ?_⟩
                  simp only [takeM, oneM, manyM, popM, failM, h1, h3, h4, h5, h6, h8, cond_true, cond_false, Bool.not_true, Bool.not_false, decide_true, decide_false, lastE, onLast, List.dropLast, hL] at hq
                  exact leafP [2, 3, 4, 5, 6] hq (by kernel_rfl) (by kernel_rfl)
end Go.Proofs.YtchpfeblinnoiaaGreatDoor

namespace Go.Proofs.YtchpfeblinnoiaaGreatDoor
open Go Go.AM Go.RowKit
attribute [local irreducible] aUnr aUnS aCode
theorem wTk3 (t : TokA) (cnt : Int) (ov : Bool) (err : Int) (e1 e2 e3 : El) (q : AV → List Ob → Prop) (hk : OkT ⟨[e1, e2, e3], cnt, ov, err⟩ t) (hq : q (resA (takeM ⟨[e1, e2, e3], cnt, ov, err⟩ t)) (bunS (takeM ⟨[e1, e2, e3], cnt, ov, err⟩ t).1)) :
    aUnS Tryz.K GTkI 4 Tryz.b11 (kRetF Tryz.K Tryz.f11.results.toList (trimW q)) ⟨[.rf 0 0, tokV t] ++ List.replicate (Tryz.f11.ntmps - 2) .jk, expO ⟨[e1, e2, e3], cnt, ov, err⟩⟩ := by
  have hL : decide (([e1, e2, e3] : List El).length > 4) = false := rfl
  have hpar : e2.kids ≠ [] := hk.par 1 (by simp) (by omega)
  refine cast (rTk3 t cnt ov err e1 e2 e3 (trimW q)).symm ?_
  refine bcase_mk (fun h1 => ?_) (fun h1 => ?_)
  · simp only [takeM, oneM, manyM, popM, failM, h1, cond_true, cond_false, Bool.not_true, Bool.not_false, decide_true, decide_false, lastE, onLast, List.dropLast, hL] at hq
    exact leafP [2, 3, 4, 5, 6, 7, 8] hq (by kernel_rfl) (by kernel_rfl)
  · refine bcase_mk (fun h2 => ?_) (fun h2 => ?_)
    · subst h2
      simp only [takeM, oneM, manyM, popM, failM, h1, cond_true, cond_false, Bool.not_true, Bool.not_false, decide_true, decide_false, lastE, onLast, List.dropLast, hL] at hq
      exact leafP [2, 3, 4, 5, 6, 7, 8] hq (by kernel_rfl) (by kernel_rfl)
    · subst h2
      refine bcase_mk (fun h3 => ?_) (fun h3 => ?_)
      · simp only [takeM, oneM, manyM, popM, failM, h1, h3, cond_true, cond_false, Bool.not_true, Bool.not_false, decide_true, decide_false, lastE, onLast, List.dropLast, hL] at hq
        exact leafP [2, 3, 4, 5, 6, 7, 8] hq (by kernel_rfl) (by kernel_rfl)
      · refine bcase_mk (fun h4 => ?_) (fun h4 => ?_)
        · simp only [takeM, oneM, manyM, popM, failM, h1, h3, h4, cond_true, cond_false, Bool.not_true, Bool.not_false, decide_true, decide_false, lastE, onLast, List.dropLast, hL] at hq
          exact leafP [2, 3, 4, 5, 6, 7, 8] hq (by kernel_rfl) (by kernel_rfl)
        · refine bcase_mk (fun h5 => ?_) (fun h5 => ?_)
          · simp only [takeM, oneM, manyM, popM, failM, h1, h3, h4, h5, cond_true, cond_false, Bool.not_true, Bool.not_false, decide_true, decide_false, lastE, onLast, List.dropLast, hL] at hq
            exact leafP [2, 3, 4, 5, 6, 7, 8] hq (by kernel_rfl) (by kernel_rfl)
          · refine bcase_mk (fun h6 => ?_) (fun h6 => ?_)
            · refine ⟨hk.ats, (by decide), (by decide), ?_⟩
              refine bcase_mk (fun h7 => ?_) (fun h7 => ?_)
              · simp only [takeM, oneM, manyM, popM, failM, h1, h3, h4, h5, h6, h7, cond_true, cond_false, Bool.not_true, Bool.not_false, decide_true, decide_false, lastE, onLast, List.dropLast, hL] at hq
                exact leafP [2, 3, 4, 5, 6, 7, 8] hq (by kernel_rfl) (by kernel_rfl)
              · refine ⟨(by decide), (by decide), (by decide), (by decide), (by simp), rfl, (by have := hk.k16 e3 (by simp); unfold LIM; omega), (by decide), (by unfold LIM; omega), ?_⟩
                simp only [takeM, oneM, manyM, popM, failM, h1, h3, h4, h5, h6, h7, cond_true, cond_false, Bool.not_true, Bool.not_false, decide_true, decide_false, lastE, onLast, List.dropLast, hL] at hq
                simp only [bunS, bldL, bldE, refsE, bump, setKid, newE0, List.cons_append, List.nil_append, List.length_append, List.length_set, List.length_cons, List.length_nil, Nat.zero_add] at hq
                exact leafO 19 [2, 3, 4, 5, 6, 7, 8, 19, 26] hq (by kernel_rfl) (by kernel_rfl)
            · refine bcase_mk (fun h8 => ?_) (fun h8 => ?_)
              · refine ⟨(by decide), (by decide), ?_⟩
                refine bcase_mk (fun h9 => ?_) (fun h9 => ?_)
                · replace h9 := neqT h9
                  simp only [takeM, oneM, manyM, popM, failM, h1, h3, h4, h5, h6, h8, h9, cond_true, cond_false, Bool.not_true, Bool.not_false, decide_true, decide_false, lastE, onLast, List.dropLast, hL] at hq
                  exact leafP [2, 3, 4, 5, 6, 7, 8] hq (by kernel_rfl) (by kernel_rfl)
                · replace h9 := neqF h9
                  refine ⟨(by decide), (by decide), (by decide), (par_ok1 hpar (hk.k16 e2 (by simp))), (par_ok2 hpar (hk.k16 e2 (by simp)) (hk.k4 e2 (by simp))), ?_⟩
                  simp only [takeM, oneM, manyM, popM, failM, h1, h3, h4, h5, h6, h8, h9, cond_true, cond_false, Bool.not_true, Bool.not_false, decide_true, decide_false, lastE, onLast, List.dropLast, hL] at hq
                  simp only [bunS, bldL, bldE, refsE, bump, setKid, newE0, List.cons_append, List.nil_append, List.length_append, List.length_set, List.length_cons, List.length_nil, Nat.zero_add] at hq
                  exact leafP [2, 3, 4, 5, 6] hq (by kernel_rfl) (by kernel_rfl)
              · refine ⟨?_, ?_⟩
                · refine ⟨(by decide), (by decide), (hk.tx e3 (by simp)), ?_⟩
                  simp only [takeM, oneM, manyM, popM, failM, h1, h3, h4, h5, h6, h8, cond_true, cond_false, Bool.not_true, Bool.not_false, decide_true, decide_false, lastE, onLast, List.dropLast, hL] at hq
                  exact leafP [2, 3, 4, 5, 6, 7, 8] hq (by kernel_rfl) (by kernel_rfl)
                · refine ⟨(by decide), (by decide), (hk.tx e3 (by simp)), ?_⟩
                  simp only [takeM, oneM, manyM, popM, failM, h1, h3, h4, h5, h6, h8, cond_true, cond_false, Bool.not_true, Bool.not_false, decide_true, decide_false, lastE, onLast, List.dropLast, hL] at hq
                  exact leafP [2, 3, 4, 5, 6, 7, 8] hq (by kernel_rfl) (by kernel_rfl)
end Go.Proofs.YtchpfeblinnoiaaGreatDoor

namespace Go.Proofs.YtchpfeblinnoiaaGreatDoor
open Go Go.AM Go.RowKit
attribute [local irreducible] aUnr aUnS aCode
theorem wTk4 (t : TokA) (cnt : Int) (ov : Bool) (err : Int) (e1 e2 e3 e4 : El) (q : AV → List Ob → Prop) (hk : OkT ⟨[e1, e2, e3, e4], cnt, ov, err⟩ t) (hq : q (resA (takeM ⟨[e1, e2, e3, e4], cnt, ov, err⟩ t)) (bunS (takeM ⟨[e1, e2, e3, e4], cnt, ov, err⟩ t).1)) :
    aUnS Tryz.K GTkI 4 Tryz.b11 (kRetF Tryz.K Tryz.f11.results.toList (trimW q)) ⟨[.rf 0 0, tokV t] ++ List.replicate (Tryz.f11.ntmps - 2) .jk, expO ⟨[e1, e2, e3, e4], cnt, ov, err⟩⟩ := by
  have hL : decide (([e1, e2, e3, e4] : List El).length > 4) = false := rfl
  have hpar : e3.kids ≠ [] := hk.par 2 (by simp) (by omega)
  refine cast (rTk4 t cnt ov err e1 e2 e3 e4 (trimW q)).symm ?_
  refine bcase_mk (fun h1 => ?_) (fun h1 => ?_)
  · simp only [takeM, oneM, manyM, popM, failM, h1, cond_true, cond_false, Bool.not_true, Bool.not_false, decide_true, decide_false, lastE, onLast, List.dropLast, hL] at hq
    exact leafP [2, 3, 4, 5, 6, 7, 8, 9, 10] hq (by kernel_rfl) (by kernel_rfl)
  · refine bcase_mk (fun h2 => ?_) (fun h2 => ?_)
    · subst h2
      simp only [takeM, oneM, manyM, popM, failM, h1, cond_true, cond_false, Bool.not_true, Bool.not_false, decide_true, decide_false, lastE, onLast, List.dropLast, hL] at hq
      exact leafP [2, 3, 4, 5, 6, 7, 8, 9, 10] hq (by kernel_rfl) (by kernel_rfl)
    · subst h2
      refine bcase_mk (fun h3 => ?_) (fun h3 => ?_)
      · simp only [takeM, oneM, manyM, popM, failM, h1, h3, cond_true, cond_false, Bool.not_true, Bool.not_false, decide_true, decide_false, lastE, onLast, List.dropLast, hL] at hq
        exact leafP [2, 3, 4, 5, 6, 7, 8, 9, 10] hq (by kernel_rfl) (by kernel_rfl)
      · refine bcase_mk (fun h4 => ?_) (fun h4 => ?_)
        · simp only [takeM, oneM, manyM, popM, failM, h1, h3, h4, cond_true, cond_false, Bool.not_true, Bool.not_false, decide_true, decide_false, lastE, onLast, List.dropLast, hL] at hq
          exact leafP [2, 3, 4, 5, 6, 7, 8, 9, 10] hq (by kernel_rfl) (by kernel_rfl)
        · refine bcase_mk (fun h5 => ?_) (fun h5 => ?_)
          · simp only [takeM, oneM, manyM, popM, failM, h1, h3, h4, h5, cond_true, cond_false, Bool.not_true, Bool.not_false, decide_true, decide_false, lastE, onLast, List.dropLast, hL] at hq
            exact leafP [2, 3, 4, 5, 6, 7, 8, 9, 10] hq (by kernel_rfl) (by kernel_rfl)
          · refine bcase_mk (fun h6 => ?_) (fun h6 => ?_)
            · refine ⟨hk.ats, (by decide), (by decide), ?_⟩
              refine bcase_mk (fun h7 => ?_) (fun h7 => ?_)
              · simp only [takeM, oneM, manyM, popM, failM, h1, h3, h4, h5, h6, h7, cond_true, cond_false, Bool.not_true, Bool.not_false, decide_true, decide_false, lastE, onLast, List.dropLast, hL] at hq
                exact leafP [2, 3, 4, 5, 6, 7, 8, 9, 10] hq (by kernel_rfl) (by kernel_rfl)
              · refine ⟨(by decide), (by decide), (by decide), (by decide), (by simp), rfl, (by have := hk.k16 e4 (by simp); unfold LIM; omega), (by decide), (by unfold LIM; omega), ?_⟩
                simp only [takeM, oneM, manyM, popM, failM, h1, h3, h4, h5, h6, h7, cond_true, cond_false, Bool.not_true, Bool.not_false, decide_true, decide_false, lastE, onLast, List.dropLast, hL] at hq
                simp only [bunS, bldL, bldE, refsE, bump, setKid, newE0, List.cons_append, List.nil_append, List.length_append, List.length_set, List.length_cons, List.length_nil, Nat.zero_add] at hq
                exact leafO 21 [2, 3, 4, 5, 6, 7, 8, 9, 10, 21, 28] hq (by kernel_rfl) (by kernel_rfl)
            · refine bcase_mk (fun h8 => ?_) (fun h8 => ?_)
              · refine ⟨(by decide), (by decide), ?_⟩
                refine bcase_mk (fun h9 => ?_) (fun h9 => ?_)
                · replace h9 := neqT h9
                  simp only [takeM, oneM, manyM, popM, failM, h1, h3, h4, h5, h6, h8, h9, cond_true, cond_false, Bool.not_true, Bool.not_false, decide_true, decide_false, lastE, onLast, List.dropLast, hL] at hq
                  exact leafP [2, 3, 4, 5, 6, 7, 8, 9, 10] hq (by kernel_rfl) (by kernel_rfl)
                · replace h9 := neqF h9
                  refine ⟨(by decide), (by decide), (by decide), (par_ok1 hpar (hk.k16 e3 (by simp))), (par_ok2 hpar (hk.k16 e3 (by simp)) (hk.k4 e3 (by simp))), ?_⟩
                  simp only [takeM, oneM, manyM, popM, failM, h1, h3, h4, h5, h6, h8, h9, cond_true, cond_false, Bool.not_true, Bool.not_false, decide_true, decide_false, lastE, onLast, List.dropLast, hL] at hq
                  simp only [bunS, bldL, bldE, refsE, bump, setKid, newE0, List.cons_append, List.nil_append, List.length_append, List.length_set, List.length_cons, List.length_nil, Nat.zero_add] at hq
                  exact leafP [2, 3, 4, 5, 6, 7, 8] hq (by kernel_rfl) (by kernel_rfl)
              · refine ⟨?_, ?_⟩
                · refine ⟨(by decide), (by decide), (hk.tx e4 (by simp)), ?_⟩
                  simp only [takeM, oneM, manyM, popM, failM, h1, h3, h4, h5, h6, h8, cond_true, cond_false, Bool.not_true, Bool.not_false, decide_true, decide_false, lastE, onLast, List.dropLast, hL] at hq
                  exact leafP [2, 3, 4, 5, 6, 7, 8, 9, 10] hq (by kernel_rfl) (by kernel_rfl)
                · refine ⟨(by decide), (by decide), (hk.tx e4 (by simp)), ?_⟩
                  simp only [takeM, oneM, manyM, popM, failM, h1, h3, h4, h5, h6, h8, cond_true, cond_false, Bool.not_true, Bool.not_false, decide_true, decide_false, lastE, onLast, List.dropLast, hL] at hq
                  exact leafP [2, 3, 4, 5, 6, 7, 8, 9, 10] hq (by kernel_rfl) (by kernel_rfl)
end Go.Proofs.YtchpfeblinnoiaaGreatDoor

namespace Go.Proofs.YtchpfeblinnoiaaGreatDoor
open Go Go.AM Go.RowKit
attribute [local irreducible] aUnr aUnS aCode
theorem wTk5 (t : TokA) (cnt : Int) (ov : Bool) (err : Int) (e1 e2 e3 e4 e5 : El) (q : AV → List Ob → Prop) (hk : OkT ⟨[e1, e2, e3, e4, e5], cnt, ov, err⟩ t) (hq : q (resA (takeM ⟨[e1, e2, e3, e4, e5], cnt, ov, err⟩ t)) (bunS (takeM ⟨[e1, e2, e3, e4, e5], cnt, ov, err⟩ t).1)) :
    aUnS Tryz.K GTkI 4 Tryz.b11 (kRetF Tryz.K Tryz.f11.results.toList (trimW q)) ⟨[.rf 0 0, tokV t] ++ List.replicate (Tryz.f11.ntmps - 2) .jk, expO ⟨[e1, e2, e3, e4, e5], cnt, ov, err⟩⟩ := by
  have hL : decide (([e1, e2, e3, e4, e5] : List El).length > 4) = true := rfl
  have hpar : e4.kids ≠ [] := hk.par 3 (by simp) (by omega)
  refine cast (rTk5 t cnt ov err e1 e2 e3 e4 e5 (trimW q)).symm ?_
  refine bcase_mk (fun h1 => ?_) (fun h1 => ?_)
  · simp only [takeM, oneM, manyM, popM, failM, h1, cond_true, cond_false, Bool.not_true, Bool.not_false, decide_true, decide_false, lastE, onLast, List.dropLast, hL] at hq
    exact leafP [2, 3, 4, 5, 6, 7, 8, 9, 10, 11, 12] hq (by kernel_rfl) (by kernel_rfl)
  · refine bcase_mk (fun h2 => ?_) (fun h2 => ?_)
    · subst h2
      simp only [takeM, oneM, manyM, popM, failM, h1, cond_true, cond_false, Bool.not_true, Bool.not_false, decide_true, decide_false, lastE, onLast, List.dropLast, hL] at hq
      exact leafP [2, 3, 4, 5, 6, 7, 8, 9, 10, 11, 12] hq (by kernel_rfl) (by kernel_rfl)
    · subst h2
      refine bcase_mk (fun h3 => ?_) (fun h3 => ?_)
      · simp only [takeM, oneM, manyM, popM, failM, h1, h3, cond_true, cond_false, Bool.not_true, Bool.not_false, decide_true, decide_false, lastE, onLast, List.dropLast, hL] at hq
        exact leafP [2, 3, 4, 5, 6, 7, 8, 9, 10, 11, 12] hq (by kernel_rfl) (by kernel_rfl)
      · refine bcase_mk (fun h4 => ?_) (fun h4 => ?_)
        · simp only [takeM, oneM, manyM, popM, failM, h1, h3, h4, cond_true, cond_false, Bool.not_true, Bool.not_false, decide_true, decide_false, lastE, onLast, List.dropLast, hL] at hq
          exact leafP [2, 3, 4, 5, 6, 7, 8, 9, 10, 11, 12] hq (by kernel_rfl) (by kernel_rfl)
        · refine bcase_mk (fun h5 => ?_) (fun h5 => ?_)
          · simp only [takeM, oneM, manyM, popM, failM, h1, h3, h4, h5, cond_true, cond_false, Bool.not_true, Bool.not_false, decide_true, decide_false, lastE, onLast, List.dropLast, hL] at hq
            exact leafP [2, 3, 4, 5, 6, 7, 8, 9, 10, 11, 12] hq (by kernel_rfl) (by kernel_rfl)
          · refine bcase_mk (fun h6 => ?_) (fun h6 => ?_)
            · refine ⟨hk.ats, ?_⟩
              simp only [takeM, oneM, manyM, popM, failM, h1, h3, h4, h5, h6, cond_true, cond_false, Bool.not_true, Bool.not_false, decide_true, decide_false, lastE, onLast, List.dropLast, hL] at hq
              exact leafP [2, 3, 4, 5, 6, 7, 8, 9, 10, 11, 12] hq (by kernel_rfl) (by kernel_rfl)
            · refine bcase_mk (fun h7 => ?_) (fun h7 => ?_)
              · refine ⟨(by decide), (by decide), ?_⟩
                refine bcase_mk (fun h8 => ?_) (fun h8 => ?_)
                · replace h8 := neqT h8
                  simp only [takeM, oneM, manyM, popM, failM, h1, h3, h4, h5, h6, h7, h8, cond_true, cond_false, Bool.not_true, Bool.not_false, decide_true, decide_false, lastE, onLast, List.dropLast, hL] at hq
                  exact leafP [2, 3, 4, 5, 6, 7, 8, 9, 10, 11, 12] hq (by kernel_rfl) (by kernel_rfl)
                · replace h8 := neqF h8
                  refine ⟨(by decide), (by decide), (by decide), (par_ok1 hpar (hk.k16 e4 (by simp))), (par_ok2 hpar (hk.k16 e4 (by simp)) (hk.k4 e4 (by simp))), ?_⟩
                  simp only [takeM, oneM, manyM, popM, failM, h1, h3, h4, h5, h6, h7, h8, cond_true, cond_false, Bool.not_true, Bool.not_false, decide_true, decide_false, lastE, onLast, List.dropLast, hL] at hq
                  simp only [bunS, bldL, bldE, refsE, bump, setKid, newE0, List.cons_append, List.nil_append, List.length_append, List.length_set, List.length_cons, List.length_nil, Nat.zero_add] at hq
                  exact leafP [2, 3, 4, 5, 6, 7, 8, 9, 10] hq (by kernel_rfl) (by kernel_rfl)
              · refine ⟨?_, ?_⟩
                · refine ⟨(by decide), (by decide), (hk.tx e5 (by simp)), ?_⟩
                  simp only [takeM, oneM, manyM, popM, failM, h1, h3, h4, h5, h6, h7, cond_true, cond_false, Bool.not_true, Bool.not_false, decide_true, decide_false, lastE, onLast, List.dropLast, hL] at hq
                  exact leafP [2, 3, 4, 5, 6, 7, 8, 9, 10, 11, 12] hq (by kernel_rfl) (by kernel_rfl)
                · refine ⟨(by decide), (by decide), (hk.tx e5 (by simp)), ?_⟩
                  simp only [takeM, oneM, manyM, popM, failM, h1, h3, h4, h5, h6, h7, cond_true, cond_false, Bool.not_true, Bool.not_false, decide_true, decide_false, lastE, onLast, List.dropLast, hL] at hq
                  exact leafP [2, 3, 4, 5, 6, 7, 8, 9, 10, 11, 12] hq (by kernel_rfl) (by kernel_rfl)
end Go.Proofs.YtchpfeblinnoiaaGreatDoor
