import Derived.Test.YtldcalmoboeeiaaDoorRosLives
import Derived.Test.YtldcalmoboeeiaaDoorFrame4
set_option linter.unusedSimpArgs false
set_option linter.unusedVariables false
namespace Go.Proofs.YtldcalmoboeeiaaDoor
open Go Go.AM Go.RowKit
attribute [local irreducible] aCode aUnr aUnS aOut
noncomputable def GNl0 : List (FuncId × En) := [(12, .ref (frameX ELives)), (19, .det FPick), (44, .det FKind), (51, .det FSR), (46, .det FName)]
noncomputable abbrev GNl : List (FuncId × En) := inlΓS Tryd.K GNl0 tabI 2 5
theorem rNil (k a b c : Int) (x : BA) (q : AV → Prop) :
  (aUnS Tryd.K GNl 2 Tryd.b7 (kRet Tryd.K Tryd.f7.results.toList q) ⟨[.ag [mkI .i64 k, mkI .i64 a, mkI .i64 b, mkI .i64 c, mkS x]] ++ List.replicate (Tryd.f7.ntmps - 1) .jk, []⟩) = (
  (([] : List AV) = []) ∧
  ([Ob.gh []] = [Ob.gh []]) ∧
  ((Option.some (Ob.gh [])) = (Option.some (Ob.gh []))) ∧
  (([[D.v (Value.string (⟨#[(97 : UInt8), (110 : UInt8), (110 : UInt8)]⟩ : ByteArray))], [D.v (Value.string (⟨#[(98 : UInt8), (111 : UInt8), (98 : UInt8)]⟩ : ByteArray))]] = (strsD (unSS [[D.v (Value.string (⟨#[(97 : UInt8), (110 : UInt8), (110 : UInt8)]⟩ : ByteArray))], [D.v (Value.string (⟨#[(98 : UInt8), (111 : UInt8), (98 : UInt8)]⟩ : ByteArray))]]))) ∧ (2 ≤ (1000 : Nat))) ∧
  (Nat.le (ByteArray.size (pickM (unSS [[D.v (Value.string (⟨#[(97 : UInt8), (110 : UInt8), (110 : UInt8)]⟩ : ByteArray))], [D.v (Value.string (⟨#[(98 : UInt8), (111 : UInt8), (98 : UInt8)]⟩ : ByteArray))]]) a)) LIM) ∧
  (([[D.v (Value.string (⟨#[(97 : UInt8), (110 : UInt8), (110 : UInt8)]⟩ : ByteArray))], [D.v (Value.string (⟨#[(98 : UInt8), (111 : UInt8), (98 : UInt8)]⟩ : ByteArray))]] = (strsD (unSS [[D.v (Value.string (⟨#[(97 : UInt8), (110 : UInt8), (110 : UInt8)]⟩ : ByteArray))], [D.v (Value.string (⟨#[(98 : UInt8), (111 : UInt8), (98 : UInt8)]⟩ : ByteArray))]]))) ∧ (2 ≤ (1000 : Nat))) ∧
  (Nat.le (ByteArray.size (pickM (unSS [[D.v (Value.string (⟨#[(97 : UInt8), (110 : UInt8), (110 : UInt8)]⟩ : ByteArray))], [D.v (Value.string (⟨#[(98 : UInt8), (111 : UInt8), (98 : UInt8)]⟩ : ByteArray))]]) b)) LIM) ∧
  True ∧
  bcase ((kindM k) == (0 : Int)) (
   ((ByteArray.size x) ≤ LIM) →
   bcase (decide (((ByteArray.size x) : Int) ≤ (40 : Int))) (
    ((ByteArray.size x) ≤ LIM) ∧
    q (mkB ((0 : Int) == (0 : Int)))) (
    q (mkB ((0 : Int) == (0 : Int))))) (
   bcase ((kindM k) == (1 : Int)) (
    (((4 : Int) = (0 : Int)) → False) ∧
    True ∧
    q (mkB ((0 : Int) == (0 : Int)))) (
    q (mkB ((0 : Int) == (0 : Int)))))) := by kernel_rfl
def FNl : List AV → Option (Prop × AV) := fun al => match al with
  | [.ag [.d (.v (.int .i64 k)), .d (.v (.int .i64 a)), .d (.v (.int .i64 b)), .d (.v (.int .i64 c)), .d (.v (.string x))]] => some (True, mkB true)
  | _ => none
theorem gnl0_ok : GSound Tryd.prog GNl0 := gsound_ref (RSound.frameX cLives) (gsound_det cPick (gsound_det cKind (gsound_det cSR (gsound_det cName gsound_nil))))
theorem gnl_ok : GSound Tryd.prog GNl := inlS_sound mixed Tryd.K_ok gnl0_ok tabI_ok 5
theorem two_ok (k : Int) : (pickM t2 k).size ≤ LIM := pick_size (by decide) k
theorem cNl : PSound Tryd.prog 7 (detE FNl) := by
  refine det_gen (unS_bsound (c := Tryd.b7) 2 mixed Tryd.K_ok gnl_ok) Tryd.K_ok Tryd.func7 rfl rfl Tryd.call7 fun al p r q hF hp hq => ?_
  unfold FNl at hF; split at hF <;> cases hF
  rename_i k a b c x
  refine cast (rNil k a b c x q).symm ⟨rfl, rfl, rfl, ⟨rfl, by decide⟩, two_ok a, ⟨rfl, by decide⟩, two_ok b, trivial, bcase_mk (fun _ hs => bcase_mk (fun _ => ⟨hs, hq⟩) (fun _ => hq)) (fun _ => bcase_mk (fun _ => ⟨by decide, trivial, hq⟩) (fun _ => hq))⟩
theorem arg_op {P : Program} {t : TypeId} {a : AV} {fs : Array Field} {i s : TypeId} (hu : P.underlying t = some (.struct fs)) (hf : fs.toList.map (·.type) = [i, i, i, i, s]) (hi : P.underlying i = some (.int .i64)) (hs : P.underlying s = some .string) (h : ∃ ds, Ty P 12 t ds ∧ a = argAV (aggB P t) ds) : ∃ o : Op, a = opV o := by
  obtain ⟨ds, h1, rfl⟩ := h
  unfold Ty at h1; rw [hu] at h1
  simp only [hf] at h1
  obtain ⟨a1, b1, rfl, p1, a2, b2, rfl, p2, a3, b3, rfl, p3, a4, b4, rfl, p4, a5, b5, rfl, p5, rfl⟩ := h1
  unfold Ty at p1 p2 p3 p4 p5
  rw [hi] at p1 p2 p3 p4
  rw [hs] at p5
  obtain ⟨i1, rfl, _⟩ := p1
  obtain ⟨i2, rfl, _⟩ := p2
  obtain ⟨i3, rfl, _⟩ := p3
  obtain ⟨i4, rfl, _⟩ := p4
  obtain ⟨x, rfl, _⟩ := p5
  exact ⟨⟨i1, i2, i3, i4, x⟩, by simp [aggB, hu, argAV, opV, mkI, mkS]⟩
theorem ty_args1 {P : Program} {t : TypeId} {al : List AV} (h : TyArgs P [t] al) : ∃ a, al = [a] ∧ ∃ ds, Ty P 12 t ds ∧ a = argAV (aggB P t) ds := by
  match al, h with
  | [a], ⟨ha, _⟩ => exact ⟨a, rfl, ha⟩
theorem hNl : ∀ al, TyArgs Tryd.prog Tryd.f7.params.toList al → ∃ p, FNl al = some (p, mkB true) ∧ p := by
  intro al h
  rw [Tryd.params7] at h
  obtain ⟨a, rfl, ha⟩ := ty_args1 h
  obtain ⟨o, rfl⟩ := arg_op Tryd.underlying41 rfl Tryd.underlying3 Tryd.underlying9 ha
  exact ⟨_, rfl, trivial⟩
end Go.Proofs.YtldcalmoboeeiaaDoor
