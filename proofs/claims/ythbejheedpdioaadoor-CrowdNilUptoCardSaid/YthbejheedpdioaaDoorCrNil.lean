import Derived.Test.YthbejheedpdioaaDoorCrLives
import Derived.Test.YthbejheedpdioaaDoorCrTy
import Derived.Test.YthbejheedpdioaaDoorAmBun
set_option linter.unusedSimpArgs false
set_option linter.unusedVariables false
namespace Go.Proofs.YthbejheedpdioaaDoor
open Go Go.AM Go.RowKit
set_option maxRecDepth 10000
attribute [local irreducible] aUnr aUnS aCode
noncomputable abbrev GNb : List (FuncId × En) := [(8, .det FLv), (23, .det F25), (39, .det F11)]
theorem gNb : GSound Tryd.prog GNb := gsound_det cLives (gsound_det c25 (gsound_det c11 gsound_nil))
noncomputable abbrev GN : List (FuncId × En) := inlΓS KC GNb tabI 4 4
theorem gN : GSound Tryd.prog GN := inlS_sound mixed KC_ok gNb tabI_ok 4
theorem rNil (kind : Int) (ty id fr to sh tok rea : ByteArray) (hh ver : Int) (rem : Bool) (its : List (List D)) (q : AV → Prop) :
  (aUnS KC GN 4 Tryd.b7 (kRet KC Tryd.f7.results.toList q) ⟨[stzA kind ty id fr to sh tok rea hh ver rem (.d (.sl its))] ++ List.replicate (Tryd.f7.ntmps - 1) .jk, []⟩) = (
  True ∧
  ((([] : List (List D)) = (strsD (unSS []))) ∧ (([] : List (List D)) = (strsD (unSS [])))) ∧
  ((ByteArray.size fr) ≤ LIM) ∧
  q (mkB ((0 : Int) == (0 : Int)))) := by kernel_rfl
def FNi : List AV → Option (Prop × AV) := fun al => match al with
  | [x] => some (∃ s : Stz, x = stzV s ∧ s.fit, mkB true)
  | _ => none
theorem cNi : PSound Tryd.prog 7 (detE FNi) := by
  refine det_gen (unS_bsound 4 mixed KC_ok gN Tryd.b7) KC_ok Tryd.func7 rfl rfl Tryd.call7 fun al p r q hF hp hq => ?_
  unfold FNi at hF; split at hF <;> cases hF
  obtain ⟨⟨kind, ty, id, fr, to, sh, tok, rea, hh, ver, rem, its⟩, rfl, hf⟩ := hp
  exact cast (rNil kind ty id fr to sh tok rea hh ver rem its q).symm ⟨trivial, ⟨rfl, rfl⟩, szc_lim hf.fr, hq⟩
theorem hNi : ∀ as', TyArgs Tryd.prog Tryd.f7.params.toList as' → ∃ p, FNi as' = some (p, mkB true) ∧ p := by
  intro as' h
  rw [Tryd.params7] at h
  obtain ⟨a, rfl, ha⟩ := tyargs1 h
  obtain ⟨s, rfl, hs⟩ := arg_stz ha
  exact ⟨_, rfl, s, rfl, hs⟩
end Go.Proofs.YthbejheedpdioaaDoor
