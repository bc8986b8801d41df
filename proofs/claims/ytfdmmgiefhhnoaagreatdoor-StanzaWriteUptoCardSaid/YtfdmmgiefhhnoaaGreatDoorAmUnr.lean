import Derived.Test.YtfdmmgiefhhnoaaGreatDoorAmFrame
set_option linter.unusedSimpArgs false
set_option linter.unusedVariables false
namespace Go.AM
open Go.RowKit
section
variable (K : TypeId → Option TK) (Γ : List (FuncId × En))
end
section
variable (K : TypeId → Option TK) (Γ : List (FuncId × En)) (n : Nat)
end
section
variable {P : Program} {K : TypeId → Option TK} {Γ : List (FuncId × En)} {w0 : World} {own0 : O0} {n : Nat}
def BSound (P : Program) (c : Code) (B : Kont → S → Prop) : Prop := ∀ {w0 : World} {own0 : O0} {X : Cx} {s : S} {a : Act} {q : Kont}, SRel w0 own0 X s a → B q s → c.wp P (kQ w0 own0 q) a X.w
theorem code_bsound (hm : P.follows .mixedOrders = true) (hK : KOk P K) (hΓ : GSound P Γ) (c : Code) : BSound P c (aCode K Γ c) := fun hs h => code_sound hm hK hΓ c hs h
theorem ref_gen (T : (AV → List Ob → Prop) → AV → List Ob → Prop) (hT0 : TrimOk T) {B : Kont → S → Prop} {f : FuncId} {fn : Func} {c : Code} {rs : List ResultVar} {E : List AV → List Ob → (AV → List Ob → Prop) → Prop} (hB : BSound P c B) (hK : KOk P K) (hf : P.funcs[f]? = some fn) (hb : fn.body = some c) (hrs : fn.results.toList = rs)
    (hcall : ∀ args w, (callFunc f args).run P w = .ok (.enter f args) w) (h : ∀ al o q, E al o q → B (kRetF K rs (T q)) ⟨al ++ List.replicate (fn.ntmps - al.length) .jk, o⟩) : RSound P f E := by
  refine ⟨hcall, fun X o gv al vs q g hgh hT hlen hrel hE => ?_⟩
  have hst : SRel X.w ⟨X.obj, X.ext, gv⟩ X ⟨al ++ List.replicate (fn.ntmps - al.length) .jk, o⟩ { tmps := vs ++ Array.replicate (fn.ntmps - vs.size) undef, defers := [] } :=
    ⟨by simp [hlen], fun i hi => by
      rw [List.getElem_append]
      split
      · rename_i hlt
        rw [getD_append_left (by omega)]
        exact hrel i hlt
      · simp only [List.getElem_replicate]; exact .jk, rfl, g, rfl, ⟨rfl, rfl, rfl, Nat.le_refl _, fun _ _ _ => rfl⟩, fun b hb => .inl hb, hgh, hT⟩
  refine calls_of_wp hf hb (wp_mono (hB (w0 := X.w) (own0 := ⟨X.obj, X.ext, gv⟩) hst (h al o q hE)) fun e a' w' hq => ?_)
  have key : ∀ (Y : Cx) (s : S), Y.w = w' → SRel X.w ⟨X.obj, X.ext, gv⟩ Y s a' → (match resL K s rs with | some l => T q (resAV l) s.o | none => False) →
      a'.defers = [] ∧ ∃ v, (results fn a'.tmps).run P w' = .ok v w' ∧ ∃ v_1 av o' X', Ending.returned v = .returned v_1 ∧ q av o' ∧ X'.w = w' ∧ GRel X' o' ∧ GhRel X' o' gv ∧ VRel X' av v_1 ∧ X'.ext = X.ext ∧ Fr X.w X.obj w' ∧ ∀ b, X'.obj b → X.obj b ∨ X.w.heap.size ≤ b := by
    rintro Y s rfl hs hk
    split at hk
    · rename_i rl hrl
      obtain ⟨v, h1, h2⟩ := results_sound (P := P) hrs hK hs hrl
      obtain ⟨av2, o2, Y', t1, t2, t3, t4⟩ := hT0 _ _ _ _ _ _ _ _ hs h2 hk
      exact ⟨hs.defers, v, h1, v, _, _, Y', rfl, t1, t2, t3.g, t3.gh, t4, t3.ext, hs.fr, t3.new⟩
    · exact hk.elim
  cases e with
  | normal => obtain ⟨Y, s, e1, e2, e3⟩ := hq; exact key Y s e1 e2 e3
  | ret => obtain ⟨Y, s, e1, e2, e3⟩ := hq; exact key Y s e1 e2 e3
  | exit i => obtain ⟨Y, s, _, _, hk⟩ := hq; exact hk.elim
  | goto l => exact hq.elim
  | panic ch => exact hq.elim
  | outgrown => exact hq.elim
end
section
variable (K : TypeId → Option TK) (Γ : List (FuncId × En)) (n : Nat)
end
section
variable {P : Program} {K : TypeId → Option TK} {Γ : List (FuncId × En)} {w0 : World} {own0 : O0} {n : Nat}
end
end Go.AM
