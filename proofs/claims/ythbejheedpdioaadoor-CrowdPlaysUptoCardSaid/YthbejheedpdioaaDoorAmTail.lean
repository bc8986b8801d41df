import Derived.Test.YthbejheedpdioaaDoorAmBun
set_option linter.unusedSimpArgs false
set_option linter.unusedVariables false
namespace Go.AM
open Go.RowKit
section
variable {P : Program} {X : Cx} {a : Act} {K : TypeId → Option TK} {s : S} {w0 : World} {own0 : O0} {Q : Exit → Act → World → Prop} {Γ : List (FuncId × En)}
end
def famO (kk : KK) (sh : Shp) (i : Nat) (o : List Ob) : List Ob := match o[i]? with
  | some (.map _ []) => o.set i (.bun (famR ⟨kk, sh, []⟩))
  | _ => o
theorem famO_ghost (kk : KK) (sh : Shp) (i : Nat) : Ghost (famO kk sh i) := fun w0 own0 Y s a hs => by
  refine ⟨Y, rfl, ?_, fun _ _ h => h⟩
  unfold famO
  split
  · rename_i k0 hj
    obtain ⟨hz, _, me, clock, h1, h2, h3, h4, _⟩ := hs.g.rel i _ hj
    exact swap_srel hs hj rfl hz rfl (fun _ _ e => nomatch e) ⟨hz, fun e he => absurd he (by simp), ⟨me, clock, h1, by simpa using h2, h3, h4, fun j hj hl => absurd hl (by simp)⟩, by simp, fun e he => absurd he (by simp)⟩
  · exact hs
end Go.AM
