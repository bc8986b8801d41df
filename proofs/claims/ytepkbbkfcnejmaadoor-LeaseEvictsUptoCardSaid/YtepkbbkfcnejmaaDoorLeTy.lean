import Derived.Test.YtepkbbkfcnejmaaDoorLeOps2
import Derived.Test.YtepkbbkfcnejmaaDoorFrame3
set_option linter.unusedSimpArgs false
set_option linter.unusedVariables false
namespace Go.Proofs.YtepkbbkfcnejmaaDoor
open Go Go.AM Go.RowKit
theorem tyargs3 {P : Program} {t u v : TypeId} : ∀ {as' : List AV}, TyArgs P [t, u, v] as' → ∃ a b c, as' = [a, b, c] ∧ TyArg P t a ∧ TyArg P u b ∧ TyArg P v c
  | [], h => h.elim
  | [_], h => h.2.elim
  | [_, _], h => h.2.2.elim
  | [a, b, c], h => ⟨a, b, c, rfl, h.1, h.2.1, h.2.2.1⟩
  | _ :: _ :: _ :: _ :: _, h => h.2.2.2.elim
theorem tyB {P : Program} {n : Nat} {t : TypeId} {ds : List D} (hu : P.underlying t = some .bool) (h : Ty P n t ds) : ∃ b : Bool, ds = [.v (.bool b)] := by
  cases n with
  | zero => exact h.elim
  | succ n => unfold Ty at h; rw [hu] at h; exact h
theorem tyI {P : Program} {n : Nat} {t : TypeId} {k : IntKind} {ds : List D} (hu : P.underlying t = some (.int k)) (h : Ty P n t ds) : ∃ i : Int, ds = [.v (.int k i)] ∧ (Lit.int k i).wf = true := by
  cases n with
  | zero => exact h.elim
  | succ n => unfold Ty at h; rw [hu] at h; exact h
structure OpS where
  kind : Int
  id : Int
  conn : Int
  by_ : Int
  u : ByteArray
  d : ByteArray
  t : ByteArray
abbrev opD7 (o : OpS) : List D := [.v (.int .i64 o.kind), .v (.int .i64 o.id), .v (.int .i64 o.conn), .v (.int .i64 o.by_), .v (.string o.u), .v (.string o.d), .v (.string o.t)]
def opsL (l : List OpS) : List (List D) := l.map opD7
theorem arg_ints {t e : TypeId} {P : Program} {a : AV} {k : IntKind} (hu : P.underlying t = some (.slice e)) (he : P.underlying e = some (.int k)) (h : TyArg P t a) : ∃ es : List (List D), a = .d (.sl es) ∧ ∀ c ∈ es, ∃ i : Int, c = [.v (.int k i)] := by
  obtain ⟨es, rfl, hl, n, hs⟩ := arg_slice hu h
  exact ⟨es, rfl, fun c hc => let ⟨i, hi, _⟩ := tyI he (hs c hc); ⟨i, hi⟩⟩
theorem arg_bools {t e : TypeId} {P : Program} {a : AV} (hu : P.underlying t = some (.slice e)) (he : P.underlying e = some .bool) (h : TyArg P t a) : ∃ es : List (List D), a = .d (.sl es) ∧ ∀ c ∈ es, ∃ b : Bool, c = [.v (.bool b)] := by
  obtain ⟨es, rfl, hl, n, hs⟩ := arg_slice hu h
  exact ⟨es, rfl, fun c hc => tyB he (hs c hc)⟩
theorem mod_lt (a m : Int) (h : 0 < m) (h2 : m ≤ 1000000) : 0 ≤ IntKind.wrap .i64 (Int.tmod (IntKind.wrap .u64 a) m) ∧ IntKind.wrap .i64 (Int.tmod (IntKind.wrap .u64 a) m) < m := by
  have h0 : 0 ≤ IntKind.wrap .u64 a := by rw [IntKind.wrap_u64]; omega
  have h1 := Int.tmod_nonneg m h0
  have h3 := Int.tmod_lt_of_pos (IntKind.wrap .u64 a) h
  rw [IntWalk.i64_in _ (by omega)]
  exact ⟨h1, h3⟩
theorem getD_mem {α : Type} {l : List (List α)} {i : Nat} (h : i < l.length) : l.getD i [] ∈ l := by
  rw [List.getD_eq_getElem?_getD, List.getElem?_eq_getElem h]; exact List.getElem_mem h
end Go.Proofs.YtepkbbkfcnejmaaDoor
