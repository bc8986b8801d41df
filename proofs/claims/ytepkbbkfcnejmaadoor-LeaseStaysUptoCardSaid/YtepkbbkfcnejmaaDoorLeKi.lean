import Derived.Test.YtepkbbkfcnejmaaDoorLeOps2
import Derived.Test.YtepkbbkfcnejmaaDoorFrame3
import Derived.Test.YtepkbbkfcnejmaaDoorLeNw
set_option linter.unusedSimpArgs false
set_option linter.unusedVariables false
set_option maxRecDepth 10000
namespace Go.Proofs.YtepkbbkfcnejmaaDoor
open Go Go.AM Go.RowKit
theorem tyargs1 {P : Program} {t : TypeId} : ∀ {as' : List AV}, TyArgs P [t] as' → ∃ a, as' = [a] ∧ TyArg P t a
  | [], h => h.elim
  | [a], h => ⟨a, rfl, h.1⟩
  | _ :: _ :: _, h => h.2.elim
theorem tyS {P : Program} {n : Nat} {t : TypeId} {ds : List D} (hu : P.underlying t = some .string) (h : Ty P n t ds) : ∃ s : ByteArray, ds = [.v (.string s)] ∧ s.size ≤ 1048576 := by
  cases n with
  | zero => exact h.elim
  | succ n => unfold Ty at h; rw [hu] at h; exact h
theorem tyI {P : Program} {n : Nat} {t : TypeId} {k : IntKind} {ds : List D} (hu : P.underlying t = some (.int k)) (h : Ty P n t ds) : ∃ i : Int, ds = [.v (.int k i)] ∧ (Lit.int k i).wf = true := by
  cases n with
  | zero => exact h.elim
  | succ n => unfold Ty at h; rw [hu] at h; exact h
theorem tySt {P : Program} {n : Nat} {t : TypeId} {fs : Array Field} {ts : List TypeId} {ds : List D} (hu : P.underlying t = some (.struct fs)) (hf : fs.toList.map (·.type) = ts) (h : Ty P n t ds) : ∃ m, m < n ∧ TyL (Ty P m) ts ds := by
  cases n with
  | zero => exact h.elim
  | succ n =>
    unfold Ty at h; rw [hu] at h
    exact ⟨n, by omega, hf ▸ h⟩
structure OpS where
  kind : Int
  id : Int
  conn : Int
  by_ : Int
  u : ByteArray
  d : ByteArray
  t : ByteArray
abbrev opD7 (o : OpS) : List D := [.v (.int .i64 o.kind), .v (.int .i64 o.id), .v (.int .i64 o.conn), .v (.int .i64 o.by_), .v (.string o.u), .v (.string o.d), .v (.string o.t)]
def opsL (l : List OpS) : List (List D) := l.map opD7
theorem ty_op {n : Nat} {ds : List D} (h : Ty Tryd.prog n 49 ds) : ∃ o : OpS, ds = opD7 o ∧ True := by
  obtain ⟨m, _, h⟩ := tySt (ts := [3, 3, 3, 3, 9, 9, 9]) Tryd.underlying49 rfl h
  obtain ⟨_, _, rfl, h1, _, _, rfl, h2, _, _, rfl, h3, _, _, rfl, h4, _, _, rfl, h5, _, _, rfl, h6, _, _, rfl, h7, rfl⟩ := h
  obtain ⟨kind, rfl, _⟩ := tyI Tryd.underlying3 h1
  obtain ⟨id, rfl, _⟩ := tyI Tryd.underlying3 h2
  obtain ⟨conn, rfl, _⟩ := tyI Tryd.underlying3 h3
  obtain ⟨by_, rfl, _⟩ := tyI Tryd.underlying3 h4
  obtain ⟨u, rfl, _⟩ := tyS Tryd.underlying9 h5
  obtain ⟨d, rfl, _⟩ := tyS Tryd.underlying9 h6
  obtain ⟨t, rfl, _⟩ := tyS Tryd.underlying9 h7
  exact ⟨⟨kind, id, conn, by_, u, d, t⟩, rfl, trivial⟩
theorem arg_ops {a : AV} (h : TyArg Tryd.prog 46 a) : ∃ l : List OpS, a = .d (.sl (opsL l)) ∧ l.length ≤ 1048576 := by
  obtain ⟨es, rfl, hl, n, hs⟩ := arg_slice Tryd.underlying46 h
  obtain ⟨l, rfl, _⟩ := list_of opD7 (fun _ => True) es fun c hc => ty_op (hs c hc)
  exact ⟨l, rfl, by simpa using hl⟩
theorem mod_lt (a m : Int) (h : 0 < m) (h2 : m ≤ 1000000) : 0 ≤ IntKind.wrap .i64 (Int.tmod (IntKind.wrap .u64 a) m) ∧ IntKind.wrap .i64 (Int.tmod (IntKind.wrap .u64 a) m) < m := by
  have h0 : 0 ≤ IntKind.wrap .u64 a := by rw [IntKind.wrap_u64]; omega
  have h1 := Int.tmod_nonneg m h0
  have h3 := Int.tmod_lt_of_pos (IntKind.wrap .u64 a) h
  rw [IntWalk.i64_in _ (by omega)]
  exact ⟨h1, h3⟩
theorem getD_mem {α : Type} {l : List (List α)} {i : Nat} (h : i < l.length) : l.getD i [] ∈ l := by
  rw [List.getD_eq_getElem?_getD, List.getElem?_eq_getElem h]; exact List.getElem_mem h
end Go.Proofs.YtepkbbkfcnejmaaDoor

namespace Go.Proofs.YtepkbbkfcnejmaaDoor
open Go Go.AM Go.RowKit
attribute [local irreducible] aUnr aUnS aCode
abbrev opV7 (o : OpS) : AV := .ag [mkI .i64 o.kind, mkI .i64 o.id, mkI .i64 o.conn, mkI .i64 o.by_, mkS o.u, mkS o.d, mkS o.t]
theorem rKi (o : OpS) (q : AV → Prop) :
  (aCode KL [] Tryd.b20 (kRet KL Tryd.f20.results.toList q) ⟨[opV7 o] ++ List.replicate (Tryd.f20.ntmps - 1) .jk, []⟩) = (
  (((6 : Int) = (0 : Int)) → False) ∧
  q (mkI .i64 (IntKind.wrap .i64 (Int.tmod (IntKind.wrap .u64 (OpS.kind o)) (6 : Int))))) := by kernel_rfl
theorem rEl (es : List (List D)) (q : AV → Prop) :
  (aCode KL [] Tryd.b18 (kRet KL Tryd.f18.results.toList q) ⟨[.d (.sl es)] ++ List.replicate (Tryd.f18.ntmps - 1) .jk, []⟩) = (
  ((List.length es) ≤ LIM) →
  (IntKind.i64 = IntKind.i64) ∧
  (((0 : Int) ≤ (if (120 : Int) < ((List.length es) : Int) then (120 : Int) else ((List.length es) : Int))) ∧ ((if (120 : Int) < ((List.length es) : Int) then (120 : Int) else ((List.length es) : Int)) ≤ ((List.length es) : Int))) ∧
  q (AV.d (.sl (List.take (Int.toNat (if (120 : Int) < ((List.length es) : Int) then (120 : Int) else ((List.length es) : Int))) es)))) := by kernel_rfl
def kindI (n : Int) : Int := IntKind.wrap .i64 (Int.tmod (IntKind.wrap .u64 n) 6)
def FKi : List AV → Option (Prop × AV) := fun al => match al with
  | [.ag [.d (.v (.int .i64 k)), .d (.v (.int .i64 _)), .d (.v (.int .i64 _)), .d (.v (.int .i64 _)), .d (.v (.string _)), .d (.v (.string _)), .d (.v (.string _))]] => some (True, mkI .i64 (kindI k))
  | _ => none
theorem cKi : PSound Tryd.prog 20 (detE FKi) := by
  refine det_fn (c := Tryd.b20) mixed KL_ok gsound_nil Tryd.func20 rfl rfl Tryd.call20 fun al p r q hF hp hq => ?_
  unfold FKi at hF; split at hF <;> cases hF
  rename_i k i c b u d t
  exact cast (rKi ⟨k, i, c, b, u, d, t⟩ q).symm ⟨by decide, hq⟩
def FEl : List AV → Option (Prop × AV) := fun al => match al with
  | [.d (.sl es)] => some (True, .d (.sl (es.take 120)))
  | _ => none
theorem cEl : PSound Tryd.prog 18 (detE FEl) := by
  refine det_fn (c := Tryd.b18) mixed KL_ok gsound_nil Tryd.func18 rfl rfl Tryd.call18 fun al p r q hF hp hq => ?_
  unfold FEl at hF; split at hF <;> cases hF
  rename_i es
  refine cast (rEl es q).symm fun _ => ⟨rfl, ?_, ?_⟩
  · split <;> omega
  · have e : es.take (Int.toNat (if (120 : Int) < (es.length : Int) then 120 else (es.length : Int))) = es.take 120 := by
      split
      · rfl
      · rw [Int.toNat_natCast, List.take_length, List.take_of_length_le (by omega)]
    rw [e]
    exact hq
end Go.Proofs.YtepkbbkfcnejmaaDoor
