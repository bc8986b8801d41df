import Derived.Test.YtepkbbkfcnejmaaGreatDoorLeLives
import Derived.Test.YtepkbbkfcnejmaaGreatDoorAmBun
import Derived.Test.YtepkbbkfcnejmaaGreatDoorFrame3
set_option linter.unusedSimpArgs false
set_option linter.unusedVariables false
namespace Go.Proofs.YtepkbbkfcnejmaaGreatDoor
open Go Go.AM Go.RowKit
set_option maxRecDepth 10000
attribute [local irreducible] aUnr aUnS
noncomputable abbrev GN : List (FuncId × En) := inlΓS KL ((5, .det FLv) :: GB) tabI 4 8
theorem rNil (kind id conn by_ : Int) (u d t : ByteArray) (q : AV → Prop) :
  (aUnS KL GN 4 Tryz.b4 (kRet KL Tryz.f4.results.toList q) ⟨[.ag [mkI .i64 kind, mkI .i64 id, mkI .i64 conn, mkI .i64 by_, mkS u, mkS d, mkS t]] ++ List.replicate (Tryz.f4.ntmps - 1) .jk, []⟩) = (
  True ∧
  (((0 : Int) ≤ (IntKind.wrap .u8 (IntKind.wrap .u64 (0 : Int)))) ∧ ((IntKind.wrap .u8 (IntKind.wrap .u64 (0 : Int))) < ((ByteArray.size (⟨#[0, 1, 2, 2, 3, 3, 3, 3, 4, 4, 4, 4, 4, 4, 4, 4, 5, 5, 5, 5, 5, 5, 5, 5, 5, 5, 5, 5, 5, 5, 5, 5, 6, 6, 6, 6, 6, 6, 6, 6, 6, 6, 6, 6, 6, 6, 6, 6, 6, 6, 6, 6, 6, 6, 6, 6, 6, 6, 6, 6, 6, 6, 6, 6, 7, 7, 7, 7, 7, 7, 7, 7, 7, 7, 7, 7, 7, 7, 7, 7, 7, 7, 7, 7, 7, 7, 7, 7, 7, 7, 7, 7, 7, 7, 7, 7, 7, 7, 7, 7, 7, 7, 7, 7, 7, 7, 7, 7, 7, 7, 7, 7, 7, 7, 7, 7, 7, 7, 7, 7, 7, 7, 7, 7, 7, 7, 7, 7, 8, 8, 8, 8, 8, 8, 8, 8, 8, 8, 8, 8, 8, 8, 8, 8, 8, 8, 8, 8, 8, 8, 8, 8, 8, 8, 8, 8, 8, 8, 8, 8, 8, 8, 8, 8, 8, 8, 8, 8, 8, 8, 8, 8, 8, 8, 8, 8, 8, 8, 8, 8, 8, 8, 8, 8, 8, 8, 8, 8, 8, 8, 8, 8, 8, 8, 8, 8, 8, 8, 8, 8, 8, 8, 8, 8, 8, 8, 8, 8, 8, 8, 8, 8, 8, 8, 8, 8, 8, 8, 8, 8, 8, 8, 8, 8, 8, 8, 8, 8, 8, 8, 8, 8, 8, 8, 8, 8, 8, 8, 8, 8, 8, 8, 8, 8, 8, 8, 8, 8, 8, 8, 8, 8, 8, 8, 8, 8]⟩ : ByteArray)) : Int))) ∧
  q (mkB ((0 : Int) == (0 : Int)))) := by kernel_rfl
theorem tyargs1 {P : Program} {t : TypeId} : ∀ {as' : List AV}, TyArgs P [t] as' → ∃ a, as' = [a] ∧ TyArg P t a
  | [], h => h.elim
  | [a], h => ⟨a, rfl, h.1⟩
  | _ :: _ :: _, h => h.2.elim
theorem tyS {P : Program} {n : Nat} {t : TypeId} {ds : List D} (hu : P.underlying t = some .string) (h : Ty P n t ds) : ∃ s : ByteArray, ds = [.v (.string s)] ∧ s.size ≤ 1048576 := by
  cases n with
  | zero => exact h.elim
  | succ n => unfold Ty at h; rw [hu] at h; exact h
theorem tyI {P : Program} {n : Nat} {t : TypeId} {k : IntKind} {ds : List D} (hu : P.underlying t = some (.int k)) (h : Ty P n t ds) : ∃ i : Int, ds = [.v (.int k i)] ∧ (Lit.int k i).wf = true := by
  cases n with
  | zero => exact h.elim
  | succ n => unfold Ty at h; rw [hu] at h; exact h
theorem tySt {P : Program} {n : Nat} {t : TypeId} {fs : Array Field} {ts : List TypeId} {ds : List D} (hu : P.underlying t = some (.struct fs)) (hf : fs.toList.map (·.type) = ts) (h : Ty P n t ds) : ∃ m, m < n ∧ TyL (Ty P m) ts ds := by
  cases n with
  | zero => exact h.elim
  | succ n =>
    unfold Ty at h; rw [hu] at h
    exact ⟨n, by omega, hf ▸ h⟩
def opV (kind id conn by_ : Int) (u d t : ByteArray) : AV := .ag [mkI .i64 kind, mkI .i64 id, mkI .i64 conn, mkI .i64 by_, mkS u, mkS d, mkS t]
theorem arg_op {a : AV} (h : TyArg Tryz.prog 28 a) : ∃ kind id conn by_ u d t, a = opV kind id conn by_ u d t := by
  obtain ⟨m, ds, g1, h0⟩ := h
  obtain ⟨m, _, h⟩ := tySt (ts := [3, 3, 3, 3, 9, 9, 9]) Tryz.underlying28 rfl g1
  obtain ⟨_, _, rfl, h1, _, _, rfl, h2, _, _, rfl, h3, _, _, rfl, h4, _, _, rfl, h5, _, _, rfl, h6, _, _, rfl, h7, rfl⟩ := h
  obtain ⟨kind, rfl, _⟩ := tyI Tryz.underlying3 h1
  obtain ⟨id, rfl, _⟩ := tyI Tryz.underlying3 h2
  obtain ⟨conn, rfl, _⟩ := tyI Tryz.underlying3 h3
  obtain ⟨by_, rfl, _⟩ := tyI Tryz.underlying3 h4
  obtain ⟨u, rfl, _⟩ := tyS Tryz.underlying9 h5
  obtain ⟨d, rfl, _⟩ := tyS Tryz.underlying9 h6
  obtain ⟨t, rfl, _⟩ := tyS Tryz.underlying9 h7
  exact ⟨kind, id, conn, by_, u, d, t, by rw [h0, show aggB Tryz.prog 28 = true by unfold aggB; rw [Tryz.underlying28]]; rfl⟩
def FNi : List AV → Option (Prop × AV) := fun al => match al with
  | [x] => some (∃ kind id conn by_ u d t, x = opV kind id conn by_ u d t, mkB true)
  | _ => none
theorem gN : GSound Tryz.prog GN := inlS_sound mixed KL_ok (gsound_det cLv gB) tabI_ok 8
theorem cNi : PSound Tryz.prog 4 (detE FNi) := by
  refine det_gen (unS_bsound 4 mixed KL_ok gN Tryz.b4) KL_ok Tryz.func4 rfl rfl Tryz.call4 fun al p r q hF hp hq => ?_
  unfold FNi at hF; split at hF <;> cases hF
  obtain ⟨kind, id, conn, by_, u, d, t, rfl⟩ := hp
  refine cast (rNil kind id conn by_ u d t q).symm ?_
  repeat' (first | exact hq | exact trivial | rfl | decide | intro _ | (unfold LIM; omega) | refine And.intro ?_ ?_)
theorem hNi : ∀ as', TyArgs Tryz.prog Tryz.f4.params.toList as' → ∃ p, FNi as' = some (p, mkB true) ∧ p := by
  intro as' h
  rw [Tryz.params4] at h
  obtain ⟨a, rfl, ha⟩ := tyargs1 h
  exact ⟨_, rfl, arg_op ha⟩
end Go.Proofs.YtepkbbkfcnejmaaGreatDoor
