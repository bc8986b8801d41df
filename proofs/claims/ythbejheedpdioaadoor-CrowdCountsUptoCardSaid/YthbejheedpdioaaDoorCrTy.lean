import Derived.Test.YthbejheedpdioaaDoorCrPlain
import Derived.Test.YthbejheedpdioaaDoorFrame3
set_option linter.unusedSimpArgs false
set_option linter.unusedVariables false
namespace Go.Proofs.YthbejheedpdioaaDoor
open Go Go.AM Go.RowKit
theorem tyargs1 {P : Program} {t : TypeId} : ∀ {as' : List AV}, TyArgs P [t] as' → ∃ a, as' = [a] ∧ TyArg P t a
  | [], h => h.elim
  | [a], h => ⟨a, rfl, h.1⟩
  | _ :: _ :: _, h => h.2.elim
theorem tyS {P : Program} {n : Nat} {t : TypeId} {ds : List D} (hu : P.underlying t = some .string) (h : Ty P n t ds) : ∃ s : BA, ds = [.v (.string s)] ∧ s.size ≤ 1048576 := by
  cases n with
  | zero => exact h.elim
  | succ n => unfold Ty at h; rw [hu] at h; exact h
theorem tyI {P : Program} {n : Nat} {t : TypeId} {k : IntKind} {ds : List D} (hu : P.underlying t = some (.int k)) (h : Ty P n t ds) : ∃ i : Int, ds = [.v (.int k i)] ∧ (Lit.int k i).wf = true := by
  cases n with
  | zero => exact h.elim
  | succ n => unfold Ty at h; rw [hu] at h; exact h
theorem tyB {P : Program} {n : Nat} {t : TypeId} {ds : List D} (hu : P.underlying t = some .bool) (h : Ty P n t ds) : ∃ b : Bool, ds = [.v (.bool b)] := by
  cases n with
  | zero => exact h.elim
  | succ n => unfold Ty at h; rw [hu] at h; exact h
theorem tyL {P : Program} {n : Nat} {t e : TypeId} {ds : List D} (hu : P.underlying t = some (.slice e)) (h : Ty P n t ds) : ∃ es : List (List D), ds = [.sl es] ∧ es.length ≤ 1048576 ∧ ∃ m, m < n ∧ ∀ c ∈ es, Ty P m e c := by
  cases n with
  | zero => exact h.elim
  | succ n =>
    unfold Ty at h; rw [hu] at h
    obtain ⟨es, h1, h2, h3⟩ := h
    exact ⟨es, h1, h2, n, by omega, h3⟩
theorem tySt {P : Program} {n : Nat} {t : TypeId} {fs : Array Field} {ts : List TypeId} {ds : List D} (hu : P.underlying t = some (.struct fs)) (hf : fs.toList.map (·.type) = ts) (h : Ty P n t ds) : ∃ m, m < n ∧ TyL (Ty P m) ts ds := by
  cases n with
  | zero => exact h.elim
  | succ n =>
    unfold Ty at h; rw [hu] at h
    exact ⟨n, by omega, hf ▸ h⟩
structure Stz where
  kind : Int
  ty : BA
  id : BA
  fr : BA
  to : BA
  sh : BA
  tok : BA
  rea : BA
  hh : Int
  ver : Int
  rem : Bool
  its : List (List D)
structure Stz.fit (s : Stz) : Prop where
  ty : s.ty.size ≤ SZC
  fr : s.fr.size ≤ SZC
  sh : s.sh.size ≤ SZC
def stzD (s : Stz) : List D := [.v (.int .i64 s.kind), .v (.string s.ty), .v (.string s.id), .v (.string s.fr), .v (.string s.to), .v (.string s.sh), .v (.string s.tok), .v (.string s.rea), .v (.int .u32 s.hh), .v (.int .i64 s.ver), .v (.bool s.rem), .sl s.its]
def stzL (l : List Stz) : List (List D) := l.map stzD
theorem stzL_len (l : List Stz) : (stzL l).length = l.length := by simp [stzL]
theorem stzL_getD (l : List Stz) {i : Nat} (h : i < l.length) : (stzL l).getD i [] = stzD l[i] := by
  rw [List.getD_eq_getElem?_getD, stzL, List.getElem?_map, List.getElem?_eq_getElem h]; rfl
theorem ty_stz {n : Nat} {ds : List D} (h : Ty Tryd.prog n 29 ds) : ∃ s : Stz, ds = stzD s ∧ s.fit := by
  obtain ⟨m, _, h⟩ := tySt (ts := [3, 9, 9, 9, 9, 9, 9, 9, 26, 3, 4, 27]) Tryd.underlying29 rfl h
  obtain ⟨_, _, rfl, h1, _, _, rfl, h2, _, _, rfl, h3, _, _, rfl, h4, _, _, rfl, h5, _, _, rfl, h6, _, _, rfl, h7, _, _, rfl, h8, _, _, rfl, h9, _, _, rfl, h10, _, _, rfl, h11, _, _, rfl, h12, rfl⟩ := h
  obtain ⟨kind, rfl, _⟩ := tyI Tryd.underlying3 h1
  obtain ⟨ty, rfl, f2⟩ := tyS Tryd.underlying9 h2
  obtain ⟨id, rfl, f3⟩ := tyS Tryd.underlying9 h3
  obtain ⟨fr, rfl, f4⟩ := tyS Tryd.underlying9 h4
  obtain ⟨to_, rfl, f5⟩ := tyS Tryd.underlying9 h5
  obtain ⟨sh, rfl, f6⟩ := tyS Tryd.underlying9 h6
  obtain ⟨tk, rfl, f7⟩ := tyS Tryd.underlying9 h7
  obtain ⟨re, rfl, f8⟩ := tyS Tryd.underlying9 h8
  obtain ⟨hh, rfl, _⟩ := tyI Tryd.underlying26 h9
  obtain ⟨v, rfl, _⟩ := tyI Tryd.underlying3 h10
  obtain ⟨r, rfl⟩ := tyB Tryd.underlying4 h11
  obtain ⟨es, rfl, _, _, _, _⟩ := tyL Tryd.underlying27 h12
  exact ⟨⟨kind, ty, id, fr, to_, sh, tk, re, hh, v, r, es⟩, rfl, ⟨f2, f4, f6⟩⟩
theorem arg_stzs {a : AV} (h : TyArg Tryd.prog 22 a) : ∃ l : List Stz, a = .d (.sl (stzL l)) ∧ l.length ≤ 1048576 ∧ ∀ s ∈ l, s.fit := by
  obtain ⟨es, rfl, hl, n, hs⟩ := arg_slice Tryd.underlying22 h
  obtain ⟨l, rfl, hf⟩ := list_of stzD Stz.fit es fun c hc => ty_stz (hs c hc)
  exact ⟨l, rfl, by simpa using hl, hf⟩
end Go.Proofs.YthbejheedpdioaaDoor
