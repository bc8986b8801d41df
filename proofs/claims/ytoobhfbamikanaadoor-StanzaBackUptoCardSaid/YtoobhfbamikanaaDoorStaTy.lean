import Derived.Test.YtoobhfbamikanaaDoorStaCut
import Derived.Test.YtoobhfbamikanaaDoorFrame4
set_option linter.unusedSimpArgs false
set_option linter.unusedVariables false
namespace Go.Proofs.YtoobhfbamikanaaDoor
open Go Go.AM Go.RowKit
theorem tyargs2 {P : Program} {t u : TypeId} : ∀ {as' : List AV}, TyArgs P [t, u] as' → ∃ a b, as' = [a, b] ∧ TyArg P t a ∧ TyArg P u b
  | [], h => h.elim
  | [_], h => h.2.elim
  | [a, b], h => ⟨a, b, rfl, h.1, h.2.1⟩
  | _ :: _ :: _ :: _, h => h.2.2.elim
theorem tyS {P : Program} {n : Nat} {t : TypeId} {ds : List D} (hu : P.underlying t = some .string) (h : Ty P n t ds) : ∃ s : BA, ds = [.v (.string s)] ∧ s.size ≤ 1048576 := by
  cases n with
  | zero => exact h.elim
  | succ n => unfold Ty at h; rw [hu] at h; exact h
theorem tyI {P : Program} {n : Nat} {t : TypeId} {k : IntKind} {ds : List D} (hu : P.underlying t = some (.int k)) (h : Ty P n t ds) : ∃ i : Int, ds = [.v (.int k i)] ∧ (Lit.int k i).wf = true := by
  cases n with
  | zero => exact h.elim
  | succ n => unfold Ty at h; rw [hu] at h; exact h
theorem tyB {P : Program} {n : Nat} {t : TypeId} {ds : List D} (hu : P.underlying t = some .bool) (h : Ty P n t ds) : ∃ b : Bool, ds = [.v (.bool b)] := by
  cases n with
  | zero => exact h.elim
  | succ n => unfold Ty at h; rw [hu] at h; exact h
theorem tyL {P : Program} {n : Nat} {t e : TypeId} {ds : List D} (hu : P.underlying t = some (.slice e)) (h : Ty P n t ds) : ∃ es : List (List D), ds = [.sl es] ∧ es.length ≤ 1048576 ∧ ∃ m, m < n ∧ ∀ c ∈ es, Ty P m e c := by
  cases n with
  | zero => exact h.elim
  | succ n =>
    unfold Ty at h; rw [hu] at h
    obtain ⟨es, h1, h2, h3⟩ := h
    exact ⟨es, h1, h2, n, by omega, h3⟩
theorem tySt {P : Program} {n : Nat} {t : TypeId} {fs : Array Field} {ts : List TypeId} {ds : List D} (hu : P.underlying t = some (.struct fs)) (hf : fs.toList.map (·.type) = ts) (h : Ty P n t ds) : ∃ m, m < n ∧ TyL (Ty P m) ts ds := by
  cases n with
  | zero => exact h.elim
  | succ n =>
    unfold Ty at h; rw [hu] at h
    exact ⟨n, by omega, hf ▸ h⟩
theorem lim_of {n : Nat} (h : n ≤ 1048576) : n ≤ LIM := by unfold LIM; omega
theorem ty_at {n : Nat} {ds : List D} (h : Ty Tryd.prog n 46 ds) : ∃ a : At, ds = atD a ∧ (a.1.size ≤ LIM ∧ a.2.size ≤ LIM) := by
  obtain ⟨m, _, h⟩ := tySt (ts := [9, 9]) Tryd.underlying46 rfl h
  obtain ⟨x, r, rfl, h1, y, r2, rfl, h2, rfl⟩ := h
  obtain ⟨s, rfl, hs⟩ := tyS Tryd.underlying9 h1
  obtain ⟨u, rfl, hu⟩ := tyS Tryd.underlying9 h2
  exact ⟨(s, u), rfl, lim_of hs, lim_of hu⟩
theorem ty_it {n : Nat} {ds : List D} (h : Ty Tryd.prog n 61 ds) : ∃ x : It, ds = itD x ∧ (x.n.size ≤ LIM ∧ x.c.size ≤ LIM) := by
  obtain ⟨m, _, h⟩ := tySt (ts := [9, 9, 3, 4]) Tryd.underlying61 rfl h
  obtain ⟨_, _, rfl, h1, _, _, rfl, h2, _, _, rfl, h3, _, _, rfl, h4, rfl⟩ := h
  obtain ⟨c, rfl, hc⟩ := tyS Tryd.underlying9 h1
  obtain ⟨n, rfl, hn⟩ := tyS Tryd.underlying9 h2
  obtain ⟨s, rfl, _⟩ := tyI Tryd.underlying3 h3
  obtain ⟨b, rfl⟩ := tyB Tryd.underlying4 h4
  exact ⟨⟨c, n, s, b⟩, rfl, lim_of hn, lim_of hc⟩
theorem ty_el : ∀ (n : Nat) (ds : List D), Ty Tryd.prog n 29 ds → ∃ e : El, ds = elD e ∧ e.fit := by
  intro n
  induction n using Nat.strongRecOn with
  | ind n ih =>
    intro ds h
    obtain ⟨m, hm, h⟩ := tySt (ts := [9, 26, 9, 27]) Tryd.underlying29 rfl h
    obtain ⟨_, _, rfl, h1, _, _, rfl, h2, _, _, rfl, h3, _, _, rfl, h4, rfl⟩ := h
    obtain ⟨nm, rfl, hnm⟩ := tyS Tryd.underlying9 h1
    obtain ⟨as', rfl, hal, m2, hm2, ha⟩ := tyL Tryd.underlying26 h2
    obtain ⟨t, rfl, ht⟩ := tyS Tryd.underlying9 h3
    obtain ⟨ks, rfl, hkl, m4, hm4, hk⟩ := tyL Tryd.underlying27 h4
    obtain ⟨l, rfl, hl⟩ := list_of atD (fun a => a.1.size ≤ LIM ∧ a.2.size ≤ LIM) as' fun c hc => ty_at (ha c hc)
    obtain ⟨k, rfl, hkk⟩ := list_of elD El.fit ks fun c hc => ih m4 (by omega) c (hk c hc)
    refine ⟨.mk nm l t k, by simp [elD, atsD, ksD_eq], lim_of hnm, lim_of ht, ⟨lim_of (by simpa using hal), hl⟩, lim_of (by simpa using hkl), fitK_of hkk⟩
theorem arg_el {a : AV} (h : TyArg Tryd.prog 29 a) : ∃ n l t k, a = .ag [mkS n, .d (.sl (atsD l)), mkS t, .d (.sl (ksD k))] ∧ FitE (.mk n l t k) := by
  obtain ⟨m, ds, h1, h2⟩ := h
  obtain ⟨⟨n, l, t, k⟩, e, hf⟩ := ty_el m ds h1
  exact ⟨n, l, t, k, by rw [h2, e, show aggB Tryd.prog 29 = true by unfold aggB; rw [Tryd.underlying29]]; rfl, ⟨hf⟩⟩
theorem arg_sz {a : AV} (h : TyArg Tryd.prog 25 a) : ∃ s : Sz, a = szV s ∧ FitS s := by
  obtain ⟨m, ds, g1, h0⟩ := h
  obtain ⟨m, _, h⟩ := tySt (ts := [3, 9, 9, 9, 9, 9, 9, 9, 22, 3, 4, 23]) Tryd.underlying25 rfl g1
  obtain ⟨_, _, rfl, h1, _, _, rfl, h2, _, _, rfl, h3, _, _, rfl, h4, _, _, rfl, h5, _, _, rfl, h6, _, _, rfl, h7, _, _, rfl, h8, _, _, rfl, h9, _, _, rfl, h10, _, _, rfl, h11, _, _, rfl, h12, rfl⟩ := h
  obtain ⟨kind, rfl, _⟩ := tyI Tryd.underlying3 h1
  obtain ⟨ty, rfl, f2⟩ := tyS Tryd.underlying9 h2
  obtain ⟨id, rfl, f3⟩ := tyS Tryd.underlying9 h3
  obtain ⟨fr, rfl, f4⟩ := tyS Tryd.underlying9 h4
  obtain ⟨to_, rfl, f5⟩ := tyS Tryd.underlying9 h5
  obtain ⟨sh, rfl, f6⟩ := tyS Tryd.underlying9 h6
  obtain ⟨tk, rfl, f7⟩ := tyS Tryd.underlying9 h7
  obtain ⟨re, rfl, f8⟩ := tyS Tryd.underlying9 h8
  obtain ⟨hh, rfl, f9⟩ := tyI Tryd.underlying22 h9
  obtain ⟨v, rfl, _⟩ := tyI Tryd.underlying3 h10
  obtain ⟨r, rfl⟩ := tyB Tryd.underlying4 h11
  obtain ⟨es, rfl, hel, m4, _, he⟩ := tyL Tryd.underlying23 h12
  obtain ⟨xs, rfl, hx⟩ := list_of itD (fun x : It => x.n.size ≤ LIM ∧ x.c.size ≤ LIM) es fun c hc => ty_it (he c hc)
  refine ⟨⟨kind, ty, id, fr, to_, sh, tk, re, hh, v, r, xs⟩, by rw [h0, show aggB Tryd.prog 25 = true by unfold aggB; rw [Tryd.underlying25]]; rfl, ⟨lim_of (by simpa using hel), hx, lim_of f2, lim_of f3, lim_of f4, lim_of f5, lim_of f6, lim_of f7, lim_of f8, ?_⟩⟩
  simp only [Lit.wf, Bool.and_eq_true, decide_eq_true_eq] at f9
  have e1 : IntKind.u32.min = 0 := rfl
  have e2 : IntKind.u32.max = 4294967295 := rfl
  exact ⟨by rw [← e1]; exact f9.1, by rw [← e2]; exact f9.2⟩
end Go.Proofs.YtoobhfbamikanaaDoor
