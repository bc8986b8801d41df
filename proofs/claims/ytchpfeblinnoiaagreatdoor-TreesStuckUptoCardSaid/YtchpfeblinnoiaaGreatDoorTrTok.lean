import Derived.Test.YtchpfeblinnoiaaGreatDoorTrTkP5
import Derived.Test.YtchpfeblinnoiaaGreatDoorAmPart
import Derived.Test.YtchpfeblinnoiaaGreatDoorFrame3
set_option linter.unusedSimpArgs false
set_option linter.unusedVariables false
set_option maxRecDepth 10000
namespace Go.Proofs.YtchpfeblinnoiaaGreatDoor
open Go Go.AM Go.RowKit
attribute [local irreducible] aUnr aUnS aCode
theorem rTkN (t : TokA) (q : AV → List Ob → Prop) :
  (aUnS Tryz.K GTkI 4 Tryz.b11 (kRetF Tryz.K Tryz.f11.results.toList q) ⟨[.d (.v (.pointer none)), tokV t] ++ List.replicate (Tryz.f11.ntmps - 2) .jk, [.gh []]⟩) = (
  q (AV.tp [AV.ag [mkI .i64 0, mkS ⟨#[]⟩, AV.nl, mkS ⟨#[]⟩, AV.nl], mkB false, mkI .i64 1]) [Ob.gh [], Ob.box [mkI .i64 (TokA.kind t), mkS (TokA.name t), AV.d (.sl (TokA.attrs t)), mkS (TokA.text t)], Ob.box [mkI .i64 0, mkS ⟨#[]⟩, AV.nl, mkS ⟨#[]⟩, AV.nl]]) := by kernel_rfl
theorem rDpN (q : AV → List Ob → Prop) :
  (aUnS Tryz.K GTkI 4 Tryz.b14 (kRetF Tryz.K Tryz.f14.results.toList q) ⟨[.d (.v (.pointer none))] ++ List.replicate (Tryz.f14.ntmps - 1) .jk, [.gh []]⟩) = (
  q (mkI .i64 0) [Ob.gh []]) := by kernel_rfl
theorem rDp0 (n : Nat) (cnt : Int) (ov : Bool) (err : Int) (r : List Ob) (q : AV → List Ob → Prop) :
  (aUnS Tryz.K GTkI 4 Tryz.b14 (kRetF Tryz.K Tryz.f14.results.toList q) ⟨[.rf 0 0] ++ List.replicate (Tryz.f14.ntmps - 1) .jk, .box [.vw 2 n, mkI .i64 cnt, mkB ov, mkI .i64 err] :: .gh [.rf 0 0] :: r⟩) = (
  bcase (err != (0 : Int)) (
   q (mkI .i64 0) (List.cons (Ob.box [AV.vw 2 n, mkI .i64 cnt, mkB ov, mkI .i64 err]) (List.cons (Ob.gh [AV.rf 0 0]) r))) (
   q (mkI .i64 (n : Int)) (List.cons (Ob.box [AV.vw 2 n, mkI .i64 cnt, mkB ov, mkI .i64 err]) (List.cons (Ob.gh [AV.rf 0 0]) r)))) := by kernel_rfl
def ETkX : List AV → List Ob → (AV → List Ob → Prop) → Prop := fun al o q => ∃ (s : St) (t : TokA), al = [.rf 0 0, tokV t] ∧ o = expO s ∧ OkT s t ∧ q (resA (takeM s t)) (bunS (takeM s t).1)
theorem cTkX : RSound Tryz.prog 11 ETkX := by
  refine ref_gen trimW trimW_ok (unS_bsound 4 mixed Tryz.K_ok gTkI Tryz.b11) Tryz.K_ok Tryz.func11 rfl rfl Tryz.call11 fun al o q ⟨s, t, h1, h2, hk, hq⟩ => ?_
  subst h1 h2
  obtain ⟨op, cnt, ov, err⟩ := s
  match op, hk, hq with
  | [], hk, hq => exact wTk0 t cnt ov err q hk hq
  | [e1], hk, hq => exact wTk1 t cnt ov err e1 q hk hq
  | [e1, e2], hk, hq => exact wTk2 t cnt ov err e1 e2 q hk hq
  | [e1, e2, e3], hk, hq => exact wTk3 t cnt ov err e1 e2 e3 q hk hq
  | [e1, e2, e3, e4], hk, hq => exact wTk4 t cnt ov err e1 e2 e3 e4 q hk hq
  | [e1, e2, e3, e4, e5], hk, hq => exact wTk5 t cnt ov err e1 e2 e3 e4 e5 q hk hq
  | _ :: _ :: _ :: _ :: _ :: _ :: _, hk, hq => exact absurd hk.len (by simp)
theorem weak_exp0 {al al' : List AV} {s : St} (hf : (unbO 0 (bldL s) (bunS s)).all Ob.firmO = true) (e : S.unb 0 (bldL s) ⟨al, bunS s⟩ = ⟨al', expO s⟩) : Weak ⟨al, bunS s⟩ ⟨al', expO s⟩ := e ▸ weak_unb rfl hf
theorem weak_exp (t : TokA) (s : St) (h : s.op.length ≤ 5) : Weak ⟨[.rf 0 0, tokV t], bunS s⟩ ⟨[.rf 0 0, tokV t], expO s⟩ := by
  obtain ⟨op, cnt, ov, err⟩ := s
  match op, h with
  | [], _ => exact weak_exp0 (by kernel_rfl) (by kernel_rfl)
  | [e1], _ => exact weak_exp0 (by kernel_rfl) (by kernel_rfl)
  | [e1, e2], _ => exact weak_exp0 (by kernel_rfl) (by kernel_rfl)
  | [e1, e2, e3], _ => exact weak_exp0 (by kernel_rfl) (by kernel_rfl)
  | [e1, e2, e3, e4], _ => exact weak_exp0 (by kernel_rfl) (by kernel_rfl)
  | [e1, e2, e3, e4, e5], _ => exact weak_exp0 (by kernel_rfl) (by kernel_rfl)
  | _ :: _ :: _ :: _ :: _ :: _ :: _, h => exact absurd h (by simp)
theorem weak_exp' (s : St) (h : s.op.length ≤ 5) : Weak ⟨[.rf 0 0], bunS s⟩ ⟨[.rf 0 0], expO s⟩ := by
  obtain ⟨op, cnt, ov, err⟩ := s
  match op, h with
  | [], _ => exact weak_exp0 (by kernel_rfl) (by kernel_rfl)
  | [e1], _ => exact weak_exp0 (by kernel_rfl) (by kernel_rfl)
  | [e1, e2], _ => exact weak_exp0 (by kernel_rfl) (by kernel_rfl)
  | [e1, e2, e3], _ => exact weak_exp0 (by kernel_rfl) (by kernel_rfl)
  | [e1, e2, e3, e4], _ => exact weak_exp0 (by kernel_rfl) (by kernel_rfl)
  | [e1, e2, e3, e4, e5], _ => exact weak_exp0 (by kernel_rfl) (by kernel_rfl)
  | _ :: _ :: _ :: _ :: _ :: _ :: _, h => exact absurd h (by simp)
def ETk : List AV → List Ob → (AV → List Ob → Prop) → Prop := fun al o q => match al with
  | [.d (.v (.pointer none)), x] => ∃ t : TokA, x = tokV t ∧ o = [.gh []] ∧ q (.tp [Ev.no.av, mkB false, mkI .i64 1]) [.gh []]
  | [.rf 0 0, x] => ∃ (s : St) (t : TokA), x = tokV t ∧ o = bunS s ∧ OkT s t ∧ q (resA (takeM s t)) (bunS (takeM s t).1)
  | _ => False
def ETkN : List AV → List Ob → (AV → List Ob → Prop) → Prop := fun al o q => ∃ t : TokA, al = [.d (.v (.pointer none)), tokV t] ∧ o = [.gh []] ∧ q (.tp [Ev.no.av, mkB false, mkI .i64 1]) [.gh []]
theorem cTkN : RSound Tryz.prog 11 ETkN := by
  refine ref_gen trimW trimW_ok (unS_bsound 4 mixed Tryz.K_ok gTkI Tryz.b11) Tryz.K_ok Tryz.func11 rfl rfl Tryz.call11 fun al o q ⟨t, h1, h2, hq⟩ => ?_
  subst h1 h2
  refine cast (rTkN t (trimW q)).symm ?_
  exact ⟨_, _, weak_packG [some 0] rfl, hq⟩
theorem rsound_or {P : Program} {f : FuncId} {E1 E2 E : List AV → List Ob → (AV → List Ob → Prop) → Prop} (h1 : RSound P f E1) (h2 : RSound P f E2) (h : ∀ al o q, E al o q → E1 al o q ∨ E2 al o q) : RSound P f E :=
  ⟨h1.enter, fun X o gv al vs q g hgh hT hlen hrel hE => (h al o q hE).elim (fun hh => h1.call X o gv al vs q g hgh hT hlen hrel hh) (fun hh => h2.call X o gv al vs q g hgh hT hlen hrel hh)⟩
theorem cTk : RSound Tryz.prog 11 ETk := by
  refine rsound_or (RSound.weak (E := fun al o q => ∃ (s : St) (t : TokA), al = [.rf 0 0, tokV t] ∧ o = bunS s ∧ OkT s t ∧ q (resA (takeM s t)) (bunS (takeM s t).1)) cTkX fun al o q ⟨s, t, h1, h2, hk, hq⟩ => ?_) cTkN fun al o q h => ?_
  · subst h1 h2
    exact ⟨_, _, weak_exp t s hk.len, s, t, rfl, rfl, hk, _, _, Weak.refl _, hq⟩
  · unfold ETk at h
    split at h
    · obtain ⟨t, rfl, rfl, hq⟩ := h
      exact .inr ⟨t, rfl, rfl, hq⟩
    · obtain ⟨s, t, rfl, rfl, hk, hq⟩ := h
      exact .inl ⟨s, t, rfl, rfl, hk, hq⟩
    · exact h.elim
def depM (s : St) : Int := bif s.err != 0 then 0 else (s.op.length : Int)
def EDpX : List AV → List Ob → (AV → List Ob → Prop) → Prop := fun al o q => ∃ s : St, al = [.rf 0 0] ∧ o = expO s ∧ s.op.length ≤ 5 ∧ q (mkI .i64 (depM s)) (bunS s)
theorem packT (s : St) (v : Int) (h : s.op.length ≤ 5) : Weak ⟨[mkI .i64 v], expO s⟩ ⟨[mkI .i64 v], bunS s⟩ := by
  obtain ⟨op, cnt, ov, err⟩ := s
  have pk : ∀ (js : List Nat) (s : S) (s' : S), okPack js s = true → packS js s = s' → Weak s s' := fun js s s' h e => e ▸ weak_packS h
  match op, h with
  | [], _ => exact pk [2] _ _ (by kernel_rfl) (by kernel_rfl)
  | [e1], _ => exact pk [2, 3, 4] _ _ (by kernel_rfl) (by kernel_rfl)
  | [e1, e2], _ => exact pk [2, 3, 4, 5, 6] _ _ (by kernel_rfl) (by kernel_rfl)
  | [e1, e2, e3], _ => exact pk [2, 3, 4, 5, 6, 7, 8] _ _ (by kernel_rfl) (by kernel_rfl)
  | [e1, e2, e3, e4], _ => exact pk [2, 3, 4, 5, 6, 7, 8, 9, 10] _ _ (by kernel_rfl) (by kernel_rfl)
  | [e1, e2, e3, e4, e5], _ => exact pk [2, 3, 4, 5, 6, 7, 8, 9, 10, 11, 12] _ _ (by kernel_rfl) (by kernel_rfl)
  | _ :: _ :: _ :: _ :: _ :: _ :: _, h => exact absurd h (by simp)
theorem cDpX : RSound Tryz.prog 14 EDpX := by
  refine ref_gen trimW trimW_ok (unS_bsound 4 mixed Tryz.K_ok gTkI Tryz.b14) Tryz.K_ok Tryz.func14 rfl rfl Tryz.call14 fun al o q ⟨s, h1, h2, hl, hq⟩ => ?_
  subst h1 h2
  refine cast (rDp0 s.op.length s.cnt s.ov s.err _ (trimW q)).symm ?_
  unfold depM at hq
  refine bcase_mk (fun h => ?_) (fun h => ?_)
  · rw [h] at hq
    exact ⟨_, _, packT s 0 hl, hq⟩
  · rw [h] at hq
    exact ⟨_, _, packT s _ hl, hq⟩
def EDpN : List AV → List Ob → (AV → List Ob → Prop) → Prop := fun al o q => al = [.d (.v (.pointer none))] ∧ o = [.gh []] ∧ q (mkI .i64 0) [.gh []]
theorem cDpN : RSound Tryz.prog 14 EDpN := by
  refine ref_gen trimW trimW_ok (unS_bsound 4 mixed Tryz.K_ok gTkI Tryz.b14) Tryz.K_ok Tryz.func14 rfl rfl Tryz.call14 fun al o q ⟨h1, h2, hq⟩ => ?_
  subst h1 h2
  exact cast (rDpN (trimW q)).symm ⟨_, _, Weak.refl _, hq⟩
def EDp : List AV → List Ob → (AV → List Ob → Prop) → Prop := fun al o q => match al with
  | [.d (.v (.pointer none))] => o = [.gh []] ∧ q (mkI .i64 0) [.gh []]
  | [.rf 0 0] => ∃ s : St, o = bunS s ∧ s.op.length ≤ 5 ∧ q (mkI .i64 (depM s)) (bunS s)
  | _ => False
theorem cDep : RSound Tryz.prog 14 EDp := by
  refine rsound_or (RSound.weak (E := fun al o q => ∃ s : St, al = [.rf 0 0] ∧ o = bunS s ∧ s.op.length ≤ 5 ∧ q (mkI .i64 (depM s)) (bunS s)) cDpX fun al o q ⟨s, h1, h2, hk, hq⟩ => ?_) cDpN fun al o q h => ?_
  · subst h1 h2
    exact ⟨_, _, weak_exp' s hk, s, rfl, rfl, hk, _, _, Weak.refl _, hq⟩
  · unfold EDp at h
    split at h
    · exact .inr ⟨rfl, h.1, h.2⟩
    · obtain ⟨s, rfl, hk, hq⟩ := h
      exact .inl ⟨s, rfl, rfl, hk, hq⟩
    · exact h.elim
end Go.Proofs.YtchpfeblinnoiaaGreatDoor

namespace Go.Proofs.YtchpfeblinnoiaaGreatDoor
open Go Go.AM Go.RowKit
theorem weak_leN {x y : AV} {o : List Ob} (h : LeN x y) : Weak ⟨[x], o⟩ ⟨[y], o⟩ := fun w0 own0 X a hs => ⟨X, rfl, ⟨hs.len, fun i hi => by
  have : i = 0 := by simpa using hi
  subst this
  exact h.rel (hs.slot 0 (by simp)), hs.defers, hs.g, hs.ext, hs.fr, hs.new, hs.gh, hs.tab⟩⟩
def evK : Ev → Int × ByteArray × List (List D) × ByteArray × List (List D)
  | .no => (0, ⟨#[]⟩, [], ⟨#[]⟩, [])
  | .head n a => (1, n, a, ⟨#[]⟩, [])
  | .item e => (2, e.name, e.attrs, e.text, e.kids.take e.kids.length)
  | .foot => (3, ⟨#[]⟩, [], ⟨#[]⟩, [])
abbrev evC (k : Int) (n : ByteArray) (a : List (List D)) (x : ByteArray) (ks : List (List D)) : AV := .ag [mkI .i64 k, mkS n, .d (.sl a), mkS x, .d (.sl ks)]
theorem leN_ev (ev : Ev) : LeN ev.av (evC (evK ev).1 (evK ev).2.1 (evK ev).2.2.1 (evK ev).2.2.2.1 (evK ev).2.2.2.2) := by
  have five : ∀ {a b c d e : AV} {b' d' : AV}, LeN c d' → LeN e b' → LeN (.ag [a, b, c, d, e]) (.ag [a, b, d', d, b']) := fun h1 h2 => .ag rfl fun i h _ => by
    match i, h with
    | 0, _ => exact .refl _
    | 1, _ => exact .refl _
    | 2, _ => exact h1
    | 3, _ => exact .refl _
    | 4, _ => exact h2
  cases ev with
  | no => exact five .nil .nil
  | head n a => exact five (.refl _) .nil
  | item e => exact .refl _
  | foot => exact five .nil .nil
structure Took (s : St) (t : TokA) (s' : St) (ev : Ev) (ok : Bool) (e k : Int) (n : ByteArray) (a : List (List D)) (tx : ByteArray) (ks : List (List D)) : Prop where
  eq : takeM s t = (s', ev, ok, e)
  ek : evK ev = (k, n, a, tx, ks)
def ETk2 : List AV → List Ob → (AV → List Ob → Prop) → Prop := fun al o q => match al with
  | [.d (.v (.pointer none)), x] => ∃ t : TokA, x = tokV t ∧ o = [.gh []] ∧ q (.tp [evC 0 ⟨#[]⟩ [] ⟨#[]⟩ [], mkB false, mkI .i64 1]) [.gh []]
  | [.rf 0 0, x] => ∃ (s : St) (t : TokA), x = tokV t ∧ o = bunS s ∧ OkT s t ∧ ∀ (s' : St) (ev : Ev) (ok : Bool) (e k : Int) (n : ByteArray) (a : List (List D)) (tx : ByteArray) (ks : List (List D)),
      Took s t s' ev ok e k n a tx ks → q (.tp [evC k n a tx ks, mkB ok, mkI .i64 e]) (bunS s')
  | _ => False
theorem cTk2 : RSound Tryz.prog 11 ETk2 := RSound.weak cTk fun al o q h => by
  refine ⟨al, o, Weak.refl _, ?_⟩
  unfold ETk2 at h
  unfold ETk
  split at h
  · obtain ⟨t, rfl, rfl, hq⟩ := h
    exact ⟨t, rfl, rfl, _, _, weak_leN (leN_tp3 (leN_ev .no) (.refl _) (.refl _)), hq⟩
  · obtain ⟨s, t, rfl, rfl, hk, hq⟩ := h
    exact ⟨s, t, rfl, rfl, hk, _, _, weak_leN (leN_tp3 (leN_ev _) (.refl _) (.refl _)), hq _ _ _ _ _ _ _ _ _ ⟨rfl, rfl⟩⟩
  · exact h.elim
end Go.Proofs.YtchpfeblinnoiaaGreatDoor

namespace Go.Proofs.YtchpfeblinnoiaaGreatDoor
open Go Go.AM Go.RowKit
def PrM (x : St × Ev × Bool × Int) : Prop := x.2.2.2 = x.1.err ∧ (x.2.2.1 = true → x.2.2.2 = 0)
theorem takeM_pr (s : St) (t : TokA) : PrM (takeM s t) := by
  unfold takeM
  simp only [Bool.cond_eq_ite]
  split
  · exact ⟨rfl, fun h => by cases h⟩
  split
  · exact ⟨rfl, fun h => by cases h⟩
  split
  · exact ⟨rfl, fun h => by cases h⟩
  split
  · exact ⟨rfl, fun h => by cases h⟩
  split
  · split
    · exact ⟨rfl, fun h => by cases h⟩
    · exact ⟨rfl, fun _ => rfl⟩
  · split
    · simp only [oneM, failM, Bool.cond_eq_ite]
      repeat' split
      all_goals exact ⟨rfl, fun h => by first | rfl | cases h⟩
    · simp only [manyM, popM, failM, Bool.cond_eq_ite]
      repeat' split
      all_goals exact ⟨rfl, fun h => by first | rfl | cases h⟩
theorem takeM_e (s : St) (t : TokA) : (takeM s t).2.2.2 = (takeM s t).1.err := (takeM_pr s t).1
theorem takeM_ok (s : St) (t : TokA) (h : (takeM s t).2.2.1 = true) : (takeM s t).2.2.2 = 0 := (takeM_pr s t).2 h
theorem takeM_err (s : St) (t : TokA) (h : s.err ≠ 0) : takeM s t = (s, .no, false, s.err) := by
  unfold takeM
  have : (s.err != 0) = true := by simpa using h
  rw [this]; rfl
inductive OpT (s : St) (t : TokA) : List El → Prop
  | same : OpT s t s.op
  | first (h : s.op = []) : OpT s t [newE0 t]
  | second (e : El) (h : s.op = [e]) : OpT s t [e, newE0 t]
  | over (e : El) (h : s.op = [e]) : OpT s t []
  | push (h1 : 2 ≤ s.op.length) (h2 : s.op.length ≤ 4) (h3 : (lastE s.op).kids.length ≠ 16) : OpT s t (onLast bump s.op ++ [newE0 t])
  | pop1 (r : El) (h : s.op.dropLast = [r]) : OpT s t [r]
  | pop (h : 2 ≤ s.op.length) : OpT s t (onLast (setKid (elV (lastE s.op))) s.op.dropLast)
  | text (h : 2 ≤ s.op.length) : OpT s t (onLast (addText t.text) s.op)
theorem takeM_op (s : St) (t : TokA) : OpT s t (takeM s t).1.op := by
  obtain ⟨op, cnt, ov, err⟩ := s
  unfold takeM
  simp only [Bool.cond_eq_ite]
  split
  · exact .same
  split
  · exact .same
  split
  · exact .same
  split
  · exact .same
  match op with
  | [] =>
    simp only
    split
    · exact .same
    · exact .first rfl
  | [e] =>
    simp only [oneM, failM, Bool.cond_eq_ite]
    repeat' split
    · exact .second e rfl
    · exact .same
    · exact .over e rfl
    · exact .same
    · exact .same
  | e :: f :: l =>
    simp only [manyM, failM, Bool.cond_eq_ite]
    split
    · exact .same
    split
    · split
      · exact .same
      · rename_i h4
        split
        · exact .same
        · rename_i h5
          exact .push (by simp) (by simpa using h4) (by intro hh; apply h5; rw [hh]; rfl)
    split
    · split
      · exact .same
      · unfold popM
        split
        · rename_i r hr
          exact .pop1 r hr
        · exact .pop (by simp)
    · exact .text (by simp)
theorem onLast_eq (f : El → El) : ∀ l : List El, l ≠ [] → onLast f l = l.dropLast ++ [f (lastE l)]
  | [], h => absurd rfl h
  | [e], _ => rfl
  | e :: g :: l, _ => by
    show e :: onLast f (g :: l) = _
    rw [onLast_eq f (g :: l) (by simp)]
    rfl
theorem lastE_eq : ∀ l : List El, l ≠ [] → l = l.dropLast ++ [lastE l]
  | [], h => absurd rfl h
  | [e], _ => rfl
  | e :: g :: l, _ => by
    show _ = e :: ((g :: l).dropLast ++ [lastE (g :: l)])
    rw [← lastE_eq (g :: l) (by simp)]
structure GdL (l : List El) (m : Nat) : Prop where
  len : l.length ≤ 5
  tx : ∀ e ∈ l, e.text.size ≤ m
  k16 : ∀ e ∈ l, e.kids.length ≤ 16
  k4 : ∀ e ∈ l, ∀ c ∈ e.kids, c.length = 4
  par : ∀ (i : Nat) (e : El), 1 ≤ i → i + 1 < l.length → l[i]? = some e → e.kids ≠ []
theorem GdL.nil (m : Nat) : GdL [] m := ⟨by simp, by simp, by simp, by simp, by simp⟩
theorem GdL.mono {l : List El} {m n : Nat} (h : GdL l m) (hmn : m ≤ n) : GdL l n := ⟨h.len, fun e he => Nat.le_trans (h.tx e he) hmn, h.k16, h.k4, h.par⟩
theorem GdL.last {D : List El} {x y : El} {m n : Nat} (h : GdL (D ++ [x]) m) (hmn : m ≤ n) (h1 : y.text.size ≤ n) (h2 : y.kids.length ≤ 16) (h3 : ∀ c ∈ y.kids, c.length = 4) : GdL (D ++ [y]) n := by
  refine ⟨by have := h.len; simpa using this, fun e he => ?_, fun e he => ?_, fun e he => ?_, fun i e hi hl he => ?_⟩
  · rcases List.mem_append.1 he with he | he
    · exact Nat.le_trans (h.tx e (List.mem_append.2 (.inl he))) hmn
    · rw [List.mem_singleton] at he; subst he; exact h1
  · rcases List.mem_append.1 he with he | he
    · exact h.k16 e (List.mem_append.2 (.inl he))
    · rw [List.mem_singleton] at he; subst he; exact h2
  · rcases List.mem_append.1 he with he | he
    · exact h.k4 e (List.mem_append.2 (.inl he))
    · rw [List.mem_singleton] at he; subst he; exact h3
  · have hl' : i < D.length := by simp at hl; omega
    refine h.par i e hi (by simpa using hl) ?_
    rw [List.getElem?_append_left hl'] at he ⊢
    exact he
theorem GdL.init {D : List El} {x : El} {m : Nat} (h : GdL (D ++ [x]) m) : GdL D m := by
  refine ⟨by have := h.len; simp at this; omega, fun e he => h.tx e (List.mem_append.2 (.inl he)), fun e he => h.k16 e (List.mem_append.2 (.inl he)), fun e he => h.k4 e (List.mem_append.2 (.inl he)), fun i e hi hl he => ?_⟩
  refine h.par i e hi (by simp; omega) ?_
  rw [List.getElem?_append_left (by omega)]
  exact he
theorem GdL.snoc {D : List El} {x y : El} {m : Nat} (h : GdL (D ++ [x]) m) (hl : D.length + 2 ≤ 5) (hx : 1 ≤ D.length → x.kids ≠ []) (h1 : y.text.size ≤ m) (h2 : y.kids = []) : GdL (D ++ [x] ++ [y]) m := by
  refine ⟨by simpa using hl, fun e he => ?_, fun e he => ?_, fun e he => ?_, fun i e hi hl he => ?_⟩
  · rcases List.mem_append.1 he with he | he
    · exact h.tx e he
    · rw [List.mem_singleton] at he; subst he; exact h1
  · rcases List.mem_append.1 he with he | he
    · exact h.k16 e he
    · rw [List.mem_singleton] at he; subst he; rw [h2]; simp
  · rcases List.mem_append.1 he with he | he
    · exact h.k4 e he
    · rw [List.mem_singleton] at he; subst he; rw [h2]; simp
  · simp only [List.length_append, List.length_singleton] at hl
    rw [List.getElem?_append_left (by simp; omega)] at he
    by_cases hi2 : i = D.length
    · subst hi2
      rw [List.getElem?_append_right (Nat.le_refl _), Nat.sub_self] at he
      simp only [List.getElem?_cons_zero, Option.some.injEq] at he
      subst he; exact hx hi
    · exact h.par i e hi (by simp; omega) he
theorem gd_take {s : St} {t : TokA} {m b : Nat} (h : GdL s.op m) (hb : t.text.size ≤ b) : GdL (takeM s t).1.op (m + b) := by
  have key : ∀ l, OpT s t l → GdL l (m + b) := fun l hl => by
    have sp : s.op ≠ [] → GdL (s.op.dropLast ++ [lastE s.op]) m := fun hne => (lastE_eq s.op hne) ▸ h
    cases hl with
    | same => exact h.mono (Nat.le_add_right _ _)
    | first he =>
      have h0 : GdL ([] ++ [newE0 t]) 0 := by
        refine ⟨by simp, fun e he => ?_, fun e he => ?_, fun e he => ?_, fun i e hi hl he => by simp at hl⟩
        · rw [List.nil_append, List.mem_singleton] at he; subst he; exact Nat.le_refl 0
        · rw [List.nil_append, List.mem_singleton] at he; subst he; exact Nat.zero_le _
        · rw [List.nil_append, List.mem_singleton] at he; subst he; intro c hc; cases hc
      exact h0.mono (Nat.zero_le _)
    | second e he =>
      have h' := he ▸ h
      exact GdL.snoc (D := []) (h'.mono (Nat.le_add_right _ _)) (by simp) (by simp) (by simp [newE0, ByteArray.size]) rfl
    | over e he => exact .nil _
    | push h1 h2 h3 =>
      have hne : s.op ≠ [] := fun e => by rw [e] at h1; simp at h1
      have hs := sp hne
      have hl : s.op.dropLast.length + 1 = s.op.length := by rw [List.length_dropLast]; omega
      rw [onLast_eq _ _ hne]
      refine GdL.snoc (GdL.last hs (Nat.le_add_right _ _) ?_ ?_ ?_) (by omega) (fun _ => by simp [bump]) (by simp [newE0, ByteArray.size]) rfl
      · exact Nat.le_trans (hs.tx (lastE s.op) (by simp)) (Nat.le_add_right _ _)
      · have := hs.k16 (lastE s.op) (by simp)
        simp [bump]; omega
      · intro c hc
        rcases List.mem_append.1 hc with hc | hc
        · exact hs.k4 (lastE s.op) (by simp) c hc
        · rw [List.mem_singleton] at hc; subst hc; rfl
    | pop1 r hr =>
      have hne : s.op ≠ [] := fun e => by rw [e] at hr; simp at hr
      exact (hr ▸ (sp hne).init).mono (Nat.le_add_right _ _)
    | pop h1 =>
      have hne : s.op ≠ [] := fun e => by rw [e] at h1; simp at h1
      have hd : s.op.dropLast ≠ [] := fun e => by have := congrArg List.length e; rw [List.length_dropLast] at this; simp at this; omega
      have hs := (sp hne).init
      have hs2 : GdL (s.op.dropLast.dropLast ++ [lastE s.op.dropLast]) m := (lastE_eq s.op.dropLast hd) ▸ hs
      rw [onLast_eq _ _ hd]
      refine GdL.last hs2 (Nat.le_add_right _ _) ?_ ?_ ?_
      · exact Nat.le_trans (hs2.tx (lastE s.op.dropLast) (by simp)) (Nat.le_add_right _ _)
      · have := hs2.k16 (lastE s.op.dropLast) (by simp)
        simpa [setKid] using this
      · intro c hc
        rcases List.mem_or_eq_of_mem_set hc with hc | rfl
        · exact hs2.k4 (lastE s.op.dropLast) (by simp) c hc
        · rfl
    | text h1 =>
      have hne : s.op ≠ [] := fun e => by rw [e] at h1; simp at h1
      have hs := sp hne
      rw [onLast_eq _ _ hne]
      refine GdL.last hs (Nat.le_add_right _ _) ?_ (hs.k16 (lastE s.op) (by simp)) (hs.k4 (lastE s.op) (by simp))
      have := hs.tx (lastE s.op) (by simp)
      simp only [addText, ByteArray.size_append]
      omega
  exact key _ (takeM_op s t)
theorem okT_of {s : St} {t : TokA} {m b : Nat} (h : GdL s.op m) (ha : ∀ c ∈ t.attrs, c.length = 2) (hb : t.text.size ≤ b) (hl : m + b ≤ LIM) : OkT s t :=
  ⟨ha, fun e he => by have := h.tx e he; omega, h.k16, h.k4, fun i hh h1 => h.par i _ h1 hh (List.getElem?_eq_getElem (by omega)), h.len⟩
end Go.Proofs.YtchpfeblinnoiaaGreatDoor

namespace Go.Proofs.YtchpfeblinnoiaaGreatDoor
open Go Go.AM Go.RowKit
theorem tyargs1 {P : Program} {t : TypeId} : ∀ {as' : List AV}, TyArgs P [t] as' → ∃ a, as' = [a] ∧ TyArg P t a
  | [], h => h.elim
  | [a], h => ⟨a, rfl, h.1⟩
  | _ :: _ :: _, h => h.2.elim
theorem tyS {P : Program} {n : Nat} {t : TypeId} {ds : List D} (hu : P.underlying t = some .string) (h : Ty P n t ds) : ∃ s : ByteArray, ds = [.v (.string s)] ∧ s.size ≤ 1048576 := by
  cases n with
  | zero => exact h.elim
  | succ n => unfold Ty at h; rw [hu] at h; exact h
theorem tyI {P : Program} {n : Nat} {t : TypeId} {k : IntKind} {ds : List D} (hu : P.underlying t = some (.int k)) (h : Ty P n t ds) : ∃ i : Int, ds = [.v (.int k i)] ∧ (Lit.int k i).wf = true := by
  cases n with
  | zero => exact h.elim
  | succ n => unfold Ty at h; rw [hu] at h; exact h
theorem tyL {P : Program} {n : Nat} {t e : TypeId} {ds : List D} (hu : P.underlying t = some (.slice e)) (h : Ty P n t ds) : ∃ es : List (List D), ds = [.sl es] ∧ es.length ≤ 1048576 ∧ ∃ m, m < n ∧ ∀ c ∈ es, Ty P m e c := by
  cases n with
  | zero => exact h.elim
  | succ n =>
    unfold Ty at h; rw [hu] at h
    obtain ⟨es, h1, h2, h3⟩ := h
    exact ⟨es, h1, h2, n, by omega, h3⟩
theorem tySt {P : Program} {n : Nat} {t : TypeId} {fs : Array Field} {ts : List TypeId} {ds : List D} (hu : P.underlying t = some (.struct fs)) (hf : fs.toList.map (·.type) = ts) (h : Ty P n t ds) : ∃ m, m < n ∧ TyL (Ty P m) ts ds := by
  cases n with
  | zero => exact h.elim
  | succ n =>
    unfold Ty at h; rw [hu] at h
    exact ⟨n, by omega, hf ▸ h⟩
def atC (a : ByteArray × ByteArray) : List D := [.v (.string a.1), .v (.string a.2)]
theorem ty_at {n : Nat} {ds : List D} (h : Ty Tryz.prog n 53 ds) : ∃ a : ByteArray × ByteArray, ds = atC a ∧ (a.1.size ≤ 1048576 ∧ a.2.size ≤ 1048576) := by
  obtain ⟨m, _, h⟩ := tySt (ts := [9, 9]) Tryz.underlying53 rfl h
  obtain ⟨x, r, rfl, h1, y, r2, rfl, h2, rfl⟩ := h
  obtain ⟨s, rfl, hs⟩ := tyS Tryz.underlying9 h1
  obtain ⟨u, rfl, hu⟩ := tyS Tryz.underlying9 h2
  exact ⟨(s, u), rfl, hs, hu⟩
def tokC (t : TokA) : List D := [.v (.int .i64 t.kind), .v (.string t.name), .sl t.attrs, .v (.string t.text)]
structure TkF (t : TokA) : Prop where
  at2 : ∃ l : List (ByteArray × ByteArray), t.attrs = l.map atC ∧ l.length ≤ 1048576 ∧ ∀ a ∈ l, a.1.size ≤ 1048576 ∧ a.2.size ≤ 1048576
  tx : t.text.size ≤ 1048576
  nm : t.name.size ≤ 1048576
theorem TkF.len2 {t : TokA} (h : TkF t) : ∀ c ∈ t.attrs, c.length = 2 := by
  obtain ⟨l, e, _⟩ := h.at2
  intro c hc
  rw [e] at hc
  obtain ⟨a, _, rfl⟩ := List.mem_map.1 hc
  rfl
theorem ty_tok {n : Nat} {ds : List D} (h : Ty Tryz.prog n 38 ds) : ∃ t : TokA, ds = tokC t ∧ TkF t := by
  obtain ⟨m, _, h⟩ := tySt (ts := [3, 9, 29, 9]) Tryz.underlying38 rfl h
  obtain ⟨_, _, rfl, h1, _, _, rfl, h2, _, _, rfl, h3, _, _, rfl, h4, rfl⟩ := h
  obtain ⟨k, rfl, _⟩ := tyI Tryz.underlying3 h1
  obtain ⟨nm, rfl, hn⟩ := tyS Tryz.underlying9 h2
  obtain ⟨es, rfl, hl, m2, _, ha⟩ := tyL Tryz.underlying29 h3
  obtain ⟨tx, rfl, ht⟩ := tyS Tryz.underlying9 h4
  obtain ⟨l, rfl, hx⟩ := list_of atC (fun a => a.1.size ≤ 1048576 ∧ a.2.size ≤ 1048576) es fun c hc => ty_at (ha c hc)
  exact ⟨⟨k, nm, l.map atC, tx⟩, rfl, ⟨l, rfl, by simpa using hl, hx⟩, ht, hn⟩
theorem arg_toks {a : AV} (h : TyArg Tryz.prog 22 a) : ∃ l : List TokA, a = .d (.sl (l.map tokC)) ∧ l.length ≤ 1048576 ∧ ∀ t ∈ l, TkF t := by
  obtain ⟨es, rfl, hl, n, hc⟩ := arg_slice Tryz.underlying22 h
  obtain ⟨l, rfl, hx⟩ := list_of tokC TkF es fun c h => ty_tok (hc c h)
  exact ⟨l, rfl, by simpa using hl, hx⟩
end Go.Proofs.YtchpfeblinnoiaaGreatDoor
