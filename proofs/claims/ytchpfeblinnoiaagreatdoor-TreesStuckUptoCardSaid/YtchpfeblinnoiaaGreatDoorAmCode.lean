import Derived.Test.YtchpfeblinnoiaaGreatDoorAmRen
import Derived.Deep.LoopGhost
import Derived.Scope
set_option linter.unusedSimpArgs false
set_option linter.unusedVariables false
set_option linter.unnecessarySimpa false
namespace Go.AM
open Go.RowKit
structure StepTo (X X' : Cx) (kl : Option Nat) : Prop where
  keeps : Keeps X.obj X.w X'.obj X'.w
  ext : X'.ext = X.ext
  st : Streams X.w X'.w
  n : X.n ≤ X'.n
  agree : ∀ i, i < X.n → some i ≠ kl → X'.b i = X.b i ∧ X'.c i = X.c i ∧ X'.z i = X.z i ∧ X'.rw i = X.rw i
  row : ∀ r, kl = some r → X.rw r = true
  own : ∀ b, X'.obj b → X.obj b ∨ X.w.heap.size ≤ b
structure ESound (P : Program) (f : FuncId) (E : Ent) : Prop where
  enter : ∀ args w, (callFunc f args).run P w = .ok (.enter f args) w
  call : ∀ (X : Cx) (o : List Ob) (as : List AV) (vs : Array Value) (q : Q1), GRel X o → Tabs X.own X.w → vs.size = as.length → (∀ (i : Nat) (h : i < as.length), VRel X as[i] (vs.getD i undef)) → E as o q →
    Calls P f vs X.w fun e w' => ∃ v av o' kl X', e = .returned v ∧ q av o' kl ∧ X'.w = w' ∧ GRel X' o' ∧ VRel X' av v ∧ StepTo X X' kl ∧ GhOk o o' kl
structure NSound (P : Program) (f : FuncId) (E : List AV → (AV → List Ob → Prop) → Prop) : Prop where
  enter : ∀ args w, (callFunc f args).run P w = .ok (.enter f args) w
  call : ∀ (X : Cx) (o : List Ob) (as : List AV) (vs : Array Value) (q : Q1), GRel X o → Tabs X.own X.w → vs.size = as.length → (∀ (i : Nat) (h : i < as.length), VRel X as[i] (vs.getD i undef)) → newE E as o q →
    Calls P f vs X.w fun e w' => ∃ v av o' kl X', e = .returned v ∧ q av o' kl ∧ X'.w = w' ∧ GRel X' o' ∧ VRel X' av v ∧ StepTo X X' kl ∧ GhOk o o' kl ∧ Below X.w.heap.size X.w w'
theorem NSound.full {P : Program} {f : FuncId} {E : List AV → (AV → List Ob → Prop) → Prop} (h : NSound P f E) : ESound P f (newE E) :=
  ⟨h.enter, fun X o as vs q g hT hl hr hE => (h.call X o as vs q g hT hl hr hE).mono fun e w' ⟨v, av, o', kl, X', h1, h2, h3, h4, h5, h6, h7, _⟩ => ⟨v, av, o', kl, X', h1, h2, h3, h4, h5, h6, h7⟩⟩
structure RSound (P : Program) (f : FuncId) (E : List AV → List Ob → (AV → List Ob → Prop) → Prop) : Prop where
  enter : ∀ args w, (callFunc f args).run P w = .ok (.enter f args) w
  call : ∀ (X : Cx) (o : List Ob) (gv : Nat → List Value) (as : List AV) (vs : Array Value) (q : AV → List Ob → Prop), GRel X o → GhRel X o gv → Tabs X.own X.w → vs.size = as.length → (∀ (i : Nat) (h : i < as.length), VRel X as[i] (vs.getD i undef)) → E as o q →
    Calls P f vs X.w fun e w' => ∃ v av o' X', e = .returned v ∧ q av o' ∧ X'.w = w' ∧ GRel X' o' ∧ GhRel X' o' gv ∧ VRel X' av v ∧ X'.ext = X.ext ∧ Fr X.w X.obj w' ∧ ∀ b, X'.obj b → X.obj b ∨ X.w.heap.size ≤ b
def Cx.bare (ext : Nat → Prop) (w : World) : Cx where
  b := fun _ => 0
  c := fun _ => cc 0 0
  z := fun _ => false
  rw := fun _ => false
  n := 0
  obj := fun _ => False
  ext := ext
  w := w
structure PSound (P : Program) (f : FuncId) (E : List AV → (AV → Prop) → Prop) : Prop where
  enter : ∀ args w, (callFunc f args).run P w = .ok (.enter f args) w
  call : ∀ (ext : Nat → Prop) (w : World) (as : List AV) (vs : Array Value) (q : AV → Prop), (∀ b, ext b → b < w.heap.size) → Tabs ext w → vs.size = as.length → (∀ (i : Nat) (h : i < as.length), VRel (Cx.bare ext w) as[i] (vs.getD i undef)) → E as q →
    Calls P f vs w fun e w' => ∃ v av, e = .returned v ∧ q av ∧ VRel (Cx.bare ext w') av v ∧ Below w.heap.size w w'
def En.Sound (P : Program) (f : FuncId) : En → Prop
  | .pure E => PSound P f E
  | .det F => PSound P f (detE F)
  | .full E => ESound P f E
  | .new E => NSound P f E
  | .ref E => RSound P f E
def GSound (P : Program) (Γ : List (FuncId × En)) : Prop := ∀ f e, findE Γ f = some e → e.Sound P f
theorem gsound_nil {P : Program} : GSound P [] := fun f e h => by simp [findE] at h
theorem gsound_cons {P : Program} {f : FuncId} {e : En} {Γ : List (FuncId × En)} (h : e.Sound P f) (hΓ : GSound P Γ) : GSound P ((f, e) :: Γ) := fun g e' h' => by
  simp only [findE] at h'
  split at h'
  · rename_i hg; cases h'; subst hg; exact h
  · exact hΓ g e' h'
mutual
theorem pure_rel {X : Cx} {o : List Ob} (g : GRel X o) (ext : Nat → Prop) (he : ∀ b, ext b → X.own b) : ∀ {x y : AV} {v : Value}, (x.views = false ∨ ∀ b, ¬ ext b) → VRel X x v → x.pure o = some y → VRel (Cx.bare ext X.w) y v
  | .ag cs, y, v, hw, hv, h => by
    simp only [AV.pure] at h
    split at h
    · rename_i l hl
      cases h
      obtain ⟨arr, rfl, h1, h2⟩ := inv_ag hv
      obtain ⟨m1, m2⟩ := pureL_rel g ext he (hw.imp (fun h => by simpa [AV.views] using h) id) hl
      exact .ag (by omega) (fun j hj => m2 j (by omega) hj _ (h2 j (by omega)))
    · cases h
  | .tp cs, y, v, hw, hv, h => by
    simp only [AV.pure] at h
    split at h
    · rename_i l hl
      cases h
      obtain ⟨arr, rfl, h1, h2⟩ := inv_tp hv
      obtain ⟨m1, m2⟩ := pureL_rel g ext he (hw.imp (fun h => by simpa [AV.views] using h) id) hl
      exact .tp (by omega) (fun j hj => m2 j (by omega) hj _ (h2 j (by omega)))
    · cases h
  | .d x, y, v, hw, hv, h => pure_leaf g ext he hw hv (by simpa only [AV.pure] using h)
  | .nl, y, v, hw, hv, h => pure_leaf g ext he hw hv (by simpa only [AV.pure] using h)
  | .vw r n, y, v, hw, hv, h => pure_leaf g ext he hw hv (by simpa only [AV.pure] using h)
  | .fn f fs cs, y, v, hw, hv, h => pure_leaf g ext he hw hv (by simpa only [AV.pure] using h)
  | .rf _ _, _, _, _, _, h => by simp [AV.pure, leafP, AV.toD] at h
  | .rp _ _ _ _, _, _, _, _, h => by simp [AV.pure, leafP, AV.toD] at h
  | .ep _, _, _, _, _, h => by simp [AV.pure, leafP, AV.toD] at h
  | .mp _, _, _, _, _, h => by simp [AV.pure, leafP, AV.toD] at h
  | .opt _ _, _, _, _, _, h => by simp [AV.pure, leafP, AV.toD] at h
  | .jk, _, _, _, _, h => by simp [AV.pure, leafP, AV.toD] at h
theorem pureL_rel {X : Cx} {o : List Ob} (g : GRel X o) (ext : Nat → Prop) (he : ∀ b, ext b → X.own b) : ∀ {l m : List AV}, (viewsL l = false ∨ ∀ b, ¬ ext b) → pureL o l = some m → m.length = l.length ∧
    ∀ (i : Nat) (h : i < l.length) (h' : i < m.length) (v : Value), VRel X l[i] v → VRel (Cx.bare ext X.w) m[i] v
  | [], m, _, h => by
    simp only [pureL, Option.some.injEq] at h; subst h
    exact ⟨rfl, fun i h => absurd h (by simp)⟩
  | x :: l, m, hw, h => by
    have hw1 : x.views = false ∨ ∀ b, ¬ ext b := hw.imp (fun h => by simp only [viewsL, Bool.or_eq_false_iff] at h; exact h.1) id
    have hw2 : viewsL l = false ∨ ∀ b, ¬ ext b := hw.imp (fun h => by simp only [viewsL, Bool.or_eq_false_iff] at h; exact h.2) id
    simp only [pureL] at h
    split at h
    · rename_i p q h1 h2
      cases h
      obtain ⟨m1, m2⟩ := pureL_rel g ext he hw2 h2
      refine ⟨by simp [m1], fun i hi hi' v hv => ?_⟩
      cases i with
      | zero => exact pure_rel g ext he (x := x) hw1 hv h1
      | succ i => exact m2 i (by simpa using hi) (by simpa using hi') v (by simpa using hv)
    · cases h
theorem pure_leaf {X : Cx} {o : List Ob} (g : GRel X o) (ext : Nat → Prop) (he : ∀ b, ext b → X.own b) {x y : AV} {v : Value} (hw : x.views = false ∨ ∀ b, ¬ ext b) (hv : VRel X x v) (h : leafP o x = some y) : VRel (Cx.bare ext X.w) y v := by
  unfold leafP at h
  split at h
  · rename_i d hd
    cases h
    rcases hw with hw | hw
    · exact .d ((toD_own (.inl hw) hv hd).mono ⟨Nat.le_refl _, fun b _ hb => ⟨rfl, fun hh => hb (he b (hh.resolve_left id))⟩⟩)
    · exact .d ((toD_rel g hv hd).mono ⟨Nat.le_refl _, fun b _ _ => ⟨rfl, fun hh => hw b (hh.resolve_left id)⟩⟩)
  · cases h
end
theorem scalar_rel {X X' : Cx} {x : AV} {v : Value} (h : x.scalar = true) (hv : VRel X x v) : VRel X' x v := by
  have one : ∀ (y : AV) (u : Value), (match y with | .d (.v _) => true | _ => false) = true → VRel X y u → VRel X' y u := by
    intro y u hy hu
    cases y with
    | d d => cases d with
      | v z => obtain ⟨rfl, hz⟩ := inv_v hu; exact mkv hz
      | _ => simp at hy
    | _ => simp at hy
  unfold AV.scalar at h
  split at h
  · exact one _ _ rfl hv
  · rename_i l
    obtain ⟨arr, rfl, h1, h2⟩ := inv_tp hv
    exact .tp h1 (fun j hj => one _ _ (List.all_eq_true.1 h _ (List.getElem_mem hj)) (h2 j hj))
  · rename_i l
    obtain ⟨arr, rfl, h1, h2⟩ := inv_ag hv
    exact .ag h1 (fun j hj => one _ _ (List.all_eq_true.1 h _ (List.getElem_mem hj)) (h2 j hj))
  · cases h
theorem stepTo_below {X : Cx} {w' : World} (hb : Below X.w.heap.size X.w w') : StepTo X { X with w := w' } none :=
  ⟨⟨hb.size, fun b hlt h => ⟨hb.block b hlt, h⟩⟩, rfl, ⟨hb.os, hb.tape, hb.output⟩, Nat.le_refl _, fun _ _ _ => ⟨rfl, rfl, rfl, rfl⟩, fun _ h => by simp at h, fun b h => .inl h⟩
theorem psound_call {P : Program} {f : FuncId} {E : List AV → (AV → Prop) → Prop} (h : PSound P f E) {X : Cx} {o : List Ob} {as : List AV} {vs : Array Value} {q : Q1} (g : GRel X o) (hT : Tabs X.own X.w) (hlen : vs.size = as.length)
    (hrel : ∀ (i : Nat) (h : i < as.length), VRel X as[i] (vs.getD i undef)) (hE : pureE E as o q) : Calls P f vs X.w fun e w' => ∃ v av, e = .returned v ∧ q av o none ∧ VRel { X with w := w' } av v ∧ Below X.w.heap.size X.w w' := by
  unfold pureE at hE
  split at hE
  · rename_i l hl
    by_cases hw : viewsL as = false
    · obtain ⟨m1, m2⟩ := pureL_rel g X.own (fun _ h => h) (.inl hw) hl
      refine (h.call X.own X.w l vs _ (fun b hb => hb.elim g.lt' (g.ext1 b)) hT (by omega) (fun i hi => m2 i (by omega) hi _ (hrel i (by omega))) hE).mono ?_
      rintro e w' ⟨v, av, rfl, hq, hv, hb⟩
      replace hq := (chk_iff.1 hq).2
      exact ⟨v, av, rfl, hq, VRel.step (X := Cx.bare X.own w') (X' := { X with w := w' }) ⟨Nat.le_refl _, fun b _ hn => ⟨rfl, fun hh => hn (Or.inr (show X.own b from hh))⟩⟩ (Nat.zero_le _) (fun i hi => absurd hi (by simp [Cx.bare])) hv, hb⟩
    · have hw : viewsL as = true := by simpa using hw
      obtain ⟨m1, m2⟩ := pureL_rel g (fun _ => False) (fun _ h => h.elim) (.inr fun _ h => h) hl
      refine (h.call (fun _ => False) X.w l vs _ (fun b hb => hb.elim) (hT.fewer fun _ h => h.elim) (by omega) (fun i hi => m2 i (by omega) hi _ (hrel i (by omega))) hE).mono ?_
      rintro e w' ⟨v, av, rfl, hq, hv, hb⟩
      obtain ⟨hsc, hq⟩ := chk_iff.1 hq
      have hsc : viewsL as = true → av.scalar = true := fun e => by rw [e] at hsc; simpa using hsc
      exact ⟨v, av, rfl, hq, scalar_rel (hsc hw) hv, hb⟩
  · exact hE.elim
theorem PSound.full {P : Program} {f : FuncId} {E : List AV → (AV → Prop) → Prop} (h : PSound P f E) : ESound P f (pureE E) := by
  refine ⟨h.enter, fun X o as vs q g hT hlen hrel hE => ?_⟩
  unfold pureE at hE
  split at hE
  · rename_i l hl
    by_cases hw : viewsL as = false
    · obtain ⟨m1, m2⟩ := pureL_rel g X.own (fun _ h => h) (.inl hw) hl
      refine (h.call X.own X.w l vs _ (fun b hb => hb.elim g.lt' (g.ext1 b)) hT (by omega) (fun i hi => m2 i (by omega) hi _ (hrel i (by omega))) hE).mono ?_
      rintro e w' ⟨v, av, rfl, hq, hv, hb⟩
      replace hq := (chk_iff.1 hq).2
      refine ⟨v, av, o, none, { X with w := w' }, rfl, hq, rfl, grel_below g hb, ?_, stepTo_below hb, ghok_refl _⟩
      exact VRel.step (X := Cx.bare X.own w') (X' := { X with w := w' }) ⟨Nat.le_refl _, fun b _ hn => ⟨rfl, fun hh => hn (Or.inr (show X.own b from hh))⟩⟩ (Nat.zero_le _) (fun i hi => absurd hi (by simp [Cx.bare])) hv
    · have hw : viewsL as = true := by simpa using hw
      obtain ⟨m1, m2⟩ := pureL_rel g (fun _ => False) (fun _ h => h.elim) (.inr fun _ h => h) hl
      refine (h.call (fun _ => False) X.w l vs _ (fun b hb => hb.elim) (hT.fewer fun _ h => h.elim) (by omega) (fun i hi => m2 i (by omega) hi _ (hrel i (by omega))) hE).mono ?_
      rintro e w' ⟨v, av, rfl, hq, hv, hb⟩
      obtain ⟨hsc, hq⟩ := chk_iff.1 hq
      have hsc : viewsL as = true → av.scalar = true := fun e => by rw [e] at hsc; simpa using hsc
      exact ⟨v, av, o, none, { X with w := w' }, rfl, hq, rfl, grel_below g hb, scalar_rel (hsc hw) hv, stepTo_below hb, ghok_refl _⟩
  · exact hE.elim
theorem En.Sound.full {P : Program} {f : FuncId} {e : En} (h : e.Sound P f) : ESound P f e.ent := by
  cases e with
  | pure E => exact PSound.full h
  | det F => exact PSound.full h
  | new E => exact NSound.full h
  | full E => exact h
  | ref E => exact ⟨(h : RSound P f E).enter, fun _ _ _ _ _ _ _ _ _ h => h.elim⟩
section
variable {P : Program} {X : Cx} {a : Act} {o : Oper} {K : TypeId → Option TK} {s : S} {q : Q1} {w0 : World} {own0 : O0} {next : Act → World → Prop} {Q : Exit → Act → World → Prop} {Γ : List (FuncId × En)}
theorem call_sound {f : FuncId} {E : Ent} (hE : ESound P f E) (hs : SRel w0 own0 X s a) (hT : Then w0 own0 s a q fun v w => next (a.put o.dst v) w) {as : List AV} {vs : Array Value} (hlen : vs.size = as.length)
    (hrel : ∀ (i : Nat) (h : i < as.length), VRel X as[i] (vs.getD i undef)) (h : E as s.o q) (hrun : (execOp a.eval o).run P X.w = (callFunc f vs).run P X.w) : o.wp P a X.w next Q := by
  unfold Oper.wp
  rw [hrun, hE.enter]
  simp only [Oper.upon]
  refine (hE.call X s.o as vs q hs.g hs.tabs hlen hrel h).mono ?_
  rintro e w' ⟨v, av, o', kl, X', rfl, hq, rfl, hg, hv, hst, hgk⟩
  exact hT X' v av o' kl hq (hs.change kl hst.row hst.keeps hst.ext hst.st hst.n hst.agree hg hst.own hgk) hv
theorem getD_map (s : S) (a : Act) (hs : SRel w0 own0 X s a) (l : Array Operand) (i : Nat) (h : i < l.size) : VRel X ((l.toList.map s.ev)[i]'(by simpa using h)) ((l.map a.eval).getD i undef) := by
  have e : (l.map a.eval).getD i undef = a.eval l.toList[i] := by simp [Array.getD_eq_getD_getElem?, h]
  rw [e, List.getElem_map]
  exact ev_sound hs _
theorem rel_append {as bs : List AV} {u v : Array Value} (h1 : u.size = as.length) (h2 : v.size = bs.length) (r1 : ∀ (i : Nat) (h : i < as.length), VRel X as[i] (u.getD i undef)) (r2 : ∀ (i : Nat) (h : i < bs.length), VRel X bs[i] (v.getD i undef)) :
    (u ++ v).size = (as ++ bs).length ∧ ∀ (i : Nat) (h : i < (as ++ bs).length), VRel X (as ++ bs)[i] ((u ++ v).getD i undef) := by
  refine ⟨by simp [h1, h2], fun i hi => ?_⟩
  rw [List.getElem_append]
  split
  · rename_i hlt
    rw [getD_append_left (by omega)]
    exact r1 i hlt
  · rename_i hlt
    rw [getD_append_right (by omega)]
    have := r2 (i - as.length) (by simp at hi; omega)
    rw [h1]; exact this
theorem inv_fn4 {f : Fn} {fs cs : List AV} {v : Value} (h : VRel X (.fn f fs cs) v) : ∃ fv cv, v = .func f fv cv ∧ fv.size = fs.length ∧ cv.size = cs.length ∧ (∀ (i : Nat) (h : i < fs.length), VRel X fs[i] (fv.getD i undef)) ∧ ∀ (i : Nat) (h : i < cs.length), VRel X cs[i] (cv.getD i undef) := by
  cases h with | fn h1 h2 r1 r2 => exact ⟨_, _, rfl, h1, h2, r1, r2⟩
theorem inv_dfn4 {f : Fn} {fs cs : List D} {v : Value} (h : VRel X (.d (.fn f fs cs)) v) : ∃ fv cv, v = .func f fv cv ∧ fv.size = fs.length ∧ cv.size = cs.length ∧ (∀ (i : Nat) (h : i < fs.length), DRel X.own X.w fs[i] (fv.getD i undef)) ∧ ∀ (i : Nat) (h : i < cs.length), DRel X.own X.w cs[i] (cv.getD i undef) := by
  cases h with | d h => cases h with | fn h1 h2 r1 r2 => exact ⟨_, _, rfl, h1, h2, r1, r2⟩
theorem o_call {c : Call} {f : Operand} (hΓ : GSound P Γ) (hs : SRel w0 own0 X s a) (hT : Then w0 own0 s a q fun v w => next (a.put o.dst v) w) (ho : o.op = .call c) (hc : c.callee = .value f) (h : aOp K Γ s (.call c) q) : o.wp P a X.w next Q := by
  simp only [aOp, hc] at h
  have hf := ev_sound hs f
  have hargs : ∀ (i : Nat) (h : i < (c.args.toList.map s.ev).length), VRel X (c.args.toList.map s.ev)[i] ((c.args.map a.eval).getD i undef) := fun i h => getD_map s a hs c.args i (by simpa using h)
  split at h
  · rename_i fi first caps ef
    rw [ef] at hf
    split at h
    · rename_i e hfe
      obtain ⟨fv, cv, hv, h1, h2, r1, r2⟩ := inv_fn4 hf
      obtain ⟨p1, p2⟩ := rel_append (X := X) h1 (by simp : (c.args.map a.eval).size = (c.args.toList.map s.ev).length) r1 hargs
      obtain ⟨q1, q2⟩ := rel_append (X := X) p1 h2 p2 r2
      exact call_sound (hΓ _ _ hfe).full hs hT q1 q2 h (by simp [execOp, ho, resolve, hc, hv, Deferred.ofValue, invoke])
    · exact h.elim
  · rename_i fi first caps ef
    rw [ef] at hf
    split at h
    · rename_i e hfe
      obtain ⟨fv, cv, hv, h1, h2, r1, r2⟩ := inv_dfn4 hf
      obtain ⟨p1, p2⟩ := rel_append (X := X) (as := first.map .d) (by simpa using h1) (by simp : (c.args.map a.eval).size = (c.args.toList.map s.ev).length) (fun i h => by
        simp only [List.getElem_map]; exact .d (r1 i (by simpa using h))) hargs
      obtain ⟨q1, q2⟩ := rel_append (X := X) (bs := caps.map .d) p1 (by simpa using h2) p2 (fun i h => by
        simp only [List.getElem_map]; exact .d (r2 i (by simpa using h)))
      exact call_sound (hΓ _ _ hfe).full hs hT q1 q2 h (by simp [execOp, ho, resolve, hc, hv, Deferred.ofValue, invoke])
    · exact h.elim
  · exact h.elim
theorem own_lt (g : GRel X s.o) {b : Nat} (h : X.own b) : b < X.w.heap.size := by
  rcases h with h | h
  · obtain ⟨i, ob, h1, h2, h3, h4⟩ := (g.obj b).1 h
    exact g.ltB i ob h1 h2 h3 b h4
  · exact g.ext1 b h
theorem o_convert {t t' : TypeId} {x : Operand} (hK : KOk P K) (hs : SRel w0 own0 X s a) (hT : Then w0 own0 s a q fun v w => next (a.put o.dst v) w) (ho : o.op = .convert t t' x) (h : aOp K Γ s (.convert t t' x) q) : o.wp P a X.w next Q := by
  simp only [aOp] at h
  have hv := ev_sound hs x
  split at h
  · rename_i b e eb hkd
    rw [eb] at hv
    obtain ⟨hv, hb⟩ := inv_str hv
    obtain ⟨h0, hq⟩ := chk_iff.1 h
    simp only [Bool.and_eq_true] at h0
    obtain ⟨i, hi⟩ := Option.isSome_iff_exists.1 h0.1
    obtain ⟨d, hd⟩ := (hK t i hi).und
    obtain ⟨e', hu, he⟩ := u8_ok hK h0.2
    have run := Lib.run_convert_string_bytes (P := P) X.w t t' e' b hd hu he
    have hbel : Below X.w.heap.size X.w (Lib.bytesWorld X.w e' b) :=
      ⟨rfl, rfl, rfl, by rw [Lib.bytesWorld_size]; omega, fun k hk => Lib.bytesWorld_at_old X.w e' b k hk⟩
    have hs' := hs.below hbel
    unfold Oper.wp
    have hrun : (execOp a.eval o).run P X.w = .ok (.value (.slice (some ⟨X.w.heap.size, 0, none⟩) b.size (grownCap X.w b.size 0 e'))) (Lib.bytesWorld X.w e' b) := by
      simp [execOp, ho, hv, run]
    rw [hrun]
    have hbl : (bytesD b).length = b.size := by unfold bytesD; rw [List.length_map]; exact Array.length_toList
    refine hT { X with w := Lib.bytesWorld X.w e' b } _ _ s.o none hq hs' ?_
    have hnot : ¬ ({ X with w := Lib.bytesWorld X.w e' b } : Cx).own X.w.heap.size := fun h => by
      have := own_lt (X := X) hs.g (b := X.w.heap.size) h
      omega
    have := DRel.sl (own := ({ X with w := Lib.bytesWorld X.w e' b } : Cx).own) (w := Lib.bytesWorld X.w e' b) (es := bytesD b) (b := X.w.heap.size) (off := 0) (cap := grownCap X.w b.size 0 e') 1 (by omega)
      (fun i _ => .int .u8 (b.data.toList.getD i 0).toNat) (by omega) (by rw [hbl]; exact grownCap_ge _ _ _ _) (fun _ => hnot) (fun i hi => by simp [bytesD])
      (fun i j hi hj => by
        have : j = 0 := by omega
        subst this
        simpa using Lib.bytesWorld_cell X.w e' b i (by omega))
      (fun i hi j hj => by
        have hj0 : j = 0 := by simp [bytesD] at hj; exact hj
        subst hj0
        have hi' : i < b.data.toList.length := by simpa [bytesD] using hi
        have e2 : (bytesD b)[i][0]'(by simp [bytesD]) = .v (.int .u8 (b.data.toList.getD i 0).toNat) := by
          simp [bytesD, List.getD_eq_getElem?_getD, List.getElem?_eq_getElem hi']
        rw [e2]; exact .v rfl)
    rw [hbl] at this
    exact .d this
  · exact h.elim
theorem op_sound (hK : KOk P K) (hΓ : GSound P Γ) (hs : SRel w0 own0 X s a) (hT : Then w0 own0 s a q fun v w => next (a.put o.dst v) w) (h : aOp K Γ s o.op q) : o.wp P a X.w next Q := by
  cases ho : o.op <;> rw [ho] at h <;> first | (exact (by simpa only [aOp] using h : False).elim) | skip
  case assign x => exact o_assign hs hT ho (by simpa only [aOp] using h)
  case convert => exact o_convert hK hs hT ho h
  case pick => exact o_pick hs hT ho h
  case alloc => exact o_alloc hK hs hT ho h
  case box => exact o_box hs hT ho h
  case build => exact o_build hK hs hT ho h
  case buildSlice => exact o_buildSlice hK hs hT ho h
  case load => exact o_load hK hs hT ho h
  case store => exact o_store hK hs hT ho h
  case makeMap => exact o_makeMap hs hT ho h
  case range => exact o_range hK hs hT ho h
  case next x b =>
    cases b with
    | false => exact o_next hs hT ho h
    | true => exact (by simpa only [aOp] using h : False).elim
  case entry => exact o_entry hs hT ho h
  case fieldAddr => exact o_fieldAddr hK hs hT ho h
  case indexAddr => exact o_indexAddr hK hs hT ho h
  case lookup => exact o_lookup hK hs hT ho h
  case mapUpdate => exact o_update hK hs hT (by simp [execOp, ho]) h
  case insert t m k x => exact o_update (Γ := Γ) (t := t) (m := m) (x := k) (y := x) hK hs hT (by simp [execOp, ho]) (by simp only [aOp] at h ⊢; exact h)
  case slice t x lo hi mx =>
    cases mx with
    | none =>
      cases hz : sliceZ lo hi with
      | true => exact o_sliceZ hz hK hs hT ho h
      | false => exact o_slice hz hK hs hT ho h
    | some m => exact (by simpa only [aOp] using h : False).elim
  case call c =>
    cases hc : c.callee with
    | value f => exact o_call hΓ hs hT ho hc h
    | builtin b => cases b <;> first | exact o_append hK hs hT ho hc h | exact o_delete hK hs hT ho hc h | exact o_clear hK hs hT ho hc h | (exact (by simpa only [aOp, hc] using h : False).elim)
    | invoke => exact (by simpa only [aOp, hc] using h : False).elim
theorem put_srel (hs : SRel w0 own0 X s a) {av : AV} {v : Value} (hv : VRel X av v) (dst : Option Tmp) : SRel w0 own0 X (s.put dst av) (a.put dst v) := by
  cases dst with
  | none => exact hs
  | some d =>
    refine ⟨by simp [S.put, Act.put, hs.len], fun i hi => ?_, hs.defers, hs.g, hs.ext, hs.fr, hs.new, hs.gh, hs.tab⟩
    simp only [S.put, List.length_set] at hi
    simp only [S.put, Act.put, List.getElem_set]
    have hi' : i < a.tmps.size := by rw [hs.len]; exact hi
    by_cases hd : d = i
    · subst hd
      simp [Array.getD_eq_getD_getElem?, hi', hv]
    · simp only [hd, if_false]
      have := hs.slot i hi
      simpa [Array.getD_eq_getD_getElem?, Array.getElem?_setIfInBounds, hd] using this
theorem wanted_of {ops : Array Oper} {j d : Nat} {want b : Bool} (hs : SRel w0 own0 X s a) (hg : o.guard = some (j, want)) (hd : (ops[j]?).bind (·.dst) = some d) (hb : s.t.getD d .jk = .d (.v (.bool b))) : Region.wanted o (yielded ops a.tmps) = (b == want) := by
  have hlt : d < s.t.length := by
    rcases Nat.lt_or_ge d s.t.length with h | h
    · exact h
    · rw [List.getD_eq_getElem?_getD, List.getElem?_eq_none h] at hb; cases hb
  have hv := hs.slot d hlt
  have : s.t[d] = .d (.v (.bool b)) := by rwa [List.getD_eq_getElem?_getD, List.getElem?_eq_getElem hlt] at hb
  rw [this] at hv
  have hv := inv_bool hv
  have hd' : d < a.tmps.size := by rw [hs.len]; exact hlt
  have : a.tmps[d]? = some (.bool b) := by
    rw [Array.getD_eq_getD_getElem?, Array.getElem?_eq_getElem hd'] at hv
    rw [Array.getElem?_eq_getElem hd']
    simpa using hv
  simp only [Region.wanted, hg, yielded, hd, Option.bind_some, this]
  cases b <;> cases want <;> rfl
theorem nothing_rel : VRel X (.tp []) undef := .tp rfl (fun j h => absurd h (by simp))
theorem wanted_none {ops : Array Oper} {j d : Nat} {want : Bool} (hs : SRel w0 own0 X s a) (hg : o.guard = some (j, want)) (hd : (ops[j]?).bind (·.dst) = some d) (hb : s.t.getD d .jk = .tp []) : Region.wanted o (yielded ops a.tmps) = false := by
  have hlt : d < s.t.length := by
    rcases Nat.lt_or_ge d s.t.length with h | h
    · exact h
    · rw [List.getD_eq_getElem?_getD, List.getElem?_eq_none h] at hb; cases hb
  have hv := hs.slot d hlt
  have : s.t[d] = .tp [] := by rwa [List.getD_eq_getElem?_getD, List.getElem?_eq_getElem hlt] at hb
  rw [this] at hv
  obtain ⟨arr, hv, hl, _⟩ := inv_tp hv
  have harr : arr = #[] := Array.eq_empty_of_size_eq_zero (by simpa using hl)
  subst harr
  have hd' : d < a.tmps.size := by rw [hs.len]; exact hlt
  have : a.tmps[d]? = some (.tuple #[]) := by
    rw [Array.getD_eq_getD_getElem?, Array.getElem?_eq_getElem hd'] at hv
    rw [Array.getElem?_eq_getElem hd']
    simpa using hv
  simp only [Region.wanted, hg, yielded, hd, Option.bind_some, this]
  cases want <;> rfl
theorem lit_self {s : S} {d : Nat} {b : Bool} (h : s.t.getD d .jk = .d (.v (.bool b))) : s.lit d b = s := by
  unfold S.lit
  have : s.t.set d (.d (.v (.bool b))) = s.t := by
    apply List.ext_getElem (by simp)
    intro i h1 h2
    rw [List.getElem_set]
    split
    · rename_i e
      subst e
      rw [List.getD_eq_getElem?_getD, List.getElem?_eq_getElem h2] at h
      simpa using h.symm
    · rfl
  rw [this]
theorem litO_self {s : S} {x : Operand} {b : Bool} (h : s.ev x = .d (.v (.bool b))) : s.litO x b = s := by
  unfold S.litO
  split
  · exact lit_self (by simpa [S.ev] using h)
  · rfl
theorem fr_trans {w2 : World} (hs : SRel w0 own0 X s a) (h : Fr X.w X.obj w2) : Fr w0 own0.own w2 :=
  ⟨h.os.trans hs.fr.os, h.tape.trans hs.fr.tape, h.output.trans hs.fr.output, Nat.le_trans hs.fr.size h.size, fun b hb hn => by
    refine (h.keep b (Nat.lt_of_lt_of_le hb hs.fr.size) fun ho => ?_).trans (hs.fr.keep b hb hn)
    rcases hs.new b ho with h | h
    · exact hn h
    · omega⟩
def Cx.pushg (X : Cx) : Cx := { X with rw := fun i => if i = X.n then false else X.rw i, n := X.n + 1 }
theorem pushg_agree (X : Cx) (i : Nat) (hi : i < X.n) : X.pushg.b i = X.b i ∧ X.pushg.c i = X.c i ∧ X.pushg.z i = X.z i ∧ X.pushg.rw i = X.rw i := by
  have : ¬ i = X.n := by omega
  simp [Cx.pushg, this]
theorem pushg_keeps (X : Cx) : Keeps X.own X.w X.pushg.own X.pushg.w := ⟨Nat.le_refl _, fun b _ h => ⟨rfl, h⟩⟩
theorem pushg_rel {av : AV} {v : Value} (h : VRel X av v) : VRel X.pushg av v := h.step (pushg_keeps X) (by simp [Cx.pushg]) (fun i hi => pushg_agree X i hi)
theorem pushg_grel {o : List Ob} (g : GRel X o) (cs : List AV) : GRel X.pushg (o ++ [.gh cs]) where
  n := by simp [Cx.pushg, g.n]
  obj := fun b => by
    show X.obj b ↔ _
    rw [g.obj]
    constructor
    · rintro ⟨i, x, h1, h2, h3, h4⟩
      exact ⟨i, x, by rw [List.getElem?_append_left (lt_of_get h1)]; exact h1, h2, h3, h4⟩
    · rintro ⟨i, x, h1, h2, h3, h4⟩
      rcases get_append_one h1 with ⟨hi, g1⟩ | ⟨_, rfl⟩
      · exact ⟨i, x, g1, h2, h3, h4⟩
      · cases h2
  injB := fun i j x y h1 h2 l1 l2 z1 z2 b b1 b2 => by
    rcases get_append_one h1 with ⟨hi, g1⟩ | ⟨_, rfl⟩
    · rcases get_append_one h2 with ⟨hj, g2⟩ | ⟨_, rfl⟩
      · exact g.injB i j x y g1 g2 l1 l2 z1 z2 b b1 b2
      · cases l2
    · cases l1
  ltB := fun i x h1 l1 z1 b b1 => by
    rcases get_append_one h1 with ⟨hi, g1⟩ | ⟨_, rfl⟩
    · exact g.ltB i x g1 l1 z1 b b1
    · cases l1
  ext1 := g.ext1
  ext2B := fun i x h1 l1 z1 b b1 => by
    rcases get_append_one h1 with ⟨hi, g1⟩ | ⟨_, rfl⟩
    · exact g.ext2B i x g1 l1 z1 b b1
    · cases l1
  rws := fun i sz es h1 => by
    rcases get_append_one h1 with ⟨hi, g1⟩ | ⟨_, e⟩
    · have := g.rws i sz es g1
      have hne : ¬ i = X.n := by rw [g.n]; omega
      simp [Cx.pushg, hne, this]
    · cases e
  rel := fun i x h1 => by
    rcases get_append_one h1 with ⟨hi, g1⟩ | ⟨_, rfl⟩
    · exact ORel.step (pushg_keeps X) (by simp [Cx.pushg]) (fun j hj => pushg_agree X j hj) (by rw [g.n]; exact hi) (fun _ _ _ _ => rfl) (g.rel i x g1)
    · trivial
theorem grel_gone {o : List Ob} {n : Nat} {x0 : Ob} (g : GRel X o) (hx : o[n]? = some x0) (hd : x0.live = false) : GRel X (o.set n .gone) := by
  have get : ∀ (i : Nat) (x : Ob), (o.set n Ob.gone)[i]? = some x → x.live = true → o[i]? = some x := by
    intro i x h hl
    rw [List.getElem?_set] at h
    split at h
    · split at h
      · cases h; cases hl
      · cases h
    · exact h
  have back : ∀ (i : Nat) (x : Ob), o[i]? = some x → x.live = true → (o.set n Ob.gone)[i]? = some x := by
    intro i x h hl
    rw [List.getElem?_set, if_neg]
    · exact h
    · rintro rfl
      rw [hx] at h; cases h
      rw [hd] at hl; cases hl
  exact ⟨by rw [List.length_set]; exact g.n, fun b => by
      rw [g.obj]
      exact ⟨fun ⟨i, x, h1, h2, h3⟩ => ⟨i, x, back i x h1 h2, h2, h3⟩, fun ⟨i, x, h1, h2, h3⟩ => ⟨i, x, get i x h1 h2, h2, h3⟩⟩,
    fun i j x y h1 h2 l1 l2 => g.injB i j x y (get i x h1 l1) (get j y h2 l2) l1 l2, fun i x h1 l1 => g.ltB i x (get i x h1 l1) l1, g.ext1, fun i x h1 l1 => g.ext2B i x (get i x h1 l1) l1,
    fun i sz es h1 => g.rws i sz es (get i _ h1 rfl), fun i x h1 => by
      cases hl : x.live with
      | true => exact g.rel i x (get i x h1 hl)
      | false => cases x <;> first | trivial | cases hl⟩
theorem ref_sound {f : FuncId} {E : List AV → List Ob → (AV → List Ob → Prop) → Prop} (hE : RSound P f E) (hs : SRel w0 own0 X s a) {k : AV → S → Prop} (hnext : ∀ X' v av s' , k av s' → SRel w0 own0 X' s' a → VRel X' av v → next (a.put o.dst v) X'.w) {as : List AV} {vs : Array Value} (hlen : vs.size = as.length)
    (hrel : ∀ (i : Nat) (h : i < as.length), VRel X as[i] (vs.getD i undef)) (h : E as (s.o ++ [.gh s.t]) (backK s.o.length k)) (hrun : (execOp a.eval o).run P X.w = (callFunc f vs).run P X.w) : o.wp P a X.w next Q := by
  unfold Oper.wp
  rw [hrun, hE.enter]
  simp only [Oper.upon]
  have hgh : GhRel X.pushg (s.o ++ [.gh s.t]) (fun k => if k = s.o.length then a.tmps.toList else own0.gv k) := by
    intro k cs hk
    rcases get_append_one hk with ⟨hi, g1⟩ | ⟨hi, e⟩
    · have hne : ¬ k = s.o.length := by omega
      obtain ⟨l, r⟩ := hs.gh k cs g1
      simp only [hne, if_false]
      exact ⟨l, fun j hj => pushg_rel (r j hj)⟩
    · cases e
      subst hi
      simp only [if_true]
      refine ⟨by rw [Array.length_toList]; exact hs.len.symm, fun j hj => ?_⟩
      have := pushg_rel (hs.slot j hj)
      simpa [List.getD_eq_getElem?_getD, Array.getD_eq_getD_getElem?] using this
  refine (hE.call X.pushg (s.o ++ [.gh s.t]) _ as vs _ (pushg_grel hs.g s.t) hgh hs.tabs hlen (fun i hi => pushg_rel (hrel i hi)) h).mono ?_
  rintro e w' ⟨v, av, o', X', rfl, hq, rfl, hg, hgh', hv, hext, hfr, hown⟩
  unfold backK at hq
  split at hq
  · rename_i cs hcs
    obtain ⟨l, r⟩ := hgh' _ _ hcs
    simp only [if_true] at l r
    rw [Array.length_toList] at l
    refine hnext X' v av _ hq ⟨l.symm, fun i hi => ?_, hs.defers, grel_gone hg hcs rfl, hext.trans hs.ext, fr_trans hs hfr, fun b hb => ?_, fun k cs' hk => ?_, hs.tab⟩ hv
    · have := r i hi
      simpa [List.getD_eq_getElem?_getD, Array.getD_eq_getD_getElem?] using this
    · rcases hown b hb with h | h
      · exact hs.new b h
      · exact .inr (Nat.le_trans hs.fr.size h)
    · rw [List.getElem?_set] at hk
      split at hk
      · split at hk <;> cases hk
      · rename_i hne
        have := hgh' k cs' hk
        have hne' : ¬ k = s.o.length := fun e => hne e.symm
        simpa only [hne', if_false] using this
  · exact hq.elim
theorem refOf_spec {s : S} {op : Op} {E : List AV → List Ob → (AV → List Ob → Prop) → Prop} {args : List AV} (h : refOf Γ s op = some (E, args)) :
    ∃ c f fi first caps, op = .call c ∧ c.callee = .value f ∧ s.ev f = .fn (.func fi) first caps ∧ findE Γ fi = some (.ref E) ∧ args = first ++ c.args.toList.map s.ev ++ caps := by
  unfold refOf at h
  split at h
  · rename_i c
    split at h
    · rename_i f hc
      split at h
      · rename_i fi first caps ef
        split at h
        · rename_i E' hfe
          cases h
          exact ⟨c, f, fi, first, caps, rfl, hc, ef, hfe, rfl⟩
        · cases h
      · cases h
    · cases h
  · cases h
theorem step_sound (hK : KOk P K) (hΓ : GSound P Γ) (hs : SRel w0 own0 X s a) {k : AV → S → Prop} (hnext : ∀ X' v av s' , k av s' → SRel w0 own0 X' s' a → VRel X' av v → next (a.put o.dst v) X'.w) (h : aStep K Γ s o.op k) : o.wp P a X.w next Q := by
  unfold aStep at h
  split at h
  · rename_i E args hr
    obtain ⟨c, f, fi, first, caps, ho, hc, ef, hfe, rfl⟩ := refOf_spec hr
    have hf := ev_sound hs f
    rw [ef] at hf
    obtain ⟨fv, cv, hv, h1, h2, r1, r2⟩ := inv_fn4 hf
    obtain ⟨p1, p2⟩ := rel_append h1 (by simp : (c.args.map a.eval).size = (c.args.toList.map s.ev).length) r1 (fun i h => getD_map s a hs c.args i (by simpa using h))
    obtain ⟨q1, q2⟩ := rel_append p1 h2 p2 r2
    exact ref_sound (f := fi) (hΓ _ _ hfe) hs hnext q1 q2 h (by simp [execOp, ho, resolve, hc, hv, Deferred.ofValue, invoke])
  split at h
  · obtain ⟨v, av, hr, hv, hk⟩ := pure_sound (C := Below X.w.heap.size X.w) hK hs (.inr sld_below) (.inr fun _ h => h) h
    exact then_value (q := fun av o' kl => o' = s.o ∧ kl = none ∧ k av s) hs (fun X' v av o' kl hq hs' hv => by
      obtain ⟨rfl, rfl, hq⟩ := hq
      exact hnext X' v av s hq hs' hv) (hr X.w (Below.refl _ _)) hv ⟨rfl, rfl, hk⟩
  · obtain ⟨X1, e1, h1⟩ := sealAll_srel (sealRows Γ s o.op) hs
    rw [← e1]
    exact op_sound hK hΓ h1 (fun X' v av o' kl hq hs' hv => hnext X' v av _ hq hs' hv) h
theorem ops_sound {ops : Array Oper} (hK : KOk P K) (hΓ : GSound P Γ) : ∀ (l : List Oper) {X : Cx} {s : S} {a : Act} {k : S → Prop}, SRel w0 own0 X s a → aOps K Γ ops l k s →
    (∀ X' s' a', SRel w0 own0 X' s' a' → k s' → Q .normal a' X'.w) → wpList P ops Q l a X.w
  | [], X, s, a, k, hs, h, hk => hk X s a hs h
  | o :: rest, X, s, a, k, hs, h, hk => by
    unfold aOps at h
    unfold wpList
    have go : aStep K Γ s o.op (fun av s' => aOps K Γ ops rest k (s'.put o.dst av)) → o.wp P a X.w (wpList P ops Q rest) Q := fun h =>
      step_sound hK hΓ hs (fun X' v av s' hq hs' hv => ops_sound hK hΓ rest (put_srel hs' hv o.dst) hq hk) h
    have no : aOps K Γ ops rest k (s.put o.dst (.tp [])) → wpList P ops Q rest (a.put o.dst undef) X.w := fun h =>
      ops_sound hK hΓ rest (put_srel hs nothing_rel o.dst) h hk
    split at h
    · rename_i hg
      rw [if_pos (by simp [Region.wanted, hg])]
      exact .inl (go h)
    · rename_i j want hg
      split at h
      · rename_i d hd
        split at h
        · rename_i b hb
          have hw := wanted_of hs hg hd hb
          rw [hw]
          cases b <;> rw [lit_self hb] at h <;> cases want <;> simp only [bcase] at h
          · exact .inl (go h)
          · exact no h
          · exact no h
          · exact .inl (go h)
        · rename_i hb
          rw [if_neg (by rw [wanted_none hs hg hd hb]; simp)]
          exact no h
        · exact h.elim
      · exact h.elim
theorem below_trans {X : Cx} {w' w'' : World} (h : Below X.w.heap.size X.w w') (k : Below w'.heap.size w' w'') : Below X.w.heap.size X.w w'' := h.trans (k.mono h.size)
mutual
theorem flat_val : ∀ {x : AV}, x.flat → ∃ v, (∀ X, VRel X x v) ∧ ∀ X u, VRel X x u → u = v
  | .d (.v (.string b)), h => ⟨.string b, fun X => mkv (by simpa [plainV, AV.flat] using h), fun X u hu => (inv_v hu).1⟩
  | .d (.v (.bool b)), _ => ⟨_, fun X => mkv rfl, fun X u hu => (inv_v hu).1⟩
  | .d (.v (.int i n)), _ => ⟨_, fun X => mkv rfl, fun X u hu => (inv_v hu).1⟩
  | .nl, _ => ⟨_, fun X => .nl, fun X u hu => inv_nl hu⟩
  | .tp l, h => by
    simp only [AV.flat] at h
    obtain ⟨vs, h1, h2, h3⟩ := flatL_val h
    refine ⟨.tuple vs.toArray, fun X => .tp (by simp [h1]) (fun j hj => by simpa using h2 X j hj), fun X u hu => ?_⟩
    obtain ⟨arr, rfl, hl, hr⟩ := inv_tp hu
    have := h3 X arr.toList (by simpa using hl) (fun i hi => by have := hr i hi; simpa [List.getD_eq_getElem?_getD, Array.getD_eq_getD_getElem?] using this)
    rw [← this]
  | .ag l, h => by
    simp only [AV.flat] at h
    obtain ⟨vs, h1, h2, h3⟩ := flatL_val h
    refine ⟨.agg vs.toArray, fun X => .ag (by simp [h1]) (fun j hj => by simpa using h2 X j hj), fun X u hu => ?_⟩
    obtain ⟨arr, rfl, hl, hr⟩ := inv_ag hu
    have := h3 X arr.toList (by simpa using hl) (fun i hi => by have := hr i hi; simpa [List.getD_eq_getElem?_getD, Array.getD_eq_getD_getElem?] using this)
    rw [← this]
  | .d (.v (.float _ _)), h => by simp only [AV.flat] at h
  | .d (.v (.complex _ _ _)), h => by simp only [AV.flat] at h
  | .d (.v (.slice _ _ _)), h => by simp only [AV.flat] at h
  | .d (.v (.agg _)), h => by simp only [AV.flat] at h
  | .d (.v (.tuple _)), h => by simp only [AV.flat] at h
  | .d (.v (.pointer _)), h => by simp only [AV.flat] at h
  | .d (.v (.map _)), h => by simp only [AV.flat] at h
  | .d (.v (.chan _)), h => by simp only [AV.flat] at h
  | .d (.v (.func _ _ _)), h => by simp only [AV.flat] at h
  | .d (.v .nilFunc), h => by simp only [AV.flat] at h
  | .d (.v .nilIface), h => by simp only [AV.flat] at h
  | .d (.v (.iface _ _)), h => by simp only [AV.flat] at h
  | .d (.sl _), h => by simp only [AV.flat] at h
  | .d (.fn _ _ _), h => by simp only [AV.flat] at h
  | .vw _ _, h => by simp only [AV.flat] at h
  | .rf _ _, h => by simp only [AV.flat] at h
  | .rp _ _ _ _, h => by simp only [AV.flat] at h
  | .ep _, h => by simp only [AV.flat] at h
  | .mp _, h => by simp only [AV.flat] at h
  | .fn _ _ _, h => by simp only [AV.flat] at h
  | .opt _ _, h => by simp only [AV.flat] at h
  | .jk, h => by simp only [AV.flat] at h
theorem flatL_val : ∀ {l : List AV}, flatL l → ∃ vs : List Value, vs.length = l.length ∧ (∀ X (i : Nat) (h : i < l.length), VRel X l[i] (vs.getD i undef)) ∧
    ∀ X (us : List Value), us.length = l.length → (∀ (i : Nat) (h : i < l.length), VRel X l[i] (us.getD i undef)) → us = vs
  | [], _ => ⟨[], rfl, fun X i h => absurd h (by simp), fun X us h _ => by simpa using h⟩
  | x :: l, h => by
    simp only [flatL] at h
    obtain ⟨v, v1, v2⟩ := flat_val h.1
    obtain ⟨vs, h1, h2, h3⟩ := flatL_val h.2
    refine ⟨v :: vs, by simp [h1], fun X i hi => ?_, fun X us hu hr => ?_⟩
    · cases i with
      | zero => simpa using v1 X
      | succ i => simpa using h2 X i (by simpa using hi)
    · cases us with
      | nil => simp at hu
      | cons u us =>
        have e1 := v2 X u (hr 0 (by simp))
        have e2 := h3 X us (by simpa using hu) (fun i hi => hr (i + 1) (by simp; omega))
        rw [e1, e2]
end
theorem quiet_sound (hK : KOk P K) (hΓ : GSound P Γ) (hs : SRel w0 own0 X s a) {k : AV → Prop} (h : aQuiet K Γ s o.op k) :
    ∃ v av, (∀ w, Below X.w.heap.size X.w w → o.quietAt P a (Below X.w.heap.size X.w) w v) ∧ VRel X av v ∧ k av := by
  have plain : aPure K s o.op k → ∃ v av, (∀ w, Below X.w.heap.size X.w w → o.quietAt P a (Below X.w.heap.size X.w) w v) ∧ VRel X av v ∧ k av := by
    intro hp
    obtain ⟨v, av, hr, hv, hk⟩ := pure_sound (C := Below X.w.heap.size X.w) hK hs (.inr sld_below) (.inr fun _ h => h) hp
    exact ⟨v, av, fun w hw => by unfold Oper.quietAt; rw [hr w hw]; exact ⟨rfl, rfl⟩, hv, hk⟩
  unfold aQuiet at h
  split at h
  · rename_i x ho
    exact ⟨a.eval x, _, fun w hw => by unfold Oper.quietAt; simp [execOp, ho, Oper.quietUpon], ev_sound hs x, h⟩
  · rename_i c x y ho
    split at h
    · rename_i t ht
      have et : a.eval c = .bool t := inv_bool (ht ▸ ev_sound hs c)
      cases t with
      | true => exact ⟨a.eval x, _, fun w hw => by unfold Oper.quietAt; simp [execOp, ho, et, asBool, Oper.quietUpon], ev_sound hs x, bcase_t h rfl⟩
      | false => exact ⟨a.eval y, _, fun w hw => by unfold Oper.quietAt; simp [execOp, ho, et, asBool, Oper.quietUpon], ev_sound hs y, bcase_f h rfl⟩
    · exact h.elim
  · rename_i t x ho
    obtain ⟨v, av, hr, hv, hk⟩ := y_load (P := P) (o := o) (C := Below X.w.heap.size X.w) (Γ := Γ) hK hs sld_below (.inr fun _ h => h) ho h
    exact ⟨v, av, fun w hw => by unfold Oper.quietAt; rw [hr w hw]; exact ⟨rfl, rfl⟩, hv, hk⟩
  · rename_i t x f ho
    obtain ⟨v, av, hr, hv, hk⟩ := y_fieldAddr (P := P) (o := o) (C := Below X.w.heap.size X.w) (Γ := Γ) hK hs ho h
    exact ⟨v, av, fun w hw => by unfold Oper.quietAt; rw [hr w hw]; exact ⟨rfl, rfl⟩, hv, hk⟩
  · rename_i t x y ho
    obtain ⟨v, av, hr, hv, hk⟩ := y_indexAddr (P := P) (o := o) (C := Below X.w.heap.size X.w) (Γ := Γ) hK hs ho h
    exact ⟨v, av, fun w hw => by unfold Oper.quietAt; rw [hr w hw]; exact ⟨rfl, rfl⟩, hv, hk⟩
  · rename_i t p ho
    obtain ⟨v, av, hr, hv, hk⟩ := y_build (P := P) (o := o) (C := Below X.w.heap.size X.w) (Γ := Γ) hK hs ho h
    exact ⟨v, av, fun w hw => by unfold Oper.quietAt; rw [hr w hw]; exact ⟨rfl, rfl⟩, hv, hk⟩
  · rename_i t x i ok ho
    obtain ⟨v, av, hr, hv, hk⟩ := y_lookupG (P := P) (o := o) (C := Below X.w.heap.size X.w) (Γ := Γ) hK hs (fun j ob _ hj hl hz w' hw' => hw'.block _ (hs.g.lt j ob hj hl hz)) (fun b _ hlt w' hw' => hw'.block b hlt) ho h
    exact ⟨v, av, fun w hw => by unfold Oper.quietAt; rw [hr w hw]; exact ⟨rfl, rfl⟩, hv, hk⟩
  · rename_i c ho
    split at h
    · rename_i f hc
      have hf := ev_sound hs f
      split at h
      · rename_i fi first caps ef
        rw [ef] at hf
        split at h
        · rename_i F hfe
          split at h
          · rename_i l hl
            split at h
            · rename_i p r hF
              obtain ⟨hp, hflat, hk⟩ := h
              obtain ⟨v, v1, v2⟩ := flat_val hflat
              obtain ⟨fv, cv, hv, h1, h2, r1, r2⟩ := inv_fn4 hf
              have hE : PSound P fi (detE F) := hΓ _ _ hfe
              refine ⟨v, r, fun w hw => ?_, v1 X, hk⟩
              have hs' := hs.below hw
              have hargs : ∀ (i : Nat) (h : i < (c.args.toList.map s.ev).length), VRel { X with w := w } (c.args.toList.map s.ev)[i] ((c.args.map a.eval).getD i undef) := fun i h => getD_map s a hs' c.args i (by simpa using h)
              have hf' := ev_sound hs' f
              rw [ef, hv] at hf'
              obtain ⟨fv', cv', hv', h1', h2', r1', r2'⟩ := inv_fn4 hf'
              cases hv'
              obtain ⟨p1, p2⟩ := rel_append (X := { X with w := w }) h1 (by simp : (c.args.map a.eval).size = (c.args.toList.map s.ev).length) r1' hargs
              obtain ⟨q1, q2⟩ := rel_append (X := { X with w := w }) p1 h2 p2 r2'
              obtain ⟨m1, m2⟩ := pureL_rel hs'.g (fun _ => False) (fun _ h => h.elim) (.inr fun _ h => h) hl
              have hcall := hE.call (fun _ => False) w l (fv ++ c.args.map a.eval ++ cv) (fun av => av = r) (fun b hb => hb.elim) (hs'.tabs.fewer fun _ h => h.elim) (by omega) (fun i hi => m2 i (by omega) hi _ (q2 i (by omega))) (by unfold detE; rw [hF]; exact ⟨hp, rfl⟩)
              have hrun : (execOp a.eval o).run P w = (callFunc fi (fv ++ c.args.map a.eval ++ cv)).run P w := by simp [execOp, ho, resolve, hc, hv, Deferred.ofValue, invoke]
              unfold Oper.quietAt
              rw [hrun, hE.enter]
              refine ⟨rfl, hcall.mono ?_⟩
              rintro e w'' ⟨u, av, rfl, rfl, hu, hb⟩
              exact ⟨by rw [v2 _ _ hu], below_trans hw hb⟩
            · exact h.elim
          · exact h.elim
        · exact h.elim
      · exact h.elim
    · exact plain h
  · exact plain h
theorem draw_sound {ops : Array Oper} (hK : KOk P K) (hΓ : GSound P Γ) : ∀ (l : List Oper) {s : S} {a : Act} {k : S → Prop}, SRel w0 own0 X s a → aDraw K Γ ops l k s → ∀ {Qa : Act → Prop},
    (∀ s' a', SRel w0 own0 X s' a' → k s' → Qa a') → wpQuiet P ops (Below X.w.heap.size X.w) Qa l a
  | [], s, a, k, hs, h, Qa, hk => hk s a hs h
  | o :: rest, s, a, k, hs, h, Qa, hk => by
    unfold aDraw at h
    unfold wpQuiet
    have go : aQuiet K Γ s o.op (fun av => aDraw K Γ ops rest k (s.put o.dst av)) → o.quiet P a (Below X.w.heap.size X.w) (wpQuiet P ops (Below X.w.heap.size X.w) Qa rest) := fun h => by
      obtain ⟨v, av, hr, hv, hk'⟩ := quiet_sound hK hΓ hs h
      exact ⟨v, hr, draw_sound hK hΓ rest (put_srel hs hv o.dst) hk' hk⟩
    have no : aDraw K Γ ops rest k (s.put o.dst (.tp [])) → wpQuiet P ops (Below X.w.heap.size X.w) Qa rest (a.put o.dst undef) := fun h =>
      draw_sound hK hΓ rest (put_srel hs nothing_rel o.dst) h hk
    split at h
    · rename_i hg
      rw [if_pos (by simp [Region.wanted, hg])]
      exact go h
    · rename_i j want hg
      split at h
      · rename_i d hd
        split at h
        · rename_i b hb
          have hw := wanted_of hs hg hd hb
          rw [hw]
          cases b <;> rw [lit_self hb] at h <;> cases want <;> simp only [bcase] at h
          · exact go h
          · exact no h
          · exact no h
          · exact go h
        · rename_i hb
          rw [if_neg (by rw [wanted_none hs hg hd hb]; simp)]
          exact no h
        · exact h.elim
      · exact h.elim
theorem leA_spec {x y : AV} {k : Prop} (h : leA x y k) : (y = .jk ∨ x = y ∨ (x = .nl ∧ y = .d (.sl []))) ∧ k := by
  unfold leA at h
  split at h
  · exact ⟨.inl rfl, h⟩
  · split at h
    · exact ⟨.inr (h.1.elim (fun e => .inl e.symm) (fun e => .inr ⟨rfl, e⟩)), h.2⟩
    · exact ⟨.inr (.inl h.1), h.2⟩
theorem leL_spec : ∀ {l r : List AV}, leL l r → l.length = r.length ∧ ∀ (i : Nat) (h : i < l.length) (h' : i < r.length), r[i] = .jk ∨ l[i] = r[i] ∨ (l[i] = .nl ∧ r[i] = .d (.sl []))
  | [], [], _ => ⟨rfl, fun i h => absurd h (by simp)⟩
  | [], _ :: _, h => by simp [leL] at h
  | _ :: _, [], h => by simp [leL] at h
  | x :: l, y :: r, h => by
    simp only [leL] at h
    obtain ⟨h0, h⟩ := leA_spec h
    obtain ⟨h1, h2⟩ := leL_spec h
    refine ⟨by simp [h1], fun i hi hi' => ?_⟩
    cases i with
    | zero => exact h0
    | succ i => exact h2 i (by simpa using hi) (by simpa using hi')
theorem leO_spec : ∀ {l r : List Ob}, leO l r → ∀ (i : Nat) (y : Ob), r[i]? = some y → y = .gone ∨ ∃ x, l[i]? = some x ∧ (x = y ∨ syOf x y)
  | _, [], _, i, y, h => by simp at h
  | [], _ :: _, h, _, _, _ => h.elim
  | x :: l, z :: r, h, i, y, hy => by
    simp only [leO] at h
    cases i with
    | zero =>
      simp only [List.getElem?_cons_zero, Option.some.injEq] at hy ⊢
      subst hy
      exact h.1.imp id fun h => ⟨x, rfl, h⟩
    | succ i =>
      simp only [List.getElem?_cons_succ] at hy ⊢
      exact leO_spec h.2 i y hy
theorem fitsL_eq (n : Nat) : ∀ l, fitsL n l = l.all (AV.fits n)
  | [] => rfl
  | x :: l => by simp [fitsL, fitsL_eq n l]
def Cx.few (X : Cx) (obj' : Nat → Prop) (n' : Nat) : Cx := { X with obj := obj', n := n' }
theorem few_keeps {X : Cx} {obj' : Nat → Prop} {n' : Nat} (h : ∀ b, obj' b → X.obj b) : Keeps X.own X.w (X.few obj' n').own (X.few obj' n').w :=
  Cx.keeps ⟨Nat.le_refl _, fun b _ hb => ⟨rfl, fun hh => hb (h b hh)⟩⟩ rfl
theorem VRel.few {X : Cx} {obj' : Nat → Prop} {n' : Nat} (hsub : ∀ b, obj' b → X.obj b) {av : AV} {v : Value} (h : VRel X av v) : av.fits n' = true → VRel (X.few obj' n') av v := by
  have hk := few_keeps (n' := n') hsub
  induction h with
  | d h => exact fun _ => .d (h.mono hk)
  | nl => exact fun _ => .nl
  | vw h hz hc => exact fun hf => .vw (X := X.few obj' n') (of_decide_eq_true hf) hz hc
  | vz h hz => exact fun hf => .vz (X := X.few obj' n') (of_decide_eq_true hf) hz
  | rf h hr => exact fun hf => .rf (X := X.few obj' n') (of_decide_eq_true hf) hr
  | rp h => exact fun hf => .rp (X := X.few obj' n') (of_decide_eq_true hf)
  | @ep c b off g h1 h2 h3 =>
    exact fun _ => .ep (X := X.few obj' n') g (fun h0 hh => h1 h0 (hh.elim (fun x => .inl (hsub _ x)) .inr)) h2 (fun j hj => (h3 j hj).mono hk)
  | mp h hr => exact fun hf => .mp (X := X.few obj' n') (of_decide_eq_true hf) hr
  | ag hl _ ih => exact fun hf => .ag hl fun j hj => ih j hj (by simp only [AV.fits, fitsL_eq, List.all_eq_true] at hf; exact hf _ (List.getElem_mem _))
  | tp hl _ ih => exact fun hf => .tp hl fun j hj => ih j hj (by simp only [AV.fits, fitsL_eq, List.all_eq_true] at hf; exact hf _ (List.getElem_mem _))
  | fn h1 h2 _ _ ih1 ih2 =>
    exact fun hf => .fn h1 h2 (fun j hj => ih1 j hj (by simp only [AV.fits, fitsL_eq, List.all_eq_true, Bool.and_eq_true] at hf; exact hf.1 _ (List.getElem_mem _)))
      (fun j hj => ih2 j hj (by simp only [AV.fits, fitsL_eq, List.all_eq_true, Bool.and_eq_true] at hf; exact hf.2 _ (List.getElem_mem _)))
  | opt _ ih => exact fun hf => .opt fun hb => ih hb (by simpa [AV.fits] using hf)
  | jk => exact fun _ => .jk
mutual
theorem fits_rigid (n : Nat) : ∀ {x : AV} (h : x.rigid = true), x.fits n = true
  | .d _, h => rfl
  | .nl, h => rfl
  | .ag cs, h => by
    simp only [AV.rigid] at h
    simp only [AV.fits]
    exact fits_rigidL n h
  | .rf _ _, h => by cases h
  | .mp _, h => by cases h
  | .fn _ _ _, h => by cases h
  | .vw _ _, h => by cases h
  | .rp _ _ _ _, h => by cases h
  | .ep _, h => by cases h
  | .tp _, h => by cases h
  | .opt _ _, h => by cases h
  | .jk, h => by cases h
theorem fits_rigidL (n : Nat) : ∀ {l : List AV} (h : rigidL l = true), fitsL n l = true
  | [], h => rfl
  | x :: l, h => by
    simp only [rigidL, Bool.and_eq_true] at h
    simp only [fitsL, fits_rigid n h.1, fits_rigidL n h.2, Bool.and_self]
end
theorem ORel.sy {X : Cx} {i : Nat} {x y : Ob} (h : ORel X i x) (e : x = y ∨ syOf x y) : ORel X i y := by
  rcases e with rfl | e
  · exact h
  · unfold syOf at e
    split at e
    · obtain ⟨e1, e2, rfl, e3⟩ := e
      obtain ⟨hz, hkk, rest⟩ := h
      exact ⟨hz, fun p hp => ⟨by rw [e2]; exact (hkk p hp).1, fun _ => e3 p hp⟩, rest⟩
    · exact e.elim
theorem sy_live {x y : Ob} (e : x = y ∨ syOf x y) : x.live = y.live := by
  rcases e with rfl | e
  · rfl
  · unfold syOf at e
    split at e
    · rfl
    · exact e.elim
theorem sy_row {x : Ob} {sz : Nat} {es : List (List D)} (e : x = .row sz es ∨ syOf x (.row sz es)) : x = .row sz es := by
  rcases e with rfl | e
  · rfl
  · cases x <;> exact e.elim
theorem sy_gh {x : Ob} {cs : List AV} (e : x = .gh cs ∨ syOf x (.gh cs)) : x = .gh cs := by
  rcases e with rfl | e
  · rfl
  · cases x <;> exact e.elim
theorem ORel.few {X : Cx} {obj' : Nat → Prop} {n' : Nat} (hsub : ∀ b, obj' b → X.obj b) {i : Nat} {ob : Ob} (h : ORel X i ob) (hf : ob.fits n' = true) : ORel (X.few obj' n') i ob := by
  have hk := few_keeps (n' := n') hsub
  cases ob with
  | box cs =>
    obtain ⟨hz, arr, T, h1, h2, h3⟩ := h
    exact ⟨hz, arr, T, h1, h2, fun j hj => (h3 j hj).few hsub (by simp only [Ob.fits, fitsL_eq, List.all_eq_true] at hf; exact hf _ (List.getElem_mem _))⟩
  | row sz es =>
    obtain ⟨p1, p2, ⟨hz, he⟩ | ⟨hz, arr, T, h1, hlen, h2, h3, h4, h5⟩⟩ := h
    · exact ⟨p1, p2, .inl ⟨hz, he⟩⟩
    · exact ⟨p1, p2, .inr ⟨hz, arr, T, h1, hlen, h2, h3, h4, fun k hk' j hj => (h5 k hk' j hj).mono hk⟩⟩
  | map kk ents =>
    obtain ⟨hz, hkk, me, clock, h1, h2, h3, h4, h5⟩ := h
    exact ⟨hz, hkk, me, clock, h1, h2, h3, h4, fun j hj hj' => ⟨(h5 j hj hj').1, (h5 j hj hj').2.1, (h5 j hj hj').2.2.few hsub (by
      simp only [Ob.fits, Bool.or_eq_true, List.all_eq_true] at hf
      rcases hf with hf | hf
      · exact fits_rigid _ ((hkk _ (List.getElem_mem hj)).2 hf)
      · exact hf _ (List.getElem_mem _))⟩⟩
  | gone => trivial
  | gh cs => trivial
  | pow es =>
    obtain ⟨p0, p1, p2, ⟨hz, he⟩ | ⟨hz, arr, T, h1, hlen, h2, h3, h4⟩⟩ := h
    · exact ⟨p0, p1, p2, .inl ⟨hz, he⟩⟩
    · exact ⟨p0, p1, p2, .inr ⟨hz, arr, T, h1, hlen, h2, h3, fun j hj => (h4 j hj).few hsub (by simp only [Ob.fits, fitsL_eq, List.all_eq_true] at hf; exact hf _ (List.getElem_mem _))⟩⟩
  | bun R =>
    obtain ⟨hz, hp⟩ := h
    exact ⟨hz, R.stab hp hk.size (fun c h1 h2 => hk.keep c h1 h2) fun c hc => rfl⟩
theorem SRel.le {s1 : S} (hs : SRel w0 own0 X s a) (h : s.le s1) : ∃ X', X'.w = X.w ∧ SRel w0 own0 X' s1 a := by
  obtain ⟨h1, h2⟩ := h
  obtain ⟨l1, l2⟩ := leL_spec h1
  have slot : ∀ X', (∀ (i : Nat) (h : i < s1.t.length) (h' : i < s.t.length), s.t[i] = s1.t[i] → VRel X s.t[i] (a.tmps.getD i undef) → VRel X' s1.t[i] (a.tmps.getD i undef)) → ∀ (i : Nat) (h : i < s1.t.length), VRel X' s1.t[i] (a.tmps.getD i undef) := by
    intro X' hX i hi
    rcases l2 i (by omega) hi with e | e | ⟨e, e'⟩
    · rw [e]; exact .jk
    · exact hX i hi (by omega) e (hs.slot i (by omega))
    · have := hs.slot i (by omega)
      rw [e] at this
      rw [e', inv_nl this]
      exact .d .nil
  rcases h2 with h2 | ⟨h2, hf⟩
  · exact ⟨X, rfl, hs.len.trans l1, slot X fun i hi hi' e h => e ▸ h, hs.defers, h2 ▸ hs.g, hs.ext, hs.fr, hs.new, h2 ▸ hs.gh, hs.tab⟩
  · obtain ⟨f1, f2⟩ := Bool.and_eq_true_iff.1 hf
    rw [fitsL_eq, List.all_eq_true] at f1
    rw [List.all_eq_true] at f2
    have get : ∀ (i : Nat) (y : Ob), s1.o[i]? = some y → y.live = true → ∃ x, s.o[i]? = some x ∧ x.live = true ∧ (x = y ∨ syOf x y) := by
      intro i y hy hl
      rcases leO_spec h2 i y hy with e | ⟨x, e, e'⟩
      · subst e; cases hl
      · exact ⟨x, e, (sy_live e').trans hl, e'⟩
    let obj' : Nat → Prop := fun b => ∃ i ob, s1.o[i]? = some ob ∧ ob.live = true ∧ X.z i = false ∧ X.blk i b
    have hsub : ∀ b, obj' b → X.obj b := fun b ⟨i, ob, g1, g2, g3, g4⟩ => by
      obtain ⟨x, x1, x2, _⟩ := get i ob g1 g2
      exact (hs.g.obj b).2 ⟨i, x, x1, x2, g3, g4⟩
    refine ⟨X.few obj' s1.o.length, rfl, hs.len.trans l1, slot _ fun i hi hi' e h => ?_, hs.defers, ?_, hs.ext, hs.fr, fun b hb => hs.new b (hsub b hb), fun k cs hk' => ?_, hs.tab⟩
    · rw [e] at h
      exact h.few hsub (f1 _ (List.getElem_mem _))
    · refine ⟨rfl, fun b => Iff.rfl, fun i j x y g1 g2 p1 p2 q1 q2 b b1 b2 => ?_, fun i x g1 p1 q1 b b1 => ?_, hs.g.ext1, fun i x g1 p1 q1 b b1 => ?_, fun i sz es g1 => ?_, fun i x g1 => ?_⟩
      · obtain ⟨x', x1, x2, _⟩ := get i x g1 p1
        obtain ⟨y', y1, y2, _⟩ := get j y g2 p2
        exact hs.g.injB i j x' y' x1 y1 x2 y2 q1 q2 b b1 b2
      · obtain ⟨x', x1, x2, _⟩ := get i x g1 p1
        exact hs.g.ltB i x' x1 x2 q1 b b1
      · obtain ⟨x', x1, x2, _⟩ := get i x g1 p1
        exact hs.g.ext2B i x' x1 x2 q1 b b1
      · obtain ⟨x', x1, x2, x3⟩ := get i _ g1 rfl
        rw [sy_row x3] at x1
        exact hs.g.rws i sz es x1
      cases hl : x.live with
      | false => cases x <;> first | trivial | cases hl
      | true =>
        obtain ⟨x', x1, x2, x3⟩ := get i x g1 hl
        exact ((hs.g.rel i x' x1).sy x3).few hsub (f2 x (List.mem_of_getElem? g1))
    · rcases leO_spec h2 k _ hk' with e | ⟨x, e, e'⟩
      · cases e
      · rw [sy_gh e'] at e
        obtain ⟨l, r⟩ := hs.gh k cs e
        have hf' := f2 _ (List.mem_of_getElem? hk')
        simp only [Ob.fits, fitsL_eq, List.all_eq_true] at hf'
        exact ⟨l, fun j hj => (r j hj).few hsub (hf' _ (List.getElem_mem _))⟩
theorem weak_seal (s : S) (rs : List Nat) : Weak s (sealAll rs s) := fun w0 own0 X a h => sealAll_srel rs h
theorem weak_le {s s1 : S} (h : s.le s1) : Weak s s1 := fun w0 own0 X a hs => hs.le h
theorem weak_packG {s : S} (fp : List (Option Nat)) (hp : packGOK fp s.o = true) : Weak s (s.packG fp) := fun w0 own0 X a hs => let ⟨X', h1, h2, _⟩ := hs.packG fp hp; ⟨X', h1, h2⟩
theorem weak_openB (s : S) (i j sz : Nat) (hz : 0 < sz) : Weak s (s.openB i j sz) := fun w0 own0 X a hs => openB_srel hs i j sz hz
theorem weak_openP (s : S) (i j : Nat) : Weak s ⟨s.t, openPow i j s.o⟩ := fun w0 own0 X a hs => let ⟨Y, h1, h2, _⟩ := openPow_ghost i j w0 own0 X s a hs; ⟨Y, h1, h2⟩
theorem FamNext.weak {ι : Type} {st : ι → S} {inv : ι → Prop} {μ : ι → Nat} {i : ι} {s : S} (h : FamNext st inv μ i s) : ∃ j, Weak s (st j) ∧ inv j ∧ μ j < μ i := by
  cases h with
  | mk rs j h hi hm => exact ⟨j, (weak_seal s rs).trans (weak_le h), hi, hm⟩
  | mkW j h hi hm => exact ⟨j, h, hi, hm⟩
theorem maskL_len : ∀ (m : List Bool) (l : List AV), (maskL m l).length = l.length
  | [], l => rfl
  | _ :: _, [] => rfl
  | true :: m, _ :: l => by simp [maskL, maskL_len m l]
  | false :: m, _ :: l => by simp [maskL, maskL_len m l]
theorem maskL_get : ∀ (m : List Bool) (l : List AV) (i : Nat) (h : i < (maskL m l).length) (h' : i < l.length), (maskL m l)[i] = .jk ∨ (maskL m l)[i] = l[i]
  | [], l, i, h, h' => .inr rfl
  | _ :: _, [], i, h, h' => absurd h' (by simp)
  | true :: m, _ :: l, 0, h, h' => .inl rfl
  | false :: m, _ :: l, 0, h, h' => .inr rfl
  | true :: m, _ :: l, i + 1, h, h' => by simpa [maskL] using maskL_get m l i (by simpa [maskL] using h) (by simpa using h')
  | false :: m, _ :: l, i + 1, h, h' => by simpa [maskL] using maskL_get m l i (by simpa [maskL] using h) (by simpa using h')
theorem SRel.mask (hs : SRel w0 own0 X s a) (m : List Bool) : SRel w0 own0 X (s.mask m) a where
  len := by rw [hs.len]; exact (maskL_len m s.t).symm
  slot := fun i h => by
    have h' : i < s.t.length := by have := maskL_len m s.t; simp only [S.mask] at h; omega
    rcases maskL_get m s.t i h h' with e | e
    · have e : (s.mask m).t[i] = .jk := e
      rw [e]; exact .jk
    · have e : (s.mask m).t[i] = s.t[i] := e
      rw [e]; exact hs.slot i h'
  defers := hs.defers
  g := hs.g
  ext := hs.ext
  fr := hs.fr
  new := hs.new
  gh := hs.gh
  tab := hs.tab
theorem firstK_call {ph : Bool} {c : Call} {f : Operand} (hc : c.callee = .value f) : firstK K ph s (.call c) = false := by
  simp [firstK, isPureOp, hc]
theorem first_sound (hK : KOk P K) (hΓ : GSound P Γ) {C : World → Prop} {ph : Bool} (hs : SRel w0 own0 X s a) (hf : firstK K ph s o.op = true) (hC : ph = true → Sld C X) {k : AV → Prop} (h : aQuiet K Γ s o.op k) :
    Yields P C X a o k := by
  have plain : isPureOp K o.op = true → (isPureOp K o.op && (ph || !sealRead o.op) && !ownRead s o.op) = true → aPure K s o.op k → Yields P C X a o k := by
    intro _ h1 hp
    simp only [Bool.and_eq_true, Bool.or_eq_true, Bool.not_eq_true'] at h1
    exact pure_sound hK hs (h1.1.2.elim (fun h => .inr (hC h)) .inl) (.inl h1.2) hp
  cases ho : o.op <;> rw [ho] at h hf plain
  case assign x =>
    simp only [aQuiet] at h
    exact ⟨a.eval x, _, fun w hw => by simp [execOp, ho], ev_sound hs x, h⟩
  case pick c x y =>
    simp only [aQuiet] at h
    split at h
    · rename_i t ht
      have et : a.eval c = .bool t := inv_bool (ht ▸ ev_sound hs c)
      cases t with
      | true => exact ⟨a.eval x, _, fun w hw => by simp [execOp, ho, et, asBool], ev_sound hs x, bcase_t h rfl⟩
      | false => exact ⟨a.eval y, _, fun w hw => by simp [execOp, ho, et, asBool], ev_sound hs y, bcase_f h rfl⟩
    · exact h.elim
  case load t x =>
    simp only [aQuiet] at h
    simp only [firstK, Bool.and_eq_true, Bool.not_eq_true'] at hf
    exact y_load hK hs (hC hf.1) (.inl hf.2) ho h
  case fieldAddr t x f => simp only [aQuiet] at h; exact y_fieldAddr hK hs ho h
  case slice t x lo hi mx =>
    cases mx with
    | none => exact pure_sound hK hs (.inl (by rw [ho]; rfl)) (.inl (by rw [ho]; rfl)) (by rw [ho]; simpa only [aQuiet] using h)
    | some m => simp [firstK, isPureOp] at hf
  case indexAddr t x y => simp only [aQuiet] at h; exact y_indexAddr hK hs ho h
  case call c =>
    cases hc : c.callee with
    | value f => rw [firstK_call hc] at hf; cases hf
    | builtin b =>
      simp only [aQuiet, hc] at h
      have hf' : (isPureOp K (.call c) && (ph || !sealRead (.call c)) && !ownRead s (.call c)) = true := hf
      have := hf'
      simp only [Bool.and_eq_true] at this
      exact plain this.1.1 hf' h
    | invoke m => simp [firstK, isPureOp, hc] at hf
  all_goals
    have hf' := hf
    simp only [firstK, isPureOp, Bool.false_and, Bool.false_eq_true] at hf
    try exact hf.elim
    try (have hp := hf'; simp only [firstK, Bool.and_eq_true] at hp; exact plain hp.1.1 hf' (by simpa only [aQuiet] using h))
theorem gd_sound {ops : Array Oper} (hs : SRel w0 own0 X s a) {yes no : S → Prop} (h : gd ops s o yes no) :
    (Region.wanted o (yielded ops a.tmps) = true ∧ yes s) ∨ (Region.wanted o (yielded ops a.tmps) = false ∧ no s) := by
  unfold gd at h
  split at h
  · rename_i hg
    exact .inl ⟨by simp [Region.wanted, hg], h⟩
  · rename_i j want hg
    split at h
    · rename_i d hd
      split at h
      · rename_i b hb
        have hw := wanted_of hs hg hd hb
        cases b <;> rw [lit_self hb] at h <;> cases want <;> simp only [bcase] at h
        · exact .inl ⟨by rw [hw]; rfl, h⟩
        · exact .inr ⟨by rw [hw]; rfl, h⟩
        · exact .inr ⟨by rw [hw]; rfl, h⟩
        · exact .inl ⟨by rw [hw]; rfl, h⟩
      · rename_i hb
        exact .inr ⟨wanted_none hs hg hd hb, h⟩
      · exact h.elim
    · exact h.elim
theorem allN_spec {p : Nat → Prop} : ∀ {l : List Nat}, allN p l → ∀ i ∈ l, p i
  | [i], h, j, hj => by
    have : j = i := by simpa using hj
    subst this; exact h
  | i :: i2 :: l, h, j, hj => by
    rcases List.mem_cons.1 hj with rfl | hj
    · exact h.1
    · exact allN_spec (l := i2 :: l) h.2 j hj
theorem elemB_iff {i : Nat} {W : List Nat} : elemB i W = true ↔ i ∈ W := by
  simp only [elemB, List.any_eq_true, decide_eq_true_eq]
  exact ⟨fun ⟨j, hj, e⟩ => e ▸ hj, fun h => ⟨i, h, rfl⟩⟩
def SN (w0 : World) (own0 : O0) (X0 : Cx) (o0 : List Ob) (W : List Nat) (w' : World) : Prop :=
  Fr w0 own0.own w' ∧ ∀ j ob, o0[j]? = some ob → ob.live = true → X0.z j = false → ¬ j ∈ W → w'.heap[X0.b j]? = w0.heap[X0.b j]?
structure NI (w0 : World) (own0 : O0) (X0 : Cx) (o0 : List Ob) (W : List Nat) (X : Cx) (o : List Ob) : Prop where
  old : ∀ j ob, o[j]? = some ob → ob.live = true → X.z j = false → j < o0.length → ∃ ob0, o0[j]? = some ob0 ∧ ob0.live = true ∧ X0.z j = false ∧ X.b j = X0.b j
  new : ∀ j ob, o[j]? = some ob → ob.live = true → X.z j = false → o0.length ≤ j → w0.heap.size ≤ X.b j
  sn : SN w0 own0 X0 o0 W X.w
theorem firstN_sound (hK : KOk P K) (hΓ : GSound P Γ) {X0 : Cx} {o0 : List Ob} {W : List Nat} {ph : Bool} (hs : SRel w0 own0 X s a) (hn : NI w0 own0 X0 o0 W X s.o) (hf : firstN K o0.length W ph s o.op = true)
    (hC : ph = true → Sld (SN w0 own0 X0 o0 W) X) {k : AV → Prop} (h : aQuiet K Γ s o.op k) : Yields P (SN w0 own0 X0 o0 W) X a o k := by
  have same : ∀ j ob, s.o[j]? = some ob → ob.live = true → X.z j = false → j < o0.length → ¬ j ∈ W → ∀ w', SN w0 own0 X0 o0 W w' → w'.heap[X.b j]? = X.w.heap[X.b j]? := by
    intro j ob hj hl hz hlt hw w' hw'
    obtain ⟨ob0, h1, h2, h3, h4⟩ := hn.old j ob hj hl hz hlt
    rw [h4, hw'.2 j ob0 h1 h2 h3 hw, hn.sn.2 j ob0 h1 h2 h3 hw]
  cases ho : o.op
  case load t x =>
    rw [ho] at h hf
    simp only [aQuiet] at h
    simp only [firstN] at hf
    split at hf
    · rename_i i off e
      simp only [Bool.and_eq_true, Bool.not_eq_true', Nat.blt_eq] at hf
      have hw : ¬ i ∈ W := fun hh => by rw [elemB_iff.2 hh] at hf; cases hf.2
      refine y_loadG hK hs (fun ⟨c, e'⟩ => by rw [e] at e'; cases e') (fun j ob hx hj hl hz w' hw' => ?_) (fun j ob ad e' => by rw [e] at e'; cases e') ho h
      have hji : j = i := by
        rcases hx with ⟨_, e'⟩ | ⟨_, _, _, e'⟩ <;> rw [e] at e' <;> cases e' <;> rfl
      subst hji
      exact same j ob hj hl hz hf.1 hw w' hw'
    · rename_i c e
      exact y_loadG hK hs (fun _ => hC hf) (fun j ob hx => by rcases hx with ⟨_, e'⟩ | ⟨_, _, _, e'⟩ <;> rw [e] at e' <;> cases e') (fun j ob ad e' => by rw [e] at e'; cases e') ho h
    · cases hf
  case lookup t x i ok =>
    rw [ho] at h hf
    simp only [aQuiet] at h
    simp only [firstN] at hf
    refine y_lookupG hK hs (fun j ob e hj hl hz w' hw' => ?_) (fun b e _ w' hw' => by rw [e] at hf; cases hf) ho h
    rw [e] at hf
    simp only [Bool.and_eq_true, Bool.not_eq_true', Nat.blt_eq] at hf
    have hw : ¬ j ∈ W := fun hh => by rw [elemB_iff.2 hh] at hf; cases hf.2
    exact same j ob hj hl hz hf.1 hw w' hw'
  all_goals
    have hf' : firstK K ph s o.op = true := by
      rw [ho] at hf ⊢
      simpa only [firstN] using hf
    exact first_sound hK hΓ hs hf' hC h
theorem NI.below {X0 : Cx} {o0 : List Ob} {W : List Nat} (g0 : GRel X0 o0) (hw0 : X0.w = w0) (hn : NI w0 own0 X0 o0 W X s.o) (hs : SRel w0 own0 X s a) {w' : World} (hb : Below X.w.heap.size X.w w') : NI w0 own0 X0 o0 W { X with w := w' } s.o :=
  ⟨hn.old, hn.new, (hs.below hb).fr, fun j ob hj hl hz hw => by
    have hlt := g0.lt j ob hj hl hz
    rw [hw0] at hlt
    exact (hb.block _ (Nat.lt_of_lt_of_le hlt hs.fr.size)).trans (hn.sn.2 j ob hj hl hz hw)⟩
theorem NI.push {X0 : Cx} {o0 : List Ob} {W : List Nat} (g0 : GRel X0 o0) (hw0 : X0.w = w0) (hle : o0.length ≤ s.o.length) (hn : NI w0 own0 X0 o0 W X s.o) (hs : SRel w0 own0 X s a) {ob : Obj} {c : CC} {rw : Bool} {nb : Ob} {s' : S} (hs' : SRel w0 own0 (X.push ob c rw) s' a) : NI w0 own0 X0 o0 W (X.push ob c rw) (s.o ++ [nb]) := by
  refine ⟨fun j x hj hl hz hlt => ?_, fun j x hj hl hz hle' => ?_, hs'.fr, fun j x hj hl hz hw => ?_⟩
  · rcases get_append_one hj with ⟨hi, g1⟩ | ⟨hi, _⟩
    · have hne : ¬ j = X.n := by rw [hs.g.n]; omega
      simp only [Cx.push, hne, if_false] at hz ⊢
      exact hn.old j x g1 hl hz hlt
    · omega
  · rcases get_append_one hj with ⟨hi, g1⟩ | ⟨hi, _⟩
    · have hne : ¬ j = X.n := by rw [hs.g.n]; omega
      simp only [Cx.push, hne, if_false] at hz ⊢
      exact hn.new j x g1 hl hz hle'
    · have he : j = X.n := by rw [hs.g.n]; omega
      simp only [Cx.push, he, if_true]
      exact hs.fr.size
  · have hlt := g0.lt j x hj hl hz
    rw [hw0] at hlt
    rw [show (X.push ob c rw).w.heap[X0.b j]? = X.w.heap[X0.b j]? from heap_alloc _ _ _ (Nat.lt_of_lt_of_le hlt hs.fr.size)]
    exact hn.sn.2 j x hj hl hz hw
theorem NI.upd {X0 : Cx} {o0 : List Ob} {W : List Nat} (g0 : GRel X0 o0) (hw0 : X0.w = w0) (hn : NI w0 own0 X0 o0 W X s.o) {i : Nat} {ob ob' : Ob} (hi : s.o[i]? = some ob) (hli : ob.live = true) (hzi : X.z i = false) (hW : i ∈ W ∨ o0.length ≤ i) {obj : Obj} {s' : S} (hs' : SRel w0 own0 (X.upd i obj) s' a) : NI w0 own0 X0 o0 W (X.upd i obj) (s.o.set i ob') := by
  have get : ∀ (j : Nat) (x : Ob), (s.o.set i ob')[j]? = some x → x.live = true → ∃ y, s.o[j]? = some y ∧ y.live = true := by
    intro j x h hl
    rw [List.getElem?_set] at h
    split at h
    · rename_i e; subst e; exact ⟨_, hi, hli⟩
    · exact ⟨x, h, hl⟩
  refine ⟨fun j x hj hl hz hlt => ?_, fun j x hj hl hz hle => ?_, hs'.fr, fun j x hj hl hz hw => ?_⟩
  · obtain ⟨y, h1, h2⟩ := get j x hj hl
    exact hn.old j y h1 h2 hz hlt
  · obtain ⟨y, h1, h2⟩ := get j x hj hl
    exact hn.new j y h1 h2 hz hle
  · have hlt := g0.lt j x hj hl hz
    rw [hw0] at hlt
    rw [heap_upd, if_neg]
    · exact hn.sn.2 j x hj hl hz hw
    · rintro ⟨e, _⟩
      rcases Nat.lt_or_ge i o0.length with h | h
      · obtain ⟨ob0, q1, q2, q3, q4⟩ := hn.old i _ hi hli hzi h
        have := g0.inj j i x ob0 hj q1 hl q2 hz q3 (by rw [← q4]; exact e.symm)
        subst this
        rcases hW with hW | hW
        · exact hw hW
        · omega
      · have := hn.new i _ hi hli hzi h
        omega
theorem stepN_sound (hK : KOk P K) (hΓ : GSound P Γ) {X0 : Cx} {o0 : List Ob} {W : List Nat} (g0 : GRel X0 o0) (hw0 : X0.w = w0) (hle : o0.length ≤ s.o.length) (hs : SRel w0 own0 X s a) (hn : NI w0 own0 X0 o0 W X s.o) {k : AV → S → Prop}
    (hnext : ∀ X' v av s', k av s' → SRel w0 own0 X' s' a → VRel X' av v → NI w0 own0 X0 o0 W X' s'.o → o0.length ≤ s'.o.length → next (a.put o.dst v) X'.w) (h : aStepN K Γ o0.length W s o.op k) : o.wp P a X.w next Q := by
  have quiet : aQuiet K Γ s o.op (fun av => k av s) → o.wp P a X.w next Q := fun h => by
    obtain ⟨v, av, hr, hv, hk⟩ := quiet_sound hK hΓ hs h
    refine Oper.wp_of_quiet (C := Below X.w.heap.size X.w) (K := fun a' => a' = a.put o.dst v) (Below.refl _ _) (fun a' w' hw' e => ?_) ⟨v, hr, rfl⟩
    subst e
    refine hnext { X with w := w' } v av s hk (hs.below hw') ?_ (hn.below g0 hw0 hs hw') hle
    exact VRel.step (X := X) (X' := { X with w := w' }) ⟨hw'.size, fun b hlt hb => ⟨hw'.block b hlt, hb⟩⟩ (Nat.le_refl _) (fun _ _ => ⟨rfl, rfl, rfl, rfl⟩) hv
  unfold aStepN at h
  split at h
  · rename_i t ho
    obtain ⟨ob, nb, v, av, hl, h1, h2, h3, h4⟩ := alloc_ex hK hs ho h
    unfold Oper.wp
    rw [h1]
    exact hnext _ v av _ h4 h2 h3 (hn.push g0 hw0 hle hs h2) (by simp; omega)
  · rename_i t x ho
    obtain ⟨ob, nb, v, av, hl, h1, h2, h3, h4⟩ := box_ex hs ho h
    unfold Oper.wp
    rw [h1]
    exact hnext _ v av _ h4 h2 h3 (hn.push g0 hw0 hle hs h2) (by simp; omega)
  · rename_i t x y ho
    split at h
    · rename_i i off e
      obtain ⟨h0, h⟩ := chk_iff.1 h
      have hW : i ∈ W ∨ o0.length ≤ i := by
        simp only [Bool.or_eq_true, Nat.ble_eq] at h0
        exact h0.imp elemB_iff.1 id
      obtain ⟨obj, cs, cs', hi, hz, h1, h2, h3⟩ := store_ex e hK hs ho h
      unfold Oper.wp
      rw [h1]
      exact hnext _ undef .jk _ h3 h2 .jk (hn.upd g0 hw0 hi rfl hz hW h2) (by simpa using hle)
    · exact h.elim
  · rename_i t m i x ho
    split at h
    · rename_i j e
      obtain ⟨h0, h⟩ := chk_iff.1 h
      have hW : j ∈ W ∨ o0.length ≤ j := by
        simp only [Bool.and_eq_true, Bool.or_eq_true, Nat.ble_eq] at h0
        exact h0.1.1.imp elemB_iff.1 id
      have hnb : ∀ j0 R, s.ev m = .mp j0 → s.o[j0]? ≠ some (.bun R) := fun j0 R e0 hb => by
        rw [e] at e0; cases e0
        simp only [Bool.and_eq_true, hb, isMapO] at h0
        exact absurd h0.2 (by simp)
      obtain ⟨j', e', obj, ob, ob', hi, hl, hl', hz, h1, h2, h3⟩ := update_ex (o := o) hK hs hnb (fun b e0 => by rw [e] at e0; cases e0) (by simp [execOp, ho]) h
      rw [e] at e'; cases e'
      unfold Oper.wp
      rw [h1]
      exact hnext _ undef .jk _ h3 h2 .jk (hn.upd g0 hw0 hi hl hz hW h2) (by simpa using hle)
    · exact h.elim
  · rename_i t m i x ho
    split at h
    · rename_i j e
      obtain ⟨h0, h⟩ := chk_iff.1 h
      have hW : j ∈ W ∨ o0.length ≤ j := by
        simp only [Bool.and_eq_true, Bool.or_eq_true, Nat.ble_eq] at h0
        exact h0.1.1.imp elemB_iff.1 id
      have hnb : ∀ j0 R, s.ev m = .mp j0 → s.o[j0]? ≠ some (.bun R) := fun j0 R e0 hb => by
        rw [e] at e0; cases e0
        simp only [Bool.and_eq_true, hb, isMapO] at h0
        exact absurd h0.2 (by simp)
      obtain ⟨j', e', obj, ob, ob', hi, hl, hl', hz, h1, h2, h3⟩ := update_ex (o := o) (Γ := Γ) (t := t) (m := m) (x := i) (y := x) (q := fun av o' _ => k av ⟨s.t, o'⟩) hK hs hnb (fun b e0 => by rw [e] at e0; cases e0) (by simp [execOp, ho]) (by simp only [aOp] at h ⊢; exact h)
      rw [e] at e'; cases e'
      unfold Oper.wp
      rw [h1]
      exact hnext _ undef .jk _ h3 h2 .jk (hn.upd g0 hw0 hi hl hz hW h2) (by simpa using hle)
    · exact h.elim
  · rename_i c ho
    split at h
    · rename_i hc
      split at h
      · rename_i x xs hargs
        split at h
        · rename_i j e
          obtain ⟨h0, h⟩ := chk_iff.1 h
          have hW : j ∈ W ∨ o0.length ≤ j := by
            simp only [Bool.or_eq_true, Nat.ble_eq] at h0
            exact h0.imp elemB_iff.1 id
          rcases delete_ex hK hs ho hc (fun x1 b h1 h2 => by rw [hargs] at h1; cases h1; rw [e] at h2; cases h2) h with ⟨h1, h2⟩ | ⟨x', j', hx, e', obj, ob, ob', hi, hl, hl', hz, h1, h2, h3⟩
          · unfold Oper.wp
            rw [h1]
            exact hnext X (.tuple #[]) (.tp []) s h2 hs (.tp rfl (fun j h => absurd h (by simp))) hn hle
          · rw [hargs] at hx
            cases hx
            rw [e] at e'; cases e'
            unfold Oper.wp
            rw [h1]
            exact hnext _ (.tuple #[]) (.tp []) _ h3 h2 (.tp rfl (fun j h => absurd h (by simp))) (hn.upd g0 hw0 hi hl hz hW h2) (by simpa using hle)
        · exact h.elim
      · exact h.elim
    · rename_i f hc
      have hf := ev_sound hs f
      split at h
      · rename_i fi first caps ef
        rw [ef] at hf
        split at h
        · rename_i F hfe
          have hE : PSound P fi (detE F) := hΓ _ _ hfe
          obtain ⟨fv, cv, hv, h1, h2, r1, r2⟩ := inv_fn4 hf
          obtain ⟨p1, p2⟩ := rel_append (X := X) h1 (by simp : (c.args.map a.eval).size = (c.args.toList.map s.ev).length) r1 (fun i h => getD_map s a hs c.args i (by simpa using h))
          obtain ⟨q1, q2⟩ := rel_append (X := X) p1 h2 p2 r2
          have hrun : (execOp a.eval o).run P X.w = (callFunc fi (fv ++ c.args.map a.eval ++ cv)).run P X.w := by simp [execOp, ho, resolve, hc, hv, Deferred.ofValue, invoke]
          unfold Oper.wp
          rw [hrun, hE.enter]
          simp only [Oper.upon]
          refine (psound_call hE hs.g hs.tabs q1 q2 h).mono ?_
          rintro e w' ⟨v, av, rfl, hk, hv', hb⟩
          exact hnext { X with w := w' } v av s hk (hs.below hb) hv' (hn.below g0 hw0 hs hb) hle
        · exact h.elim
      · exact h.elim
    · exact quiet h
  · exact quiet h
theorem anyN_sound {ops : Array Oper} (hK : KOk P K) (hΓ : GSound P Γ) (hsel : Region.noSelect ops = true) {k : S → Prop} (hQn : ∀ X s a, SRel w0 own0 X s a → k s → Q .normal a X.w) (hQp : ∀ c a w, ¬ Q (.panic c) a w) {X0 : Cx} {o0 : List Ob} {W : List Nat} (g0 : GRel X0 o0) (hw0 : X0.w = w0) :
    ∀ (n : Nat) (listed : Array Bool) (ph : Bool) {X : Cx} {s : S} {a : Act}, SRel w0 own0 X s a → NI w0 own0 X0 o0 W X s.o → o0.length ≤ s.o.length → (ph = true → Sld (SN w0 own0 X0 o0 W) X) → aAnyN K Γ ops o0.length W n listed ph k s →
      wpAnyH P .any ops Q (SN w0 own0 X0 o0 W) n listed a X.w
  | 0, listed, ph, X, s, a, hs, _, _, _, h => by
    obtain ⟨h0, h⟩ := chk_iff.1 h
    exact ⟨by simpa using h0, hQn X s a hs h⟩
  | n + 1, listed, ph, X, s, a, hs, hn, hle, hC, h => by
    unfold aAnyN at h
    rw [forceBA_eq, spS_eq] at h
    split at h
    · rename_i i hi
      have hp := List.find?_some hi
      have hm := List.mem_of_find?_eq_some hi
      simp only [Bool.and_eq_true] at hp
      split at h
      · rename_i o ho
        rw [ho] at hp
        rcases gd_sound hs h with ⟨hw, hy⟩ | ⟨hw, hno⟩
        · obtain ⟨v, av, hr, hv, hk⟩ := firstN_sound hK hΓ hs hn hp.2 hC hy
          exact wpAnyH_take ho hsel hp.1 (by simpa using hm) (fun c a w h => absurd h (hQp c _ w)) (.inl ⟨hw, fun w hw' => hr w hw'⟩) hn.sn
            (anyN_sound hK hΓ hsel hQn hQp g0 hw0 n _ ph (put_srel hs hv o.dst) (by cases o.dst <;> exact hn) (by cases o.dst <;> exact hle) hC hk)
        · exact wpAnyH_take ho hsel hp.1 (by simpa using hm) (fun c a w h => absurd h (hQp c _ w)) (.inr ⟨hw, rfl⟩) hn.sn
            (anyN_sound hK hΓ hsel hQn hQp g0 hw0 n _ ph (put_srel hs nothing_rel o.dst) (by cases o.dst <;> exact hn) (by cases o.dst <;> exact hle) hC hno)
      · exact h.elim
    · split at h
      · rename_i hr
        exact wpAnyH_done hr (hQn X s a hs h) _
      · rename_i hne
        refine wpAnyH_all rfl (fun e => hne e) fun i hi => ?_
        have hi := allN_spec h i hi
        unfold wpOp
        split at hi
        · rename_i o ho
          simp only [ho]
          rcases gd_sound hs hi with ⟨hw, hy⟩ | ⟨hw, hno⟩
          · rw [if_pos hw]
            exact .inl (stepN_sound hK hΓ g0 hw0 hle hs hn (fun X' v av s' hk' hs' hv hn' hle' => ⟨hn'.sn, anyN_sound hK hΓ hsel hQn hQp g0 hw0 n _ false (put_srel hs' hv o.dst) (by cases o.dst <;> exact hn') (by cases o.dst <;> exact hle') (fun h => by cases h) hk'⟩) hy)
          · rw [if_neg (by rw [hw]; simp)]
            exact ⟨hn.sn, anyN_sound hK hΓ hsel hQn hQp g0 hw0 n _ ph (put_srel hs nothing_rel o.dst) (by cases o.dst <;> exact hn) (by cases o.dst <;> exact hle) hC hno⟩
        · exact hi.elim
theorem SRel.rebase {X' : Cx} {s' : S} {a' : Act} (hs : SRel w0 own0 X s a) (h : SRel X.w ⟨X.obj, X.ext, own0.gv⟩ X' s' a') : SRel w0 own0 X' s' a' where
  len := h.len
  slot := h.slot
  defers := h.defers
  g := h.g
  ext := h.ext.trans hs.ext
  fr := fr_trans hs h.fr
  new := fun b hb => (h.new b hb).elim (fun h => hs.new b h) (fun h => .inr (Nat.le_trans hs.fr.size h))
  gh := h.gh
  tab := hs.tab
theorem SRel.base (hs : SRel w0 own0 X s a) : SRel X.w ⟨X.obj, X.ext, own0.gv⟩ X s a where
  len := hs.len
  slot := hs.slot
  defers := hs.defers
  g := hs.g
  ext := rfl
  fr := ⟨rfl, rfl, rfl, Nat.le_refl _, fun _ _ _ => rfl⟩
  new := fun b hb => .inl hb
  gh := hs.gh
  tab := hs.tabs
section
variable {ops : Array Oper} {S1 S2 : World → Prop} {Wd : Nat → Bool}
def wpPh (P : Program) (ops : Array Oper) (Q : Exit → Act → World → Prop) (S1 S2 : World → Prop) (Wd : Nat → Bool) : Nat → Array Bool → Act → World → Prop
  | 0, listed, a, w => Region.ready .any ops listed = [] ∧ Q .normal a w
  | fuel + 1, listed, a, w =>
    (Region.ready .any ops listed = [] → Q .normal a w) ∧
    ∀ i ∈ Region.ready .any ops listed, wpOp P ops Q i (fun a' w' => match Wd i with
      | true => S1 w' ∧ wpAnyH P .any ops Q S1 fuel (listed.setIfInBounds i true) a' w'
      | false => S2 w' ∧ wpPh P ops Q S1 S2 Wd fuel (listed.setIfInBounds i true) a' w') a w
theorem wpPh_held (h12 : ∀ w, S2 w → S1 w) : ∀ (fuel : Nat) (listed : Array Bool) (a : Act) (w : World), wpPh P ops Q S1 S2 Wd fuel listed a w → wpAnyH P .any ops Q S1 fuel listed a w
  | 0, _, _, _, h => h
  | fuel + 1, listed, _, _, h => ⟨h.1, fun i hi => wpOp_mono (fun a' w' h' => by
      cases hW : Wd i
      · simp only [hW] at h'; exact ⟨h12 _ h'.1, wpPh_held h12 fuel _ a' w' h'.2⟩
      · simp only [hW] at h'; exact h') (h.2 i hi)⟩
theorem anyH_mono {S S' : World → Prop} (h12 : ∀ w, S w → S' w) : ∀ (fuel : Nat) (listed : Array Bool) (a : Act) (w : World), wpAnyH P .any ops Q S fuel listed a w → wpAnyH P .any ops Q S' fuel listed a w
  | 0, _, _, _, h => h
  | fuel + 1, _, _, _, h => ⟨h.1, fun i hi => wpOp_mono (fun a' w' h' => ⟨h12 _ h'.1, anyH_mono h12 fuel _ a' w' h'.2⟩) (h.2 i hi)⟩
def Closed (ops : Array Oper) (l : Array Bool) : Prop := ∀ j o, ops[j]? = some o → l.getD j false = true → ∀ e ∈ o.after, Region.binds .any e = true → l.getD e.on false = true
theorem closed_start : Closed ops (Array.replicate ops.size false) := fun j o ho h => by
  have e : (Array.replicate ops.size false).getD j false = false := by
    rcases Nat.lt_or_ge j ops.size with h' | h'
    · simp [h']
    · simp [Nat.not_lt.2 h']
  rw [e] at h; cases h
theorem closed_set {j : Nat} {l : Array Bool} (hc : Closed ops l) (hj : j ∈ Region.ready .any ops l) : Closed ops (l.setIfInBounds j true) := fun k o ho hk e he hb => by
  by_cases hjk : j = k
  · subst hjk
    obtain ⟨_, o', ho', hall⟩ := mem_ready.1 hj
    rw [ho] at ho'; cases ho'
    exact getD_set_true (hall e he hb)
  · rw [getD_set_ne false hjk] at hk
    exact getD_set_true (hc k o ho hk e he hb)
theorem reach_listed {l : Array Bool} (hc : Closed ops l) {i : Nat} : ∀ (n : Nat) {j : Nat}, (∀ o, ops[j]? = some o → ∀ e ∈ o.after, Region.binds .any e = true → l.getD e.on false = true) → reachB ops i n j = true → l.getD i false = true
  | 0, j, _, h => by simp [reachB] at h
  | n + 1, j, hj, h => by
    unfold reachB at h
    split at h
    · rename_i o ho
      obtain ⟨e, he, h⟩ := List.any_eq_true.1 h
      simp only [Bool.and_eq_true, Bool.or_eq_true, Nat.beq_eq] at h
      have hl := hj o ho e (by simpa using he) h.1
      rcases h.2 with h2 | h2
      · rw [← h2]; exact hl
      · exact reach_listed hc n (fun o' ho' e' he' hb' => hc e.on o' ho' hl e' he' hb') h2
    · cases h
theorem getD_tf {l : Array Bool} {i : Nat} (h : l.getD i false = true) : l.getD i true = true := by
  rcases Nat.lt_or_ge i l.size with h' | h'
  · simp [h'] at h ⊢; exact h
  · simp [Array.getElem?_eq_none h'] at h
def Waits (ops : Array Oper) (Wd : Nat → Bool) (listed : Array Bool) (i : Nat) : Prop := ∀ j, Wd j = true → listed.getD j true = true ∨ ∃ n, reachB ops i n j = true
theorem waits_set {l : Array Bool} {i j : Nat} (h : Waits ops Wd l i) : Waits ops Wd (l.setIfInBounds j true) i := fun k hk => by
  rcases h k hk with h | h
  · refine .inl ?_
    by_cases hjk : j = k
    · subst hjk
      rcases Nat.lt_or_ge j l.size with h' | h'
      · simp [h']
      · simp [Array.getElem?_eq_none h']
    · rw [getD_set_ne true hjk]; exact h
  · exact .inr h
theorem waits_ready {l : Array Bool} {i j : Nat} (hc : Closed ops l) (h : Waits ops Wd l i) (hi : i ∈ Region.ready .any ops l) (hj : j ∈ Region.ready .any ops l) : Wd j = false := by
  cases hW : Wd j
  · rfl
  · rcases h j hW with h | h
    · rw [(mem_ready.1 hj).1] at h; cases h
    · obtain ⟨_, o, ho, hall⟩ := mem_ready.1 hj
      obtain ⟨n, h⟩ := h
      have := getD_tf (reach_listed hc n (fun o' ho' e he hb => by rw [ho] at ho'; cases ho'; exact hall e he hb) h)
      rw [(mem_ready.1 hi).1] at this; cases this
theorem ph_nots {i : Nat} {oj : Oper} {listed : Array Bool} (hr : i ∈ Region.ready .any ops listed) (hall : ∀ e ∈ oj.after, Region.binds .any e = true → listed.getD e.on false = true) : ∀ e ∈ oj.after, Region.binds .any e = true → e.on ≠ i := fun e he hb heq => by
  have h1 := hall e he hb
  have h0 := (mem_ready.1 hr).1
  rw [heq] at h1
  rw [getD_tf h1] at h0; cases h0
theorem wpPh_first {i : Nat} {oi : Oper} {v : Value} (hi : ops[i]? = some oi) (hsel : ∀ (j : Nat) (o : Oper) cs b, ops[j]? = some o → o.op ≠ .select cs b)
    (hQ : ∀ c a w, Q (.panic c) (a.put oi.dst v) w → Q (.panic c) a w) (hWi : Wd i = false) :
    ∀ (fuel : Nat) (listed : Array Bool) (a : Act) (w : World), Closed ops listed → Waits ops Wd listed i →
      (∀ j oj, ops[j]? = some oj → j ≠ i → listed.getD j true = false → (∀ e ∈ oj.after, Region.binds .any e = true → e.on ≠ i) → oi.apart ops oj = true) →
      i ∈ Region.ready .any ops listed → YieldsIf P ops S2 oi v a → S2 w →
      wpPh P ops Q S1 S2 Wd fuel (listed.setIfInBounds i true) (a.put oi.dst v) w → wpPh P ops Q S1 S2 Wd (fuel + 1) listed a w := by
  intro fuel
  induction fuel with
  | zero =>
    intro listed a w _ _ _ hr hy hS H
    refine ⟨fun h => (by rw [h] at hr; cases hr), fun j hj => ?_⟩
    by_cases hji : j = i
    · subst hji; exact hy.wpOp hi hS (by simp only [hWi]; exact ⟨hS, H⟩)
    · have := ready_mono hj hji
      rw [H.1] at this
      cases this
  | succ fuel ih =>
    intro listed a w hcl hwt hfree hr hy hS H
    refine ⟨fun h => (by rw [h] at hr; cases hr), fun j hj => ?_⟩
    by_cases hji : j = i
    · subst hji; exact hy.wpOp hi hS (by simp only [hWi]; exact ⟨hS, H⟩)
    · have hWj : Wd j = false := waits_ready hcl hwt hr hj
      have h1 := H.2 j (ready_mono hj hji)
      simp only [hWj] at h1 ⊢
      obtain ⟨hjun, oj, hoj, hall⟩ := mem_ready.1 hj
      have h2 := wpOp_putIf hoj (hfree j oj hoj hji hjun (ph_nots hr hall)) (fun cs b => hsel i oi cs b hi) (fun cs b => hsel j oj cs b hoj) hQ hy h1
      have hfree' : ∀ k ok, ops[k]? = some ok → k ≠ i → (listed.setIfInBounds j true).getD k true = false →
          (∀ e ∈ ok.after, Region.binds .any e = true → e.on ≠ i) → oi.apart ops ok = true := fun k ok hk hki hun hno => by
        refine hfree k ok hk hki ?_ hno
        by_cases hjk : j = k
        · subst hjk; exact hjun
        · rw [getD_set_ne true hjk] at hun; exact hun
      refine wpOp_mono (fun a' w' h3 => ⟨h3.2.1, ih (listed.setIfInBounds j true) a' w' (closed_set hcl hj) (waits_set hwt) hfree' (ready_mono hr (Ne.symm hji)) h3.1 h3.2.1 ?_⟩) h2
      rw [Array.setIfInBounds_comm _ _ hji]
      exact h3.2.2
theorem wpPh_first1 {i : Nat} {oi : Oper} {v : Value} (hi : ops[i]? = some oi) (hsel : ∀ (j : Nat) (o : Oper) cs b, ops[j]? = some o → o.op ≠ .select cs b)
    (hQ : ∀ c a w, Q (.panic c) (a.put oi.dst v) w → Q (.panic c) a w) (h12 : ∀ w, S2 w → S1 w) :
    ∀ (fuel : Nat) (listed : Array Bool) (a : Act) (w : World),
      (∀ j oj, ops[j]? = some oj → j ≠ i → listed.getD j true = false → (∀ e ∈ oj.after, Region.binds .any e = true → e.on ≠ i) → oi.apart ops oj = true) →
      i ∈ Region.ready .any ops listed → YieldsIf P ops S1 oi v a → S2 w →
      wpPh P ops Q S1 S2 Wd fuel (listed.setIfInBounds i true) (a.put oi.dst v) w → wpPh P ops Q S1 S2 Wd (fuel + 1) listed a w := by
  intro fuel
  induction fuel with
  | zero =>
    intro listed a w _ hr hy hS H
    refine ⟨fun h => (by rw [h] at hr; cases hr), fun j hj => ?_⟩
    by_cases hji : j = i
    · subst hji
      refine hy.wpOp hi (h12 _ hS) ?_
      cases hW : Wd j
      · exact ⟨hS, H⟩
      · exact ⟨h12 _ hS, wpPh_held h12 _ _ _ _ H⟩
    · have := ready_mono hj hji
      rw [H.1] at this
      cases this
  | succ fuel ih =>
    intro listed a w hfree hr hy hS H
    refine ⟨fun h => (by rw [h] at hr; cases hr), fun j hj => ?_⟩
    by_cases hji : j = i
    · subst hji
      refine hy.wpOp hi (h12 _ hS) ?_
      cases hW : Wd j
      · exact ⟨hS, H⟩
      · exact ⟨h12 _ hS, wpPh_held h12 _ _ _ _ H⟩
    · have h1 := H.2 j (ready_mono hj hji)
      obtain ⟨hjun, oj, hoj, hall⟩ := mem_ready.1 hj
      have hfree' : ∀ k ok, ops[k]? = some ok → k ≠ i → (listed.setIfInBounds j true).getD k true = false →
          (∀ e ∈ ok.after, Region.binds .any e = true → e.on ≠ i) → oi.apart ops ok = true := fun k ok hk hki hun hno => by
        refine hfree k ok hk hki ?_ hno
        by_cases hjk : j = k
        · subst hjk; exact hjun
        · rw [getD_set_ne true hjk] at hun; exact hun
      have h2 := wpOp_putIf hoj (hfree j oj hoj hji hjun (ph_nots hr hall)) (fun cs b => hsel i oi cs b hi) (fun cs b => hsel j oj cs b hoj) hQ hy h1
      refine wpOp_mono (fun a' w' h3 => ?_) h2
      obtain ⟨hy', h3⟩ := h3
      cases hW : Wd j
      · simp only [hW] at h3 ⊢
        refine ⟨h3.1, ih (listed.setIfInBounds j true) a' w' hfree' (ready_mono hr (Ne.symm hji)) hy' h3.1 ?_⟩
        rw [Array.setIfInBounds_comm _ _ hji]
        exact h3.2
      · simp only [hW] at h3 ⊢
        refine ⟨h3.1, wpAnyH_first hi hsel hQ fuel (listed.setIfInBounds j true) a' w' hfree' (ready_mono hr (Ne.symm hji)) hy' h3.1 ?_⟩
        rw [Array.setIfInBounds_comm _ _ hji]
        exact h3.2
end
theorem reachW_ok {ops : Array Oper} {i : Nat} : ∀ (l : List Oper) (j : Nat) (R : List Nat), (∀ k o, l[k]? = some o → ops[j + k]? = some o) → (∀ r ∈ R, ∃ n, reachB ops i n r = true) → ∀ r ∈ reachW i l j R, ∃ n, reachB ops i n r = true
  | [], _, R, _, hR, r, hr => hR r hr
  | o :: l, j, R, hl, hR, r, hr => by
    have hl' : ∀ k o, l[k]? = some o → ops[j + 1 + k]? = some o := fun k o' h => by
      have := hl (k + 1) o' (by simpa using h)
      rw [show j + 1 + k = j + (k + 1) by omega]; exact this
    unfold reachW at hr
    split at hr
    · rename_i ha
      refine reachW_ok l (j + 1) (j :: R) hl' (fun x hx => ?_) r hr
      rcases List.mem_cons.1 hx with rfl | hx
      · obtain ⟨e, he, h⟩ := List.any_eq_true.1 ha
        simp only [Bool.and_eq_true, Bool.or_eq_true] at h
        have ho : ops[x]? = some o := by have := hl 0 o rfl; simpa using this
        obtain ⟨n, hn⟩ : ∃ n, (Nat.beq e.on i || reachB ops i n e.on) = true := by
          rcases h.2 with h2 | h2
          · exact ⟨0, by rw [h2]; rfl⟩
          · obtain ⟨n, hn⟩ := hR _ (elemB_iff.1 h2)
            exact ⟨n, by rw [hn, Bool.or_true]⟩
        refine ⟨n + 1, ?_⟩
        unfold reachB
        rw [ho]
        exact List.any_eq_true.2 ⟨e, he, by rw [h.1, hn]; rfl⟩
      · exact hR x hx
    · exact reachW_ok l (j + 1) R hl' hR r hr
theorem waits_of {ops : Array Oper} {Wd : List Nat} {listed : Array Bool} {i : Nat} (h : waitsB ops Wd listed i = true) : Waits ops (fun j => elemB j Wd) listed i := fun j hj => by
  unfold waitsB at h
  rw [forceNb_eq] at h
  have := List.all_eq_true.1 h j (elemB_iff.1 hj)
  rcases Bool.or_eq_true _ _ ▸ this with h | h
  · exact .inl h
  · exact .inr (reachW_ok ops.toList 0 [] (fun k o hk => by simpa using hk) (fun r hr => by cases hr) j (elemB_iff.1 h))
theorem anyM_sound {ops : Array Oper} {Wd : List Nat} (hK : KOk P K) (hΓ : GSound P Γ) (hsel : Region.noSelect ops = true) {k : S → Prop} (hQp : ∀ c a w, ¬ Q (.panic c) a w) :
    ∀ (n : Nat) (listed : Array Bool) (ph : Bool) {w0 : World} {own0 : O0} {X0 : Cx} {o0 : List Ob} {W : List Nat} {X : Cx} {s : S} {a : Act}, (∀ X s a, SRel w0 own0 X s a → k s → Q .normal a X.w) → GRel X0 o0 → X0.w = w0 → Closed ops listed → SRel w0 own0 X s a → NI w0 own0 X0 o0 W X s.o → o0.length ≤ s.o.length → (ph = true → Sld (SN w0 own0 X0 o0 W) X) → aAnyM K Γ ops Wd n listed o0.length W ph k s →
      wpPh P ops Q (Fr w0 own0.own) (SN w0 own0 X0 o0 W) (fun j => elemB j Wd) n listed a X.w
  | 0, listed, ph, w0, own0, X0, o0, W, X, s, a, hQn, g0, hw0, hcl, hs, _, _, _, h => by
    obtain ⟨h0, h⟩ := chk_iff.1 h
    exact ⟨by simpa using h0, hQn X s a hs h⟩
  | n + 1, listed, ph, w0, own0, X0, o0, W, X, s, a, hQn, g0, hw0, hcl, hs, hn, hle, hC, h => by
    have h12 : ∀ w, SN w0 own0 X0 o0 W w → Fr w0 own0.own w := fun w h => h.1
    unfold aAnyM at h
    rw [forceBA_eq, spS_eq] at h
    split at h
    · rename_i i hi
      have hp := List.find?_some hi
      have hm := List.mem_of_find?_eq_some hi
      simp only [Bool.and_eq_true] at hp
      split at h
      · rename_i o ho
        rw [ho] at hp
        have hp2 := hp.2
        simp only [firstM, Bool.or_eq_true, Bool.and_eq_true] at hp2
        rcases gd_sound hs h with ⟨hw, hy⟩ | ⟨hw, hno⟩
        · rcases hp2 with hp2 | ⟨hp2, hp3⟩
          · obtain ⟨v, av, hr, hv, hk⟩ := first_sound (C := Fr w0 own0.own) hK hΓ hs hp2 (fun h => by cases h) hy
            exact wpPh_first1 ho (Region.noSelect_spec hsel) (fun c a w h => absurd h (hQp c _ w)) h12 n listed a X.w (Region.free_spec ho hp.1) hm (.inl ⟨hw, fun w hw' => hr w hw'⟩) hn.sn
              (anyM_sound hK hΓ hsel hQp n _ ph hQn g0 hw0 (closed_set hcl hm) (put_srel hs hv o.dst) (by cases o.dst <;> exact hn) (by cases o.dst <;> exact hle) hC hk)
          · obtain ⟨v, av, hr, hv, hk⟩ := firstN_sound hK hΓ hs hn hp2 hC hy
            have hwt := waits_of hp3
            exact wpPh_first ho (Region.noSelect_spec hsel) (fun c a w h => absurd h (hQp c _ w)) (waits_ready hcl hwt hm hm) n listed a X.w hcl hwt (Region.free_spec ho hp.1) hm (.inl ⟨hw, fun w hw' => hr w hw'⟩) hn.sn
              (anyM_sound hK hΓ hsel hQp n _ ph hQn g0 hw0 (closed_set hcl hm) (put_srel hs hv o.dst) (by cases o.dst <;> exact hn) (by cases o.dst <;> exact hle) hC hk)
        · exact wpPh_first1 ho (Region.noSelect_spec hsel) (fun c a w h => absurd h (hQp c _ w)) h12 n listed a X.w (Region.free_spec ho hp.1) hm (.inr ⟨hw, rfl⟩) hn.sn
            (anyM_sound hK hΓ hsel hQp n _ ph hQn g0 hw0 (closed_set hcl hm) (put_srel hs nothing_rel o.dst) (by cases o.dst <;> exact hn) (by cases o.dst <;> exact hle) hC hno)
      · exact h.elim
    · split at h
      · rename_i hr
        exact ⟨fun _ => hQn X s a hs h, by rw [hr]; simp⟩
      · rename_i hne
        refine ⟨fun e => absurd e (fun e => hne e), fun i hi0 => ?_⟩
        have hi := allN_spec h i hi0
        unfold wpOp
        split at hi
        · rename_i o ho
          simp only [ho]
          split at hi
          · rename_i hWi
            simp only [hWi]
            rcases gd_sound hs hi with ⟨hw, hy⟩ | ⟨hw, hno⟩
            · rw [if_pos hw]
              refine .inl (step_sound hK hΓ hs (fun X' v av s' hk' hs' hv => ⟨hs'.fr, ?_⟩) hy)
              have hs3 := put_srel hs' hv o.dst
              have hlen : (s'.put o.dst av).o = s'.o := by cases o.dst <;> rfl
              refine anyH_mono (S := Fr X'.w X'.obj) (fun w' hw' => fr_trans hs3 hw') _ _ _ _ (wpPh_held (Wd := fun j => elemB j Wd) (S2 := SN X'.w ⟨X'.obj, X'.ext, own0.gv⟩ X' (s'.put o.dst av).o (wOf ops (s'.put o.dst av))) (fun w h => h.1) _ _ _ _ ?_)
              refine anyM_sound (w0 := X'.w) (own0 := ⟨X'.obj, X'.ext, own0.gv⟩) (X0 := X') (o0 := (s'.put o.dst av).o) hK hΓ hsel hQp n _ true (fun X2 s2 a2 h2 hk2 => hQn X2 s2 a2 (hs3.rebase h2) hk2) hs3.g rfl (closed_set hcl hi0) hs3.base ?_ (Nat.le_refl _) ?_ (by rw [hlen]; exact hk')
              · exact ⟨fun j ob hj hl hz _ => ⟨ob, hj, hl, hz, rfl⟩, fun j ob hj hl hz hle => absurd (lt_of_get hj) (by omega), ⟨rfl, rfl, rfl, Nat.le_refl _, fun _ _ _ => rfl⟩, fun _ _ _ _ _ _ => rfl⟩
              · exact fun _ w' hw' b hb hn => hw'.1.keep b hb fun h => hn (.inl h)
            · rw [if_neg (by rw [hw]; simp)]
              exact ⟨hs.fr, wpPh_held h12 _ _ _ _ (anyM_sound hK hΓ hsel hQp n _ ph hQn g0 hw0 (closed_set hcl hi0) (put_srel hs nothing_rel o.dst) (by cases o.dst <;> exact hn) (by cases o.dst <;> exact hle) hC hno)⟩
          · rename_i hWi
            simp only [hWi]
            rcases gd_sound hs hi with ⟨hw, hy⟩ | ⟨hw, hno⟩
            · rw [if_pos hw]
              exact .inl (stepN_sound hK hΓ g0 hw0 hle hs hn (fun X' v av s' hk' hs' hv hn' hle' => ⟨hn'.sn, anyM_sound hK hΓ hsel hQp n _ false hQn g0 hw0 (closed_set hcl hi0) (put_srel hs' hv o.dst) (by cases o.dst <;> exact hn') (by cases o.dst <;> exact hle') (fun h => by cases h) hk'⟩) hy)
            · rw [if_neg (by rw [hw]; simp)]
              exact ⟨hn.sn, anyM_sound hK hΓ hsel hQp n _ ph hQn g0 hw0 (closed_set hcl hi0) (put_srel hs nothing_rel o.dst) (by cases o.dst <;> exact hn) (by cases o.dst <;> exact hle) hC hno⟩
        · exact hi.elim
def ST.node : ST → Bool
  | .done => true
  | .nar _ _ _ _ => true
  | .any _ => true
  | _ => false
def SchedP (ops : Array Oper) (Hd Sf : List Nat) : ST → Array Bool → Prop
  | .done, l => Region.ready .any ops l = []
  | .stop, _ => True
  | .any c, l => (Region.ready .any ops l ≠ [] ∧ ∀ i ∈ Region.ready .any ops l, i ∈ c.has) ∧ SchedP ops Hd Sf c l
  | .alt i t m, l => (t.node = true ∧ i ∈ Region.ready .any ops l ∧ (elemB i Hd = true ∨ elemB i Sf = true)) ∧ SchedP ops Hd Sf t (l.setIfInBounds i true) ∧ SchedP ops Hd Sf m l
  | .nar w tf i t, l => (t.node = true ∧ i ∈ Region.ready .any ops l ∧ elemB i Hd = false ∧ elemB i Sf = false ∧ Region.free .any ops l i = true) ∧ (w = true → waitsB ops Hd l i = true) ∧ (tf = true → ∀ o, ops[i]? = some o → tmpFree ops l o.op = true) ∧ SchedP ops Hd Sf t (l.setIfInBounds i true)
theorem alts_ok {ops : Array Oper} {Hd Sf : List Nat} {f : Array Bool → Option ST} {n : Nat} (hf : ∀ l t, f l = some t → (SchedP ops Hd Sf t l ∧ t.node = true) ∧ t.dep ≤ n) : ∀ (r : List Nat) (l : Array Bool) (c : ST), (∀ i ∈ r, i ∈ Region.ready .any ops l ∧ (elemB i Hd = true ∨ elemB i Sf = true)) → alts f r l = some c → SchedP ops Hd Sf c l ∧ c.has = r ∧ c.dep ≤ n + 1
  | [], l, c, _, h => by simp only [alts] at h; cases h; exact ⟨trivial, rfl, Nat.zero_le _⟩
  | i :: r, l, c, hr, h => by
    simp only [alts] at h
    split at h
    · rename_i t m ht hm
      cases h
      obtain ⟨⟨h1, hnode⟩, h2⟩ := hf _ _ ht
      obtain ⟨g1, g2, g3⟩ := alts_ok hf r l m (fun j hj => hr j (List.mem_cons_of_mem _ hj)) hm
      refine ⟨⟨⟨hnode, hr i List.mem_cons_self⟩, h1, g1⟩, by simp [ST.has, g2], ?_⟩
      simp only [ST.dep]; omega
    · cases h
theorem sched_ok {ops : Array Oper} {Hd Sf : List Nat} : ∀ (n : Nat) (l : Array Bool) (t : ST), sched K ops Hd Sf n l = some t → (SchedP ops Hd Sf t l ∧ t.node = true) ∧ t.dep ≤ n
  | 0, l, t, h => by
    unfold sched at h
    split at h
    · rename_i hh
      cases h
      exact ⟨⟨List.isEmpty_iff.1 hh, rfl⟩, Nat.le_refl _⟩
    · cases h
  | n + 1, l, t, h => by
    unfold sched at h
    rw [forceBO_eq] at h
    have el : (⟨l.toList⟩ : Array Bool) = l := rfl
    rw [el] at h
    split at h
    · rename_i i hi
      have hp := List.find?_some hi
      have hm := List.mem_of_find?_eq_some hi
      simp only [Bool.and_eq_true, Bool.not_eq_true'] at hp
      split at h
      · rename_i u hu
        cases h
        obtain ⟨⟨h1, hnode⟩, h2⟩ := sched_ok n _ _ hu
        refine ⟨⟨⟨⟨hnode, hm, hp.1.1.1, hp.1.1.2, hp.1.2⟩, fun e => e, fun e o ho => ?_, h1⟩, rfl⟩, by simp only [ST.dep]; omega⟩
        rw [ho] at e; exact e
      · cases h
    · split at h
      · rename_i hr
        cases h; exact ⟨⟨hr, rfl⟩, Nat.zero_le _⟩
      · rename_i r hnil
        split at h
        · rename_i hall
          split at h
          · rename_i c hc
            cases h
            have hall := List.all_eq_true.1 hall
            obtain ⟨h1, h2, h3⟩ := alts_ok (Hd := Hd) (Sf := Sf) (fun l t ht => sched_ok n l t ht) _ _ _ (fun i hi => ⟨hi, by simpa using hall i hi⟩) hc
            exact ⟨⟨⟨⟨hnil, fun i hi => by rw [h2]; exact hi⟩, h1⟩, rfl⟩, h3⟩
          · cases h
        · cases h
def PdE (P : Program) (a : Act) (e : TypeId × Operand × AV) (p : World → Prop) : Prop := ∃ (oi : Oper) (u : Value), oi.op = .load e.1 e.2.1 ∧ (∀ X y, VRel X e.2.2 y → y = u) ∧ ∀ w, (execOp a.eval oi).run P w = .ok (.value u) w → p w
def PdOk (P : Program) (a : Act) : List (TypeId × Operand × AV) → List (World → Prop) → Prop
  | [], [] => True
  | e :: l, p :: m => PdE P a e p ∧ PdOk P a l m
  | _, _ => False
theorem pd_put {d : Option Tmp} {v : Value} : ∀ {pd : List (TypeId × Operand × AV)} {PV : List (World → Prop)}, PdOk P a pd PV → (∀ e ∈ pd, ∀ p, d = some p → e.2.1 ≠ .tmp p) → PdOk P (a.put d v) pd PV
  | [], [], _, _ => trivial
  | [], _ :: _, h, _ => h
  | _ :: _, [], h, _ => h
  | e :: l, p :: m, h, hd => by
    obtain ⟨⟨oi, u, ho, hu, hp⟩, h2⟩ := h
    refine ⟨⟨oi, u, ho, hu, fun w hw => hp w ?_⟩, pd_put h2 fun e he => hd e (List.mem_cons_of_mem _ he)⟩
    have : execOp (a.put d v).eval oi = execOp a.eval oi := execOp_congr oi (fun cs b e => by rw [ho] at e; cases e) (fun x hx => by
      rw [ho] at hx
      have hx : x = e.2.1 := by simpa [Op.operands] using hx
      subst hx
      exact Act.eval_put fun p hp => hd e (List.mem_cons_self) p hp)
    rw [← this]; exact hw
theorem reval_sound (hK : KOk P K) (hs : SRel w0 own0 X s a) {R : Prop} : ∀ {pd : List (TypeId × Operand × AV)} {PV : List (World → Prop)}, PdOk P a pd PV → reval K Γ s pd R → R ∧ ∀ p ∈ PV, ∀ w, Below X.w.heap.size X.w w → p w
  | [], [], _, h => ⟨h, fun p hp => by cases hp⟩
  | [], _ :: _, h, _ => h.elim
  | _ :: _, [], h, _ => h.elim
  | (t, x, v) :: l, p :: m, h, hr => by
    obtain ⟨⟨oi, u, ho, hu, hp⟩, h2⟩ := h
    obtain ⟨r1, r2⟩ := hr
    obtain ⟨g1, g2⟩ := reval_sound hK hs h2 r2
    obtain ⟨y, av, hrun, hv, rfl⟩ := y_load (P := P) (o := oi) (C := Below X.w.heap.size X.w) (Γ := Γ) hK hs sld_below (.inr fun _ h => h) ho r1
    refine ⟨g1, fun p' hp' w hw => ?_⟩
    rcases List.mem_cons.1 hp' with rfl | hp'
    · exact hp w (by rw [hrun w hw, hu X y hv])
    · exact g2 p' hp' w hw
def S1 (X : Cx) (PV : List (World → Prop)) : World → Prop := fun w => Fr X.w X.obj w ∧ ∀ p ∈ PV, p w
theorem wpPh_mono {ops : Array Oper} {S1 S1' S2 : World → Prop} {Wd : Nat → Bool} (h : ∀ w, S1' w → S1 w) : ∀ (n : Nat) (listed : Array Bool) (a : Act) (w : World), wpPh P ops Q S1' S2 Wd n listed a w → wpPh P ops Q S1 S2 Wd n listed a w
  | 0, _, _, _, h' => h'
  | n + 1, listed, _, _, h' => ⟨h'.1, fun i hi => wpOp_mono (fun a' w' h2 => by
      cases hW : Wd i
      · simp only [hW] at h2; exact ⟨h2.1, wpPh_mono h n _ a' w' h2.2⟩
      · simp only [hW] at h2; exact ⟨h _ h2.1, anyH_mono h n _ a' w' h2.2⟩) (h'.2 i hi)⟩
theorem quietY_sound (hK : KOk P K) (hs : SRel w0 own0 X s a) {k : AV → Prop} (hc : ∀ c f, o.op = .call c → c.callee ≠ .value f) (h : aQuiet K Γ s o.op k) : Yields P (Below X.w.heap.size X.w) X a o k := by
  have plain : aPure K s o.op k → Yields P (Below X.w.heap.size X.w) X a o k := fun hp => pure_sound (C := Below X.w.heap.size X.w) hK hs (.inr sld_below) (.inr fun _ h => h) hp
  unfold aQuiet at h
  split at h
  · rename_i x ho
    exact ⟨a.eval x, _, fun w hw => by simp [execOp, ho], ev_sound hs x, h⟩
  · rename_i c x y ho
    split at h
    · rename_i t ht
      have et : a.eval c = .bool t := inv_bool (ht ▸ ev_sound hs c)
      cases t with
      | true => exact ⟨a.eval x, _, fun w hw => by simp [execOp, ho, et, asBool], ev_sound hs x, bcase_t h rfl⟩
      | false => exact ⟨a.eval y, _, fun w hw => by simp [execOp, ho, et, asBool], ev_sound hs y, bcase_f h rfl⟩
    · exact h.elim
  · rename_i t x ho
    exact y_load (P := P) (o := o) (C := Below X.w.heap.size X.w) (Γ := Γ) hK hs sld_below (.inr fun _ h => h) ho h
  · rename_i t x f ho
    exact y_fieldAddr (P := P) (o := o) (C := Below X.w.heap.size X.w) (Γ := Γ) hK hs ho h
  · rename_i t x y ho
    exact y_indexAddr (P := P) (o := o) (C := Below X.w.heap.size X.w) (Γ := Γ) hK hs ho h
  · rename_i t p ho
    exact y_build (P := P) (o := o) (C := Below X.w.heap.size X.w) (Γ := Γ) hK hs ho h
  · rename_i t x i ok ho
    exact y_lookupG (P := P) (o := o) (C := Below X.w.heap.size X.w) (Γ := Γ) hK hs (fun j ob _ hj hl hz w' hw' => hw'.block _ (hs.g.lt j ob hj hl hz)) (fun b _ hlt w' hw' => hw'.block b hlt) ho h
  · rename_i c ho
    split at h
    · rename_i f hcf; exact absurd hcf (hc c f ho)
    · exact plain h
  · exact plain h
theorem tmpFree_spec {ops : Array Oper} {l : Array Bool} {t : TypeId} {x : Operand} (h : tmpFree ops l (.load t x) = true) : ∀ j o, ops[j]? = some o → l.getD j true = false → ∀ p, o.dst = some p → x ≠ .tmp p := fun j o ho hl p hp e => by
  subst e
  simp only [tmpFree] at h
  have := List.all_eq_true.1 h j (List.mem_range.2 (Array.getElem?_eq_some_iff.1 ho).1)
  rw [ho, hl] at this
  simp [hp] at this
theorem opsL_spec {p : Op → Bool} : ∀ (l : List Oper) (b i : Nat) (o : Oper), l[i]? = some o → elemB (b + i) (opsL p l b) = false → p o.op = false
  | [], _, _, _, h, _ => by simp at h
  | o' :: l, b, 0, o, h, hw => by
    have h : o' = o := by simpa using h
    subst h
    unfold opsL at hw
    split at hw
    · rename_i hh
      exact absurd (elemB_iff.2 (show b + 0 ∈ b :: opsL p l (b + 1) by simp)) (by rw [hw]; simp)
    · rename_i hh; exact hh
  | o' :: l, b, i + 1, o, h, hw => by
    refine opsL_spec l (b + 1) i o (by simpa using h) ?_
    unfold opsL at hw
    rw [show b + 1 + i = b + (i + 1) by omega]
    split at hw
    · cases he : elemB (b + (i + 1)) (opsL p l (b + 1)) with
      | false => rfl
      | true => exact absurd (elemB_iff.2 (List.mem_cons_of_mem b (elemB_iff.1 he))) (by rw [hw]; simp)
    · exact hw
theorem quiet_call {op : Op} (h : quietR K op = true) : ∀ c f, op = .call c → c.callee ≠ .value f := fun c f e e2 => by
  subst e
  simp [quietR, isPureOp, e2] at h
theorem soft_sound (hK : KOk P K) (hΓ : GSound P Γ) (hs : SRel w0 own0 X s a) {k : AV → S → Prop} (hnext : ∀ X' v av s' , k av s' → SRel w0 own0 X' s' a → VRel X' av v → Below X.w.heap.size X.w X'.w → next (a.put o.dst v) X'.w) (h : aSoft K Γ s o.op k) : o.wp P a X.w next Q := by
  have call : ∀ {c : Call} {f : Operand} {fi : FuncId} {first caps : List AV} {E : List AV → (AV → Prop) → Prop} {X1 : Cx} {s1 : S}, X1.w = X.w → SRel w0 own0 X1 s1 a → o.op = .call c → c.callee = .value f → s1.ev f = .fn (.func fi) first caps → PSound P fi E → pureE E (first ++ c.args.toList.map s1.ev ++ caps) s1.o (fun av _ _ => k av s1) → o.wp P a X.w next Q := by
    intro c f fi first caps E X1 s1 e1 hs1 ho hc ef hE h
    have hf := ev_sound hs1 f
    rw [ef] at hf
    obtain ⟨fv, cv, hv, h1, h2, r1, r2⟩ := inv_fn4 hf
    obtain ⟨p1, p2⟩ := rel_append (X := X1) h1 (by simp : (c.args.map a.eval).size = (c.args.toList.map s1.ev).length) r1 (fun i h => getD_map s1 a hs1 c.args i (by simpa using h))
    obtain ⟨q1, q2⟩ := rel_append (X := X1) p1 h2 p2 r2
    have hrun : (execOp a.eval o).run P X1.w = (callFunc fi (fv ++ c.args.map a.eval ++ cv)).run P X1.w := by simp [execOp, ho, resolve, hc, hv, Deferred.ofValue, invoke]
    rw [← e1]
    unfold Oper.wp
    rw [hrun, hE.enter]
    simp only [Oper.upon]
    refine (psound_call hE hs1.g hs1.tabs q1 q2 h).mono ?_
    rintro e w' ⟨v, av, rfl, hk, hv', hb⟩
    exact hnext { X1 with w := w' } v av s1 hk (hs1.below hb) hv' (by rw [← e1]; exact hb)
  unfold aSoft at h
  split at h
  · rename_i t ho
    obtain ⟨ob, nb, v, av, hl, h1, h2, h3, h4⟩ := alloc_ex hK hs ho h
    unfold Oper.wp
    rw [h1]
    exact hnext _ v av _ h4 h2 h3 ((Below.refl _ _).alloc (Nat.le_refl _) _)
  · rename_i t x ho
    obtain ⟨ob, nb, v, av, hl, h1, h2, h3, h4⟩ := box_ex hs ho h
    unfold Oper.wp
    rw [h1]
    exact hnext _ v av _ h4 h2 h3 ((Below.refl _ _).alloc (Nat.le_refl _) _)
  · rename_i c ho
    split at h
    · rename_i f hc
      obtain ⟨X1, e1, hs1⟩ := sealAll_srel (sealRows Γ s (.call c)) hs
      split at h
      · rename_i fi first caps ef
        split at h
        · rename_i F hfe
          exact call e1 hs1 ho hc ef (hΓ _ _ hfe) h
        · rename_i E hfe
          exact call e1 hs1 ho hc ef (hΓ _ _ hfe) h
        · rename_i E hfe
          have hE : NSound P fi E := hΓ _ _ hfe
          have hf := ev_sound hs1 f
          rw [ef] at hf
          obtain ⟨fv, cv, hv, h1, h2, r1, r2⟩ := inv_fn4 hf
          obtain ⟨p1, p2⟩ := rel_append (X := X1) h1 (by simp : (c.args.map a.eval).size = (c.args.toList.map (sealAll (sealRows Γ s (.call c)) s).ev).length) r1 (fun i h => getD_map _ a hs1 c.args i (by simpa using h))
          obtain ⟨q1, q2⟩ := rel_append (X := X1) p1 h2 p2 r2
          have hrun : (execOp a.eval o).run P X1.w = (callFunc fi (fv ++ c.args.map a.eval ++ cv)).run P X1.w := by simp [execOp, ho, resolve, hc, hv, Deferred.ofValue, invoke]
          rw [← e1]
          unfold Oper.wp
          rw [hrun, hE.enter]
          simp only [Oper.upon]
          refine (hE.call X1 _ _ _ _ hs1.g hs1.tabs q1 q2 h).mono ?_
          rintro e w' ⟨v, av, o', kl, X', rfl, hq, rfl, hg, hv', hst, hgk, hb⟩
          exact hnext X' v av _ hq (hs1.change kl hst.row hst.keeps hst.ext hst.st hst.n hst.agree hg hst.own hgk) hv' (by rw [← e1]; exact hb)
        · exact h.elim
      · exact h.elim
    · exact h.elim
  · exact h.elim
theorem wpPh_mono2 {ops : Array Oper} {S1 S2 S2' : World → Prop} {Wd : Nat → Bool} (h : ∀ w, S2' w → S2 w) : ∀ (n : Nat) (listed : Array Bool) (a : Act) (w : World), wpPh P ops Q S1 S2' Wd n listed a w → wpPh P ops Q S1 S2 Wd n listed a w
  | 0, _, _, _, h' => h'
  | n + 1, listed, _, _, h' => ⟨h'.1, fun i hi => wpOp_mono (fun a' w' h2 => by
      cases hW : Wd i
      · simp only [hW] at h2; exact ⟨h _ h2.1, wpPh_mono2 h n _ a' w' h2.2⟩
      · simp only [hW] at h2; exact h2) (h'.2 i hi)⟩
def PdFree (ops : Array Oper) (l : Array Bool) (pd : List (TypeId × Operand × AV)) : Prop := ∀ e ∈ pd, ∀ j o, ops[j]? = some o → l.getD j true = false → ∀ p, o.dst = some p → e.2.1 ≠ .tmp p
theorem pdFree_set {ops : Array Oper} {l : Array Bool} {pd : List (TypeId × Operand × AV)} (h : PdFree ops l pd) (i : Nat) : PdFree ops (l.setIfInBounds i true) pd := fun e he j o ho hl p hp => by
  by_cases hij : i = j
  · subst hij
    rcases Nat.lt_or_ge i l.size with h' | h'
    · simp [h'] at hl
    · simp [Array.getElem?_eq_none h'] at hl
  · rw [getD_set_ne true hij] at hl; exact h e he j o ho hl p hp
def NodeOk (P : Program) (K : TypeId → Option TK) (Γ : List (FuncId × En)) (w0 : World) (own0 : O0) (Q : Exit → Act → World → Prop) (ops : Array Oper) (Hd Sf : List Nat) (k : S → Prop) (σ : ST) : Prop :=
  ∀ (listed : Array Bool) (pd : List (TypeId × Operand × AV)) (PV : List (World → Prop)) {X : Cx} {s : S} {a : Act}, SRel w0 own0 X s a → SchedP ops Hd Sf σ listed → Closed ops listed → PdOk P a pd PV → (∀ p ∈ PV, ∀ w, Below X.w.heap.size X.w w → p w) →
    PdFree ops listed pd → aRun K Γ ops Hd σ pd k s → ∀ n, σ.dep ≤ n → wpPh P ops Q (S1 X PV) (Below X.w.heap.size X.w) (fun j => elemB j Hd) n listed a X.w
def ChainOk (P : Program) (K : TypeId → Option TK) (Γ : List (FuncId × En)) (w0 : World) (own0 : O0) (Q : Exit → Act → World → Prop) (ops : Array Oper) (Hd Sf : List Nat) (k : S → Prop) (σ : ST) : Prop :=
  ∀ (listed : Array Bool) (pd : List (TypeId × Operand × AV)) (PV : List (World → Prop)) {X : Cx} {s : S} {a : Act}, SRel w0 own0 X s a → SchedP ops Hd Sf σ listed → Closed ops listed → PdOk P a pd PV → (∀ p ∈ PV, ∀ w, Below X.w.heap.size X.w w → p w) →
    PdFree ops listed pd → aRun K Γ ops Hd σ pd k s → ∀ n, σ.dep ≤ n + 1 → ∀ i ∈ σ.has, wpOp P ops Q i (fun a' w' => match elemB i Hd with
      | true => S1 X PV w' ∧ wpAnyH P .any ops Q (S1 X PV) n (listed.setIfInBounds i true) a' w'
      | false => Below X.w.heap.size X.w w' ∧ wpPh P ops Q (S1 X PV) (Below X.w.heap.size X.w) (fun j => elemB j Hd) n (listed.setIfInBounds i true) a' w') a X.w
theorem andS_spec {b : Bool} {x y : Prop} (h : andS b x y) : x ∧ (b = false → y) := by
  cases b
  · exact ⟨h.1, fun _ => h.2⟩
  · exact ⟨h, fun e => by cases e⟩
theorem run_sound {ops : Array Oper} {Hd Sf : List Nat} (hHS : ∀ i o, ops[i]? = some o → elemB i Hd = false → elemB i Sf = false → quietR K o.op = true) (hK : KOk P K) (hΓ : GSound P Γ) (hsel : Region.noSelect ops = true) {k : S → Prop} (hQp : ∀ c a w, ¬ Q (.panic c) a w) (hQn : ∀ X s a, SRel w0 own0 X s a → k s → Q .normal a X.w) :
    ∀ σ : ST, (σ.node = true → NodeOk P K Γ w0 own0 Q ops Hd Sf k σ) ∧ ChainOk P K Γ w0 own0 Q ops Hd Sf k σ
  | .done => ⟨fun _ listed pd PV X s a hs hσ _ _ _ _ h n _ => by
      have hr : Region.ready .any ops listed = [] := hσ
      cases n with
      | zero => exact ⟨hr, hQn X s a hs h⟩
      | succ n => exact ⟨fun _ => hQn X s a hs h, fun i hi => by rw [hr] at hi; cases hi⟩, fun listed pd PV X s a _ _ _ _ _ _ _ n _ i hi => by cases hi⟩
  | .stop => ⟨(fun e => by cases e), fun listed pd PV X s a _ _ _ _ _ _ _ n _ i hi => by cases hi⟩
  | .any c => by
    have ih := (run_sound hHS hK hΓ hsel hQp hQn c).2
    refine ⟨fun _ listed pd PV X s a hs hσ hcl hpd hPV hfr h n hn => ?_, fun listed pd PV X s a _ _ _ _ _ _ _ n _ i hi => by cases hi⟩
    obtain ⟨⟨hnil, hcov⟩, hσ⟩ := hσ
    unfold aRun at h
    rw [spS_eq] at h
    cases n with
    | zero =>
      obtain ⟨i, hi⟩ := List.exists_mem_of_ne_nil _ hnil
      have := hcov i hi
      cases c with
      | alt j t m => simp only [ST.dep] at hn; omega
      | _ => cases this
    | succ n => exact ⟨fun e => absurd e hnil, fun i hi => ih listed pd PV hs hσ hcl hpd hPV hfr h n (by simpa only [ST.dep] using hn) i (hcov i hi)⟩
  | .alt i t m => by
    have iht := (run_sound hHS hK hΓ hsel hQp hQn t).1
    have ihm := (run_sound hHS hK hΓ hsel hQp hQn m).2
    refine ⟨fun e => (by cases e), fun listed pd PV X s a hs hσ hcl hpd hPV hfr h n hn j hj => ?_⟩
    obtain ⟨⟨hnode, hir, hHd⟩, hσt, hσm⟩ := hσ
    unfold aRun at h
    obtain ⟨h, hmm⟩ := andS_spec h
    have hdt : t.dep ≤ n := by simp only [ST.dep] at hn; omega
    have hdm : m.dep ≤ n + 1 := by simp only [ST.dep] at hn; omega
    by_cases hji : j = i
    · subst hji
      have h12 : ∀ w, Below X.w.heap.size X.w w → S1 X PV w := fun w hw => ⟨(hs.base.below hw).fr, fun p hp => hPV p hp w hw⟩
      have hcl' := closed_set hcl hir
      have hfr' := pdFree_set hfr j
      split at h
      case h_2 => exact h.elim
      rename_i o ho
      have hjun := (mem_ready.1 hir).1
      have hput : ∀ (v : Value), PdOk P (a.put o.dst v) pd PV := fun v => pd_put hpd fun e he p hp => hfr e he j o ho hjun p hp
      unfold wpOp
      simp only [ho]
      split at h
      · rename_i hW
        simp only [hW]
        rcases gd_sound hs h with ⟨hw, hy⟩ | ⟨hw, hno⟩
        · rw [if_pos hw]
          refine .inl (step_sound hK hΓ hs.base (fun X' v av s' hk' hs' hv => ?_) hy)
          have hs2 := hs.rebase hs'
          obtain ⟨hrun, hPV'⟩ := reval_sound hK hs2 hpd hk'
          have hs3 := put_srel hs2 hv o.dst
          refine ⟨⟨hs'.fr, fun p hp => hPV' p hp _ (Below.refl _ _)⟩, ?_⟩
          refine anyH_mono (S := S1 X' PV) (fun w' hw' => ⟨fr_trans hs' hw'.1, hw'.2⟩) _ _ _ _ (wpPh_held (Wd := fun j => elemB j Hd) (S2 := Below X'.w.heap.size X'.w) (fun w hw => ⟨(hs3.base.below hw).fr, fun p hp => hPV' p hp w hw⟩) _ _ _ _ ?_)
          exact iht hnode _ pd PV hs3 hσt hcl' (hput v) hPV' hfr' hrun n hdt
        · rw [if_neg (by rw [hw]; simp)]
          exact ⟨h12 _ (Below.refl _ _), wpPh_held h12 _ _ _ _ (iht hnode _ pd PV (put_srel hs nothing_rel o.dst) hσt hcl' (hput undef) hPV hfr' hno n hdt)⟩
      · rename_i hW
        simp only [hW]
        rcases gd_sound hs h with ⟨hw, hy⟩ | ⟨hw, hno⟩
        · rw [if_pos hw]
          refine .inl (soft_sound hK hΓ hs.base (fun X' v av s' hk' hs' hv hb => ?_) hy)
          have hs2 := hs.rebase hs'
          have hs3 := put_srel hs2 hv o.dst
          have hPV' : ∀ p ∈ PV, ∀ w, Below X'.w.heap.size X'.w w → p w := fun p hp w hw => hPV p hp w (below_trans hb hw)
          refine ⟨hb, wpPh_mono2 (S2' := Below X'.w.heap.size X'.w) (fun w hw => below_trans hb hw) _ _ _ _ (wpPh_mono (S1' := S1 X' PV) (fun w hw => ⟨fr_trans hs' hw.1, hw.2⟩) _ _ _ _ ?_)⟩
          exact iht hnode _ pd PV hs3 hσt hcl' (hput v) hPV' hfr' hk' n hdt
        · rw [if_neg (by rw [hw]; simp)]
          exact ⟨Below.refl _ _, iht hnode _ pd PV (put_srel hs nothing_rel o.dst) hσt hcl' (hput undef) hPV hfr' hno n hdt⟩
    · have hjm : j ∈ m.has := by
        rcases List.mem_cons.1 hj with e | e
        · exact absurd e hji
        · exact e
      have hst : m.isStop = false := by
        cases m with
        | stop => cases hjm
        | _ => rfl
      exact ihm listed pd PV hs hσm hcl hpd hPV hfr (hmm hst) n hdm j hjm
  | .nar w tf i t => by
    have iht := (run_sound hHS hK hΓ hsel hQp hQn t).1
    refine ⟨fun _ listed pd PV X s a hs hσ hcl hpd hPV hfr h n hn => ?_, fun listed pd PV X s a _ _ _ _ _ _ _ n _ i hi => by cases hi⟩
    obtain ⟨⟨hnode, hir, hHd, hSf, hfree⟩, hwt, htf, hσt⟩ := hσ
    obtain ⟨m, rfl⟩ : ∃ m, n = m + 1 := ⟨n - 1, by simp only [ST.dep] at hn; omega⟩
    have hm : t.dep ≤ m := by simp only [ST.dep] at hn; omega
    have h12 : ∀ w, Below X.w.heap.size X.w w → S1 X PV w := fun w hw => ⟨(hs.base.below hw).fr, fun p hp => hPV p hp w hw⟩
    have hcl' := closed_set hcl hir
    have hfr' := pdFree_set hfr i
    have hiun := (mem_ready.1 hir).1
    unfold aRun at h
    rw [spS_eq] at h
    split at h
    case h_2 => exact h.elim
    rename_i o ho
    have hput : ∀ (v : Value), PdOk P (a.put o.dst v) pd PV := fun v => pd_put hpd fun e he p hp => hfr e he i o ho hiun p hp
    have hfree := Region.free_spec ho hfree
    have hq : quietR K o.op = true := hHS i o ho hHd hSf
    have hX : Sld (S1 X PV) X := fun w' hw' b hb hn => hw'.1.keep b hb fun hh => hn (.inl hh)
    rcases gd_sound hs h with ⟨hw, hy⟩ | ⟨hw, hno⟩
    · have one : ∀ {kk : AV → Prop}, Yields P (S1 X PV) X a o kk → (∀ av, kk av → aRun K Γ ops Hd t pd k (s.put o.dst av)) → wpPh P ops Q (S1 X PV) (Below X.w.heap.size X.w) (fun j => elemB j Hd) (m + 1) listed a X.w := fun {kk} hY hkk => by
        obtain ⟨v, av, hr, hv, hk⟩ := hY
        exact wpPh_first1 ho (Region.noSelect_spec hsel) (fun c a w h => absurd h (hQp c _ w)) h12 m listed a X.w hfree hir (.inl ⟨hw, fun w hw' => hr w hw'⟩) (Below.refl _ _)
          (iht hnode _ pd PV (put_srel hs hv o.dst) hσt hcl' (hput v) hPV hfr' (hkk av hk) m hm)
      split at hy
      · rename_i hf
        simp only [Bool.or_eq_true] at hf
        rcases hf with hf | hf
        · exact one (first_sound (C := S1 X PV) hK hΓ hs hf (fun _ => hX) hy) fun av h => h
        · cases hop : o.op with
          | build t parts =>
            rw [hop] at hy
            simp only [aQuiet] at hy
            exact one (y_build (P := P) (o := o) (C := S1 X PV) (Γ := Γ) hK hs hop hy) fun av h => h
          | _ => rw [hop] at hf; cases hf
      · split at hy
        · obtain ⟨v, av, hr, hv, hk⟩ := quietY_sound hK hs (quiet_call hq) hy
          exact wpPh_first ho (Region.noSelect_spec hsel) (fun c a w h => absurd h (hQp c _ w)) hHd m listed a X.w hcl (waits_of (hwt rfl)) hfree hir (.inl ⟨hw, fun w hw' => hr w hw'⟩) (Below.refl _ _)
            (iht hnode _ pd PV (put_srel hs hv o.dst) hσt hcl' (hput v) hPV hfr' hk m hm)
        · split at hy
          · rename_i ty x hop
            obtain ⟨htm, hy⟩ := chk_iff.1 hy
            obtain ⟨v, av, hr, hv, hflat, hk⟩ := y_load (P := P) (o := o) (C := Below X.w.heap.size X.w) (Γ := Γ) hK hs sld_below (.inr fun _ h => h) hop hy
            obtain ⟨u, u1, u2⟩ := flat_val hflat
            have hvu : v = u := u2 X v hv
            have hts := tmpFree_spec (hop ▸ htf htm o ho)
            have hnew : PdE P (a.put o.dst v) (ty, x, av) (fun w => (execOp a.eval o).run P w = .ok (.value v) w) := by
              refine ⟨o, v, hop, fun X y hy => (u2 X y hy).trans hvu.symm, fun w hw => ?_⟩
              have : execOp (a.put o.dst v).eval o = execOp a.eval o := execOp_congr o (fun cs b e => by rw [hop] at e; cases e) (fun z hz => by
                rw [hop] at hz
                have hz : z = x := by simpa [Op.operands] using hz
                subst hz
                exact Act.eval_put fun p hp => hts i o ho hiun p hp)
              rw [← this]; exact hw
            have hPVn : ∀ p ∈ (fun w => (execOp a.eval o).run P w = .ok (.value v) w) :: PV, ∀ w, Below X.w.heap.size X.w w → p w := fun p hp w hw => by
              rcases List.mem_cons.1 hp with rfl | hp
              · exact hr w hw
              · exact hPV p hp w hw
            refine wpPh_mono (S1' := S1 X ((fun w => (execOp a.eval o).run P w = .ok (.value v) w) :: PV)) (fun w hw => ⟨hw.1, fun p hp => hw.2 p (List.mem_cons_of_mem _ hp)⟩) _ _ _ _ ?_
            refine wpPh_first1 ho (Region.noSelect_spec hsel) (fun c a w h => absurd h (hQp c _ w)) (fun w hw => ⟨(hs.base.below hw).fr, fun p hp => hPVn p hp w hw⟩) m listed a X.w hfree hir (.inl ⟨hw, fun w hw' => hw'.2 _ (List.mem_cons_self)⟩) (Below.refl _ _) ?_
            refine iht hnode _ ((ty, x, av) :: pd) ((fun w => (execOp a.eval o).run P w = .ok (.value v) w) :: PV) (put_srel hs hv o.dst) hσt hcl' ⟨hnew, hput v⟩ hPVn ?_ hk m hm
            refine pdFree_set (fun e he j o' ho' hl p hp => ?_) i
            rcases List.mem_cons.1 he with rfl | he
            · exact hts j o' ho' hl p hp
            · exact hfr e he j o' ho' hl p hp
          · exact hy.elim
    · exact wpPh_first1 ho (Region.noSelect_spec hsel) (fun c a w h => absurd h (hQp c _ w)) h12 m listed a X.w hfree hir (.inr ⟨hw, rfl⟩) (Below.refl _ _)
        (iht hnode _ pd PV (put_srel hs nothing_rel o.dst) hσt hcl' (hput undef) hPV hfr' hno m hm)
def kQ (w0 : World) (own0 : O0) (q : Kont) : Exit → Act → World → Prop
  | .normal, a, w => ∃ X s, X.w = w ∧ SRel w0 own0 X s a ∧ q .nor s
  | .ret, a, w => ∃ X s, X.w = w ∧ SRel w0 own0 X s a ∧ q .ret s
  | .exit i, a, w => ∃ X s, X.w = w ∧ SRel w0 own0 X s a ∧ q (.exit i) s
  | _, _, _ => False
theorem open_sound {ops : Array Oper} {id : Nat} {q : Kont} (hm : P.follows .mixedOrders = true) (hK : KOk P K) (hΓ : GSound P Γ) (hs : SRel w0 own0 X s a) (h : aOpen K Γ ops (q .nor) s) : (Code.region id ops true).wp P (kQ w0 own0 q) a X.w := by
  unfold aOpen at h
  split at h
  · obtain ⟨hB, h⟩ := chk_iff.1 h
    refine wp_region_quiet (C := Below X.w.heap.size X.w) hm hB ⟨rfl, rfl, rfl, Nat.le_refl _, fun _ _ => rfl⟩ ?_
    refine draw_sound hK hΓ ops.toList hs h fun s' a' hs' hk => ?_
    intro w' hw'
    exact ⟨{ X with w := w' }, s', rfl, hs'.below hw', hk⟩
  · obtain ⟨hsel, h⟩ := chk_iff.1 h
    have hbel : Below X.w.heap.size X.w { X.w with drawn := X.w.drawn + 1 } := ⟨rfl, rfl, rfl, Nat.le_refl _, fun _ _ => rfl⟩
    have hs1 := hs.below hbel
    split at h
    · rename_i σ hσ
      rw [forceST_eq, forceNs_eq] at h
      obtain ⟨⟨g1, g0⟩, g2⟩ : (SchedP ops (opsL (fun op => !quietR K op && !softOp Γ s op) ops.toList 0) (opsL (fun op => !quietR K op && softOp Γ s op) ops.toList 0) σ (Array.replicate ops.size false) ∧ σ.node = true) ∧ σ.dep ≤ ops.size := by
        revert hσ
        split
        · exact fun h => sched_ok _ _ _ h
        · exact fun h => (by cases h)
      have hHS : ∀ i o, ops[i]? = some o → elemB i (opsL (fun op => !quietR K op && !softOp Γ s op) ops.toList 0) = false → elemB i (opsL (fun op => !quietR K op && softOp Γ s op) ops.toList 0) = false → quietR K o.op = true := fun i o ho e1 e2 => by
        have hl : ops.toList[i]? = some o := by simpa using ho
        have h1 := opsL_spec ops.toList 0 i o hl (by rw [Nat.zero_add]; exact e1)
        have h2 := opsL_spec ops.toList 0 i o hl (by rw [Nat.zero_add]; exact e2)
        cases hq : quietR K o.op
        · simp only [hq, Bool.not_false, Bool.true_and] at h1 h2
          rw [h2] at h1; cases h1
        · rfl
      refine wp_region_held (S := S1 { X with w := { X.w with drawn := X.w.drawn + 1 } } []) hm ?_
      refine wpPh_held (Wd := fun j => elemB j (opsL (fun op => !quietR K op && !softOp Γ s op) ops.toList 0)) (S1 := S1 { X with w := { X.w with drawn := X.w.drawn + 1 } } []) (S2 := Below X.w.heap.size { X.w with drawn := X.w.drawn + 1 }) (fun w hw => ⟨(hs1.base.below hw).fr, fun p hp => by cases hp⟩) _ _ _ _ ?_
      exact (run_sound hHS hK hΓ hsel (fun c a w h => h) (fun X' s' a' hs' hk => ⟨X', s', rfl, hs', hk⟩) σ).1 g0 _ [] [] hs1 g1 closed_start trivial (fun p hp => by cases hp) (fun e he => by cases he) h ops.size g2
    split at h
    · refine wp_region_held (S := SN { X.w with drawn := X.w.drawn + 1 } ⟨X.obj, X.ext, own0.gv⟩ { X with w := { X.w with drawn := X.w.drawn + 1 } } s.o (wOf ops s)) hm ?_
      refine anyN_sound (w0 := { X.w with drawn := X.w.drawn + 1 }) (own0 := ⟨X.obj, X.ext, own0.gv⟩) (X0 := { X with w := { X.w with drawn := X.w.drawn + 1 } }) (o0 := s.o) hK hΓ hsel (fun X' s' a' hs' hk => ⟨X', s', rfl, hs1.rebase hs', hk⟩) (fun c a w h => h) hs1.g rfl ops.size _ true hs1.base ?_ (Nat.le_refl _) ?_ h
      · exact ⟨fun j ob hj hl hz _ => ⟨ob, hj, hl, hz, rfl⟩, fun j ob hj hl hz hle => absurd (lt_of_get hj) (by omega), ⟨rfl, rfl, rfl, Nat.le_refl _, fun _ _ _ => rfl⟩, fun _ _ _ _ _ _ => rfl⟩
      · exact fun _ w' hw' b hb hn => hw'.1.keep b hb fun h => hn (.inl h)
    · rw [forceNs_eq] at h
      refine wp_region_held (S := Fr { X.w with drawn := X.w.drawn + 1 } X.obj) hm ?_
      refine wpPh_held (Wd := fun j => elemB j (wideL K Γ ops s ops.toList 0)) (S2 := SN { X.w with drawn := X.w.drawn + 1 } ⟨X.obj, X.ext, own0.gv⟩ { X with w := { X.w with drawn := X.w.drawn + 1 } } s.o (wOf ops s)) (fun w h => h.1) _ _ _ _ ?_
      refine anyM_sound (w0 := { X.w with drawn := X.w.drawn + 1 }) (own0 := ⟨X.obj, X.ext, own0.gv⟩) (X0 := { X with w := { X.w with drawn := X.w.drawn + 1 } }) (o0 := s.o) hK hΓ hsel (fun c a w h => h) ops.size _ true (fun X' s' a' hs' hk => ⟨X', s', rfl, hs1.rebase hs', hk⟩) hs1.g rfl closed_start hs1.base ?_ (Nat.le_refl _) ?_ h
      · exact ⟨fun j ob hj hl hz _ => ⟨ob, hj, hl, hz, rfl⟩, fun j ob hj hl hz hle => absurd (lt_of_get hj) (by omega), ⟨rfl, rfl, rfl, Nat.le_refl _, fun _ _ _ => rfl⟩, fun _ _ _ _ _ _ => rfl⟩
      · exact fun _ w' hw' b hb hn => hw'.1.keep b hb fun h => hn (.inl h)
theorem loop_sound {c : Code} {B : Kont → S → Prop} {q : Kont} (ih : ∀ {X : Cx} {s : S} {a : Act} {q : Kont}, SRel w0 own0 X s a → B q s → c.wp P (kQ w0 own0 q) a X.w) {s : S} (h : ALoop B q s) : ∀ {X : Cx} {a : Act}, SRel w0 own0 X s a → (Code.loop c).wp P (kQ w0 own0 q) a X.w := by
  induction h with
  | openT i sz hz _ ihl =>
    intro X a hs
    obtain ⟨Y, e, hs'⟩ := openT_srel hs i sz hz
    rw [← e]; exact ihl hs'
  | openB i j sz hz _ ihl =>
    intro X a hs
    obtain ⟨Y, e, hs'⟩ := openB_srel hs i j sz hz
    rw [← e]; exact ihl hs'
  | weak s1 hw _ ihl =>
    intro X a hs
    obtain ⟨Y, e, hs'⟩ := hw _ _ _ _ hs
    rw [← e]; exact ihl hs'
  | unr n h =>
    intro X a hs
    refine wp_loop_ghost (fun n a w => ∃ X s, X.w = w ∧ SRel w0 own0 X s a ∧ aLoopN B q n s) n ⟨X, _, rfl, hs, h⟩ ?_
    rintro n a1 w1 ⟨X1, s1, rfl, hs2, h⟩
    cases n with
    | zero => exact h.elim
    | succ n =>
      refine wp_mono (ih hs2 h) fun e a' w' hq => ?_
      cases e with
      | normal =>
        obtain ⟨X', s', rfl, hs', h'⟩ := hq
        exact ⟨n, Nat.lt_succ_self n, X', s', rfl, hs', h'⟩
      | exit i => exact hq
      | ret => exact hq
      | goto l => exact hq.elim
      | panic ch => exact hq.elim
      | outgrown => exact hq.elim
  | introM rsm m st inv μ h0 round =>
    intro X a hs
    obtain ⟨rs0, i0, hle, hI⟩ := h0
    obtain ⟨X0, hX0, hs0⟩ := sealAll_srel rs0 hs
    obtain ⟨X0', hX0', hs0'⟩ := hs0.le hle
    refine wp_loop_ghost (fun n a w => ∃ X i, X.w = w ∧ SRel w0 own0 X (st i) a ∧ inv i ∧ μ i = n) (μ i0) ⟨X0', i0, hX0'.trans hX0, hs0', hI, rfl⟩ ?_
    rintro n a1 w1 ⟨X1, i1, rfl, hs2, hI2, rfl⟩
    refine wp_mono (ih hs2 (round i1 hI2)) fun e a' w' hq => ?_
    cases e with
    | normal =>
      obtain ⟨X', s', rfl, hs', hq⟩ := hq
      obtain ⟨j, hw, hI3, hlt⟩ := FamNext.weak hq
      obtain ⟨X2, hX2, hs'⟩ := sealAll_srel rsm hs'
      rw [← hX2]
      obtain ⟨X4, hX4, hs4⟩ := hw _ _ _ _ (hs'.mask m)
      exact ⟨μ j, hlt, X4, j, hX4, hs4, hI3, rfl⟩
    | exit i => exact hq
    | ret => exact hq
    | goto l => exact hq.elim
    | panic ch => exact hq.elim
    | outgrown => exact hq.elim
theorem code_sound (hm : P.follows .mixedOrders = true) (hK : KOk P K) (hΓ : GSound P Γ) : ∀ (c : Code) {X : Cx} {s : S} {a : Act} {q : Kont}, SRel w0 own0 X s a → aCode K Γ c q s → c.wp P (kQ w0 own0 q) a X.w
  | .skip, X, s, a, q, hs, h => wp_skip ⟨X, s, rfl, hs, h⟩
  | .region id ops false, X, s, a, q, hs, h => wp_region_list (ops_sound hK hΓ ops.toList hs h fun X' s' a' hs' hk => ⟨X', s', rfl, hs', hk⟩)
  | .region id ops true, X, s, a, q, hs, h => open_sound hm hK hΓ hs h
  | .seq x y, X, s, a, q, hs, h => by
    have plain : aCode K Γ x (kSeq (aCode K Γ y q) q) s → (Code.seq x y).wp P (kQ w0 own0 q) a X.w := fun h => by
      refine wp_seq (wp_mono (code_sound hm hK hΓ x hs h) fun e a' w' hq => ?_)
      cases e with
      | normal =>
        obtain ⟨X', s', rfl, hs', hk⟩ := hq
        exact code_sound hm hK hΓ y hs' hk
      | exit i => exact hq
      | ret => exact hq
      | goto l => exact hq.elim
      | panic ch => exact hq.elim
      | outgrown => exact hq.elim
    have cut : aCode K Γ x (kSeq (ACut (aCode K Γ y) q) q) s → (Code.seq x y).wp P (kQ w0 own0 q) a X.w := fun h => by
      refine wp_seq (wp_mono (code_sound hm hK hΓ x hs h) fun e a' w' hq => ?_)
      cases e with
      | normal =>
        obtain ⟨X', s', rfl, hs', hk⟩ := hq
        have hk : ACut (aCode K Γ y) q s' := hk
        cases hk with
        | wk rs s1 hle hb =>
          obtain ⟨X2, e2, hs2⟩ := sealAll_srel rs hs'
          obtain ⟨X3, e3, hs3⟩ := hs2.le hle
          rw [← e2, ← e3]
          exact code_sound hm hK hΓ y hs3 hb
        | pk rs fp s1 hp hle hb =>
          obtain ⟨X2, e2, hs2⟩ := sealAll_srel rs hs'
          obtain ⟨X3, e3, hs3⟩ := hs2.pack fp hp
          obtain ⟨X4, e4, hs4⟩ := hs3.le hle
          rw [← e2, ← e3, ← e4]
          exact code_sound hm hK hΓ y hs4 hb
        | wW s1 hw hb =>
          obtain ⟨X2, e2, hs2⟩ := hw _ _ _ _ hs'
          rw [← e2]
          exact code_sound hm hK hΓ y hs2 hb
      | exit i => exact hq
      | ret => exact hq
      | goto l => exact hq.elim
      | panic ch => exact hq.elim
      | outgrown => exact hq.elim
    simp only [aCode] at h
    split at h
    · exact cut h
    · exact plain h
  | .cond c x y, X, s, a, q, hs, h => by
    simp only [aCode] at h
    split at h
    · rename_i t ht
      have et : a.eval c = .bool t := inv_bool (ht ▸ ev_sound hs c)
      refine wp_cond et ?_
      cases t with
      | true => exact code_sound hm hK hΓ x hs (by have h := bcase_t h rfl; rwa [litO_self ht] at h)
      | false => exact code_sound hm hK hΓ y hs (by have h := bcase_f h rfl; rwa [litO_self ht] at h)
    · exact h.elim
  | .block id c, X, s, a, q, hs, h => by
    refine wp_block (wp_mono (code_sound hm hK hΓ c hs h) fun e a' w' hq => ?_)
    cases e with
    | normal => exact hq
    | exit i =>
      obtain ⟨X', s', rfl, hs', hk⟩ := hq
      simp only [Exit.inBlock]
      simp only [kBlk] at hk
      split
      · rename_i hi; rw [if_pos hi] at hk; exact ⟨X', s', rfl, hs', hk⟩
      · rename_i hi; rw [if_neg hi] at hk; exact ⟨X', s', rfl, hs', hk⟩
    | ret => exact hq
    | goto l => exact hq.elim
    | panic ch => exact hq.elim
    | outgrown => exact hq.elim
  | .loop c, X, s, a, q, hs, h => loop_sound (fun h1 h2 => code_sound hm hK hΓ c h1 h2) h hs
  | .exit i, X, s, a, q, hs, h => wp_exit ⟨X, s, rfl, hs, h⟩
  | .ret, X, s, a, q, hs, h => wp_ret ⟨X, s, rfl, hs, h⟩
  | .scope c, X, s, a, q, hs, h => by
    refine wp_scope_straight (wp_mono (code_sound hm hK hΓ c hs h) fun e a' w' hq => ?_)
    cases e <;> first | exact hq | exact hq.elim
  | .label l, X, s, a, q, hs, h => wp_label ⟨X, s, rfl, hs, h⟩
  | .rangeFunc _ _ _ _, X, s, a, q, hs, h => h.elim
  | .goto _, X, s, a, q, hs, h => h.elim
  | .refuse _, X, s, a, q, hs, h => h.elim
end
end Go.AM
