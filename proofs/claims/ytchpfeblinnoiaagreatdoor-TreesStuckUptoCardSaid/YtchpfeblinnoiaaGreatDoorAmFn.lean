import Derived.Test.YtchpfeblinnoiaaGreatDoorAmCode
set_option linter.unusedSimpArgs false
set_option linter.unusedVariables false
set_option linter.unnecessarySimpa false
namespace Go.AM
open Go.RowKit
mutual
theorem toD_ext {X : Cx} {o : List Ob} (g : GRel X o) : ∀ {x : AV} {d : D} {v : Value}, VRel X x v → x.toD o = some d → DRel X.ext X.w d v
  | .d x, d, v, hv, h => by
    simp only [AV.toD, Option.some.injEq] at h; subst h
    cases hv with | d hd => exact hd.mono ⟨Nat.le_refl _, fun b _ hb => ⟨rfl, fun hh => hb (.inr hh)⟩⟩
  | .nl, d, v, hv, h => by
    simp only [AV.toD, Option.some.injEq] at h; subst h
    cases hv; exact .nil
  | .vw r n, d, v, hv, h => by
    simp only [AV.toD] at h
    split at h
    · rename_i sz es hr
      simp only [Option.some.injEq] at h; subst h
      exact view_rel g hr (fun _ h => .inr h) (fun hz => g.ext2 r _ hr rfl hz) hv
    · cases h
  | .fn f fs cs, d, v, hv, h => by
    simp only [AV.toD] at h
    split at h
    · rename_i p q h1 h2
      simp only [Option.some.injEq] at h; subst h
      cases hv with
      | fn l1 l2 r1 r2 =>
        obtain ⟨m1, m2⟩ := toDL_ext g h1
        obtain ⟨n1, n2⟩ := toDL_ext g h2
        exact .fn (by omega) (by omega) (fun i hi => m2 i (by omega) hi _ (r1 i (by omega))) (fun i hi => n2 i (by omega) hi _ (r2 i (by omega)))
    · cases h
  | .rf _ _, _, _, _, h => by simp [AV.toD] at h
  | .rp _ _ _ _, _, _, _, h => by simp [AV.toD] at h
  | .ep _, _, _, _, h => by simp [AV.toD] at h
  | .mp _, _, _, _, h => by simp [AV.toD] at h
  | .ag _, _, _, _, h => by simp [AV.toD] at h
  | .tp _, _, _, _, h => by simp [AV.toD] at h
  | .opt _ _, _, _, _, h => by simp [AV.toD] at h
  | .jk, _, _, _, h => by simp [AV.toD] at h
theorem toDL_ext {X : Cx} {o : List Ob} (g : GRel X o) : ∀ {l : List AV} {ds : List D}, toDL o l = some ds → ds.length = l.length ∧ ∀ (i : Nat) (h : i < l.length) (h' : i < ds.length) (v : Value), VRel X l[i] v → DRel X.ext X.w ds[i] v
  | [], ds, h => by
    simp only [toDL, Option.some.injEq] at h; subst h
    exact ⟨rfl, fun i h => absurd h (by simp)⟩
  | x :: l, ds, h => by
    simp only [toDL] at h
    split at h
    · rename_i p q h1 h2
      simp only [Option.some.injEq] at h; subst h
      obtain ⟨m1, m2⟩ := toDL_ext g h2
      refine ⟨by simp [m1], fun i hi hi' v hv => ?_⟩
      cases i with
      | zero => exact toD_ext g (x := x) hv h1
      | succ i => exact m2 i (by simpa using hi) (by simpa using hi') v (by simpa using hv)
    · cases h
end
theorem leaf_ext {X : Cx} {o : List Ob} (g : GRel X o) {x y : AV} {v : Value} (hv : VRel X x v) (h : leafP o x = some y) : VRel (Cx.bare X.ext X.w) y v := by
  unfold leafP at h
  split at h
  · rename_i d hd
    cases h
    exact .d ((toD_ext g hv hd).mono ⟨Nat.le_refl _, fun b _ hb => ⟨rfl, fun hh => hb (hh.resolve_left id)⟩⟩)
  · cases h
mutual
theorem pure_ext {X : Cx} {o : List Ob} (g : GRel X o) : ∀ {x y : AV} {v : Value}, VRel X x v → x.pure o = some y → VRel (Cx.bare X.ext X.w) y v
  | .ag cs, y, v, hv, h => by
    simp only [AV.pure] at h
    split at h
    · rename_i l hl
      cases h
      obtain ⟨arr, rfl, h1, h2⟩ := inv_ag hv
      obtain ⟨m1, m2⟩ := pureL_ext g hl
      exact .ag (by omega) (fun j hj => m2 j (by omega) hj _ (h2 j (by omega)))
    · cases h
  | .tp cs, y, v, hv, h => by
    simp only [AV.pure] at h
    split at h
    · rename_i l hl
      cases h
      obtain ⟨arr, rfl, h1, h2⟩ := inv_tp hv
      obtain ⟨m1, m2⟩ := pureL_ext g hl
      exact .tp (by omega) (fun j hj => m2 j (by omega) hj _ (h2 j (by omega)))
    · cases h
  | .d x, y, v, hv, h => leaf_ext g hv (by simpa only [AV.pure] using h)
  | .nl, y, v, hv, h => leaf_ext g hv (by simpa only [AV.pure] using h)
  | .vw r n, y, v, hv, h => leaf_ext g hv (by simpa only [AV.pure] using h)
  | .fn f fs cs, y, v, hv, h => leaf_ext g hv (by simpa only [AV.pure] using h)
  | .rf _ _, _, _, _, h => by simp [AV.pure, leafP, AV.toD] at h
  | .rp _ _ _ _, _, _, _, h => by simp [AV.pure, leafP, AV.toD] at h
  | .ep _, _, _, _, h => by simp [AV.pure, leafP, AV.toD] at h
  | .mp _, _, _, _, h => by simp [AV.pure, leafP, AV.toD] at h
  | .opt _ _, _, _, _, h => by simp [AV.pure, leafP, AV.toD] at h
  | .jk, _, _, _, h => by simp [AV.pure, leafP, AV.toD] at h
theorem pureL_ext {X : Cx} {o : List Ob} (g : GRel X o) : ∀ {l m : List AV}, pureL o l = some m → m.length = l.length ∧
    ∀ (i : Nat) (h : i < l.length) (h' : i < m.length) (v : Value), VRel X l[i] v → VRel (Cx.bare X.ext X.w) m[i] v
  | [], m, h => by
    simp only [pureL, Option.some.injEq] at h; subst h
    exact ⟨rfl, fun i h => absurd h (by simp)⟩
  | x :: l, m, h => by
    simp only [pureL] at h
    split at h
    · rename_i p q h1 h2
      cases h
      obtain ⟨m1, m2⟩ := pureL_ext g h2
      refine ⟨by simp [m1], fun i hi hi' v hv => ?_⟩
      cases i with
      | zero => exact pure_ext g (x := x) hv h1
      | succ i => exact m2 i (by simpa using hi) (by simpa using hi') v (by simpa using hv)
    · cases h
end
section
variable {P : Program} {K : TypeId → Option TK} {Γ : List (FuncId × En)}
def resRun (tmps : Array Value) : ResultVar → Sem Value
  | .tmp t => pure (tmps.getD t undef)
  | .cell ad t => do loadVar t (← asAddr (tmps.getD ad undef))
theorem res1_sound {w0 : World} {own0 : O0} {X : Cx} {s : S} {a : Act} (hK : KOk P K) (hs : SRel w0 own0 X s a) {r : ResultVar} {x : AV} (h : res1 K s r = some x) :
    ∃ v, (resRun a.tmps r).run P X.w = .ok v X.w ∧ VRel X x v := by
  cases r with
  | tmp t =>
    simp only [res1, Option.some.injEq] at h
    subst h
    exact ⟨a.tmps.getD t undef, rfl, ev_sound hs (.tmp t)⟩
  | cell ad t =>
    simp only [res1] at h
    have hv := ev_sound hs (.tmp ad)
    simp only [S.ev, Act.eval] at hv
    split at h
    · rename_i i off e
      rw [e] at hv
      obtain ⟨ea, hi⟩ := inv_rf hv
      split at h
      · rename_i cs ho
        split at h
        · rename_i k hk
          split at h
          · rename_i hb
            obtain ⟨_, arr, T, h1, h2, h3⟩ := hs.g.rel i _ ho
            have hld : ldAV K t (cs.drop off) (fun y => y = x) := by
              unfold ldAV
              rw [hk]
              simp only
              split at h
              · rename_i hag
                rw [if_pos hag]
                simp only [Option.some.injEq] at h
                exact chk_iff.2 ⟨by simp; omega, h⟩
              · rename_i hag
                rw [if_neg hag]
                split at h
                · rename_i hlt
                  have : cs.drop off = cs[off] :: cs.drop (off + 1) := by rw [List.drop_eq_getElem_cons hlt]
                  rw [this]
                  simp only [Option.some.injEq, List.getD_eq_getElem?_getD, List.getElem?_eq_getElem hlt, Option.getD_some] at h
                  exact h
                · cases h
            obtain ⟨v, av, hr, hrel, rfl⟩ := ldAV_run (P := P) hK (X := X) (b := X.b i) (off := off) (f := fun j => arr.getD (off + j) undef) (fun j hj => by
              simp only [List.length_drop] at hj
              simp only [List.getElem_drop]
              exact h3 (off + j) (by omega)) hld
            have hr := hr X.w (fun j hj => by
              simp only [List.length_drop] at hj
              exact cell_of_heap h1 (by omega))
            exact ⟨v, by simp [resRun, ea, asAddr, hr], hrel⟩
          · cases h
        · cases h
      · cases h
    · cases h
theorem resL_sound {w0 : World} {own0 : O0} {X : Cx} {s : S} {a : Act} (hK : KOk P K) (hs : SRel w0 own0 X s a) : ∀ {rs : List ResultVar} {l : List AV}, resL K s rs = some l →
    ∃ vs : List Value, (rs.mapM (resRun a.tmps)).run P X.w = .ok vs X.w ∧ vs.length = l.length ∧
      ∀ (i : Nat) (h : i < l.length) (h' : i < vs.length), VRel X l[i] vs[i]
  | [], l, h => by
    simp only [resL, Option.some.injEq] at h; subst h
    exact ⟨[], rfl, rfl, fun i h => absurd h (by simp)⟩
  | r :: rs, l, h => by
    simp only [resL] at h
    split at h
    · rename_i x xs h1 h2
      cases h
      obtain ⟨v, hv1, hv2⟩ := res1_sound (P := P) hK hs h1
      obtain ⟨vs, hs1, hs2, hs3⟩ := resL_sound hK hs h2
      refine ⟨v :: vs, ?_, by simp [hs2], fun i hi hi' => ?_⟩
      · simp only [List.mapM_cons, Sem.run_bind, hv1, Result.andThen_ok, hs1]
        rfl
      · cases i with
        | zero => exact hv2
        | succ i => simpa using hs3 i (by simpa using hi) (by simpa using hi')
    · cases h
theorem results_sound {w0 : World} {own0 : O0} {X : Cx} {s : S} {a : Act} {fn : Func} {rs : List ResultVar} (hrs : fn.results.toList = rs) (hK : KOk P K) (hs : SRel w0 own0 X s a) {l : List AV} (h : resL K s rs = some l) :
    ∃ v, (results fn a.tmps).run P X.w = .ok v X.w ∧ VRel X (resAV l) v := by
  subst hrs
  obtain ⟨vs, h1, h2, h3⟩ := resL_sound (P := P) hK hs h
  have hm : (fn.results.mapM (resRun a.tmps)).run P X.w = .ok vs.toArray X.w := by
    rw [Array.mapM_eq_mapM_toList]
    simp only [Sem.run_map, h1, Result.andThen_ok]
  refine ⟨if h : vs.toArray.size = 1 then vs.toArray[0] else .tuple vs.toArray, ?_, ?_⟩
  · have e : results fn a.tmps = (do let vs ← fn.results.mapM (resRun a.tmps); pure (if h : vs.size = 1 then vs[0] else .tuple vs)) := by
      unfold results
      congr 1
      try (congr 1; funext r; cases r <;> rfl)
    rw [e, Sem.run_bind, hm]
    try rfl
  · match l, vs, h2, h3 with
    | [], [], _, h3 => exact .tp rfl (fun j hj => absurd hj (by simp))
    | [x], [v], _, h3 => exact h3 0 (by simp) (by simp)
    | x :: y :: l, u :: v :: vs, h2, h3 =>
      have : ¬ (u :: v :: vs).toArray.size = 1 := by simp
      rw [dif_neg this]
      exact .tp (by simpa using h2) (fun j hj => by
        have := h3 j hj (by omega)
        have hj' : j < (u :: v :: vs).length := by omega
        have e : (u :: v :: vs).toArray.getD j undef = (u :: v :: vs)[j] := by
          simp [Array.getD_eq_getD_getElem?]
          rw [List.getElem?_eq_getElem hj']; rfl
        rw [e]; exact this)
theorem start_rel {ext : Nat → Prop} {w : World} {as : List AV} {vs : Array Value} (hext : ∀ b, ext b → b < w.heap.size) (hT : Tabs ext w) (hlen : vs.size = as.length) (hrel : ∀ (i : Nat) (h : i < as.length), VRel (Cx.bare ext w) as[i] (vs.getD i undef)) (n : Nat) :
    SRel w ⟨fun _ => False, ext, fun _ => []⟩ (Cx.bare ext w) ⟨as ++ List.replicate (n - as.length) .jk, []⟩ { tmps := vs ++ Array.replicate (n - vs.size) undef, defers := [] } where
  len := by simp [hlen]
  slot := by
    intro i hi
    rw [List.getElem_append]
    split
    · rename_i hlt
      rw [getD_append_left (by omega)]
      exact hrel i hlt
    · simp only [List.getElem_replicate]; exact .jk
  defers := rfl
  g := ⟨rfl, fun b => ⟨fun h => h.elim, fun ⟨i, ob, h, _⟩ => by simp at h⟩, fun i j x y h => by simp at h, fun i x h => by simp at h, hext, fun i x h => by simp at h, fun i sz es h => by simp at h, fun i x h => by simp at h⟩
  ext := rfl
  fr := ⟨rfl, rfl, rfl, Nat.le_refl _, fun _ _ _ => rfl⟩
  new := fun b hb => hb.elim
  gh := fun k cs h => by simp at h
  tab := hT.fewer fun b h => h.elim False.elim id
theorem pure_fn {f : FuncId} {fn : Func} {c : Code} {rs : List ResultVar} {E : List AV → (AV → Prop) → Prop} (hm : P.follows .mixedOrders = true) (hK : KOk P K) (hΓ : GSound P Γ) (hf : P.funcs[f]? = some fn) (hb : fn.body = some c) (hrs : fn.results.toList = rs)
    (hcall : ∀ args w, (callFunc f args).run P w = .ok (.enter f args) w) (h : ∀ as q, E as q → aCode K Γ c (kRet K rs q) ⟨as ++ List.replicate (fn.ntmps - as.length) .jk, []⟩) : PSound P f E := by
  refine ⟨hcall, fun ext w as vs q hext hT hlen hrel hE => ?_⟩
  refine calls_of_wp hf hb (wp_mono (code_sound hm hK hΓ c (start_rel hext hT hlen hrel fn.ntmps) (h as q hE)) fun e a' w' hq => ?_)
  have fin : ∀ (x : AX), (∃ X s, X.w = w' ∧ SRel w ⟨fun _ => False, ext, fun _ => []⟩ X s a' ∧ kRet K rs q x s) → a'.defers = [] ∧ ∃ v, (results fn a'.tmps).run P w' = .ok v w' ∧ ∃ v_1 av, Ending.returned v = .returned v_1 ∧ q av ∧ VRel (Cx.bare ext w') av v_1 ∧ Below w.heap.size w w' := by
    rintro x ⟨X, s, rfl, hs, hk⟩
    refine ⟨hs.defers, ?_⟩
    have key : ∀ (hk : (match resL K s rs with | some l => (match (resAV l).pure s.o with | some r => q r | none => False) | none => False)), ∃ v, (results fn a'.tmps).run P X.w = .ok v X.w ∧ ∃ v_1 av, Ending.returned v = .returned v_1 ∧ q av ∧ VRel (Cx.bare ext X.w) av v_1 ∧ Below w.heap.size w X.w := by
      intro hk
      split at hk
      · rename_i l hl
        split at hk
        · rename_i r hr
          obtain ⟨v, h1, h2⟩ := results_sound (P := P) hrs hK hs hl
          have h3 := pure_ext hs.g h2 hr
          rw [hs.ext] at h3
          exact ⟨v, h1, v, r, rfl, hk, h3, ⟨hs.fr.os, hs.fr.tape, hs.fr.output, hs.fr.size, fun b hb => hs.fr.keep b hb (fun h => h)⟩⟩
        · exact hk.elim
      · exact hk.elim
    cases x with
    | nor => exact key hk
    | ret => exact key hk
    | exit i => exact hk.elim
  cases e with
  | normal => exact fin .nor hq
  | ret => exact fin .ret hq
  | exit i =>
    obtain ⟨X, s, _, _, hk⟩ := hq
    exact hk.elim
  | goto l => exact hq.elim
  | panic ch => exact hq.elim
  | outgrown => exact hq.elim
def zAV : Value → AV
  | .slice none 0 0 => .nl
  | v => .d (.v v)
def zOk : Value → Bool
  | .slice none 0 0 => true
  | v => plainV v
theorem zAV_rel {v : Value} (h : zOk v = true) (X : Cx) : VRel X (zAV v) v := by
  unfold zAV zOk at *
  split at h
  · exact .nl
  · exact mkv h
def aggD : TypeDesc → Bool
  | .struct _ | .array _ _ => true
  | _ => false
theorem tok_mk {t : TypeId} {sz bytes : Nat} {z : Value} {d : TypeDesc} {kd : Kd} {c : Bool} (hc : c = true → eqOkB P t = true) (hinfo : (P.info? t).map (fun i => (i.size, i.bytes, i.zero)) = some (sz, bytes, some z)) (hund : P.underlying t = some d) (hkd : UOk P t kd) (hz : z.cells.size = sz)
    (hpl : z.cells.toList.all zOk = true) (hag : (match z with | .agg _ => true | _ => false) = aggD d) : TOk P t ⟨aggD d, sz, bytes, z.cells.toList.map zAV, kd, c, false, false, []⟩ where
  info := by
    obtain ⟨i, hi, he⟩ := Option.map_eq_some_iff.1 hinfo
    simp only [Prod.mk.injEq] at he
    obtain ⟨e1, e2, e3⟩ := he
    refine ⟨i, hi, e1, e2, fun _ => ⟨z, e3, hz, fun X j hj => ?_, fun h => ?_, fun h => ?_⟩⟩
    · simp only [List.length_map] at hj
      have hj' : j < z.cells.size := by simpa using hj
      simp only [List.getElem_map]
      have e : z.cells.getD j undef = z.cells.toList[j] := by simp [Array.getD_eq_getD_getElem?, hj']
      rw [e]
      exact zAV_rel (List.all_eq_true.1 hpl _ (List.getElem_mem _)) X
    · simp only at h
      rw [← hag] at h
      cases z <;> first | exact ⟨_, rfl⟩ | cases h
    · simp only at h
      rw [← hag] at h
      cases z <;> first | rfl | cases h
  agg := fun w => by
    unfold isAgg
    simp only [Sem.run_bind, run_under hund, Result.andThen_ok]
    cases d <;> rfl
  kd := hkd
  cmp := hc
  und := ⟨d, hund⟩
def lkT : List (TypeId × TK) → TypeId → Option TK
  | [], _ => none
  | (t, k) :: l, u => if u = t then some k else lkT l u
theorem kok_nil : KOk P (lkT []) := fun t i h => by simp [lkT] at h
theorem kok_cons {t : TypeId} {k : TK} {l : List (TypeId × TK)} (h : TOk P t k) (hl : KOk P (lkT l)) : KOk P (lkT ((t, k) :: l)) := fun u i hu => by
  simp only [lkT] at hu
  split at hu
  · rename_i e; cases hu; subst e; exact h
  · exact hl u i hu
end
theorem PSound.mono {P : Program} {f : FuncId} {E E' : List AV → (AV → Prop) → Prop} (h : PSound P f E) (hE : ∀ al q, E' al q → E al q) : PSound P f E' :=
  ⟨h.enter, fun ext w as vs q hext hT hlen hrel hq => h.call ext w as vs q hext hT hlen hrel (hE as q hq)⟩
theorem PSound.det {P : Program} {f : FuncId} {E : List AV → (AV → Prop) → Prop} {F : List AV → Option (Prop × AV)} (h : PSound P f E) (hE : ∀ al p r, F al = some (p, r) → p → ∀ q : AV → Prop, q r → E al q) : PSound P f (detE F) :=
  h.mono fun al q hq => by
    unfold detE at hq
    split at hq
    · rename_i p r hF; exact hE al p r hF hq.1 q hq.2
    · exact hq.elim
theorem det_fn {P : Program} {K : TypeId → Option TK} {Γ : List (FuncId × En)} {f : FuncId} {fn : Func} {c : Code} {rs : List ResultVar} {F : List AV → Option (Prop × AV)} (hm : P.follows .mixedOrders = true) (hK : KOk P K) (hΓ : GSound P Γ) (hf : P.funcs[f]? = some fn) (hb : fn.body = some c) (hrs : fn.results.toList = rs)
    (hcall : ∀ args w, (callFunc f args).run P w = .ok (.enter f args) w) (h : ∀ as p r (q : AV → Prop), F as = some (p, r) → p → q r → aCode K Γ c (kRet K rs q) ⟨as ++ List.replicate (fn.ntmps - as.length) .jk, []⟩) : PSound P f (detE F) :=
  pure_fn hm hK hΓ hf hb hrs hcall fun as q hE => by
    unfold detE at hE
    split at hE
    · rename_i p r hF; exact h as p r q hF hE.1 hE.2
    · exact hE.elim
theorem gsound_det {P : Program} {f : FuncId} {F : List AV → Option (Prop × AV)} {Γ : List (FuncId × En)} (h : PSound P f (detE F)) (hΓ : GSound P Γ) : GSound P ((f, .det F) :: Γ) := gsound_cons (e := .det F) h hΓ
end Go.AM
