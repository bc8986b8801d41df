import Derived.Test.YtepkbbkfcnejmaaDoorFrame
set_option linter.unusedSimpArgs false
set_option linter.unusedVariables false
namespace Go.Proofs.YtepkbbkfcnejmaaDoor
open Go Go.AM Go.RowKit Go.ChangeShapes Go.WideShapes Go.ChangeAt
def aggB (P : Program) (t : TypeId) : Bool := match P.underlying t with | some (.struct _) => true | some (.array _ _) => true | _ => false
def argAV : Bool → List D → AV
  | true, ds => .ag (ds.map .d)
  | false, [x] => .d x
  | false, _ => .jk
def TyArg (P : Program) (t : TypeId) (a : AV) : Prop := ∃ n ds, Ty P n t ds ∧ a = argAV (aggB P t) ds
def TyArgs (P : Program) : List TypeId → List AV → Prop
  | [], [] => True
  | t :: ts, a :: as' => TyArg P t a ∧ TyArgs P ts as'
  | _, _ => False
section
variable {H : Type} {enc : TypeId × Value → H} {P : Program} {W : World}
theorem own_none {b : Nat} : ¬ (Cx.bare (fun _ => False) W).own b := fun h => h.elim id id
theorem open_arg {t : TypeId} {v : Value} {d : DataW H} {ps : List MemPlace} {r : Reach} {base : Nat} (hp : plainR P t = true) (hval : Value.okWide P W r base t v)
    (h : DataW.Trod enc P W 0 (fun _ => true) true t v d ps) (hb : Rows.uptoBulk d ≤ 1048576) : ∃ n ds, Ty P n t ds ∧ VRel (Cx.bare (fun _ => False) W) (argAV (aggB P t) ds) v := by
  obtain ⟨fuel, h⟩ := h
  obtain ⟨hp1, hp2⟩ := Bool.and_eq_true_iff.1 hp
  obtain ⟨ds, h1, h2⟩ := open_cells (own := (Cx.bare (fun _ => False) W).own) (fun b => own_none) _ hp2 fuel t (by simpa using hp1) _ _ h hb
  refine ⟨fuel, ds, h2, ?_⟩
  have one : ∀ u : Value, v = u → u.cells = #[u] → aggB P t = false → VRel (Cx.bare (fun _ => False) W) (argAV (aggB P t) ds) v := by
    intro u hu hc ha
    subst hu
    rw [hc] at h1
    match ds, h1 with
    | [x], h1 => rw [ha]; exact .d h1.1
  have h2' := h2
  cases fuel with
  | zero => exact h2.elim
  | succ fuel =>
  unfold Ty at h2
  split at h2
  · rename_i hu
    obtain ⟨b, rfl⟩ := okWide_bool hu hval
    exact one _ rfl rfl (by simp [aggB, hu])
  · rename_i k hu
    obtain ⟨b, rfl⟩ := okWide_int hu hval
    exact one _ rfl rfl (by simp [aggB, hu])
  · rename_i hu
    obtain ⟨b, rfl⟩ := okWide_string hu hval
    exact one _ rfl rfl (by simp [aggB, hu])
  · rename_i e hu
    obtain ⟨a, l, c, rfl⟩ := okWide_slice hu hval
    exact one _ rfl rfl (by simp [aggB, hu])
  · rename_i fs hu
    obtain ⟨cs, rfl, hcs⟩ := okWide_struct hu hval
    have ha : aggB P t = true := by simp [aggB, hu]
    rw [ha]
    have hl := h1.length
    refine .ag (by simp only [Value.cells] at hl; simp [hl]) (fun j hj => ?_)
    have hj' : j < ds.length := by simpa using hj
    have := h1.get j hj'
    simp only [List.getElem_map]
    have e : (Value.agg cs).cells.toList.getD j undef = cs.getD j undef := by
      simp [Value.cells, List.getD_eq_getElem?_getD, Array.getD_eq_getD_getElem?]
    rw [e] at this
    exact .d this
  · rename_i k e hu
    obtain ⟨cs, rfl⟩ : ∃ cs, v = .agg cs := by
      simp only [Value.okWide, hu] at hval
      obtain ⟨cs, h1, _⟩ := hval
      exact ⟨cs, h1⟩
    have ha : aggB P t = true := by simp [aggB, hu]
    rw [ha]
    have hl := h1.length
    refine .ag (by simp only [Value.cells] at hl; simp [hl]) (fun j hj => ?_)
    have hj' : j < ds.length := by simpa using hj
    have := h1.get j hj'
    simp only [List.getElem_map]
    have e : (Value.agg cs).cells.toList.getD j undef = cs.getD j undef := by
      simp [Value.cells, List.getD_eq_getElem?_getD, Array.getD_eq_getD_getElem?]
    rw [e] at this
    exact .d this
  · exact h2.elim
theorem open_args {r : Reach} {base : Nat} : ∀ {ts : List TypeId} {vs : List Value} {ds : List (DataW H)} {ps : List MemPlace}, (∀ t ∈ ts, plainR P t = true) →
    DataW.TrodAll enc P W 0 (fun _ => true) true ts vs ds ps → (∀ (j : Nat) t v, ts[j]? = some t → vs[j]? = some v → Value.okWide P W r base t v) → Rows.uptoBulkAll ds ≤ 1048576 →
    ∃ as' : List AV, vs.length = as'.length ∧ TyArgs P ts as' ∧ ∀ (i : Nat) (h : i < as'.length), VRel (Cx.bare (fun _ => False) W) as'[i] (vs.getD i undef)
  | [], vs, ds, ps, _, h, _, _ => by
    obtain ⟨rfl, rfl, rfl⟩ := trodAll_nil h
    exact ⟨[], rfl, trivial, fun i h => absurd h (by simp)⟩
  | t :: ts, vs, ds, ps, hp, h, hv, hb => by
    obtain ⟨v, vs', d, ds', p, q, rfl, rfl, rfl, h1, h2⟩ := trodAll_cons h
    simp only [Rows.uptoBulkAll] at hb
    obtain ⟨fu, x, t1, r1⟩ := open_arg (hp t (by simp)) (hv 0 t v rfl rfl) h1 (by omega)
    obtain ⟨as', e, t2, r2⟩ := open_args (fun u hu => hp u (by simp [hu])) h2 (fun j t' v' a b => hv (j + 1) t' v' (by simpa using a) (by simpa using b)) (by omega)
    refine ⟨_ :: as', by simp [e], ⟨⟨fu, x, t1, rfl⟩, t2⟩, fun i hi => ?_⟩
    cases i with
    | zero => exact r1
    | succ i => simpa using r2 i (by simpa using hi)
theorem trod_len : ∀ {ts : List TypeId} {vs : List Value} {ds : List (DataW H)} {ps : List MemPlace}, DataW.TrodAll enc P W 0 (fun _ => true) true ts vs ds ps → ds.length = ts.length
  | [], vs, ds, ps, h => by obtain ⟨rfl, rfl, rfl⟩ := trodAll_nil h; rfl
  | t :: ts, vs, ds, ps, h => by
    obtain ⟨v, vs', d, ds', p, q, rfl, rfl, rfl, h1, h2⟩ := trodAll_cons h
    simp [trod_len h2]
theorem post_below {f : Func} {s : ChangeSpec} {W' : World} {args : Array Value} {v : Value} {ds gs : List (DataW H)} {before : List MemPlace} {tb : TypeId}
    (hW : DataW.Whole enc P f.params.toList s.vars false W args.toList ds gs before) (hl : laidOutB P = true) (hts : ∀ t ∈ f.params.toList, P.readableRec t = true ∧ t < P.types.size)
    (hrt : f.resultTypes = #[tb]) (hub : P.underlying tb = some .bool) (hsv : s.vars = []) (hsf : s.fn H (ds ++ gs) = { results := [.lit (.bool true)], args := ds })
    (hk : Below W.heap.size W W') (hv : v = .bool true) : s.post enc P f false true false false W args v W' := by
  subst hv
  have hlt : ∀ p ∈ before, p.block < W.heap.size := fun p hp => by simpa using hW.lt p hp
  have hW0 := hW
  obtain ⟨p, q, hA, hV, rfl, hz, hn⟩ := hW
  rw [hsv] at hV
  obtain ⟨rfl, rfl⟩ : gs = [] ∧ q = [] := by
    cases gs with
    | nil => exact ⟨rfl, hV⟩
    | cons _ _ => exact hV.elim
  simp only [List.append_nil] at hlt hW0 hz hsf
  have hargs : ∀ sp : Nat → Bool, (∀ x ∈ p, sp x.block = true) → DataW.TrodAll enc P W' 0 sp true f.params.toList args.toList ds p := by
    intro sp hsp
    have key : ∀ (ts : List TypeId) (vs : List Value) (ds : List (DataW H)) (p : List MemPlace), (∀ t ∈ ts, P.readableRec t = true ∧ t < P.types.size) → (∀ x ∈ p, sp x.block = true) → (∀ x ∈ p, x.block < W.heap.size) →
        DataW.TrodAll enc P W 0 (fun _ => true) true ts vs ds p → DataW.TrodAll enc P W' 0 sp true ts vs ds p := by
      intro ts
      induction ts with
      | nil => intro vs ds p _ _ _ h; obtain ⟨rfl, rfl, rfl⟩ := trodAll_nil h; rfl
      | cons t ts ih =>
        intro vs ds p ht hs hlt h
        obtain ⟨v, vs', d, ds', a, b, rfl, rfl, rfl, h1, h2⟩ := trodAll_cons h
        exact ⟨a, b, WideElems.Trod_stays hl (ht t (by simp)).1 (ht t (by simp)).2 h1 (fun x hx => hk.same (hlt x (by simp [hx]))) (fun x hx => hs x (by simp [hx])), ih _ _ _ (fun u hu => ht u (by simp [hu])) (fun x hx => hs x (by simp [hx])) (fun x hx => hlt x (by simp [hx])) h2, rfl⟩
    exact key _ _ _ _ hts hsp hlt hA
  have hres : ∀ (b : Nat) (sp : Nat → Bool) (hd : Bool), DataW.TrodAll enc P W' b sp hd f.resultTypes.toList ((Value.bool true).resultList f.resultTypes.size) (s.fn H (ds ++ [])).results [] := by
    intro b sp hd
    rw [List.append_nil, hsf, hrt]
    exact trodAll_cons_mk (shut_bool hub _) trodAll_mk0
  have e1 : (s.fn H (ds ++ [])).args = ds := by rw [List.append_nil, hsf]
  have e2 : (s.fn H (ds ++ [])).vars = [] := by rw [List.append_nil, hsf]
  have hvars : ∀ sp : Nat → Bool, DataW.TrodVars enc P W' sp s.vars (s.fn H (ds ++ [])).vars [] := fun sp => by rw [hsv, e2]; rfl
  refine ⟨ds, [], p, [], p, [], hW0, hres _ _ _, by rw [e1]; exact hargs _ (fun x hx => by simpa using hlt x hx), hvars _, hk.frame _, fun h => by cases h⟩
theorem law_calls {f : FuncId} {fn : Func} {s : ChangeSpec} {F : List AV → Option (Prop × AV)} {args : Array Value} {ds gs : List (DataW H)} {before : List MemPlace} {tb : TypeId} {base : Nat}
    (hE : PSound P f (detE F)) (hl : laidOutB P = true) (hts : ∀ t ∈ fn.params.toList, plainR P t = true ∧ P.readableRec t = true ∧ t < P.types.size)
    (hrt : fn.resultTypes = #[tb]) (hub : P.underlying tb = some .bool) (hsv : s.vars = []) (hsf : ∀ l : List (DataW H), l.length = fn.params.toList.length → s.fn H l = { results := [.lit (.bool true)], args := l })
    (hF : ∀ as', TyArgs P fn.params.toList as' → ∃ p, F as' = some (p, mkB true) ∧ p) (hT : Tabs (fun _ => False) W)
    (hval : ∀ (j : Nat) t v, fn.params[j]? = some t → args[j]? = some v → Value.okWide P W .any base t v)
    (hW : DataW.Whole enc P fn.params.toList s.vars false W args.toList ds gs before) (hk : Rows.uptoBulkAll (ds ++ gs) ≤ 1048576) :
    Calls P f args W fun e W' => ∃ v, e = .returned v ∧ s.post enc P fn false true false false W args v W' := by
  have hW0 := hW
  obtain ⟨p, q, hA, hV, _, _, _⟩ := hW
  rw [hsv] at hV
  obtain ⟨rfl, _⟩ : gs = [] ∧ q = [] := by
    cases gs with
    | nil => exact ⟨rfl, hV⟩
    | cons _ _ => exact hV.elim
  rw [List.append_nil] at hk
  obtain ⟨as', e, ht, hr⟩ := open_args (fun t ht => (hts t ht).1) hA (fun j t v a b => hval j t v (by rw [← Array.getElem?_toList]; exact a) (by rw [← Array.getElem?_toList]; exact b)) hk
  obtain ⟨pp, hF1, hF2⟩ := hF as' ht
  have hcall := hE.call (fun _ => False) W as' args (fun av => av = mkB true) (fun b h => h.elim) hT (by rw [← e]; simp) (fun i h => by
    have := hr i h
    have e2 : args.toList.getD i undef = args.getD i undef := by simp [List.getD_eq_getElem?_getD, Array.getD_eq_getD_getElem?]
    rwa [e2] at this) (by simp only [detE, hF1]; exact ⟨hF2, trivial⟩)
  refine hcall.mono fun e W' ⟨v, av, he, hq, hv, hb⟩ => ⟨v, he, ?_⟩
  subst hq
  have hv : v = .bool true := by
    cases hv with | d hv => cases hv; rfl
  exact post_below hW0 hl (fun t ht => (hts t ht).2) hrt hub hsv (by rw [List.append_nil]; exact hsf ds (trod_len hA)) hb hv
end
mutual
def flatV : DataW Unit → List Value
  | .lit (.int k n) => [.int k n]
  | .lit (.bool b) => [.bool b]
  | .lit (.string l) => [.string ⟨l.toArray⟩]
  | .agg parts => flatVs parts
  | _ => []
def flatVs : List (DataW Unit) → List Value
  | [] => []
  | d :: l => flatV d ++ flatVs l
end
def layAll (P : Program) : List (String × DataW Unit) → World → World
  | [], w => w
  | (n, d) :: l, w => match P.globalNamed n with
    | some g => layAll P l { w with heap := w.heap.modify g fun | .cells _ t frozen => .cells (flatV d).toArray t frozen | o => o }
    | none => w
noncomputable def laidWorld (laid : List (String × DataW Unit)) (os : Os) : World := layAll Tryd.prog laid (World.holding Tryd.prog os ⟨#[], #[], []⟩)
theorem own : ownKnob Tryd.prog.godebug = none := by kernel_rfl
theorem laidOut : laidOutB Tryd.prog = true := by kernel_rfl
theorem bound {H : Type} {l : List (DataW H)} (hk : Rows.uptoSmall H l = true) : Rows.uptoBulkAll l ≤ 1048576 := by
  simpa [Rows.uptoSmall] using hk
end Go.Proofs.YtepkbbkfcnejmaaDoor
