import Derived.Test.YtldcalmoboeeiaaDoorAmUnr
set_option linter.unusedSimpArgs false
set_option linter.unusedVariables false
namespace Go.AM
open Go
/-- Parts of a code, one behind the other. -/
def piece (l : List (List Nat)) (c : Code) : Code := match l with
  | [] => .skip
  | p :: l => .seq (cAt p c) (piece l c)
/-- The same, and what follows. -/
def catC (l : List (List Nat)) (c r : Code) : Code := match l with
  | [] => r
  | p :: l => .seq (cAt p c) (catC l c r)
section
variable {K : TypeId → Option TK} {Γ : List (FuncId × En)} {n : Nat}
theorem unS_cat (c r : Code) (q : Kont) : ∀ (l : List (List Nat)) (s : S), aUnS K Γ n (piece l c) (kSeq (aUnS K Γ n r q) q) s = aUnS K Γ n (catC l c r) q s
  | [], s => rfl
  | p :: l, s => by
    show aUnS K Γ n (cAt p c) (kSeq (aUnS K Γ n (piece l c) (kSeq (aUnS K Γ n r q) q)) (kSeq (aUnS K Γ n r q) q)) s = aUnS K Γ n (cAt p c) (kSeq (aUnS K Γ n (catC l c r) q) q) s
    congr 1
    funext e s'
    cases e
    · exact unS_cat c r q l s'
    all_goals rfl
theorem unS_assoc (a b c : Code) (q : Kont) (s : S) : aUnS K Γ n (.seq (.seq a b) c) q s = aUnS K Γ n (.seq a (.seq b c)) q s := by
  show aUnS K Γ n a (kSeq (aUnS K Γ n b (kSeq (aUnS K Γ n c q) q)) (kSeq (aUnS K Γ n c q) q)) s = aUnS K Γ n a (kSeq (aUnS K Γ n b (kSeq (aUnS K Γ n c q) q)) q) s
  congr 1
  funext e s'
  cases e <;> rfl
theorem unS_assoc2 (r a b c : Code) (q : Kont) (s : S) : aUnS K Γ n (.seq r (.seq (.seq a b) c)) q s = aUnS K Γ n (.seq r (.seq a (.seq b c))) q s := by
  show aUnS K Γ n r (kSeq (aUnS K Γ n (.seq (.seq a b) c) q) q) s = aUnS K Γ n r (kSeq (aUnS K Γ n (.seq a (.seq b c)) q) q) s
  congr 1
  funext e s'
  cases e
  · exact unS_assoc a b c q s'
  all_goals rfl
theorem unS_loop (i : Nat) (c r : Code) (q : Kont) (s : S) : aUnS K Γ n (.seq (.block i (.loop c)) r) q s = aLoopN (aUnS K Γ n c) (kBlk i (kSeq (aUnS K Γ n r q) q)) n s := rfl
end
section
variable {P : Program}
/-- Two codes, one behind the other; between them rows are sealed, slots and objects forgotten. -/
def seqF (A B : Kont → S → Prop) : Kont → S → Prop := fun q s => A (kSeq (fun s' => ∃ rs s1, (sealAll rs s').le s1 ∧ B q s1) q) s
theorem seq_bsound {a b : Code} {A B : Kont → S → Prop} (ha : BSound P a A) (hb : BSound P b B) : BSound P (.seq a b) (seqF A B) := fun {w0 own0 X s act q} hs h => by
  refine wp_seq (wp_mono (ha hs h) fun e a' w' hq => ?_)
  cases e with
  | normal =>
    obtain ⟨X', s', rfl, hs', rs, s1, hle, hk⟩ := hq
    obtain ⟨Y1, e1, hs2⟩ := sealAll_srel rs hs'
    obtain ⟨Y2, e2, hs3⟩ := hs2.le hle
    have := hb hs3 hk
    rwa [e2, e1] at this
  | exit i => exact hq
  | ret => exact hq
  | goto l => exact hq.elim
  | panic ch => exact hq.elim
  | outgrown => exact hq.elim
/-- The same without forgetting. -/
theorem seq_bsound0 {a b : Code} {A B : Kont → S → Prop} (ha : BSound P a A) (hb : BSound P b B) : BSound P (.seq a b) (fun q s => A (kSeq (B q) q) s) := fun {w0 own0 X s act q} hs h => by
  refine wp_seq (wp_mono (ha hs h) fun e a' w' hq => ?_)
  cases e with
  | normal =>
    obtain ⟨X', s', rfl, hs', hk⟩ := hq
    exact hb hs' hk
  | exit i => exact hq
  | ret => exact hq
  | goto l => exact hq.elim
  | panic ch => exact hq.elim
  | outgrown => exact hq.elim
end
section
variable {K : TypeId → Option TK} {Γ : List (FuncId × En)}
theorem seq_eq {a b : Code} {q : Kont} {s : S} (ha : cutB K a = false) : aCode K Γ (.seq a b) q s = aCode K Γ a (kSeq (aCode K Γ b q) q) s := by
  simp only [aCode, ha]
/-- Two parts of a code, walked with what follows them held open. -/
theorem code_pair {a b : Code} {F : S → Prop} {q : Kont} {s : S} (h : aCode K Γ (.seq a (.seq b .skip)) (kSeq F q) s) (ha : cutB K a = false := by kernel_rfl) (hb : cutB K b = false := by kernel_rfl) : aCode K Γ a (kSeq (aCode K Γ b (kSeq F q)) q) s := by
  have e2 : kSeq (aCode K Γ .skip (kSeq F q)) (kSeq F q) = kSeq F q := by funext x s; cases x <;> rfl
  have e1 : kSeq (aCode K Γ (.seq b .skip) (kSeq F q)) (kSeq F q) = kSeq (aCode K Γ b (kSeq F q)) q := by
    funext x s
    cases x
    · show aCode K Γ (.seq b .skip) (kSeq F q) s = aCode K Γ b (kSeq F q) s
      rw [seq_eq hb, e2]
    all_goals rfl
  rw [seq_eq ha, e1] at h
  exact h
end
/-- A value that says no more than another, nil being told as the empty slice wherever it stands. -/
inductive LeN : AV → AV → Prop
  | refl (x : AV) : LeN x x
  | nil : LeN .nl (.d (.sl []))
  | ag {l r : List AV} (hl : l.length = r.length) (h : ∀ (i : Nat) (h1 : i < l.length) (h2 : i < r.length), LeN l[i] r[i]) : LeN (.ag l) (.ag r)
  | tp {l r : List AV} (hl : l.length = r.length) (h : ∀ (i : Nat) (h1 : i < l.length) (h2 : i < r.length), LeN l[i] r[i]) : LeN (.tp l) (.tp r)
theorem LeN.rel {X : Cx} {x y : AV} (h : LeN x y) : ∀ {v : Value}, VRel X x v → VRel X y v := by
  induction h with
  | refl x => exact fun h => h
  | nil => intro v hv; rw [inv_nl hv]; exact .d .nil
  | ag hl _ ih =>
    intro v hv
    obtain ⟨arr, rfl, h1, h2⟩ := inv_ag hv
    exact .ag (h1.trans hl) fun j hj => ih j (by omega) hj (h2 j (by omega))
  | tp hl _ ih =>
    intro v hv
    obtain ⟨arr, rfl, h1, h2⟩ := inv_tp hv
    exact .tp (h1.trans hl) fun j hj => ih j (by omega) hj (h2 j (by omega))
theorem leN_ag2 {a b c d : AV} (h1 : LeN a c) (h2 : LeN b d) : LeN (.ag [a, b]) (.ag [c, d]) := .ag rfl fun i h _ => by
  match i, h with
  | 0, _ => exact h1
  | 1, _ => exact h2
theorem leN_tp2 {a b c d : AV} (h1 : LeN a c) (h2 : LeN b d) : LeN (.tp [a, b]) (.tp [c, d]) := .tp rfl fun i h _ => by
  match i, h with
  | 0, _ => exact h1
  | 1, _ => exact h2
def trimN (q : AV → List Ob → Prop) (av : AV) (o : List Ob) : Prop := ∃ av2 o2, LeN av av2 ∧ leO o o2 ∧ (av2.fits o2.length && o2.all (Ob.fits o2.length)) = true ∧ q av2 o2
theorem trimN_ok : TrimOk trimN := fun q w0 own0 Y s a av v hs hv h => by
  obtain ⟨av2, o2, h0, h1, h2, h3⟩ := h
  obtain ⟨o3, Y', ⟨_, rfl, _⟩, e2, e3, e4⟩ := trim_srel (q := fun x o => x = av2 ∧ o = o2 ∧ q av2 o2) hs (h0.rel hv) ⟨o2, h1, h2, rfl, rfl, h3⟩
  exact ⟨av2, _, Y', h3, e2, e3, e4⟩
/-- As trimN; rows may be sealed first. -/
def trimM (q : AV → List Ob → Prop) (av : AV) (o : List Ob) : Prop := ∃ rs, match sealAll rs ⟨[av], o⟩ with
  | ⟨[x], o1⟩ => trimN q x o1
  | _ => False
theorem trimM_ok : TrimOk trimM := fun q w0 own0 Y s a av v hs hv h => by
  obtain ⟨rs, h⟩ := h
  have hs1 : SRel w0 own0 Y ⟨[av], s.o⟩ { tmps := #[v], defers := [] } := ⟨rfl, fun i hi => by
    have : i = 0 := by simpa using hi
    subst this
    exact hv, rfl, hs.g, hs.ext, hs.fr, hs.new, hs.gh, hs.tab⟩
  obtain ⟨Y1, e1, hs2⟩ := sealAll_srel rs hs1
  split at h
  · rename_i x o1 e
    rw [e] at hs2
    obtain ⟨av2, o2, Y', q1, q2, q3, q4⟩ := trimN_ok q w0 own0 Y1 ⟨[x], o1⟩ _ x v hs2 (hs2.slot 0 (by simp)) h
    exact ⟨av2, o2, Y', q1, q2.trans e1, q3, q4⟩
  · exact h.elim
end Go.AM
