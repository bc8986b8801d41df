import Derived.Test.YtchpfeblinnoiaaGreatDoorAmNew
set_option linter.unusedSimpArgs false
set_option linter.unusedVariables false
set_option linter.unnecessarySimpa false
namespace Go.AM
open Go.RowKit
def Ob.renT (fv fr : Nat → Option Nat) : Ob → Ob
  | .gh _ => .gone
  | x => x.ren fv fr
theorem renT_live (fv fr : Nat → Option Nat) (ob : Ob) : (ob.renT fv fr).live = ob.live := by
  cases ob with
  | map kk ents => exact ren_live fv fr (.map kk ents)
  | _ => rfl
def mapI (f : Nat → Ob → Ob) : Nat → List Ob → List Ob
  | _, [] => []
  | k, x :: l => f k x :: mapI f (k + 1) l
theorem mapI_len (f : Nat → Ob → Ob) : ∀ (k : Nat) (l : List Ob), (mapI f k l).length = l.length
  | k, [] => rfl
  | k, x :: l => by simp [mapI, mapI_len f (k + 1) l]
theorem mapI_get (f : Nat → Ob → Ob) : ∀ (k : Nat) (l : List Ob) (i : Nat), (mapI f k l)[i]? = (l[i]?).map (f (k + i))
  | k, [], i => by simp [mapI]
  | k, x :: l, 0 => by simp [mapI]
  | k, x :: l, i + 1 => by simp [mapI, mapI_get f (k + 1) l i, Nat.add_comm, Nat.add_left_comm]
mutual
def AV.refs : AV → List Nat
  | .vw r _ => [r]
  | .rf i _ => [i]
  | .rp r _ _ _ => [r]
  | .mp i => [i]
  | .ag cs => refsL cs
  | .tp cs => refsL cs
  | .fn _ fs cs => refsL fs ++ refsL cs
  | .opt _ x => x.refs
  | _ => []
def refsL : List AV → List Nat
  | [] => []
  | x :: l => x.refs ++ refsL l
end
def Ob.refs : Ob → List Nat
  | .box cs => refsL cs
  | .map kk ents => match kk.isSy with
    | true => []
    | false => refsL (ents.map fun e => e.2)
  | _ => []
def clos (o : List Ob) : Nat → List Nat → List Nat → List Nat
  | 0, _, done => done
  | _ + 1, [], done => done
  | n + 1, i :: todo, done => match posOf done i with
    | some _ => clos o n todo done
    | none => match o[i]? with
      | some (.gh _) => clos o n todo done
      | some .gone => clos o n todo done
      | some ob => clos o n (ob.refs ++ todo) (done ++ [i])
      | none => clos o n todo done
mutual
def AV.anch (vb : Bool) : AV → List AV
  | .rf i off => [.rf i off]
  | .mp i => [.mp i]
  | .vw r n => match vb with | true => [.vw r n] | false => []
  | .fn _ fs cs => anchL vb fs ++ anchL vb cs
  | _ => []
def anchL (vb : Bool) : List AV → List AV
  | [] => []
  | x :: l => x.anch vb ++ anchL vb l
end
theorem anchL_eq (vb : Bool) : ∀ l, anchL vb l = l.flatMap (AV.anch vb)
  | [] => rfl
  | x :: l => by simp [anchL, anchL_eq vb l]
def anchored (A : List AV) (i : Nat) : Bool := A.any fun x => match x with | .rf j _ => j == i | .mp j => j == i | _ => false
def anchoredV (A : List AV) (i : Nat) : Bool := A.any fun x => match x with | .vw j _ => j == i | _ => false
def outF (fp : List Nat) (n q : Nat) : Option Nat := some (if q < fp.length then fp.getD q 0 else n + (q - fp.length))
def stayV (fp : List Nat) (A : List AV) (i : Nat) : Option Nat := match posOf fp i with
  | none => some i
  | some _ => match anchoredV A i with | true => some i | false => none
def stayR (fp : List Nat) (A : List AV) (i : Nat) : Option Nat := match posOf fp i with
  | none => some i
  | some _ => match anchored A i with | true => some i | false => none
def stayO (fp : List Nat) (A : List AV) (i : Nat) (ob : Ob) : Ob := match posOf fp i with
  | some _ => .gone
  | none => ob.ren (stayV fp A) (stayR fp A)
def mergeO (fp : List Nat) (A : List AV) (o oN : List Ob) : List Ob :=
  mapI (fun i ob => match posOf fp i with
    | some p => ((oN[p]?).getD .gone).renT (outF fp o.length) (outF fp o.length)
    | none => ob.ren (stayV fp A) (stayR fp A)) 0 o ++ (oN.drop fp.length).map (Ob.renT (outF fp o.length) (outF fp o.length))
def keepLen (fp : List Nat) (o oN : List Ob) : List AV → Prop → Prop
  | [], q => q
  | .vw r _ :: l, q => match posOf fp r with
    | some p => match o[r]?, oN[p]? with
      | some (.row _ es), some (.row _ es') => es.length = es'.length ∧ keepLen fp o oN l q
      | _, _ => False
    | none => keepLen fp o oN l q
  | _ :: l, q => keepLen fp o oN l q
theorem keepLen_spec {fp : List Nat} {o oN : List Ob} {q : Prop} : ∀ {l : List AV}, keepLen fp o oN l q → q ∧ ∀ r n p, AV.vw r n ∈ l → posOf fp r = some p → ∃ sz es sz' es', o[r]? = some (.row sz es) ∧ oN[p]? = some (.row sz' es') ∧ es.length = es'.length
  | [], h => ⟨h, fun r n p hm => absurd hm (by simp)⟩
  | x :: l, h => by
    have go : keepLen fp o oN l q → (∀ r n p, x = AV.vw r n → posOf fp r = some p → ∃ sz es sz' es', o[r]? = some (.row sz es) ∧ oN[p]? = some (.row sz' es') ∧ es.length = es'.length) → q ∧ ∀ r n p, AV.vw r n ∈ x :: l → posOf fp r = some p → ∃ sz es sz' es', o[r]? = some (.row sz es) ∧ oN[p]? = some (.row sz' es') ∧ es.length = es'.length := fun h hx => by
      obtain ⟨h1, h2⟩ := keepLen_spec h
      refine ⟨h1, fun r n p hm hp => ?_⟩
      rcases List.mem_cons.1 hm with e | hm
      · exact hx r n p e.symm hp
      · exact h2 r n p hm hp
    cases x with
    | vw r n =>
      simp only [keepLen] at h
      split at h
      · rename_i p hp
        split at h
        · rename_i sz es sz' es' h1 h2
          refine go h.2 fun r' n' p' e hp' => ?_
          cases e
          rw [hp] at hp'; cases hp'
          exact ⟨_, _, _, _, h1, h2, h.1⟩
        · exact h.elim
      · rename_i hp
        refine go h fun r' n' p' e hp' => ?_
        cases e
        rw [hp] at hp'; cases hp'
    | _ => exact go (by simpa only [keepLen] using h) fun _ _ _ e => by cases e
def boxA (hb : Bool) (fp : List Nat) (o : List Ob) : List AV := match hb with
  | true => fp.flatMap fun i => match (o[i]? : Option Ob) with
    | some (Ob.box cs) => anchL false cs
    | _ => []
  | false => []
def bunsO : List Ob → Nat → List Nat
  | [], _ => []
  | .bun _ :: l, i => i :: bunsO l (i + 1)
  | _ :: l, i => bunsO l (i + 1)
def isMp (i : Nat) : AV → Bool
  | .mp j => Nat.beq j i
  | _ => false
def hasMp (i : Nat) : List Ob → Bool
  | [] => false
  | .box cs :: l => cs.any (isMp i) || hasMp i l
  | .gh cs :: l => cs.any (isMp i) || hasMp i l
  | _ :: l => hasMp i l
def mpsO (o : List Ob) : List Nat → List AV
  | [] => []
  | i :: l => match hasMp i o with | true => .mp i :: mpsO o l | false => mpsO o l
def bunA (bb : Bool) (o : List Ob) : List AV := match bb with
  | true => mpsO o (bunsO o 0)
  | false => []
def ghA (vb hb bb : Bool) (args : List AV) (o : List Ob) : List AV := anchL vb args ++ (boxA hb (clos o 64 (refsL args) []) o ++ bunA bb o)
theorem hasMp_spec {i : Nat} : ∀ {o : List Ob}, hasMp i o = true → ∃ (k : Nat) (cs : List AV), (o[k]? = some (Ob.box cs) ∨ o[k]? = some (Ob.gh cs)) ∧ AV.mp i ∈ cs
  | [], h => by cases h
  | ob :: l, h => by
    have go : hasMp i l = true → ∃ (k : Nat) (cs : List AV), ((ob :: l)[k]? = some (Ob.box cs) ∨ (ob :: l)[k]? = some (Ob.gh cs)) ∧ AV.mp i ∈ cs := fun h => by
      obtain ⟨k, cs, h1, h2⟩ := hasMp_spec h
      exact ⟨k + 1, cs, by simpa using h1, h2⟩
    have hit : ∀ cs : List AV, cs.any (isMp i) = true → AV.mp i ∈ cs := fun cs h => by
      obtain ⟨x, hx, h⟩ := List.any_eq_true.1 h
      cases x <;> simp [isMp] at h
      subst h
      exact hx
    cases ob with
    | box cs =>
      simp only [hasMp, Bool.or_eq_true] at h
      rcases h with h | h
      · exact ⟨0, cs, .inl rfl, hit cs h⟩
      · exact go h
    | gh cs =>
      simp only [hasMp, Bool.or_eq_true] at h
      rcases h with h | h
      · exact ⟨0, cs, .inr rfl, hit cs h⟩
      · exact go h
    | _ => exact go h
theorem mpsO_spec {o : List Ob} {x : AV} : ∀ {l : List Nat}, x ∈ mpsO o l → ∃ i, x = .mp i ∧ hasMp i o = true
  | [], h => by cases h
  | i :: l, h => by
    simp only [mpsO] at h
    split at h
    · rename_i hh
      rcases List.mem_cons.1 h with rfl | h
      · exact ⟨i, rfl, hh⟩
      · exact mpsO_spec h
    · exact mpsO_spec h
def frameH (cl : List AV → List Ob → List Nat) (vb hb bb : Bool) (E : List AV → List Ob → (AV → List Ob → Prop) → Prop) (args : List AV) (o : List Ob) (q : AV → List Ob → Prop) : Prop :=
  chk (fpOK o (cl args o) && (inO (cl args o) o).all Ob.firmO && (mapI (stayO (cl args o) (ghA vb hb bb args o)) 0 o).all Ob.firmO) <|
    E (renL (posOf (cl args o)) (posOf (cl args o)) args) (inO (cl args o) o ++ [.gh (renL (posOf (cl args o)) (posOf (cl args o)) (ghA vb hb bb args o))]) fun av oN =>
      oN[(cl args o).length]? = some (.gh (renL (posOf (cl args o)) (posOf (cl args o)) (ghA vb hb bb args o))) ∧
        keepLen (cl args o) o oN (ghA vb hb bb args o) (q (av.ren (outF (cl args o) o.length) (outF (cl args o) o.length)) (mergeO (cl args o) (ghA vb hb bb args o) o oN))
def frameG (vb hb : Bool) := frameH (fun args o => clos o 64 (refsL args) []) vb hb false
def frameE := frameG false false
def frameV := frameG true false
theorem outF_total (fp : List Nat) (n q : Nat) : ∃ j, outF fp n q = some j := ⟨_, rfl⟩
mutual
theorem ren_firm {f : Nat → Option Nat} (ht : ∀ q, ∃ j, f q = some j) : ∀ {x : AV} (h : x.firm = true), (x.ren f f).firm = true
  | .d _, h => rfl
  | .rf i off, h => by obtain ⟨j, hj⟩ := ht i; simp [AV.ren, hj, AV.firm]
  | .mp i, h => by obtain ⟨j, hj⟩ := ht i; simp [AV.ren, hj, AV.firm]
  | .nl, h => rfl
  | .fn g fs cs, h => by
    simp only [AV.firm, Bool.and_eq_true] at h
    simp only [AV.ren, AV.firm, Bool.and_eq_true]
    exact ⟨ren_firmL ht h.1, ren_firmL ht h.2⟩
  | .ag cs, h => by
    simp only [AV.firm] at h
    simp only [AV.ren, AV.firm]
    exact ren_firmL ht h
  | .vw _ _, h => by cases h
  | .rp _ _ _ _, h => by cases h
  | .ep _, h => by cases h
  | .tp _, h => by cases h
  | .opt _ _, h => by cases h
  | .jk, h => by cases h
theorem ren_firmL {f : Nat → Option Nat} (ht : ∀ q, ∃ j, f q = some j) : ∀ {l : List AV} (h : firmL l = true), firmL (renL f f l) = true
  | [], h => rfl
  | x :: l, h => by
    simp only [firmL, Bool.and_eq_true] at h
    simp only [renL, firmL, Bool.and_eq_true]
    exact ⟨ren_firm ht h.1, ren_firmL ht h.2⟩
end
theorem ORel.renT {X X' : Cx} {f : Nat → Option Nat} (ht : ∀ q, ∃ j, f q = some j) (hk : Keeps X.own X.w X'.own X'.w)
    (hv : ∀ i j, f i = some j → i < X.n → j < X'.n ∧ X'.b j = X.b i ∧ X'.c j = X.c i ∧ X'.z j = X.z i ∧ X'.rw j = X.rw i) {i j : Nat} (hi : i < X.n) (hij : f i = some j) {ob : Ob}
    (hheap : ob.live = true → X.z i = false → ∀ c, X.blk i c → X'.w.heap[c]? = X.w.heap[c]?) (h : ORel X i ob) : ORel X' j (ob.renT f f) := by
  obtain ⟨_, a1, a2, a3, a4⟩ := hv i j hij hi
  have go : (ob.ren f f).firmO = true → ORel X' j (ob.ren f f) := fun hf =>
    ORel.ren hk (fun i j h1 h2 => let ⟨p0, p1, p2, p3, _⟩ := hv i j h1 h2; ⟨p0, p3, fun _ => ⟨p1, by rw [p2], by rw [p2]⟩⟩) (fun i j h1 h2 h3 => let ⟨p0, p1, _, _, p4⟩ := hv i j h1 h2; ⟨p0, p1, p4.trans h3⟩) (fun i j h1 _ h2 => (hv i j h1 h2).2.1) ⟨a1, a2, a3⟩ (fun _ => a4.symm) hheap hf h
  cases ob with
  | box cs => exact go rfl
  | row sz es => exact go rfl
  | gone => trivial
  | gh cs => trivial
  | bun R => exact go rfl
  | pow es =>
    refine go ?_
    obtain ⟨_, _, p2, _⟩ := h
    simp only [Ob.ren, Ob.firmO, renL_eq, List.all_map, List.all_eq_true, Function.comp]
    intro x hx
    rw [Bool.and_eq_true]
    refine ⟨ren_firm ht (p2 x hx).1, ?_⟩
    have h1 := p2 x hx
    cases x with
    | rf i off =>
      obtain ⟨j, hj⟩ := ht i
      simp only [AV.ren, hj]; rfl
    | mp i =>
      obtain ⟨j, hj⟩ := ht i
      simp only [AV.ren, hj]; rfl
    | d _ => rfl
    | nl => rfl
    | fn f a b => rfl
    | _ => simp [AV.one] at h1
  | map kk ents =>
    refine go ?_
    obtain ⟨_, _, me, _, _, h2, _, _, h5⟩ := h
    cases hsy : kk.isSy with
    | true => simp [Ob.ren, Ob.firmO, hsy]
    | false =>
    simp only [Ob.ren, Ob.firmO, hsy, Bool.false_or, List.all_map, List.all_eq_true]
    intro e he
    obtain ⟨k, hk, rfl⟩ := List.getElem_of_mem he
    exact ren_firm ht (h5 k hk (by omega)).2.1
def anchV (X : Cx) : AV → Value
  | .rf i off => .pointer (some ⟨X.b i, off, none⟩)
  | .mp i => .map (some (X.b i))
  | .vw r n => match X.z r with | true => .slice none 0 0 | false => .slice (some ⟨X.b r, 0, none⟩) n (X.c r).1
  | _ => undef
theorem anch_rel (vb : Bool) {X : Cx} {x : AV} {v : Value} (h : VRel X x v) : ∀ y ∈ x.anch vb, VRel X y (anchV X y) := by
  induction h with
  | rf h hr => intro y hy; simp only [AV.anch, List.mem_singleton] at hy; subst hy; exact .rf h hr
  | mp h hr => intro y hy; simp only [AV.anch, List.mem_singleton] at hy; subst hy; exact .mp h hr
  | vw h hz hc =>
    intro y hy
    cases vb <;> simp only [AV.anch, List.not_mem_nil, List.mem_singleton] at hy
    subst hy
    simp only [anchV, hz]
    exact .vw h hz hc
  | vz h hz =>
    intro y hy
    cases vb <;> simp only [AV.anch, List.not_mem_nil, List.mem_singleton] at hy
    subst hy
    simp only [anchV, hz]
    exact .vz h hz
  | fn h1 h2 _ _ ih1 ih2 =>
    intro y hy
    simp only [AV.anch, anchL_eq, List.mem_append, List.mem_flatMap] at hy
    rcases hy with ⟨z, hz, hy⟩ | ⟨z, hz, hy⟩
    · obtain ⟨i, hi, rfl⟩ := List.getElem_of_mem hz; exact ih1 i hi y hy
    · obtain ⟨i, hi, rfl⟩ := List.getElem_of_mem hz; exact ih2 i hi y hy
  | _ => intro y hy; simp [AV.anch] at hy
theorem live_ren_gh {fv fr : Nat → Option Nat} {ob : Ob} {cs : List AV} (hl : ob.live = true) (h : Ob.gh cs = ob.ren fv fr) : False := by
  cases ob <;> simp [Ob.ren] at h <;> try (split at h <;> cases h)
  cases hl
set_option maxHeartbeats 2000000 in
theorem RSound.frameH {P : Program} {f : FuncId} {E : List AV → List Ob → (AV → List Ob → Prop) → Prop} (h : RSound P f E) (cl : List AV → List Ob → List Nat) (vb hb bb : Bool) : RSound P f (frameH cl vb hb bb E) := by
  refine ⟨h.enter, fun X o gv as vs q g hgh hT hlen hrel hE => ?_⟩
  unfold Go.AM.frameH at hE
  have hanch0 : ∀ x ∈ ghA vb hb bb as o, VRel X x (anchV X x) := by
    intro x hx
    rcases List.mem_append.1 hx with hx | hx
    · rw [anchL_eq, List.mem_flatMap] at hx
      obtain ⟨y, hy, hx⟩ := hx
      obtain ⟨i, hi, rfl⟩ := List.getElem_of_mem hy
      exact anch_rel vb (hrel i hi) x hx
    rcases List.mem_append.1 hx with hx | hx
    · unfold boxA at hx
      split at hx
      · obtain ⟨i, hi, hx⟩ := List.mem_flatMap.1 hx
        split at hx
        · rename_i cs ho
          obtain ⟨_, arr, T, h1, h2, h3⟩ := g.rel i _ ho
          rw [anchL_eq, List.mem_flatMap] at hx
          obtain ⟨y, hy, hx⟩ := hx
          obtain ⟨k, hk, rfl⟩ := List.getElem_of_mem hy
          exact anch_rel false (h3 k hk) x hx
        · cases hx
      · cases hx
    · unfold bunA at hx
      split at hx
      · obtain ⟨i, rfl, hm⟩ := mpsO_spec hx
        obtain ⟨k, cs, ho, hm⟩ := hasMp_spec hm
        obtain ⟨j, hj, e⟩ := List.getElem_of_mem hm
        rcases ho with ho | ho
        · obtain ⟨_, arr, T, h1, h2, h3⟩ := g.rel k _ ho
          have := h3 j hj
          rw [e] at this
          exact anch_rel false this _ (by simp [AV.anch])
        · have := (hgh k cs ho).2 j hj
          rw [e] at this
          exact anch_rel false this _ (by simp [AV.anch])
      · cases hx
  generalize ghA vb hb bb as o = A at hE hanch0
  generalize cl as o = fp at hE
  obtain ⟨hc, hE⟩ := chk_iff.1 hE
  simp only [Bool.and_eq_true] at hc
  obtain ⟨⟨hfp, hfin⟩, hfst⟩ := hc
  obtain ⟨hnd, hlive⟩ := fpOK_spec hfp
  have hlt : ∀ i ∈ fp, i < X.n := fun i hi => by
    obtain ⟨ob, h1, _⟩ := hlive i hi
    rw [g.n]; exact lt_of_get h1
  let obj' : Nat → Prop := fun b => ∃ i, i ∈ fp ∧ X.z i = false ∧ X.blk i b
  have hobj : ∀ b, obj' b → X.obj b := fun b ⟨i, hi, hz, hb⟩ => by
    obtain ⟨ob, h1, h2⟩ := hlive i hi
    exact (g.obj b).2 ⟨i, ob, h1, h2, hz, hb⟩
  have hext : ∀ b, X.ext b → ¬ obj' b := fun b hx ⟨i, hi, hz, hb⟩ => by
    obtain ⟨ob, h1, h2⟩ := hlive i hi
    exact g.ext2B i ob h1 h2 hz b hb hx
  let X1 : Cx := { b := fun p => X.b (fp.getD p 0), c := fun p => X.c (fp.getD p 0), z := fun p => X.z (fp.getD p 0), rw := fun p => X.rw (fp.getD p 0), n := fp.length + 1, obj := obj', ext := fun b => X.own b ∧ ¬ obj' b, w := X.w }
  have hown1 : ∀ b, X1.own b → X.own b := fun b hb => hb.elim (fun h => .inl (hobj b h)) (fun h => h.1)
  have hk1 : Keeps X.own X.w X1.own X1.w := ⟨Nat.le_refl _, fun b _ hb => ⟨rfl, fun hh => hb (hown1 b hh)⟩⟩
  have getD1 : ∀ {p i : Nat}, fp[p]? = some i → fp.getD p 0 = i := fun {p i} h => by rw [List.getD_eq_getElem?_getD, h]; rfl
  have plt : ∀ {p i : Nat}, fp[p]? = some i → p < fp.length := fun {p i} h => (List.getElem?_eq_some_iff.1 h).1
  have hv1 : ∀ i j, posOf fp i = some j → i < X.n → j < X1.n ∧ X1.b j = X.b i ∧ X1.c j = X.c i ∧ X1.z j = X.z i := fun i j hp _ => by
    have hg := posOf_some hp
    have e := getD1 hg
    have := plt hg
    exact ⟨by show j < fp.length + 1; omega, by show X.b (fp.getD j 0) = _; rw [e], by show X.c (fp.getD j 0) = _; rw [e], by show X.z (fp.getD j 0) = _; rw [e]⟩
  have hv1' : ∀ i j, posOf fp i = some j → i < X.n → j < X1.n ∧ X1.z j = X.z i ∧ (X.z i = false → X1.b j = X.b i ∧ (X1.c j).1 = (X.c i).1 ∧ (X1.c j).2 = (X.c i).2) := fun i j h1 h2 => let ⟨p0, p1, p2, p3⟩ := hv1 i j h1 h2; ⟨p0, p3, fun _ => ⟨p1, by rw [p2], by rw [p2]⟩⟩
  have hp1 : ∀ i j, posOf fp i = some j → posOf fp i = some j → i < X.n → X1.b j = X.b i := fun i j h1 _ h2 => (hv1 i j h1 h2).2.1
  have hr1 : ∀ i j, posOf fp i = some j → i < X.n → X.rw i = false → j < X1.n ∧ X1.b j = X.b i ∧ X1.rw j = false := fun i j hp hi hrw => by
    have e := getD1 (posOf_some hp)
    obtain ⟨a, b, _⟩ := hv1 i j hp hi
    exact ⟨a, b, by show X.rw (fp.getD j 0) = _; rw [e]; exact hrw⟩
  have get1 : ∀ k x, (inO fp o ++ [Ob.gh (renL (posOf fp) (posOf fp) A)])[k]? = some x → (∃ i ob, fp[k]? = some i ∧ o[i]? = some ob ∧ ob.live = true ∧ x = ob.ren (posOf fp) (posOf fp)) ∨ (k = fp.length ∧ x = .gh (renL (posOf fp) (posOf fp) A)) := by
    intro k x hx
    rcases get_append_one hx with ⟨h1, h2⟩ | ⟨h1, h2⟩
    · left
      simp only [inO, List.getElem?_map, Option.map_eq_some_iff] at h2
      obtain ⟨i, hi, rfl⟩ := h2
      obtain ⟨ob, h3, h4⟩ := hlive i (List.mem_of_getElem? hi)
      exact ⟨i, ob, hi, h3, h4, by rw [h3]; rfl⟩
    · right
      exact ⟨by simpa [inO] using h1, h2⟩
  have mem1 : ∀ {k i : Nat} {ob : Ob}, fp[k]? = some i → o[i]? = some ob → (inO fp o ++ [Ob.gh (renL (posOf fp) (posOf fp) A)])[k]? = some (ob.ren (posOf fp) (posOf fp)) := fun {k i ob} hi ho => by
    rw [List.getElem?_append_left (by simpa [inO] using plt hi)]
    simp only [inO, List.getElem?_map, hi, Option.map_some, ho, Option.getD_some]
  have bk : ∀ {k i : Nat}, fp[k]? = some i → ∀ b, X1.blk k b ↔ X.blk i b := fun {k i} h b => Cx.blk_eq (X := X) (X' := X1) (by show X.b (fp.getD k 0) = _; rw [getD1 h]) (by show X.c (fp.getD k 0) = _; rw [getD1 h])
  have zk : ∀ {k i : Nat}, fp[k]? = some i → X1.z k = X.z i := fun {k i} h => by show X.z (fp.getD k 0) = _; rw [getD1 h]
  have g1 : GRel X1 (inO fp o ++ [.gh (renL (posOf fp) (posOf fp) A)]) := by
    refine ⟨by simp [inO, X1], fun b => ?_, fun k l x y h1 h2 l1 l2 z1 z2 b b1 b2 => ?_, fun k x h1 l1 z1 b b1 => ?_, fun b hb => ?_, fun k x h1 l1 z1 b b1 => ?_, fun k sz es h1 => ?_, fun k x h1 => ?_⟩
    · constructor
      · rintro ⟨i, hi, hz, hb⟩
        obtain ⟨ob, h1, h2⟩ := hlive i hi
        obtain ⟨k, hk, rfl⟩ := List.getElem_of_mem hi
        have hk' : fp[k]? = some fp[k] := List.getElem?_eq_getElem hk
        exact ⟨k, _, mem1 hk' h1, by rw [ren_live]; exact h2, (zk hk').trans hz, (bk hk' b).2 hb⟩
      · rintro ⟨k, x, h1, h2, h3, h4⟩
        rcases get1 k x h1 with ⟨i, ob, e1, e2, e3, rfl⟩ | ⟨_, rfl⟩
        · exact ⟨i, List.mem_of_getElem? e1, (zk e1).symm.trans h3, (bk e1 b).1 h4⟩
        · cases h2
    · rcases get1 k x h1 with ⟨i, ob, e1, e2, e3, rfl⟩ | ⟨_, rfl⟩
      · rcases get1 l y h2 with ⟨j, ob', f1, f2, f3, rfl⟩ | ⟨_, rfl⟩
        · have hij := g.injB i j ob ob' e2 f2 e3 f3 ((zk e1).symm.trans z1) ((zk f1).symm.trans z2) b ((bk e1 b).1 b1) ((bk f1 b).1 b2)
          subst hij
          have p1 := posOf_get hnd e1
          have p2 := posOf_get hnd f1
          rw [p1] at p2
          exact Option.some.inj p2
        · cases l2
      · cases l1
    · rcases get1 k x h1 with ⟨i, ob, e1, e2, e3, rfl⟩ | ⟨_, rfl⟩
      · exact g.ltB i ob e2 e3 ((zk e1).symm.trans z1) b ((bk e1 b).1 b1)
      · cases l1
    · exact hb.1.elim g.lt' (g.ext1 b)
    · rcases get1 k x h1 with ⟨i, ob, e1, e2, e3, rfl⟩ | ⟨_, rfl⟩
      · rintro ⟨_, hh⟩
        exact hh ⟨i, List.mem_of_getElem? e1, (zk e1).symm.trans z1, (bk e1 b).1 b1⟩
      · cases l1
    · rcases get1 k _ h1 with ⟨i, ob, e1, e2, e3, e4⟩ | ⟨_, e4⟩
      · have d1 := getD1 e1
        show X.rw (fp.getD k 0) = true
        rw [d1]
        cases ob <;> simp [Ob.ren] at e4 <;> try (split at e4 <;> cases e4)
        exact g.rws i _ _ e2
      · cases e4
    · rcases get1 k x h1 with ⟨i, ob, e1, e2, e3, rfl⟩ | ⟨_, rfl⟩
      · have d1 := getD1 e1
        have hf : (ob.ren (posOf fp) (posOf fp)).firmO = true := by
          have : ob.ren (posOf fp) (posOf fp) ∈ inO fp o := List.mem_map.2 ⟨i, List.mem_of_getElem? e1, by rw [e2]; rfl⟩
          exact List.all_eq_true.1 hfin _ this
        exact ORel.ren hk1 hv1' hr1 hp1 ⟨by show X.b (fp.getD k 0) = _; rw [d1], by show X.c (fp.getD k 0) = _; rw [d1], by show X.z (fp.getD k 0) = _; rw [d1]⟩ (fun _ => by show _ = X.rw (fp.getD k 0); rw [d1]) (fun _ _ _ _ => rfl) hf (g.rel i ob e2)
      · trivial
  -- the references among the arguments
  have hanch := hanch0
  have hgh1 : GhRel X1 (inO fp o ++ [.gh (renL (posOf fp) (posOf fp) A)]) (fun _ => A.map (anchV X)) := by
    intro k cs hk
    rcases get1 k _ hk with ⟨i, ob, e1, e2, e3, e4⟩ | ⟨_, e4⟩
    · exact (live_ren_gh e3 e4).elim
    · cases e4
      refine ⟨by simp [renL_eq], fun j hj => ?_⟩
      simp only [renL_eq, List.length_map] at hj
      simp only [renL_eq, List.getElem_map]
      have e : (A.map (anchV X)).getD j undef = anchV X A[j] := by simp [List.getD_eq_getElem?_getD, hj]
      rw [e]
      exact (hanch _ (List.getElem_mem hj)).ren hk1 hv1' hr1 hp1
  have hcall := h.call X1 _ _ (renL (posOf fp) (posOf fp) as) vs _ g1 hgh1 (hT.fewer hown1) (by simp [renL_eq, hlen]) (fun i hi => by
    simp only [renL_eq, List.length_map] at hi
    simp only [renL_eq, List.getElem_map]
    exact (hrel i hi).ren hk1 hv1' hr1 hp1) hE
  refine hcall.mono ?_
  rintro e w' ⟨v, av, oN, Y, rfl, ⟨hq1, hq2⟩, rfl, gY, ghY, hv, hextY, hfr, hnew⟩
  obtain ⟨hq2, hkl⟩ := keepLen_spec hq2
  have hYn : fp.length + 1 ≤ Y.n := by rw [gY.n]; exact lt_of_get hq1
  let sl : Nat → Option Nat := fun i => if i < X.n then posOf fp i else some (fp.length + (i - X.n))
  let Z : Cx := { b := fun i => match sl i with | some q => Y.b q | none => X.b i, c := fun i => match sl i with | some q => Y.c q | none => X.c i, z := fun i => match sl i with | some q => Y.z q | none => X.z i, rw := fun i => match sl i with | some q => Y.rw q | none => X.rw i, n := X.n + (Y.n - fp.length), obj := fun b => Y.obj b ∨ (X.obj b ∧ ¬ obj' b), ext := X.ext, w := Y.w }
  have hZY : ∀ i q, sl i = some q → Z.b i = Y.b q ∧ Z.c i = Y.c q ∧ Z.z i = Y.z q ∧ Z.rw i = Y.rw q := fun i q e => by
    refine ⟨?_, ?_, ?_, ?_⟩ <;> (simp only [Z, e])
  have hZX : ∀ i, sl i = none → Z.b i = X.b i ∧ Z.c i = X.c i ∧ Z.z i = X.z i ∧ Z.rw i = X.rw i := fun i e => by
    refine ⟨?_, ?_, ?_, ?_⟩ <;> (simp only [Z, e])
  have slX : ∀ i, i < X.n → sl i = posOf fp i := fun i hi => by simp only [sl, hi, if_true]
  have slO : ∀ q i, outF fp o.length q = some i → q < Y.n → sl i = some q ∧ i < Z.n := by
    intro q i hq hqn
    simp only [outF, Option.some.injEq] at hq
    split at hq
    · rename_i hlt'
      have hg : fp[q]? = some fp[q] := List.getElem?_eq_getElem hlt'
      rw [getD1 hg] at hq
      subst hq
      have hi := hlt _ (List.getElem_mem hlt')
      exact ⟨(slX _ hi).trans (posOf_get hnd hg), by show _ < X.n + _; omega⟩
    · rename_i hge
      have hn := g.n
      have : ¬ i < X.n := by omega
      refine ⟨?_, by show _ < X.n + _; omega⟩
      simp only [sl, this, if_false, Option.some.injEq]
      omega
  have hvY : ∀ q i, outF fp o.length q = some i → q < Y.n → i < Z.n ∧ Z.b i = Y.b q ∧ Z.c i = Y.c q ∧ Z.z i = Y.z q ∧ Z.rw i = Y.rw q := fun q i h1 h2 => by
    obtain ⟨a, b⟩ := slO q i h1 h2
    exact ⟨b, hZY i q a⟩
  have hYext : Y.ext = fun b => X.own b ∧ ¬ obj' b := hextY
  have hkY : Keeps Y.own Y.w Z.own Z.w := ⟨Nat.le_refl _, fun b _ hb => ⟨rfl, fun hh => hb (by
    rcases hh with (h | h) | h
    · exact .inl h
    · refine .inr ?_; rw [hYext]; exact ⟨.inl h.1, h.2⟩
    · refine .inr ?_; rw [hYext]; exact ⟨.inr h, hext b h⟩)⟩⟩
  have hnewY : ∀ b, Y.obj b → obj' b ∨ X.w.heap.size ≤ b := hnew
  have hfr' : Fr X.w obj' Y.w := hfr
  have hkX : Keeps X.own X.w Z.own Z.w := ⟨hfr'.size, fun b hb ho => ⟨hfr'.keep b hb fun hh => ho (.inl (hobj b hh)), fun hh => by
    rcases hh with (h | h) | h
    · rcases hnewY b h with h' | h'
      · exact ho (.inl (hobj b h'))
      · omega
    · exact ho (.inl h.1)
    · exact ho (.inr h)⟩⟩
  have ghv : ∀ y ∈ A, VRel Y (y.ren (posOf fp) (posOf fp)) (anchV X y) := fun y hy => by
    obtain ⟨k, hk, rfl⟩ := List.getElem_of_mem hy
    obtain ⟨l1, l2⟩ := ghY _ _ hq1
    have hk' : k < (renL (posOf fp) (posOf fp) A).length := by simpa [renL_eq] using hk
    have hr := l2 k hk'
    have e : (A.map (anchV X)).getD k undef = anchV X A[k] := by simp [List.getD_eq_getElem?_getD, hk]
    rw [e] at hr
    simpa only [renL_eq, List.getElem_map] using hr
  have keyR : ∀ i p, posOf fp i = some p → anchored A i = true → Y.b p = X.b i ∧ Y.rw p = false := fun i p hp ha => by
    obtain ⟨y, hx, hxi⟩ := List.any_eq_true.1 ha
    have hr := ghv y hx
    cases y <;> simp at hxi
    · subst hxi
      simp only [AV.ren, hp, anchV] at hr
      generalize hvv : Value.pointer _ = vv at hr
      cases hr with
      | rf h1 h2 => simp at hvv; exact ⟨hvv.symm, h2⟩
    · subst hxi
      simp only [AV.ren, hp, anchV] at hr
      generalize hvv : Value.map _ = vv at hr
      cases hr with
      | mp h1 h2 => simp at hvv; exact ⟨hvv.symm, h2⟩
  have keyV : ∀ i p, i < X.n → posOf fp i = some p → anchoredV A i = true → Y.z p = X.z i ∧ (X.z i = false → Y.b p = X.b i ∧ (Y.c p).1 = (X.c i).1 ∧ (Y.c p).2 = (X.c i).2) := fun i p hi hp ha => by
    obtain ⟨y, hx, hxi⟩ := List.any_eq_true.1 ha
    have hr := ghv y hx
    cases y <;> simp at hxi
    rename_i r n
    subst hxi
    obtain ⟨sz, es, sz', es', ho, hoN, hlen'⟩ := hkl r n p hx hp
    simp only [AV.ren, hp, anchV] at hr
    cases hz : X.z r with
    | true =>
      simp only [hz] at hr
      obtain ⟨_, ⟨_, _, e⟩ | ⟨hzy, _, _⟩⟩ := inv_vw hr
      · cases e
      · exact ⟨hzy, fun h => by cases h⟩
    | false =>
      simp only [hz] at hr
      obtain ⟨_, ⟨hzy, _, e⟩ | ⟨_, _, e⟩⟩ := inv_vw hr
      · refine ⟨hzy, fun _ => ?_⟩
        simp only [Value.slice.injEq, Option.some.injEq, Addr.mk.injEq, and_true, true_and] at e
        refine ⟨e.1.symm, e.2.symm, ?_⟩
        have r1 := g.rel r _ ho
        have r2 := gY.rel p _ hoN
        obtain ⟨_, _, ⟨hzt, _⟩ | ⟨_, _, _, _, c1, _⟩⟩ := r1
        · rw [hz] at hzt; cases hzt
        obtain ⟨_, _, ⟨hzt, _⟩ | ⟨_, _, _, _, c2, _⟩⟩ := r2
        · rw [hzy] at hzt; cases hzt
        omega
      · cases e
  have hvX : ∀ i j, stayV fp A i = some j → i < X.n → j < Z.n ∧ Z.z j = X.z i ∧ (X.z i = false → Z.b j = X.b i ∧ (Z.c j).1 = (X.c i).1 ∧ (Z.c j).2 = (X.c i).2) := fun i j hs hi => by
    unfold stayV at hs
    split at hs
    · rename_i hp
      cases hs
      obtain ⟨a, b, c, _⟩ := hZX i ((slX i hi).trans hp)
      exact ⟨by show i < X.n + _; omega, c, fun _ => ⟨a, by rw [b], by rw [b]⟩⟩
    · rename_i p hp
      split at hs
      · rename_i ha
        cases hs
        obtain ⟨a, b, c, _⟩ := hZY i p ((slX i hi).trans hp)
        obtain ⟨k1, k2⟩ := keyV i p hi hp ha
        exact ⟨by show i < X.n + _; omega, c.trans k1, fun hz => ⟨a.trans (k2 hz).1, by rw [b]; exact (k2 hz).2.1, by rw [b]; exact (k2 hz).2.2⟩⟩
      · cases hs
  have hpX : ∀ i j, stayV fp A i = some j → stayR fp A i = some j → i < X.n → Z.b j = X.b i := fun i j _ hs hi => by
    unfold stayR at hs
    split at hs
    · rename_i hp
      cases hs
      exact (hZX i ((slX i hi).trans hp)).1
    · rename_i p hp
      split at hs
      · rename_i ha
        cases hs
        exact (hZY i p ((slX i hi).trans hp)).1.trans (keyR i p hp ha).1
      · cases hs
  have hrX : ∀ i j, stayR fp A i = some j → i < X.n → X.rw i = false → j < Z.n ∧ Z.b j = X.b i ∧ Z.rw j = false := fun i j hs hi hrw => by
    unfold stayR at hs
    split at hs
    · rename_i hp
      cases hs
      obtain ⟨a, _, _, d⟩ := hZX i ((slX i hi).trans hp)
      exact ⟨by show i < X.n + _; omega, a, d.trans hrw⟩
    · rename_i p hp
      split at hs
      · rename_i ha
        cases hs
        obtain ⟨a, _, _, d⟩ := hZY i p ((slX i hi).trans hp)
        obtain ⟨k1, k2⟩ := keyR i p hp ha
        exact ⟨by show i < X.n + _; omega, a.trans k1, d.trans k2⟩
      · cases hs
  have hNn : oN.length = Y.n := gY.n.symm
  -- what stands where
  have get2 : ∀ i x, (mergeO fp A o oN)[i]? = some x → (∃ ob, i < X.n ∧ sl i = none ∧ o[i]? = some ob ∧ x = ob.ren (stayV fp A) (stayR fp A)) ∨ (∃ q ob, q < Y.n ∧ outF fp o.length q = some i ∧ sl i = some q ∧ oN[q]? = some ob ∧ x = ob.renT (outF fp o.length) (outF fp o.length)) := by
    intro i x hx
    unfold mergeO at hx
    by_cases hi : i < o.length
    · rw [List.getElem?_append_left (by rw [mapI_len]; exact hi), mapI_get] at hx
      obtain ⟨ob, hob, hx⟩ := Option.map_eq_some_iff.1 hx
      rw [Nat.zero_add] at hx
      have hiX : i < X.n := by rw [g.n]; exact hi
      split at hx
      · rename_i p hp
        have hg := posOf_some hp
        have hpl := plt hg
        have hpn : p < oN.length := by omega
        right
        refine ⟨p, oN[p], by omega, ?_, (slX i hiX).trans hp, List.getElem?_eq_getElem hpn, ?_⟩
        · simp only [outF, hpl, if_true, getD1 hg]
        · rw [← hx, List.getElem?_eq_getElem hpn]; rfl
      · rename_i hp
        exact .inl ⟨ob, hiX, (slX i hiX).trans hp, hob, hx.symm⟩
    · rw [List.getElem?_append_right (by rw [mapI_len]; omega), mapI_len, List.getElem?_map, List.getElem?_drop] at hx
      obtain ⟨ob, hob, hx⟩ := Option.map_eq_some_iff.1 hx
      right
      have hq : fp.length + (i - o.length) < oN.length := lt_of_get hob
      have hn := g.n
      refine ⟨fp.length + (i - o.length), ob, by omega, ?_, ?_, hob, hx.symm⟩
      · have : ¬ fp.length + (i - o.length) < fp.length := by omega
        simp only [outF, this, if_false, Option.some.injEq]
        omega
      · have : ¬ i < X.n := by omega
        show (if i < X.n then posOf fp i else some (fp.length + (i - X.n))) = _
        rw [if_neg this, hn]
  have memX : ∀ i ob, sl i = none → o[i]? = some ob → (mergeO fp A o oN)[i]? = some (ob.ren (stayV fp A) (stayR fp A)) := by
    intro i ob hs ho
    have hi := lt_of_get ho
    have hp : posOf fp i = none := by rw [← slX i (by rw [g.n]; exact hi)]; exact hs
    unfold mergeO
    rw [List.getElem?_append_left (by rw [mapI_len]; exact hi), mapI_get, ho]
    simp only [Option.map_some, Nat.zero_add, hp]
  have memY : ∀ q ob, oN[q]? = some ob → ∃ i, outF fp o.length q = some i ∧ (mergeO fp A o oN)[i]? = some (ob.renT (outF fp o.length) (outF fp o.length)) := by
    intro q ob hob
    have hqn := lt_of_get hob
    by_cases hq : q < fp.length
    · have hg : fp[q]? = some fp[q] := List.getElem?_eq_getElem hq
      have hi := hlt _ (List.getElem_mem hq)
      obtain ⟨oi, ho, _⟩ := hlive _ (List.getElem_mem hq)
      refine ⟨fp[q], by simp only [outF, hq, if_true, getD1 hg], ?_⟩
      unfold mergeO
      rw [List.getElem?_append_left (by rw [mapI_len]; exact lt_of_get ho), mapI_get, ho]
      simp only [Option.map_some, Nat.zero_add, posOf_get hnd hg, hob, Option.getD_some]
    · refine ⟨o.length + (q - fp.length), by simp only [outF, hq, if_false], ?_⟩
      unfold mergeO
      rw [List.getElem?_append_right (by rw [mapI_len]; omega), mapI_len, List.getElem?_map, List.getElem?_drop, show fp.length + (o.length + (q - fp.length) - o.length) = q from by omega, hob]
      rfl
  have notfp : ∀ i, i < X.n → sl i = none → i ∉ fp := fun i hi hs => posOf_none (by rw [← slX i hi]; exact hs)
  have notobj : ∀ i ob, o[i]? = some ob → ob.live = true → sl i = none → X.z i = false → ∀ b, X.blk i b → ¬ obj' b := by
    rintro i ob ho hl hs hz b hb ⟨j, hj, hzj, hbj⟩
    obtain ⟨ob', h1, h2⟩ := hlive j hj
    have := g.injB j i ob' ob h1 ho h2 hl hzj hz b hbj hb
    subst this
    exact notfp j (by rw [g.n]; exact lt_of_get ho) hs hj
  have gZ : GRel Z (mergeO fp A o oN) := by
    have hn := g.n
    refine ⟨?_, fun b => ?_, fun k l x y h1 h2 l1 l2 z1 z2 b c1 c2 => ?_, fun k x h1 l1 z1 b c1 => ?_, fun b hb => ?_, fun k x h1 l1 z1 b c1 => ?_, fun k sz es h1 => ?_, fun k x h1 => ?_⟩
    · simp only [mergeO, List.length_append, mapI_len, List.length_map, List.length_drop, Z]; omega
    · constructor
      · rintro (hb | ⟨hb, hb'⟩)
        · obtain ⟨q, ob, e1, e2, e3, e4⟩ := (gY.obj b).1 hb
          obtain ⟨i, f1, f2⟩ := memY q ob e1
          obtain ⟨a0, a1, a2, a3, _⟩ := hvY q i f1 (by rw [← hNn]; exact lt_of_get e1)
          exact ⟨i, _, f2, by rw [renT_live]; exact e2, a3.trans e3, (Cx.blk_eq a1 a2).2 e4⟩
        · obtain ⟨i, ob, e1, e2, e3, e4⟩ := (g.obj b).1 hb
          have hs : sl i = none := by
            cases hp : posOf fp i with
            | none => rw [slX i (by rw [hn]; exact lt_of_get e1)]; exact hp
            | some p => exact absurd ⟨i, List.mem_of_getElem? (posOf_some hp), e3, e4⟩ hb'
          obtain ⟨a1, a2, a3, _⟩ := hZX i hs
          exact ⟨i, _, memX i ob hs e1, by rw [ren_live]; exact e2, a3.trans e3, (Cx.blk_eq a1 a2).2 e4⟩
      · rintro ⟨i, x, h1, h2, h3, h4⟩
        rcases get2 i x h1 with ⟨ob, hi, hs, ho, rfl⟩ | ⟨q, ob, hq, ho1, hs, ho, rfl⟩
        · obtain ⟨a1, a2, a3, _⟩ := hZX i hs
          rw [ren_live] at h2
          rw [a3] at h3
          have h4 := (Cx.blk_eq a1 a2).1 h4
          exact .inr ⟨(g.obj _).2 ⟨i, ob, ho, h2, h3, h4⟩, notobj i ob ho h2 hs h3 b h4⟩
        · obtain ⟨a1, a2, a3, _⟩ := hZY i q hs
          rw [renT_live] at h2
          exact .inl ((gY.obj b).2 ⟨q, ob, ho, h2, a3.symm.trans h3, (Cx.blk_eq a1 a2).1 h4⟩)
    · rcases get2 k x h1 with ⟨ob, hi, hs, ho, rfl⟩ | ⟨q, ob, hq, ho1, hs, ho, rfl⟩ <;> rcases get2 l y h2 with ⟨ob', hi', hs', ho', rfl⟩ | ⟨q', ob', hq', ho1', hs', ho', rfl⟩
      · obtain ⟨a1, a2, a3, _⟩ := hZX k hs
        obtain ⟨b1, b2, b3, _⟩ := hZX l hs'
        rw [ren_live] at l1 l2
        exact g.injB k l ob ob' ho ho' l1 l2 (a3.symm.trans z1) (b3.symm.trans z2) b ((Cx.blk_eq a1 a2).1 c1) ((Cx.blk_eq b1 b2).1 c2)
      · exfalso
        obtain ⟨a1, a2, a3, _⟩ := hZX k hs
        obtain ⟨b1, b2, b3, _⟩ := hZY l q' hs'
        rw [ren_live] at l1
        rw [renT_live] at l2
        have c1 := (Cx.blk_eq a1 a2).1 c1
        refine gY.ext2B q' ob' ho' l2 (b3.symm.trans z2) b ((Cx.blk_eq b1 b2).1 c2) ?_
        rw [hYext]
        exact ⟨.inl ((g.obj _).2 ⟨k, ob, ho, l1, a3.symm.trans z1, c1⟩), notobj k ob ho l1 hs (a3.symm.trans z1) b c1⟩
      · exfalso
        obtain ⟨a1, a2, a3, _⟩ := hZX l hs'
        obtain ⟨b1, b2, b3, _⟩ := hZY k q hs
        rw [ren_live] at l2
        rw [renT_live] at l1
        have c2 := (Cx.blk_eq a1 a2).1 c2
        refine gY.ext2B q ob ho l1 (b3.symm.trans z1) b ((Cx.blk_eq b1 b2).1 c1) ?_
        rw [hYext]
        exact ⟨.inl ((g.obj _).2 ⟨l, ob', ho', l2, a3.symm.trans z2, c2⟩), notobj l ob' ho' l2 hs' (a3.symm.trans z2) b c2⟩
      · obtain ⟨a1, a2, a3, _⟩ := hZY k q hs
        obtain ⟨b1, b2, b3, _⟩ := hZY l q' hs'
        rw [renT_live] at l1 l2
        have := gY.injB q q' ob ob' ho ho' l1 l2 (a3.symm.trans z1) (b3.symm.trans z2) b ((Cx.blk_eq a1 a2).1 c1) ((Cx.blk_eq b1 b2).1 c2)
        subst this
        rw [ho1] at ho1'
        exact Option.some.inj ho1'
    · rcases get2 k x h1 with ⟨ob, hi, hs, ho, rfl⟩ | ⟨q, ob, hq, ho1, hs, ho, rfl⟩
      · obtain ⟨a1, a2, a3, _⟩ := hZX k hs
        rw [ren_live] at l1
        exact Nat.lt_of_lt_of_le (g.ltB k ob ho l1 (a3.symm.trans z1) b ((Cx.blk_eq a1 a2).1 c1)) hfr'.size
      · obtain ⟨a1, a2, a3, _⟩ := hZY k q hs
        rw [renT_live] at l1
        exact gY.ltB q ob ho l1 (a3.symm.trans z1) b ((Cx.blk_eq a1 a2).1 c1)
    · exact Nat.lt_of_lt_of_le (g.ext1 b hb) hfr'.size
    · rcases get2 k x h1 with ⟨ob, hi, hs, ho, rfl⟩ | ⟨q, ob, hq, ho1, hs, ho, rfl⟩
      · obtain ⟨a1, a2, a3, _⟩ := hZX k hs
        rw [ren_live] at l1
        exact g.ext2B k ob ho l1 (a3.symm.trans z1) b ((Cx.blk_eq a1 a2).1 c1)
      · obtain ⟨a1, a2, a3, _⟩ := hZY k q hs
        rw [renT_live] at l1
        intro hh
        refine gY.ext2B q ob ho l1 (a3.symm.trans z1) b ((Cx.blk_eq a1 a2).1 c1) ?_
        rw [hYext]
        exact ⟨.inr hh, hext _ hh⟩
    · rcases get2 k _ h1 with ⟨ob, hi, hs, ho, e⟩ | ⟨q, ob, hq, ho1, hs, ho, e⟩
      · obtain ⟨_, _, _, a4⟩ := hZX k hs
        rw [a4]
        cases ob <;> simp [Ob.ren] at e <;> try (split at e <;> cases e)
        exact g.rws k _ _ ho
      · obtain ⟨_, _, _, a4⟩ := hZY k q hs
        rw [a4]
        cases ob <;> simp [Ob.renT, Ob.ren] at e <;> try (split at e <;> cases e)
        exact gY.rws q _ _ ho
    · rcases get2 k x h1 with ⟨ob, hi, hs, ho, rfl⟩ | ⟨q, ob, hq, ho1, hs, ho, rfl⟩
      · obtain ⟨a1, a2, a3, a4⟩ := hZX k hs
        refine ORel.ren hkX hvX hrX hpX ⟨a1, a2, a3⟩ (fun _ => a4.symm) (fun hl hz c hc => hfr'.keep _ (g.ltB k ob ho hl hz c hc) (notobj k ob ho hl hs hz c hc)) ?_ (g.rel k ob ho)
        have : stayO fp A k ob ∈ mapI (stayO fp A) 0 o := List.mem_of_getElem? (i := k) (by rw [mapI_get, ho]; simp)
        have := List.all_eq_true.1 hfst _ this
        unfold stayO at this
        rw [← slX k hi, hs] at this
        exact this
      · exact ORel.renT (outF_total fp o.length) hkY hvY hq ho1 (fun _ _ _ _ => rfl) (gY.rel q ob ho)
  refine ⟨v, _, _, Z, rfl, hq2, rfl, gZ, ?_, ?_, rfl, ⟨hfr'.os, hfr'.tape, hfr'.output, hfr'.size, fun b hb hn => hfr'.keep b hb fun hh => hn (hobj b hh)⟩, fun b hb => ?_⟩
  · intro k cs hk
    rcases get2 k _ hk with ⟨ob, hi, hs, ho, e⟩ | ⟨q, ob, hq, ho1, hs, ho, e⟩
    · cases ob <;> simp [Ob.ren] at e <;> try (split at e <;> cases e)
      subst e
      obtain ⟨l1, l2⟩ := hgh k _ ho
      refine ⟨by simpa [renL_eq] using l1, fun j hj => ?_⟩
      simp only [renL_eq, List.length_map] at hj
      simp only [renL_eq, List.getElem_map]
      exact (l2 j hj).ren hkX hvX hrX hpX
    · cases ob <;> simp [Ob.renT, Ob.ren] at e <;> try (split at e <;> cases e)
  · exact hv.ren hkY (fun i j h1 h2 => let ⟨p0, p1, p2, p3, _⟩ := hvY i j h1 h2; ⟨p0, p3, fun _ => ⟨p1, by rw [p2], by rw [p2]⟩⟩) (fun i j h1 h2 h3 => let ⟨p0, p1, _, _, p4⟩ := hvY i j h1 h2; ⟨p0, p1, p4.trans h3⟩) (fun i j h1 _ h2 => (hvY i j h1 h2).2.1)
  · rcases hb with hb | hb
    · exact (hnewY b hb).imp (hobj b) id
    · exact .inl hb.1
theorem RSound.frameG {P : Program} {f : FuncId} {E : List AV → List Ob → (AV → List Ob → Prop) → Prop} (h : RSound P f E) (vb hb : Bool) : RSound P f (frameG vb hb E) := h.frameH _ vb hb false
theorem RSound.frame {P : Program} {f : FuncId} {E : List AV → List Ob → (AV → List Ob → Prop) → Prop} (h : RSound P f E) : RSound P f (frameE E) := h.frameG false false
theorem RSound.frameV {P : Program} {f : FuncId} {E : List AV → List Ob → (AV → List Ob → Prop) → Prop} (h : RSound P f E) : RSound P f (frameV E) := h.frameG true false
def trimK (q : AV → List Ob → Prop) (av : AV) (o : List Ob) : Prop := ∃ o2, leO o o2 ∧ (av.fits o2.length && o2.all (Ob.fits o2.length)) = true ∧ q av o2
theorem leL_one (x : AV) : leL [x] [x] := by
  show leA x x True
  unfold leA
  cases x <;> simp
theorem trim_srel {w0 : World} {own0 : O0} {Y : Cx} {s : S} {a : Act} {q : AV → List Ob → Prop} {av : AV} {v : Value} (hs : SRel w0 own0 Y s a) (hv : VRel Y av v) (h : trimK q av s.o) :
    ∃ o2 Y', q av o2 ∧ Y'.w = Y.w ∧ SRel w0 own0 Y' ⟨[av], o2⟩ { tmps := #[v], defers := [] } ∧ VRel Y' av v := by
  obtain ⟨o2, h1, h2, h3⟩ := h
  have hs1 : SRel w0 own0 Y ⟨[av], s.o⟩ { tmps := #[v], defers := [] } := ⟨rfl, fun i hi => by
    have : i = 0 := by simpa using hi
    subst this
    exact hv, rfl, hs.g, hs.ext, hs.fr, hs.new, hs.gh, hs.tab⟩
  simp only [Bool.and_eq_true] at h2
  have hle : S.le ⟨[av], s.o⟩ ⟨[av], o2⟩ := ⟨leL_one _, .inr ⟨h1, by simp [S.fits, fitsL, h2.1, h2.2]⟩⟩
  obtain ⟨Y', e, hs2⟩ := hs1.le hle
  exact ⟨o2, Y', h3, e, hs2, hs2.slot 0 (by simp)⟩
theorem ref_fnT {P : Program} {K : TypeId → Option TK} {Γ : List (FuncId × En)} {f : FuncId} {fn : Func} {c : Code} {rs : List ResultVar} {E : List AV → List Ob → (AV → List Ob → Prop) → Prop} (hm : P.follows .mixedOrders = true) (hK : KOk P K) (hΓ : GSound P Γ) (hf : P.funcs[f]? = some fn) (hb : fn.body = some c) (hrs : fn.results.toList = rs)
    (hcall : ∀ args w, (callFunc f args).run P w = .ok (.enter f args) w) (h : ∀ as o q, E as o q → aCode K Γ c (kRetF K rs (trimK q)) ⟨as ++ List.replicate (fn.ntmps - as.length) .jk, o⟩) : RSound P f E := by
  refine ⟨hcall, fun X o gv as vs q g hgh hT hlen hrel hE => ?_⟩
  have hst : SRel X.w ⟨X.obj, X.ext, gv⟩ X ⟨as ++ List.replicate (fn.ntmps - as.length) .jk, o⟩ { tmps := vs ++ Array.replicate (fn.ntmps - vs.size) undef, defers := [] } :=
    ⟨by simp [hlen], fun i hi => by
      rw [List.getElem_append]
      split
      · rename_i hlt
        rw [getD_append_left (by omega)]
        exact hrel i hlt
      · simp only [List.getElem_replicate]; exact .jk, rfl, g, rfl, ⟨rfl, rfl, rfl, Nat.le_refl _, fun _ _ _ => rfl⟩, fun b hb => .inl hb, hgh, hT⟩
  refine calls_of_wp hf hb (wp_mono (code_sound (w0 := X.w) (own0 := ⟨X.obj, X.ext, gv⟩) hm hK hΓ c hst (h as o q hE)) fun e a' w' hq => ?_)
  have key : ∀ (Y : Cx) (s : S), Y.w = w' → SRel X.w ⟨X.obj, X.ext, gv⟩ Y s a' → (match resL K s rs with | some l => trimK q (resAV l) s.o | none => False) →
      a'.defers = [] ∧ ∃ v, (results fn a'.tmps).run P w' = .ok v w' ∧ ∃ v_1 av o' X', Ending.returned v = .returned v_1 ∧ q av o' ∧ X'.w = w' ∧ GRel X' o' ∧ GhRel X' o' gv ∧ VRel X' av v_1 ∧ X'.ext = X.ext ∧ Fr X.w X.obj w' ∧ ∀ b, X'.obj b → X.obj b ∨ X.w.heap.size ≤ b := by
    rintro Y s rfl hs hk
    split at hk
    · rename_i rl hrl
      obtain ⟨v, h1, h2⟩ := results_sound (P := P) hrs hK hs hrl
      obtain ⟨o2, Y', t1, t2, t3, t4⟩ := trim_srel hs h2 hk
      exact ⟨hs.defers, v, h1, v, _, _, Y', rfl, t1, t2, t3.g, t3.gh, t4, t3.ext, hs.fr, t3.new⟩
    · exact hk.elim
  cases e with
  | normal => obtain ⟨Y, s, e1, e2, e3⟩ := hq; exact key Y s e1 e2 e3
  | ret => obtain ⟨Y, s, e1, e2, e3⟩ := hq; exact key Y s e1 e2 e3
  | exit i => obtain ⟨Y, s, _, _, hk⟩ := hq; exact hk.elim
  | goto l => exact hq.elim
  | panic ch => exact hq.elim
  | outgrown => exact hq.elim
def leR : AV → AV → Prop
  | .tp l, .tp r => leL l r
  | x, y => leL [x] [y]
def trimR (q : AV → List Ob → Prop) (av : AV) (o : List Ob) : Prop := ∃ av2 o2, leR av av2 ∧ leO o o2 ∧ (av2.fits o2.length && o2.all (Ob.fits o2.length)) = true ∧ q av2 o2
theorem leR_rel {X : Cx} {x y : AV} {v : Value} (h : leR x y) (hv : VRel X x v) : VRel X y v := by
  have one : ∀ (a b : AV) (u : Value), (b = .jk ∨ a = b ∨ (a = .nl ∧ b = .d (.sl []))) → VRel X a u → VRel X b u := by
    rintro a b u (rfl | rfl | ⟨rfl, rfl⟩) hu
    · exact .jk
    · exact hu
    · rw [inv_nl hu]; exact .d .nil
  unfold leR at h
  split at h
  · rename_i l r
    obtain ⟨arr, rfl, h1, h2⟩ := inv_tp hv
    obtain ⟨l1, l2⟩ := leL_spec h
    exact .tp (h1.trans l1) fun j hj => one _ _ _ (l2 j (by omega) hj) (h2 j (by omega))
  · obtain ⟨l1, l2⟩ := leL_spec h
    exact one _ _ _ (l2 0 (by simp) (by simp)) hv
theorem trimR_srel {w0 : World} {own0 : O0} {Y : Cx} {s : S} {a : Act} {q : AV → List Ob → Prop} {av : AV} {v : Value} (hs : SRel w0 own0 Y s a) (hv : VRel Y av v) (h : trimR q av s.o) :
    ∃ av2 o2 Y', q av2 o2 ∧ Y'.w = Y.w ∧ SRel w0 own0 Y' ⟨[av2], o2⟩ { tmps := #[v], defers := [] } ∧ VRel Y' av2 v := by
  obtain ⟨av2, o2, h0, h1, h2, h3⟩ := h
  obtain ⟨o3, Y', ⟨_, rfl, _⟩, e2, e3, e4⟩ := trim_srel (q := fun x o => x = av2 ∧ o = o2 ∧ q av2 o2) hs (leR_rel h0 hv) ⟨o2, h1, h2, rfl, rfl, h3⟩
  exact ⟨av2, _, Y', h3, e2, e3, e4⟩
def TrimOk (T : (AV → List Ob → Prop) → AV → List Ob → Prop) : Prop := ∀ (q : AV → List Ob → Prop) (w0 : World) (own0 : O0) (Y : Cx) (s : S) (a : Act) (av : AV) (v : Value), SRel w0 own0 Y s a → VRel Y av v → T q av s.o →
  ∃ av2 o2 Y', q av2 o2 ∧ Y'.w = Y.w ∧ SRel w0 own0 Y' ⟨[av2], o2⟩ { tmps := #[v], defers := [] } ∧ VRel Y' av2 v
theorem trimR_ok : TrimOk trimR := fun q w0 own0 Y s a av v hs hv h => trimR_srel hs hv h
def trimZ (q : AV → List Ob → Prop) (av : AV) (o : List Ob) : Prop := ∃ rs, match sealAll rs ⟨[av], o⟩ with
  | ⟨[x], o1⟩ => trimR q x o1
  | _ => False
theorem trimZ_ok : TrimOk trimZ := fun q w0 own0 Y s a av v hs hv h => by
  obtain ⟨rs, h⟩ := h
  have hs1 : SRel w0 own0 Y ⟨[av], s.o⟩ { tmps := #[v], defers := [] } := ⟨rfl, fun i hi => by
    have : i = 0 := by simpa using hi
    subst this
    exact hv, rfl, hs.g, hs.ext, hs.fr, hs.new, hs.gh, hs.tab⟩
  obtain ⟨Y1, e1, hs2⟩ := sealAll_srel rs hs1
  split at h
  · rename_i x o1 e
    rw [e] at hs2
    obtain ⟨av2, o2, Y', q1, q2, q3, q4⟩ := trimR_srel hs2 (hs2.slot 0 (by simp)) h
    exact ⟨av2, o2, Y', q1, q2.trans e1, q3, q4⟩
  · exact h.elim
theorem ref_fnK (T : (AV → List Ob → Prop) → AV → List Ob → Prop) (hT0 : TrimOk T) {P : Program} {K : TypeId → Option TK} {Γ : List (FuncId × En)} {f : FuncId} {fn : Func} {c : Code} {rs : List ResultVar} {E : List AV → List Ob → (AV → List Ob → Prop) → Prop} (hm : P.follows .mixedOrders = true) (hK : KOk P K) (hΓ : GSound P Γ) (hf : P.funcs[f]? = some fn) (hb : fn.body = some c) (hrs : fn.results.toList = rs)
    (hcall : ∀ args w, (callFunc f args).run P w = .ok (.enter f args) w) (h : ∀ as o q, E as o q → aCode K Γ c (kRetF K rs (T q)) ⟨as ++ List.replicate (fn.ntmps - as.length) .jk, o⟩) : RSound P f E := by
  refine ⟨hcall, fun X o gv as vs q g hgh hT hlen hrel hE => ?_⟩
  have hst : SRel X.w ⟨X.obj, X.ext, gv⟩ X ⟨as ++ List.replicate (fn.ntmps - as.length) .jk, o⟩ { tmps := vs ++ Array.replicate (fn.ntmps - vs.size) undef, defers := [] } :=
    ⟨by simp [hlen], fun i hi => by
      rw [List.getElem_append]
      split
      · rename_i hlt
        rw [getD_append_left (by omega)]
        exact hrel i hlt
      · simp only [List.getElem_replicate]; exact .jk, rfl, g, rfl, ⟨rfl, rfl, rfl, Nat.le_refl _, fun _ _ _ => rfl⟩, fun b hb => .inl hb, hgh, hT⟩
  refine calls_of_wp hf hb (wp_mono (code_sound (w0 := X.w) (own0 := ⟨X.obj, X.ext, gv⟩) hm hK hΓ c hst (h as o q hE)) fun e a' w' hq => ?_)
  have key : ∀ (Y : Cx) (s : S), Y.w = w' → SRel X.w ⟨X.obj, X.ext, gv⟩ Y s a' → (match resL K s rs with | some l => T q (resAV l) s.o | none => False) →
      a'.defers = [] ∧ ∃ v, (results fn a'.tmps).run P w' = .ok v w' ∧ ∃ v_1 av o' X', Ending.returned v = .returned v_1 ∧ q av o' ∧ X'.w = w' ∧ GRel X' o' ∧ GhRel X' o' gv ∧ VRel X' av v_1 ∧ X'.ext = X.ext ∧ Fr X.w X.obj w' ∧ ∀ b, X'.obj b → X.obj b ∨ X.w.heap.size ≤ b := by
    rintro Y s rfl hs hk
    split at hk
    · rename_i rl hrl
      obtain ⟨v, h1, h2⟩ := results_sound (P := P) hrs hK hs hrl
      obtain ⟨av2, o2, Y', t1, t2, t3, t4⟩ := hT0 _ _ _ _ _ _ _ _ hs h2 hk
      exact ⟨hs.defers, v, h1, v, _, _, Y', rfl, t1, t2, t3.g, t3.gh, t4, t3.ext, hs.fr, t3.new⟩
    · exact hk.elim
  cases e with
  | normal => obtain ⟨Y, s, e1, e2, e3⟩ := hq; exact key Y s e1 e2 e3
  | ret => obtain ⟨Y, s, e1, e2, e3⟩ := hq; exact key Y s e1 e2 e3
  | exit i => obtain ⟨Y, s, _, _, hk⟩ := hq; exact hk.elim
  | goto l => exact hq.elim
  | panic ch => exact hq.elim
  | outgrown => exact hq.elim
theorem ref_fnR {P : Program} {K : TypeId → Option TK} {Γ : List (FuncId × En)} {f : FuncId} {fn : Func} {c : Code} {rs : List ResultVar} {E : List AV → List Ob → (AV → List Ob → Prop) → Prop} (hm : P.follows .mixedOrders = true) (hK : KOk P K) (hΓ : GSound P Γ) (hf : P.funcs[f]? = some fn) (hb : fn.body = some c) (hrs : fn.results.toList = rs)
    (hcall : ∀ args w, (callFunc f args).run P w = .ok (.enter f args) w) (h : ∀ as o q, E as o q → aCode K Γ c (kRetF K rs (trimR q)) ⟨as ++ List.replicate (fn.ntmps - as.length) .jk, o⟩) : RSound P f E := ref_fnK trimR trimR_ok hm hK hΓ hf hb hrs hcall h
theorem ref_fnZ {P : Program} {K : TypeId → Option TK} {Γ : List (FuncId × En)} {f : FuncId} {fn : Func} {c : Code} {rs : List ResultVar} {E : List AV → List Ob → (AV → List Ob → Prop) → Prop} (hm : P.follows .mixedOrders = true) (hK : KOk P K) (hΓ : GSound P Γ) (hf : P.funcs[f]? = some fn) (hb : fn.body = some c) (hrs : fn.results.toList = rs)
    (hcall : ∀ args w, (callFunc f args).run P w = .ok (.enter f args) w) (h : ∀ as o q, E as o q → aCode K Γ c (kRetF K rs (trimZ q)) ⟨as ++ List.replicate (fn.ntmps - as.length) .jk, o⟩) : RSound P f E := ref_fnK trimZ trimZ_ok hm hK hΓ hf hb hrs hcall h
theorem RSound.mono {P : Program} {f : FuncId} {E E' : List AV → List Ob → (AV → List Ob → Prop) → Prop} (h : RSound P f E) (hE : ∀ al o q, E' al o q → E al o q) : RSound P f E' :=
  ⟨h.enter, fun X o gv al vs q g hgh hT hlen hrel hq => h.call X o gv al vs q g hgh hT hlen hrel (hE al o q hq)⟩
end Go.AM
