import Derived.Test.YtchpfeblinnoiaaGreatDoorAmRange
set_option linter.unusedSimpArgs false
set_option linter.unusedVariables false
namespace Go.AM
open Go.RowKit
def Ghost (g0 : List Ob → List Ob) : Prop := ∀ (w0 : World) (own0 : O0) (Y : Cx) (s : S) (a : Act), SRel w0 own0 Y s a → ∃ Y', Y'.w = Y.w ∧ SRel w0 own0 Y' ⟨s.t, g0 s.o⟩ a ∧ ∀ av v, VRel Y av v → VRel Y' av v
theorem ghost_id : Ghost id := fun w0 own0 Y s a hs => ⟨Y, rfl, hs, fun _ _ h => h⟩
def openNilN (nb : Ob) (i j : Nat) (o : List Ob) : List Ob := match o[i]? with
  | some (.box cs) => match cs[j]? with
    | some .nl => o.set i (.box (cs.set j (.vw o.length 0))) ++ [nb]
    | _ => o
  | _ => o
theorem openNilN_ghost (nb : Ob) (i j : Nat) (hlv : nb.live = true) (hnb : ∀ X : Cx, ORel X.pushz X.n nb) : Ghost (openNilN nb i j) := by
  intro w0 own0 Y s a hs
  unfold openNilN
  split
  · rename_i cs hi
    split
    · rename_i hj
      have hp := pushz_srelG hs hlv (hnb Y)
      rw [show killT none s.t = s.t from rfl] at hp
      have up : ∀ av v, VRel Y av v → VRel Y.pushz av v := fun av v h => h.step (X := Y) (X' := Y.pushz) ⟨Nat.le_refl _, fun b _ hb => ⟨rfl, hb⟩⟩ (by simp [Cx.pushz]) (fun i hi => pushz_agree Y i hi)
      refine ⟨Y.pushz, rfl, ⟨hp.len, hp.slot, hp.defers, ?_, hp.ext, hp.fr, hp.new, ?_, hp.tab⟩, up⟩
      · have g := hp.g
        have hil := lt_of_get hi
        have get : ∀ (k : Nat) (x : Ob), (s.o.set i (.box (cs.set j (.vw s.o.length 0))) ++ [nb])[k]? = some x → (k = i ∧ x = .box (cs.set j (.vw s.o.length 0))) ∨ (k ≠ i ∧ (s.o ++ [nb])[k]? = some x) := by
          intro k x hk
          by_cases hki : k = i
          · subst hki
            rw [List.getElem?_append_left (by simpa using hil), List.getElem?_set_self hil] at hk
            exact .inl ⟨rfl, (Option.some.inj hk).symm⟩
          · refine .inr ⟨hki, ?_⟩
            rw [List.getElem?_append] at hk ⊢
            simp only [List.length_set] at hk
            rwa [List.getElem?_set_ne (fun e => hki e.symm)] at hk
        have self : (s.o ++ [nb])[i]? = some (.box cs) := by rw [List.getElem?_append_left hil]; exact hi
        have back : ∀ (k : Nat) (x : Ob), (s.o ++ [nb])[k]? = some x → k ≠ i → (s.o.set i (.box (cs.set j (.vw s.o.length 0))) ++ [nb])[k]? = some x := by
          intro k x hk hki
          rw [List.getElem?_append] at hk ⊢
          simp only [List.length_set]
          rwa [List.getElem?_set_ne (fun e => hki e.symm)]
        have selfN : (s.o.set i (.box (cs.set j (.vw s.o.length 0))) ++ [nb])[i]? = some (.box (cs.set j (.vw s.o.length 0))) := by
          rw [List.getElem?_append_left (by simpa using hil), List.getElem?_set_self hil]
        have old : ∀ (k : Nat) (x : Ob), (s.o.set i (.box (cs.set j (.vw s.o.length 0))) ++ [nb])[k]? = some x → x.live = true → ∃ y, (s.o ++ [nb])[k]? = some y ∧ y.live = true := by
          intro k x hk hl
          rcases get k x hk with ⟨rfl, rfl⟩ | ⟨_, h⟩
          · exact ⟨_, self, rfl⟩
          · exact ⟨x, h, hl⟩
        refine ⟨by simpa using g.n, fun b => ?_, fun k l x y h1 h2 l1 l2 => ?_, fun k x h1 l1 => ?_, g.ext1, fun k x h1 l1 => ?_, fun k sz' es h1 => ?_, fun k x h1 => ?_⟩
        · rw [g.obj]
          constructor
          · rintro ⟨k, x, h1, h2, h3⟩
            by_cases hki : k = i
            · subst hki; exact ⟨k, _, selfN, rfl, h3⟩
            · exact ⟨k, x, back k x h1 hki, h2, h3⟩
          · rintro ⟨k, x, h1, h2, h3⟩
            obtain ⟨y, e1, e2⟩ := old k x h1 h2
            exact ⟨k, y, e1, e2, h3⟩
        · obtain ⟨x', e1, e2⟩ := old k x h1 l1
          obtain ⟨y', f1, f2⟩ := old l y h2 l2
          exact g.injB k l x' y' e1 f1 e2 f2
        · obtain ⟨x', e1, e2⟩ := old k x h1 l1
          exact g.ltB k x' e1 e2
        · obtain ⟨x', e1, e2⟩ := old k x h1 l1
          exact g.ext2B k x' e1 e2
        · rcases get k _ h1 with ⟨_, e⟩ | ⟨_, h⟩
          · cases e
          · exact g.rws k sz' es h
        · rcases get k x h1 with ⟨rfl, rfl⟩ | ⟨_, h⟩
          · obtain ⟨hz, arr, T, q1, q2, q3⟩ := g.rel k _ self
            refine ⟨hz, arr, T, q1, by simpa using q2, fun m hm => ?_⟩
            have hm' : m < cs.length := by simpa using hm
            rw [List.getElem_set]
            split
            · rename_i e
              subst e
              have hv := q3 j hm'
              have hnl : cs[j] = .nl := by rw [List.getElem?_eq_getElem hm'] at hj; exact Option.some.inj hj
              rw [hnl] at hv
              rw [inv_nl hv, ← hs.g.n]
              exact .vz (by simp [Cx.pushz]) (by simp [Cx.pushz])
            · exact q3 m hm'
          · exact g.rel k x h
      · intro k cs' hk
        have hil := lt_of_get hi
        by_cases hki : k = i
        · subst hki
          rw [List.getElem?_append_left (by simpa using hil), List.getElem?_set_self hil] at hk
          cases hk
        · refine hp.gh k cs' ?_
          rw [List.getElem?_append] at hk ⊢
          simp only [List.length_set] at hk
          rwa [List.getElem?_set_ne (fun e => hki e.symm)] at hk
    · exact ⟨Y, rfl, hs, fun _ _ h => h⟩
  · exact ⟨Y, rfl, hs, fun _ _ h => h⟩
theorem openNil_ghost (i j sz : Nat) (hsz : 0 < sz) : Ghost (openNil i j sz) := openNilN_ghost (.row sz []) i j rfl fun X => ⟨hsz, by simp, .inl ⟨by simp [Cx.pushz], rfl⟩⟩
theorem openPow_ghost (i j : Nat) : Ghost (openPow i j) := openNilN_ghost (.pow []) i j rfl fun X => ⟨by simp [Cx.pushz], by simp, by simp, .inl ⟨by simp [Cx.pushz], rfl⟩⟩
theorem openB_srel {w0 : World} {own0 : O0} {X : Cx} {s : S} {a : Act} (hs : SRel w0 own0 X s a) (i j sz : Nat) (hz : 0 < sz) : ∃ X', X'.w = X.w ∧ SRel w0 own0 X' (s.openB i j sz) a := by
  obtain ⟨Y, h1, h2, _⟩ := openNil_ghost i j sz hz w0 own0 X s a hs
  exact ⟨Y, h1, h2⟩
theorem openT_srel {w0 : World} {own0 : O0} {X : Cx} {s : S} {a : Act} (hs : SRel w0 own0 X s a) (i sz : Nat) (hz : 0 < sz) : ∃ X', X'.w = X.w ∧ SRel w0 own0 X' (s.openT i sz) a := by
  unfold S.openT
  split
  · rename_i hi
    have hp := pushz_srel hs hz
    rw [show killT none s.t = s.t from rfl] at hp
    have hil : i < s.t.length := lt_of_get hi
    refine ⟨X.pushz, rfl, by rw [hp.len]; simp, fun k hk => ?_, hp.defers, hp.g, hp.ext, hp.fr, hp.new, hp.gh, hp.tab⟩
    have hk' : k < s.t.length := by simpa using hk
    rw [List.getElem_set]
    split
    · rename_i e
      subst e
      have hv := hp.slot i hil
      have hnl : s.t[i] = .nl := by rw [List.getElem?_eq_getElem hil] at hi; exact Option.some.inj hi
      simp only [hnl] at hv
      rw [inv_nl hv, ← hs.g.n]
      exact .vz (by simp [Cx.pushz]) (by simp [Cx.pushz])
    · exact hp.slot k hk'
  · exact ⟨X, rfl, hs⟩
end Go.AM
