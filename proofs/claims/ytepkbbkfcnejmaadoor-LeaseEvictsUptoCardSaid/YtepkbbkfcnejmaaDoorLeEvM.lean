import Derived.Test.YtepkbbkfcnejmaaDoorLeNw
set_option linter.unusedSimpArgs false
set_option linter.unusedVariables false
namespace Go.Proofs.YtepkbbkfcnejmaaDoor
open Go Go.AM Go.RowKit
abbrev annB : ByteArray := ⟨#[97, 110, 110]⟩
abbrev bobB : ByteArray := ⟨#[98, 111, 98]⟩
abbrev padB : ByteArray := ⟨#[112, 97, 100]⟩
abbrev phoB : ByteArray := ⟨#[112, 104, 111, 110, 101]⟩
def tokE (i : Int) : ByteArray := (⟨#[116]⟩ : ByteArray) ++ unB [[.v (.int .u8 (IntKind.wrap .u8 (IntKind.wrap .i64 (97 + i))))]]
theorem tok_inj0 : ∀ i j : Fin 17, tokE (i.val : Int) = tokE (j.val : Int) → i = j := by decide +kernel
theorem tok_ne0 : ∀ i : Fin 17, tokE (i.val : Int) ≠ ⟨#[]⟩ := by decide +kernel
theorem tok_inj {i j : Nat} (hi : i < 17) (hj : j < 17) (h : tokE (i : Int) = tokE (j : Int)) : i = j := Fin.mk.inj (tok_inj0 ⟨i, hi⟩ ⟨j, hj⟩ h)
theorem tok_ne {i : Nat} (hi : i < 17) : tokE (i : Int) ≠ ⟨#[]⟩ := tok_ne0 ⟨i, hi⟩
theorem ubob : userB bobB = true := by decide +kernel
theorem uann : userB annB = true := by decide +kernel
theorem upad : userB padB = true := by decide +kernel
theorem upho : userB phoB = true := by decide +kernel
structure EvE (j : Nat) (e : Ent3) : Prop where
  u : e.2.2.s 1 = annB
  t : e.2.2.s 3 = tokE (j : Int)
  k : e.1 = kI ((j : Int) + 2)
  c : e.2.2.i 4 = (j : Int) ∨ (e.2.2.i 4 = -1 ∧ 50 ≤ e.2.2.i 5 ∧ e.2.2.i 5 ≤ 1049)
structure EvW (m : FLs) (want best : Int) : Prop where
  no : slpE m = [] → best = 0 ∧ want = 2
  yes : ∀ y m', slpE m = y :: m' → best = (minG y m').2.2.i 5 - 49 ∧ want = (minG y m').2.2.i 0 ∧ 1 ≤ best
structure EvI (i : Nat) (want best : Int) (l : FLs) (la : Int) : Prop where
  tab : Tab l la
  la : la = i + 1
  sp : ∃ b0 r0 m, l = (kI 1, b0, r0) :: m ∧ r0.s 1 = bobB ∧ r0.s 3 = ⟨#[]⟩ ∧ r0.i 4 = 99 ∧ m.length = i ∧ (∀ (j : Nat) (h : j < m.length), EvE j m[j]) ∧ EvW m want best
theorem find_none {p : Rec → Bool} {l : FLs} (h : ∀ e ∈ l, p e.2.2 = false) : firstE p l = none := List.find?_eq_none.2 fun e he => by rw [h e he]; simp
theorem EvI.start {b : Nat} {r : Rec} (h0 : r.i 0 = 0 + 1) (h1 : r.s 1 = bobB) (h3 : r.s 3 = ⟨#[]⟩) (h4 : r.i 4 = 99) : EvI 0 2 0 ([] ++ [(kI (0 + 1), b, r)]) (0 + 1) := by
  refine ⟨Tab.nil.add (by decide) (fun e he => (List.not_mem_nil he).elim) h0, rfl, b, r, [], rfl, h1, h3, h4, rfl, fun j h => absurd h (by simp), fun _ => ⟨rfl, rfl⟩, fun y m' h => by cases h⟩
theorem EvI.mem {i : Nat} {want best la : Int} {l : FLs} (h : EvI i want best l la) : ∀ e ∈ l, (e.2.2.s 1 = bobB ∧ e.2.2.s 3 = ⟨#[]⟩ ∧ e.2.2.i 4 = 99) ∨ ∃ j, j < i ∧ EvE j e := by
  obtain ⟨b0, r0, m, rfl, h1, h3, h4, hm, hE, _⟩ := h.sp
  intro e he
  rcases List.mem_cons.1 he with rfl | he
  · exact .inl ⟨h1, h3, h4⟩
  · obtain ⟨j, hj, rfl⟩ := List.getElem_of_mem he
    exact .inr ⟨j, by omega, hE j hj⟩
theorem EvI.free {i : Nat} {want best la : Int} {l : FLs} (h : EvI i want best l la) {c : Int} (h1 : c ≠ 99) (h2 : (i : Int) ≤ c) : firstE (pOn c) l = none := find_none fun e he => by
  unfold pOn
  rcases h.mem e he with ⟨_, _, h4⟩ | ⟨j, hj, hE⟩
  · rw [h4]
    have : ((99 : Int) == c) = false := by simpa using fun e => h1 e.symm
    rw [this]; rfl
  · rcases hE.c with h4 | ⟨h4, _⟩
    · rw [h4]
      have : ((j : Int) == c) = false := by simp; omega
      rw [this]; rfl
    · rw [h4]; simp
theorem EvI.untok {i : Nat} {want best la : Int} {l : FLs} (h : EvI i want best l la) (hi : i < 16) {k : Key} {b : Nat} {r : Rec} (hr : r.s 3 = ⟨#[]⟩) : firstE (pWi (tokE (i : Int))) (l ++ [(k, b, r)]) = none := find_none fun e he => by
  have hne := tok_ne (i := i) (by omega)
  have go : e.2.2.s 3 ≠ tokE (i : Int) → pWi (tokE (i : Int)) e.2.2 = false := fun h => by unfold pWi; rw [decide_eq_false h]; rfl
  rcases List.mem_append.1 he with he | he
  · rcases h.mem e he with ⟨_, h3, _⟩ | ⟨j, hj, hE⟩
    · exact go (by rw [h3]; exact fun e => hne e.symm)
    · exact go (by rw [hE.t]; exact fun e => by have := tok_inj (by omega) (by omega) e; omega)
  · simp only [List.mem_singleton] at he
    subst he
    exact go (by show r.s 3 ≠ _; rw [hr]; exact fun e => hne e.symm)
theorem bob_ann : bobB ≠ annB := by decide
theorem EvI.sel {i : Nat} {want best la : Int} {l : FLs} (h : EvI i want best l la) : ∃ m, selE annB l = m ∧ m.length = i ∧ EvW m want best ∧ (∀ (j : Nat) (h : j < m.length), EvE j m[j]) := by
  obtain ⟨b0, r0, m, rfl, h1, h3, h4, hm, hE, hW⟩ := h.sp
  refine ⟨m, ?_, hm, hW, hE⟩
  unfold selE
  rw [List.filter_cons_of_neg (by show ¬ pVi annB r0 = true; unfold pVi; rw [h1, decide_eq_false bob_ann]; simp)]
  refine List.filter_eq_self.2 fun e he => ?_
  obtain ⟨j, hj, rfl⟩ := List.getElem_of_mem he
  exact decide_eq_true (hE j hj).u
theorem put_last {b : Nat} {k : Key} {r r' : Rec} : ∀ {l : FLs}, newF b l → putM b r' (l ++ [(k, b, r)]) = l ++ [(k, b, r')]
  | [], _ => by simp [putM]
  | e :: l, h => by
    simp only [List.cons_append, putM]
    rw [if_neg (h e (by simp)), put_last fun x hx => h x (by simp [hx])]
theorem mem_last {l : FLs} {k : Key} {b : Nat} {r : Rec} : (k, b, r) ∈ l ++ [(k, b, r)] := by simp
theorem EvI.step {i : Nat} {want best want' best' la : Int} {l : FLs} (h : EvI i want best l la) {b : Nat} {r : Rec} (hb : newF b l) (h0 : r.i 0 = la + 1) (h1 : r.s 1 = annB) (h3 : r.s 3 = tokE (i : Int))
    (hc : (r.i 4 = (i : Int) ∧ want' = want ∧ best' = best) ∨ (r.i 4 = -1 ∧ 50 ≤ r.i 5 ∧ r.i 5 ≤ 1049 ∧ ((best = 0 ∨ r.i 5 - 50 < best - 1) ∧ want' = la + 1 ∧ best' = r.i 5 - 49 ∨ (best ≠ 0 ∧ ¬ r.i 5 - 50 < best - 1) ∧ want' = want ∧ best' = best))) :
    EvI (i + 1) want' best' (l ++ [(kI (la + 1), b, r)]) (la + 1) := by
  have hla := h.la
  obtain ⟨b0, r0, m, hl, g1, g3, g4, hm, hE, hW⟩ := h.sp
  refine ⟨h.tab.add (by omega) hb h0, by omega, b0, r0, m ++ [(kI (la + 1), b, r)], by rw [hl]; rfl, g1, g3, g4, by simp [hm], fun j hj => ?_, ?_⟩
  · by_cases hlt : j < m.length
    · rw [List.getElem_append_left hlt]; exact hE j hlt
    · have : j = i := by simp at hj; omega
      subst this
      have e : (m ++ [(kI (la + 1), b, r)])[j] = (kI (la + 1), b, r) := by rw [List.getElem_append_right (by omega)]; simp
      rw [e]
      refine ⟨h1, h3, by show kI (la + 1) = _; rw [hla]; congr 1 <;> omega, ?_⟩
      rcases hc with ⟨h4, _⟩ | ⟨h4, h5, h6, _⟩
      · exact .inl h4
      · exact .inr ⟨h4, h5, h6⟩
  · have hsn : slpE (m ++ [(kI (la + 1), b, r)]) = slpE m ++ (if pAw r = true then [] else [(kI (la + 1), b, r)]) := by
      unfold slpE
      rw [List.filter_append]
      congr 1
      by_cases g : pAw r = true
      · simp [g]
      · simp [g]
    rcases hc with ⟨h4, rfl, rfl⟩ | ⟨h4, h5, h6, hc⟩
    · have : pAw r = true := by unfold pAw; rw [h4]; simp <;> omega
      rw [this, if_pos rfl, List.append_nil] at hsn
      exact ⟨fun e => hW.no (by rw [← hsn]; exact e), fun y m' e => hW.yes y m' (by rw [← hsn]; exact e)⟩
    · have hp : ¬ pAw r = true := by unfold pAw; rw [h4]; simp
      rw [if_neg hp] at hsn
      cases hs : slpE m with
      | nil =>
        obtain ⟨hb0, hw0⟩ := hW.no hs
        rw [hs] at hsn
        rcases hc with ⟨_, rfl, rfl⟩ | ⟨⟨hn, _⟩, _⟩
        · refine ⟨fun e => by rw [hsn] at e; simp at e, fun y m' e => ?_⟩
          rw [hsn] at e
          simp at e
          obtain ⟨rfl, rfl⟩ := e
          exact ⟨rfl, h0.symm, by omega⟩
        · exact absurd hb0 hn
      | cons y m' =>
        obtain ⟨hb1, hw1, hb2⟩ := hW.yes y m' hs
        rw [hs] at hsn
        have hmin : minG y (m' ++ [(kI (la + 1), b, r)]) = match lessE (kI (la + 1), b, r) (minG y m') with | true => (kI (la + 1), b, r) | false => minG y m' := minG_snoc _ _ _
        have hmm : minG y m' ∈ m := by
          have : minG y m' ∈ slpE m := by rw [hs]; exact minG_mem m' y
          exact (List.mem_filter.1 this).1
        have h7 : (minG y m').2.2.i 0 ≤ la := by
          have hml : minG y m' ∈ l := by rw [hl]; exact List.mem_cons_of_mem _ hmm
          rw [h.tab.id _ hml]; exact (h.tab.key _ hml).2.2
        have hless : lessE (kI (la + 1), b, r) (minG y m') = decide (r.i 5 < (minG y m').2.2.i 5) := by
          unfold lessE orI cmpI
          simp only
          rw [h0]
          by_cases c1 : r.i 5 < (minG y m').2.2.i 5
          · simp [c1]
          · by_cases c2 : r.i 5 > (minG y m').2.2.i 5
            · simp [c1, c2]
            · have c3 : ¬ la + 1 < (minG y m').2.2.i 0 := by omega
              have c4 : la + 1 > (minG y m').2.2.i 0 := by omega
              simp [c1, c2, c3, c4]
        refine ⟨fun e => by rw [hsn] at e; simp at e, fun y' m'' e => ?_⟩
        rw [hsn] at e
        simp only [List.cons_append, List.cons.injEq] at e
        obtain ⟨rfl, rfl⟩ := e
        rw [hmin, hless]
        rcases hc with ⟨hlt, rfl, rfl⟩ | ⟨⟨_, hge⟩, rfl, rfl⟩
        · have : r.i 5 < (minG y m').2.2.i 5 := by rcases hlt with h | h <;> omega
          rw [decide_eq_true this]
          exact ⟨rfl, h0.symm, by omega⟩
        · have : ¬ r.i 5 < (minG y m').2.2.i 5 := by omega
          rw [decide_eq_false this]
          exact ⟨hb1, hw1, hb2⟩
theorem EvI.fin {i : Nat} {want best la g : Int} {l l1 : FLs} (h : EvI i want best l la) (hi : 1 ≤ i) {v : Ent3} (hv : victE annB l = some v) (hg : g = v.2.2.i 0) (hl1 : l1 = delF (kI g) l) :
    g = want ∧ (∃ b r, (kI 1, b, r) ∈ l1) ∧ ((l1.filter fun e => pOf annB e.2.2).length : Int) + 1 = i := by
  obtain ⟨m, hsel, hml, hW, hE⟩ := h.sel
  have hvm : v ∈ m := by rw [← hsel]; exact vict_mem hv
  have hvl : v ∈ l := by
    have : v ∈ selE annB l := by rw [hsel]; exact hvm
    exact (List.mem_filter.1 this).1
  have hk : v.1 = kI g := by rw [hg, h.tab.id v hvl]; exact (h.tab.key v hvl).1
  have hg2 : 2 ≤ g := by
    obtain ⟨j, hj, rfl⟩ := List.getElem_of_mem hvm
    have := (hE j hj).k
    rw [hk] at this
    have := Key.i.inj this
    omega
  obtain ⟨k, b, r⟩ := v
  simp only at hk
  subst hk
  obtain ⟨l1', l2', e1, e2, _⟩ := del_split (h.tab.uni hvl) hvl
  refine ⟨?_, ?_, ?_⟩
  · unfold victE at hv
    rw [hsel] at hv
    cases hs : slpE m with
    | nil =>
      rw [hs] at hv
      obtain ⟨_, hw⟩ := hW.no hs
      rw [hw]
      cases m with
      | nil => simp at hml; omega
      | cons e m' =>
        simp only [List.head?_cons, Option.some.injEq] at hv
        have h1 := (hE 0 (by simp)).k
        simp only [List.getElem_cons_zero] at h1
        rw [hv] at h1
        have := Key.i.inj h1
        omega
    | cons y m' =>
      rw [hs] at hv
      simp only [Option.some.injEq] at hv
      rw [(hW.yes y m' hs).2.1, hv, hg]
  · obtain ⟨b0, r0, m0, hl, _⟩ := h.sp
    refine ⟨b0, r0, ?_⟩
    rw [hl1, e2]
    have : (kI 1, b0, r0) ∈ l1' ++ (kI g, b, r) :: l2' := by rw [← e1, hl]; simp
    rcases List.mem_append.1 this with h' | h'
    · simp [h']
    · rcases List.mem_cons.1 h' with h' | h'
      · have := Key.i.inj (Prod.mk.inj h').1; omega
      · simp [h']
  · have h1 : (l.filter fun e => pOf annB e.2.2).length = i := by have h1 : (selE annB l).length = i := by rw [hsel]; exact hml
                                                                  exact h1
    have h2 : pOf annB r = true := (List.mem_filter.1 (vict_mem hv)).2
    rw [hl1, e2]
    rw [e1] at h1
    simp only [List.filter_append, List.length_append, List.filter_cons, h2, if_true, List.length_cons] at h1 ⊢
    omega
end Go.Proofs.YtepkbbkfcnejmaaDoor
