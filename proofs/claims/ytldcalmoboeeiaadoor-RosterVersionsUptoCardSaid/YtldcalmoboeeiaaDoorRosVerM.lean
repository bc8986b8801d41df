import Derived.Test.YtldcalmoboeeiaaDoorRosLaw1
import Derived.Test.YtldcalmoboeeiaaDoorFrame4
set_option linter.unusedSimpArgs false
set_option linter.unusedVariables false
namespace Go.Proofs.YtldcalmoboeeiaaDoor
open Go Go.AM Go.RowKit
attribute [local irreducible] aCode aUnr aUnS aOut
theorem good_does {us : List BA} (hn : us.Nodup) {sd : Sds} {nm : Nms} (g : Good us sd nm) (vs : Vss) (ul : List BA) (k a b c : Int) (x : BA) : Good us (doesO us sd nm vs ul k a b c x).sd (doesO us sd nm vs ul k a b c x).nm := by
  unfold doesO
  split
  · exact good_name hn g vs _ _ _
  · split
    · exact good_actO hn g vs _ _ _
    · exact good_rem g vs _ _
def opD (o : Op) : List D := [.v (.int .i64 o.k), .v (.int .i64 o.a), .v (.int .i64 o.b), .v (.int .i64 o.c), .v (.string o.x)]
def opsD (l : List Op) : List (List D) := l.map opD
def unOp (c : List D) : Op := ⟨intD (c.getD 0 d0), intD (c.getD 1 d0), intD (c.getD 2 d0), intD (c.getD 3 d0), strD (c.getD 4 d0)⟩
def unOps (es : List (List D)) : List Op := es.map unOp
theorem opsD_getD (l : List Op) (n : Nat) (h : n < l.length) : (opsD l).getD n [] = opD l[n] := by
  simp [opsD, List.getD_eq_getElem?_getD, h]
theorem opsD_len (l : List Op) : (opsD l).length = l.length := by simp [opsD]
theorem unOps_ops (l : List Op) : unOps (opsD l) = l := by
  unfold unOps opsD
  rw [List.map_map]
  exact (List.map_congr_left fun x _ => rfl).trans (List.map_id l)
theorem rEarly (l : List Op) (q : AV → Prop) :
  (aCode Tryd.K [] Tryd.b14 (kRet Tryd.K Tryd.f14.results.toList q) ⟨[.d (.sl (opsD l))] ++ List.replicate (Tryd.f14.ntmps - 1) .jk, []⟩) = (
  ((List.length (opsD l)) ≤ LIM) →
  (IntKind.i64 = IntKind.i64) ∧
  (((0 : Int) ≤ (if (80 : Int) < ((List.length (opsD l)) : Int) then (80 : Int) else ((List.length (opsD l)) : Int))) ∧ ((if (80 : Int) < ((List.length (opsD l)) : Int) then (80 : Int) else ((List.length (opsD l)) : Int)) ≤ ((List.length (opsD l)) : Int))) ∧
  q (AV.d (.sl (List.take (Int.toNat (if (80 : Int) < ((List.length (opsD l)) : Int) then (80 : Int) else ((List.length (opsD l)) : Int))) (opsD l))))) := by kernel_rfl
noncomputable def rSame_k0 (q : AV → Prop) : Kont := kBlk (0 : Nat) (kSeq (aCode Tryd.K [] (cAt [1, 1, 1] Tryd.b17) (kRet Tryd.K (Array.toList (Func.results Tryd.f17)) q)) (kRet Tryd.K (Array.toList (Func.results Tryd.f17)) q))
theorem rSame (a b : List It) (q : AV → Prop) :
  (aCode Tryd.K [] Tryd.b17 (kRet Tryd.K Tryd.f17.results.toList q) ⟨[.d (.sl (itsD a)), .d (.sl (itsD b))] ++ List.replicate (Tryd.f17.ntmps - 2) .jk, []⟩) = (
  ((List.length (itsD a)) ≤ LIM) →
  ((List.length (itsD b)) ≤ LIM) →
  bcase (((List.length (itsD a)) : Int) != ((List.length (itsD b)) : Int)) (
   q (mkB false)) (
   ALoop (aCode Tryd.K [] (cAt [1, 1, 0, 1, 0, 0] Tryd.b17)) (rSame_k0 q) ⟨[AV.d (.sl (itsD a)), AV.d (.sl (itsD b)), AV.jk, AV.jk, mkB false, mkI .i64 (0 : Int), AV.d (.sl (itsD a)), mkI .i64 ((List.length (itsD a)) : Int), AV.d (.sl (itsD b)), mkI .i64 ((List.length (itsD b)) : Int), mkB false] ++ (jks 15), []⟩)) := by kernel_rfl
def FEarly : List AV → Option (Prop × AV) := fun al => match al with
  | [.d (.sl es)] => some (es = opsD (unOps es), .d (.sl (opsD ((unOps es).take 80))))
  | _ => none
def stSm (a b : List It) (i : Int) : S := ⟨[.d (.sl (itsD a)), .d (.sl (itsD b)), .jk, .jk, mkB false, mkI .i64 i] ++ jks 20, []⟩
theorem rSame_b {ι : Type} (st : ι → S) (inv : ι → Prop) (μ : ι → Nat) (k : ι) (a b : List It) (i : Int) (q : AV → Prop) :
  (aCode Tryd.K [] (cAt [1, 1, 0, 1, 0, 0] Tryd.b17) (kFamM [] (maskOf (stSm a b i)) st inv μ k (rSame_k0 q)) (stSm a b i)) = (
  ((List.length (itsD a)) ≤ LIM) →
  bcase (decide (i < ((List.length (itsD a)) : Int))) (
   (((0 : Int) ≤ i) ∧ (i < ((List.length (itsD a)) : Int))) ∧
   ((List.length (List.getD (itsD a) (Int.toNat i) [])) = 4) ∧
   (4 ≤ (List.length (List.getD (itsD a) (Int.toNat i) []))) ∧
   (((List.getD (List.getD (itsD a) (Int.toNat i) []) (0 : Nat) d0) = (D.v (.string (strD (List.getD (List.getD (itsD a) (Int.toNat i) []) (0 : Nat) d0))))) ∧ (((List.getD (List.drop (1 : Nat) (List.getD (itsD a) (Int.toNat i) [])) (0 : Nat) d0) = (D.v (.string (strD (List.getD (List.drop (1 : Nat) (List.getD (itsD a) (Int.toNat i) [])) (0 : Nat) d0))))) ∧ (((List.getD (List.drop (1 : Nat) (List.drop (1 : Nat) (List.getD (itsD a) (Int.toNat i) []))) (0 : Nat) d0) = (D.v (.int .i64 (intD (List.getD (List.drop (1 : Nat) (List.drop (1 : Nat) (List.getD (itsD a) (Int.toNat i) []))) (0 : Nat) d0))))) ∧ (((List.getD (List.drop (1 : Nat) (List.drop (1 : Nat) (List.drop (1 : Nat) (List.getD (itsD a) (Int.toNat i) [])))) (0 : Nat) d0) = (D.v (.bool (boolD (List.getD (List.drop (1 : Nat) (List.drop (1 : Nat) (List.drop (1 : Nat) (List.getD (itsD a) (Int.toNat i) [])))) (0 : Nat) d0))))) ∧ True)))) ∧
   (((0 : Int) ≤ i) ∧ (i < ((List.length (itsD b)) : Int))) ∧
   ((List.length (List.getD (itsD b) (Int.toNat i) [])) = 4) ∧
   (4 ≤ (List.length (List.getD (itsD b) (Int.toNat i) []))) ∧
   (((List.getD (List.getD (itsD b) (Int.toNat i) []) (0 : Nat) d0) = (D.v (.string (strD (List.getD (List.getD (itsD b) (Int.toNat i) []) (0 : Nat) d0))))) ∧ (((List.getD (List.drop (1 : Nat) (List.getD (itsD b) (Int.toNat i) [])) (0 : Nat) d0) = (D.v (.string (strD (List.getD (List.drop (1 : Nat) (List.getD (itsD b) (Int.toNat i) [])) (0 : Nat) d0))))) ∧ (((List.getD (List.drop (1 : Nat) (List.drop (1 : Nat) (List.getD (itsD b) (Int.toNat i) []))) (0 : Nat) d0) = (D.v (.int .i64 (intD (List.getD (List.drop (1 : Nat) (List.drop (1 : Nat) (List.getD (itsD b) (Int.toNat i) []))) (0 : Nat) d0))))) ∧ (((List.getD (List.drop (1 : Nat) (List.drop (1 : Nat) (List.drop (1 : Nat) (List.getD (itsD b) (Int.toNat i) [])))) (0 : Nat) d0) = (D.v (.bool (boolD (List.getD (List.drop (1 : Nat) (List.drop (1 : Nat) (List.drop (1 : Nat) (List.getD (itsD b) (Int.toNat i) [])))) (0 : Nat) d0))))) ∧ True)))) ∧
   bcase (!(Bool.and (decide ((strD (List.getD (List.getD (itsD a) (Int.toNat i) []) (0 : Nat) d0)) = (strD (List.getD (List.getD (itsD b) (Int.toNat i) []) (0 : Nat) d0)))) (Bool.and (decide ((strD (List.getD (List.drop (1 : Nat) (List.getD (itsD a) (Int.toNat i) [])) (0 : Nat) d0)) = (strD (List.getD (List.drop (1 : Nat) (List.getD (itsD b) (Int.toNat i) [])) (0 : Nat) d0)))) (Bool.and ((intD (List.getD (List.drop (1 : Nat) (List.drop (1 : Nat) (List.getD (itsD a) (Int.toNat i) []))) (0 : Nat) d0)) == (intD (List.getD (List.drop (1 : Nat) (List.drop (1 : Nat) (List.getD (itsD b) (Int.toNat i) []))) (0 : Nat) d0))) (Bool.and ((boolD (List.getD (List.drop (1 : Nat) (List.drop (1 : Nat) (List.drop (1 : Nat) (List.getD (itsD a) (Int.toNat i) [])))) (0 : Nat) d0)) == (boolD (List.getD (List.drop (1 : Nat) (List.drop (1 : Nat) (List.drop (1 : Nat) (List.getD (itsD b) (Int.toNat i) [])))) (0 : Nat) d0))) true))))) (
    q (mkB false)) (
    FamNext st inv μ k ⟨[AV.d (.sl (itsD a)), AV.d (.sl (itsD b)), AV.jk, AV.jk, mkB false, mkI .i64 (IntKind.wrap .i64 (i + (1 : Int)))] ++ (jks 20), []⟩)) (
   q (mkB true))) := by kernel_rfl
theorem u5_nodup : u5.Nodup := by decide
theorem cEarly : PSound Tryd.prog 14 (detE FEarly) := by
  refine det_fn (c := Tryd.b14) mixed Tryd.K_ok gsound_nil Tryd.func14 rfl rfl Tryd.call14 fun al p r q hF hp hq => ?_
  unfold FEarly at hF; split at hF <;> cases hF
  rename_i es
  generalize unOps es = l at hp hq
  subst hp
  refine cast (rEarly l q).symm fun _ => ⟨rfl, ?_, ?_⟩
  · rw [opsD_len]; split <;> omega
  · have e : (opsD l).take (if 80 < ((opsD l).length : Int) then (80 : Int) else ((opsD l).length : Int)).toNat = opsD (l.take 80) := by
      rw [opsD_len]
      unfold opsD
      rw [← List.map_take]
      split
      · rfl
      · rw [Int.toNat_natCast, List.take_length, List.take_of_length_le (by omega)]
    rw [e]
    exact hq
theorem cSame : PSound Tryd.prog 17 (detE FEq) := by
  refine det_fn (c := Tryd.b17) mixed Tryd.K_ok gsound_nil Tryd.func17 rfl rfl Tryd.call17 fun al p r q hF hp hq => ?_
  unfold FEq at hF; split at hF <;> cases hF
  rename_i x y
  obtain ⟨h1, h2⟩ := hp
  generalize unIts x = a at h1 hq
  generalize unIts y = b at h2 hq
  subst h1 h2
  refine cast (rSame a b q).symm fun hla _ => bcase_mk (fun hne => ?_) (fun heq => ?_)
  · have hne : ¬ a = b := fun e => by subst e; simp at hne
    simpa [hne] using hq
  · have hlen : a.length = b.length := by
      rw [itsD_len, itsD_len] at heq
      have : (a.length : Int) = b.length := by simpa using heq
      omega
    rw [itsD_len] at hla
    refine ALoop.introM [] (maskOf (stSm a b 0)) (fun n : Nat => stSm a b n) (fun n => n ≤ a.length ∧ ∀ k, k < n → a[k]? = b[k]?) (fun n => a.length - n) ⟨[], 0, ?_, Nat.zero_le _, by simp⟩ fun n ⟨hn, hI⟩ => ?_
    · simp [S.le, sealAll, leL, leA, jks, stSm, mkB, mkI]
    · refine cast (rSame_b _ _ _ n a b n q).symm fun _ => (bcase_dec (fun hlt => ?_) (fun hge => ?_))
      · rw [itsD_len] at hlt
        have hlt : n < a.length := by omega
        have hltb : n < b.length := by omega
        have ga := itsD_getD a n hlt
        have gb := itsD_getD b n hltb
        simp only [Int.toNat_natCast, ga, gb]
        refine ⟨⟨by omega, by rw [itsD_len]; omega⟩, rfl, Nat.le_refl _, ⟨rfl, rfl, rfl, rfl, trivial⟩, ⟨by omega, by rw [itsD_len]; omega⟩, rfl, Nat.le_refl _, ⟨rfl, rfl, rfl, rfl, trivial⟩, ?_⟩
        show bcase (!(Bool.and (decide (a[n].c = b[n].c)) (Bool.and (decide (a[n].n = b[n].n)) (Bool.and (a[n].s == b[n].s) (Bool.and (a[n].a == b[n].a) true))))) _ _
        rw [itEq]
        refine bcase_mk (fun hd => ?_) (fun hd => ?_)
        · have hd : ¬ a[n] = b[n] := by simpa using hd
          have hne : ¬ a = b := fun e => hd (by subst e; rfl)
          simpa [hne] using hq
        · have hd : a[n] = b[n] := by simpa using hd
          refine .mk [] (n + 1) ?_ ⟨by omega, fun k hk => ?_⟩ (by omega)
          · rw [wrap_succ hlt hla]
            simp [S.le, sealAll, leL, leA, jks, stSm, mkB, mkI]
          · rcases Nat.lt_or_ge k n with h | h
            · exact hI k h
            · have : k = n := by omega
              subst this
              rw [List.getElem?_eq_getElem hlt, List.getElem?_eq_getElem hltb, hd]
      · rw [itsD_len] at hge
        have e : n = a.length := by omega
        have : a = b := by
          apply List.ext_getElem?
          intro k
          rcases Nat.lt_or_ge k n with h | h
          · exact hI k h
          · rw [List.getElem?_eq_none (by omega), List.getElem?_eq_none (by omega)]
        simpa [this] using hq
theorem u5_ok : u5.length ≤ 1000 ∧ ∀ s ∈ u5, s.size ≤ 1000 := ⟨by decide, by decide⟩
theorem ty_ops {P : Program} {n : Nat} {es : List (List D)} {e : TypeId} {fs : Array Field} {i s : TypeId} (hu : P.underlying e = some (.struct fs)) (hf : fs.toList.map (·.type) = [i, i, i, i, s]) (hi : P.underlying i = some (.int .i64)) (hs : P.underlying s = some .string) (h : ∀ c ∈ es, Ty P (n + 2) e c) : ∃ l : List Op, es = opsD l := by
  obtain ⟨l, h, _⟩ := list_of opD (fun _ => True) es fun c hc => by
    have h1 := h c hc
    unfold Ty at h1; rw [hu] at h1
    simp only [hf] at h1
    obtain ⟨a1, b1, rfl, p1, a2, b2, rfl, p2, a3, b3, rfl, p3, a4, b4, rfl, p4, a5, b5, rfl, p5, rfl⟩ := h1
    unfold Ty at p1 p2 p3 p4 p5
    rw [hi] at p1 p2 p3 p4
    rw [hs] at p5
    obtain ⟨i1, rfl, _⟩ := p1
    obtain ⟨i2, rfl, _⟩ := p2
    obtain ⟨i3, rfl, _⟩ := p3
    obtain ⟨i4, rfl, _⟩ := p4
    obtain ⟨x, rfl, _⟩ := p5
    exact ⟨⟨i1, i2, i3, i4, x⟩, rfl, trivial⟩
  exact ⟨l, h⟩
theorem arg_ops {P : Program} {t e : TypeId} {a : AV} {fs : Array Field} {i s : TypeId} (hu : P.underlying t = some (.slice e)) (he : P.underlying e = some (.struct fs)) (hf : fs.toList.map (·.type) = [i, i, i, i, s]) (hi : P.underlying i = some (.int .i64)) (hs : P.underlying s = some .string) (h : ∃ ds, Ty P 12 t ds ∧ a = argAV (aggB P t) ds) : ∃ l : List Op, a = .d (.sl (opsD l)) := by
  obtain ⟨es, rfl, hl, hh⟩ := arg_slice hu h
  obtain ⟨l, rfl⟩ := ty_ops he hf hi hs hh
  exact ⟨l, rfl⟩
end Go.Proofs.YtldcalmoboeeiaaDoor

namespace Go.Proofs.YtldcalmoboeeiaaDoor
open Go Go.AM Go.RowKit
theorem alk_other {k k' : BA × BA} (n : BA) (nm : Nms) (h : k ≠ k') : alk k (aset k' n nm) = alk k nm := by rw [alk_set, if_neg h]
/-- Whose items an act, or a name, may turn. -/
theorem side_act_other {sd : Sds} {u c : BA} (act : Int) {w : BA} (h1 : w ≠ u) (h2 : w ≠ c) (x : BA) : sideOf (actSd sd u c act) w x = sideOf sd w x := by
  unfold actSd
  rw [side_set, side_set, if_neg (fun e => h2 (by injection e)), if_neg (fun e => h1 (by injection e))]
theorem two_lohi (u c : BA) : (loB u c = u ∧ hiB u c = c) ∨ (loB u c = c ∧ hiB u c = u) := by
  unfold loB hiB
  split
  · exact .inr ⟨rfl, rfl⟩
  · exact .inl ⟨rfl, rfl⟩
theorem ver_set (vs : Vss) (a : BA) (n : Int) (w : BA) : verOf (aset a n vs) w = if w = a then n else verOf vs w := by
  unfold verOf
  rw [alk_set]
  split <;> rfl
theorem ver_bump (vs : Vss) (a w : BA) : verOf (bump vs a) w = if w = a then IntKind.wrap .i64 (verOf vs a + 1) else verOf vs w := ver_set _ _ _ _
/-- What a turn does to one user's items, version, and whether it is pushed. -/
theorem turn_one {us : List BA} {sd sd' : Sds} {nm nm' : Nms} {vs : Vss} {u c : BA} (hne : u ≠ c) (T : List Td) (w : BA) (ho : w ≠ u → w ≠ c → itemsM us sd' nm' w = itemsM us sd nm w) {r : Out} (hr : turnO us sd nm vs u c sd' nm' T = r) :
    (itemsM us r.sd r.nm w = itemsM us sd nm w → verOf r.vs w = verOf vs w ∧ inB w r.p = false) ∧
    (itemsM us r.sd r.nm w ≠ itemsM us sd nm w → verOf r.vs w = IntKind.wrap .i64 (verOf vs w + 1) ∧ inB w r.p = true) := by
  subst hr
  show (itemsM us sd' nm' w = itemsM us sd nm w → verOf (bumps vs (pushM us sd sd' nm nm' u c)) w = verOf vs w ∧ inB w (pushM us sd sd' nm nm' u c) = false) ∧ (itemsM us sd' nm' w ≠ itemsM us sd nm w → verOf (bumps vs (pushM us sd sd' nm nm' u c)) w = IntKind.wrap .i64 (verOf vs w + 1) ∧ inB w (pushM us sd sd' nm nm' u c) = true)
  have hab : loB u c ≠ hiB u c := by
    rcases two_lohi u c with ⟨e1, e2⟩ | ⟨e1, e2⟩ <;> rw [e1, e2]
    · exact hne
    · exact fun e => hne e.symm
  have ho : w ≠ loB u c → w ≠ hiB u c → itemsM us sd' nm' w = itemsM us sd nm w := by
    rcases two_lohi u c with ⟨e1, e2⟩ | ⟨e1, e2⟩ <;> rw [e1, e2] <;> intro h1 h2
    · exact ho h1 h2
    · exact ho h2 h1
  unfold pushM pushes
  generalize loB u c = a at hab ho
  generalize hiB u c = b at hab ho
  by_cases e1 : itemsM us sd nm a = itemsM us sd' nm' a <;> by_cases e2 : itemsM us sd nm b = itemsM us sd' nm' b
  · simp only [e1, e2, if_true, List.append_nil, bumps, List.foldl_nil]
    refine ⟨fun _ => ⟨trivial, rfl⟩, fun h => (h ?_).elim⟩
    by_cases h1 : w = a
    · rw [h1]; exact e1.symm
    · by_cases h2 : w = b
      · rw [h2]; exact e2.symm
      · exact ho h1 h2
  · simp only [e1, e2, if_true, if_false, List.nil_append, bumps, List.foldl_cons, List.foldl_nil, ver_bump]
    by_cases h2 : w = b
    · subst h2
      exact ⟨fun h => (e2 h.symm).elim, fun _ => ⟨by simp, by simp [inB]⟩⟩
    · have h2' : ¬ b = w := fun e => h2 e.symm
      refine ⟨fun _ => ⟨by simp [h2], by simp [inB, h2']⟩, fun h => (h ?_).elim⟩
      by_cases h1 : w = a
      · rw [h1]; exact e1.symm
      · exact ho h1 h2
  · simp only [e1, e2, if_true, if_false, List.append_nil, bumps, List.foldl_cons, List.foldl_nil, ver_bump]
    by_cases h1 : w = a
    · subst h1
      exact ⟨fun h => (e1 h.symm).elim, fun _ => ⟨by simp, by simp [inB]⟩⟩
    · have h1' : ¬ a = w := fun e => h1 e.symm
      refine ⟨fun _ => ⟨by simp [h1], by simp [inB, h1']⟩, fun h => (h ?_).elim⟩
      by_cases h2 : w = b
      · rw [h2]; exact e2.symm
      · exact ho h1 h2
  · simp only [e1, e2, if_false, List.cons_append, List.nil_append, bumps, List.foldl_cons, List.foldl_nil, ver_bump]
    by_cases h1 : w = a
    · subst h1
      exact ⟨fun h => (e1 h.symm).elim, fun _ => ⟨by simp [hab], by simp [inB]⟩⟩
    · by_cases h2 : w = b
      · subst h2
        have hba : ¬ w = a := h1
        exact ⟨fun h => (e2 h.symm).elim, fun _ => ⟨by simp [hba], by simp [inB]⟩⟩
      · have h1' : ¬ a = w := fun e => h1 e.symm
        have h2' : ¬ b = w := fun e => h2 e.symm
        exact ⟨fun _ => ⟨by simp [h1, h2], by simp [inB, h1', h2']⟩, fun h => (h (ho h1 h2)).elim⟩
/-- What a step tells: to the one, from the other one. -/
def toldOk (u c : BA) (t : List Td) : Prop := t.length ≤ 2 ∧ ∀ x ∈ t, x.1 = c ∧ x.2.1 = u
theorem told_ok (sd : Sds) (u c : BA) (act : Int) : (toldM sd u c act).length ≤ 1 ∧ ∀ x ∈ toldM sd u c act, x.1 = c ∧ x.2.1 = u := by
  unfold toldM
  split <;> simp
structure StepOk (us : List BA) (sd : Sds) (nm : Nms) (vs : Vss) (u c : BA) (r : Out) : Prop where
  err : r.e ≠ 0 → r.p = [] ∧ r.t = [] ∧ ∀ w, itemsM us r.sd r.nm w = itemsM us sd nm w
  told : toldOk u c r.t
  same : ∀ w, itemsM us r.sd r.nm w = itemsM us sd nm w → verOf r.vs w = verOf vs w ∧ inB w r.p = false
  turned : ∀ w, itemsM us r.sd r.nm w ≠ itemsM us sd nm w → verOf r.vs w = IntKind.wrap .i64 (verOf vs w + 1) ∧ inB w r.p = true
theorem stepOk_err (us : List BA) (sd : Sds) (nm : Nms) (vs : Vss) (u c : BA) (e : Int) : StepOk us sd nm vs u c (errO sd nm vs e) :=
  ⟨fun _ => ⟨rfl, rfl, fun _ => rfl⟩, ⟨by simp [errO], by simp [errO]⟩, fun w _ => ⟨rfl, rfl⟩, fun w h => (h rfl).elim⟩
theorem stepOk_turn {us : List BA} {sd sd' : Sds} {nm nm' : Nms} {vs : Vss} {u c : BA} (hne : u ≠ c) {T : List Td} (hT : toldOk u c T) (ho : ∀ w, w ≠ u → w ≠ c → itemsM us sd' nm' w = itemsM us sd nm w) : StepOk us sd nm vs u c (turnO us sd nm vs u c sd' nm' T) :=
  ⟨fun h => (h rfl).elim, hT, fun w => (turn_one hne T w (ho w) rfl).1, fun w => (turn_one hne T w (ho w) rfl).2⟩
theorem set_other {us : List BA} {sd : Sds} {nm : Nms} {u c : BA} (x : BA) {w : BA} (h : w ≠ u) : itemsM us sd (aset (u, c) x nm) w = itemsM us sd nm w :=
  items_same (fun d => alk_other x nm (fun e => h (by injection e))) (fun _ => rfl)
theorem step_ok {us : List BA} {sd : Sds} {nm : Nms} (g : Good us sd nm) (vs : Vss) (ul : List BA) (k a b c : Int) (x : BA) : StepOk us sd nm vs (pickM ul a) (pickM ul b) (doesO us sd nm vs ul k a b c x) := by
  unfold doesO
  split
  · unfold nameO
    split
    · rename_i h
      exact stepOk_turn (may_zero h).2.2.1 ⟨by simp, by simp⟩ fun w h1 _ => set_other x h1
    · exact stepOk_err _ _ _ _ _ _ _
  · split
    · unfold actO
      split
      · rename_i h
        refine stepOk_turn (may_zero h).2.2.1 ⟨Nat.le_trans (told_ok _ _ _ _).1 (by decide), (told_ok _ _ _ _).2⟩ fun w h1 h2 => ?_
        refine items_same (fun d => ?_) (fun d => side_act_other _ h1 h2 d)
        unfold actNm
        split
        · exact alk_other _ _ (fun e => h1 (by injection e))
        · rfl
      · exact stepOk_err _ _ _ _ _ _ _
    · unfold remO
      split
      · rename_i h
        have hne : pickM ul a ≠ pickM ul b := fun e => by rw [← e, g.self] at h; cases h
        refine stepOk_turn hne ⟨?_, fun y hy => ?_⟩ fun w h1 h2 => ?_
        · unfold remTd
          rw [List.length_append]
          have := (told_ok sd (pickM ul a) (pickM ul b) 3).1
          have := (told_ok (actSd sd (pickM ul a) (pickM ul b) 3) (pickM ul a) (pickM ul b) 4).1
          omega
        · rcases List.mem_append.1 hy with hy | hy
          · exact (told_ok _ _ _ _).2 y hy
          · exact (told_ok _ _ _ _).2 y hy
        · refine items_same (fun d => ?_) (fun d => ?_)
          · rw [alk_del _ _ _ g.un, if_neg (fun e => h1 (by injection e))]
          · unfold remSd
            rw [side_act_other _ h1 h2, side_act_other _ h1 h2]
      · exact stepOk_err _ _ _ _ _ _ _
/-- Versions are small. -/
def verIn (vs : Vss) (i : Nat) : Prop := ∀ w, 0 ≤ verOf vs w ∧ verOf vs w ≤ (i : Int) + 1
theorem ver_next {us : List BA} {sd : Sds} {nm : Nms} {vs : Vss} {u c : BA} {r : Out} (h : StepOk us sd nm vs u c r) {i : Nat} (hi : i ≤ 2147483648) (hv : verIn vs i) : verIn r.vs (i + 1) := fun w => by
  have := hv w
  by_cases e : itemsM us r.sd r.nm w = itemsM us sd nm w
  · rw [(h.same w e).1]; omega
  · rw [(h.turned w e).1, IntWalk.i64_in _ (by omega)]; omega
theorem ver_start : verIn (v0 u5) 0 := fun w => by
  unfold verOf v0 u5
  simp only [List.map_cons, List.map_nil, alk]
  repeat' split
  all_goals simp
end Go.Proofs.YtldcalmoboeeiaaDoor
