import Derived.Test.YthbejheedpdioaaDoorBindBase
set_option linter.unusedSimpArgs false
set_option linter.unusedVariables false
namespace Go.Proofs.YthbejheedpdioaaDoor
open Go Go.AM Go.RowKit
theorem r32 (q : AV → List Ob → Prop) :
  (aCode Tryd.K [] Tryd.b59 (kRetF Tryd.K Tryd.f59.results.toList q) ⟨List.replicate (Tryd.f59.ntmps) .jk, []⟩) = (
  q (AV.mp 0) [Ob.map KK.str [(Key.s (⟨#[99, 104, 97, 116]⟩ : ByteArray), mkI .i64 0), (Key.s (⟨#[]⟩ : ByteArray), mkI .i64 1), (Key.s (⟨#[97, 119, 97, 121]⟩ : ByteArray), mkI .i64 2), (Key.s (⟨#[120, 97]⟩ : ByteArray), mkI .i64 3), (Key.s (⟨#[100, 110, 100]⟩ : ByteArray), mkI .i64 4)]]) := by kernel_rfl
def rankM : List (Key × AV) := [(.s ⟨#[99, 104, 97, 116]⟩, mkI .i64 0), (.s ⟨#[]⟩, mkI .i64 1), (.s ⟨#[97, 119, 97, 121]⟩, mkI .i64 2), (.s ⟨#[120, 97]⟩, mkI .i64 3), (.s ⟨#[100, 110, 100]⟩, mkI .i64 4)]
def E32 : List AV → (AV → List Ob → Prop) → Prop := fun al q => match al with
  | [] => q (.mp 0) [.map .str rankM]
  | _ => False
theorem c32 : ESound Tryd.prog 59 (newE E32) := by
  refine new_fn (c := Tryd.b59) mixed Tryd.K_ok gsound_nil Tryd.func59 rfl rfl Tryd.call59 fun al q h => ?_
  unfold E32 at h; split at h
  · exact cast (r32 q).symm h
  · exact h.elim
abbrev G24 : List (FuncId × En) := [(59, .full (newE E32))]
theorem r24 (es : List (List D)) (i : Int) (q : AV → Prop) :
  (aCode Tryd.K G24 Tryd.b49 (kRet Tryd.K Tryd.f49.results.toList q) ⟨[.d (.sl es), mkI .i64 i] ++ List.replicate (Tryd.f49.ntmps - 2) .jk, []⟩) = (
  ((List.length es) ≤ LIM) →
  bcase (decide (i < ((List.length es) : Int))) (
   (((0 : Int) ≤ i) ∧ (i < ((List.length es) : Int))) ∧
   ((List.length (List.getD es (Int.toNat i) [])) = 1) ∧
   ((1 : Nat) ≤ (List.length (List.getD es (Int.toNat i) []))) ∧
   ((List.getD (List.getD es (Int.toNat i) []) 0 d0) = (D.v (.string (strD (List.getD (List.getD es (Int.toNat i) []) 0 d0))))) ∧
   bcase (decide ((⟨#[99, 104, 97, 116]⟩ : ByteArray) = (strD (List.getD (List.getD es (Int.toNat i) []) 0 d0)))) (
    q (mkI .i64 0)) (
    bcase (decide ((⟨#[]⟩ : ByteArray) = (strD (List.getD (List.getD es (Int.toNat i) []) 0 d0)))) (
     q (mkI .i64 1)) (
     bcase (decide ((⟨#[97, 119, 97, 121]⟩ : ByteArray) = (strD (List.getD (List.getD es (Int.toNat i) []) 0 d0)))) (
      q (mkI .i64 2)) (
      bcase (decide ((⟨#[120, 97]⟩ : ByteArray) = (strD (List.getD (List.getD es (Int.toNat i) []) 0 d0)))) (
       q (mkI .i64 3)) (
       bcase (decide ((⟨#[100, 110, 100]⟩ : ByteArray) = (strD (List.getD (List.getD es (Int.toNat i) []) 0 d0)))) (
        q (mkI .i64 4)) (
        q (mkI .i64 1))))))) (
   q (mkI .i64 1))) := by kernel_rfl
def sChat : ByteArray := ⟨#[99, 104, 97, 116]⟩
def sAway : ByteArray := ⟨#[97, 119, 97, 121]⟩
def sXa : ByteArray := ⟨#[120, 97]⟩
def sDnd : ByteArray := ⟨#[100, 110, 100]⟩
def rankS (s : ByteArray) : Int := if sChat = s then 0 else if ⟨#[]⟩ = s then 1 else if sAway = s then 2 else if sXa = s then 3 else if sDnd = s then 4 else 1
def rankOf (l : List ByteArray) (i : Int) : Int := if i < l.length then rankS (l.getD i.toNat ⟨#[]⟩) else 1
def F24 : List AV → Option (Prop × AV) := fun al => match al with
  | [.d (.sl es), .d (.v (.int .i64 i))] => some (es = strsD (unSS es) ∧ 0 ≤ i, mkI .i64 (rankOf (unSS es) i))
  | _ => none
theorem c24 : PSound Tryd.prog 49 (detE F24) := by
  refine det_fn (c := Tryd.b49) mixed Tryd.K_ok (gsound_cons (e := .full (newE E32)) c32 gsound_nil) Tryd.func49 rfl rfl Tryd.call49 fun al p r q hF hp hq => ?_
  unfold F24 at hF; split at hF <;> cases hF
  rename_i es i
  obtain ⟨hes, h0⟩ := hp
  generalize unSS es = l at hes hq
  subst hes
  refine cast (r24 _ _ q).symm ?_
  intro hlim
  unfold rankOf at hq
  refine bcase_mk (fun h => ?_) (fun h => ?_)
  · have hi : i < l.length := by simpa using h
    have hn : i.toNat < l.length := by omega
    rw [if_pos hi] at hq
    rw [strsD_getD l _ hn]
    refine ⟨⟨h0, by simpa using hi⟩, rfl, by simp, rfl, ?_⟩
    simp only [List.getD_cons_zero, strD_str]
    generalize l.getD i.toNat ⟨#[]⟩ = s at hq
    unfold rankS at hq
    refine bcase_mk (fun h => ?_) fun h => bcase_mk (fun h2 => ?_) fun h2 => bcase_mk (fun h3 => ?_) fun h3 => bcase_mk (fun h4 => ?_) fun h4 => bcase_mk (fun h5 => ?_) fun h5 => ?_
    all_goals
      simp only [decide_eq_true_eq, decide_eq_false_iff_not] at *
      simp_all [sChat, sAway, sXa, sDnd]
  · have hi : ¬ i < l.length := by simpa using h
    rw [if_neg hi] at hq
    exact hq
abbrev G11 : List (FuncId × En) := [(49, .det F24)]
noncomputable def r11_k0 (q : AV → Prop) : Kont := kBlk (0 : Nat) (kSeq (aCode Tryd.K G11 (cAt [1, 1, 1, 1] Tryd.b39) (kRet Tryd.K (Array.toList (Func.results Tryd.f39)) q)) (kRet Tryd.K (Array.toList (Func.results Tryd.f39)) q))
theorem r11 (ds es : List (List D)) (q : AV → Prop) :
  (aCode Tryd.K G11 Tryd.b39 (kRet Tryd.K Tryd.f39.results.toList q) ⟨[.d (.sl ds), .d (.sl es)] ++ List.replicate (Tryd.f39.ntmps - 2) .jk, []⟩) = (
  ((List.length ds) ≤ LIM) →
  bcase (((List.length ds) : Int) == (0 : Int)) (
   q (AV.tp [mkS ⟨#[]⟩, mkB false])) (
   ((List.length ds) ≤ LIM) →
   ALoop (aCode Tryd.K G11 (cAt [1, 1, 1, 0, 1, 0, 0] Tryd.b39)) (r11_k0 q) ⟨[AV.d (.sl ds), AV.d (.sl es), AV.jk, AV.jk, mkS ⟨#[]⟩, mkB false, mkI .i64 0, AV.jk, AV.d (.sl ds), mkI .i64 ((List.length ds) : Int), mkB false, AV.d (.sl ds), mkI .i64 ((List.length ds) : Int), mkI .i64 0, AV.jk, AV.jk, AV.jk, AV.jk, AV.jk, AV.jk, AV.jk, AV.jk, AV.jk, AV.jk, AV.jk, AV.jk, AV.jk, AV.jk, AV.jk], []⟩)) := by kernel_rfl
noncomputable abbrev b11 : Code := cAt [1, 1, 1, 0, 1, 0, 0] Tryd.b39
def st11 (ds es : List (List D)) (best i : Int) : S := ⟨[.d (.sl ds), .d (.sl es), .jk, .jk, mkS ⟨#[]⟩, mkB false, mkI .i64 best, .jk, .d (.sl ds), mkI .i64 ds.length, mkB false, .d (.sl ds), mkI .i64 ds.length, mkI .i64 i, .jk, .jk, .jk, .jk, .jk, .jk, .jk, .jk, .jk, .jk, .jk, .jk, .jk, .jk, .jk], []⟩
theorem r11_b {ι : Type} (st : ι → S) (inv : ι → Prop) (μ : ι → Nat) (k : ι) (ds es : List (List D)) (best i : Int) (q : AV → Prop) :
  (aCode Tryd.K G11 b11 (kFam st inv μ k (r11_k0 q)) (st11 ds es best i)) = (
  bcase (decide (i < ((List.length ds) : Int))) (
   ((es = (strsD (unSS es))) ∧ ((0 : Int) ≤ i)) ∧
   ((es = (strsD (unSS es))) ∧ ((0 : Int) ≤ best)) ∧
   bcase (decide ((rankOf (unSS es) i) < (rankOf (unSS es) best))) (
    FamNext st inv μ k ⟨[AV.d (.sl ds), AV.d (.sl es), AV.jk, AV.jk, mkS ⟨#[]⟩, mkB false, mkI .i64 i, mkI .i64 i, AV.d (.sl ds), mkI .i64 ((List.length ds) : Int), mkB false, AV.d (.sl ds), mkI .i64 ((List.length ds) : Int), mkI .i64 (IntKind.wrap .i64 (i + (1 : Int))), mkB true, mkI .i64 i, AV.d (.sl es), mkI .i64 i, mkI .i64 (rankOf (unSS es) i), AV.d (.sl es), mkI .i64 best, mkI .i64 (rankOf (unSS es) best), mkB true, mkI .i64 i, mkI .i64 (IntKind.wrap .i64 (i + (1 : Int))), AV.jk, AV.jk, AV.jk, AV.jk], []⟩) (
    FamNext st inv μ k ⟨[AV.d (.sl ds), AV.d (.sl es), AV.jk, AV.jk, mkS ⟨#[]⟩, mkB false, mkI .i64 best, mkI .i64 i, AV.d (.sl ds), mkI .i64 ((List.length ds) : Int), mkB false, AV.d (.sl ds), mkI .i64 ((List.length ds) : Int), mkI .i64 (IntKind.wrap .i64 (i + (1 : Int))), mkB true, mkI .i64 i, AV.d (.sl es), mkI .i64 i, mkI .i64 (rankOf (unSS es) i), AV.d (.sl es), mkI .i64 best, mkI .i64 (rankOf (unSS es) best), mkB false, AV.jk, mkI .i64 (IntKind.wrap .i64 (i + (1 : Int))), AV.jk, AV.jk, AV.jk, AV.jk], []⟩)) (
   (((0 : Int) ≤ best) ∧ (best < ((List.length ds) : Int))) ∧
   ((List.length (List.getD ds (Int.toNat best) [])) = 1) ∧
   ((1 : Nat) ≤ (List.length (List.getD ds (Int.toNat best) []))) ∧
   ((List.getD (List.getD ds (Int.toNat best) []) 0 d0) = (D.v (.string (strD (List.getD (List.getD ds (Int.toNat best) []) 0 d0))))) ∧
   q (AV.tp [mkS (strD (List.getD (List.getD ds (Int.toNat best) []) 0 d0)), mkB true]))) := by kernel_rfl
def bestTo (l : List ByteArray) : Nat → Nat
  | 0 => 0
  | n + 1 => if rankOf l (n : Int) < rankOf l (bestTo l n : Int) then n else bestTo l n
theorem bestTo_lt (l : List ByteArray) : ∀ n, n ≠ 0 → bestTo l n < n
  | 0, h => absurd rfl h
  | n + 1, _ => by
    unfold bestTo; split
    · omega
    · by_cases h : n = 0
      · subst h; simp [bestTo]
      · have := bestTo_lt l n h; omega
def bestF (ds l : List ByteArray) : ByteArray × Bool := if ds.length = 0 then (⟨#[]⟩, false) else (ds.getD (bestTo l ds.length) ⟨#[]⟩, true)
def F11 : List AV → Option (Prop × AV) := fun al => match al with
  | [.d (.sl ds), .d (.sl es)] => some (ds = strsD (unSS ds) ∧ es = strsD (unSS es), .tp [mkS (bestF (unSS ds) (unSS es)).1, mkB (bestF (unSS ds) (unSS es)).2])
  | _ => none
theorem c11 : PSound Tryd.prog 39 (detE F11) := by
  refine det_fn (c := Tryd.b39) mixed Tryd.K_ok (gsound_det c24 gsound_nil) Tryd.func39 rfl rfl Tryd.call39 fun al p r q hF hp hq => ?_
  unfold F11 at hF; split at hF <;> cases hF
  rename_i ds es
  obtain ⟨hds, hes⟩ := hp
  generalize unSS ds = d at hds hq
  generalize unSS es = l at hes hq
  subst hds hes
  refine cast (r11 _ _ q).symm ?_
  intro hlim
  have hL : d.length ≤ 2147483648 := by simpa [LIM] using hlim
  refine bcase_mk (fun h => ?_) (fun h _ => ?_)
  · have h0 : d.length = 0 := by simpa using h
    simpa [bestF, h0] using hq
  · have h0 : d.length ≠ 0 := by simpa using h
    refine ALoop.intro (fun n : Nat => st11 (strsD d) (strsD l) (bestTo l n : Nat) (n : Nat)) (fun n => n ≤ d.length) (fun n => d.length - n) ⟨[], 0, by simp [S.le, sealAll, leL, jks, st11, bestTo], by simp⟩ fun n hn => ?_
    refine cast (r11_b _ _ _ _ _ _ _ _ _).symm ?_
    refine bcase_mk (fun h => ?_) (fun h => ?_)
    · have hlt : n < d.length := by simpa using h
      have hw : IntKind.i64.wrap ((n : Int) + 1) = ((n + 1 : Nat) : Int) := by rw [IntWalk.i64_in] <;> omega
      rw [hw]
      refine ⟨⟨by simp, by omega⟩, ⟨by simp, by omega⟩, ?_⟩
      simp only [unSS_strsD]
      refine bcase_mk (fun h => ?_) (fun h => ?_)
      · have h : rankOf l (n : Int) < rankOf l (bestTo l n : Int) := by simpa using h
        refine .mk [] (n + 1) ?_ hlt (show d.length - (n + 1) < d.length - n by omega)
        simp [S.le, sealAll, leL, jks, st11, bestTo, h]
      · have h : ¬ rankOf l (n : Int) < rankOf l (bestTo l n : Int) := by simpa using h
        refine .mk [] (n + 1) ?_ hlt (show d.length - (n + 1) < d.length - n by omega)
        simp [S.le, sealAll, leL, jks, st11, bestTo, h]
    · have hge : ¬ n < d.length := by simpa using h
      have hn : n = d.length := by omega
      subst hn
      have hb := bestTo_lt l d.length h0
      have e : (bestTo l d.length : Int).toNat = bestTo l d.length := by omega
      rw [e, strsD_getD d _ hb]
      refine ⟨⟨by omega, by simpa using hb⟩, rfl, by simp, rfl, ?_⟩
      simpa [bestF, h0] using hq
end Go.Proofs.YthbejheedpdioaaDoor
