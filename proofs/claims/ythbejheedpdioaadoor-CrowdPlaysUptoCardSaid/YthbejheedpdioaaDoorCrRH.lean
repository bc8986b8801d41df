import Derived.Test.YthbejheedpdioaaDoorCrLives
import Derived.Test.YthbejheedpdioaaDoorBindRef
import Derived.Test.YthbejheedpdioaaDoorBindRank
import Derived.Test.YthbejheedpdioaaDoorCrPlain
import Derived.Test.YthbejheedpdioaaDoorCrLeaves
import Derived.Test.YthbejheedpdioaaDoorCrSame
set_option linter.unusedSimpArgs false
set_option linter.unusedVariables false
set_option linter.unnecessarySimpa false
set_option maxRecDepth 10000
namespace Go.Proofs.YthbejheedpdioaaDoor
open Go Go.AM Go.RowKit
noncomputable def r22_k0 (q : AV → Prop) : Kont := kBlk (0 : Nat) (kSeq (aCode Tryd.K [] (cAt [1, 1] Tryd.b58) (kRet Tryd.K (Array.toList (Func.results Tryd.f58)) q)) (kRet Tryd.K (Array.toList (Func.results Tryd.f58)) q))
theorem r22 (es : List (List D)) (s : ByteArray) (q : AV → Prop) :
  (aCode Tryd.K [] Tryd.b58 (kRet Tryd.K Tryd.f58.results.toList q) ⟨[.d (.sl es), mkS s] ++ List.replicate (Tryd.f58.ntmps - 2) .jk, []⟩) = (
  ALoop (aCode Tryd.K [] (cAt [1, 0, 1, 0, 0] Tryd.b58)) (r22_k0 q) ⟨[AV.d (.sl es), mkS s, AV.jk, AV.jk, mkB false, mkI .i64 0, AV.jk, AV.jk, AV.jk, AV.jk, AV.jk, AV.jk, AV.jk, AV.jk, AV.jk, AV.jk, AV.jk, AV.jk], []⟩) := by kernel_rfl
def st22 (es : List (List D)) (s : ByteArray) (i : Int) : S := ⟨[.d (.sl es), mkS s, .jk, .jk, mkB false, mkI .i64 i] ++ jks 12, []⟩
theorem r22_b {ι : Type} (st : ι → S) (inv : ι → Prop) (μ : ι → Nat) (k : ι) (es : List (List D)) (s : ByteArray) (i : Int) (q : AV → Prop) :
  (aCode Tryd.K [] (cAt [1, 0, 1, 0, 0] Tryd.b58) (kFamM [] (maskOf (st22 es s i)) st inv μ k (r22_k0 q)) (st22 es s i)) = (
  ((List.length es) ≤ LIM) →
  bcase (decide (i < ((List.length es) : Int))) (
   (((0 : Int) ≤ i) ∧ (i < ((List.length es) : Int))) ∧
   ((List.length (List.getD es (Int.toNat i) [])) = 1) ∧
   ((1 : Nat) ≤ (List.length (List.getD es (Int.toNat i) []))) ∧
   ((List.getD (List.getD es (Int.toNat i) []) 0 d0) = (D.v (.string (strD (List.getD (List.getD es (Int.toNat i) []) 0 d0))))) ∧
   bcase (decide ((strD (List.getD (List.getD es (Int.toNat i) []) 0 d0)) = s)) (
    q (mkB true)) (
    FamNext st inv μ k ⟨[AV.d (.sl es), mkS s, AV.jk, AV.jk, mkB false, mkI .i64 (IntKind.wrap .i64 (i + (1 : Int))), AV.jk, AV.jk, AV.jk, AV.jk, AV.jk, AV.jk, AV.jk, AV.jk, AV.jk, AV.jk, AV.jk, AV.jk], []⟩)) (
   q (mkB false))) := by kernel_rfl
def F22 : List AV → Option (Prop × AV) := fun al => match al with
  | [.d (.sl es), .d (.v (.string x))] => some (es = strsD (unSS es), mkB (memB x (unSS es)))
  | _ => none
theorem c22 : PSound Tryd.prog 58 (detE F22) := by
  refine det_fn (c := Tryd.b58) mixed Tryd.K_ok gsound_nil Tryd.func58 rfl rfl Tryd.call58 fun al p r q hF hp hq => ?_
  unfold F22 at hF; split at hF <;> cases hF
  rename_i es x
  generalize unSS es = l at hp hq
  subst hp
  refine cast (r22 _ _ q).symm ?_
  refine ALoop.introM [] (maskOf (st22 [] x 0)) (fun n : Nat => st22 (strsD l) x n) (fun n => n ≤ l.length ∧ ∀ k, k < n → l.getD k ⟨#[]⟩ ≠ x) (fun n => l.length - n) ⟨[], 0, by simp [S.le, sealAll, leL, jks, st22], by simp⟩ fun n hn => ?_
  obtain ⟨hn, hall⟩ := hn
  refine cast (r22_b _ _ _ _ _ _ _ _).symm ?_
  simp only [strsD_len]
  intro hlim
  refine bcase_mk (fun h => ?_) (fun h => ?_)
  · have hlt : n < l.length := by simpa using h
    rw [wrap_succ hlt hlim]
    simp only [Int.toNat_natCast]
    simp only [strsD_getD l _ hlt]
    refine ⟨⟨by omega, by omega⟩, rfl, by simp, rfl, bcase_mk (fun h1 => ?_) (fun h1 => ?_)⟩
    · have h1 : l.getD n ⟨#[]⟩ = x := of_decide_eq_true h1
      have : memB x l = true := by
        rw [memB_iff, ← h1, List.getD_eq_getElem?_getD, List.getElem?_eq_getElem hlt]; exact List.getElem_mem _
      rw [this] at hq; exact hq
    · have h1 : ¬ l.getD n ⟨#[]⟩ = x := of_decide_eq_false h1
      exact .mk [] (n + 1) (by simp [S.le, sealAll, leL, jks, st22]) ⟨hlt, fun k hk => by
        by_cases e : k = n
        · subst e; exact h1
        · exact hall k (by omega)⟩ (show l.length - (n + 1) < l.length - n by omega)
  · have hge : ¬ n < l.length := by simpa using h
    have : memB x l = false := by
      cases hm : memB x l
      · rfl
      · rw [memB_iff] at hm
        obtain ⟨k, hk, e⟩ := List.mem_iff_getElem.1 hm
        exact absurd (by rw [List.getD_eq_getElem?_getD, List.getElem?_eq_getElem hk]; exact e) (hall k (by omega))
    rw [this] at hq; exact hq
noncomputable def r12_k0 (q : AV → Prop) : Kont := kBlk (0 : Nat) (kSeq (aCode Tryd.K [((58 : FuncId), En.det F22)] (cAt [1, 1, 1] Tryd.b48) (kRet Tryd.K (Array.toList (Func.results Tryd.f48)) q)) (kRet Tryd.K (Array.toList (Func.results Tryd.f48)) q))
theorem r12 (ds es : List (List D)) (q : AV → Prop) :
  (aCode Tryd.K [(58, .det F22)] Tryd.b48 (kRet Tryd.K Tryd.f48.results.toList q) ⟨[.d (.sl ds), .d (.sl es)] ++ List.replicate (Tryd.f48.ntmps - 2) .jk, []⟩) = (
  ALoop (aCode Tryd.K [((58 : FuncId), En.det F22)] (cAt [1, 1, 0, 1, 0, 0] Tryd.b48)) (r12_k0 q) ⟨[AV.d (.sl ds), AV.d (.sl es), AV.jk, AV.jk, mkS ⟨#[]⟩, mkB false, AV.vw 0 5, mkI .i64 0, AV.jk, AV.jk, AV.vw 0 5, AV.jk, AV.jk, AV.jk, AV.jk, AV.jk, AV.jk, AV.jk, AV.jk, AV.jk, AV.jk, AV.jk, AV.jk, AV.jk, AV.jk, AV.jk, AV.jk, AV.jk, AV.jk, AV.jk, AV.jk, AV.jk, AV.jk, AV.jk, AV.jk, AV.jk, AV.jk, AV.jk, AV.jk, AV.jk, AV.jk, AV.jk, AV.jk, AV.jk, AV.jk, AV.jk, AV.jk, AV.jk, AV.jk], [Ob.row 1 [[D.v (.string ⟨#[99, 104, 97, 116]⟩)], [D.v (.string ⟨#[]⟩)], [D.v (.string ⟨#[97, 119, 97, 121]⟩)], [D.v (.string ⟨#[120, 97]⟩)], [D.v (.string ⟨#[100, 110, 100]⟩)]]]⟩) := by kernel_rfl
def ranksL : List ByteArray := [sChat, ⟨#[]⟩, sAway, sXa, sDnd]
def st12 (ds es : List (List D)) (r : Int) : S := ⟨[.d (.sl ds), .d (.sl es), .jk, .jk, mkS ⟨#[]⟩, mkB false, .d (.sl (strsD ranksL)), mkI .i64 r] ++ jks 41, []⟩
noncomputable def r12_b_k0 {ι : Type} (st : ι → S) (inv : ι → Prop) (μ : ι → Nat) (k : ι) (ds : List (List D)) (es : List (List D)) (r : Int) (q : AV → Prop) : Kont := kBlk (2 : Nat) (kBlk (1 : Nat) (kSeq (aCode Tryd.K [((58 : FuncId), En.det F22)] (cAt [1, 1, 0, 1, 0, 0, 1, 1] Tryd.b48) (kFamM [] (maskOf (st12 ds es r)) st inv μ k (r12_k0 q))) (kFamM [] (maskOf (st12 ds es r)) st inv μ k (r12_k0 q))))
theorem r12_b {ι : Type} (st : ι → S) (inv : ι → Prop) (μ : ι → Nat) (k : ι) (ds es : List (List D)) (r : Int) (q : AV → Prop) :
  (aCode Tryd.K [(58, .det F22)] (cAt [1, 1, 0, 1, 0, 0] Tryd.b48) (kFamM [] (maskOf (st12 ds es r)) st inv μ k (r12_k0 q)) (st12 ds es r)) = (
  (5 ≤ LIM) →
  bcase (decide (r < (5 : Int))) (
   ALoop (aCode Tryd.K [((58 : FuncId), En.det F22)] (cAt [1, 1, 0, 1, 0, 0, 1, 0, 0, 1, 0, 0] Tryd.b48)) (r12_b_k0 st inv μ k ds es r q) ⟨[AV.d (.sl ds), AV.d (.sl es), AV.jk, AV.jk, mkS ⟨#[]⟩, mkB false, AV.d (.sl (strsD ranksL)), mkI .i64 r, mkI .i64 0, AV.jk, AV.jk, mkI .i64 r, AV.d (.sl (strsD ranksL)), mkI .i64 5, mkB true, AV.jk, AV.jk, AV.jk, AV.jk, AV.jk, AV.jk, AV.jk, AV.jk, AV.jk, AV.jk, AV.jk, AV.jk, AV.jk, AV.jk, AV.jk, AV.jk, AV.jk, AV.jk, AV.jk, AV.jk, AV.jk, AV.jk, AV.jk, AV.jk, AV.jk, AV.jk, AV.jk, AV.jk, AV.jk, AV.jk, AV.jk, AV.jk, AV.jk, AV.jk], []⟩) (
   q (AV.tp [mkS ⟨#[]⟩, mkB false]))) := by kernel_rfl
def st12i (ds es : List (List D)) (r i : Int) : S := ⟨[.d (.sl ds), .d (.sl es), .jk, .jk, mkS ⟨#[]⟩, mkB false, .d (.sl (strsD ranksL)), mkI .i64 r, mkI .i64 i] ++ jks 40, []⟩
theorem r12_c {ι : Type} (st : ι → S) (inv : ι → Prop) (μ : ι → Nat) (k : ι) {ι2 : Type} (st2 : ι2 → S) (inv2 : ι2 → Prop) (μ2 : ι2 → Nat) (k2 : ι2) (ds es : List (List D)) (r i : Int) (q : AV → Prop) :
  (aCode Tryd.K [(58, .det F22)] (cAt [1, 1, 0, 1, 0, 0, 1, 0, 0, 1, 0, 0] Tryd.b48) (kFamM [] (maskOf (st12i ds es r i)) st2 inv2 μ2 k2 (r12_b_k0 st inv μ k ds es r q)) (st12i ds es r i)) = (
  ((List.length ds) ≤ LIM) →
  bcase (decide (i < ((List.length ds) : Int))) (
   ((List.length es) ≤ LIM) →
   bcase (decide (i < ((List.length es) : Int))) (
    (((0 : Int) ≤ i) ∧ (i < ((List.length es) : Int))) ∧
    ((List.length (List.getD es (Int.toNat i) [])) = 1) ∧
    ((1 : Nat) ≤ (List.length (List.getD es (Int.toNat i) []))) ∧
    ((List.getD (List.getD es (Int.toNat i) []) 0 d0) = (D.v (.string (strD (List.getD (List.getD es (Int.toNat i) []) 0 d0))))) ∧
    ((strsD ranksL) = (strsD (unSS (strsD ranksL)))) ∧
    bcase (memB (strD (List.getD (List.getD es (Int.toNat i) []) 0 d0)) (unSS (strsD ranksL))) (
     (((0 : Int) ≤ i) ∧ (i < ((List.length es) : Int))) ∧
     ((List.length (List.getD es (Int.toNat i) [])) = 1) ∧
     ((1 : Nat) ≤ (List.length (List.getD es (Int.toNat i) []))) ∧
     ((List.getD (List.getD es (Int.toNat i) []) 0 d0) = (D.v (.string (strD (List.getD (List.getD es (Int.toNat i) []) 0 d0))))) ∧
     (((0 : Int) ≤ r) ∧ (r < (5 : Int))) ∧
     ((List.length (List.getD (strsD ranksL) (Int.toNat r) [])) = 1) ∧
     ((1 : Nat) ≤ (List.length (List.getD (strsD ranksL) (Int.toNat r) []))) ∧
     ((List.getD (List.getD (strsD ranksL) (Int.toNat r) []) 0 d0) = (D.v (.string (strD (List.getD (List.getD (strsD ranksL) (Int.toNat r) []) 0 d0))))) ∧
     bcase (decide ((strD (List.getD (List.getD es (Int.toNat i) []) 0 d0)) = (strD (List.getD (List.getD (strsD ranksL) (Int.toNat r) []) 0 d0)))) (
      (((0 : Int) ≤ i) ∧ (i < ((List.length ds) : Int))) ∧
      ((List.length (List.getD ds (Int.toNat i) [])) = 1) ∧
      ((1 : Nat) ≤ (List.length (List.getD ds (Int.toNat i) []))) ∧
      ((List.getD (List.getD ds (Int.toNat i) []) 0 d0) = (D.v (.string (strD (List.getD (List.getD ds (Int.toNat i) []) 0 d0))))) ∧
      q (AV.tp [mkS (strD (List.getD (List.getD ds (Int.toNat i) []) 0 d0)), mkB true])) (
      FamNext st2 inv2 μ2 k2 ⟨[AV.d (.sl ds), AV.d (.sl es), AV.jk, AV.jk, mkS ⟨#[]⟩, mkB false, AV.d (.sl (strsD ranksL)), mkI .i64 r, mkI .i64 (IntKind.wrap .i64 (i + (1 : Int))), AV.jk, AV.jk, AV.jk, AV.jk, AV.jk, AV.jk, AV.jk, AV.jk, AV.jk, AV.jk, AV.jk, AV.jk, AV.jk, AV.jk, AV.jk, AV.jk, AV.jk, AV.jk, AV.jk, AV.jk, AV.jk, AV.jk, AV.jk, AV.jk, AV.jk, AV.jk, AV.jk, AV.jk, AV.jk, AV.jk, AV.jk, AV.jk, AV.jk, AV.jk, AV.jk, AV.jk, AV.jk, AV.jk, AV.jk, AV.jk], []⟩)) (
     (((0 : Int) ≤ r) ∧ (r < (5 : Int))) ∧
     ((List.length (List.getD (strsD ranksL) (Int.toNat r) [])) = 1) ∧
     ((1 : Nat) ≤ (List.length (List.getD (strsD ranksL) (Int.toNat r) []))) ∧
     ((List.getD (List.getD (strsD ranksL) (Int.toNat r) []) 0 d0) = (D.v (.string (strD (List.getD (List.getD (strsD ranksL) (Int.toNat r) []) 0 d0))))) ∧
     bcase (decide ((⟨#[]⟩ : ByteArray) = (strD (List.getD (List.getD (strsD ranksL) (Int.toNat r) []) 0 d0)))) (
      (((0 : Int) ≤ i) ∧ (i < ((List.length ds) : Int))) ∧
      ((List.length (List.getD ds (Int.toNat i) [])) = 1) ∧
      ((1 : Nat) ≤ (List.length (List.getD ds (Int.toNat i) []))) ∧
      ((List.getD (List.getD ds (Int.toNat i) []) 0 d0) = (D.v (.string (strD (List.getD (List.getD ds (Int.toNat i) []) 0 d0))))) ∧
      q (AV.tp [mkS (strD (List.getD (List.getD ds (Int.toNat i) []) 0 d0)), mkB true])) (
      FamNext st2 inv2 μ2 k2 ⟨[AV.d (.sl ds), AV.d (.sl es), AV.jk, AV.jk, mkS ⟨#[]⟩, mkB false, AV.d (.sl (strsD ranksL)), mkI .i64 r, mkI .i64 (IntKind.wrap .i64 (i + (1 : Int))), AV.jk, AV.jk, AV.jk, AV.jk, AV.jk, AV.jk, AV.jk, AV.jk, AV.jk, AV.jk, AV.jk, AV.jk, AV.jk, AV.jk, AV.jk, AV.jk, AV.jk, AV.jk, AV.jk, AV.jk, AV.jk, AV.jk, AV.jk, AV.jk, AV.jk, AV.jk, AV.jk, AV.jk, AV.jk, AV.jk, AV.jk, AV.jk, AV.jk, AV.jk, AV.jk, AV.jk, AV.jk, AV.jk, AV.jk, AV.jk], []⟩))) (
    (((0 : Int) ≤ r) ∧ (r < (5 : Int))) ∧
    ((List.length (List.getD (strsD ranksL) (Int.toNat r) [])) = 1) ∧
    ((1 : Nat) ≤ (List.length (List.getD (strsD ranksL) (Int.toNat r) []))) ∧
    ((List.getD (List.getD (strsD ranksL) (Int.toNat r) []) 0 d0) = (D.v (.string (strD (List.getD (List.getD (strsD ranksL) (Int.toNat r) []) 0 d0))))) ∧
    bcase (decide ((⟨#[]⟩ : ByteArray) = (strD (List.getD (List.getD (strsD ranksL) (Int.toNat r) []) 0 d0)))) (
     (((0 : Int) ≤ i) ∧ (i < ((List.length ds) : Int))) ∧
     ((List.length (List.getD ds (Int.toNat i) [])) = 1) ∧
     ((1 : Nat) ≤ (List.length (List.getD ds (Int.toNat i) []))) ∧
     ((List.getD (List.getD ds (Int.toNat i) []) 0 d0) = (D.v (.string (strD (List.getD (List.getD ds (Int.toNat i) []) 0 d0))))) ∧
     q (AV.tp [mkS (strD (List.getD (List.getD ds (Int.toNat i) []) 0 d0)), mkB true])) (
     FamNext st2 inv2 μ2 k2 ⟨[AV.d (.sl ds), AV.d (.sl es), AV.jk, AV.jk, mkS ⟨#[]⟩, mkB false, AV.d (.sl (strsD ranksL)), mkI .i64 r, mkI .i64 (IntKind.wrap .i64 (i + (1 : Int))), AV.jk, AV.jk, AV.jk, AV.jk, AV.jk, AV.jk, AV.jk, AV.jk, AV.jk, AV.jk, AV.jk, AV.jk, AV.jk, AV.jk, AV.jk, AV.jk, AV.jk, AV.jk, AV.jk, AV.jk, AV.jk, AV.jk, AV.jk, AV.jk, AV.jk, AV.jk, AV.jk, AV.jk, AV.jk, AV.jk, AV.jk, AV.jk, AV.jk, AV.jk, AV.jk, AV.jk, AV.jk, AV.jk, AV.jk, AV.jk], []⟩))) (
   FamNext st inv μ k ⟨[AV.d (.sl ds), AV.d (.sl es), AV.jk, AV.jk, mkS ⟨#[]⟩, mkB false, AV.d (.sl (strsD ranksL)), mkI .i64 (IntKind.wrap .i64 (r + (1 : Int))), AV.jk, AV.jk, AV.jk, AV.jk, AV.jk, AV.jk, AV.jk, AV.jk, AV.jk, AV.jk, AV.jk, AV.jk, AV.jk, AV.jk, AV.jk, AV.jk, AV.jk, AV.jk, AV.jk, AV.jk, AV.jk, AV.jk, AV.jk, AV.jk, AV.jk, AV.jk, AV.jk, AV.jk, AV.jk, AV.jk, AV.jk, AV.jk, AV.jk, AV.jk, AV.jk, AV.jk, AV.jk, AV.jk, AV.jk, AV.jk, AV.jk], []⟩)) := by kernel_rfl
theorem rankS_nonneg (s : ByteArray) : 0 ≤ rankS s := by unfold rankS; split <;> (try split) <;> (try split) <;> (try split) <;> (try split) <;> omega
theorem rankS_le (s : ByteArray) : rankS s ≤ 4 := by unfold rankS; split <;> (try split) <;> (try split) <;> (try split) <;> (try split) <;> omega
theorem rankOf_nonneg (l : List ByteArray) (i : Int) : 0 ≤ rankOf l i := by unfold rankOf; split; exact rankS_nonneg _; omega
theorem rankOf_le (l : List ByteArray) (i : Int) : rankOf l i ≤ 4 := by unfold rankOf; split; exact rankS_le _; omega
theorem bestTo_spec (l : List ByteArray) : ∀ n, n ≠ 0 → (∀ k, k < n → rankOf l (bestTo l n : Int) ≤ rankOf l (k : Int)) ∧ ∀ k, k < bestTo l n → rankOf l (bestTo l n : Int) < rankOf l (k : Int)
  | 0, h => absurd rfl h
  | n + 1, _ => by
    by_cases h0 : n = 0
    · subst h0
      have e : bestTo l 1 = 0 := by unfold bestTo; split <;> rfl
      rw [e]
      exact ⟨fun k hk => by have : k = 0 := by omega
                            subst this; exact Int.le_refl _, fun k hk => by omega⟩
    · obtain ⟨h1, h2⟩ := bestTo_spec l n h0
      unfold bestTo
      split
      · rename_i hlt
        exact ⟨fun k hk => by
          by_cases e : k = n
          · subst e; exact Int.le_refl _
          · have := h1 k (by omega); omega, fun k hk => by have := h1 k hk; omega⟩
      · rename_i hge
        exact ⟨fun k hk => by
          by_cases e : k = n
          · subst e; omega
          · exact h1 k (by omega), h2⟩
theorem bestTo_first (l : List ByteArray) {n i : Nat} (hi : i < n) (h1 : ∀ k : Nat, k < n → rankOf l (i : Int) ≤ rankOf l (k : Int)) (h2 : ∀ k : Nat, k < i → rankOf l (i : Int) < rankOf l (k : Int)) : bestTo l n = i := by
  obtain ⟨g1, g2⟩ := bestTo_spec l n (by omega)
  have hb := bestTo_lt l n (by omega)
  rcases Nat.lt_trichotomy (bestTo l n) i with h | h | h
  · have := h2 _ h; have := g1 i hi; omega
  · exact h
  · have := g2 _ h; have := h1 _ hb; omega
theorem rank_mem {x : ByteArray} {r : Nat} (hr : r < 5) (h : memB x ranksL = true) : x = ranksL.getD r ⟨#[]⟩ ↔ rankS x = r := by
  rw [memB_iff] at h
  simp only [ranksL, List.mem_cons, List.not_mem_nil, or_false] at h
  have hr : r = 0 ∨ r = 1 ∨ r = 2 ∨ r = 3 ∨ r = 4 := by omega
  rcases h with rfl | rfl | rfl | rfl | rfl <;> rcases hr with rfl | rfl | rfl | rfl | rfl <;> decide
theorem rank_not {x : ByteArray} (h : memB x ranksL = false) : rankS x = 1 := by
  have : ∀ y ∈ ranksL, ¬ y = x := by
    intro y hy e
    have : memB x ranksL = true := by rw [memB_iff, ← e]; exact hy
    rw [h] at this; cases this
  simp only [ranksL, List.mem_cons, List.not_mem_nil, or_false, forall_eq_or_imp, forall_eq] at this
  obtain ⟨h1, h2, h3, h4, h5⟩ := this
  simp [rankS, h1, h2, h3, h4, h5]
theorem rank_empty {r : Nat} (hr : r < 5) : (⟨#[]⟩ : ByteArray) = ranksL.getD r ⟨#[]⟩ ↔ (1 : Int) = r := by
  have hr : r = 0 ∨ r = 1 ∨ r = 2 ∨ r = 3 ∨ r = 4 := by omega
  rcases hr with rfl | rfl | rfl | rfl | rfl <;> decide
theorem c12 : PSound Tryd.prog 48 (detE F11) := by
  refine det_fn (c := Tryd.b48) mixed Tryd.K_ok (gsound_det c22 gsound_nil) Tryd.func48 rfl rfl Tryd.call48 fun al p r q hF hp hq => ?_
  unfold F11 at hF; split at hF <;> cases hF
  rename_i ds es
  obtain ⟨hds, hes⟩ := hp
  generalize unSS ds = d at hds hq
  generalize unSS es = l at hes hq
  subst hds hes
  refine cast (r12 _ _ q).symm ?_
  refine ALoop.introM [] (maskOf (st12 [] [] 0)) (fun r : Nat => st12 (strsD d) (strsD l) r) (fun r => r ≤ 5 ∧ ∀ k : Nat, k < d.length → (r : Int) ≤ rankOf l k) (fun r => 5 - r) ⟨[0], 0, by
    simp [S.le, sealAll, S.sealR, leL, jks, st12, subL, AV.sub, Ob.subO, strsD, ranksL, sChat, sAway, sXa, sDnd, leO, S.fits, fitsL, AV.fits], by omega, fun k _ => rankOf_nonneg l k⟩ fun r hr => ?_
  obtain ⟨hr5, hmin⟩ := hr
  refine cast (r12_b _ _ _ _ _ _ _ _).symm ?_
  refine fun _ => bcase_mk (fun h => ?_) (fun h => ?_)
  · have hr : r < 5 := by have h : (r : Int) < 5 := of_decide_eq_true h; omega
    have hrl : r < ranksL.length := hr
    have h5 : (5 : Nat) ≤ LIM := by decide
    refine ALoop.introM [] (maskOf (st12i [] [] 0 0)) (fun i : Nat => st12i (strsD d) (strsD l) r i) (fun i => i ≤ d.length ∧ ∀ k : Nat, k < i → (r : Int) < rankOf l k) (fun i => d.length - i) ⟨[], 0, by
      simp [S.le, sealAll, leL, jks, st12i], by simp⟩ fun i hi => ?_
    obtain ⟨hil, hall⟩ := hi
    refine cast (r12_c _ _ _ _ _ _ _ _ _ _ _ _ _).symm ?_
    simp only [strsD_len]
    intro hlim
    refine bcase_mk (fun h => ?_) (fun h => ?_)
    · have hlt : i < d.length := by have := of_decide_eq_true h; omega
      rw [wrap_succ hlt hlim]
      simp only [Int.toNat_natCast, strsD_getD d _ hlt, strsD_getD ranksL _ hrl, unSS_strsD, List.getD_cons_zero, strD_str]
      have rb : (0 : Int) ≤ (r : Int) ∧ (r : Int) < 5 := by omega
      have ib : (0 : Int) ≤ (i : Int) ∧ (i : Int) < (d.length : Int) := by omega
      have found : rankOf l (i : Int) = r → q (.tp [mkS (d.getD i ⟨#[]⟩), mkB true]) := by
        intro e
        have : bestTo l d.length = i := bestTo_first l hlt (fun k hk => by rw [e]; exact hmin k hk) (fun k hk => by rw [e]; exact hall k hk)
        have hd : ¬ d.length = 0 := by omega
        simpa [bestF, hd, this] using hq
      have next : ¬ rankOf l (i : Int) = r → i + 1 ≤ d.length ∧ ∀ k : Nat, k < i + 1 → (r : Int) < rankOf l k := by
        intro e
        refine ⟨hlt, fun k hk => ?_⟩
        by_cases ek : k = i
        · subst ek; have := hmin k hlt; omega
        · exact hall k (by omega)
      have hm : d.length - (i + 1) < d.length - i := by omega
      have one : rankOf l (i : Int) = 1 → ((0 : Int) ≤ (r : Int) ∧ (r : Int) < 5) ∧ True := fun _ => ⟨rb, trivial⟩
      refine fun hlim2 => bcase_mk (fun h => ?_) (fun h => ?_)
      · have hil2 : i < l.length := by have := of_decide_eq_true h; omega
        simp only [strsD_getD l _ hil2, List.getD_cons_zero, strD_str]
        have lb : (0 : Int) ≤ (i : Int) ∧ (i : Int) < (l.length : Int) := by omega
        have er : rankOf l (i : Int) = rankS (l.getD i ⟨#[]⟩) := by
          rw [rankOf, if_pos (by omega), Int.toNat_natCast]
        refine ⟨lb, by simp, by simp, by simp, trivial, bcase_mk (fun h => ⟨lb, by simp, by simp, by simp, rb, by simp, by simp, by simp, bcase_mk (fun h2 => ?_) (fun h2 => ?_)⟩) (fun h => ⟨rb, by simp, by simp, by simp, bcase_mk (fun h2 => ?_) (fun h2 => ?_)⟩)⟩
        · have h2 := (rank_mem hr h).1 (of_decide_eq_true h2)
          exact ⟨ib, by simp, by simp, by simp, found (er.trans h2)⟩
        · have h2 : ¬ rankS (l.getD i ⟨#[]⟩) = r := fun e => of_decide_eq_false h2 ((rank_mem hr h).2 e)
          exact .mk [] (i + 1) (by simp [S.le, sealAll, leL, jks, st12i]) (next (by rw [er]; exact h2)) hm
        · have h2 := (rank_empty hr).1 (of_decide_eq_true h2)
          exact ⟨ib, by simp, by simp, by simp, found (by rw [er, rank_not h]; exact h2)⟩
        · have h2 : ¬ (1 : Int) = r := fun e => of_decide_eq_false h2 ((rank_empty hr).2 e)
          exact .mk [] (i + 1) (by simp [S.le, sealAll, leL, jks, st12i]) (next (by rw [er, rank_not h]; exact h2)) hm
      · have hil2 : ¬ i < l.length := by have := of_decide_eq_false h; omega
        have er : rankOf l (i : Int) = 1 := by rw [rankOf, if_neg (by omega)]
        refine ⟨rb, by simp, by simp, by simp, bcase_mk (fun h2 => ?_) (fun h2 => ?_)⟩
        · have h2 := (rank_empty hr).1 (of_decide_eq_true h2)
          exact ⟨ib, by simp, by simp, by simp, found (er.trans h2)⟩
        · have h2 : ¬ (1 : Int) = r := fun e => of_decide_eq_false h2 ((rank_empty hr).2 e)
          exact .mk [] (i + 1) (by simp [S.le, sealAll, leL, jks, st12i]) (next (by rw [er]; exact h2)) hm
    · have hge : ¬ i < d.length := by have := of_decide_eq_false h; omega
      have e2 : IntKind.i64.wrap ((r : Int) + 1) = ((r + 1 : Nat) : Int) := by rw [IntWalk.i64_in] <;> omega
      rw [e2]
      exact .mk [] (r + 1) (by simp [S.le, sealAll, leL, jks, st12]) ⟨by omega, fun k hk => by have := hall k (by omega); omega⟩ (show 5 - (r + 1) < 5 - r by omega)
  · have hr : r = 5 := by have h : ¬ (r : Int) < 5 := of_decide_eq_false h; omega
    have hd : d.length = 0 := by
      rcases Nat.eq_zero_or_pos d.length with h | h
      · exact h
      · have := hmin 0 h; have := rankOf_le l ((0 : Nat) : Int); omega
    simpa [bestF, hd] using hq
end Go.Proofs.YthbejheedpdioaaDoor

namespace Go.Proofs.YthbejheedpdioaaDoor
open Go Go.AM Go.RowKit
attribute [local irreducible] aUnr aUnS aCode
abbrev ghR : Ob := .gh [.rf 0 0]
noncomputable def rAh_k0 (q : AV → Prop) : Kont := kBlk (0 : Nat) (kSeq (aCode KC [] (cAt [1, 1] Tryd.b34) (kRet KC (Array.toList (Func.results Tryd.f34)) q)) (kRet KC (Array.toList (Func.results Tryd.f34)) q))
theorem rAh (a b : ByteArray) (q : AV → Prop) :
  (aCode KC [] Tryd.b34 (kRet KC Tryd.f34.results.toList q) ⟨[mkS a, mkS b] ++ List.replicate (Tryd.f34.ntmps - 2) .jk, []⟩) = (
  ALoop (aCode KC [] (cAt [1, 0, 1, 0, 0] Tryd.b34)) (rAh_k0 q) ⟨[mkS a, mkS b, AV.jk, AV.jk, mkB false, mkI .i64 0] ++ (jks 31), []⟩) := by kernel_rfl
def stAh (a b : ByteArray) (i : Int) : S := ⟨[mkS a, mkS b, .jk, .jk, mkB false, mkI .i64 i] ++ jks 31, []⟩
theorem rAh_b {ι : Type} (st : ι → S) (inv : ι → Prop) (μ : ι → Nat) (kk : ι) (a b : ByteArray) (i : Int) (q : AV → Prop) :
  (aCode KC [] (cAt [1, 0, 1, 0, 0] Tryd.b34) (kFamM [] (maskOf (stAh a b i)) st inv μ kk (rAh_k0 q)) (stAh a b i)) = (
  ((ByteArray.size a) ≤ LIM) →
  bcase (decide (i < ((ByteArray.size a) : Int))) (
   ((ByteArray.size b) ≤ LIM) →
   bcase (decide (i < ((ByteArray.size b) : Int))) (
    (((0 : Int) ≤ i) ∧ (i < ((ByteArray.size a) : Int))) ∧
    (((0 : Int) ≤ i) ∧ (i < ((ByteArray.size b) : Int))) ∧
    bcase (((UInt8.toNat (List.getD (Array.toList (ByteArray.data a)) (Int.toNat i) (0 : UInt8))) : Int) != ((UInt8.toNat (List.getD (Array.toList (ByteArray.data b)) (Int.toNat i) (0 : UInt8))) : Int)) (
     (((0 : Int) ≤ i) ∧ (i < ((ByteArray.size a) : Int))) ∧
     (((0 : Int) ≤ i) ∧ (i < ((ByteArray.size b) : Int))) ∧
     q (mkB (decide (((UInt8.toNat (List.getD (Array.toList (ByteArray.data a)) (Int.toNat i) (0 : UInt8))) : Int) < ((UInt8.toNat (List.getD (Array.toList (ByteArray.data b)) (Int.toNat i) (0 : UInt8))) : Int))))) (
     FamNext st inv μ kk ⟨[mkS a, mkS b, AV.jk, AV.jk, mkB false, mkI .i64 (IntKind.wrap .i64 (i + (1 : Int)))] ++ (jks 31), []⟩)) (
    ((ByteArray.size a) ≤ LIM) →
    ((ByteArray.size b) ≤ LIM) →
    q (mkB (decide (((ByteArray.size a) : Int) < ((ByteArray.size b) : Int)))))) (
   ((ByteArray.size a) ≤ LIM) →
   ((ByteArray.size b) ≤ LIM) →
   q (mkB (decide (((ByteArray.size a) : Int) < ((ByteArray.size b) : Int)))))) := by kernel_rfl
noncomputable def rDr_k0 (q : AV → (List Ob) → Prop) : Kont := kBlk (0 : Nat) (kSeq (aCode KC [] (cAt [1, 1] Tryd.b33) (kRetF KC (Array.toList (Func.results Tryd.f33)) q)) (kRetF KC (Array.toList (Func.results Tryd.f33)) q))
theorem rDr (L : List (List D)) (u d : ByteArray) (q : AV → List Ob → Prop) :
  (aCode KC [] Tryd.b33 (kRetF KC Tryd.f33.results.toList q) ⟨[.rf 0 0, mkS u, mkS d] ++ List.replicate (Tryd.f33.ntmps - 3) .jk, [.box [.d (.sl L)], ghR]⟩) = (
  ALoop (aCode KC [] (cAt [1, 0, 1, 0, 0] Tryd.b33)) (rDr_k0 q) ⟨[AV.rf 0 0, mkS u, mkS d, AV.jk, AV.jk, AV.jk, AV.nl, mkI .i64 0] ++ (jks 49), [Ob.box [AV.d (.sl L)], Ob.gh [AV.rf 0 0]]⟩) := by kernel_rfl
def stDr (L : List (List D)) (u d : ByteArray) (out : List (List D)) (i : Int) : S := ⟨[.rf 0 0, mkS u, mkS d, .jk, .jk, .jk, .vw 2 out.length, mkI .i64 i] ++ jks 49, [.box [.d (.sl L)], ghR, .row 3 out]⟩
theorem rDr_b {ι : Type} (st : ι → S) (inv : ι → Prop) (μ : ι → Nat) (kk : ι) (L : List (List D)) (u d : ByteArray) (out : List (List D)) (i : Int) (q : AV → List Ob → Prop) :
  (aCode KC [] (cAt [1, 0, 1, 0, 0] Tryd.b33) (kFamM [] (maskOf (stDr L u d out i)) st inv μ kk (rDr_k0 q)) (stDr L u d out i)) = (
  ((List.length L) ≤ LIM) →
  bcase (decide (i < ((List.length L) : Int))) (
   (((0 : Int) ≤ i) ∧ (i < ((List.length L) : Int))) ∧
   ((List.length (List.getD L (Int.toNat i) [])) = 3) ∧
   ((1 : Nat) ≤ (List.length (List.drop 0 (List.getD L (Int.toNat i) [])))) ∧
   ((List.getD (List.drop 0 (List.getD L (Int.toNat i) [])) 0 d0) = (D.v (.string (strD (List.getD (List.drop 0 (List.getD L (Int.toNat i) [])) 0 d0))))) ∧
   bcase (!(decide ((strD (List.getD (List.drop 0 (List.getD L (Int.toNat i) [])) 0 d0)) = u))) (
    (((0 : Int) ≤ i) ∧ (i < ((List.length L) : Int))) ∧
    ((List.length (List.getD L (Int.toNat i) [])) = 3) ∧
    (3 ≤ (List.length (List.getD L (Int.toNat i) []))) ∧
    (((List.getD (List.getD L (Int.toNat i) []) 0 d0) = (D.v (.string (strD (List.getD (List.getD L (Int.toNat i) []) 0 d0))))) ∧ (((List.getD (List.drop 1 (List.getD L (Int.toNat i) [])) 0 d0) = (D.v (.string (strD (List.getD (List.drop 1 (List.getD L (Int.toNat i) [])) 0 d0))))) ∧ (((List.getD (List.drop 1 (List.drop 1 (List.getD L (Int.toNat i) []))) 0 d0) = (D.v (.string (strD (List.getD (List.drop 1 (List.drop 1 (List.getD L (Int.toNat i) []))) 0 d0))))) ∧ True))) ∧
    (∀ (c : List D), (c ∈ [[D.v (.string (strD (List.getD (List.getD L (Int.toNat i) []) 0 d0))), D.v (.string (strD (List.getD (List.drop 1 (List.getD L (Int.toNat i) [])) 0 d0))), D.v (.string (strD (List.getD (List.drop 1 (List.drop 1 (List.getD L (Int.toNat i) []))) 0 d0)))]]) → (List.length c) = 3) ∧
    ((List.length out) = (List.length out)) ∧
    (((List.length out) + 1) ≤ LIM) ∧
    FamNext st inv μ kk ⟨[AV.rf 0 0, mkS u, mkS d, AV.jk, AV.jk, AV.jk, AV.vw 2 ((List.length out) + 1), mkI .i64 (IntKind.wrap .i64 (i + (1 : Int)))] ++ (jks 49), [Ob.box [AV.d (.sl L)], Ob.gh [AV.rf 0 0], Ob.row 3 (out ++ [[D.v (.string (strD (List.getD (List.getD L (Int.toNat i) []) 0 d0))), D.v (.string (strD (List.getD (List.drop 1 (List.getD L (Int.toNat i) [])) 0 d0))), D.v (.string (strD (List.getD (List.drop 1 (List.drop 1 (List.getD L (Int.toNat i) []))) 0 d0)))]]), Ob.row 3 [[D.v (.string (strD (List.getD (List.getD L (Int.toNat i) []) 0 d0))), D.v (.string (strD (List.getD (List.drop 1 (List.getD L (Int.toNat i) [])) 0 d0))), D.v (.string (strD (List.getD (List.drop 1 (List.drop 1 (List.getD L (Int.toNat i) []))) 0 d0)))]]]⟩) (
    bcase (!(decide (d = ⟨#[]⟩))) (
     (((0 : Int) ≤ i) ∧ (i < ((List.length L) : Int))) ∧
     ((List.length (List.getD L (Int.toNat i) [])) = 3) ∧
     ((1 : Nat) ≤ (List.length (List.drop 1 (List.getD L (Int.toNat i) [])))) ∧
     ((List.getD (List.drop 1 (List.getD L (Int.toNat i) [])) 0 d0) = (D.v (.string (strD (List.getD (List.drop 1 (List.getD L (Int.toNat i) [])) 0 d0))))) ∧
     bcase (!(decide ((strD (List.getD (List.drop 1 (List.getD L (Int.toNat i) [])) 0 d0)) = d))) (
      (((0 : Int) ≤ i) ∧ (i < ((List.length L) : Int))) ∧
      ((List.length (List.getD L (Int.toNat i) [])) = 3) ∧
      (3 ≤ (List.length (List.getD L (Int.toNat i) []))) ∧
      (((List.getD (List.getD L (Int.toNat i) []) 0 d0) = (D.v (.string (strD (List.getD (List.getD L (Int.toNat i) []) 0 d0))))) ∧ (((List.getD (List.drop 1 (List.getD L (Int.toNat i) [])) 0 d0) = (D.v (.string (strD (List.getD (List.drop 1 (List.getD L (Int.toNat i) [])) 0 d0))))) ∧ (((List.getD (List.drop 1 (List.drop 1 (List.getD L (Int.toNat i) []))) 0 d0) = (D.v (.string (strD (List.getD (List.drop 1 (List.drop 1 (List.getD L (Int.toNat i) []))) 0 d0))))) ∧ True))) ∧
      (∀ (c : List D), (c ∈ [[D.v (.string (strD (List.getD (List.getD L (Int.toNat i) []) 0 d0))), D.v (.string (strD (List.getD (List.drop 1 (List.getD L (Int.toNat i) [])) 0 d0))), D.v (.string (strD (List.getD (List.drop 1 (List.drop 1 (List.getD L (Int.toNat i) []))) 0 d0)))]]) → (List.length c) = 3) ∧
      ((List.length out) = (List.length out)) ∧
      (((List.length out) + 1) ≤ LIM) ∧
      FamNext st inv μ kk ⟨[AV.rf 0 0, mkS u, mkS d, AV.jk, AV.jk, AV.jk, AV.vw 2 ((List.length out) + 1), mkI .i64 (IntKind.wrap .i64 (i + (1 : Int)))] ++ (jks 49), [Ob.box [AV.d (.sl L)], Ob.gh [AV.rf 0 0], Ob.row 3 (out ++ [[D.v (.string (strD (List.getD (List.getD L (Int.toNat i) []) 0 d0))), D.v (.string (strD (List.getD (List.drop 1 (List.getD L (Int.toNat i) [])) 0 d0))), D.v (.string (strD (List.getD (List.drop 1 (List.drop 1 (List.getD L (Int.toNat i) []))) 0 d0)))]]), Ob.row 3 [[D.v (.string (strD (List.getD (List.getD L (Int.toNat i) []) 0 d0))), D.v (.string (strD (List.getD (List.drop 1 (List.getD L (Int.toNat i) [])) 0 d0))), D.v (.string (strD (List.getD (List.drop 1 (List.drop 1 (List.getD L (Int.toNat i) []))) 0 d0)))]]]⟩) (
      FamNext st inv μ kk ⟨[AV.rf 0 0, mkS u, mkS d, AV.jk, AV.jk, AV.jk, AV.vw 2 (List.length out), mkI .i64 (IntKind.wrap .i64 (i + (1 : Int)))] ++ (jks 49), [Ob.box [AV.d (.sl L)], Ob.gh [AV.rf 0 0], Ob.row 3 out]⟩)) (
     FamNext st inv μ kk ⟨[AV.rf 0 0, mkS u, mkS d, AV.jk, AV.jk, AV.jk, AV.vw 2 (List.length out), mkI .i64 (IntKind.wrap .i64 (i + (1 : Int)))] ++ (jks 49), [Ob.box [AV.d (.sl L)], Ob.gh [AV.rf 0 0], Ob.row 3 out]⟩))) (
   q (AV.tp []) [Ob.box [AV.vw 2 (List.length out)], Ob.gh [AV.rf 0 0], Ob.row 3 out])) := by kernel_rfl
noncomputable def rSw_k0 (q : AV → (List Ob) → Prop) : Kont := kBlk (0 : Nat) (kSeq (aCode KC [] (cAt [1, 1] Tryd.b20) (kRetF KC (Array.toList (Func.results Tryd.f20)) q)) (kRetF KC (Array.toList (Func.results Tryd.f20)) q))
theorem rSw (L : List (List D)) (x : ByteArray) (q : AV → List Ob → Prop) :
  (aCode KC [] Tryd.b20 (kRetF KC Tryd.f20.results.toList q) ⟨[.rf 0 0, mkS x] ++ List.replicate (Tryd.f20.ntmps - 2) .jk, [.box [.d (.sl L)], ghR]⟩) = (
  ALoop (aCode KC [] (cAt [1, 0, 1, 0, 0] Tryd.b20)) (rSw_k0 q) ⟨[AV.rf 0 0, mkS x, AV.jk, AV.jk, mkS ⟨#[]⟩, mkB false, mkI .i64 0] ++ (jks 37), [Ob.box [AV.d (.sl L)], Ob.gh [AV.rf 0 0]]⟩) := by kernel_rfl
def stSw (L : List (List D)) (x : ByteArray) (i : Int) : S := ⟨[.rf 0 0, mkS x, .jk, .jk, mkS ⟨#[]⟩, mkB false, mkI .i64 i] ++ jks 37, [.box [.d (.sl L)], ghR]⟩
theorem rSw_b {ι : Type} (st : ι → S) (inv : ι → Prop) (μ : ι → Nat) (kk : ι) (L : List (List D)) (x : ByteArray) (i : Int) (q : AV → List Ob → Prop) :
  (aCode KC [] (cAt [1, 0, 1, 0, 0] Tryd.b20) (kFamM [] (maskOf (stSw L x i)) st inv μ kk (rSw_k0 q)) (stSw L x i)) = (
  ((List.length L) ≤ LIM) →
  bcase (decide (i < ((List.length L) : Int))) (
   (((0 : Int) ≤ i) ∧ (i < ((List.length L) : Int))) ∧
   ((List.length (List.getD L (Int.toNat i) [])) = 3) ∧
   ((1 : Nat) ≤ (List.length (List.drop 0 (List.getD L (Int.toNat i) [])))) ∧
   ((List.getD (List.drop 0 (List.getD L (Int.toNat i) [])) 0 d0) = (D.v (.string (strD (List.getD (List.drop 0 (List.getD L (Int.toNat i) [])) 0 d0))))) ∧
   (((ByteArray.size (strD (List.getD (List.drop 0 (List.getD L (Int.toNat i) [])) 0 d0))) + (ByteArray.size (⟨#[47]⟩ : ByteArray))) ≤ LIM) ∧
   (((0 : Int) ≤ i) ∧ (i < ((List.length L) : Int))) ∧
   ((List.length (List.getD L (Int.toNat i) [])) = 3) ∧
   ((1 : Nat) ≤ (List.length (List.drop 1 (List.getD L (Int.toNat i) [])))) ∧
   ((List.getD (List.drop 1 (List.getD L (Int.toNat i) [])) 0 d0) = (D.v (.string (strD (List.getD (List.drop 1 (List.getD L (Int.toNat i) [])) 0 d0))))) ∧
   (((ByteArray.size ((strD (List.getD (List.drop 0 (List.getD L (Int.toNat i) [])) 0 d0)) ++ (⟨#[47]⟩ : ByteArray))) + (ByteArray.size (strD (List.getD (List.drop 1 (List.getD L (Int.toNat i) [])) 0 d0)))) ≤ LIM) ∧
   bcase (decide ((((strD (List.getD (List.drop 0 (List.getD L (Int.toNat i) [])) 0 d0)) ++ (⟨#[47]⟩ : ByteArray)) ++ (strD (List.getD (List.drop 1 (List.getD L (Int.toNat i) [])) 0 d0))) = x)) (
    (((0 : Int) ≤ i) ∧ (i < ((List.length L) : Int))) ∧
    ((List.length (List.getD L (Int.toNat i) [])) = 3) ∧
    ((1 : Nat) ≤ (List.length (List.drop 2 (List.getD L (Int.toNat i) [])))) ∧
    ((List.getD (List.drop 2 (List.getD L (Int.toNat i) [])) 0 d0) = (D.v (.string (strD (List.getD (List.drop 2 (List.getD L (Int.toNat i) [])) 0 d0))))) ∧
    q (AV.tp [mkS (strD (List.getD (List.drop 2 (List.getD L (Int.toNat i) [])) 0 d0)), mkB true]) [Ob.box [AV.d (.sl L)], Ob.gh [AV.rf 0 0]]) (
    FamNext st inv μ kk ⟨[AV.rf 0 0, mkS x, AV.jk, AV.jk, mkS ⟨#[]⟩, mkB false, mkI .i64 (IntKind.wrap .i64 (i + (1 : Int)))] ++ (jks 37), [Ob.box [AV.d (.sl L)], Ob.gh [AV.rf 0 0]]⟩)) (
   q (AV.tp [mkS ⟨#[]⟩, mkB false]) [Ob.box [AV.d (.sl L)], Ob.gh [AV.rf 0 0]])) := by kernel_rfl
noncomputable def rUr_k0 (q : AV → (List Ob) → Prop) : Kont := kBlk (0 : Nat) (kSeq (aCode KC [] (cAt [1, 1, 1] Tryd.b35) (kRetF KC (Array.toList (Func.results Tryd.f35)) q)) (kRetF KC (Array.toList (Func.results Tryd.f35)) q))
theorem rUr (L : List (List D)) (q : AV → List Ob → Prop) :
  (aCode KC [] Tryd.b35 (kRetF KC Tryd.f35.results.toList q) ⟨[.rf 0 0] ++ List.replicate (Tryd.f35.ntmps - 1) .jk, [.box [.d (.sl L)], ghR]⟩) = (
  ALoop (aCode KC [] (cAt [1, 1, 0, 1, 0, 0] Tryd.b35)) (rUr_k0 q) ⟨[AV.rf 0 0, AV.jk, AV.nl, AV.nl, mkI .i64 0] ++ (jks 43), [Ob.box [AV.d (.sl L)], Ob.gh [AV.rf 0 0]]⟩) := by kernel_rfl
def stUr (L out : List (List D)) (i : Int) : S := ⟨[.rf 0 0, .jk, .d (.sl []), .vw 2 out.length, mkI .i64 i] ++ jks 43, [.box [.d (.sl L)], ghR, .row 1 out]⟩
theorem rUr_b {ι : Type} (st : ι → S) (inv : ι → Prop) (μ : ι → Nat) (kk : ι) (L out : List (List D)) (i : Int) (q : AV → List Ob → Prop) :
  (aCode KC [] (cAt [1, 1, 0, 1, 0, 0] Tryd.b35) (kFamM [] (maskOf (stUr L out i)) st inv μ kk (rUr_k0 q)) (stUr L out i)) = (
  ((List.length L) ≤ LIM) →
  bcase (decide (i < ((List.length L) : Int))) (
   bcase (i == (0 : Int)) (
    (((0 : Int) ≤ i) ∧ (i < ((List.length L) : Int))) ∧
    ((List.length (List.getD L (Int.toNat i) [])) = 3) ∧
    ((1 : Nat) ≤ (List.length (List.drop 0 (List.getD L (Int.toNat i) [])))) ∧
    ((List.getD (List.drop 0 (List.getD L (Int.toNat i) [])) 0 d0) = (D.v (.string (strD (List.getD (List.drop 0 (List.getD L (Int.toNat i) [])) 0 d0))))) ∧
    (∀ (c : List D), (c ∈ [[D.v (.string (strD (List.getD (List.drop 0 (List.getD L (Int.toNat i) [])) 0 d0)))]]) → (List.length c) = 1) ∧
    ((List.length out) = (List.length out)) ∧
    (((List.length out) + 1) ≤ LIM) ∧
    FamNext st inv μ kk ⟨[AV.rf 0 0, AV.jk, AV.d (.sl []), AV.vw 2 ((List.length out) + 1), mkI .i64 (IntKind.wrap .i64 (i + (1 : Int)))] ++ (jks 43), [Ob.box [AV.d (.sl L)], Ob.gh [AV.rf 0 0], Ob.row 1 (out ++ [[D.v (.string (strD (List.getD (List.drop 0 (List.getD L (Int.toNat i) [])) 0 d0)))]]), Ob.row 1 [[D.v (.string (strD (List.getD (List.drop 0 (List.getD L (Int.toNat i) [])) 0 d0)))]]]⟩) (
    (((0 : Int) ≤ i) ∧ (i < ((List.length L) : Int))) ∧
    ((List.length (List.getD L (Int.toNat i) [])) = 3) ∧
    ((1 : Nat) ≤ (List.length (List.drop 0 (List.getD L (Int.toNat i) [])))) ∧
    ((List.getD (List.drop 0 (List.getD L (Int.toNat i) [])) 0 d0) = (D.v (.string (strD (List.getD (List.drop 0 (List.getD L (Int.toNat i) [])) 0 d0))))) ∧
    (((0 : Int) ≤ (IntKind.wrap .i64 (i - (1 : Int)))) ∧ ((IntKind.wrap .i64 (i - (1 : Int))) < ((List.length L) : Int))) ∧
    ((List.length (List.getD L (Int.toNat (IntKind.wrap .i64 (i - (1 : Int)))) [])) = 3) ∧
    ((1 : Nat) ≤ (List.length (List.drop 0 (List.getD L (Int.toNat (IntKind.wrap .i64 (i - (1 : Int)))) [])))) ∧
    ((List.getD (List.drop 0 (List.getD L (Int.toNat (IntKind.wrap .i64 (i - (1 : Int)))) [])) 0 d0) = (D.v (.string (strD (List.getD (List.drop 0 (List.getD L (Int.toNat (IntKind.wrap .i64 (i - (1 : Int)))) [])) 0 d0))))) ∧
    bcase (!(decide ((strD (List.getD (List.drop 0 (List.getD L (Int.toNat i) [])) 0 d0)) = (strD (List.getD (List.drop 0 (List.getD L (Int.toNat (IntKind.wrap .i64 (i - (1 : Int)))) [])) 0 d0))))) (
     (((0 : Int) ≤ i) ∧ (i < ((List.length L) : Int))) ∧
     ((List.length (List.getD L (Int.toNat i) [])) = 3) ∧
     ((1 : Nat) ≤ (List.length (List.drop 0 (List.getD L (Int.toNat i) [])))) ∧
     ((List.getD (List.drop 0 (List.getD L (Int.toNat i) [])) 0 d0) = (D.v (.string (strD (List.getD (List.drop 0 (List.getD L (Int.toNat i) [])) 0 d0))))) ∧
     (∀ (c : List D), (c ∈ [[D.v (.string (strD (List.getD (List.drop 0 (List.getD L (Int.toNat i) [])) 0 d0)))]]) → (List.length c) = 1) ∧
     ((List.length out) = (List.length out)) ∧
     (((List.length out) + 1) ≤ LIM) ∧
     FamNext st inv μ kk ⟨[AV.rf 0 0, AV.jk, AV.d (.sl []), AV.vw 2 ((List.length out) + 1), mkI .i64 (IntKind.wrap .i64 (i + (1 : Int)))] ++ (jks 43), [Ob.box [AV.d (.sl L)], Ob.gh [AV.rf 0 0], Ob.row 1 (out ++ [[D.v (.string (strD (List.getD (List.drop 0 (List.getD L (Int.toNat i) [])) 0 d0)))]]), Ob.row 1 [[D.v (.string (strD (List.getD (List.drop 0 (List.getD L (Int.toNat i) [])) 0 d0)))]]]⟩) (
     FamNext st inv μ kk ⟨[AV.rf 0 0, AV.jk, AV.d (.sl []), AV.vw 2 (List.length out), mkI .i64 (IntKind.wrap .i64 (i + (1 : Int)))] ++ (jks 43), [Ob.box [AV.d (.sl L)], Ob.gh [AV.rf 0 0], Ob.row 1 out]⟩))) (
   q (AV.vw 2 (List.length out)) [Ob.box [AV.d (.sl L)], Ob.gh [AV.rf 0 0], Ob.row 1 out])) := by kernel_rfl
noncomputable def rDe_k0 (q : AV → (List Ob) → Prop) : Kont := kBlk (0 : Nat) (kSeq (aCode KC [] (cAt [1, 1, 1] Tryd.b36) (kRetF KC (Array.toList (Func.results Tryd.f36)) q)) (kRetF KC (Array.toList (Func.results Tryd.f36)) q))
theorem rDe (L : List (List D)) (u : ByteArray) (q : AV → List Ob → Prop) :
  (aCode KC [] Tryd.b36 (kRetF KC Tryd.f36.results.toList q) ⟨[.rf 0 0, mkS u] ++ List.replicate (Tryd.f36.ntmps - 2) .jk, [.box [.d (.sl L)], ghR]⟩) = (
  ALoop (aCode KC [] (cAt [1, 1, 0, 1, 0, 0] Tryd.b36)) (rDe_k0 q) ⟨[AV.rf 0 0, mkS u, AV.jk, AV.jk, AV.nl, AV.nl, AV.nl, AV.nl, mkI .i64 0] ++ (jks 43), [Ob.box [AV.d (.sl L)], Ob.gh [AV.rf 0 0]]⟩) := by kernel_rfl
def stDe (L : List (List D)) (u : ByteArray) (o1 o2 : List (List D)) (i : Int) : S := ⟨[.rf 0 0, mkS u, .jk, .jk, .jk, .jk, .vw 2 o1.length, .vw 3 o2.length, mkI .i64 i] ++ jks 43, [.box [.d (.sl L)], ghR, .row 1 o1, .row 1 o2]⟩
theorem rDe_b {ι : Type} (st : ι → S) (inv : ι → Prop) (μ : ι → Nat) (kk : ι) (L : List (List D)) (u : ByteArray) (o1 o2 : List (List D)) (i : Int) (q : AV → List Ob → Prop) :
  (aCode KC [] (cAt [1, 1, 0, 1, 0, 0] Tryd.b36) (kFamM [] (maskOf (stDe L u o1 o2 i)) st inv μ kk (rDe_k0 q)) (stDe L u o1 o2 i)) = (
  ((List.length L) ≤ LIM) →
  bcase (decide (i < ((List.length L) : Int))) (
   (((0 : Int) ≤ i) ∧ (i < ((List.length L) : Int))) ∧
   ((List.length (List.getD L (Int.toNat i) [])) = 3) ∧
   ((1 : Nat) ≤ (List.length (List.drop 0 (List.getD L (Int.toNat i) [])))) ∧
   ((List.getD (List.drop 0 (List.getD L (Int.toNat i) [])) 0 d0) = (D.v (.string (strD (List.getD (List.drop 0 (List.getD L (Int.toNat i) [])) 0 d0))))) ∧
   bcase (decide ((strD (List.getD (List.drop 0 (List.getD L (Int.toNat i) [])) 0 d0)) = u)) (
    (((0 : Int) ≤ i) ∧ (i < ((List.length L) : Int))) ∧
    ((List.length (List.getD L (Int.toNat i) [])) = 3) ∧
    ((1 : Nat) ≤ (List.length (List.drop 1 (List.getD L (Int.toNat i) [])))) ∧
    ((List.getD (List.drop 1 (List.getD L (Int.toNat i) [])) 0 d0) = (D.v (.string (strD (List.getD (List.drop 1 (List.getD L (Int.toNat i) [])) 0 d0))))) ∧
    (∀ (c : List D), (c ∈ [[D.v (.string (strD (List.getD (List.drop 1 (List.getD L (Int.toNat i) [])) 0 d0)))]]) → (List.length c) = 1) ∧
    ((List.length o1) = (List.length o1)) ∧
    (((List.length o1) + 1) ≤ LIM) ∧
    (((0 : Int) ≤ i) ∧ (i < ((List.length L) : Int))) ∧
    ((List.length (List.getD L (Int.toNat i) [])) = 3) ∧
    ((1 : Nat) ≤ (List.length (List.drop 2 (List.getD L (Int.toNat i) [])))) ∧
    ((List.getD (List.drop 2 (List.getD L (Int.toNat i) [])) 0 d0) = (D.v (.string (strD (List.getD (List.drop 2 (List.getD L (Int.toNat i) [])) 0 d0))))) ∧
    (∀ (c : List D), (c ∈ [[D.v (.string (strD (List.getD (List.drop 2 (List.getD L (Int.toNat i) [])) 0 d0)))]]) → (List.length c) = 1) ∧
    ((List.length o2) = (List.length o2)) ∧
    (((List.length o2) + 1) ≤ LIM) ∧
    FamNext st inv μ kk ⟨[AV.rf 0 0, mkS u, AV.jk, AV.jk, AV.jk, AV.jk, AV.vw 2 ((List.length o1) + 1), AV.vw 3 ((List.length o2) + 1), mkI .i64 (IntKind.wrap .i64 (i + (1 : Int)))] ++ (jks 43), [Ob.box [AV.d (.sl L)], Ob.gh [AV.rf 0 0], Ob.row 1 (o1 ++ [[D.v (.string (strD (List.getD (List.drop 1 (List.getD L (Int.toNat i) [])) 0 d0)))]]), Ob.row 1 (o2 ++ [[D.v (.string (strD (List.getD (List.drop 2 (List.getD L (Int.toNat i) [])) 0 d0)))]]), Ob.row 1 [[D.v (.string (strD (List.getD (List.drop 1 (List.getD L (Int.toNat i) [])) 0 d0)))]], Ob.row 1 [[D.v (.string (strD (List.getD (List.drop 2 (List.getD L (Int.toNat i) [])) 0 d0)))]]]⟩) (
    FamNext st inv μ kk ⟨[AV.rf 0 0, mkS u, AV.jk, AV.jk, AV.jk, AV.jk, AV.vw 2 (List.length o1), AV.vw 3 (List.length o2), mkI .i64 (IntKind.wrap .i64 (i + (1 : Int)))] ++ (jks 43), [Ob.box [AV.d (.sl L)], Ob.gh [AV.rf 0 0], Ob.row 1 o1, Ob.row 1 o2]⟩)) (
   q (AV.tp [AV.vw 2 (List.length o1), AV.vw 3 (List.length o2)]) [Ob.box [AV.d (.sl L)], Ob.gh [AV.rf 0 0], Ob.row 1 o1, Ob.row 1 o2])) := by kernel_rfl
noncomputable def rCo_k0 (q : AV → (List Ob) → Prop) : Kont := kBlk (0 : Nat) (kSeq (aCode KC [] (cAt [1, 1, 1] Tryd.b38) (kRetF KC (Array.toList (Func.results Tryd.f38)) q)) (kRetF KC (Array.toList (Func.results Tryd.f38)) q))
theorem rCo (L : List (List D)) (x : ByteArray) (q : AV → List Ob → Prop) :
  (aCode KC [] Tryd.b38 (kRetF KC Tryd.f38.results.toList q) ⟨[.rf 0 0, mkS x] ++ List.replicate (Tryd.f38.ntmps - 2) .jk, [.box [.d (.sl L)], ghR]⟩) = (
  ALoop (aCode KC [] (cAt [1, 1, 0, 1, 0, 0] Tryd.b38)) (rCo_k0 q) ⟨[AV.rf 0 0, mkS x, AV.jk, AV.jk, mkI .i64 0, mkI .i64 0, mkI .i64 0] ++ (jks 22), [Ob.box [AV.d (.sl L)], Ob.gh [AV.rf 0 0]]⟩) := by kernel_rfl
def stCo (L : List (List D)) (x : ByteArray) (n i : Int) : S := ⟨[.rf 0 0, mkS x, .jk, .jk, mkI .i64 0, mkI .i64 n, mkI .i64 i] ++ jks 22, [.box [.d (.sl L)], ghR]⟩
theorem rCo_b {ι : Type} (st : ι → S) (inv : ι → Prop) (μ : ι → Nat) (kk : ι) (L : List (List D)) (x : ByteArray) (n i : Int) (q : AV → List Ob → Prop) :
  (aCode KC [] (cAt [1, 1, 0, 1, 0, 0] Tryd.b38) (kFamM [] (maskOf (stCo L x n i)) st inv μ kk (rCo_k0 q)) (stCo L x n i)) = (
  ((List.length L) ≤ LIM) →
  bcase (decide (i < ((List.length L) : Int))) (
   (((0 : Int) ≤ i) ∧ (i < ((List.length L) : Int))) ∧
   ((List.length (List.getD L (Int.toNat i) [])) = 3) ∧
   ((1 : Nat) ≤ (List.length (List.drop 2 (List.getD L (Int.toNat i) [])))) ∧
   ((List.getD (List.drop 2 (List.getD L (Int.toNat i) [])) 0 d0) = (D.v (.string (strD (List.getD (List.drop 2 (List.getD L (Int.toNat i) [])) 0 d0))))) ∧
   bcase (decide ((strD (List.getD (List.drop 2 (List.getD L (Int.toNat i) [])) 0 d0)) = x)) (
    FamNext st inv μ kk ⟨[AV.rf 0 0, mkS x, AV.jk, AV.jk, mkI .i64 0, mkI .i64 (IntKind.wrap .i64 (n + (1 : Int))), mkI .i64 (IntKind.wrap .i64 (i + (1 : Int)))] ++ (jks 22), [Ob.box [AV.d (.sl L)], Ob.gh [AV.rf 0 0]]⟩) (
    FamNext st inv μ kk ⟨[AV.rf 0 0, mkS x, AV.jk, AV.jk, mkI .i64 0, mkI .i64 n, mkI .i64 (IntKind.wrap .i64 (i + (1 : Int)))] ++ (jks 22), [Ob.box [AV.d (.sl L)], Ob.gh [AV.rf 0 0]]⟩)) (
   q (mkI .i64 n) [Ob.box [AV.d (.sl L)], Ob.gh [AV.rf 0 0]])) := by kernel_rfl
noncomputable def rFr_k0 (q : AV → (List Ob) → Prop) : Kont := kBlk (0 : Nat) (kSeq (aCode KC [] (cAt [1, 1] Tryd.b18) (kRetF KC (Array.toList (Func.results Tryd.f18)) q)) (kRetF KC (Array.toList (Func.results Tryd.f18)) q))
theorem rFr (L : List (List D)) (us : List (List D)) (q : AV → List Ob → Prop) :
  (aCode KC [] Tryd.b18 (kRetF KC Tryd.f18.results.toList q) ⟨[.rf 0 0, .d (.sl us)] ++ List.replicate (Tryd.f18.ntmps - 2) .jk, [.box [.d (.sl L)], ghR]⟩) = (
  ALoop (aCode KC [] (cAt [1, 0, 1, 0, 0] Tryd.b18)) (rFr_k0 q) ⟨[AV.rf 0 0, AV.d (.sl us), AV.jk, AV.jk, AV.nl, mkI .i64 0] ++ (jks 48), [Ob.box [AV.d (.sl L)], Ob.gh [AV.rf 0 0]]⟩) := by kernel_rfl
def stFr (L us out : List (List D)) (i : Int) : S := ⟨[.rf 0 0, .d (.sl us), .jk, .jk, .vw 2 out.length, mkI .i64 i] ++ jks 48, [.box [.d (.sl L)], ghR, .row 3 out]⟩
noncomputable def rFr_b_k0 {ι : Type} (st : ι → S) (inv : ι → Prop) (μ : ι → Nat) (kk : ι) (L : List (List D)) (us : List (List D)) (out : List (List D)) (i : Int) (q : AV → (List Ob) → Prop) : Kont := kBlk (2 : Nat) (kSeq (aCode KC [] (cAt [1, 0, 1, 0, 0, 1, 0, 0, 1, 1] Tryd.b18) (kBlk (1 : Nat) (kSeq (aCode KC [] (cAt [1, 0, 1, 0, 0, 1, 1] Tryd.b18) (kFamM [] (maskOf (stFr L us out i)) st inv μ kk (rFr_k0 q))) (kFamM [] (maskOf (stFr L us out i)) st inv μ kk (rFr_k0 q))))) (kBlk (1 : Nat) (kSeq (aCode KC [] (cAt [1, 0, 1, 0, 0, 1, 1] Tryd.b18) (kFamM [] (maskOf (stFr L us out i)) st inv μ kk (rFr_k0 q))) (kFamM [] (maskOf (stFr L us out i)) st inv μ kk (rFr_k0 q)))))
theorem rFr_b {ι : Type} (st : ι → S) (inv : ι → Prop) (μ : ι → Nat) (kk : ι) (L us out : List (List D)) (i : Int) (q : AV → List Ob → Prop) :
  (aCode KC [] (cAt [1, 0, 1, 0, 0] Tryd.b18) (kFamM [] (maskOf (stFr L us out i)) st inv μ kk (rFr_k0 q)) (stFr L us out i)) = (
  ((List.length L) ≤ LIM) →
  bcase (decide (i < ((List.length L) : Int))) (
   ALoop (aCode KC [] (cAt [1, 0, 1, 0, 0, 1, 0, 0, 1, 0, 1, 0, 0] Tryd.b18)) (rFr_b_k0 st inv μ kk L us out i q) ⟨[AV.rf 0 0, AV.d (.sl us), AV.jk, AV.jk, AV.vw 2 (List.length out), mkI .i64 i, mkB false, mkI .i64 0, mkI .i64 i, AV.rf 0 0, AV.rf 0 0, AV.rf 0 (0 + 0), AV.d (.sl L), mkI .i64 ((List.length L) : Int), mkB true] ++ (jks 39), [Ob.box [AV.d (.sl L)], Ob.gh [AV.rf 0 0], Ob.row 3 out]⟩) (
   q (AV.tp []) [Ob.box [AV.vw 2 (List.length out)], Ob.gh [AV.rf 0 0], Ob.row 3 out])) := by kernel_rfl
def stFi (L us out : List (List D)) (i : Int) (z : Bool) (k : Int) : S := ⟨[.rf 0 0, .d (.sl us), .jk, .jk, .vw 2 out.length, mkI .i64 i, mkB z, mkI .i64 k] ++ jks 46, [.box [.d (.sl L)], ghR, .row 3 out]⟩
theorem rFr_i {ι ι2 : Type} (st : ι → S) (inv : ι → Prop) (μ : ι → Nat) (kk : ι) (st2 : ι2 → S) (inv2 : ι2 → Prop) (μ2 : ι2 → Nat) (kk2 : ι2) (L us out : List (List D)) (i : Int) (z : Bool) (k : Int) (q : AV → List Ob → Prop) :
  (aCode KC [] (cAt [1, 0, 1, 0, 0, 1, 0, 0, 1, 0, 1, 0, 0] Tryd.b18) (kFamM [] (maskOf (stFi L us out i z k)) st2 inv2 μ2 kk2 (rFr_b_k0 st inv μ kk L us out i q)) (stFi L us out i z k)) = (
  ((List.length us) ≤ LIM) →
  bcase (decide (k < ((List.length us) : Int))) (
   bcase z (
    FamNext st2 inv2 μ2 kk2 ⟨[AV.rf 0 0, AV.d (.sl us), AV.jk, AV.jk, AV.vw 2 (List.length out), mkI .i64 i, mkB true, mkI .i64 (IntKind.wrap .i64 (k + (1 : Int)))] ++ (jks 46), [Ob.box [AV.d (.sl L)], Ob.gh [AV.rf 0 0], Ob.row 3 out]⟩) (
    (((0 : Int) ≤ k) ∧ (k < ((List.length us) : Int))) ∧
    ((List.length (List.getD us (Int.toNat k) [])) = 1) ∧
    ((1 : Nat) ≤ (List.length (List.getD us (Int.toNat k) []))) ∧
    ((List.getD (List.getD us (Int.toNat k) []) 0 d0) = (D.v (.string (strD (List.getD (List.getD us (Int.toNat k) []) 0 d0))))) ∧
    (((0 : Int) ≤ i) ∧ (i < ((List.length L) : Int))) ∧
    ((List.length (List.getD L (Int.toNat i) [])) = 3) ∧
    ((1 : Nat) ≤ (List.length (List.drop 0 (List.getD L (Int.toNat i) [])))) ∧
    ((List.getD (List.drop 0 (List.getD L (Int.toNat i) [])) 0 d0) = (D.v (.string (strD (List.getD (List.drop 0 (List.getD L (Int.toNat i) [])) 0 d0))))) ∧
    FamNext st2 inv2 μ2 kk2 ⟨[AV.rf 0 0, AV.d (.sl us), AV.jk, AV.jk, AV.vw 2 (List.length out), mkI .i64 i, mkB (decide ((strD (List.getD (List.getD us (Int.toNat k) []) 0 d0)) = (strD (List.getD (List.drop 0 (List.getD L (Int.toNat i) [])) 0 d0)))), mkI .i64 (IntKind.wrap .i64 (k + (1 : Int)))] ++ (jks 46), [Ob.box [AV.d (.sl L)], Ob.gh [AV.rf 0 0], Ob.row 3 out]⟩)) (
   bcase z (
    (((0 : Int) ≤ i) ∧ (i < ((List.length L) : Int))) ∧
    ((List.length (List.getD L (Int.toNat i) [])) = 3) ∧
    (3 ≤ (List.length (List.getD L (Int.toNat i) []))) ∧
    (((List.getD (List.getD L (Int.toNat i) []) 0 d0) = (D.v (.string (strD (List.getD (List.getD L (Int.toNat i) []) 0 d0))))) ∧ (((List.getD (List.drop 1 (List.getD L (Int.toNat i) [])) 0 d0) = (D.v (.string (strD (List.getD (List.drop 1 (List.getD L (Int.toNat i) [])) 0 d0))))) ∧ (((List.getD (List.drop 1 (List.drop 1 (List.getD L (Int.toNat i) []))) 0 d0) = (D.v (.string (strD (List.getD (List.drop 1 (List.drop 1 (List.getD L (Int.toNat i) []))) 0 d0))))) ∧ True))) ∧
    (∀ (c : List D), (c ∈ [[D.v (.string (strD (List.getD (List.getD L (Int.toNat i) []) 0 d0))), D.v (.string (strD (List.getD (List.drop 1 (List.getD L (Int.toNat i) [])) 0 d0))), D.v (.string (strD (List.getD (List.drop 1 (List.drop 1 (List.getD L (Int.toNat i) []))) 0 d0)))]]) → (List.length c) = 3) ∧
    ((List.length out) = (List.length out)) ∧
    (((List.length out) + 1) ≤ LIM) ∧
    FamNext st inv μ kk ⟨[AV.rf 0 0, AV.d (.sl us), AV.jk, AV.jk, AV.vw 2 ((List.length out) + 1), mkI .i64 (IntKind.wrap .i64 (i + (1 : Int)))] ++ (jks 48), [Ob.box [AV.d (.sl L)], Ob.gh [AV.rf 0 0], Ob.row 3 (out ++ [[D.v (.string (strD (List.getD (List.getD L (Int.toNat i) []) 0 d0))), D.v (.string (strD (List.getD (List.drop 1 (List.getD L (Int.toNat i) [])) 0 d0))), D.v (.string (strD (List.getD (List.drop 1 (List.drop 1 (List.getD L (Int.toNat i) []))) 0 d0)))]]), Ob.row 3 [[D.v (.string (strD (List.getD (List.getD L (Int.toNat i) []) 0 d0))), D.v (.string (strD (List.getD (List.drop 1 (List.getD L (Int.toNat i) [])) 0 d0))), D.v (.string (strD (List.getD (List.drop 1 (List.drop 1 (List.getD L (Int.toNat i) []))) 0 d0)))]]]⟩) (
    FamNext st inv μ kk ⟨[AV.rf 0 0, AV.d (.sl us), AV.jk, AV.jk, AV.vw 2 (List.length out), mkI .i64 (IntKind.wrap .i64 (i + (1 : Int)))] ++ (jks 48), [Ob.box [AV.d (.sl L)], Ob.gh [AV.rf 0 0], Ob.row 3 out]⟩))) := by kernel_rfl
end Go.Proofs.YthbejheedpdioaaDoor

namespace Go.Proofs.YthbejheedpdioaaDoor
open Go Go.AM Go.RowKit
attribute [local irreducible] aUnr aUnS aCode
structure One where
  u : BA
  d : BA
  sh : BA
deriving DecidableEq
def onD (o : One) : List D := [.v (.string o.u), .v (.string o.d), .v (.string o.sh)]
def onL (L : List One) : List (List D) := L.map onD
theorem onL_len (L : List One) : (onL L).length = L.length := by simp [onL]
theorem on_at (L : List One) {i : Nat} (h : i < L.length) : (onL L).getD ((i : Int).toNat) [] = onD L[i] := by
  rw [Int.toNat_natCast, List.getD_eq_getElem?_getD, onL, List.getElem?_map, List.getElem?_eq_getElem h]; rfl
theorem onL_app (L : List One) (o : One) : onL L ++ [onD o] = onL (L ++ [o]) := by simp [onL]
theorem sD_app (L : List BA) (o : BA) : strsD L ++ [[.v (.string o)]] = strsD (L ++ [o]) := by simp [strsD]
def obR (L : List One) : List Ob := [.box [.d (.sl (onL L))], ghR]
theorem take_filter {α : Type} (p : α → Bool) (L : List α) {i : Nat} (h : i < L.length) : (L.take (i + 1)).filter p = (L.take i).filter p ++ (if p L[i] = true then [L[i]] else []) := by
  rw [List.take_add_one, List.getElem?_eq_getElem h, List.filter_append]
  congr 1
  simp only [Option.toList_some, List.filter_cons, List.filter_nil]
def lessB (a b : BA) : Bool := decide (a.data.toList < b.data.toList)
def FAh : List AV → Option (Prop × AV) := fun al => match al with
  | [.d (.v (.string a)), .d (.v (.string b))] => some (a.size ≤ LIM ∧ b.size ≤ LIM, mkB (lessB a b))
  | _ => none
theorem lt_split : ∀ (n : Nat) (a b : List UInt8), (∀ k, k < n → a.getD k 0 = b.getD k 0) → n ≤ a.length → n ≤ b.length → (decide (a < b) = decide (a.drop n < b.drop n))
  | 0, a, b, _, _, _ => rfl
  | n + 1, [], _, _, h, _ => by simp at h
  | n + 1, _, [], _, _, h => by simp at h
  | n + 1, x :: a, y :: b, h, h1, h2 => by
    have e : x = y := h 0 (by omega)
    subst e
    have := lt_split n a b (fun k hk => h (k + 1) (by omega)) (by simpa using h1) (by simpa using h2)
    simp only [List.drop_succ_cons]
    rw [← this]
    have : (x :: a < x :: b) ↔ (a < b) := by
      constructor
      · intro h
        cases h with
        | rel h => exact absurd h (UInt8.lt_irrefl x)
        | cons h => exact h
      · intro h
        exact .cons h
    exact decide_eq_decide.2 this
theorem cAh : PSound Tryd.prog 34 (detE FAh) := by
  refine det_fn (c := Tryd.b34) mixed KC_ok gsound_nil Tryd.func34 rfl rfl Tryd.call34 fun al p r q hF hp hq => ?_
  unfold FAh at hF; split at hF <;> cases hF
  rename_i a b
  obtain ⟨ha, hb⟩ := hp
  have la : a.data.toList.length = a.size := Array.length_toList
  have lb : b.data.toList.length = b.size := Array.length_toList
  refine cast (rAh a b q).symm ?_
  refine ALoop.introM [] (maskOf (stAh a b 0)) (fun i : Nat => stAh a b (i : Int)) (fun i => i ≤ a.size ∧ i ≤ b.size ∧ ∀ k, k < i → a.data.toList.getD k 0 = b.data.toList.getD k 0) (fun i => a.size - i)
    ⟨[], 0, by simp [S.le, sealAll, leL, leA, leO, jks, stAh, mkI, mkS, mkB, S.fits, fitsL, AV.fits], by omega, by omega, fun k hk => by omega⟩ fun i ⟨hi1, hi2, hk⟩ => ?_
  have fin : i = a.size ∨ i = b.size → decide (((a.size : Nat) : Int) < (b.size : Int)) = lessB a b := fun h => by
    unfold lessB
    rw [lt_split i _ _ hk (by omega) (by omega)]
    rcases h with h | h
    · have e1 : a.data.toList.drop i = [] := List.drop_eq_nil_of_le (by omega)
      rw [e1]
      by_cases hlt : a.size < b.size
      · rw [decide_eq_true (by omega)]
        have : b.data.toList.drop i ≠ [] := fun e => by have := congrArg List.length e; simp at this; omega
        cases hd : b.data.toList.drop i with
        | nil => exact absurd hd this
        | cons x l => exact (decide_eq_true (List.nil_lt_cons x l)).symm
      · rw [decide_eq_false (by omega)]
        have : b.data.toList.drop i = [] := List.drop_eq_nil_of_le (by omega)
        rw [this]
        exact (decide_eq_false (List.not_lt_nil [])).symm
    · have e1 : b.data.toList.drop i = [] := List.drop_eq_nil_of_le (by omega)
      rw [e1, decide_eq_false (by omega)]
      exact (decide_eq_false (List.not_lt_nil _)).symm
  refine cast (rAh_b _ _ _ i a b (i : Int) q).symm fun _ => bcase_dec (fun h1 => fun _ => bcase_dec (fun h2 => ?_) (fun h2 => fun _ _ => ?_)) (fun h1 => fun _ _ => ?_)
  · have g1 : i < a.data.toList.length := by omega
    have g2 : i < b.data.toList.length := by omega
    have w1 : IntKind.wrap .i64 ((i : Int) + 1) = ((i + 1 : Nat) : Int) := by unfold LIM at ha; rw [IntWalk.i64_in _ (by omega)]; omega
    rw [w1, Int.toNat_natCast]
    refine ⟨by omega, by omega, bcase_mk (fun hne => ⟨by omega, by omega, ?_⟩) (fun he => ?_)⟩
    · have hne : a.data.toList.getD i 0 ≠ b.data.toList.getD i 0 := fun e => by rw [e] at hne; simp at hne
      have : decide (((a.data.toList.getD i 0).toNat : Int) < ((b.data.toList.getD i 0).toNat : Int)) = lessB a b := by
        unfold lessB
        rw [lt_split i _ _ hk (by omega) (by omega), List.drop_eq_getElem_cons g1, List.drop_eq_getElem_cons g2]
        rw [List.getD_eq_getElem?_getD, List.getElem?_eq_getElem g1, List.getD_eq_getElem?_getD, List.getElem?_eq_getElem g2] at *
        simp only [Option.getD_some] at *
        refine decide_eq_decide.2 ⟨fun h => .rel (UInt8.lt_iff_toNat_lt.2 (by omega)), fun h => ?_⟩
        rcases List.cons_lt_cons_iff.1 h with h | ⟨h, _⟩
        · have := UInt8.lt_iff_toNat_lt.1 h; omega
        · exact absurd h hne
      rw [this]
      exact hq
    · have he : a.data.toList.getD i 0 = b.data.toList.getD i 0 := by
        have : ((a.data.toList.getD i 0).toNat : Int) = ((b.data.toList.getD i 0).toNat : Int) := by simpa using he
        exact UInt8.toNat_inj.1 (by omega)
      refine .mk [] (i + 1) (by simp [S.le, sealAll, leL, leA, leO, jks, stAh, mkI, mkS, mkB, S.fits, fitsL, AV.fits]) ⟨by show i + 1 ≤ _; omega, by show i + 1 ≤ _; omega, fun k hk2 => ?_⟩ (show a.size - (i + 1) < a.size - i by omega)
      by_cases e : k = i
      · subst e; exact he
      · exact hk k (by omega)
  · rw [fin (.inr (by omega))]; exact hq
  · rw [fin (.inl (by omega))]; exact hq
def keepB (u d : BA) (o : One) : Bool := !(decide (o.u = u)) || (!(decide (d = ⟨#[]⟩)) && !(decide (o.d = d)))
def dropL (u d : BA) (L : List One) : List One := L.filter (keepB u d)
def EDr : REnt := fun al o q => ∃ L u d, al = [.rf 0 0, mkS u, mkS d] ∧ o = obR L ∧ L.length ≤ 1000 ∧ q (.tp []) (obR (dropL u d L))
theorem cDr : RSound Tryd.prog 33 EDr := by
  refine ref_gen trimW trimW_ok (code_bsound (c := Tryd.b33) mixed KC_ok gsound_nil) KC_ok Tryd.func33 rfl rfl Tryd.call33 fun al o q ⟨L, u, d, h1, h2, hL, hq⟩ => ?_
  subst h1 h2
  have hl := onL_len L
  refine cast (rDr (onL L) u d (trimW q)).symm (ALoop.openT 6 3 (by omega) ?_)
  refine ALoop.introM [] (maskOf (stDr (onL L) u d [] 0)) (fun i : Nat => stDr (onL L) u d (onL (dropL u d (L.take i))) (i : Int)) (fun i => i ≤ L.length) (fun i => L.length - i)
    ⟨[], 0, by generalize onL L = l; simp [S.le, sealAll, leL, leA, leO, jks, stDr, S.openT, onL, dropL, mkI, mkS, mkB, S.fits, fitsL, AV.fits, Ob.fits], Nat.zero_le _⟩ fun i hi => ?_
  have hi : i ≤ L.length := hi
  have hol := onL_len (dropL u d (L.take i))
  have hol2 : (dropL u d (L.take i)).length ≤ i := Nat.le_trans (List.length_filter_le _ _) (by simp; omega)
  refine cast (rDr_b _ _ _ i (onL L) u d (onL (dropL u d (L.take i))) (i : Int) (trimW q)).symm fun _ => bcase_dec (fun hlt => ?_) (fun hge => ?_)
  · have hlt : i < L.length := by rw [hl] at hlt; omega
    have w1 : IntKind.wrap .i64 ((i : Int) + 1) = ((i + 1 : Nat) : Int) := by rw [IntWalk.i64_in _ (by omega)]; omega
    have hi1 : (0 ≤ (i : Int)) ∧ ((i : Int) < ((onL L).length : Int)) := ⟨by omega, by rw [hl]; omega⟩
    rw [on_at L hlt, w1]
    have tf : dropL u d (L.take (i + 1)) = dropL u d (L.take i) ++ (if keepB u d L[i] = true then [L[i]] else []) := take_filter _ L hlt
    have yes : keepB u d L[i] = true → ∀ rest, FamNext (fun i : Nat => stDr (onL L) u d (onL (dropL u d (L.take i))) (i : Int)) (fun i => i ≤ L.length) (fun i => L.length - i) i ⟨[.rf 0 0, mkS u, mkS d, .jk, .jk, .jk, .vw 2 ((onL (dropL u d (L.take i))).length + 1), mkI .i64 ((i + 1 : Nat) : Int)] ++ jks 49, [.box [.d (.sl (onL L))], ghR, .row 3 (onL (dropL u d (L.take i)) ++ [onD L[i]])] ++ rest⟩ := fun hk rest => by
      refine .mk [] (i + 1) ?_ hlt (show L.length - (i + 1) < L.length - i by omega)
      rw [tf, if_pos hk, ← onL_app]
      have e : (onL (dropL u d (L.take i))).length + 1 = (onL (dropL u d (L.take i)) ++ [onD L[i]]).length := by simp
      rw [e]
      generalize onL (dropL u d (L.take i)) ++ [onD L[i]] = out
      generalize onL L = l
      simp [S.le, sealAll, leL, leA, leO, jks, stDr, mkI, mkS, mkB, S.fits, fitsL, AV.fits, Ob.fits]
    have no : keepB u d L[i] = false → FamNext (fun i : Nat => stDr (onL L) u d (onL (dropL u d (L.take i))) (i : Int)) (fun i => i ≤ L.length) (fun i => L.length - i) i ⟨[.rf 0 0, mkS u, mkS d, .jk, .jk, .jk, .vw 2 (onL (dropL u d (L.take i))).length, mkI .i64 ((i + 1 : Nat) : Int)] ++ jks 49, [.box [.d (.sl (onL L))], ghR, .row 3 (onL (dropL u d (L.take i)))]⟩ := fun hk => by
      refine .mk [] (i + 1) ?_ hlt (show L.length - (i + 1) < L.length - i by omega)
      rw [tf, if_neg (by rw [hk]; decide), List.append_nil]
      generalize onL (dropL u d (L.take i)) = out
      generalize onL L = l
      simp [S.le, sealAll, leL, leA, leO, jks, stDr, mkI, mkS, mkB, S.fits, fitsL, AV.fits, Ob.fits]
    have lim : (onL (dropL u d (L.take i))).length + 1 ≤ LIM := by unfold LIM; omega
    refine ⟨hi1, rfl, by simp [onD], rfl, bcase_mk (fun h1 => ⟨hi1, rfl, Nat.le_refl 3, ⟨rfl, rfl, rfl, trivial⟩, fun c hc => by simp at hc; simp [hc], rfl, lim, yes (by unfold keepB; rw [show (!(decide (L[i].u = u))) = true from h1]; rfl) _⟩) (fun h1 => bcase_mk (fun h2 => ⟨hi1, rfl, by simp [onD], rfl, bcase_mk (fun h3 => ⟨hi1, rfl, Nat.le_refl 3, ⟨rfl, rfl, rfl, trivial⟩, fun c hc => by simp at hc; simp [hc], rfl, lim, yes (by unfold keepB; rw [h2, show (!(decide (L[i].d = d))) = true from h3]; simp) _⟩) (fun h3 => no (by unfold keepB; rw [show (!(decide (L[i].u = u))) = false from h1, show (!(decide (L[i].d = d))) = false from h3]; simp))⟩) (fun h2 => no (by unfold keepB; rw [show (!(decide (L[i].u = u))) = false from h1, h2]; rfl)))⟩
  · have : i = L.length := by rw [hl] at hge; omega
    subst this
    rw [List.take_length]
    refine ⟨_, _, (weak_seal _ [2]).trans (weak_le (?_ : S.le _ ⟨[.tp []], obR (dropL u d L)⟩)), hq⟩
    unfold obR
    generalize onL (dropL u d L) = out
    simp [S.le, sealAll, S.sealR, subL, AV.sub, Ob.subO, leL, leA, leO, S.fits, fitsL, AV.fits, Ob.fits]
end Go.Proofs.YthbejheedpdioaaDoor

namespace Go.Proofs.YthbejheedpdioaaDoor
open Go Go.AM Go.RowKit
attribute [local irreducible] aUnr aUnS aCode
structure OkL (L : List One) : Prop where
  len : L.length ≤ 1000
  sz : ∀ o ∈ L, o.u.size ≤ 16 ∧ o.d.size ≤ 16
def nmO (o : One) : BA := o.u ++ ⟨#[47]⟩ ++ o.d
def isO (x : BA) (o : One) : Bool := decide (nmO o = x)
def findO (L : List One) (x : BA) : Option One := L.find? (isO x)
def shO (L : List One) (x : BA) : BA := match findO L x with | some o => o.sh | none => ⟨#[]⟩
def hasO (L : List One) (x : BA) : Bool := (findO L x).isSome
def ESw : REnt := fun al o q => ∃ L x, al = [.rf 0 0, mkS x] ∧ o = obR L ∧ OkL L ∧ q (.tp [mkS (shO L x), mkB (hasO L x)]) (obR L)
theorem cSw : RSound Tryd.prog 20 ESw := by
  refine ref_gen trimW trimW_ok (code_bsound (c := Tryd.b20) mixed KC_ok gsound_nil) KC_ok Tryd.func20 rfl rfl Tryd.call20 fun al o q ⟨L, x, h1, h2, hL, hq⟩ => ?_
  subst h1 h2
  have hl := onL_len L
  have hlen := hL.len
  refine cast (rSw (onL L) x (trimW q)).symm ?_
  refine ALoop.introM [] (maskOf (stSw (onL L) x 0)) (fun i : Nat => stSw (onL L) x (i : Int)) (fun i => i ≤ L.length ∧ ∀ o ∈ L.take i, isO x o = false) (fun i => L.length - i)
    ⟨[], 0, by generalize onL L = l; simp [S.le, sealAll, leL, leA, leO, jks, stSw, mkI, mkS, mkB, S.fits, fitsL, AV.fits, Ob.fits], Nat.zero_le _, fun o ho => by simp at ho⟩ fun i ⟨hi, hno⟩ => ?_
  refine cast (rSw_b _ _ _ i (onL L) x (i : Int) (trimW q)).symm fun _ => bcase_dec (fun hlt => ?_) (fun hge => ?_)
  · have hlt : i < L.length := by rw [hl] at hlt; omega
    have w1 : IntKind.wrap .i64 ((i : Int) + 1) = ((i + 1 : Nat) : Int) := by rw [IntWalk.i64_in _ (by omega)]; omega
    have hi1 : (0 ≤ (i : Int)) ∧ ((i : Int) < ((onL L).length : Int)) := ⟨by omega, by rw [hl]; omega⟩
    obtain ⟨z1, z2⟩ := hL.sz _ (List.getElem_mem hlt)
    rw [on_at L hlt, w1]
    refine ⟨hi1, rfl, by simp [onD], rfl, ?_, hi1, rfl, by simp [onD], rfl, ?_, bcase_mk (fun h => ⟨hi1, rfl, by simp [onD], rfl, _, _, weak_packG [some 0, some 1] rfl, ?_⟩) (fun h => ?_)⟩
    · show L[i].u.size + 1 ≤ LIM
      unfold LIM; omega
    · show (L[i].u ++ (⟨#[47]⟩ : BA)).size + L[i].d.size ≤ LIM
      rw [ByteArray.size_append]
      show L[i].u.size + 1 + L[i].d.size ≤ LIM
      unfold LIM; omega
    · have h : isO x L[i] = true := h
      have e : findO L x = some L[i] := by
        have h3 : findO L x = (L.take i ++ L[i] :: L.drop (i + 1)).find? (isO x) := by rw [← List.drop_eq_getElem_cons hlt, List.take_append_drop]; rfl
        rw [h3, List.find?_append, List.find?_eq_none.2 fun o ho => by rw [hno o ho]; decide, Option.none_or, List.find?_cons_of_pos h]
      unfold shO hasO at hq
      rw [e] at hq
      exact hq
    · have h : isO x L[i] = false := h
      refine .mk [] (i + 1) ?_ ⟨hlt, fun o ho => ?_⟩ (show L.length - (i + 1) < L.length - i by omega)
      · generalize onL L = l
        simp [S.le, sealAll, leL, leA, leO, jks, stSw, mkI, mkS, mkB, S.fits, fitsL, AV.fits, Ob.fits]
      · rw [List.take_add_one, List.getElem?_eq_getElem hlt] at ho
        rcases List.mem_append.1 ho with ho | ho
        · exact hno o ho
        · simp at ho; rw [ho]; exact h
  · have : i = L.length := by rw [hl] at hge; omega
    subst this
    rw [List.take_length] at hno
    have e : findO L x = none := List.find?_eq_none.2 fun o ho => by rw [hno o ho]; decide
    unfold shO hasO at hq
    rw [e] at hq
    exact ⟨_, _, weak_packG [some 0, some 1] rfl, hq⟩
def uAt (L : List One) (j : Nat) : BA := match L[j]? with | some o => o.u | none => ⟨#[]⟩
def usB (L : List One) (j : Nat) : Bool := decide (j = 0) || !(decide (uAt L j = uAt L (j - 1)))
def usTo (L : List One) : Nat → List BA
  | 0 => []
  | j + 1 => usTo L j ++ (if usB L j = true then [uAt L j] else [])
theorem usTo_len (L : List One) : ∀ j, (usTo L j).length ≤ j
  | 0 => Nat.le_refl _
  | j + 1 => by
    have := usTo_len L j
    simp only [usTo, List.length_append]
    split <;> simp <;> omega
def EUr : REnt := fun al o q => ∃ L, al = [.rf 0 0] ∧ o = obR L ∧ OkL L ∧ q (mkSS (usTo L L.length)) (obR L)
theorem uAt_lt {L : List One} {j : Nat} (h : j < L.length) : uAt L j = L[j].u := by simp [uAt, h]
theorem cUr : RSound Tryd.prog 35 EUr := by
  refine ref_gen trimW trimW_ok (code_bsound (c := Tryd.b35) mixed KC_ok gsound_nil) KC_ok Tryd.func35 rfl rfl Tryd.call35 fun al o q ⟨L, h1, h2, hL, hq⟩ => ?_
  subst h1 h2
  have hl := onL_len L
  have hlen := hL.len
  refine cast (rUr (onL L) (trimW q)).symm (ALoop.openT 3 1 (by omega) ?_)
  refine ALoop.introM [] (maskOf (stUr (onL L) [] 0)) (fun i : Nat => stUr (onL L) (strsD (usTo L i)) (i : Int)) (fun i => i ≤ L.length) (fun i => L.length - i)
    ⟨[], 0, by generalize onL L = l; simp [S.le, sealAll, leL, leA, leO, jks, stUr, S.openT, usTo, strsD, mkI, mkS, mkB, S.fits, fitsL, AV.fits, Ob.fits], Nat.zero_le _⟩ fun i hi => ?_
  have hi : i ≤ L.length := hi
  have hol := usTo_len L i
  have hol2 : (strsD (usTo L i)).length = (usTo L i).length := strsD_length _
  refine cast (rUr_b _ _ _ i (onL L) (strsD (usTo L i)) (i : Int) (trimW q)).symm fun _ => bcase_dec (fun hlt => ?_) (fun hge => ?_)
  · have hlt : i < L.length := by rw [hl] at hlt; omega
    have w1 : IntKind.wrap .i64 ((i : Int) + 1) = ((i + 1 : Nat) : Int) := by rw [IntWalk.i64_in _ (by omega)]; omega
    have hi1 : (0 ≤ (i : Int)) ∧ ((i : Int) < ((onL L).length : Int)) := ⟨by omega, by rw [hl]; omega⟩
    have eu := uAt_lt hlt
    rw [on_at L hlt, w1]
    have lim : (strsD (usTo L i)).length + 1 ≤ LIM := by unfold LIM; omega
    have yes : usB L i = true → ∀ rest, FamNext (fun i : Nat => stUr (onL L) (strsD (usTo L i)) (i : Int)) (fun i => i ≤ L.length) (fun i => L.length - i) i ⟨[.rf 0 0, .jk, .d (.sl []), .vw 2 ((strsD (usTo L i)).length + 1), mkI .i64 ((i + 1 : Nat) : Int)] ++ jks 43, [.box [.d (.sl (onL L))], ghR, .row 1 (strsD (usTo L i) ++ [[D.v (.string L[i].u)]])] ++ rest⟩ := fun hk rest => by
      refine .mk [] (i + 1) ?_ hlt (show L.length - (i + 1) < L.length - i by omega)
      have e : strsD (usTo L (i + 1)) = strsD (usTo L i) ++ [[D.v (.string L[i].u)]] := by simp only [usTo]; rw [if_pos hk, eu, sD_app]
      rw [e]
      have e : (strsD (usTo L i)).length + 1 = (strsD (usTo L i) ++ [[D.v (.string L[i].u)]]).length := by simp
      rw [e]
      generalize strsD (usTo L i) ++ [[D.v (.string L[i].u)]] = out
      generalize onL L = l
      simp [S.le, sealAll, leL, leA, leO, jks, stUr, mkI, mkS, mkB, S.fits, fitsL, AV.fits, Ob.fits]
    refine bcase_mk (fun h0 => ?_) (fun h0 => ?_)
    · have h0 : i = 0 := by have : (i : Int) = 0 := by simpa using h0
                            omega
      exact ⟨hi1, rfl, by simp [onD], rfl, fun c hc => by simp at hc; simp [hc], rfl, lim, yes (by unfold usB; rw [decide_eq_true h0]; rfl) _⟩
    · have h0 : i ≠ 0 := fun e => by subst e; simp at h0
      obtain ⟨j, rfl⟩ : ∃ j, i = j + 1 := ⟨i - 1, by omega⟩
      have w3 : IntKind.wrap .i64 (((j + 1 : Nat) : Int) - 1) = (j : Int) := by rw [IntWalk.i64_in _ (by omega)]; omega
      have hj : j < L.length := by omega
      have ej := uAt_lt hj
      rw [w3, on_at L hj]
      refine ⟨hi1, rfl, by simp [onD], rfl, ⟨by omega, by rw [hl]; omega⟩, rfl, by simp [onD], rfl, bcase_mk (fun h1 => ⟨hi1, rfl, by simp [onD], rfl, fun c hc => by simp at hc; simp [hc], rfl, lim, yes ?_ _⟩) (fun h1 => ?_)⟩
      · have h1 : (!(decide (L[j + 1].u = L[j].u))) = true := h1
        unfold usB
        rw [eu, show j + 1 - 1 = j from rfl, ej, h1]; simp
      · have h1 : (!(decide (L[j + 1].u = L[j].u))) = false := h1
        have hk : usB L (j + 1) = false := by
          unfold usB
          rw [eu, show j + 1 - 1 = j from rfl, ej, h1]; simp
        refine .mk [] (j + 1 + 1) ?_ hlt (show L.length - (j + 1 + 1) < L.length - (j + 1) by omega)
        have e : strsD (usTo L (j + 1 + 1)) = strsD (usTo L (j + 1)) := by
          show strsD (usTo L (j + 1) ++ (if usB L (j + 1) = true then [uAt L (j + 1)] else [])) = _
          rw [if_neg (by rw [hk]; decide), List.append_nil]
        rw [e]
        generalize strsD (usTo L (j + 1)) = out
        generalize onL L = l
        simp [S.le, sealAll, leL, leA, leO, jks, stUr, mkI, mkS, mkB, S.fits, fitsL, AV.fits, Ob.fits]
  · have : i = L.length := by rw [hl] at hge; omega
    subst this
    refine ⟨_, _, (weak_seal _ [2]).trans (weak_le (?_ : S.le _ ⟨[mkSS (usTo L L.length)], obR L⟩)), hq⟩
    unfold obR mkSS
    generalize strsD (usTo L L.length) = out
    generalize onL L = l
    simp [S.le, sealAll, S.sealR, subL, AV.sub, Ob.subO, leL, leA, leO, S.fits, fitsL, AV.fits, Ob.fits]
def ofU (u : BA) (L : List One) : List One := L.filter fun o => decide (o.u = u)
def EDe : REnt := fun al o q => ∃ L u, al = [.rf 0 0, mkS u] ∧ o = obR L ∧ OkL L ∧ q (.tp [mkSS ((ofU u L).map One.d), mkSS ((ofU u L).map One.sh)]) (obR L)
theorem cDe : RSound Tryd.prog 36 EDe := by
  refine ref_gen trimW trimW_ok (code_bsound (c := Tryd.b36) mixed KC_ok gsound_nil) KC_ok Tryd.func36 rfl rfl Tryd.call36 fun al o q ⟨L, u, h1, h2, hL, hq⟩ => ?_
  subst h1 h2
  have hl := onL_len L
  have hlen := hL.len
  refine cast (rDe (onL L) u (trimW q)).symm (ALoop.openT 6 1 (by omega) (ALoop.openT 7 1 (by omega) ?_))
  refine ALoop.introM [] (maskOf (stDe (onL L) u [] [] 0)) (fun i : Nat => stDe (onL L) u (strsD ((ofU u (L.take i)).map One.d)) (strsD ((ofU u (L.take i)).map One.sh)) (i : Int)) (fun i => i ≤ L.length) (fun i => L.length - i)
    ⟨[], 0, by generalize onL L = l; simp [S.le, sealAll, leL, leA, leO, jks, stDe, S.openT, ofU, strsD, mkI, mkS, mkB, S.fits, fitsL, AV.fits, Ob.fits], Nat.zero_le _⟩ fun i hi => ?_
  have hi : i ≤ L.length := hi
  have hol : (ofU u (L.take i)).length ≤ i := Nat.le_trans (List.length_filter_le _ _) (by simp; omega)
  have hol1 : (strsD ((ofU u (L.take i)).map One.d)).length = (ofU u (L.take i)).length := by rw [strsD_length, List.length_map]
  have hol2 : (strsD ((ofU u (L.take i)).map One.sh)).length = (ofU u (L.take i)).length := by rw [strsD_length, List.length_map]
  refine cast (rDe_b _ _ _ i (onL L) u (strsD ((ofU u (L.take i)).map One.d)) (strsD ((ofU u (L.take i)).map One.sh)) (i : Int) (trimW q)).symm fun _ => bcase_dec (fun hlt => ?_) (fun hge => ?_)
  · have hlt : i < L.length := by rw [hl] at hlt; omega
    have w1 : IntKind.wrap .i64 ((i : Int) + 1) = ((i + 1 : Nat) : Int) := by rw [IntWalk.i64_in _ (by omega)]; omega
    have hi1 : (0 ≤ (i : Int)) ∧ ((i : Int) < ((onL L).length : Int)) := ⟨by omega, by rw [hl]; omega⟩
    rw [on_at L hlt, w1]
    have tf : ofU u (L.take (i + 1)) = ofU u (L.take i) ++ (if decide (L[i].u = u) = true then [L[i]] else []) := take_filter _ L hlt
    refine ⟨hi1, rfl, by simp [onD], rfl, bcase_mk (fun h1 => ⟨hi1, rfl, by simp [onD], rfl, fun c hc => by simp at hc; simp [hc], rfl, by unfold LIM; omega, hi1, rfl, by simp [onD], rfl, fun c hc => by simp at hc; simp [hc], rfl, by unfold LIM; omega, ?_⟩) (fun h1 => ?_)⟩
    · have h1 : decide (L[i].u = u) = true := h1
      refine .mk [] (i + 1) ?_ hlt (show L.length - (i + 1) < L.length - i by omega)
      rw [tf, if_pos h1, List.map_append, List.map_append]
      show S.le (sealAll [] ⟨[.rf 0 0, mkS u, .jk, .jk, .jk, .jk, .vw 2 ((strsD ((ofU u (L.take i)).map One.d)).length + 1), .vw 3 ((strsD ((ofU u (L.take i)).map One.sh)).length + 1), mkI .i64 ((i + 1 : Nat) : Int)] ++ jks 43, [.box [.d (.sl (onL L))], ghR, .row 1 (strsD ((ofU u (L.take i)).map One.d) ++ [[D.v (.string L[i].d)]]), .row 1 (strsD ((ofU u (L.take i)).map One.sh) ++ [[D.v (.string L[i].sh)]]), _, _]⟩) (stDe (onL L) u (strsD ((ofU u (L.take i)).map One.d ++ [L[i].d])) (strsD ((ofU u (L.take i)).map One.sh ++ [L[i].sh])) ((i + 1 : Nat) : Int))
      rw [sD_app, sD_app]
      have e1 : (strsD ((ofU u (L.take i)).map One.d)).length + 1 = (strsD ((ofU u (L.take i)).map One.d ++ [L[i].d])).length := by simp [strsD]
      have e2 : (strsD ((ofU u (L.take i)).map One.sh)).length + 1 = (strsD ((ofU u (L.take i)).map One.sh ++ [L[i].sh])).length := by simp [strsD]
      rw [e1, e2]
      generalize strsD ((ofU u (L.take i)).map One.d ++ [L[i].d]) = o1
      generalize strsD ((ofU u (L.take i)).map One.sh ++ [L[i].sh]) = o2
      generalize onL L = l
      simp [S.le, sealAll, leL, leA, leO, jks, stDe, mkI, mkS, mkB, S.fits, fitsL, AV.fits, Ob.fits]
    · have h1 : decide (L[i].u = u) = false := h1
      refine .mk [] (i + 1) ?_ hlt (show L.length - (i + 1) < L.length - i by omega)
      rw [tf, if_neg (by rw [h1]; decide), List.append_nil]
      generalize strsD ((ofU u (L.take i)).map One.d) = o1
      generalize strsD ((ofU u (L.take i)).map One.sh) = o2
      generalize onL L = l
      simp [S.le, sealAll, leL, leA, leO, jks, stDe, mkI, mkS, mkB, S.fits, fitsL, AV.fits, Ob.fits]
  · have : i = L.length := by rw [hl] at hge; omega
    subst this
    rw [List.take_length]
    refine ⟨_, _, (weak_seal _ [2, 3]).trans (weak_le (?_ : S.le _ ⟨[.tp [mkSS ((ofU u L).map One.d), mkSS ((ofU u L).map One.sh)]], obR L⟩)), hq⟩
    unfold obR mkSS
    generalize strsD ((ofU u L).map One.d) = o1
    generalize strsD ((ofU u L).map One.sh) = o2
    generalize onL L = l
    simp [S.le, sealAll, S.sealR, subL, AV.sub, Ob.subO, leL, leA, leO, S.fits, fitsL, AV.fits, Ob.fits]
def cntS (x : BA) (L : List One) : Nat := (L.filter fun o => decide (o.sh = x)).length
def ECo : REnt := fun al o q => ∃ L x, al = [.rf 0 0, mkS x] ∧ o = obR L ∧ OkL L ∧ q (mkI .i64 (cntS x L : Nat)) (obR L)
theorem cCo : RSound Tryd.prog 38 ECo := by
  refine ref_gen trimW trimW_ok (code_bsound (c := Tryd.b38) mixed KC_ok gsound_nil) KC_ok Tryd.func38 rfl rfl Tryd.call38 fun al o q ⟨L, x, h1, h2, hL, hq⟩ => ?_
  subst h1 h2
  have hl := onL_len L
  have hlen := hL.len
  refine cast (rCo (onL L) x (trimW q)).symm ?_
  refine ALoop.introM [] (maskOf (stCo (onL L) x 0 0)) (fun i : Nat => stCo (onL L) x (cntS x (L.take i) : Nat) (i : Int)) (fun i => i ≤ L.length) (fun i => L.length - i)
    ⟨[], 0, by generalize onL L = l; simp [S.le, sealAll, leL, leA, leO, jks, stCo, cntS, mkI, mkS, mkB, S.fits, fitsL, AV.fits, Ob.fits], Nat.zero_le _⟩ fun i hi => ?_
  have hi : i ≤ L.length := hi
  have hol : cntS x (L.take i) ≤ i := Nat.le_trans (List.length_filter_le _ _) (by simp; omega)
  refine cast (rCo_b _ _ _ i (onL L) x (cntS x (L.take i) : Nat) (i : Int) (trimW q)).symm fun _ => bcase_dec (fun hlt => ?_) (fun hge => ?_)
  · have hlt : i < L.length := by rw [hl] at hlt; omega
    have w1 : IntKind.wrap .i64 ((i : Int) + 1) = ((i + 1 : Nat) : Int) := by rw [IntWalk.i64_in _ (by omega)]; omega
    have w2 : IntKind.wrap .i64 (((cntS x (L.take i) : Nat) : Int) + 1) = ((cntS x (L.take i) + 1 : Nat) : Int) := by rw [IntWalk.i64_in _ (by omega)]; omega
    have hi1 : (0 ≤ (i : Int)) ∧ ((i : Int) < ((onL L).length : Int)) := ⟨by omega, by rw [hl]; omega⟩
    rw [on_at L hlt, w1, w2]
    have tf : cntS x (L.take (i + 1)) = cntS x (L.take i) + (if decide (L[i].sh = x) = true then 1 else 0) := by
      unfold cntS
      rw [take_filter _ L hlt, List.length_append]
      split <;> rfl
    refine ⟨hi1, rfl, by simp [onD], rfl, bcase_mk (fun h1 => ?_) (fun h1 => ?_)⟩
    · have h1 : decide (L[i].sh = x) = true := h1
      refine .mk [] (i + 1) ?_ hlt (show L.length - (i + 1) < L.length - i by omega)
      rw [tf, if_pos h1]
      generalize cntS x (L.take i) + 1 = n
      generalize onL L = l
      simp [S.le, sealAll, leL, leA, leO, jks, stCo, mkI, mkS, mkB, S.fits, fitsL, AV.fits, Ob.fits]
    · have h1 : decide (L[i].sh = x) = false := h1
      refine .mk [] (i + 1) ?_ hlt (show L.length - (i + 1) < L.length - i by omega)
      rw [tf, if_neg (by rw [h1]; decide), Nat.add_zero]
      generalize cntS x (L.take i) = n
      generalize onL L = l
      simp [S.le, sealAll, leL, leA, leO, jks, stCo, mkI, mkS, mkB, S.fits, fitsL, AV.fits, Ob.fits]
  · have : i = L.length := by rw [hl] at hge; omega
    subst this
    rw [List.take_length]
    exact ⟨_, _, weak_packG [some 0, some 1] rfl, hq⟩
def fgL (us : List BA) (L : List One) : List One := L.filter fun o => memB o.u us
def EFr : REnt := fun al o q => ∃ L us, al = [.rf 0 0, .d (.sl (strsD us))] ∧ o = obR L ∧ OkL L ∧ us.length ≤ 1000 ∧ q (.tp []) (obR (fgL us L))
theorem cFr : RSound Tryd.prog 18 EFr := by
  refine ref_gen trimW trimW_ok (code_bsound (c := Tryd.b18) mixed KC_ok gsound_nil) KC_ok Tryd.func18 rfl rfl Tryd.call18 fun al o q ⟨L, us, h1, h2, hL, hus, hq⟩ => ?_
  subst h1 h2
  have hl := onL_len L
  have hlen := hL.len
  refine cast (rFr (onL L) (strsD us) (trimW q)).symm (ALoop.openT 4 3 (by omega) ?_)
  refine ALoop.introM [] (maskOf (stFr (onL L) (strsD us) [] 0)) (fun i : Nat => stFr (onL L) (strsD us) (onL (fgL us (L.take i))) (i : Int)) (fun i => i ≤ L.length) (fun i => L.length - i)
    ⟨[], 0, by generalize onL L = l; generalize strsD us = k; simp [S.le, sealAll, leL, leA, leO, jks, stFr, S.openT, onL, fgL, mkI, mkS, mkB, S.fits, fitsL, AV.fits, Ob.fits], Nat.zero_le _⟩ fun i hi => ?_
  have hi : i ≤ L.length := hi
  have hol := onL_len (fgL us (L.take i))
  have hol2 : (fgL us (L.take i)).length ≤ i := Nat.le_trans (List.length_filter_le _ _) (by simp; omega)
  refine cast (rFr_b _ _ _ i (onL L) (strsD us) (onL (fgL us (L.take i))) (i : Int) (trimW q)).symm fun _ => bcase_dec (fun hlt => ?_) (fun hge => ?_)
  · have hlt : i < L.length := by rw [hl] at hlt; omega
    have w1 : IntKind.wrap .i64 ((i : Int) + 1) = ((i + 1 : Nat) : Int) := by rw [IntWalk.i64_in _ (by omega)]; omega
    have hi1 : (0 ≤ (i : Int)) ∧ ((i : Int) < ((onL L).length : Int)) := ⟨by omega, by rw [hl]; omega⟩
    have tf : fgL us (L.take (i + 1)) = fgL us (L.take i) ++ (if memB L[i].u us = true then [L[i]] else []) := take_filter _ L hlt
    have mt : ∀ {k : Nat} (hk : k < us.length), memB L[i].u (us.take (k + 1)) = (memB L[i].u (us.take k) || decide (us[k] = L[i].u)) := fun {k} hk => by
      rw [Bool.eq_iff_iff, memB_iff, Bool.or_eq_true, memB_iff, decide_eq_true_eq, List.take_add_one, List.getElem?_eq_getElem hk, List.mem_append, Option.toList_some, List.mem_singleton]
      exact ⟨fun h => h.imp id Eq.symm, fun h => h.imp id Eq.symm⟩
    refine ALoop.introM [] (maskOf (stFi (onL L) (strsD us) (onL (fgL us (L.take i))) (i : Int) false 0)) (fun k : Nat => stFi (onL L) (strsD us) (onL (fgL us (L.take i))) (i : Int) (memB L[i].u (us.take k)) (k : Int)) (fun k => k ≤ us.length) (fun k => us.length - k)
      ⟨[], 0, by generalize onL L = l; generalize strsD us = k; generalize onL (fgL us (L.take i)) = out; simp [S.le, sealAll, leL, leA, leO, jks, stFi, memB, mkI, mkS, mkB, S.fits, fitsL, AV.fits, Ob.fits], Nat.zero_le _⟩ fun k hk => ?_
    have hk : k ≤ us.length := hk
    refine cast (rFr_i _ _ _ i _ _ _ k (onL L) (strsD us) (onL (fgL us (L.take i))) (i : Int) (memB L[i].u (us.take k)) (k : Int) (trimW q)).symm fun _ => bcase_dec (fun hlt2 => ?_) (fun hge2 => ?_)
    · have hlt2 : k < us.length := by rw [strsD_length] at hlt2; omega
      have wk : IntKind.wrap .i64 ((k : Int) + 1) = ((k + 1 : Nat) : Int) := by rw [IntWalk.i64_in _ (by omega)]; omega
      rw [wk]
      have e1 := mt hlt2
      refine bcase_mk (fun hz => ?_) (fun hz => ?_)
      · refine .mk [] (k + 1) ?_ hlt2 (show us.length - (k + 1) < us.length - k by omega)
        rw [hz, Bool.true_or] at e1
        rw [e1]
        generalize onL L = l
        generalize strsD us = k
        generalize onL (fgL us (L.take i)) = out
        simp [S.le, sealAll, leL, leA, leO, jks, stFi, mkI, mkS, mkB, S.fits, fitsL, AV.fits, Ob.fits]
      · have hk1 : (strsD us).getD ((k : Int).toNat) [] = [.v (.string us[k])] := by rw [Int.toNat_natCast]; exact strsD_getD us _ hlt2 |>.trans (by simp [List.getD_eq_getElem?_getD, hlt2])
        rw [hk1, on_at L hlt]
        refine ⟨⟨by omega, by rw [strsD_length]; omega⟩, rfl, by simp, rfl, hi1, rfl, by simp [onD], rfl, ?_⟩
        refine .mk [] (k + 1) ?_ hlt2 (show us.length - (k + 1) < us.length - k by omega)
        rw [hz, Bool.false_or] at e1
        rw [e1]
        show S.le (sealAll [] ⟨[.rf 0 0, .d (.sl (strsD us)), .jk, .jk, .vw 2 (onL (fgL us (L.take i))).length, mkI .i64 (i : Int), mkB (decide (us[k] = L[i].u)), mkI .i64 ((k + 1 : Nat) : Int)] ++ jks 46, [.box [.d (.sl (onL L))], ghR, .row 3 (onL (fgL us (L.take i)))]⟩) _
        generalize decide (us[k] = L[i].u) = z
        generalize onL L = l
        generalize strsD us = k
        generalize onL (fgL us (L.take i)) = out
        simp [S.le, sealAll, leL, leA, leO, jks, stFi, mkI, mkS, mkB, S.fits, fitsL, AV.fits, Ob.fits]
    · have : k = us.length := by rw [strsD_length] at hge2; omega
      subst this
      rw [List.take_length, w1]
      refine bcase_mk (fun hz => ?_) (fun hz => ?_)
      · rw [on_at L hlt]
        refine ⟨hi1, rfl, Nat.le_refl 3, ⟨rfl, rfl, rfl, trivial⟩, fun c hc => by simp at hc; simp [hc], rfl, by unfold LIM; omega, ?_⟩
        refine .mk [] (i + 1) ?_ hlt (show L.length - (i + 1) < L.length - i by omega)
        show S.le (sealAll [] ⟨[.rf 0 0, .d (.sl (strsD us)), .jk, .jk, .vw 2 ((onL (fgL us (L.take i))).length + 1), mkI .i64 ((i + 1 : Nat) : Int)] ++ jks 48, [.box [.d (.sl (onL L))], ghR, .row 3 (onL (fgL us (L.take i)) ++ [onD L[i]]), _]⟩) _
        rw [tf, if_pos hz, ← onL_app]
        have e : (onL (fgL us (L.take i))).length + 1 = (onL (fgL us (L.take i)) ++ [onD L[i]]).length := by simp
        rw [e]
        generalize onL (fgL us (L.take i)) ++ [onD L[i]] = out
        generalize onL L = l
        generalize strsD us = k
        simp [S.le, sealAll, leL, leA, leO, jks, stFr, mkI, mkS, mkB, S.fits, fitsL, AV.fits, Ob.fits]
      · refine .mk [] (i + 1) ?_ hlt (show L.length - (i + 1) < L.length - i by omega)
        rw [tf, if_neg (by rw [hz]; decide), List.append_nil]
        generalize onL (fgL us (L.take i)) = out
        generalize onL L = l
        generalize strsD us = k
        simp [S.le, sealAll, leL, leA, leO, jks, stFr, mkI, mkS, mkB, S.fits, fitsL, AV.fits, Ob.fits]
  · have : i = L.length := by rw [hl] at hge; omega
    subst this
    rw [List.take_length]
    refine ⟨_, _, (weak_seal _ [2]).trans (weak_le (?_ : S.le _ ⟨[.tp []], obR (fgL us L)⟩)), hq⟩
    unfold obR
    generalize onL (fgL us L) = out
    simp [S.le, sealAll, S.sealR, subL, AV.sub, Ob.subO, leL, leA, leO, S.fits, fitsL, AV.fits, Ob.fits]
noncomputable abbrev GRb : List (FuncId × En) := [(36, .ref (frameE EDe)), (48, .det F11)]
theorem rRb (L : List (List D)) (u : ByteArray) (q : AV → List Ob → Prop) :
  (aCode KC GRb Tryd.b37 (kRetF KC Tryd.f37.results.toList q) ⟨[.rf 0 0, mkS u] ++ List.replicate (Tryd.f37.ntmps - 2) .jk, [.box [.d (.sl L)], ghR]⟩) = (
  ∃ (L_1 : List One),
  ∃ (u_1 : ByteArray),
  ([AV.rf 0 0, mkS u] = [AV.rf 0 0, mkS u_1]) ∧
  ([Ob.box [AV.d (.sl L)], Ob.gh [AV.rf 0 0]] = [Ob.box [AV.d (.sl (onL L_1))], Ob.gh [AV.rf 0 0]]) ∧
  (OkL L_1) ∧
  ((Option.some (Ob.gh [AV.rf 0 0])) = (Option.some (Ob.gh [AV.rf 0 0]))) ∧
  (((strsD (List.map One.d (ofU u_1 L_1))) = (strsD (unSS (strsD (List.map One.d (ofU u_1 L_1)))))) ∧ ((strsD (List.map One.sh (ofU u_1 L_1))) = (strsD (unSS (strsD (List.map One.sh (ofU u_1 L_1))))))) ∧
  bcase (!(Prod.snd (bestF (unSS (strsD (List.map One.d (ofU u_1 L_1)))) (unSS (strsD (List.map One.sh (ofU u_1 L_1))))))) (
   q (AV.tp [mkS ⟨#[]⟩, mkB false]) [Ob.box [AV.d (.sl (onL L_1))], Ob.gh [AV.rf 0 0], Ob.gone, Ob.gone]) (
   (((ByteArray.size u) + (ByteArray.size (⟨#[47]⟩ : ByteArray))) ≤ LIM) ∧
   (((ByteArray.size (u ++ (⟨#[47]⟩ : ByteArray))) + (ByteArray.size (Prod.fst (bestF (unSS (strsD (List.map One.d (ofU u_1 L_1)))) (unSS (strsD (List.map One.sh (ofU u_1 L_1)))))))) ≤ LIM) ∧
   q (AV.tp [mkS ((u ++ (⟨#[47]⟩ : ByteArray)) ++ (Prod.fst (bestF (unSS (strsD (List.map One.d (ofU u_1 L_1)))) (unSS (strsD (List.map One.sh (ofU u_1 L_1))))))), mkB true]) [Ob.box [AV.d (.sl (onL L_1))], Ob.gh [AV.rf 0 0], Ob.gone, Ob.gone])) := by kernel_rfl
def EBr : REnt := fun al o q => ∃ L u, al = [.rf 0 0, mkS u] ∧ o = obR L ∧ OkL L ∧ u.size ≤ SZC ∧ q (bsR u (bestF ((ofU u L).map One.d) ((ofU u L).map One.sh))) (obR L)
theorem cBr : RSound Tryd.prog 37 EBr := by
  refine ref_gen trimW trimW_ok (code_bsound (c := Tryd.b37) mixed KC_ok (gsound_ref (RSound.frame cDe) (gsound_det c12 gsound_nil))) KC_ok Tryd.func37 rfl rfl Tryd.call37 fun al o q ⟨L, u, h1, h2, hL, hu, hq⟩ => ?_
  subst h1 h2
  have hsz : (bestF ((ofU u L).map One.d) ((ofU u L).map One.sh)).1.size ≤ 16 := bestF_size fun d hd => by
    obtain ⟨o, ho, rfl⟩ := List.mem_map.1 hd
    exact (hL.sz o (List.mem_filter.1 ho).1).2
  refine cast (rRb (onL L) u (trimW q)).symm ⟨L, u, rfl, rfl, hL, rfl, ⟨by simp, by simp⟩, ?_⟩
  simp only [unSS_strsD]
  generalize bestF ((ofU u L).map One.d) ((ofU u L).map One.sh) = r at hsz hq
  unfold SZC at hu
  refine bcase_mk (fun h => ?_) (fun h => ?_)
  · have h : r.2 = false := by simpa using h
    unfold bsR bsS at hq
    rw [if_neg (by rw [h]; decide), h] at hq
    exact ⟨_, _, weak_packG [some 0, some 1] rfl, hq⟩
  · have h : r.2 = true := by simpa using h
    unfold bsR bsS at hq
    rw [if_pos h, h] at hq
    have s1 : (⟨#[47]⟩ : ByteArray).size = 1 := rfl
    have s2 : (u ++ (⟨#[47]⟩ : ByteArray)).size = u.size + 1 := by rw [ByteArray.size_append]; rfl
    exact ⟨by rw [s1]; unfold LIM; omega, by rw [s2]; unfold LIM; omega, _, _, weak_packG [some 0, some 1] rfl, hq⟩
end Go.Proofs.YthbejheedpdioaaDoor

namespace Go.Proofs.YthbejheedpdioaaDoor
open Go Go.AM Go.RowKit
attribute [local irreducible] aUnr aUnS aCode
noncomputable abbrev KH : TypeId → Option TK := cutK KC [2]
theorem KH_ok : KOk Tryd.prog KH := cutK_ok KC_ok _
noncomputable abbrev GRh : List (FuncId × En) := [(32, .det F25), (34, .det FAh), (20, .ref (frameE ESw)), (33, .ref (frameE EDr))]
noncomputable def rRh_k0 (q : AV → (List Ob) → Prop) : Kont := kSeq (aCode KH GRh (cAt [1, 1, 1] Tryd.b19) (kRetF KH (Array.toList (Func.results Tryd.f19)) q)) (kRetF KH (Array.toList (Func.results Tryd.f19)) q)
theorem rRh (L : List (List D)) (kind : Int) (ty id fr to sh tok rea : ByteArray) (hh ver : Int) (rem : Bool) (its : List (List D)) (q : AV → List Ob → Prop) :
  (aCode KH GRh Tryd.b19 (kRetF KH Tryd.f19.results.toList q) ⟨[.rf 0 0, .ag [mkI .i64 kind, mkS ty, mkS id, mkS fr, mkS to, mkS sh, mkS tok, mkS rea, mkI .u32 hh, mkI .i64 ver, mkB rem, .d (.sl its)]] ++ List.replicate (Tryd.f19.ntmps - 2) .jk, [.box [.d (.sl L)], ghR]⟩) = (
  ((ByteArray.size fr) ≤ LIM) ∧
  bcase (kind != (1 : Int)) (
   ACut (aCode KH GRh (cAt [1, 1, 0, 1] Tryd.b19)) (rRh_k0 q) ⟨[AV.rf 0 0, AV.ag [mkI .i64 kind, mkS ty, mkS id, mkS fr, mkS to, mkS sh, mkS tok, mkS rea, mkI .u32 hh, mkI .i64 ver, mkB rem, AV.d (.sl its)], AV.jk, AV.rf 2 0, mkI .i64 0, mkS (cutU fr), mkS (cutD fr), mkB (addrB fr), AV.jk, AV.jk, AV.jk, AV.jk, AV.jk, AV.jk, AV.tp [mkS (cutU fr), mkS (cutD fr), mkB (addrB fr)], AV.rf 2 (0 + 3), mkS fr, AV.tp [mkS (cutU fr), mkS (cutD fr), mkB (addrB fr)], mkS (cutU fr), mkS (cutD fr), mkB (addrB fr), AV.rf 2 (0 + 0), mkI .i64 kind, mkB (kind != (1 : Int)), mkB true, AV.tp [], AV.tp [], mkB true, mkB true, AV.tp [], AV.tp [], AV.tp [], AV.tp [], AV.tp [], AV.tp [], AV.tp [], AV.tp [], mkB true, mkB true, AV.tp [], AV.tp [], AV.tp [], AV.tp [], AV.tp [], AV.tp [], AV.tp [], mkB true] ++ (jks 90), [Ob.box [AV.d (.sl L)], Ob.gh [AV.rf 0 0], Ob.box [mkI .i64 kind, mkS ty, mkS id, mkS fr, mkS to, mkS sh, mkS tok, mkS rea, mkI .u32 hh, mkI .i64 ver, mkB rem, AV.d (.sl its)]]⟩) (
   bcase (!(addrB fr)) (
    ACut (aCode KH GRh (cAt [1, 1, 0, 1] Tryd.b19)) (rRh_k0 q) ⟨[AV.rf 0 0, AV.ag [mkI .i64 kind, mkS ty, mkS id, mkS fr, mkS to, mkS sh, mkS tok, mkS rea, mkI .u32 hh, mkI .i64 ver, mkB rem, AV.d (.sl its)], AV.jk, AV.rf 2 0, mkI .i64 0, mkS (cutU fr), mkS (cutD fr), mkB (addrB fr), AV.jk, AV.jk, AV.jk, AV.jk, AV.jk, AV.jk, AV.tp [mkS (cutU fr), mkS (cutD fr), mkB (addrB fr)], AV.rf 2 (0 + 3), mkS fr, AV.tp [mkS (cutU fr), mkS (cutD fr), mkB (addrB fr)], mkS (cutU fr), mkS (cutD fr), mkB (addrB fr), AV.rf 2 (0 + 0), mkI .i64 kind, mkB (kind != (1 : Int)), mkB false, mkB (addrB fr), mkB (!(addrB fr)), mkB (!(addrB fr)), mkB true, AV.tp [], AV.tp [], AV.tp [], AV.tp [], AV.tp [], AV.tp [], AV.tp [], AV.tp [], mkB true, mkB true, AV.tp [], AV.tp [], AV.tp [], AV.tp [], AV.tp [], AV.tp [], AV.tp [], mkB true] ++ (jks 90), [Ob.box [AV.d (.sl L)], Ob.gh [AV.rf 0 0], Ob.box [mkI .i64 kind, mkS ty, mkS id, mkS fr, mkS to, mkS sh, mkS tok, mkS rea, mkI .u32 hh, mkI .i64 ver, mkB rem, AV.d (.sl its)]]⟩) (
    bcase (!(decide (ty = ⟨#[]⟩))) (
     bcase (!(decide (ty = ⟨#[117, 110, 97, 118, 97, 105, 108, 97, 98, 108, 101]⟩))) (
      ACut (aCode KH GRh (cAt [1, 1, 0, 1] Tryd.b19)) (rRh_k0 q) ⟨[AV.rf 0 0, AV.ag [mkI .i64 kind, mkS ty, mkS id, mkS fr, mkS to, mkS sh, mkS tok, mkS rea, mkI .u32 hh, mkI .i64 ver, mkB rem, AV.d (.sl its)], AV.jk, AV.rf 2 0, mkI .i64 0, mkS (cutU fr), mkS (cutD fr), mkB (addrB fr), AV.jk, AV.jk, AV.jk, AV.jk, AV.jk, AV.jk, AV.tp [mkS (cutU fr), mkS (cutD fr), mkB (addrB fr)], AV.rf 2 (0 + 3), mkS fr, AV.tp [mkS (cutU fr), mkS (cutD fr), mkB (addrB fr)], mkS (cutU fr), mkS (cutD fr), mkB (addrB fr), AV.rf 2 (0 + 0), mkI .i64 kind, mkB (kind != (1 : Int)), mkB false, mkB (addrB fr), mkB (!(addrB fr)), mkB (!(addrB fr)), mkB false, AV.rf 2 (0 + 1), mkS ty, mkB (!(decide (ty = ⟨#[]⟩))), mkB true, AV.rf 2 (0 + 1), mkS ty, mkB (!(decide (ty = ⟨#[117, 110, 97, 118, 97, 105, 108, 97, 98, 108, 101]⟩))), mkB (!(decide (ty = ⟨#[117, 110, 97, 118, 97, 105, 108, 97, 98, 108, 101]⟩))), mkB (!(decide (ty = ⟨#[117, 110, 97, 118, 97, 105, 108, 97, 98, 108, 101]⟩))), mkB true, AV.tp [], AV.tp [], AV.tp [], AV.tp [], AV.tp [], AV.tp [], AV.tp [], mkB true] ++ (jks 90), [Ob.box [AV.d (.sl L)], Ob.gh [AV.rf 0 0], Ob.box [mkI .i64 kind, mkS ty, mkS id, mkS fr, mkS to, mkS sh, mkS tok, mkS rea, mkI .u32 hh, mkI .i64 ver, mkB rem, AV.d (.sl its)]]⟩) (
      bcase (decide (ty = ⟨#[]⟩)) (
       ACut (aCode KH GRh (cAt [1, 1, 0, 1] Tryd.b19)) (rRh_k0 q) ⟨[AV.rf 0 0, AV.ag [mkI .i64 kind, mkS ty, mkS id, mkS fr, mkS to, mkS sh, mkS tok, mkS rea, mkI .u32 hh, mkI .i64 ver, mkB rem, AV.d (.sl its)], AV.jk, AV.rf 2 0, mkI .i64 0, mkS (cutU fr), mkS (cutD fr), mkB (addrB fr), AV.jk, AV.jk, AV.jk, AV.jk, AV.jk, AV.jk, AV.tp [mkS (cutU fr), mkS (cutD fr), mkB (addrB fr)], AV.rf 2 (0 + 3), mkS fr, AV.tp [mkS (cutU fr), mkS (cutD fr), mkB (addrB fr)], mkS (cutU fr), mkS (cutD fr), mkB (addrB fr), AV.rf 2 (0 + 0), mkI .i64 kind, mkB (kind != (1 : Int)), mkB false, mkB (addrB fr), mkB (!(addrB fr)), mkB (!(addrB fr)), mkB false, AV.rf 2 (0 + 1), mkS ty, mkB (!(decide (ty = ⟨#[]⟩))), mkB true, AV.rf 2 (0 + 1), mkS ty, mkB (!(decide (ty = ⟨#[117, 110, 97, 118, 97, 105, 108, 97, 98, 108, 101]⟩))), mkB (!(decide (ty = ⟨#[117, 110, 97, 118, 97, 105, 108, 97, 98, 108, 101]⟩))), mkB (!(decide (ty = ⟨#[117, 110, 97, 118, 97, 105, 108, 97, 98, 108, 101]⟩))), mkB false, AV.rf 2 (0 + 1), mkS ty, mkB (decide (ty = ⟨#[]⟩)), mkB true, mkS (cutD fr), mkB (decide ((cutD fr) = ⟨#[]⟩)), mkB (decide ((cutD fr) = ⟨#[]⟩)), mkB (decide ((cutD fr) = ⟨#[]⟩))] ++ (jks 90), [Ob.box [AV.d (.sl L)], Ob.gh [AV.rf 0 0], Ob.box [mkI .i64 kind, mkS ty, mkS id, mkS fr, mkS to, mkS sh, mkS tok, mkS rea, mkI .u32 hh, mkI .i64 ver, mkB rem, AV.d (.sl its)]]⟩) (
       ACut (aCode KH GRh (cAt [1, 1, 0, 1] Tryd.b19)) (rRh_k0 q) ⟨[AV.rf 0 0, AV.ag [mkI .i64 kind, mkS ty, mkS id, mkS fr, mkS to, mkS sh, mkS tok, mkS rea, mkI .u32 hh, mkI .i64 ver, mkB rem, AV.d (.sl its)], AV.jk, AV.rf 2 0, mkI .i64 0, mkS (cutU fr), mkS (cutD fr), mkB (addrB fr), AV.jk, AV.jk, AV.jk, AV.jk, AV.jk, AV.jk, AV.tp [mkS (cutU fr), mkS (cutD fr), mkB (addrB fr)], AV.rf 2 (0 + 3), mkS fr, AV.tp [mkS (cutU fr), mkS (cutD fr), mkB (addrB fr)], mkS (cutU fr), mkS (cutD fr), mkB (addrB fr), AV.rf 2 (0 + 0), mkI .i64 kind, mkB (kind != (1 : Int)), mkB false, mkB (addrB fr), mkB (!(addrB fr)), mkB (!(addrB fr)), mkB false, AV.rf 2 (0 + 1), mkS ty, mkB (!(decide (ty = ⟨#[]⟩))), mkB true, AV.rf 2 (0 + 1), mkS ty, mkB (!(decide (ty = ⟨#[117, 110, 97, 118, 97, 105, 108, 97, 98, 108, 101]⟩))), mkB (!(decide (ty = ⟨#[117, 110, 97, 118, 97, 105, 108, 97, 98, 108, 101]⟩))), mkB (!(decide (ty = ⟨#[117, 110, 97, 118, 97, 105, 108, 97, 98, 108, 101]⟩))), mkB false, AV.rf 2 (0 + 1), mkS ty, mkB (decide (ty = ⟨#[]⟩)), mkB false, AV.tp [], AV.tp [], mkB false, mkB false] ++ (jks 90), [Ob.box [AV.d (.sl L)], Ob.gh [AV.rf 0 0], Ob.box [mkI .i64 kind, mkS ty, mkS id, mkS fr, mkS to, mkS sh, mkS tok, mkS rea, mkI .u32 hh, mkI .i64 ver, mkB rem, AV.d (.sl its)]]⟩))) (
     bcase (decide (ty = ⟨#[]⟩)) (
      ACut (aCode KH GRh (cAt [1, 1, 0, 1] Tryd.b19)) (rRh_k0 q) ⟨[AV.rf 0 0, AV.ag [mkI .i64 kind, mkS ty, mkS id, mkS fr, mkS to, mkS sh, mkS tok, mkS rea, mkI .u32 hh, mkI .i64 ver, mkB rem, AV.d (.sl its)], AV.jk, AV.rf 2 0, mkI .i64 0, mkS (cutU fr), mkS (cutD fr), mkB (addrB fr), AV.jk, AV.jk, AV.jk, AV.jk, AV.jk, AV.jk, AV.tp [mkS (cutU fr), mkS (cutD fr), mkB (addrB fr)], AV.rf 2 (0 + 3), mkS fr, AV.tp [mkS (cutU fr), mkS (cutD fr), mkB (addrB fr)], mkS (cutU fr), mkS (cutD fr), mkB (addrB fr), AV.rf 2 (0 + 0), mkI .i64 kind, mkB (kind != (1 : Int)), mkB false, mkB (addrB fr), mkB (!(addrB fr)), mkB (!(addrB fr)), mkB false, AV.rf 2 (0 + 1), mkS ty, mkB (!(decide (ty = ⟨#[]⟩))), mkB false, AV.tp [], AV.tp [], AV.tp [], mkB false, mkB false, mkB false, AV.rf 2 (0 + 1), mkS ty, mkB (decide (ty = ⟨#[]⟩)), mkB true, mkS (cutD fr), mkB (decide ((cutD fr) = ⟨#[]⟩)), mkB (decide ((cutD fr) = ⟨#[]⟩)), mkB (decide ((cutD fr) = ⟨#[]⟩))] ++ (jks 90), [Ob.box [AV.d (.sl L)], Ob.gh [AV.rf 0 0], Ob.box [mkI .i64 kind, mkS ty, mkS id, mkS fr, mkS to, mkS sh, mkS tok, mkS rea, mkI .u32 hh, mkI .i64 ver, mkB rem, AV.d (.sl its)]]⟩) (
      ACut (aCode KH GRh (cAt [1, 1, 0, 1] Tryd.b19)) (rRh_k0 q) ⟨[AV.rf 0 0, AV.ag [mkI .i64 kind, mkS ty, mkS id, mkS fr, mkS to, mkS sh, mkS tok, mkS rea, mkI .u32 hh, mkI .i64 ver, mkB rem, AV.d (.sl its)], AV.jk, AV.rf 2 0, mkI .i64 0, mkS (cutU fr), mkS (cutD fr), mkB (addrB fr), AV.jk, AV.jk, AV.jk, AV.jk, AV.jk, AV.jk, AV.tp [mkS (cutU fr), mkS (cutD fr), mkB (addrB fr)], AV.rf 2 (0 + 3), mkS fr, AV.tp [mkS (cutU fr), mkS (cutD fr), mkB (addrB fr)], mkS (cutU fr), mkS (cutD fr), mkB (addrB fr), AV.rf 2 (0 + 0), mkI .i64 kind, mkB (kind != (1 : Int)), mkB false, mkB (addrB fr), mkB (!(addrB fr)), mkB (!(addrB fr)), mkB false, AV.rf 2 (0 + 1), mkS ty, mkB (!(decide (ty = ⟨#[]⟩))), mkB false, AV.tp [], AV.tp [], AV.tp [], mkB false, mkB false, mkB false, AV.rf 2 (0 + 1), mkS ty, mkB (decide (ty = ⟨#[]⟩)), mkB false, AV.tp [], AV.tp [], mkB false, mkB false] ++ (jks 90), [Ob.box [AV.d (.sl L)], Ob.gh [AV.rf 0 0], Ob.box [mkI .i64 kind, mkS ty, mkS id, mkS fr, mkS to, mkS sh, mkS tok, mkS rea, mkI .u32 hh, mkI .i64 ver, mkB rem, AV.d (.sl its)]]⟩))))) := by kernel_rfl
def stH (L : List (List D)) (kind : Int) (ty id fr to sh tok rea : ByteArray) (hh ver : Int) (rem : Bool) (its : List (List D)) (u d : ByteArray) (w : Bool) : S := ⟨[.rf 0 0, .jk, .jk, .rf 2 0, mkI .i64 0, mkS u, mkS d] ++ jks 39 ++ [mkB w] ++ jks 90, [.box [.d (.sl L)], ghR, .box [mkI .i64 kind, mkS ty, mkS id, mkS fr, mkS to, mkS sh, mkS tok, mkS rea, mkI .u32 hh, mkI .i64 ver, mkB rem, .d (.sl its)]]⟩
theorem rRh_t (L : List (List D)) (kind : Int) (ty id fr to sh tok rea : ByteArray) (hh ver : Int) (rem : Bool) (its : List (List D)) (u d : ByteArray) (q : AV → List Ob → Prop) :
  (aCode KH GRh (cAt [1, 1, 0, 1] Tryd.b19) (rRh_k0 q) (stH L kind ty id fr to sh tok rea hh ver rem its u d true)) = (
  q (mkI .i64 6) [Ob.box [AV.d (.sl L)], Ob.gh [AV.rf 0 0], Ob.box [mkI .i64 kind, mkS ty, mkS id, mkS fr, mkS to, mkS sh, mkS tok, mkS rea, mkI .u32 hh, mkI .i64 ver, mkB rem, AV.d (.sl its)]]) := by kernel_rfl
noncomputable def rRh_f_k0 (q : AV → (List Ob) → Prop) : Kont := kBlk (0 : Nat) (kSeq (aCode KH GRh (cAt [1, 1, 1, 1, 1, 1, 1, 1, 1, 1] Tryd.b19) (kRetF KH (Array.toList (Func.results Tryd.f19)) q)) (kRetF KH (Array.toList (Func.results Tryd.f19)) q))
theorem rRh_f (L : List (List D)) (kind : Int) (ty id fr to sh tok rea : ByteArray) (hh ver : Int) (rem : Bool) (its : List (List D)) (u d : ByteArray) (q : AV → List Ob → Prop) :
  (aCode KH GRh (cAt [1, 1, 0, 1] Tryd.b19) (rRh_k0 q) (stH L kind ty id fr to sh tok rea hh ver rem its u d false)) = (
  bcase (decide (ty = ⟨#[117, 110, 97, 118, 97, 105, 108, 97, 98, 108, 101]⟩)) (
   ∃ (L_1 : List One),
   ∃ (u_1 : ByteArray),
   ∃ (d_1 : ByteArray),
   ([AV.rf 0 0, mkS u, mkS d] = [AV.rf 0 0, mkS u_1, mkS d_1]) ∧
   ([Ob.box [AV.d (.sl L)], Ob.gh [AV.rf 0 0]] = [Ob.box [AV.d (.sl (onL L_1))], Ob.gh [AV.rf 0 0]]) ∧
   ((List.length L_1) ≤ (1000 : Nat)) ∧
   ((Option.some (Ob.gh [AV.rf 0 0])) = (Option.some (Ob.gh [AV.rf 0 0]))) ∧
   q (mkI .i64 0) [Ob.box [AV.d (.sl (onL (dropL u_1 d_1 L_1)))], Ob.gh [AV.rf 0 0], Ob.box [mkI .i64 kind, mkS ty, mkS id, mkS fr, mkS to, mkS sh, mkS tok, mkS rea, mkI .u32 hh, mkI .i64 ver, mkB rem, AV.d (.sl its)], Ob.gone, Ob.gone]) (
   ∃ (L_1 : List One),
   ∃ (x : ByteArray),
   ([AV.rf 0 0, mkS fr] = [AV.rf 0 0, mkS x]) ∧
   ([Ob.box [AV.d (.sl L)], Ob.gh [AV.rf 0 0]] = [Ob.box [AV.d (.sl (onL L_1))], Ob.gh [AV.rf 0 0]]) ∧
   (OkL L_1) ∧
   ((Option.some (Ob.gh [AV.rf 0 0])) = (Option.some (Ob.gh [AV.rf 0 0]))) ∧
   bcase (!(hasO L_1 x)) (
    ((List.length (onL L_1)) ≤ LIM) →
    bcase (decide (((List.length (onL L_1)) : Int) ≥ (64 : Int))) (
     q (mkI .i64 9) [Ob.box [AV.d (.sl (onL L_1))], Ob.gh [AV.rf 0 0], Ob.box [mkI .i64 kind, mkS ty, mkS id, mkS fr, mkS to, mkS sh, mkS tok, mkS rea, mkI .u32 hh, mkI .i64 ver, mkB rem, AV.d (.sl its)], Ob.gone, Ob.gone]) (
     ∃ (L_2 : List One),
     ∃ (u_1 : ByteArray),
     ∃ (d_1 : ByteArray),
     ([AV.rf 0 0, mkS u, mkS d] = [AV.rf 0 0, mkS u_1, mkS d_1]) ∧
     ([Ob.box [AV.d (.sl (onL L_1))], Ob.gh [AV.rf 0 0]] = [Ob.box [AV.d (.sl (onL L_2))], Ob.gh [AV.rf 0 0]]) ∧
     ((List.length L_2) ≤ (1000 : Nat)) ∧
     ((Option.some (Ob.gh [AV.rf 0 0])) = (Option.some (Ob.gh [AV.rf 0 0]))) ∧
     ALoop (aCode KH GRh (cAt [1, 1, 1, 1, 1, 1, 1, 1, 1, 0, 1, 0, 0] Tryd.b19)) (rRh_f_k0 q) ⟨[AV.rf 0 0, AV.jk, AV.jk, AV.rf 2 0, mkI .i64 0, mkS u, mkS d, AV.jk, mkS (shO L_1 x), mkB (hasO L_1 x), AV.nl, mkB false, mkI .i64 0] ++ (jks 33 ++ ([mkB false, AV.rf 2 (0 + 1), mkS ty, mkB false, AV.jk, AV.jk, AV.jk, AV.jk, AV.tp [mkS (shO L_1 x), mkB (hasO L_1 x)], AV.rf 0 0, AV.rf 2 (0 + 3), mkS fr, AV.tp [mkS (shO L_1 x), mkB (hasO L_1 x)], mkS (shO L_1 x), mkB (hasO L_1 x), mkB (hasO L_1 x), mkB (!(hasO L_1 x)), mkB true, AV.rf 0 0, AV.rf 0 0, AV.rf 0 (0 + 0), AV.d (.sl (onL L_1)), mkI .i64 ((List.length (onL L_1)) : Int), mkB (decide (((List.length (onL L_1)) : Int) ≥ (64 : Int))), mkB false, AV.rf 0 0, mkS u, mkS d, AV.tp []] ++ (jks 62))), [Ob.box [AV.d (.sl (onL (dropL u_1 d_1 L_2)))], Ob.gh [AV.rf 0 0], Ob.box [mkI .i64 kind, mkS ty, mkS id, mkS fr, mkS to, mkS sh, mkS tok, mkS rea, mkI .u32 hh, mkI .i64 ver, mkB rem, AV.d (.sl its)], Ob.gone, Ob.gone, Ob.gone, Ob.gone]⟩)) (
    ∃ (L_2 : List One),
    ∃ (u_1 : ByteArray),
    ∃ (d_1 : ByteArray),
    ([AV.rf 0 0, mkS u, mkS d] = [AV.rf 0 0, mkS u_1, mkS d_1]) ∧
    ([Ob.box [AV.d (.sl (onL L_1))], Ob.gh [AV.rf 0 0]] = [Ob.box [AV.d (.sl (onL L_2))], Ob.gh [AV.rf 0 0]]) ∧
    ((List.length L_2) ≤ (1000 : Nat)) ∧
    ((Option.some (Ob.gh [AV.rf 0 0])) = (Option.some (Ob.gh [AV.rf 0 0]))) ∧
    ALoop (aCode KH GRh (cAt [1, 1, 1, 1, 1, 1, 1, 1, 1, 0, 1, 0, 0] Tryd.b19)) (rRh_f_k0 q) ⟨[AV.rf 0 0, AV.jk, AV.jk, AV.rf 2 0, mkI .i64 0, mkS u, mkS d, AV.jk, mkS (shO L_1 x), mkB (hasO L_1 x), AV.nl, mkB false, mkI .i64 0] ++ (jks 33 ++ ([mkB false, AV.rf 2 (0 + 1), mkS ty, mkB false, AV.jk, AV.jk, AV.jk, AV.jk, AV.tp [mkS (shO L_1 x), mkB (hasO L_1 x)], AV.rf 0 0, AV.rf 2 (0 + 3), mkS fr, AV.tp [mkS (shO L_1 x), mkB (hasO L_1 x)], mkS (shO L_1 x), mkB (hasO L_1 x), mkB (hasO L_1 x), mkB (!(hasO L_1 x)), mkB false, AV.tp [], AV.tp [], AV.tp [], AV.tp [], AV.tp [], AV.tp [], mkB false, AV.rf 0 0, mkS u, mkS d, AV.tp []] ++ (jks 62))), [Ob.box [AV.d (.sl (onL (dropL u_1 d_1 L_2)))], Ob.gh [AV.rf 0 0], Ob.box [mkI .i64 kind, mkS ty, mkS id, mkS fr, mkS to, mkS sh, mkS tok, mkS rea, mkI .u32 hh, mkI .i64 ver, mkB rem, AV.d (.sl its)], Ob.gone, Ob.gone, Ob.gone, Ob.gone]⟩))) := by kernel_rfl
def stHl (L : List (List D)) (kind : Int) (ty id fr to sh tok rea : ByteArray) (hh ver : Int) (rem : Bool) (its : List (List D)) (u d : ByteArray) (out : List (List D)) (w : Bool) (i : Int) : S := ⟨[.rf 0 0, .jk, .jk, .rf 2 0, mkI .i64 0, mkS u, mkS d, .jk, .jk, .jk, .vw 7 out.length, mkB w, mkI .i64 i] ++ jks 124, [.box [.d (.sl L)], ghR, .box [mkI .i64 kind, mkS ty, mkS id, mkS fr, mkS to, mkS sh, mkS tok, mkS rea, mkI .u32 hh, mkI .i64 ver, mkB rem, .d (.sl its)], .gone, .gone, .gone, .gone, .row 3 out]⟩
theorem rRh_lt {ι : Type} (st : ι → S) (inv : ι → Prop) (μ : ι → Nat) (kk : ι) (L : List (List D)) (kind : Int) (ty id fr to sh tok rea : ByteArray) (hh ver : Int) (rem : Bool) (its : List (List D)) (u d : ByteArray) (out : List (List D)) (i : Int) (q : AV → List Ob → Prop) :
  (aCode KH GRh (cAt [1, 1, 1, 1, 1, 1, 1, 1, 1, 0, 1, 0, 0] Tryd.b19) (kFamM [] (maskOf (stHl L kind ty id fr to sh tok rea hh ver rem its u d out true i)) st inv μ kk (rRh_f_k0 q)) (stHl L kind ty id fr to sh tok rea hh ver rem its u d out true i)) = (
  ((List.length L) ≤ LIM) →
  bcase (decide (i < ((List.length L) : Int))) (
   (((0 : Int) ≤ i) ∧ (i < ((List.length L) : Int))) ∧
   ((List.length (List.getD L (Int.toNat i) [])) = 3) ∧
   (3 ≤ (List.length (List.getD L (Int.toNat i) []))) ∧
   (((List.getD (List.getD L (Int.toNat i) []) 0 d0) = (D.v (.string (strD (List.getD (List.getD L (Int.toNat i) []) 0 d0))))) ∧ (((List.getD (List.drop 1 (List.getD L (Int.toNat i) [])) 0 d0) = (D.v (.string (strD (List.getD (List.drop 1 (List.getD L (Int.toNat i) [])) 0 d0))))) ∧ (((List.getD (List.drop 1 (List.drop 1 (List.getD L (Int.toNat i) []))) 0 d0) = (D.v (.string (strD (List.getD (List.drop 1 (List.drop 1 (List.getD L (Int.toNat i) []))) 0 d0))))) ∧ True))) ∧
   (∀ (c : List D), (c ∈ [[D.v (.string (strD (List.getD (List.getD L (Int.toNat i) []) 0 d0))), D.v (.string (strD (List.getD (List.drop 1 (List.getD L (Int.toNat i) [])) 0 d0))), D.v (.string (strD (List.getD (List.drop 1 (List.drop 1 (List.getD L (Int.toNat i) []))) 0 d0)))]]) → (List.length c) = 3) ∧
   ((List.length out) = (List.length out)) ∧
   (((List.length out) + 1) ≤ LIM) ∧
   FamNext st inv μ kk ⟨[AV.rf 0 0, AV.jk, AV.jk, AV.rf 2 0, mkI .i64 0, mkS u, mkS d, AV.jk, AV.jk, AV.jk, AV.vw 7 ((List.length out) + 1), mkB true, mkI .i64 (IntKind.wrap .i64 (i + (1 : Int)))] ++ (jks 124), [Ob.box [AV.d (.sl L)], Ob.gh [AV.rf 0 0], Ob.box [mkI .i64 kind, mkS ty, mkS id, mkS fr, mkS to, mkS sh, mkS tok, mkS rea, mkI .u32 hh, mkI .i64 ver, mkB rem, AV.d (.sl its)], Ob.gone, Ob.gone, Ob.gone, Ob.gone, Ob.row 3 (out ++ [[D.v (.string (strD (List.getD (List.getD L (Int.toNat i) []) 0 d0))), D.v (.string (strD (List.getD (List.drop 1 (List.getD L (Int.toNat i) [])) 0 d0))), D.v (.string (strD (List.getD (List.drop 1 (List.drop 1 (List.getD L (Int.toNat i) []))) 0 d0)))]]), Ob.box [mkS (strD (List.getD (List.getD L (Int.toNat i) []) 0 d0)), mkS (strD (List.getD (List.drop 1 (List.getD L (Int.toNat i) [])) 0 d0)), mkS (strD (List.getD (List.drop 1 (List.drop 1 (List.getD L (Int.toNat i) []))) 0 d0))], Ob.row 3 [[D.v (.string (strD (List.getD (List.getD L (Int.toNat i) []) 0 d0))), D.v (.string (strD (List.getD (List.drop 1 (List.getD L (Int.toNat i) [])) 0 d0))), D.v (.string (strD (List.getD (List.drop 1 (List.drop 1 (List.getD L (Int.toNat i) []))) 0 d0)))]]]⟩) (
   q (mkI .i64 0) [Ob.box [AV.vw 7 (List.length out)], Ob.gh [AV.rf 0 0], Ob.box [mkI .i64 kind, mkS ty, mkS id, mkS fr, mkS to, mkS sh, mkS tok, mkS rea, mkI .u32 hh, mkI .i64 ver, mkB rem, AV.d (.sl its)], Ob.gone, Ob.gone, Ob.gone, Ob.gone, Ob.row 3 out])) := by kernel_rfl
theorem rRh_lf {ι : Type} (st : ι → S) (inv : ι → Prop) (μ : ι → Nat) (kk : ι) (L : List (List D)) (kind : Int) (ty id fr to sh tok rea : ByteArray) (hh ver : Int) (rem : Bool) (its : List (List D)) (u d : ByteArray) (out : List (List D)) (i : Int) (q : AV → List Ob → Prop) :
  (aCode KH GRh (cAt [1, 1, 1, 1, 1, 1, 1, 1, 1, 0, 1, 0, 0] Tryd.b19) (kFamM [] (maskOf (stHl L kind ty id fr to sh tok rea hh ver rem its u d out false i)) st inv μ kk (rRh_f_k0 q)) (stHl L kind ty id fr to sh tok rea hh ver rem its u d out false i)) = (
  ((List.length L) ≤ LIM) →
  bcase (decide (i < ((List.length L) : Int))) (
   (((0 : Int) ≤ i) ∧ (i < ((List.length L) : Int))) ∧
   ((List.length (List.getD L (Int.toNat i) [])) = 3) ∧
   (3 ≤ (List.length (List.getD L (Int.toNat i) []))) ∧
   (((List.getD (List.getD L (Int.toNat i) []) 0 d0) = (D.v (.string (strD (List.getD (List.getD L (Int.toNat i) []) 0 d0))))) ∧ (((List.getD (List.drop 1 (List.getD L (Int.toNat i) [])) 0 d0) = (D.v (.string (strD (List.getD (List.drop 1 (List.getD L (Int.toNat i) [])) 0 d0))))) ∧ (((List.getD (List.drop 1 (List.drop 1 (List.getD L (Int.toNat i) []))) 0 d0) = (D.v (.string (strD (List.getD (List.drop 1 (List.drop 1 (List.getD L (Int.toNat i) []))) 0 d0))))) ∧ True))) ∧
   (((ByteArray.size u) ≤ LIM) ∧ ((ByteArray.size (strD (List.getD (List.getD L (Int.toNat i) []) 0 d0))) ≤ LIM)) ∧
   bcase (lessB u (strD (List.getD (List.getD L (Int.toNat i) []) 0 d0))) (
    (∀ (c : List D), (c ∈ [[D.v (.string u), D.v (.string d), D.v (.string sh)]]) → (List.length c) = 3) ∧
    ((List.length out) = (List.length out)) ∧
    (((List.length out) + 1) ≤ LIM) ∧
    (∀ (c : List D), (c ∈ [[D.v (.string (strD (List.getD (List.getD L (Int.toNat i) []) 0 d0))), D.v (.string (strD (List.getD (List.drop 1 (List.getD L (Int.toNat i) [])) 0 d0))), D.v (.string (strD (List.getD (List.drop 1 (List.drop 1 (List.getD L (Int.toNat i) []))) 0 d0)))]]) → (List.length c) = 3) ∧
    (((List.length out) + 1) = (List.length (out ++ [[D.v (.string u), D.v (.string d), D.v (.string sh)]]))) ∧
    (((List.length (out ++ [[D.v (.string u), D.v (.string d), D.v (.string sh)]])) + 1) ≤ LIM) ∧
    FamNext st inv μ kk ⟨[AV.rf 0 0, AV.jk, AV.jk, AV.rf 2 0, mkI .i64 0, mkS u, mkS d, AV.jk, AV.jk, AV.jk, AV.vw 7 ((List.length (out ++ [[D.v (.string u), D.v (.string d), D.v (.string sh)]])) + 1), mkB true, mkI .i64 (IntKind.wrap .i64 (i + (1 : Int)))] ++ (jks 124), [Ob.box [AV.d (.sl L)], Ob.gh [AV.rf 0 0], Ob.box [mkI .i64 kind, mkS ty, mkS id, mkS fr, mkS to, mkS sh, mkS tok, mkS rea, mkI .u32 hh, mkI .i64 ver, mkB rem, AV.d (.sl its)], Ob.gone, Ob.gone, Ob.gone, Ob.gone, Ob.row 3 ((out ++ [[D.v (.string u), D.v (.string d), D.v (.string sh)]]) ++ [[D.v (.string (strD (List.getD (List.getD L (Int.toNat i) []) 0 d0))), D.v (.string (strD (List.getD (List.drop 1 (List.getD L (Int.toNat i) [])) 0 d0))), D.v (.string (strD (List.getD (List.drop 1 (List.drop 1 (List.getD L (Int.toNat i) []))) 0 d0)))]]), Ob.box [mkS (strD (List.getD (List.getD L (Int.toNat i) []) 0 d0)), mkS (strD (List.getD (List.drop 1 (List.getD L (Int.toNat i) [])) 0 d0)), mkS (strD (List.getD (List.drop 1 (List.drop 1 (List.getD L (Int.toNat i) []))) 0 d0))], Ob.row 3 [[D.v (.string u), D.v (.string d), D.v (.string sh)]], Ob.row 3 [[D.v (.string (strD (List.getD (List.getD L (Int.toNat i) []) 0 d0))), D.v (.string (strD (List.getD (List.drop 1 (List.getD L (Int.toNat i) [])) 0 d0))), D.v (.string (strD (List.getD (List.drop 1 (List.drop 1 (List.getD L (Int.toNat i) []))) 0 d0)))]]]⟩) (
    bcase (decide (u = (strD (List.getD (List.getD L (Int.toNat i) []) 0 d0)))) (
     (((ByteArray.size d) ≤ LIM) ∧ ((ByteArray.size (strD (List.getD (List.drop 1 (List.getD L (Int.toNat i) [])) 0 d0))) ≤ LIM)) ∧
     bcase (lessB d (strD (List.getD (List.drop 1 (List.getD L (Int.toNat i) [])) 0 d0))) (
      (∀ (c : List D), (c ∈ [[D.v (.string u), D.v (.string d), D.v (.string sh)]]) → (List.length c) = 3) ∧
      ((List.length out) = (List.length out)) ∧
      (((List.length out) + 1) ≤ LIM) ∧
      (∀ (c : List D), (c ∈ [[D.v (.string (strD (List.getD (List.getD L (Int.toNat i) []) 0 d0))), D.v (.string (strD (List.getD (List.drop 1 (List.getD L (Int.toNat i) [])) 0 d0))), D.v (.string (strD (List.getD (List.drop 1 (List.drop 1 (List.getD L (Int.toNat i) []))) 0 d0)))]]) → (List.length c) = 3) ∧
      (((List.length out) + 1) = (List.length (out ++ [[D.v (.string u), D.v (.string d), D.v (.string sh)]]))) ∧
      (((List.length (out ++ [[D.v (.string u), D.v (.string d), D.v (.string sh)]])) + 1) ≤ LIM) ∧
      FamNext st inv μ kk ⟨[AV.rf 0 0, AV.jk, AV.jk, AV.rf 2 0, mkI .i64 0, mkS u, mkS d, AV.jk, AV.jk, AV.jk, AV.vw 7 ((List.length (out ++ [[D.v (.string u), D.v (.string d), D.v (.string sh)]])) + 1), mkB true, mkI .i64 (IntKind.wrap .i64 (i + (1 : Int)))] ++ (jks 124), [Ob.box [AV.d (.sl L)], Ob.gh [AV.rf 0 0], Ob.box [mkI .i64 kind, mkS ty, mkS id, mkS fr, mkS to, mkS sh, mkS tok, mkS rea, mkI .u32 hh, mkI .i64 ver, mkB rem, AV.d (.sl its)], Ob.gone, Ob.gone, Ob.gone, Ob.gone, Ob.row 3 ((out ++ [[D.v (.string u), D.v (.string d), D.v (.string sh)]]) ++ [[D.v (.string (strD (List.getD (List.getD L (Int.toNat i) []) 0 d0))), D.v (.string (strD (List.getD (List.drop 1 (List.getD L (Int.toNat i) [])) 0 d0))), D.v (.string (strD (List.getD (List.drop 1 (List.drop 1 (List.getD L (Int.toNat i) []))) 0 d0)))]]), Ob.box [mkS (strD (List.getD (List.getD L (Int.toNat i) []) 0 d0)), mkS (strD (List.getD (List.drop 1 (List.getD L (Int.toNat i) [])) 0 d0)), mkS (strD (List.getD (List.drop 1 (List.drop 1 (List.getD L (Int.toNat i) []))) 0 d0))], Ob.row 3 [[D.v (.string u), D.v (.string d), D.v (.string sh)]], Ob.row 3 [[D.v (.string (strD (List.getD (List.getD L (Int.toNat i) []) 0 d0))), D.v (.string (strD (List.getD (List.drop 1 (List.getD L (Int.toNat i) [])) 0 d0))), D.v (.string (strD (List.getD (List.drop 1 (List.drop 1 (List.getD L (Int.toNat i) []))) 0 d0)))]]]⟩) (
      (∀ (c : List D), (c ∈ [[D.v (.string (strD (List.getD (List.getD L (Int.toNat i) []) 0 d0))), D.v (.string (strD (List.getD (List.drop 1 (List.getD L (Int.toNat i) [])) 0 d0))), D.v (.string (strD (List.getD (List.drop 1 (List.drop 1 (List.getD L (Int.toNat i) []))) 0 d0)))]]) → (List.length c) = 3) ∧
      ((List.length out) = (List.length out)) ∧
      (((List.length out) + 1) ≤ LIM) ∧
      FamNext st inv μ kk ⟨[AV.rf 0 0, AV.jk, AV.jk, AV.rf 2 0, mkI .i64 0, mkS u, mkS d, AV.jk, AV.jk, AV.jk, AV.vw 7 ((List.length out) + 1), mkB false, mkI .i64 (IntKind.wrap .i64 (i + (1 : Int)))] ++ (jks 124), [Ob.box [AV.d (.sl L)], Ob.gh [AV.rf 0 0], Ob.box [mkI .i64 kind, mkS ty, mkS id, mkS fr, mkS to, mkS sh, mkS tok, mkS rea, mkI .u32 hh, mkI .i64 ver, mkB rem, AV.d (.sl its)], Ob.gone, Ob.gone, Ob.gone, Ob.gone, Ob.row 3 (out ++ [[D.v (.string (strD (List.getD (List.getD L (Int.toNat i) []) 0 d0))), D.v (.string (strD (List.getD (List.drop 1 (List.getD L (Int.toNat i) [])) 0 d0))), D.v (.string (strD (List.getD (List.drop 1 (List.drop 1 (List.getD L (Int.toNat i) []))) 0 d0)))]]), Ob.box [mkS (strD (List.getD (List.getD L (Int.toNat i) []) 0 d0)), mkS (strD (List.getD (List.drop 1 (List.getD L (Int.toNat i) [])) 0 d0)), mkS (strD (List.getD (List.drop 1 (List.drop 1 (List.getD L (Int.toNat i) []))) 0 d0))], Ob.row 3 [[D.v (.string (strD (List.getD (List.getD L (Int.toNat i) []) 0 d0))), D.v (.string (strD (List.getD (List.drop 1 (List.getD L (Int.toNat i) [])) 0 d0))), D.v (.string (strD (List.getD (List.drop 1 (List.drop 1 (List.getD L (Int.toNat i) []))) 0 d0)))]]]⟩)) (
     (∀ (c : List D), (c ∈ [[D.v (.string (strD (List.getD (List.getD L (Int.toNat i) []) 0 d0))), D.v (.string (strD (List.getD (List.drop 1 (List.getD L (Int.toNat i) [])) 0 d0))), D.v (.string (strD (List.getD (List.drop 1 (List.drop 1 (List.getD L (Int.toNat i) []))) 0 d0)))]]) → (List.length c) = 3) ∧
     ((List.length out) = (List.length out)) ∧
     (((List.length out) + 1) ≤ LIM) ∧
     FamNext st inv μ kk ⟨[AV.rf 0 0, AV.jk, AV.jk, AV.rf 2 0, mkI .i64 0, mkS u, mkS d, AV.jk, AV.jk, AV.jk, AV.vw 7 ((List.length out) + 1), mkB false, mkI .i64 (IntKind.wrap .i64 (i + (1 : Int)))] ++ (jks 124), [Ob.box [AV.d (.sl L)], Ob.gh [AV.rf 0 0], Ob.box [mkI .i64 kind, mkS ty, mkS id, mkS fr, mkS to, mkS sh, mkS tok, mkS rea, mkI .u32 hh, mkI .i64 ver, mkB rem, AV.d (.sl its)], Ob.gone, Ob.gone, Ob.gone, Ob.gone, Ob.row 3 (out ++ [[D.v (.string (strD (List.getD (List.getD L (Int.toNat i) []) 0 d0))), D.v (.string (strD (List.getD (List.drop 1 (List.getD L (Int.toNat i) [])) 0 d0))), D.v (.string (strD (List.getD (List.drop 1 (List.drop 1 (List.getD L (Int.toNat i) []))) 0 d0)))]]), Ob.box [mkS (strD (List.getD (List.getD L (Int.toNat i) []) 0 d0)), mkS (strD (List.getD (List.drop 1 (List.getD L (Int.toNat i) [])) 0 d0)), mkS (strD (List.getD (List.drop 1 (List.drop 1 (List.getD L (Int.toNat i) []))) 0 d0))], Ob.row 3 [[D.v (.string (strD (List.getD (List.getD L (Int.toNat i) []) 0 d0))), D.v (.string (strD (List.getD (List.drop 1 (List.getD L (Int.toNat i) [])) 0 d0))), D.v (.string (strD (List.getD (List.drop 1 (List.drop 1 (List.getD L (Int.toNat i) []))) 0 d0)))]]]⟩))) (
   (∀ (c : List D), (c ∈ [[D.v (.string u), D.v (.string d), D.v (.string sh)]]) → (List.length c) = 3) ∧
   ((List.length out) = (List.length out)) ∧
   (((List.length out) + 1) ≤ LIM) ∧
   q (mkI .i64 0) [Ob.box [AV.vw 7 ((List.length out) + 1)], Ob.gh [AV.rf 0 0], Ob.box [mkI .i64 kind, mkS ty, mkS id, mkS fr, mkS to, mkS sh, mkS tok, mkS rea, mkI .u32 hh, mkI .i64 ver, mkB rem, AV.d (.sl its)], Ob.gone, Ob.gone, Ob.gone, Ob.gone, Ob.row 3 (out ++ [[D.v (.string u), D.v (.string d), D.v (.string sh)]]), Ob.row 3 [[D.v (.string u), D.v (.string d), D.v (.string sh)]]])) := by kernel_rfl
def aheadP (x o : One) : Bool := lessB x.u o.u || (decide (x.u = o.u) && lessB x.d o.d)
def insR (x : One) : List One → List One
  | [] => [x]
  | o :: l => if aheadP x o = true then x :: o :: l else o :: insR x l
theorem ins_none {x : One} : ∀ {l : List One}, l.any (aheadP x) = false → insR x l = l ++ [x]
  | [], _ => rfl
  | o :: l, h => by
    rw [List.any_cons, Bool.or_eq_false_iff] at h
    simp only [insR]
    rw [if_neg (by rw [h.1]; decide), ins_none h.2, List.cons_append]
theorem ins_app {x o : One} : ∀ {l : List One}, l.any (aheadP x) = true → insR x (l ++ [o]) = insR x l ++ [o]
  | [], h => by cases h
  | y :: l, h => by
    rw [List.any_cons, Bool.or_eq_true] at h
    simp only [List.cons_append, insR]
    by_cases hy : aheadP x y = true
    · rw [if_pos hy, if_pos hy]; rfl
    · rw [if_neg hy, if_neg hy, ins_app (h.resolve_left hy), List.cons_append]
theorem ins_hit {x o : One} (ho : aheadP x o = true) : ∀ {l : List One}, l.any (aheadP x) = false → insR x (l ++ [o]) = l ++ [x] ++ [o]
  | [], _ => by simp [insR, ho]
  | y :: l, h => by
    rw [List.any_cons, Bool.or_eq_false_iff] at h
    simp only [List.cons_append, insR]
    rw [if_neg (by rw [h.1]; decide), ins_hit ho h.2]
def anyI (x : One) (D : List One) (i : Nat) : Bool := (D.take i).any (aheadP x)
def outI (x : One) (D : List One) (i : Nat) : List One := if anyI x D i = true then insR x (D.take i) else D.take i
theorem any_succ (x : One) (D : List One) {i : Nat} (h : i < D.length) : anyI x D (i + 1) = (anyI x D i || aheadP x D[i]) := by
  unfold anyI
  rw [List.take_add_one, List.getElem?_eq_getElem h, List.any_append]
  simp
theorem out_done (x : One) (D : List One) {i : Nat} (h : i < D.length) (ha : anyI x D i = true) : outI x D (i + 1) = outI x D i ++ [D[i]] := by
  unfold outI
  rw [any_succ x D h, ha, Bool.true_or, if_pos rfl, if_pos rfl, List.take_add_one, List.getElem?_eq_getElem h]
  exact ins_app ha
theorem out_hit (x : One) (D : List One) {i : Nat} (h : i < D.length) (ha : anyI x D i = false) (ho : aheadP x D[i] = true) : outI x D (i + 1) = outI x D i ++ [x] ++ [D[i]] := by
  unfold outI
  rw [any_succ x D h, ha, ho, Bool.false_or, if_pos rfl, if_neg (by decide), List.take_add_one, List.getElem?_eq_getElem h]
  exact ins_hit ho ha
theorem out_no (x : One) (D : List One) {i : Nat} (h : i < D.length) (ha : anyI x D i = false) (ho : aheadP x D[i] = false) : outI x D (i + 1) = outI x D i ++ [D[i]] := by
  unfold outI
  rw [any_succ x D h, ha, ho, Bool.false_or, if_neg (by decide), if_neg (by decide), List.take_add_one, List.getElem?_eq_getElem h]
  rfl
theorem ins_len (x : One) : ∀ l : List One, (insR x l).length = l.length + 1
  | [] => rfl
  | o :: l => by
    simp only [insR]
    split
    · rfl
    · rw [List.length_cons, ins_len x l, List.length_cons]
theorem out_len (x : One) (D : List One) (i : Nat) : (outI x D i).length ≤ i + 1 := by
  unfold outI
  split
  · rw [ins_len, List.length_take]; omega
  · rw [List.length_take]; omega
inductive HrR (L : List One) (kind : Int) (ty fr sh : BA) : Int → List One → Prop
  | bad (h : kind ≠ 1 ∨ addrB fr = false ∨ (ty ≠ ⟨#[]⟩ ∧ ty ≠ unB) ∨ (ty = ⟨#[]⟩ ∧ cutD fr = ⟨#[]⟩)) : HrR L kind ty fr sh 6 L
  | off (h1 : kind = 1) (h2 : addrB fr = true) (h3 : ty = unB) : HrR L kind ty fr sh 0 (dropL (cutU fr) (cutD fr) L)
  | full (h1 : kind = 1) (h2 : addrB fr = true) (h3 : ty = ⟨#[]⟩) (h4 : cutD fr ≠ ⟨#[]⟩) (h5 : hasO L fr = false) (h6 : 64 ≤ L.length) : HrR L kind ty fr sh 9 L
  | on (h1 : kind = 1) (h2 : addrB fr = true) (h3 : ty = ⟨#[]⟩) (h4 : cutD fr ≠ ⟨#[]⟩) (h5 : hasO L fr = true ∨ L.length < 64) : HrR L kind ty fr sh 0 (insR ⟨cutU fr, cutD fr, sh⟩ (dropL (cutU fr) (cutD fr) L))
def EHr : REnt := fun al o q => ∃ L kind ty id fr to sh tok rea hh ver rem its, al = [.rf 0 0, .ag [mkI .i64 kind, mkS ty, mkS id, mkS fr, mkS to, mkS sh, mkS tok, mkS rea, mkI .u32 hh, mkI .i64 ver, mkB rem, .d (.sl its)]] ∧ o = obR L ∧ OkL L ∧ fr.size ≤ SZC ∧ ∀ e L', HrR L kind ty fr sh e L' → q (mkI .i64 e) (obR L')
theorem rh_loop {L : List One} (hL : OkL L) {kind : Int} {ty id fr to sh tok rea : ByteArray} {hh ver : Int} {rem : Bool} {its : List (List D)} (hu : (cutU fr).size ≤ LIM) (hd : (cutD fr).size ≤ LIM) {q : AV → List Ob → Prop} (hq : q (mkI .i64 0) (obR (insR ⟨cutU fr, cutD fr, sh⟩ (dropL (cutU fr) (cutD fr) L)))) {s : S}
    (hs : S.le (sealAll [] (s.openT 10 3)) (stHl (onL (dropL (cutU fr) (cutD fr) L)) kind ty id fr to sh tok rea hh ver rem its (cutU fr) (cutD fr) [] false 0)) :
    ALoop (aCode KH GRh (cAt [1, 1, 1, 1, 1, 1, 1, 1, 1, 0, 1, 0, 0] Tryd.b19)) (rRh_f_k0 (trimW q)) s := by
  have hD0 : OkL (dropL (cutU fr) (cutD fr) L) := ⟨Nat.le_trans (List.length_filter_le _ _) hL.len, fun o ho => hL.sz o (List.mem_filter.1 ho).1⟩
  generalize dropL (cutU fr) (cutD fr) L = Dd at hD0 hq hs
  generalize hx : (⟨cutU fr, cutD fr, sh⟩ : One) = x at hq
  have xu : x.u = cutU fr := by rw [← hx]
  have xd : x.d = cutD fr := by rw [← hx]
  have xo : onD x = [.v (.string (cutU fr)), .v (.string (cutD fr)), .v (.string sh)] := by rw [← hx]; rfl
  generalize cutU fr = u at hu xu xo hs
  generalize cutD fr = d at hd xd xo hs
  have hl := onL_len Dd
  have hlen := hD0.len
  refine ALoop.openT 10 3 (by omega) ?_
  refine ALoop.introM [] (maskOf (stHl (onL Dd) kind ty id fr to sh tok rea hh ver rem its u d [] false 0)) (fun i : Nat => stHl (onL Dd) kind ty id fr to sh tok rea hh ver rem its u d (onL (outI x Dd i)) (anyI x Dd i) (i : Int)) (fun i => i ≤ Dd.length) (fun i => Dd.length - i)
    ⟨[], 0, hs, Nat.zero_le _⟩ fun i hi => ?_
  have hi : i ≤ Dd.length := hi
  have ho := out_len x Dd i
  have hol := onL_len (outI x Dd i)
  have w1 : i < Dd.length → IntKind.wrap .i64 ((i : Int) + 1) = ((i + 1 : Nat) : Int) := fun h => by rw [IntWalk.i64_in _ (by omega)]; omega
  have nx : ∀ (hlt : i < Dd.length) (out : List (List D)) (z : Bool) (rest : List Ob) (n : Nat), onL (outI x Dd (i + 1)) = out → anyI x Dd (i + 1) = z → n = out.length → FamNext (fun i : Nat => stHl (onL Dd) kind ty id fr to sh tok rea hh ver rem its u d (onL (outI x Dd i)) (anyI x Dd i) (i : Int)) (fun i => i ≤ Dd.length) (fun i => Dd.length - i) i ⟨[.rf 0 0, .jk, .jk, .rf 2 0, mkI .i64 0, mkS u, mkS d, .jk, .jk, .jk, .vw 7 n, mkB z, mkI .i64 ((i + 1 : Nat) : Int)] ++ jks 124, [.box [.d (.sl (onL Dd))], ghR, .box [mkI .i64 kind, mkS ty, mkS id, mkS fr, mkS to, mkS sh, mkS tok, mkS rea, mkI .u32 hh, mkI .i64 ver, mkB rem, .d (.sl its)], .gone, .gone, .gone, .gone, .row 3 out] ++ rest⟩ := fun hlt out z rest n e1 e2 e3 => by
    refine .mk [] (i + 1) ?_ hlt (show Dd.length - (i + 1) < Dd.length - i by omega)
    rw [e1, e2, e3]
    generalize onL Dd = l
    simp [S.le, sealAll, leL, leA, leO, jks, stHl, mkI, mkS, mkB, S.fits, fitsL, AV.fits, Ob.fits]
  have trm : ∀ (out : List (List D)) (n : Nat) (rest : List Ob), n = out.length → out = onL (insR x Dd) → trimW q (mkI .i64 0) ([.box [.vw 7 n], ghR, .box [mkI .i64 kind, mkS ty, mkS id, mkS fr, mkS to, mkS sh, mkS tok, mkS rea, mkI .u32 hh, mkI .i64 ver, mkB rem, .d (.sl its)], .gone, .gone, .gone, .gone, .row 3 out] ++ rest) := fun out n rest e1 e2 => by
    refine ⟨_, _, (weak_seal _ [7]).trans (weak_le (?_ : S.le _ ⟨[mkI .i64 0], obR (insR x Dd)⟩)), hq⟩
    unfold obR
    rw [← e2, e1]
    simp [S.le, sealAll, S.sealR, subL, AV.sub, Ob.subO, leL, leA, leO, S.fits, fitsL, AV.fits, Ob.fits, mkI]
  have lim : (onL (outI x Dd i)).length + 2 ≤ LIM := by unfold LIM; omega
  cases ha : anyI x Dd i with
  | true =>
    refine cast (rRh_lt _ _ _ i (onL Dd) kind ty id fr to sh tok rea hh ver rem its u d (onL (outI x Dd i)) (i : Int) (trimW q)).symm fun _ => bcase_dec (fun hlt => ?_) (fun hge => ?_)
    · have hlt : i < Dd.length := by rw [hl] at hlt; omega
      rw [on_at Dd hlt, w1 hlt]
      exact ⟨⟨by omega, by rw [hl]; omega⟩, rfl, Nat.le_refl 3, ⟨rfl, rfl, rfl, trivial⟩, fun c hc => by simp at hc; simp [hc], rfl, by omega, nx hlt _ _ _ _ (by rw [out_done x Dd hlt ha, ← onL_app]; rfl) (by rw [any_succ x Dd hlt, ha]; rfl) (by simp)⟩
    · have : i = Dd.length := by rw [hl] at hge; omega
      subst this
      refine trm _ _ [] rfl ?_
      unfold outI
      rw [if_pos ha, List.take_length]
  | false =>
    refine cast (rRh_lf _ _ _ i (onL Dd) kind ty id fr to sh tok rea hh ver rem its u d (onL (outI x Dd i)) (i : Int) (trimW q)).symm fun _ => bcase_dec (fun hlt => ?_) (fun hge => ?_)
    · have hlt : i < Dd.length := by rw [hl] at hlt; omega
      obtain ⟨z1, z2⟩ := hD0.sz _ (List.getElem_mem hlt)
      rw [on_at Dd hlt, w1 hlt]
      have hit : aheadP x Dd[i] = true → onL (outI x Dd (i + 1)) = (onL (outI x Dd i) ++ [[.v (.string u), .v (.string d), .v (.string sh)]]) ++ [onD Dd[i]] := fun h => by rw [out_hit x Dd hlt ha h, ← onL_app, ← onL_app, xo]
      have no : aheadP x Dd[i] = false → onL (outI x Dd (i + 1)) = onL (outI x Dd i) ++ [onD Dd[i]] := fun h => by rw [out_no x Dd hlt ha h, ← onL_app]
      have le16 : ∀ {n : Nat}, n ≤ 16 → n ≤ LIM := fun h => by unfold LIM; omega
      refine ⟨⟨by omega, by rw [hl]; omega⟩, rfl, Nat.le_refl 3, ⟨rfl, rfl, rfl, trivial⟩, ⟨hu, le16 z1⟩, bcase_mk (fun h1 => ⟨fun c hc => by simp at hc; simp [hc], rfl, by omega, fun c hc => by simp at hc; simp [hc], by simp, by simp; omega, ?_⟩) (fun h1 => bcase_mk (fun h2 => ⟨⟨hd, le16 z2⟩, bcase_mk (fun h3 => ⟨fun c hc => by simp at hc; simp [hc], rfl, by omega, fun c hc => by simp at hc; simp [hc], by simp, by simp; omega, ?_⟩) (fun h3 => ⟨fun c hc => by simp at hc; simp [hc], rfl, by omega, ?_⟩)⟩) (fun h2 => ⟨fun c hc => by simp at hc; simp [hc], rfl, by omega, ?_⟩))⟩
      · have h1 : lessB u Dd[i].u = true := h1
        have hp : aheadP x Dd[i] = true := by unfold aheadP; rw [xu, h1]; rfl
        exact nx hlt _ _ _ _ (hit hp) (by rw [any_succ x Dd hlt, ha, hp]; rfl) (by simp)
      · have h2 : decide (u = Dd[i].u) = true := h2
        have h3 : lessB d Dd[i].d = true := h3
        have hp : aheadP x Dd[i] = true := by unfold aheadP; rw [xu, xd, h2, h3]; simp
        exact nx hlt _ _ _ _ (hit hp) (by rw [any_succ x Dd hlt, ha, hp]; rfl) (by simp)
      · have h1 : lessB u Dd[i].u = false := h1
        have h3 : lessB d Dd[i].d = false := h3
        have hp : aheadP x Dd[i] = false := by unfold aheadP; rw [xu, xd, h1, h3]; simp
        exact nx hlt _ _ _ _ (no hp) (by rw [any_succ x Dd hlt, ha, hp]; rfl) (by simp)
      · have h1 : lessB u Dd[i].u = false := h1
        have h2 : decide (u = Dd[i].u) = false := h2
        have hp : aheadP x Dd[i] = false := by unfold aheadP; rw [xu, xd, h1, h2]; rfl
        exact nx hlt _ _ _ _ (no hp) (by rw [any_succ x Dd hlt, ha, hp]; rfl) (by simp)
    · have : i = Dd.length := by rw [hl] at hge; omega
      subst this
      refine ⟨fun c hc => by simp at hc; simp [hc], rfl, by omega, trm _ _ _ (by simp) ?_⟩
      have hno := ha
      unfold anyI at hno
      rw [List.take_length] at hno
      unfold outI
      rw [if_neg (by rw [ha]; decide), List.take_length, ins_none hno, ← onL_app, xo]
theorem cRh : RSound Tryd.prog 19 EHr := by
  refine ref_gen trimW trimW_ok (code_bsound (c := Tryd.b19) mixed KH_ok (gsound_det c18 (gsound_det cAh (gsound_ref (RSound.frame cSw) (gsound_ref (RSound.frame cDr) gsound_nil))))) KH_ok Tryd.func19 rfl rfl Tryd.call19 fun al o q ⟨L, kind, ty, id, fr, to, sh, tok, rea, hh, ver, rem, its, h1, h2, hL, hfr, hq⟩ => ?_
  subst h1 h2
  have hu : (cutU fr).size ≤ LIM := szc_lim (Nat.le_trans (cutU_size fr) hfr)
  have hd : (cutD fr).size ≤ LIM := szc_lim (Nat.le_trans (cutD_size fr) hfr)
  have hlen := hL.len
  have hl := onL_len L
  have bad : (kind ≠ 1 ∨ addrB fr = false ∨ (ty ≠ ⟨#[]⟩ ∧ ty ≠ unB) ∨ (ty = ⟨#[]⟩ ∧ cutD fr = ⟨#[]⟩)) → aCode KH GRh (cAt [1, 1, 0, 1] Tryd.b19) (rRh_k0 (trimW q)) (stH (onL L) kind ty id fr to sh tok rea hh ver rem its (cutU fr) (cutD fr) true) := fun h =>
    cast (rRh_t (onL L) kind ty id fr to sh tok rea hh ver rem its (cutU fr) (cutD fr) (trimW q)).symm ⟨_, _, weak_packG [some 0, some 1] rfl, hq _ _ (.bad h)⟩
  have good : kind = 1 → addrB fr = true → (ty = unB ∨ (ty = ⟨#[]⟩ ∧ cutD fr ≠ ⟨#[]⟩)) → aCode KH GRh (cAt [1, 1, 0, 1] Tryd.b19) (rRh_k0 (trimW q)) (stH (onL L) kind ty id fr to sh tok rea hh ver rem its (cutU fr) (cutD fr) false) := fun hk ha ht => by
    have lp : ∀ {s : S}, (ty = ⟨#[]⟩ ∧ cutD fr ≠ ⟨#[]⟩) → (hasO L fr = true ∨ L.length < 64) → S.le (sealAll [] (s.openT 10 3)) (stHl (onL (dropL (cutU fr) (cutD fr) L)) kind ty id fr to sh tok rea hh ver rem its (cutU fr) (cutD fr) [] false 0) → ALoop (aCode KH GRh (cAt [1, 1, 1, 1, 1, 1, 1, 1, 1, 0, 1, 0, 0] Tryd.b19)) (rRh_f_k0 (trimW q)) s := fun h1 h2 hs => rh_loop hL hu hd (hq _ _ (.on hk ha h1.1 h1.2 h2)) hs
    refine cast (rRh_f (onL L) kind ty id fr to sh tok rea hh ver rem its (cutU fr) (cutD fr) (trimW q)).symm (bcase_dec (fun h1 => ⟨L, cutU fr, cutD fr, rfl, rfl, hlen, rfl, _, _, weak_packG [some 0, some 1] rfl, hq _ _ (.off hk ha h1)⟩) (fun h1 => ?_))
    have ht := ht.resolve_left h1
    refine ⟨L, fr, rfl, rfl, hL, rfl, bcase_mk (fun h2 => fun _ => bcase_dec (fun h3 => ?_) (fun h3 => ?_)) (fun h2 => ?_)⟩
    · exact ⟨_, _, weak_packG [some 0, some 1] rfl, hq _ _ (.full hk ha ht.1 ht.2 (by simpa using h2) (by omega))⟩
    · refine ⟨L, cutU fr, cutD fr, rfl, rfl, hlen, rfl, lp ht (.inr (by omega)) ?_⟩
      generalize onL (dropL (cutU fr) (cutD fr) L) = l
      simp [S.le, sealAll, leL, leA, leO, jks, stHl, S.openT, mkI, mkS, mkB, S.fits, fitsL, AV.fits, Ob.fits]
    · refine ⟨L, cutU fr, cutD fr, rfl, rfl, hlen, rfl, lp ht (.inl (by simpa using h2)) ?_⟩
      generalize onL (dropL (cutU fr) (cutD fr) L) = l
      simp [S.le, sealAll, leL, leA, leO, jks, stHl, S.openT, mkI, mkS, mkB, S.fits, fitsL, AV.fits, Ob.fits]
  have hne : (⟨#[]⟩ : BA) ≠ unB := by decide
  refine cast (rRh (onL L) kind ty id fr to sh tok rea hh ver rem its (trimW q)).symm ⟨szc_lim hfr, bcase_mk (fun hk => ?_) (fun hk => bcase_mk (fun ha => ?_) (fun ha => bcase_mk (fun ht => bcase_mk (fun ht2 => ?_) (fun ht2 => bcase_dec (fun ht3 => ?_) (fun ht3 => ?_))) (fun ht => bcase_dec (fun ht3 => ?_) (fun ht3 => ?_))))⟩
  · refine .wk [] _ ?_ (bad (.inl (by simpa using hk)))
    generalize onL L = l
    simp [S.le, sealAll, leL, leA, leO, jks, stH, mkI, mkS, mkB, S.fits, fitsL, AV.fits, Ob.fits]
  · refine .wk [] _ ?_ (bad (.inr (.inl (by simpa using ha))))
    generalize onL L = l
    simp [S.le, sealAll, leL, leA, leO, jks, stH, mkI, mkS, mkB, S.fits, fitsL, AV.fits, Ob.fits]
  · refine .wk [] _ ?_ (bad (.inr (.inr (.inl ⟨by simpa using ht, by simpa using ht2⟩))))
    generalize onL L = l
    simp [S.le, sealAll, leL, leA, leO, jks, stH, mkI, mkS, mkB, S.fits, fitsL, AV.fits, Ob.fits]
  · have ht2 : ty = unB := by simpa using ht2
    exact absurd (ht3.symm.trans ht2) hne
  · have ht2 : ty = unB := by simpa using ht2
    refine .wk [] _ ?_ (good (by simpa using hk) (by simpa using ha) (.inl ht2))
    generalize onL L = l
    simp [S.le, sealAll, leL, leA, leO, jks, stH, mkI, mkS, mkB, S.fits, fitsL, AV.fits, Ob.fits]
  · by_cases hdd : cutD fr = ⟨#[]⟩
    · refine .wk [] _ ?_ (bad (.inr (.inr (.inr ⟨ht3, hdd⟩))))
      generalize onL L = l
      simp [S.le, sealAll, leL, leA, leO, jks, stH, mkI, mkS, mkB, S.fits, fitsL, AV.fits, Ob.fits, hdd]
    · refine .wk [] _ ?_ (good (by simpa using hk) (by simpa using ha) (.inr ⟨ht3, hdd⟩))
      generalize onL L = l
      simp [S.le, sealAll, leL, leA, leO, jks, stH, mkI, mkS, mkB, S.fits, fitsL, AV.fits, Ob.fits, hdd]
  · have ht : ty = ⟨#[]⟩ := by simpa using ht
    exact absurd ht ht3
end Go.Proofs.YthbejheedpdioaaDoor
