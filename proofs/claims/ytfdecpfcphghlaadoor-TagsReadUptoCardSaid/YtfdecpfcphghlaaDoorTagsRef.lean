import Derived.Test.YtfdecpfcphghlaaDoorTagsLaws
set_option linter.unusedSimpArgs false
set_option linter.unusedVariables false
namespace Go.Proofs.YtfdecpfcphghlaaDoor
open Go Go.AM Go.RowKit
attribute [local irreducible] aCode bcase

-- the document's blank, name, blanks
theorem r36 (c : Int) (q : AV → Prop) :
  (aCode Tryd.K [] Tryd.b36 (kRet Tryd.K Tryd.f36.results.toList q) ⟨[mkI .u8 c] ++ List.replicate (Tryd.f36.ntmps - 1) .jk, []⟩) = (
  bcase (c == (32 : Int)) (
   q (mkB true)) (
   bcase (c == (9 : Int)) (
    q (mkB true)) (
    bcase (c == (10 : Int)) (
     q (mkB true)) (
     q (mkB (c == (13 : Int))))))) := by kernel_rfl

def blI (c : Int) : Bool := decide (c = 32 ∨ c = 9 ∨ c = 10 ∨ c = 13)
theorem blI_byte (c : UInt8) : blI (c.toNat : Int) = isBl c := by
  rw [Bool.eq_iff_iff, isBl_iff]
  unfold blI
  rw [decide_eq_true_eq, ← UInt8.toNat_inj, ← UInt8.toNat_inj, ← UInt8.toNat_inj, ← UInt8.toNat_inj]
  show _ ↔ (c.toNat = 32 ∨ c.toNat = 9 ∨ c.toNat = 10 ∨ c.toNat = 13)
  omega
def F36 : List AV → Option (Prop × AV) := fun al => match al with
  | [.d (.v (.int .u8 c))] => some (True, mkB (blI c))
  | _ => none
theorem c36 : PSound Tryd.prog 36 (detE F36) := by
  refine det_fn (c := Tryd.b36) mixed Tryd.K_ok gsound_nil Tryd.func36 rfl rfl Tryd.call36 fun al p r q hF hp hq => ?_
  unfold F36 at hF; split at hF <;> cases hF
  rename_i c
  refine cast (r36 c q).symm ?_
  unfold blI at hq
  refine bcase_mk (fun h => ?_) (fun h => bcase_mk (fun h1 => ?_) (fun h1 => bcase_mk (fun h2 => ?_) (fun h2 => ?_)))
  all_goals simp only [beq_iff_eq, beq_eq_false_iff_ne] at *
  · rw [decide_eq_true (by omega)] at hq; exact hq
  · rw [decide_eq_true (by omega)] at hq; exact hq
  · rw [decide_eq_true (by omega)] at hq; exact hq
  · have : (c == 13) = decide (c = 32 ∨ c = 9 ∨ c = 10 ∨ c = 13) := by
      rw [Bool.eq_iff_iff, beq_iff_eq, decide_eq_true_eq]; omega
    rw [this]; exact hq

noncomputable def r25_k0 (q : AV → Prop) : Kont := kBlk (0 : Nat) (kSeq (aCode Tryd.K [] (cAt [1, 1, 1] Tryd.b25) (kRet Tryd.K (Array.toList (Func.results Tryd.f25)) q)) (kRet Tryd.K (Array.toList (Func.results Tryd.f25)) q))
theorem r25 (s : ByteArray) (q : AV → Prop) :
  (aCode Tryd.K [] Tryd.b25 (kRet Tryd.K Tryd.f25.results.toList q) ⟨[mkS s] ++ List.replicate (Tryd.f25.ntmps - 1) .jk, []⟩) = (
  ALoop (aCode Tryd.K [] (cAt [1, 1, 0, 0, 0] Tryd.b25)) (YtfdecpfcphghlaaDoor.r25_k0 q) ⟨[mkS s, AV.jk, mkI IntKind.i64 (0 : Int), mkI IntKind.i64 (0 : Int), AV.jk, AV.jk, AV.jk, AV.jk, AV.jk, AV.jk, AV.jk, AV.jk, AV.jk, AV.jk, AV.jk, AV.jk, AV.jk, AV.jk, AV.jk, AV.jk, AV.jk, AV.jk, AV.jk, AV.jk, AV.jk, AV.jk, AV.jk, AV.jk, AV.jk, AV.jk, AV.jk, AV.jk, AV.jk, AV.jk, AV.jk, AV.jk, AV.jk, AV.jk, AV.jk, AV.jk, AV.jk, AV.jk, AV.jk, AV.jk, AV.jk, AV.jk, AV.jk], []⟩) := by kernel_rfl

def st25 (s : ByteArray) (n : Int) : S := ⟨[mkS s, .jk, .jk, mkI .i64 n] ++ jks 43, []⟩
def m25 : List Bool := maskOf (st25 ⟨#[]⟩ 0)
theorem r25_b {ι : Type} (st : ι → S) (inv : ι → Prop) (μ : ι → Nat) (k : ι) (s : ByteArray) (n : Int) (q : AV → Prop) :
  (aCode Tryd.K [] (cAt [1, 1, 0, 0, 0] Tryd.b25) (kFamM [] m25 st inv μ k (r25_k0 q)) (st25 s n)) = (
  ((ByteArray.size s) ≤ LIM) →
  bcase (decide (n < ((ByteArray.size s) : Int))) (
   (((0 : Int) ≤ n) ∧ (n < ((ByteArray.size s) : Int))) ∧
   bcase (decide (((UInt8.toNat (List.getD (Array.toList (ByteArray.data s)) (Int.toNat n) (0 : UInt8))) : Int) ≥ (97 : Int))) (
    (((0 : Int) ≤ n) ∧ (n < ((ByteArray.size s) : Int))) ∧
    bcase (decide (((UInt8.toNat (List.getD (Array.toList (ByteArray.data s)) (Int.toNat n) (0 : UInt8))) : Int) ≤ (122 : Int))) (
     FamNext st inv μ k ⟨[mkS s, AV.jk, AV.jk, mkI IntKind.i64 (IntKind.wrap IntKind.i64 (n + (1 : Int))), AV.jk, AV.jk, AV.jk, AV.jk, AV.jk, AV.jk, AV.jk, AV.jk, AV.jk, AV.jk, AV.jk, AV.jk, AV.jk, AV.jk, AV.jk, AV.jk, AV.jk, AV.jk, AV.jk, AV.jk, AV.jk, AV.jk, AV.jk, AV.jk, AV.jk, AV.jk, AV.jk, AV.jk, AV.jk, AV.jk, AV.jk, AV.jk, AV.jk, AV.jk, AV.jk, AV.jk, AV.jk, AV.jk, AV.jk, AV.jk, AV.jk, AV.jk, AV.jk], []⟩) (
     (((0 : Int) ≤ n) ∧ (n < ((ByteArray.size s) : Int))) ∧
     bcase (decide (((UInt8.toNat (List.getD (Array.toList (ByteArray.data s)) (Int.toNat n) (0 : UInt8))) : Int) ≥ (48 : Int))) (
      (((0 : Int) ≤ n) ∧ (n < ((ByteArray.size s) : Int))) ∧
      bcase (decide (((UInt8.toNat (List.getD (Array.toList (ByteArray.data s)) (Int.toNat n) (0 : UInt8))) : Int) ≤ (57 : Int))) (
       FamNext st inv μ k ⟨[mkS s, AV.jk, AV.jk, mkI IntKind.i64 (IntKind.wrap IntKind.i64 (n + (1 : Int))), AV.jk, AV.jk, AV.jk, AV.jk, AV.jk, AV.jk, AV.jk, AV.jk, AV.jk, AV.jk, AV.jk, AV.jk, AV.jk, AV.jk, AV.jk, AV.jk, AV.jk, AV.jk, AV.jk, AV.jk, AV.jk, AV.jk, AV.jk, AV.jk, AV.jk, AV.jk, AV.jk, AV.jk, AV.jk, AV.jk, AV.jk, AV.jk, AV.jk, AV.jk, AV.jk, AV.jk, AV.jk, AV.jk, AV.jk, AV.jk, AV.jk, AV.jk, AV.jk], []⟩) (
       (((0 : Int) ≤ n) ∧ (n < ((ByteArray.size s) : Int))) ∧
       bcase (((UInt8.toNat (List.getD (Array.toList (ByteArray.data s)) (Int.toNat n) (0 : UInt8))) : Int) == (45 : Int)) (
        FamNext st inv μ k ⟨[mkS s, AV.jk, AV.jk, mkI IntKind.i64 (IntKind.wrap IntKind.i64 (n + (1 : Int))), AV.jk, AV.jk, AV.jk, AV.jk, AV.jk, AV.jk, AV.jk, AV.jk, AV.jk, AV.jk, AV.jk, AV.jk, AV.jk, AV.jk, AV.jk, AV.jk, AV.jk, AV.jk, AV.jk, AV.jk, AV.jk, AV.jk, AV.jk, AV.jk, AV.jk, AV.jk, AV.jk, AV.jk, AV.jk, AV.jk, AV.jk, AV.jk, AV.jk, AV.jk, AV.jk, AV.jk, AV.jk, AV.jk, AV.jk, AV.jk, AV.jk, AV.jk, AV.jk], []⟩) (
        (((0 : Int) ≤ n) ∧ (n < ((ByteArray.size s) : Int))) ∧
        bcase (((UInt8.toNat (List.getD (Array.toList (ByteArray.data s)) (Int.toNat n) (0 : UInt8))) : Int) == (58 : Int)) (
         FamNext st inv μ k ⟨[mkS s, AV.jk, AV.jk, mkI IntKind.i64 (IntKind.wrap IntKind.i64 (n + (1 : Int))), AV.jk, AV.jk, AV.jk, AV.jk, AV.jk, AV.jk, AV.jk, AV.jk, AV.jk, AV.jk, AV.jk, AV.jk, AV.jk, AV.jk, AV.jk, AV.jk, AV.jk, AV.jk, AV.jk, AV.jk, AV.jk, AV.jk, AV.jk, AV.jk, AV.jk, AV.jk, AV.jk, AV.jk, AV.jk, AV.jk, AV.jk, AV.jk, AV.jk, AV.jk, AV.jk, AV.jk, AV.jk, AV.jk, AV.jk, AV.jk, AV.jk, AV.jk, AV.jk], []⟩) (
         q (mkI IntKind.i64 n))))) (
      (((0 : Int) ≤ n) ∧ (n < ((ByteArray.size s) : Int))) ∧
      bcase (((UInt8.toNat (List.getD (Array.toList (ByteArray.data s)) (Int.toNat n) (0 : UInt8))) : Int) == (45 : Int)) (
       FamNext st inv μ k ⟨[mkS s, AV.jk, AV.jk, mkI IntKind.i64 (IntKind.wrap IntKind.i64 (n + (1 : Int))), AV.jk, AV.jk, AV.jk, AV.jk, AV.jk, AV.jk, AV.jk, AV.jk, AV.jk, AV.jk, AV.jk, AV.jk, AV.jk, AV.jk, AV.jk, AV.jk, AV.jk, AV.jk, AV.jk, AV.jk, AV.jk, AV.jk, AV.jk, AV.jk, AV.jk, AV.jk, AV.jk, AV.jk, AV.jk, AV.jk, AV.jk, AV.jk, AV.jk, AV.jk, AV.jk, AV.jk, AV.jk, AV.jk, AV.jk, AV.jk, AV.jk, AV.jk, AV.jk], []⟩) (
       (((0 : Int) ≤ n) ∧ (n < ((ByteArray.size s) : Int))) ∧
       bcase (((UInt8.toNat (List.getD (Array.toList (ByteArray.data s)) (Int.toNat n) (0 : UInt8))) : Int) == (58 : Int)) (
        FamNext st inv μ k ⟨[mkS s, AV.jk, AV.jk, mkI IntKind.i64 (IntKind.wrap IntKind.i64 (n + (1 : Int))), AV.jk, AV.jk, AV.jk, AV.jk, AV.jk, AV.jk, AV.jk, AV.jk, AV.jk, AV.jk, AV.jk, AV.jk, AV.jk, AV.jk, AV.jk, AV.jk, AV.jk, AV.jk, AV.jk, AV.jk, AV.jk, AV.jk, AV.jk, AV.jk, AV.jk, AV.jk, AV.jk, AV.jk, AV.jk, AV.jk, AV.jk, AV.jk, AV.jk, AV.jk, AV.jk, AV.jk, AV.jk, AV.jk, AV.jk, AV.jk, AV.jk, AV.jk, AV.jk], []⟩) (
        q (mkI IntKind.i64 n)))))) (
    (((0 : Int) ≤ n) ∧ (n < ((ByteArray.size s) : Int))) ∧
    bcase (decide (((UInt8.toNat (List.getD (Array.toList (ByteArray.data s)) (Int.toNat n) (0 : UInt8))) : Int) ≥ (48 : Int))) (
     (((0 : Int) ≤ n) ∧ (n < ((ByteArray.size s) : Int))) ∧
     bcase (decide (((UInt8.toNat (List.getD (Array.toList (ByteArray.data s)) (Int.toNat n) (0 : UInt8))) : Int) ≤ (57 : Int))) (
      FamNext st inv μ k ⟨[mkS s, AV.jk, AV.jk, mkI IntKind.i64 (IntKind.wrap IntKind.i64 (n + (1 : Int))), AV.jk, AV.jk, AV.jk, AV.jk, AV.jk, AV.jk, AV.jk, AV.jk, AV.jk, AV.jk, AV.jk, AV.jk, AV.jk, AV.jk, AV.jk, AV.jk, AV.jk, AV.jk, AV.jk, AV.jk, AV.jk, AV.jk, AV.jk, AV.jk, AV.jk, AV.jk, AV.jk, AV.jk, AV.jk, AV.jk, AV.jk, AV.jk, AV.jk, AV.jk, AV.jk, AV.jk, AV.jk, AV.jk, AV.jk, AV.jk, AV.jk, AV.jk, AV.jk], []⟩) (
      (((0 : Int) ≤ n) ∧ (n < ((ByteArray.size s) : Int))) ∧
      bcase (((UInt8.toNat (List.getD (Array.toList (ByteArray.data s)) (Int.toNat n) (0 : UInt8))) : Int) == (45 : Int)) (
       FamNext st inv μ k ⟨[mkS s, AV.jk, AV.jk, mkI IntKind.i64 (IntKind.wrap IntKind.i64 (n + (1 : Int))), AV.jk, AV.jk, AV.jk, AV.jk, AV.jk, AV.jk, AV.jk, AV.jk, AV.jk, AV.jk, AV.jk, AV.jk, AV.jk, AV.jk, AV.jk, AV.jk, AV.jk, AV.jk, AV.jk, AV.jk, AV.jk, AV.jk, AV.jk, AV.jk, AV.jk, AV.jk, AV.jk, AV.jk, AV.jk, AV.jk, AV.jk, AV.jk, AV.jk, AV.jk, AV.jk, AV.jk, AV.jk, AV.jk, AV.jk, AV.jk, AV.jk, AV.jk, AV.jk], []⟩) (
       (((0 : Int) ≤ n) ∧ (n < ((ByteArray.size s) : Int))) ∧
       bcase (((UInt8.toNat (List.getD (Array.toList (ByteArray.data s)) (Int.toNat n) (0 : UInt8))) : Int) == (58 : Int)) (
        FamNext st inv μ k ⟨[mkS s, AV.jk, AV.jk, mkI IntKind.i64 (IntKind.wrap IntKind.i64 (n + (1 : Int))), AV.jk, AV.jk, AV.jk, AV.jk, AV.jk, AV.jk, AV.jk, AV.jk, AV.jk, AV.jk, AV.jk, AV.jk, AV.jk, AV.jk, AV.jk, AV.jk, AV.jk, AV.jk, AV.jk, AV.jk, AV.jk, AV.jk, AV.jk, AV.jk, AV.jk, AV.jk, AV.jk, AV.jk, AV.jk, AV.jk, AV.jk, AV.jk, AV.jk, AV.jk, AV.jk, AV.jk, AV.jk, AV.jk, AV.jk, AV.jk, AV.jk, AV.jk, AV.jk], []⟩) (
        q (mkI IntKind.i64 n))))) (
     (((0 : Int) ≤ n) ∧ (n < ((ByteArray.size s) : Int))) ∧
     bcase (((UInt8.toNat (List.getD (Array.toList (ByteArray.data s)) (Int.toNat n) (0 : UInt8))) : Int) == (45 : Int)) (
      FamNext st inv μ k ⟨[mkS s, AV.jk, AV.jk, mkI IntKind.i64 (IntKind.wrap IntKind.i64 (n + (1 : Int))), AV.jk, AV.jk, AV.jk, AV.jk, AV.jk, AV.jk, AV.jk, AV.jk, AV.jk, AV.jk, AV.jk, AV.jk, AV.jk, AV.jk, AV.jk, AV.jk, AV.jk, AV.jk, AV.jk, AV.jk, AV.jk, AV.jk, AV.jk, AV.jk, AV.jk, AV.jk, AV.jk, AV.jk, AV.jk, AV.jk, AV.jk, AV.jk, AV.jk, AV.jk, AV.jk, AV.jk, AV.jk, AV.jk, AV.jk, AV.jk, AV.jk, AV.jk, AV.jk], []⟩) (
      (((0 : Int) ≤ n) ∧ (n < ((ByteArray.size s) : Int))) ∧
      bcase (((UInt8.toNat (List.getD (Array.toList (ByteArray.data s)) (Int.toNat n) (0 : UInt8))) : Int) == (58 : Int)) (
       FamNext st inv μ k ⟨[mkS s, AV.jk, AV.jk, mkI IntKind.i64 (IntKind.wrap IntKind.i64 (n + (1 : Int))), AV.jk, AV.jk, AV.jk, AV.jk, AV.jk, AV.jk, AV.jk, AV.jk, AV.jk, AV.jk, AV.jk, AV.jk, AV.jk, AV.jk, AV.jk, AV.jk, AV.jk, AV.jk, AV.jk, AV.jk, AV.jk, AV.jk, AV.jk, AV.jk, AV.jk, AV.jk, AV.jk, AV.jk, AV.jk, AV.jk, AV.jk, AV.jk, AV.jk, AV.jk, AV.jk, AV.jk, AV.jk, AV.jk, AV.jk, AV.jk, AV.jk, AV.jk, AV.jk], []⟩) (
       q (mkI IntKind.i64 n)))))) (
   q (mkI IntKind.i64 n))) := by kernel_rfl

theorem isNC_iff (c : UInt8) : isNC c = true ↔ ((97 ≤ c.toNat ∧ c.toNat ≤ 122) ∨ (48 ≤ c.toNat ∧ c.toNat ≤ 57) ∨ c.toNat = 45 ∨ c.toNat = 58) := decide_eq_true_iff
def F25 : List AV → Option (Prop × AV) := fun al => match al with
  | [.d (.v (.string s))] => some (True, mkI .i64 (runN s))
  | _ => none
theorem c25 : PSound Tryd.prog 25 (detE F25) := by
  refine det_fn (c := Tryd.b25) mixed Tryd.K_ok gsound_nil Tryd.func25 rfl rfl Tryd.call25 fun al p r q hF hp hq => ?_
  unfold F25 at hF; split at hF <;> cases hF
  rename_i s
  refine cast (r25 s q).symm ?_
  refine ALoop.introM [] m25 (fun n : Nat => st25 s n) (fun n => n ≤ s.size ∧ ∀ j, j < n → isNC (s.data.toList.getD j 0) = true) (fun n => s.size - n) ⟨[], 0, by simp [S.le, sealAll, leL, jks, st25], Nat.zero_le _, fun j h => absurd h (Nat.not_lt_zero _)⟩ fun n ⟨hn, hI⟩ => ?_
  refine cast (r25_b _ _ _ _ s n q).symm fun hlim => bcase_dec (fun hlt => ?_) (fun hge => ?_)
  · have hlt : n < s.size := by omega
    have hz : (0 : Int) ≤ (n : Int) ∧ (n : Int) < (s.size : Int) := ⟨by omega, by omega⟩
    have hw := wrap_succ hlt hlim
    have good : isNC (s.data.toList.getD n 0) = true → FamNext (fun n : Nat => st25 s n) (fun n => n ≤ s.size ∧ ∀ j, j < n → isNC (s.data.toList.getD j 0) = true) (fun n => s.size - n) n ⟨[mkS s, AV.jk, AV.jk, mkI IntKind.i64 (IntKind.i64.wrap ((n : Int) + 1))] ++ jks 43, []⟩ := fun hc => by
      refine .mk [] (n + 1) ?_ ⟨by omega, fun j hj => ?_⟩ (by omega)
      · rw [hw]; simp [S.le, sealAll, leL, jks, st25]
      · by_cases e : j = n
        · subst e; exact hc
        · exact hI j (by omega)
    have bad : isNC (s.data.toList.getD n 0) = false → q (mkI .i64 n) := fun hc => by
      rw [show runN s = n from tw_len (by rw [dl]; exact hn) hI (fun _ => hc)] at hq; exact hq
    simp only [Int.toNat_natCast]
    have nc := isNC_iff (s.data.toList.getD n 0)
    have good := fun h => good (nc.2 h)
    have bad := fun h => bad (by rw [← Bool.not_eq_true, nc]; exact h)
    clear hI nc
    refine ⟨hz, ?_⟩
    repeat' (first | refine bcase_mk (fun h => ?_) (fun h => ?_) | refine And.intro hz ?_)
    all_goals simp only [Bool.not_eq_true', Bool.not_eq_false', decide_eq_true_eq, decide_eq_false_iff_not, beq_iff_eq, beq_eq_false_iff_ne] at *
    all_goals first
      | exact good (by omega)
      | exact bad (by omega)
  · have : n = s.data.toList.length := by rw [dl]; omega
    rw [show runN s = n from tw_len (by omega) hI (fun h => absurd h (by omega))] at hq; exact hq

noncomputable abbrev G27 : List (FuncId × En) := [(36, .det F36)]
noncomputable def r27_k0 (q : AV → Prop) : Kont := kBlk (0 : Nat) (kSeq (aCode Tryd.K YtfdecpfcphghlaaDoor.G27 (cAt [1, 1, 1] Tryd.b27) (kRet Tryd.K (Array.toList (Func.results Tryd.f27)) q)) (kRet Tryd.K (Array.toList (Func.results Tryd.f27)) q))
theorem r27 (s : ByteArray) (q : AV → Prop) :
  (aCode Tryd.K G27 Tryd.b27 (kRet Tryd.K Tryd.f27.results.toList q) ⟨[mkS s] ++ List.replicate (Tryd.f27.ntmps - 1) .jk, []⟩) = (
  ALoop (aCode Tryd.K YtfdecpfcphghlaaDoor.G27 (cAt [1, 1, 0, 0, 0] Tryd.b27)) (YtfdecpfcphghlaaDoor.r27_k0 q) ⟨[mkS s, AV.jk, mkI IntKind.i64 (0 : Int), mkI IntKind.i64 (0 : Int), AV.jk, AV.jk, AV.jk, AV.jk, AV.jk, AV.jk, AV.jk, AV.jk, AV.jk, AV.jk, AV.jk, AV.jk, AV.jk], []⟩) := by kernel_rfl

def st27 (s : ByteArray) (n : Int) : S := ⟨[mkS s, .jk, .jk, mkI .i64 n] ++ jks 13, []⟩
def m27 : List Bool := maskOf (st27 ⟨#[]⟩ 0)
theorem r27_b {ι : Type} (st : ι → S) (inv : ι → Prop) (μ : ι → Nat) (k : ι) (s : ByteArray) (n : Int) (q : AV → Prop) :
  (aCode Tryd.K G27 (cAt [1, 1, 0, 0, 0] Tryd.b27) (kFamM [] m27 st inv μ k (r27_k0 q)) (st27 s n)) = (
  ((ByteArray.size s) ≤ LIM) →
  bcase (decide (n < ((ByteArray.size s) : Int))) (
   (((0 : Int) ≤ n) ∧ (n < ((ByteArray.size s) : Int))) ∧
   True ∧
   bcase (YtfdecpfcphghlaaDoor.blI ((UInt8.toNat (List.getD (Array.toList (ByteArray.data s)) (Int.toNat n) (0 : UInt8))) : Int)) (
    FamNext st inv μ k ⟨[mkS s, AV.jk, AV.jk, mkI IntKind.i64 (IntKind.wrap IntKind.i64 (n + (1 : Int))), AV.jk, AV.jk, AV.jk, AV.jk, AV.jk, AV.jk, AV.jk, AV.jk, AV.jk, AV.jk, AV.jk, AV.jk, AV.jk], []⟩) (
    q (mkI IntKind.i64 n))) (
   q (mkI IntKind.i64 n))) := by kernel_rfl

def F27 : List AV → Option (Prop × AV) := fun al => match al with
  | [.d (.v (.string s))] => some (True, mkI .i64 (runB s))
  | _ => none
theorem c27 : PSound Tryd.prog 27 (detE F27) := by
  refine det_fn (c := Tryd.b27) mixed Tryd.K_ok (gsound_det c36 gsound_nil) Tryd.func27 rfl rfl Tryd.call27 fun al p r q hF hp hq => ?_
  unfold F27 at hF; split at hF <;> cases hF
  rename_i s
  refine cast (r27 s q).symm ?_
  refine ALoop.introM [] m27 (fun n : Nat => st27 s n) (fun n => n ≤ s.size ∧ ∀ j, j < n → isBl (s.data.toList.getD j 0) = true) (fun n => s.size - n) ⟨[], 0, by simp [S.le, sealAll, leL, jks, st27], Nat.zero_le _, fun j h => absurd h (Nat.not_lt_zero _)⟩ fun n ⟨hn, hI⟩ => ?_
  refine cast (r27_b _ _ _ _ s n q).symm fun hlim => bcase_dec (fun hlt => ?_) (fun hge => ?_)
  · have hlt : n < s.size := by omega
    have hz : (0 : Int) ≤ (n : Int) ∧ (n : Int) < (s.size : Int) := ⟨by omega, by omega⟩
    have hw := wrap_succ hlt hlim
    simp only [Int.toNat_natCast, blI_byte]
    refine ⟨hz, trivial, bcase_mk (fun h => ?_) (fun h => ?_)⟩
    · refine .mk [] (n + 1) ?_ ⟨hlt, fun j hj => ?_⟩ (show s.size - (n + 1) < s.size - n by omega)
      · rw [hw]; simp [S.le, sealAll, leL, jks, st27]
      · by_cases e : j = n
        · subst e; exact h
        · exact hI j (by omega)
    · rw [show runB s = n from tw_len (by rw [dl]; exact hn) hI (fun _ => h)] at hq; exact hq
  · have : n = s.data.toList.length := by rw [dl]; omega
    rw [show runB s = n from tw_len (by omega) hI (fun h => absurd h (by omega))] at hq; exact hq

-- Name
noncomputable def r26_k0 (q : AV → Prop) : Kont := kBlk (0 : Nat) (kSeq (aCode Tryd.K [] (cAt [1, 1] Tryd.b26) (kRet Tryd.K (Array.toList (Func.results Tryd.f26)) q)) (kRet Tryd.K (Array.toList (Func.results Tryd.f26)) q))
theorem r26 (s : ByteArray) (q : AV → Prop) :
  (aCode Tryd.K [] Tryd.b26 (kRet Tryd.K Tryd.f26.results.toList q) ⟨[mkS s] ++ List.replicate (Tryd.f26.ntmps - 1) .jk, []⟩) = (
  ALoop (aCode Tryd.K [] (cAt [1, 0, 1, 0, 0] Tryd.b26)) (YtfdecpfcphghlaaDoor.r26_k0 q) ⟨[mkS s, AV.jk, mkB false, mkI IntKind.i64 (0 : Int), AV.jk, AV.jk, AV.jk, AV.jk, AV.jk, AV.jk, AV.jk, AV.jk, AV.jk, AV.jk, AV.jk, AV.jk, AV.jk, AV.jk, AV.jk, AV.jk, AV.jk, AV.jk, AV.jk, AV.jk, AV.jk, AV.jk, AV.jk, AV.jk, AV.jk, AV.jk, AV.jk, AV.jk, AV.jk, AV.jk, AV.jk, AV.jk, AV.jk, AV.jk, AV.jk, AV.jk, AV.jk, AV.jk, AV.jk, AV.jk, AV.jk, AV.jk, AV.jk, AV.jk, AV.jk, AV.jk], []⟩) := by kernel_rfl

def st26 (s : ByteArray) (n : Int) : S := ⟨[mkS s, .jk, .jk, mkI .i64 n] ++ jks 46, []⟩
def m26 : List Bool := maskOf (st26 ⟨#[]⟩ 0)
theorem r26_b {ι : Type} (st : ι → S) (inv : ι → Prop) (μ : ι → Nat) (k : ι) (s : ByteArray) (n : Int) (q : AV → Prop) :
  (aCode Tryd.K [] (cAt [1, 0, 1, 0, 0] Tryd.b26) (kFamM [] m26 st inv μ k (r26_k0 q)) (st26 s n)) = (
  ((ByteArray.size s) ≤ LIM) →
  bcase (decide (n < ((ByteArray.size s) : Int))) (
   (((0 : Int) ≤ n) ∧ (n < ((ByteArray.size s) : Int))) ∧
   bcase (decide (((UInt8.toNat (List.getD (Array.toList (ByteArray.data s)) (Int.toNat n) (0 : UInt8))) : Int) ≥ (97 : Int))) (
    bcase (!(decide (((UInt8.toNat (List.getD (Array.toList (ByteArray.data s)) (Int.toNat n) (0 : UInt8))) : Int) ≤ (122 : Int)))) (
     bcase (n == (0 : Int)) (
      q (mkB false)) (
      bcase (decide (((UInt8.toNat (List.getD (Array.toList (ByteArray.data s)) (Int.toNat n) (0 : UInt8))) : Int) ≥ (48 : Int))) (
       bcase (!(decide (((UInt8.toNat (List.getD (Array.toList (ByteArray.data s)) (Int.toNat n) (0 : UInt8))) : Int) ≤ (57 : Int)))) (
        bcase (((UInt8.toNat (List.getD (Array.toList (ByteArray.data s)) (Int.toNat n) (0 : UInt8))) : Int) != (45 : Int)) (
         bcase (((UInt8.toNat (List.getD (Array.toList (ByteArray.data s)) (Int.toNat n) (0 : UInt8))) : Int) != (58 : Int)) (
          q (mkB false)) (
          FamNext st inv μ k ⟨[mkS s, AV.jk, AV.jk, mkI IntKind.i64 (IntKind.wrap IntKind.i64 (n + (1 : Int))), AV.jk, AV.jk, AV.jk, AV.jk, AV.jk, AV.jk, AV.jk, AV.jk, AV.jk, AV.jk, AV.jk, AV.jk, AV.jk, AV.jk, AV.jk, AV.jk, AV.jk, AV.jk, AV.jk, AV.jk, AV.jk, AV.jk, AV.jk, AV.jk, AV.jk, AV.jk, AV.jk, AV.jk, AV.jk, AV.jk, AV.jk, AV.jk, AV.jk, AV.jk, AV.jk, AV.jk, AV.jk, AV.jk, AV.jk, AV.jk, AV.jk, AV.jk, AV.jk, AV.jk, AV.jk, AV.jk], []⟩)) (
         FamNext st inv μ k ⟨[mkS s, AV.jk, AV.jk, mkI IntKind.i64 (IntKind.wrap IntKind.i64 (n + (1 : Int))), AV.jk, AV.jk, AV.jk, AV.jk, AV.jk, AV.jk, AV.jk, AV.jk, AV.jk, AV.jk, AV.jk, AV.jk, AV.jk, AV.jk, AV.jk, AV.jk, AV.jk, AV.jk, AV.jk, AV.jk, AV.jk, AV.jk, AV.jk, AV.jk, AV.jk, AV.jk, AV.jk, AV.jk, AV.jk, AV.jk, AV.jk, AV.jk, AV.jk, AV.jk, AV.jk, AV.jk, AV.jk, AV.jk, AV.jk, AV.jk, AV.jk, AV.jk, AV.jk, AV.jk, AV.jk, AV.jk], []⟩)) (
        FamNext st inv μ k ⟨[mkS s, AV.jk, AV.jk, mkI IntKind.i64 (IntKind.wrap IntKind.i64 (n + (1 : Int))), AV.jk, AV.jk, AV.jk, AV.jk, AV.jk, AV.jk, AV.jk, AV.jk, AV.jk, AV.jk, AV.jk, AV.jk, AV.jk, AV.jk, AV.jk, AV.jk, AV.jk, AV.jk, AV.jk, AV.jk, AV.jk, AV.jk, AV.jk, AV.jk, AV.jk, AV.jk, AV.jk, AV.jk, AV.jk, AV.jk, AV.jk, AV.jk, AV.jk, AV.jk, AV.jk, AV.jk, AV.jk, AV.jk, AV.jk, AV.jk, AV.jk, AV.jk, AV.jk, AV.jk, AV.jk, AV.jk], []⟩)) (
       bcase (((UInt8.toNat (List.getD (Array.toList (ByteArray.data s)) (Int.toNat n) (0 : UInt8))) : Int) != (45 : Int)) (
        bcase (((UInt8.toNat (List.getD (Array.toList (ByteArray.data s)) (Int.toNat n) (0 : UInt8))) : Int) != (58 : Int)) (
         q (mkB false)) (
         FamNext st inv μ k ⟨[mkS s, AV.jk, AV.jk, mkI IntKind.i64 (IntKind.wrap IntKind.i64 (n + (1 : Int))), AV.jk, AV.jk, AV.jk, AV.jk, AV.jk, AV.jk, AV.jk, AV.jk, AV.jk, AV.jk, AV.jk, AV.jk, AV.jk, AV.jk, AV.jk, AV.jk, AV.jk, AV.jk, AV.jk, AV.jk, AV.jk, AV.jk, AV.jk, AV.jk, AV.jk, AV.jk, AV.jk, AV.jk, AV.jk, AV.jk, AV.jk, AV.jk, AV.jk, AV.jk, AV.jk, AV.jk, AV.jk, AV.jk, AV.jk, AV.jk, AV.jk, AV.jk, AV.jk, AV.jk, AV.jk, AV.jk], []⟩)) (
        FamNext st inv μ k ⟨[mkS s, AV.jk, AV.jk, mkI IntKind.i64 (IntKind.wrap IntKind.i64 (n + (1 : Int))), AV.jk, AV.jk, AV.jk, AV.jk, AV.jk, AV.jk, AV.jk, AV.jk, AV.jk, AV.jk, AV.jk, AV.jk, AV.jk, AV.jk, AV.jk, AV.jk, AV.jk, AV.jk, AV.jk, AV.jk, AV.jk, AV.jk, AV.jk, AV.jk, AV.jk, AV.jk, AV.jk, AV.jk, AV.jk, AV.jk, AV.jk, AV.jk, AV.jk, AV.jk, AV.jk, AV.jk, AV.jk, AV.jk, AV.jk, AV.jk, AV.jk, AV.jk, AV.jk, AV.jk, AV.jk, AV.jk], []⟩)))) (
     FamNext st inv μ k ⟨[mkS s, AV.jk, AV.jk, mkI IntKind.i64 (IntKind.wrap IntKind.i64 (n + (1 : Int))), AV.jk, AV.jk, AV.jk, AV.jk, AV.jk, AV.jk, AV.jk, AV.jk, AV.jk, AV.jk, AV.jk, AV.jk, AV.jk, AV.jk, AV.jk, AV.jk, AV.jk, AV.jk, AV.jk, AV.jk, AV.jk, AV.jk, AV.jk, AV.jk, AV.jk, AV.jk, AV.jk, AV.jk, AV.jk, AV.jk, AV.jk, AV.jk, AV.jk, AV.jk, AV.jk, AV.jk, AV.jk, AV.jk, AV.jk, AV.jk, AV.jk, AV.jk, AV.jk, AV.jk, AV.jk, AV.jk], []⟩)) (
    bcase (n == (0 : Int)) (
     q (mkB false)) (
     bcase (decide (((UInt8.toNat (List.getD (Array.toList (ByteArray.data s)) (Int.toNat n) (0 : UInt8))) : Int) ≥ (48 : Int))) (
      bcase (!(decide (((UInt8.toNat (List.getD (Array.toList (ByteArray.data s)) (Int.toNat n) (0 : UInt8))) : Int) ≤ (57 : Int)))) (
       bcase (((UInt8.toNat (List.getD (Array.toList (ByteArray.data s)) (Int.toNat n) (0 : UInt8))) : Int) != (45 : Int)) (
        bcase (((UInt8.toNat (List.getD (Array.toList (ByteArray.data s)) (Int.toNat n) (0 : UInt8))) : Int) != (58 : Int)) (
         q (mkB false)) (
         FamNext st inv μ k ⟨[mkS s, AV.jk, AV.jk, mkI IntKind.i64 (IntKind.wrap IntKind.i64 (n + (1 : Int))), AV.jk, AV.jk, AV.jk, AV.jk, AV.jk, AV.jk, AV.jk, AV.jk, AV.jk, AV.jk, AV.jk, AV.jk, AV.jk, AV.jk, AV.jk, AV.jk, AV.jk, AV.jk, AV.jk, AV.jk, AV.jk, AV.jk, AV.jk, AV.jk, AV.jk, AV.jk, AV.jk, AV.jk, AV.jk, AV.jk, AV.jk, AV.jk, AV.jk, AV.jk, AV.jk, AV.jk, AV.jk, AV.jk, AV.jk, AV.jk, AV.jk, AV.jk, AV.jk, AV.jk, AV.jk, AV.jk], []⟩)) (
        FamNext st inv μ k ⟨[mkS s, AV.jk, AV.jk, mkI IntKind.i64 (IntKind.wrap IntKind.i64 (n + (1 : Int))), AV.jk, AV.jk, AV.jk, AV.jk, AV.jk, AV.jk, AV.jk, AV.jk, AV.jk, AV.jk, AV.jk, AV.jk, AV.jk, AV.jk, AV.jk, AV.jk, AV.jk, AV.jk, AV.jk, AV.jk, AV.jk, AV.jk, AV.jk, AV.jk, AV.jk, AV.jk, AV.jk, AV.jk, AV.jk, AV.jk, AV.jk, AV.jk, AV.jk, AV.jk, AV.jk, AV.jk, AV.jk, AV.jk, AV.jk, AV.jk, AV.jk, AV.jk, AV.jk, AV.jk, AV.jk, AV.jk], []⟩)) (
       FamNext st inv μ k ⟨[mkS s, AV.jk, AV.jk, mkI IntKind.i64 (IntKind.wrap IntKind.i64 (n + (1 : Int))), AV.jk, AV.jk, AV.jk, AV.jk, AV.jk, AV.jk, AV.jk, AV.jk, AV.jk, AV.jk, AV.jk, AV.jk, AV.jk, AV.jk, AV.jk, AV.jk, AV.jk, AV.jk, AV.jk, AV.jk, AV.jk, AV.jk, AV.jk, AV.jk, AV.jk, AV.jk, AV.jk, AV.jk, AV.jk, AV.jk, AV.jk, AV.jk, AV.jk, AV.jk, AV.jk, AV.jk, AV.jk, AV.jk, AV.jk, AV.jk, AV.jk, AV.jk, AV.jk, AV.jk, AV.jk, AV.jk], []⟩)) (
      bcase (((UInt8.toNat (List.getD (Array.toList (ByteArray.data s)) (Int.toNat n) (0 : UInt8))) : Int) != (45 : Int)) (
       bcase (((UInt8.toNat (List.getD (Array.toList (ByteArray.data s)) (Int.toNat n) (0 : UInt8))) : Int) != (58 : Int)) (
        q (mkB false)) (
        FamNext st inv μ k ⟨[mkS s, AV.jk, AV.jk, mkI IntKind.i64 (IntKind.wrap IntKind.i64 (n + (1 : Int))), AV.jk, AV.jk, AV.jk, AV.jk, AV.jk, AV.jk, AV.jk, AV.jk, AV.jk, AV.jk, AV.jk, AV.jk, AV.jk, AV.jk, AV.jk, AV.jk, AV.jk, AV.jk, AV.jk, AV.jk, AV.jk, AV.jk, AV.jk, AV.jk, AV.jk, AV.jk, AV.jk, AV.jk, AV.jk, AV.jk, AV.jk, AV.jk, AV.jk, AV.jk, AV.jk, AV.jk, AV.jk, AV.jk, AV.jk, AV.jk, AV.jk, AV.jk, AV.jk, AV.jk, AV.jk, AV.jk], []⟩)) (
       FamNext st inv μ k ⟨[mkS s, AV.jk, AV.jk, mkI IntKind.i64 (IntKind.wrap IntKind.i64 (n + (1 : Int))), AV.jk, AV.jk, AV.jk, AV.jk, AV.jk, AV.jk, AV.jk, AV.jk, AV.jk, AV.jk, AV.jk, AV.jk, AV.jk, AV.jk, AV.jk, AV.jk, AV.jk, AV.jk, AV.jk, AV.jk, AV.jk, AV.jk, AV.jk, AV.jk, AV.jk, AV.jk, AV.jk, AV.jk, AV.jk, AV.jk, AV.jk, AV.jk, AV.jk, AV.jk, AV.jk, AV.jk, AV.jk, AV.jk, AV.jk, AV.jk, AV.jk, AV.jk, AV.jk, AV.jk, AV.jk, AV.jk], []⟩))))) (
   ((ByteArray.size s) ≤ LIM) →
   bcase (decide (((ByteArray.size s) : Int) ≥ (1 : Int))) (
    ((ByteArray.size s) ≤ LIM) →
    q (mkB (decide (((ByteArray.size s) : Int) ≤ (16 : Int))))) (
    q (mkB false)))) := by kernel_rfl

def F26 : List AV → Option (Prop × AV) := fun al => match al with
  | [.d (.v (.string s))] => some (True, mkB (nameB s))
  | _ => none
theorem c26 : PSound Tryd.prog 26 (detE F26) := by
  refine det_fn (c := Tryd.b26) mixed Tryd.K_ok gsound_nil Tryd.func26 rfl rfl Tryd.call26 fun al p r q hF hp hq => ?_
  unfold F26 at hF; split at hF <;> cases hF
  rename_i s
  refine cast (r26 s q).symm ?_
  refine ALoop.introM [] m26 (fun i : Nat => st26 s i) (fun i => i ≤ s.size ∧ ∀ j, j < i → chOK j (byteAt s j)) (fun i => s.size - i) ⟨[], 0, by simp [S.le, sealAll, leL, jks, st26], by simp⟩ fun i ⟨hi, hI⟩ => ?_
  refine cast (r26_b _ _ _ _ s i q).symm fun hlim => bcase_dec (fun h => ?_) (fun h => ?_)
  · have hlt : i < s.size := by omega
    have hw := wrap_succ hlt hlim
    have hz : (0 : Int) ≤ (i : Int) ∧ (i : Int) < (s.size : Int) := ⟨by omega, by omega⟩
    have good : chOK i (byteAt s i) → FamNext (fun i : Nat => st26 s i) (fun i => i ≤ s.size ∧ ∀ j, j < i → chOK j (byteAt s j)) (fun i => s.size - i) i ⟨[mkS s, AV.jk, .jk, mkI IntKind.i64 (IntKind.wrap IntKind.i64 (i + 1))] ++ jks 46, []⟩ := fun hc => by
      refine .mk [] (i + 1) ?_ ⟨by omega, fun j hj => ?_⟩ (by omega)
      · rw [hw]
        simp [S.le, sealAll, leL, jks, st26]
      · by_cases e : j = i
        · subst e; exact hc
        · exact hI j (by omega)
    have bad : ¬ chOK i (byteAt s i) → q (mkB false) := fun hc => by
      have : nameB s = false := by
        unfold nameB
        rw [decide_eq_false (fun h => hc (h i hlt))]; rfl
      rw [this] at hq; exact hq
    refine ⟨hz, ?_⟩
    simp only [Int.toNat_natCast]
    clear hI
    have hi0 : ((i : Int) == 0) = decide (i = 0) := by rw [Bool.eq_iff_iff]; simp
    rw [hi0]
    unfold chOK byteAt at good bad
    repeat' (refine bcase_mk (fun h => ?_) (fun h => ?_))
    all_goals simp only [Bool.not_eq_true', Bool.not_eq_false', decide_eq_true_eq, decide_eq_false_iff_not, beq_iff_eq, beq_eq_false_iff_ne, bne_iff_ne, bne_eq_false_iff_eq, ne_eq, Decidable.not_not] at *
    all_goals first
      | exact good (by omega)
      | exact bad (by omega)
  · have hge : i = s.size := by omega
    have hall : ∀ j, j < s.size → chOK j (byteAt s j) := fun j hj => hI j (by omega)
    unfold nameB at hq
    rw [decide_eq_true hall, Bool.true_and] at hq
    refine fun _ => bcase_dec (fun h1 _ => ?_) (fun h1 => ?_)
    · have : ¬ s = ⟨#[]⟩ := fun e => by subst e; exact absurd h1 (by decide)
      rw [decide_eq_false this, Bool.not_false, Bool.true_and] at hq; exact hq
    · have : s = ⟨#[]⟩ := bytes_nil (by omega)
      rw [decide_eq_true this, Bool.not_true, Bool.false_and] at hq; exact hq

-- May, Sign, Right
theorem r35 (c : Int) (q : AV → Prop) :
  (aCode Tryd.K [] Tryd.b35 (kRet Tryd.K Tryd.f35.results.toList q) ⟨[mkI .i64 c] ++ List.replicate (Tryd.f35.ntmps - 1) .jk, []⟩) = (
  bcase (c == (9 : Int)) (
   q (mkB true)) (
   bcase (c == (10 : Int)) (
    q (mkB true)) (
    bcase (c == (13 : Int)) (
     q (mkB true)) (
     bcase (decide (c ≥ (32 : Int))) (
      bcase (c != (65534 : Int)) (
       q (mkB (c != (65535 : Int)))) (
       q (mkB false))) (
      q (mkB false)))))) := by kernel_rfl

def F35 : List AV → Option (Prop × AV) := fun al => match al with
  | [.d (.v (.int .i64 r))] => some (True, mkB (mayB r))
  | _ => none
theorem c35 : PSound Tryd.prog 35 (detE F35) := by
  refine det_fn (c := Tryd.b35) mixed Tryd.K_ok gsound_nil Tryd.func35 rfl rfl Tryd.call35 fun al p r q hF hp hq => ?_
  unfold F35 at hF; split at hF <;> cases hF
  rename_i c
  refine cast (r35 c q).symm ?_
  have e : ∀ b, (b = true ↔ mayB c = true) → q (mkB b) := fun b hb => by
    rw [Bool.eq_iff_iff.2 hb]; exact hq
  have m : mayB c = true ↔ (c = 9 ∨ c = 10 ∨ c = 13 ∨ (c ≥ 32 ∧ c ≠ 65534 ∧ c ≠ 65535)) := by
    unfold mayB
    repeat' split
    all_goals simp only [decide_eq_true_eq, Bool.false_eq_true, eq_self, true_iff, false_iff]
    all_goals omega
  clear hq
  rw [m] at e
  repeat' (refine bcase_mk (fun h => ?_) (fun h => ?_))
  all_goals refine e _ ?_
  all_goals simp only [Bool.not_eq_true', Bool.not_eq_false', decide_eq_true_eq, decide_eq_false_iff_not, beq_iff_eq, beq_eq_false_iff_ne, bne_iff_ne, bne_eq_false_iff_eq, ne_eq, Decidable.not_not, Bool.false_eq_true, eq_self, true_iff, false_iff] at *
  all_goals omega

end Go.Proofs.YtfdecpfcphghlaaDoor
