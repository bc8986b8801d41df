import Derived.Test.YthbejheedpdioaaDoorBindAddr
set_option linter.unusedSimpArgs false
set_option linter.unusedVariables false
set_option linter.unnecessarySimpa false
namespace Go.Proofs.YthbejheedpdioaaDoor
open Go Go.AM Go.RowKit
noncomputable def r17_k0 (q : AV → Prop) : Kont := kBlk (0 : Nat) (kSeq (aCode Tryd.K [] (cAt [1, 1] Tryd.b47) (kRet Tryd.K (Array.toList (Func.results Tryd.f47)) q)) (kRet Tryd.K (Array.toList (Func.results Tryd.f47)) q))
theorem r17 (s : ByteArray) (q : AV → Prop) :
  (aCode Tryd.K [] Tryd.b47 (kRet Tryd.K Tryd.f47.results.toList q) ⟨[mkS s] ++ List.replicate (Tryd.f47.ntmps - 1) .jk, []⟩) = (
  ALoop (aCode Tryd.K [] (cAt [1, 0, 1, 0, 0] Tryd.b47)) (r17_k0 q) ⟨[mkS s, AV.jk, mkB false, mkI .i64 0, AV.jk, AV.jk, AV.jk, AV.jk, AV.jk, AV.jk, AV.jk, AV.jk, AV.jk, AV.jk, AV.jk, AV.jk, AV.jk, AV.jk, AV.jk, AV.jk, AV.jk, AV.jk, AV.jk, AV.jk, AV.jk, AV.jk, AV.jk, AV.jk, AV.jk, AV.jk, AV.jk, AV.jk, AV.jk, AV.jk, AV.jk, AV.jk, AV.jk, AV.jk, AV.jk, AV.jk, AV.jk, AV.jk], []⟩) := by kernel_rfl
noncomputable def r18_k0 (q : AV → Prop) : Kont := kBlk (0 : Nat) (kSeq (aCode Tryd.K [((47 : FuncId), En.det F19)] (cAt [1, 1] Tryd.b32) (kRet Tryd.K (Array.toList (Func.results Tryd.f32)) q)) (kRet Tryd.K (Array.toList (Func.results Tryd.f32)) q))
theorem r18 (s : ByteArray) (q : AV → Prop) :
  (aCode Tryd.K [(47, .det F19)] Tryd.b32 (kRet Tryd.K Tryd.f32.results.toList q) ⟨[mkS s] ++ List.replicate (Tryd.f32.ntmps - 1) .jk, []⟩) = (
  ALoop (aCode Tryd.K [((47 : FuncId), En.det F19)] (cAt [1, 0, 1, 0, 0] Tryd.b32)) (r18_k0 q) ⟨[mkS s, AV.jk, mkS ⟨#[]⟩, mkS ⟨#[]⟩, mkB false, mkI .i64 0, AV.jk, AV.jk, AV.jk, AV.jk, AV.jk, AV.jk, AV.jk, AV.jk, AV.jk, AV.jk, AV.jk, AV.jk, AV.jk, AV.jk, AV.jk, AV.jk, AV.jk, AV.jk, AV.jk, AV.jk, AV.jk, AV.jk, AV.jk, AV.jk, AV.jk, AV.jk, AV.jk, AV.jk, AV.jk, AV.jk, AV.jk], []⟩) := by kernel_rfl
def st17 (s : ByteArray) (i : Int) : S := ⟨[mkS s, .jk, mkB false, mkI .i64 i] ++ jks 38, []⟩
theorem r17_b {ι : Type} (st : ι → S) (inv : ι → Prop) (μ : ι → Nat) (k : ι) (s : ByteArray) (i : Int) (q : AV → Prop) :
  (aCode Tryd.K [] (cAt [1, 0, 1, 0, 0] Tryd.b47) (kFamM [] (maskOf (st17 s i)) st inv μ k (r17_k0 q)) (st17 s i)) = (
  ((ByteArray.size s) ≤ LIM) →
  bcase (decide (i < ((ByteArray.size s) : Int))) (
   (((0 : Int) ≤ i) ∧ (i < ((ByteArray.size s) : Int))) ∧
   bcase (decide (((UInt8.toNat (List.getD (Array.toList (ByteArray.data s)) (Int.toNat i) (0 : UInt8))) : Int) ≥ (97 : Int))) (
    (((0 : Int) ≤ i) ∧ (i < ((ByteArray.size s) : Int))) ∧
    bcase (!(decide (((UInt8.toNat (List.getD (Array.toList (ByteArray.data s)) (Int.toNat i) (0 : UInt8))) : Int) ≤ (122 : Int)))) (
     (((0 : Int) ≤ i) ∧ (i < ((ByteArray.size s) : Int))) ∧
     bcase (decide (((UInt8.toNat (List.getD (Array.toList (ByteArray.data s)) (Int.toNat i) (0 : UInt8))) : Int) ≥ (48 : Int))) (
      (((0 : Int) ≤ i) ∧ (i < ((ByteArray.size s) : Int))) ∧
      bcase (!(decide (((UInt8.toNat (List.getD (Array.toList (ByteArray.data s)) (Int.toNat i) (0 : UInt8))) : Int) ≤ (57 : Int)))) (
       q (mkB false)) (
       FamNext st inv μ k ⟨[mkS s, AV.jk, mkB false, mkI .i64 (IntKind.wrap .i64 (i + (1 : Int))), AV.jk, AV.jk, AV.jk, AV.jk, AV.jk, AV.jk, AV.jk, AV.jk, AV.jk, AV.jk, AV.jk, AV.jk, AV.jk, AV.jk, AV.jk, AV.jk, AV.jk, AV.jk, AV.jk, AV.jk, AV.jk, AV.jk, AV.jk, AV.jk, AV.jk, AV.jk, AV.jk, AV.jk, AV.jk, AV.jk, AV.jk, AV.jk, AV.jk, AV.jk, AV.jk, AV.jk, AV.jk, AV.jk], []⟩)) (
      q (mkB false))) (
     FamNext st inv μ k ⟨[mkS s, AV.jk, mkB false, mkI .i64 (IntKind.wrap .i64 (i + (1 : Int))), AV.jk, AV.jk, AV.jk, AV.jk, AV.jk, AV.jk, AV.jk, AV.jk, AV.jk, AV.jk, AV.jk, AV.jk, AV.jk, AV.jk, AV.jk, AV.jk, AV.jk, AV.jk, AV.jk, AV.jk, AV.jk, AV.jk, AV.jk, AV.jk, AV.jk, AV.jk, AV.jk, AV.jk, AV.jk, AV.jk, AV.jk, AV.jk, AV.jk, AV.jk, AV.jk, AV.jk, AV.jk, AV.jk], []⟩)) (
    (((0 : Int) ≤ i) ∧ (i < ((ByteArray.size s) : Int))) ∧
    bcase (decide (((UInt8.toNat (List.getD (Array.toList (ByteArray.data s)) (Int.toNat i) (0 : UInt8))) : Int) ≥ (48 : Int))) (
     (((0 : Int) ≤ i) ∧ (i < ((ByteArray.size s) : Int))) ∧
     bcase (!(decide (((UInt8.toNat (List.getD (Array.toList (ByteArray.data s)) (Int.toNat i) (0 : UInt8))) : Int) ≤ (57 : Int)))) (
      q (mkB false)) (
      FamNext st inv μ k ⟨[mkS s, AV.jk, mkB false, mkI .i64 (IntKind.wrap .i64 (i + (1 : Int))), AV.jk, AV.jk, AV.jk, AV.jk, AV.jk, AV.jk, AV.jk, AV.jk, AV.jk, AV.jk, AV.jk, AV.jk, AV.jk, AV.jk, AV.jk, AV.jk, AV.jk, AV.jk, AV.jk, AV.jk, AV.jk, AV.jk, AV.jk, AV.jk, AV.jk, AV.jk, AV.jk, AV.jk, AV.jk, AV.jk, AV.jk, AV.jk, AV.jk, AV.jk, AV.jk, AV.jk, AV.jk, AV.jk], []⟩)) (
     q (mkB false)))) (
   ((ByteArray.size s) ≤ LIM) →
   bcase (decide (((ByteArray.size s) : Int) ≥ (1 : Int))) (
    ((ByteArray.size s) ≤ LIM) →
    q (mkB (decide (((ByteArray.size s) : Int) ≤ (16 : Int))))) (
    q (mkB false)))) := by kernel_rfl
def st18 (s : ByteArray) (i : Int) : S := ⟨[mkS s, .jk, mkS ⟨#[]⟩, mkS ⟨#[]⟩, mkB false, mkI .i64 i] ++ jks 31, []⟩
theorem r18_b {ι : Type} (st : ι → S) (inv : ι → Prop) (μ : ι → Nat) (k : ι) (s : ByteArray) (i : Int) (q : AV → Prop) :
  (aCode Tryd.K [(47, .det F19)] (cAt [1, 0, 1, 0, 0] Tryd.b32) (kFamM [] (maskOf (st18 s i)) st inv μ k (r18_k0 q)) (st18 s i)) = (
  ((ByteArray.size s) ≤ LIM) →
  bcase (decide (i < ((ByteArray.size s) : Int))) (
   (((0 : Int) ≤ i) ∧ (i < ((ByteArray.size s) : Int))) ∧
   bcase (((UInt8.toNat (List.getD (Array.toList (ByteArray.data s)) (Int.toNat i) (0 : UInt8))) : Int) == (47 : Int)) (
    (((0 : Int) ≤ i) ∧ (i ≤ ((ByteArray.size s) : Int))) ∧
    (((0 : Int) ≤ (IntKind.wrap .i64 (i + (1 : Int)))) ∧ ((IntKind.wrap .i64 (i + (1 : Int))) ≤ ((ByteArray.size s) : Int))) ∧
    (((0 : Int) ≤ i) ∧ (i ≤ ((ByteArray.size s) : Int))) ∧
    True ∧
    True ∧
    bcase (userB (ByteArray.extract s (0 : Nat) (Int.toNat i))) (
     (((0 : Int) ≤ (IntKind.wrap .i64 (i + (1 : Int)))) ∧ ((IntKind.wrap .i64 (i + (1 : Int))) ≤ ((ByteArray.size s) : Int))) ∧
     True ∧
     True ∧
     q (AV.tp [mkS (ByteArray.extract s (0 : Nat) (Int.toNat i)), mkS (ByteArray.extract s (Int.toNat (IntKind.wrap .i64 (i + (1 : Int)))) (ByteArray.size s)), mkB (userB (ByteArray.extract s (Int.toNat (IntKind.wrap .i64 (i + (1 : Int)))) (ByteArray.size s)))])) (
     q (AV.tp [mkS (ByteArray.extract s (0 : Nat) (Int.toNat i)), mkS (ByteArray.extract s (Int.toNat (IntKind.wrap .i64 (i + (1 : Int)))) (ByteArray.size s)), mkB false]))) (
    FamNext st inv μ k ⟨[mkS s, AV.jk, mkS ⟨#[]⟩, mkS ⟨#[]⟩, mkB false, mkI .i64 (IntKind.wrap .i64 (i + (1 : Int))), AV.jk, AV.jk, AV.jk, AV.jk, AV.jk, AV.jk, AV.jk, AV.jk, AV.jk, AV.jk, AV.jk, AV.jk, AV.jk, AV.jk, AV.jk, AV.jk, AV.jk, AV.jk, AV.jk, AV.jk, AV.jk, AV.jk, AV.jk, AV.jk, AV.jk, AV.jk, AV.jk, AV.jk, AV.jk, AV.jk, AV.jk], []⟩)) (
   True ∧
   q (AV.tp [mkS s, mkS ⟨#[]⟩, mkB (userB s)]))) := by kernel_rfl
set_option maxRecDepth 4000 in
theorem letter_all : ∀ n : Fin 256, (UInt8.ofNat n.val ∈ letters.data.toList ↔ (97 ≤ n.val ∧ n.val ≤ 122) ∨ (48 ≤ n.val ∧ n.val ≤ 57)) := by decide +kernel
theorem letter_iff (b : UInt8) : b ∈ letters.data.toList ↔ (97 ≤ b.toNat ∧ b.toNat ≤ 122) ∨ (48 ≤ b.toNat ∧ b.toNat ≤ 57) := by
  have h := letter_all ⟨b.toNat, b.toNat_lt⟩
  have e : UInt8.ofNat b.toNat = b := by simp
  simp only [e] at h
  exact h
theorem getD_all (s : ByteArray) (p : UInt8 → Prop) : (∀ k, k < s.size → p (s.data.toList.getD k 0)) ↔ ∀ b ∈ s.data.toList, p b := by
  have el : s.data.toList.length = s.size := Array.length_toList
  constructor
  · intro h b hb
    obtain ⟨k, hk, e⟩ := List.mem_iff_getElem.1 hb
    have := h k (by omega)
    rw [List.getD_eq_getElem?_getD, List.getElem?_eq_getElem hk] at this
    rw [← e]; exact this
  · intro h k hk
    rw [List.getD_eq_getElem?_getD, List.getElem?_eq_getElem (by omega)]
    exact h _ (List.getElem_mem _)
theorem c17 : PSound Tryd.prog 47 (detE F19) := by
  refine det_fn (c := Tryd.b47) mixed Tryd.K_ok gsound_nil Tryd.func47 rfl rfl Tryd.call47 fun al p r q hF hp hq => ?_
  unfold F19 at hF; split at hF <;> cases hF
  rename_i s
  refine cast (r17 _ q).symm ?_
  refine ALoop.introM [] (maskOf (st17 s 0)) (fun n : Nat => st17 s n) (fun n => n ≤ s.size ∧ ∀ k, k < n → s.data.toList.getD k 0 ∈ letters.data.toList) (fun n => s.size - n) ⟨[], 0, by simp [S.le, sealAll, leL, jks, st17], by simp⟩ fun n hn => ?_
  obtain ⟨hn, hall⟩ := hn
  refine cast (r17_b _ _ _ _ _ _ _).symm ?_
  intro hlim
  refine bcase_mk (fun h => ?_) (fun h => ?_)
  · have hlt : n < s.size := by simpa using h
    rw [wrap_succ hlt hlim]
    have hb : 0 ≤ (n : Int) ∧ (n : Int) < (s.size : Int) := ⟨by omega, by omega⟩
    have no : s.data.toList.getD n 0 ∉ letters.data.toList → q (mkB false) := by
      intro hno
      have : userB s = false := by
        cases hu : userB s
        · rfl
        · simp only [userB, Bool.and_eq_true, decide_eq_true_eq, List.all_eq_true] at hu
          exact absurd ((getD_all s _).2 hu.2 n hlt) hno
      rw [this] at hq; exact hq
    have step : s.data.toList.getD n 0 ∈ letters.data.toList → n + 1 ≤ s.size ∧ ∀ k, k < n + 1 → s.data.toList.getD k 0 ∈ letters.data.toList := by
      intro hy
      refine ⟨hlt, fun k hk => ?_⟩
      by_cases e : k = n
      · subst e; exact hy
      · exact hall k (by omega)
    have hit := letter_iff (s.data.toList.getD n 0)
    have hm : s.size - (n + 1) < s.size - n := by omega
    refine ⟨hb, bcase_mk (fun h1 => ⟨hb, bcase_mk (fun h2 => ⟨hb, bcase_mk (fun h3 => ⟨hb, bcase_mk (fun h4 => ?_) (fun h4 => ?_)⟩) (fun h3 => ?_)⟩) (fun h2 => ?_)⟩) (fun h1 => ⟨hb, bcase_mk (fun h3 => ⟨hb, bcase_mk (fun h4 => ?_) (fun h4 => ?_)⟩) (fun h3 => ?_)⟩)⟩
    all_goals simp only [Int.toNat_natCast, ge_iff_le, Bool.not_eq_true', Bool.not_eq_false', decide_eq_true_eq, decide_eq_false_iff_not] at *
    all_goals first
      | exact no (fun hy => by have := hit.1 hy; omega)
      | exact .mk [] (n + 1) (by simp [S.le, sealAll, leL, jks, st17]) (step (hit.2 (by omega))) hm
  · have hge : ¬ n < s.size := by simpa using h
    have hn : n = s.size := by omega
    subst hn
    have hin := (getD_all s _).1 hall
    refine fun _ => bcase_mk (fun h1 _ => ?_) (fun h1 => ?_)
    · have h1 : 1 ≤ s.size := by have := of_decide_eq_true h1; omega
      have : userB s = decide ((s.size : Int) ≤ 16) := by
        have hin' : (s.data.toList.all fun b => decide (b ∈ letters.data.toList)) = true := by rw [List.all_eq_true]; exact fun b hb => decide_eq_true (hin b hb)
        rw [userB, hin', decide_eq_true h1, Bool.true_and, Bool.and_true, Bool.eq_iff_iff, decide_eq_true_eq, decide_eq_true_eq]
        omega
      rw [this] at hq; exact hq
    · have h1 : ¬ 1 ≤ s.size := by have := of_decide_eq_false h1; omega
      have : userB s = false := by rw [userB, decide_eq_false h1]; rfl
      rw [this] at hq; exact hq
theorem indexByte_at : ∀ (l : List UInt8) (c : UInt8) (n : Nat), l[n]? = some c → (∀ k, k < n → l[k]? ≠ some c) → Lib.indexByte l c = n
  | [], c, n, h, _ => by simp at h
  | b :: l, c, 0, h, _ => by
    have : b = c := by simpa using h
    simp [Lib.indexByte, this]
  | b :: l, c, n + 1, h, hk => by
    have hb : ¬ b = c := by have := hk 0 (by omega); simpa using this
    have := indexByte_at l c n (by simpa using h) (fun k hkn => by have := hk (k + 1) (by omega); simpa using this)
    unfold Lib.indexByte
    rw [if_neg (by simpa using hb), this]
    split
    · rename_i hh; have : (n : Int) = -1 := by simpa using hh
      omega
    · omega
theorem indexByte_not : ∀ (l : List UInt8) (c : UInt8), (∀ k : Nat, l[k]? ≠ some c) → Lib.indexByte l c = -1
  | [], c, _ => rfl
  | b :: l, c, hk => by
    have hb : ¬ b = c := by have := hk 0; simpa using this
    have := indexByte_not l c (fun k => by have := hk (k + 1); simpa using this)
    unfold Lib.indexByte
    rw [if_neg (by simpa using hb), this]; rfl
theorem c18 : PSound Tryd.prog 32 (detE F25) := by
  refine det_fn (c := Tryd.b32) mixed Tryd.K_ok (gsound_det c17 gsound_nil) Tryd.func32 rfl rfl Tryd.call32 fun al p r q hF hp hq => ?_
  unfold F25 at hF; split at hF <;> cases hF
  rename_i s
  refine cast (r18 _ q).symm ?_
  refine ALoop.introM [] (maskOf (st18 s 0)) (fun n : Nat => st18 s n) (fun n => n ≤ s.size ∧ ∀ k, k < n → s.data.toList[k]? ≠ some 47) (fun n => s.size - n) ⟨[], 0, by simp [S.le, sealAll, leL, jks, st18], by simp⟩ fun n hn => ?_
  obtain ⟨hn, hall⟩ := hn
  have el : s.data.toList.length = s.size := Array.length_toList
  refine cast (r18_b _ _ _ _ _ _ _).symm ?_
  intro hlim
  refine bcase_mk (fun h => ?_) (fun h => ?_)
  · have hlt : n < s.size := by simpa using h
    rw [wrap_succ hlt hlim]
    simp only [Int.toNat_natCast]
    have hb : 0 ≤ (n : Int) ∧ (n : Int) < (s.size : Int) := ⟨by omega, by omega⟩
    have hg : s.data.toList[n]? = some (s.data.toList.getD n 0) := by rw [List.getD_eq_getElem?_getD, List.getElem?_eq_getElem (by omega)]; rfl
    have hg2 : ∀ b, b = s.data.toList.getD n 0 → s.data.toList[n]? = some b := fun b hb => hb ▸ hg
    refine ⟨hb, bcase_mk (fun h1 => ?_) (fun h1 => ?_)⟩
    · have h1 : s.data.toList.getD n 0 = 47 := by
        have h1 : ((s.data.toList.getD n 0).toNat : Int) = 47 := eq_of_beq h1
        have : (s.data.toList.getD n 0).toNat = 47 := by omega
        exact UInt8.toNat_inj.1 this
      have e : cutI s = n := indexByte_at _ _ _ (h1 ▸ hg) hall
      have e1 : cutU s = s.extract 0 n := by rw [cutU, e, if_pos (by omega)]; rfl
      have e2 : cutD s = s.extract (n + 1) s.size := by rw [cutD, e, if_pos (by omega)]; rfl
      have e3 : cutB s = true := by rw [cutB, e]; exact decide_eq_true (by omega)
      have e4 : addrB s = (userB (s.extract 0 n) && userB (s.extract (n + 1) s.size)) := by rw [addrB, e1, e2, e3]; simp
      rw [e1, e2, e4] at hq
      refine ⟨⟨by omega, by omega⟩, ⟨by omega, by omega⟩, ⟨by omega, by omega⟩, trivial, trivial, bcase_mk (fun h2 => ⟨⟨by omega, by omega⟩, trivial, trivial, ?_⟩) (fun h2 => ?_)⟩
      · rw [h2, Bool.true_and] at hq; exact hq
      · rw [h2, Bool.false_and] at hq; exact hq
    · have h1 : ¬ s.data.toList.getD n 0 = 47 := by
        intro e
        have h1 : (((s.data.toList.getD n 0).toNat : Int) == 47) = false := h1
        rw [e] at h1; cases h1
      exact .mk [] (n + 1) (by simp [S.le, sealAll, leL, jks, st18]) ⟨hlt, fun k hk => by
        by_cases e : k = n
        · subst e; rw [hg]; exact fun e => h1 (Option.some.inj e)
        · exact hall k (by omega)⟩ (show s.size - (n + 1) < s.size - n by omega)
  · have hge : ¬ n < s.size := by simpa using h
    have e : cutI s = -1 := indexByte_not _ _ fun k => by
      by_cases hk : k < n
      · exact hall k hk
      · rw [List.getElem?_eq_none (by omega)]; simp
    have e1 : cutU s = s := by rw [cutU, e]; rfl
    have e2 : cutD s = ⟨#[]⟩ := by rw [cutD, e]; rfl
    have e3 : cutB s = false := by rw [cutB, e]; rfl
    have e4 : addrB s = userB s := by rw [addrB, e1, e2, e3]; simp
    rw [e1, e2, e4] at hq
    exact ⟨trivial, hq⟩
theorem user_noslash {u : ByteArray} (h : userB u = true) (k : Nat) : u.data.toList[k]? ≠ some 47 := by
  intro e
  simp only [userB, Bool.and_eq_true, List.all_eq_true, decide_eq_true_eq] at h
  have := h.2 47 (List.mem_of_getElem? e)
  exact absurd this (by decide)
theorem join_list (u d : ByteArray) : (u ++ slash ++ d).data.toList = u.data.toList ++ 47 :: d.data.toList := by
  rw [ByteArray.data_append, ByteArray.data_append]
  simp [slash]
theorem cut_join {u : ByteArray} (d : ByteArray) (h : userB u = true) : cutI (u ++ slash ++ d) = (u.size : Nat) := by
  have el : u.data.toList.length = u.size := Array.length_toList
  refine indexByte_at _ _ _ ?_ fun k hk => ?_
  · rw [join_list, ← el]; simp
  · rw [join_list, List.getElem?_append_left (by omega)]; exact user_noslash h k
theorem bytes_ext {a b : ByteArray} (h : a.data.toList = b.data.toList) : a = b := by
  cases a; cases b
  congr 1
  exact Array.toList_inj.1 h
theorem join_left (u d : ByteArray) : (u ++ slash ++ d).extract 0 u.size = u := by
  apply bytes_ext
  have el : u.data.toList.length = u.size := Array.length_toList
  rw [ByteArray.data_extract, Array.toList_extract, join_list, List.extract_eq_take_drop, List.drop_zero, ← el]
  simp
theorem join_right (u d : ByteArray) : (u ++ slash ++ d).extract (u.size + 1) (u ++ slash ++ d).size = d := by
  apply bytes_ext
  have el : u.data.toList.length = u.size := Array.length_toList
  have e2 : (u ++ slash ++ d).data.toList.length = (u ++ slash ++ d).size := Array.length_toList
  rw [ByteArray.data_extract, Array.toList_extract, List.extract_eq_take_drop, ← e2, join_list, ← el]
  rw [show (u.data.toList ++ 47 :: d.data.toList) = (u.data.toList ++ [47]) ++ d.data.toList by simp, show u.data.toList.length + 1 = (u.data.toList ++ [47]).length by simp, List.drop_left]
  rw [List.take_of_length_le]
  simp
  omega
theorem addr_join {u d : ByteArray} (hu : userB u = true) (hd : userB d = true) : cutU (u ++ slash ++ d) = u ∧ cutD (u ++ slash ++ d) = d ∧ addrB (u ++ slash ++ d) = true := by
  have e := cut_join d hu
  have e1 : cutU (u ++ slash ++ d) = u := by rw [cutU, e, if_pos (by omega)]; exact join_left u d
  have e2 : cutD (u ++ slash ++ d) = d := by rw [cutD, e, if_pos (by omega)]; exact join_right u d
  have e3 : cutB (u ++ slash ++ d) = true := by rw [cutB, e]; exact decide_eq_true (by omega)
  exact ⟨e1, e2, by simp [addrB, e1, e2, e3, hu, hd]⟩
end Go.Proofs.YthbejheedpdioaaDoor
